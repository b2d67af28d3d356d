/- Texts of this claim, joined and written short by a program. -/
import Derived.Test.YtemakagmboeodaaGreatDoorP22
import Derived.Test.YtemakagmboeodaaGreatDoorP00
set_option linter.unusedVariables false
set_option linter.unusedSimpArgs false
set_option linter.unusedSectionVars false
namespace Go.Abs.fM
open Go Go.Abs
section
variable{U:fW}{b:Nat}{F:bV}{fs:List V}{s s1 s2 b6:a1 U}{σ cz:bt}{H H1:Heap}{G az:Nat->List (Nat × bd)}{ρ eK:List V}{ab:Nat->Option bQ}{cx:kc U}{W W':List Nat}{M M':List (Nat × Nat)}
mutual
theorem Hz{B:List Bool}:∀{v w:aD U.ar} {u:V},same v w=true->bp U B ρ fs v u->bp U B ρ fs w u
 |v,w,u,h,ad=>by
  unfold same at h;split at h
  ·split at h<;>first|exact ad|cases h
  ·split at h
   ·rename_i e;rw[dm e]at ad;exact ad
   ·rename_i e;rw[dm e]at ad;exact ad
   ·cases h
  ·split at h
   ·rename_i e
    have e:=of_decide_eq_true e;have ai:=of_decide_eq_true h;subst e;subst ai;exact ad
   ·cases h
  ·rw[rS _ _ h]at ad;exact ad
  ·split at h
   ·rename_i e;rw[dm e,dm h]at ad;exact ad
   ·cases h
  ·rw[dm h]at ad;exact ad
  ·split at h
   ·rename_i e
    cases ad with
    |fn ad=>rw[dm e];exact .fn (HA h ad)
   ·cases h
  ·cases ad with
   |agg ad=>exact .agg (HA h ad)
  ·rw[of_decide_eq_true h]at ad;exact ad
  ·cases h
theorem HA{B:List Bool}:∀{vs ws:List (aD U.ar)} {us:List V},ux vs ws=true->bT U B ρ fs vs us->bT U B ρ fs ws us
 |[],[],_,_,h=>h
 |[],_::_,_,h,_=>by simp[ux]at h
 | _::_,[],_,h,_=>by simp[ux]at h
 |v::vs,w::ws,_,h,.cons ad r=>by
  simp only[ux]at h;split at h
  ·rename_i e;exact .cons (Hz e ad) (HA h r)
  ·cases h
end
theorem zi{α:Type}{l eB:List α}(h:l <+: eB){i:Nat}{a:α}(hi:eB[i]? =some a)(hl:i<l.length):l[i]? =some a:=by
 obtain⟨t,rfl⟩:=h;rwa [ft hl]at hi
theorem zj{i n:Nat}(h:Nat.blt i n=true):i<n:=mj h
mutual
theorem Cn{B sq:List Bool}(cw:B <+: sq)(aE:ρ <+: eK):∀{v:aD U.ar} {w:V},wf B.length ρ.length v=true->bp U sq eK fs v w->bp U B ρ fs v w
 | _,_,_,.int=>.int
 | _,_,_,.eS=>.eS
 | _,_,h,.bo q=>.bo (zi cw q (zj (by simpa only[wf]using h)))
 | _,_,_,.str=>.str
 | _,_,_,.sl=>.sl
 | _,_,_,.k=>.k
 | _,_,h,.agg q=>.agg (zk cw aE (by simpa only[wf]using h) q)
 | _,_,h,.aR q=>.aR (zk cw aE (by simpa only[wf]using h) q)
 | _,_,h,.dp q=>.dp (zk cw aE (by simpa only[wf]using h) q)
 | _,_,h,.ptr q=>.ptr (zi aE q (zj (by simpa only[wf]using h)))
 | _,_,h,.row q=>.row (zi aE q (zj (by simpa only[wf]using h)))
 | _,_,h,.gC q=>.gC (zi aE q (zj (by simpa only[wf]using h)))
 | _,_,h,.iG q r=>.iG (zi aE q (zj (by simpa only[wf]using h))) r
 | _,_,h,.fn q=>.fn (zk cw aE (by simpa only[wf]using h) q)
 | _,_,_,.fv q=>.fv q
 | _,_,_,.iH=>.iH
theorem zk{B sq:List Bool}(cw:B <+: sq)(aE:ρ <+: eK):∀{vs:List (aD U.ar)} {ws:List V},uy B.length ρ.length vs=true->bT U sq eK fs vs ws->bT U B ρ fs vs ws
 | _,_,_,.nil=>.nil
 | _,_,h,.cons q r=>by
   simp only[uy]at h;split at h
   ·rename_i e;exact .cons (Cn cw aE e q) (zk cw aE h r)
   ·cases h
end
structure fY (W:List Nat) (M:List (Nat × Nat)) (s s1:a1 U):Prop where
 vs:∀t,t∉W->aX s1.vs t=aX s.vs t
 aB:s.aB <+: s1.aB
 aA:s.aA<=s1.aA
 mem:∀o w cs,aX s.mem o=some (.cells w cs)->∃ey,aX s1.mem o=some (.cells w ey)/\ey.length=cs.length/\∀j:Nat,(o,j)∉M->ey[j]? =cs[j]?
 row:∀o aJ,oR aJ=false->aX s.mem o=some aJ->aX s1.mem o=some aJ\/(o,0)∈M
theorem fY.rfl:fY W M s s:=⟨fun _ _=>Eq.refl _,db,aI _,fun o w cs h=>⟨cs,h,Eq.refl _,fun _ _=>Eq.refl _⟩,fun _ _ _ h=>.inl h⟩
theorem fY.trans (h:fY W M s s1)(k:fY W M s1 s2):fY W M s s2 where
 vs:=fun t ht=>(k.vs t ht).trans (h.vs t ht)
 aB:=h.aB.trans k.aB
 aA:=cA h.aA k.aA
 mem:=fun o w cs hm=>by
  obtain⟨lL,h1,h2,aq⟩:=h.mem o w cs hm;obtain⟨zf,bM,dC,iv⟩:=k.mem o w lL h1;exact⟨zf,bM,dC.trans h2,fun j hj=>(iv j hj).trans (aq j hj)⟩
 row:=fun o aJ hc hm=>(h.row o aJ hc hm).elim (k.row o aJ hc) .inr
theorem fY.wide (h:fY W M s s1)(hW:∀t∈W,t∈W')(ia:∀p∈M,p∈M'):fY W' M' s s1 where
 vs:=fun t ht=>h.vs t fun q=>ht (hW t q)
 aB:=h.aB
 aA:=h.aA
 mem:=fun o w cs hm=>by
  obtain⟨lL,h1,h2,aq⟩:=h.mem o w cs hm;exact⟨lL,h1,h2,fun j hj=>aq j fun q=>hj (ia _ q)⟩
 row:=fun o aJ hc hm=>(h.row o aJ hc hm).imp id (ia _)
theorem Fr.fi (h:Fr s s1)(lt:∀e∈s.mem,e.1<s.aA)(hW:∀t∈s1.c3,t∈W)(ia:∀o j,(o,j)∈s1.bU->o<s.aA->(o,j)∈M):fY W M s s1 where
 vs:=fun t ht=>h.vs t fun q=>ht (hW t q)
 aB:=h.aB
 aA:=h.aA
 mem:=fun o w cs hm=>by
  obtain⟨lL,h1,h2,aq⟩:=h.mem o w cs hm;exact⟨lL,h1,h2,fun j hj=>aq j fun q=>hj (ia _ _ q (lt _ (gD hm)))⟩
 row:=fun o aJ hc hm=>(h.row o aJ hc hm).imp id fun q=>ia _ _ q (lt _ (gD hm))
theorem zl{α:Type}{l:List (Nat × α)}{o:Nat}{c:α}(h:aX l o=some c):o∈l.map Prod.fst:=dn.2 ⟨_,gD h,rfl⟩
theorem HB:∀{l:List Nat},y3 W l=true->∀t∈l,t∈W
 |[],_,_,h=>by cases h
 |a::l,h,t,ht=>by
  simp only[y3]at h;split at h
  ·rename_i e
   rcases cY.1 ht with rfl|ht
   ·exact(mem_iff _ _).1 e
   ·exact HB h t ht
  ·cases h
theorem uR{o j:Nat}:∀{l:List (Nat × Nat)},mN o j l=true↔(o,j)∈l
 |[]=>by simp[mN]
 |(a,c)::r=>by
  have ih:=uR (o:=o) (j:=j) (l:=r);have ne:∀{x y:Nat},Nat.beq x y=false->¬y=x:=fun h e=>by rw[e,sO]at h;cases h
  unfold mN;rw[cY,a6];cases h1:Nat.beq a o<;>cases h2:Nat.beq c j
  ·simp[ne h1,ih]
  ·simp[ne h1,ih]
  ·simp[ne h2,ih]
  ·simp[dm h1,dm h2]
theorem HC{n:Nat}:∀{l:List (Nat × Nat)},y4 n M l=true->∀o j,(o,j)∈l->o<n->(o,j)∈M
 |[],_,_,_,h,_=>by cases h
 |(a,c)::l,h,o,j,hm,hn=>by
  simp only[y4]at h;split at h
  ·rename_i e
   rcases cY.1 hm with q|hm
   ·cases q
    have:=mj e;omega
   ·exact HC h o j hm hn
  ·split at h
   ·rename_i e
    rcases cY.1 hm with q|hm
    ·cases q;exact uR.1 e
    ·exact HC h o j hm hn
   ·cases h
theorem _root_.Go.Abs.Own.pick{H:Heap}{ids l:List Nat}{G:Nat->List (Nat × bd)}{F:bV}(h:Own H (ids.map G++F))(hn:l.Nodup)(hs:∀o∈l,o∈ids):Own H (l.map G++F):=by
 have at_:∀{o:Nat},o∈ids->∃k:Nat,k<ids.length/\ids[k]? =some o/\(ids.map G++F)[k]? =some (G o):=fun {o} ho=>by
  obtain⟨k,hk⟩:=oY.1 ho;have aY:=(fu.1 hk).1;exact⟨k,aY,hk,by rw[ft (by simpa using aY),iM,hk];rfl⟩
 refine⟨fun m hm p hp=> ?_,?_⟩
 ·rcases hN.1 hm with hm|hm
  ·obtain⟨o,ho,rfl⟩:=dn.1 hm
   exact h.1 _ (sG _ (mm (hs o ho))) p hp
  ·exact h.1 _ (lO _ hm) p hp
 ·rw[hM,IL]
  refine⟨?_,?_,?_⟩
  ·rw[jm,C7]
   refine List.Pairwise.imp_of_mem ?_ hn;intro i j hi hj b9 a ha ff;obtain⟨ael,_,q1,q2⟩:=at_ (hs i hi);obtain⟨Sv,_,dk,fC⟩:=at_ (hs j hj);obtain⟨p,hp,rfl⟩:=dn.1 ha;obtain⟨q,a8,e⟩:=dn.1 ff;exact h.BD q2 fC (fun e=>b9 (by rw[e,dk]at q1;cases q1;rfl)) hp a8 e.symm
  ·have:=h.2
   rw[hM,IL]at this;exact this.2.1
  ·intro x hx y hy a ha ff
   obtain⟨m,hm,rfl⟩:=dn.1 hx;obtain⟨o,ho,rfl⟩:=dn.1 hm;obtain⟨m',gI,rfl⟩:=dn.1 hy;obtain⟨ael,aY,_,q2⟩:=at_ (hs o ho);obtain⟨Sv,hj⟩:=oY.1 gI;have fC:(ids.map G++F)[ids.length+Sv]? =some m':=by rw[sD (by simp)];simpa using hj
   obtain⟨p,hp,rfl⟩:=dn.1 ha;obtain⟨q,a8,e⟩:=dn.1 ff;exact h.BD q2 fC (by omega) hp a8 e.symm
theorem _root_.Go.Abs.Own.aem{H:Heap}{ids:List Nat}{l:List (Option Nat)}{G:Nat->List (Nat × bd)}{F:bV}(h:Own H (ids.map G++F))(hn:(l.filterMap id).Nodup)(hs:∀o∈l.filterMap id,o∈ids):Own H ((l.map fun x=>x.elim [] G)++F):=by
 have nl:∀{pre X:bV},Own H (pre++X)->Own H (pre++[]::X):=fun {pre X} h=>by
  refine⟨fun m hm p hp=> ?_,?_⟩
  ·rcases hN.1 hm with q|q
   ·exact h.1 m (sG _ q) p hp
   ·rcases cY.1 q with rfl|q
    ·cases hp
    ·exact h.1 m (lO _ q) p hp
  ·have:=h.2
   rw[hM,IL]at this;rw[hM,IL,cW,o0];refine⟨this.1,⟨fun _ _ a ha=>by simp at ha,this.2.1⟩,fun x hx y hy a ha=> ?_⟩;rcases cY.1 hy with rfl|hy
   ·simp
   ·exact this.2.2 x hx y hy a ha
 have key:∀(l:List (Option Nat)) (pre:bV),Own H (pre++((l.filterMap id).map G++F))->Own H (pre++((l.map fun x=>x.elim [] G)++F)):=by
  intro l
  induction l with
  |nil=>exact fun _ h=>h
  |cons x l ih=>
   intro pre h;cases x with
   |none=>exact nl (ih pre h)
   |some o=>
    have:=ih (pre++[G o]) (by simpa using h);simpa using this
 exact key l [] (h.pick hn hs)
theorem uS:∀l:List (Nat × bC U),((mP M l).map Prod.fst).Sublist (l.map Prod.fst)
 |[]=>C8 _
 |(o,c)::r=>by
  simp only[mP];split
  ·exact(uS r).cons_cons _
  ·split
   ·exact(uS r).cons _
   ·exact(uS r).cons_cons _
theorem Co{o:Nat}{w:Bool}{cs:List (aD U.ar)}:∀{l:List (Nat × bC U)},aX l o=some (.cells w cs)->aX (mP M l) o=some (.cells w (nT o M 0 cs))
 |(a,c)::r,h=>by
  rw[eG]at h;simp only[mP];split at h
  ·rename_i e
   cases h;subst e;simp only[eG,if_pos]
  ·rename_i e
   split
   ·rw[eG,if_neg e];exact Co h
   ·split
    ·exact Co h
    ·rw[eG,if_neg e];exact Co h
theorem Cp{o:Nat}{aJ:bC U}(hc:oR aJ=false)(ia:(o,0)∉M):∀{l:List (Nat × bC U)},aX l o=some aJ->aX (mP M l) o=some aJ
 |(a,c)::r,h=>by
  rw[eG]at h;simp only[mP];split at h
  ·rename_i e
   cases h;subst e
   have:mN a 0 M=false:=by
    cases e:mN a 0 M with
    |false=>rfl
    |true=>exact absurd (uR.1 e) ia
   cases aJ with
   |cells=>cases hc
   | _=>simp only[this,eG,if_pos]
  ·rename_i e
   split
   ·rw[eG,if_neg e];exact Cp hc ia h
   ·split
    ·exact Cp hc ia h
    ·rw[eG,if_neg e];exact Cp hc ia h
theorem uT{o:Nat}{c':bC U}:∀{l:List (Nat × bC U)},(o,c')∈mP M l->(∃w cs,(o,.cells w cs)∈l/\c'=.cells w (nT o M 0 cs))\/((o,c')∈l/\oR c'=false/\(o,0)∉M)
 |(a,c)::r,h=>by
  have up:((∃w cs,(o,.cells w cs)∈r/\c'=.cells w (nT o M 0 cs))\/((o,c')∈r/\oR c'=false/\(o,0)∉M))->(∃w cs,(o,.cells w cs)∈(a,c)::r/\c'=.cells w (nT o M 0 cs))\/((o,c')∈(a,c)::r/\oR c'=false/\(o,0)∉M):=
   Or.imp (fun⟨w,cs,h1,h2⟩=>⟨w,cs,ie _ h1,h2⟩) fun⟨h1,h2⟩=>⟨ie _ h1,h2⟩
  simp only[mP]at h;split at h
  ·rcases cY.1 h with e|h
   ·cases e;exact .inl ⟨_,_,k7 ..,rfl⟩
   ·exact up (uT h)
  ·rename_i hc
   split at h
   ·exact up (uT h)
   ·rename_i ai
    rcases cY.1 h with e|h
    ·cases e
     refine .inr ⟨k7 ..,?_,fun q=>by rw[uR.2 q]at ai;cases ai⟩;cases c' with
     |cells w cs=>exact absurd rfl (hc w cs)
     | _=>rfl
    ·exact up (uT h)
theorem Sw{o:Nat}:∀(cs:List (aD U.ar)) (i:Nat),(nT o M i cs).length=cs.length
 |[],_=>rfl
 |c::r,i=>by simp[nT,Sw r]
theorem Sx{o:Nat}:∀(cs:List (aD U.ar)) (i j:Nat),(o,i+j)∉M->(nT o M i cs)[j]? =cs[j]?
 |[],_,_,_=>rfl
 |c::r,i,0,h=>by
  have:mN o i M=false:=by
   cases e:mN o i M with
   |false=>rfl
   |true=>exact absurd (uR.1 e) h
  simp[nT,this]
 |c::r,i,j+1,h=>by
  simp only[nT,sF];exact Sx r (i+1) j (by rwa [zR,n9])
theorem HD{t:Nat}:∀(l:List Nat) (r:List (Nat × aD U.ar)),aX ((l.map fun t=>(t,aD.iH))++r) t=if t∈l then some .iH else aX r t
 |[],r=>by simp
 |a::l,r=>by
  rw[cW,kE,eG,HD l r];by_cases e:a=t
  ·subst e;simp
  ·simp[e,jn e]
theorem Sy:fY W M s (blank W M s) where
 vs:=fun t ht=>by unfold blank;simp only;rw[HD,if_neg ht]
 aB:=db
 aA:=aI _
 mem:=fun o w cs hm=>⟨_,Co hm,Sw _ _,fun j hj=>Sx _ _ _ (by rwa [dK])⟩
 row:=fun o aJ hc hm=>(Decidable.em ((o,0)∈M)).elim .inr fun q=>.inl (Cp hc q hm)
theorem Sz{o:Nat}{B sq:List Bool}(cw:B <+: sq)(aE:ρ <+: eK):∀{cs lL:List (aD U.ar)} {Bs ws:List V} (i:Nat),bT U B ρ fs cs Bs->bT U sq eK fs lL ws->lL.length=cs.length->(∀j:Nat,(o,i+j)∉M->lL[j]? =cs[j]?)->bT U B ρ fs (nT o M i cs) ws
 | _,_,_,_,i,.nil,.nil,_,_=>.nil
 | _,_,_,_,i,.nil,.cons _ _,hl,_=>by cases hl
 | _,_,_,_,i,.cons _ _,.nil,hl,_=>by cases hl
 |c::cs,c1::lL,_,_,i,.cons h r,.cons h1 bq,hl,hj=>by
  refine .cons ?_ (Sz cw aE (i+1) r bq (by simpa using hl) fun j q=>by
   have:=hj (j+1) (by rwa [zR,n9]at q);simpa using this)
  split
  ·exact .iH
  ·rename_i e
   have:(o,i)∉M:=fun q=>by rw[uR.2 q]at e;cases e
   have:=hj 0 (by rwa [sN]);simp only[lN,ay]at this;subst this;exact h.back cw aE h1
theorem SA (R:bB U b F fs s σ H G ρ)(bH:bB U b F fs s1 cz H1 az eK)(aE:ρ <+: eK)(fi:fY W M s s1):bB U b F fs (blank W M s) cz H1 az ρ where
 aA:=R.aA
 vs:=fun t v h=>by
  have h:aX ((W.map fun t=>(t,aD.iH))++s.vs) t=some v:=h;rw[HD]at h;split at h
  ·cases h;exact .iH
  ·rename_i e
   have h1:=h;rw[<-fi.vs t e]at h1;exact(R.vs t v h).back fi.aB aE (bH.vs t v h1)
 own:=by
  have ae:∀l:List (Nat × bC U),l.map (fun e=>az e.1)=(l.map Prod.fst).map az:=fun l=>by rw[jm];rfl
  have:=bH.own;unfold cK at this⊢;rw[ae]at this⊢;refine this.pick (R.cI.sublist (uS _)) fun o ho=> ?_;obtain⟨⟨cC,c⟩,he,rfl⟩:=dn.1 ho;rcases uT he with⟨w,cs,h1,-⟩|⟨h1,hc,h2⟩
  ·obtain⟨ey,aq,-⟩:=fi.mem _ _ _ (q3 R.cI h1)
   exact zl aq
  ·exact zl ((fi.row _ _ hc (q3 R.cI h1)).resolve_right h2)
 cI:=R.cI.sublist (uS _)
 lt:=fun e he=>by
  have:=(uS (M:=M) s.mem).subset (mm (f:=Prod.fst) he);obtain⟨e',h1,h2⟩:=dn.1 this;rw[<-h2];exact R.lt e' h1
 mem:=fun o aJ h=>by
  have h:aX (mP M s.mem) o=some aJ:=h;rcases uT (gD h)with⟨w,cs,hm,rfl⟩|⟨hm,hc,ia⟩
  ·have hm:=q3 R.cI hm
   obtain⟨lL,h1,h2,aq⟩:=fi.mem o w cs hm;obtain⟨a0,Bs,p1,cN,ei,nC⟩:=R.mem o _ hm;obtain⟨a,ws,q1,q2,dk,fC⟩:=bH.mem o _ h1;have:=ji aE p1;rw[q1]at this;cases this;exact⟨_,ws,p1,q2,Sz fi.aB aE 0 ei dk h2 (fun j hj=>aq j (by rwa [dK]at hj)),fC⟩
  ·have hm:=q3 R.cI hm
   have h0:=R.mem o _ hm;have h1:=bH.mem o _ ((fi.row o aJ hc hm).resolve_right ia);cases aJ with
   |cells=>cases hc
   |row t x=>
    obtain⟨v0,p1,cN⟩:=h0;obtain⟨v,q1,q2⟩:=h1;have:=ji aE p1;rw[q1]at this;cases this;exact⟨_,p1,q2⟩
   |fz t x=>
    obtain⟨v0,m0,p1,cN⟩:=h0;obtain⟨v,m1,q1,q2⟩:=h1;have:=ji aE p1;rw[q1]at this;cases this;exact⟨_,_,p1,q2⟩
   |mp k w x=>
    obtain⟨v0,p1,cN⟩:=h0;obtain⟨v,q1,q2⟩:=h1;have:=ji aE p1;rw[q1]at this;cases this;exact⟨_,p1,q2⟩
 dh:=R.dh
def HE (σ:bt)(G:Nat->List (Nat × bd)):Loc->V->Prop
 | .s t,w=>w=σ t
 | .m o j,w=>∃a ws,G o=[(a,.cells ws)]/\ws[j]? =some w
theorem uU (R:bB U b F fs s σ H G ρ){l:Loc}{v:aD U.ar}(h:at_ s l=some v):∃w,HE σ G l w/\bp U s.aB ρ fs v w:=by
 cases l with
 |s t=>exact⟨_,rfl,R.vs t v h⟩
 |m o j=>
  simp only[at_]at h;split at h
  ·rename_i wr cs hm
   obtain⟨a,ws,q1,q2,dk,fC⟩:=R.mem o _ hm;rw[qQ]at h;obtain⟨w,ae,ai⟩:=dk.get h;exact⟨w,⟨a,ws,q2,ae⟩,ai⟩
  ·cases h
theorem FM{α:Type}{l:List α}{j:Nat}{a:α}(h:l[j]? =some a):l.set j a=l:=by
 apply lP;intro i;by_cases e:j=i
 ·subst e;rw[mi (fu.1 h).1,h]
 ·rw[iL e]
def SB (s:a1 U)(σ:bt)(G:Nat->List (Nat × bd)):Loc->V->Prop
 | .s t,w=>w=σ t
 | .m o j,w=>∀wr cs,aX s.mem o=some (.cells wr cs)->∃a ws,G o=[(a,.cells ws)]/\ws[j]? =some w
theorem w4 (R:bB U b F fs s σ H G ρ){l:Loc}{v:aD U.ar}{w:V}(hw:SB s σ G l w)(ad:bp U s.aB ρ fs v w):bB U b F fs (h7 s l v) σ H G ρ:=by
 cases l with
 |s t=>
  cases hw;refine⟨R.aA,fun k u h=> ?_,R.own,R.cI,R.lt,R.mem,R.dh⟩;have h:aX ((t,v)::s.vs) k=some u:=h;rw[eG]at h;split at h
  ·rename_i e;cases h;subst e;exact ad
  ·exact R.vs k u h
 |m o j=>
  simp only[h7];split
  ·rename_i wr cs hm
   obtain⟨a,ws,ae,ai⟩:=hw wr cs hm;refine⟨R.aA,R.vs,?_,?_,fun e he=> ?_,fun q aJ h=> ?_,R.dh⟩
   ·have:=R.own
    unfold cK at this⊢;have ae:∀l:List (Nat × bC U),l.map (fun e=>G e.1)=(l.map Prod.fst).map G:=fun l=>by rw[jm];rfl
    simp only;rw[ae,pN,<-ae];exact this
   ·simp only[pN];exact R.cI
   ·have:e.1∈(gv o (.cells wr (cs.set j v)) s.mem).map Prod.fst:=mm he
    rw[pN]at this;obtain⟨e',h1,h2⟩:=dn.1 this;rw[<-h2];exact R.lt e' h1
   ·simp only[oP]at h
    split at h
    ·rename_i e;subst e
     rw[hm]at h;cases h;obtain⟨bg,dD,q1,q2,dk,fC⟩:=R.mem q _ hm;rw[q2]at ae;cases ae;refine⟨_,_,q1,q2,?_,fC⟩;have:=dk.set j ad;rwa [FM ai]at this
    ·exact R.mem q aJ h
  ·exact R
theorem Cq{l:Loc}{v:aD U.ar}:(h7 s l v).aB=s.aB:=by
 cases l with
 |s t=>rfl
 |m o j=>simp only[h7];split<;>rfl
theorem SC{l:Loc}{v:aD U.ar}:(h7 s l v).mem.map Prod.fst=s.mem.map Prod.fst/\(h7 s l v).aA=s.aA:=by
 cases l with
 |s t=>exact⟨rfl,rfl⟩
 |m o j=>simp only[h7];split<;>simp[pN]
theorem aen{l:Loc}{v:aD U.ar}{q:Nat}{w:Bool}{cs:List (aD U.ar)}(h:aX (h7 s l v).mem q=some (.cells w cs)):∃cs,aX s.mem q=some (.cells w cs):=by
 cases l with
 |s t=>exact⟨_,h⟩
 |m o j=>
  simp only[h7]at h;split at h
  ·rename_i wr ey hm
   simp only[oP]at h;split at h
   ·rename_i e;subst e;rw[hm]at h⊢; cases h;exact⟨_,rfl⟩
   ·exact⟨_,h⟩
  ·exact⟨_,h⟩
theorem SD (aK:eJ U){c:Nat}{y:U.ar c}{aJ:bC U}{v:aD U.ar}{w:V}(h:B3 c v=some y)(ad:bp U [] [] [] v w)(h':rowAt c y=some aJ):∃dr kO,aJ=.row dr kO/\w=b4 (U.es dr) (U.enc dr) kO:=by
 unfold B3 at h;split at h
 ·cases h
 ·rename_i hn
  unfold rowAt at h';split at h'
  ·rename_i p hp;rw[hn]at hp;cases hp
  ·split at h'
   ·rename_i dr kO hs
    cases h';refine⟨dr,kO,rfl,?_⟩;have ae:=aK.gu c _ _ _ _ _ y ad h;have ai:=aK.e7 c y [] [] [];rw[n3,hs]at ai;rw[ae];generalize U.enc c y=u at ai;cases ai;rfl
   ·cases h'
theorem aeo{A B:Type}(h:A=B)(x:B):(h ▸ (h.symm ▸ x:A):B)=x:=by subst h;rfl
theorem aep{c ek hh:Nat}{x:List (U.ar ek × U.ar hh)}{y:U.ar c}(h:G0 c ek hh x=some y):rowAt c y=some (.mp ek hh x):=by
 unfold G0 at h;split at h
 ·cases h
 ·rename_i p hp
  split at h
  ·rename_i e
   subst e;cases h;unfold rowAt;split
   ·rename_i xT l3
    rw[hp]at l3;cases l3;congr 2;exact aeo _ _
   ·rename_i hn;rw[hp]at hn;cases hn
  ·cases h
theorem aeq{α β:Type}{es bG:Nat}{f:α->V}{jD:β->V}{x:al α}{fA:al β}{v:V}{m:List (Nat × bd)}(h:b4 es f x=b4 bG jD fA)(hr:dS b es f v x m):dS b bG jD v fA m:=by
 unfold dS at hr⊢;cases x with
 |nil=>cases fA<;>cases h;cases hr;exact .nil
 |emp=>cases fA<;>cases h;cases hr;exact .emp
 |mk l=>cases fA with
  |mk eB=>
   simp only[b4,V.list.injEq]at h;obtain⟨rfl,h⟩:=h;simp only[al.map,h]at hr;exact hr
  |nil=>cases h
  |emp=>cases h
theorem aer{α:Type}{es:Nat}{f:α->V}{x:al α}{v:aD U.ar}{w:V}{c:aD U.ar}(hn:nQ v=some c)(ad:bp U [] [] [] c w)(h:w=b4 es f x):dS b es f w x []:=by
 unfold nQ at hn;split at hn<;>cases hn<;>cases ad<;>cases x<;>cases h<;>first|exact .nil|exact .emp
theorem aes{B:List Bool}{v c:aD U.ar}{w:V}(hn:nQ v=some c)(ad:bp U B ρ fs v w):bp U [] [] [] c w:=by
 unfold nQ at hn;split at hn<;>cases hn<;>cases ad<;>exact .k
structure Fit (az:Nat->List (Nat × bd)) (s1 b6:a1 U) (m:Nat) (M:List (Nat × Nat)) (u:List Nat) (f:Nat->Option Nat):Prop where
 ids:∀o∈(b6.mem.map Prod.fst).filterMap f,o∈s1.mem.map Prod.fst
 cI:((b6.mem.map Prod.fst).filterMap f).Nodup
 cells:∀q w cs,aX b6.mem q=some (.cells w cs)->f q=some q
 row:∀o aJ,oR aJ=false->aX s1.mem o=some aJ->mem o u=false->(m<=o\/(o,0)∈M)->o∉(b6.mem.map Prod.fst).filterMap f
theorem Fit.h7{m:Nat}{u:List Nat}{f:Nat->Option Nat}(h:Fit az s1 b6 m M u f){B:List Bool}{l:Loc}{v:aD U.ar}:Fit az s1 (h7 {b6 with aB:=B} l v) m M u f:=by
 have e:=(SC (s:={b6 with aB:=B}) (l:=l) (v:=v)).1;refine⟨by rw[e];exact h.ids,by rw[e];exact h.cI,fun q w cs a8=> ?_,by rw[e];exact h.row⟩;obtain⟨ey,h1⟩:=aen a8;exact h.cells q w ey h1
theorem HF{m:Nat}{u:List Nat}{f:Nat->Option Nat}(h:Fit az s1 b6 m M u f){l:Loc}{w:V}(hw:HE cz az l w):SB b6 cz (fun q=>(f q).elim [] az) l w:=by
 cases l with
 |s t=>exact hw
 |m o j=>
  intro wr cs hm;show ∃a ws,(f o).elim [] az=[(a,bd.cells ws)]/\ws[j]? =some w;rw[h.cells o wr cs hm];exact hw
theorem SE{α β:Type}{f g:α->Option β}:∀{l:List α},(∀a∈l,f a=g a)->l.filterMap f=l.filterMap g
 |[],_=>rfl
 |a::l,h=>by rw[zQ,zQ,h a (k7 ..),SE fun b hb=>h b (ie _ hb)]
theorem Fit.add{m:Nat}{u u':List Nat}{f:Nat->Option Nat}(h:Fit az s1 b6 m M u f)(bH:bB U b F fs s1 cz H1 az eK){oS:List V}(R:bB U b F fs b6 cz H1 (fun q=>(f q).elim [] az) oS){aJ:bC U}{v:V}{l:Loc}(x:Option Nat)
  (hx:∀o,x=some o->o∈s1.mem.map Prod.fst/\o∉(b6.mem.map Prod.fst).filterMap f/\mem o u'=true) (hu:∀o,mem o u'=false->mem o u=false) (hc:oR aJ=false) (hr:∀B b2,b2[b6.aA]? =some v->lJ U b B b2 fs b6.aA (x.elim [] az) aJ) (hw:HE cz az l v):
  ∃jD:Nat->Option Nat,Fit az s1 (fM.h7 (hJ b6 aJ) l (.row b6.aA)) m M u' jD/\bB U b F fs (fM.h7 (hJ b6 aJ) l (.row b6.aA)) cz H1 (fun q=>(jD q).elim [] az) (oS++[v]):=by
 refine⟨fun q=>if q=b6.aA then x else f q,?_⟩
 have bb:∀q∈b6.mem.map Prod.fst,¬q=b6.aA:=fun q a8 e=>by
  obtain⟨p,hp,e'⟩:=dn.1 a8;exact absurd (R.lt p hp) (by rw[e',e];exact Nat.lt_irrefl _)
 have wY:(hJ b6 aJ).mem.map Prod.fst=b6.aA::b6.mem.map Prod.fst:=rfl
 have em:(b6.aA::b6.mem.map Prod.fst).filterMap (fun q=>if q=b6.aA then x else f q)=x.toList++(b6.mem.map Prod.fst).filterMap f:=by
  have:(b6.mem.map Prod.fst).filterMap (fun q=>if q=b6.aA then x else f q)=(b6.mem.map Prod.fst).filterMap f:=SE fun q a8=>if_neg (bb q a8);rw[zQ,if_pos rfl,this];cases x<;>rfl
 have Cr:Fit az s1 (hJ b6 aJ) m M u' (fun q=>if q=b6.aA then x else f q):=by
  refine⟨?_,?_,fun q w cs a8=> ?_,?_⟩
  ·rw[wY,em]
   intro o ho;rcases hN.1 ho with q|q
   ·exact(hx o (by simpa using q)).1
   ·exact h.ids o q
  ·rw[wY,em,ra]
   exact⟨by cases x<;>simp,h.cI,fun a ha c hc e=>by subst e;exact(hx a (by simpa using ha)).2.1 hc⟩
  ·have a8:aX ((b6.aA,aJ)::b6.mem) q=some (.cells w cs):=a8
   rw[eG]at a8;split at a8
   ·cases a8;cases hc
   ·rename_i e;rw[if_neg (jn e)];exact h.cells q w cs a8
  ·rw[wY,em]
   intro o aet h0 h1 h2 aq bf;rcases hN.1 bf with q|q
   ·rw[(hx o (by simpa using q)).2.2]at h2;cases h2
   ·exact h.row o aet h0 h1 (hu o h2) aq q
 have vY:(fun q=>if q=b6.aA then x.elim [] az else(f q).elim [] az)=fun q=>(if q=b6.aA then x else f q).elim [] az:=by
  funext q;split<;>rfl
 have hO:Own H1 (x.elim [] az::cK b6 (fun q=>(f q).elim [] az) F):=by
  have ae:∀l:List (Nat × bC U),l.map (fun e=>az e.1)=(l.map Prod.fst).map az:=fun l=>by rw[jm];rfl
  have h1:=bH.own;unfold cK at h1⊢;rw[ae]at h1
  have h2:=h1.aem (l:=x::(b6.mem.map Prod.fst).map f) (by
   rw[zQ,List.filterMap_map];have:=Cr.cI;rw[wY,em]at this;cases x<;>exact this) (by
   have:=Cr.ids;rw[wY,em]at this;rw[zQ,List.filterMap_map];cases x<;>exact this)
  simpa[Function.comp_def]using h2
 have eZ:=R.add hO (aJ:=aJ) (v:=v) (hr _ _ (R.new v));rw[vY]at eZ;have eQ:=Cr.h7 (B:=(hJ b6 aJ).aB) (l:=l) (v:=.row b6.aA);exact⟨eQ,w4 eZ (HF Cr hw) (.row (R.new v))⟩
theorem sr (aK:eJ U)(bH:bB U b F fs s1 cz H1 az eK)(aE:ρ <+: eK){B:List Bool}(nX:B <+: s1.aB):∀{sh:kd U} {u:List Nat} {x:c4 U (gw sh)} {b6:a1 U} {f:Nat->Option Nat} {oS:List V},bB U b F fs b6 cz H1 (fun q=>(f q).elim [] az) oS->B <+: b6.aB->ρ <+: oS->Fit az s1 b6 ρ.length M u f->
   k2 B.length ρ.length M s1 u sh=some x->∃G' b2,bB U b F fs (mO sh x b6) cz H1 G' b2/\ρ <+: b2
 |[],u,_,b6,f,oS,R,_,mU,_,_=>⟨_,_,R,mU⟩
 |(l,.p t)::r,u,x,b6,f,oS,R,cw,mU,cy,h=>by
  simp only[k2]at h;split at h
  ·cases h
  ·rename_i v ad
   split at h
   ·cases h
   ·rename_i y hy
    split at h
    ·cases h
    ·rename_i z aP
     cases h;obtain⟨w,aG,bs⟩:=uU bH ad;have:=aK.gu _ _ _ _ _ _ _ bs hy;subst this;simp only[mO,zd,ze];refine sr aK bH aE nX (w4 (R.eg (Cd _)) (HF (b6:={b6 with aB:=b6.aB++U.oM t y}) ⟨cy.ids,cy.cI,cy.cells,cy.row⟩ aG) (aK.e7 t y b6.aB oS fs)) ?_ mU cy.h7 aP;rw[Cq];exact cw.trans (fl _ _)
 |(l,.c v)::r,u,x,b6,f,oS,R,cw,mU,cy,h=>by
  simp only[k2]at h;cases hu:at_ s1 l with
  |none=>rw[hu]at h;cases h
  |some u=>
   rw[hu]at h;cases ae:same u v<;>cases ai:wf B.length ρ.length v<;>simp only[ae,ai]at h
   ·cases h
   ·cases h
   ·cases h
   ·obtain⟨w,aG,bs⟩:=uU bH hu
    have:=Cn nX aE ai (Hz ae bs);simp only[mO];exact sr aK bH aE nX (w4 R (HF cy aG) (this.mono cw mU)) (by rw[Cq];exact cw) mU (cy.h7 (B:=b6.aB)) h
 |(_,.d)::r,u,x,b6,f,oS,R,cw,mU,cy,h=>by
  exact sr (sh:=r) (x:=x) aK bH aE nX R cw mU cy (by simp only[k2]at h;exact h)
 |(l,.r c)::r,u,x,b6,f,oS,R,cw,mU,cy,h=>by
  simp only[k2]at h;split at h
  ·cases h
  ·rename_i v ad
   obtain⟨w,aG,bs⟩:=uU bH ad;split at h
   ·rename_i o
    have key:∀{jc:bC U} {y:U.ar c} {z:c4 U (gw r)},aX s1.mem o=some jc->oR jc=false->fM.mem o u=false->(match Nat.ble ρ.length o with|true=>true|false=>mN o 0 M)=true->k2 B.length ρ.length M s1 (o::u) r=some z->
      (∀aJ,rowAt c y=some aJ->oR aJ=false/\∀B b2,b2[b6.aA]? =some w->lJ U b B b2 fs b6.aA (az o) aJ)->∃G' b2,bB U b F fs (mO ((l,.r c)::r) (sd (gw r) y z) b6) cz H1 G' b2/\ρ <+: b2:=by
     intro jc y z hm h0 hu hc aP dF
     have hc:ρ.length<=o\/(o,0)∈M:=by
      split at hc
      ·rename_i e;exact .inl (mj e)
      ·exact .inr (uR.1 hc)
     have jF:∀cC,fM.mem cC (o::u)=false->fM.mem cC u=false:=fun cC q=>by
      simp only[fM.mem]at q;split at q
      ·cases q
      ·exact q
     simp only[mO,zd,ze];split
     ·rename_i aJ xO
      obtain⟨bM,dC⟩:=dF aJ xO
      obtain⟨jD,f1,f2⟩:=cy.add bH R (u':=o::u) (some o) (fun cC e=>by
       cases e;exact⟨zl hm,cy.row o jc h0 hm hu hc,by simp[fM.mem]⟩) jF bM dC aG
      exact sr aK bH aE nX f2 (by rw[Cq];exact cw) (mU.trans (fl _ _)) f1 aP
     ·exact sr aK bH aE nX R cw mU ⟨cy.ids,cy.cI,cy.cells,fun cC aJ a0 av a2 a3=>cy.row cC aJ a0 av (jF cC a2) a3⟩ aP
    split at h
    ·rename_i t iH hm hu hc
     split at h
     ·cases h
     ·rename_i y hy
      split at h
      ·cases h
      ·rename_i z aP
       cases h;refine key hm rfl hu hc aP fun aJ dF=> ?_;obtain⟨dr,kO,rfl,e⟩:=SD aK hy .sl dF;obtain⟨v0,q1,q2⟩:=bH.mem o _ hm;cases bs with
       |row ho=>
        rw[q1]at ho;cases ho;exact⟨rfl,fun B b2 q=>⟨_,q,aeq e q2⟩⟩
    ·rename_i ek hh iH hm hu hc
     split at h
     ·cases h
     ·rename_i y hy
      split at h
      ·cases h
      ·rename_i z aP
       cases h;refine key hm rfl hu hc aP fun aJ dF=> ?_;rw[aep hy]at dF;cases dF;obtain⟨a,q1,q2⟩:=bH.mem o _ hm;cases bs with
       |row ho=>
        rw[q1]at ho;cases ho;exact⟨rfl,fun B b2 q=>⟨_,q,q2⟩⟩
    ·cases h
   ·split at h
    ·cases h
    ·rename_i ajf hn
     split at h
     ·cases h
     ·rename_i y hy
      split at h
      ·cases h
      ·rename_i z aP
       cases h;simp only[mO,zd,ze];have SF:=aes hn bs;split
       ·rename_i aJ xO
        obtain⟨dr,kO,rfl,e⟩:=SD aK hy SF xO;obtain⟨jD,f1,f2⟩:=cy.add (aJ:=.row dr kO) bH R (u':=u) none (fun _ e=>by cases e) (fun _ q=>q) rfl (fun B b2 q=>⟨_,q,aer hn SF e⟩) aG;exact sr aK bH aE nX f2 (by rw[Cq];exact cw) (mU.trans (fl _ _)) f1 aP
       ·exact sr aK bH aE nX R cw mU cy aP
theorem bB.Cs (R:bB U b F fs s σ H G ρ){c3:List Nat}{bU:List (Nat × Nat)}:bB U b F fs {s with dh:=[],c3:=c3,bU:=bU} σ H G ρ:=
 ⟨R.aA,R.vs,R.own,R.cI,R.lt,R.mem,fun _ _ h=>by cases h⟩
theorem Ct (aK:eJ U)(R:bB U b F fs s σ H G ρ)(bH:bB U b F fs s1 cz H1 az eK)(aE:ρ <+: eK){sh:kd U}{x:c4 U (gw sh)}(fi:fY (eC sh++W) (M++fX sh) s s1)(h:k2 s.aB.length s.aA (M++fX sh) s1 [] sh=some x):
  ∃G' b2,bB U b F fs (enter W M sh x s) cz H1 G' b2/\ρ <+: b2:=by
 have wD:=SA R bH aE fi;have e:∀l:List Nat,l.filterMap some=l:=fun l=>List.filterMap_some
 obtain⟨G',b2,bq,cc⟩:=sr aK bH aE fi.aB (f:=some) (M:=M++fX sh) wD db db ⟨by
  rw[e];intro o ho;obtain⟨⟨cC,c⟩,he,rfl⟩:=dn.1 ho;rcases uT he with⟨w,cs,h1,-⟩|⟨h1,hc,h2⟩
  ·obtain⟨ey,aq,-⟩:=fi.mem _ _ _ (q3 R.cI h1)
   exact zl aq
  ·exact zl ((fi.row _ _ hc (q3 R.cI h1)).resolve_right h2),by rw[e];exact wD.cI,fun _ _ _ _=>rfl,by
  rw[e];intro o aJ h0 hm _ hc ho;obtain⟨⟨cC,c⟩,he,rfl⟩:=dn.1 ho;rcases uT he with⟨w,cs,h1,-⟩|⟨h1,-,h2⟩
  ·obtain⟨ey,aq,-⟩:=fi.mem _ _ _ (q3 R.cI h1)
   rw[hm]at aq;cases aq;cases h0
  ·rcases hc with hc|hc
   ·have:=R.lt _ h1
    rw[R.aA]at hc;exact absurd this (Nat.not_lt.2 hc)
   ·exact h2 hc⟩ (by rw[R.aA];exact h)
 exact⟨G',b2,bq.Cs,cc⟩
theorem Cu{l:Loc}{v:aD U.ar}{B:List Bool}(cw:s.aB <+: B)(hW:∀t,l=.s t->t∈W)(ia:∀o j,l=.m o j->(o,j)∈M):fY W M s (h7 {s with aB:=B} l v):=by
 cases l with
 |s t=>
  refine⟨fun k hk=> ?_,cw,aI _,fun o w cs h=>⟨cs,h,rfl,fun _ _=>rfl⟩,fun _ _ _ h=>.inl h⟩;show aX ((t,v)::s.vs) k=_;rw[eG,if_neg];intro e;subst e;exact hk (hW _ rfl)
 |m o j=>
  simp only[h7];split
  ·rename_i wr cs hm
   have hm:aX s.mem o=some (.cells wr cs):=hm;refine⟨fun _ _=>rfl,cw,aI _,fun q w ey h=> ?_,fun q aJ hc h=> ?_⟩
   ·simp only[oP]
    by_cases e:q=o
    ·subst e
     rw[h]at hm;cases hm;refine⟨_,by rw[if_pos rfl,h];rfl,by simp,fun i hi=> ?_⟩;rw[iL];intro e;subst e;exact hi (ia _ _ rfl)
    ·exact⟨ey,by rw[if_neg e];exact h,rfl,fun _ _=>rfl⟩
   ·simp only[oP]
    by_cases e:q=o
    ·subst e;rw[h]at hm;cases hm;cases hc
    ·rw[if_neg e];exact .inl h
  ·exact⟨fun _ _=>rfl,cw,aI _,fun o w cs h=>⟨cs,h,rfl,fun _ _=>rfl⟩,fun _ _ _ h=>.inl h⟩
theorem aeu{aJ:bC U}(lt:∀e∈s.mem,e.1<s.aA):fY W M s (hJ s aJ):=by
 have key:∀{o:Nat} {c:bC U},aX s.mem o=some c->aX (hJ s aJ).mem o=some c:=fun {o c} h=>by
  show aX ((s.aA,aJ)::s.mem) o=_;rw[eG,if_neg (Nat.ne_of_gt (lt _ (gD h)))];exact h
 exact⟨fun _ _=>rfl,db,xp _,fun o w cs h=>⟨cs,key h,rfl,fun _ _=>rfl⟩,fun _ _ _ h=>.inl (key h)⟩
theorem HG{l:Loc}{v:aD U.ar}{B:List Bool}(lt:∀e∈s.mem,e.1<s.aA):∀e∈(h7 {s with aB:=B} l v).mem,e.1<(h7 {s with aB:=B} l v).aA:=fun e he=>by
 have h:=mm (f:=Prod.fst) he;obtain⟨h1,h2⟩:=SC (s:={s with aB:=B}) (l:=l) (v:=v);rw[h1]at h;rw[h2];obtain⟨e',q1,q2⟩:=dn.1 h;rw[<-q2];exact lt e' q1
theorem w5:∀(sh:kd U) (x:c4 U (gw sh)) (s:a1 U),(∀e∈s.mem,e.1<s.aA)->(∀t∈eC sh,t∈W)->(∀p∈fX sh,p∈M)->fY W M s (mO sh x s)
 |[],_,_,_,_,_=>.rfl
 |(l,p)::r,x,s,lt,hW,ia=>by
  have HH:∀t,l=.s t->t∈W:=fun t e=>hW t (by subst e;exact k7 ..);have zm:∀t∈eC r,t∈W:=fun t h=>hW t (by cases l<;>first|exact ie _ h|exact h);have HI:∀o j,l=.m o j->(o,j)∈M:=fun o j e=>ia _ (by subst e;exact k7 ..);have zn:∀q∈fX r,q∈M:=fun q h=>ia q (by cases l<;>first|exact ie _ h|exact h);cases p with
  |p c=>exact(Cu (fl _ _) HH HI).trans (w5 r _ _ (HG lt) zm zn)
  |c v=>exact(Cu (B:=s.aB) db HH HI).trans (w5 r _ _ (HG (B:=s.aB) lt) zm zn)
  |d=>exact w5 r _ _ lt zm zn
  |r c=>
   simp only[mO];split
   ·rename_i aJ _
    have aev:∀e∈(hJ s aJ).mem,e.1<(hJ s aJ).aA:=fun e he=>by
     rcases cY.1 he with rfl|he
     ·exact xk _
     ·exact C6 (lt e he)
    exact(aeu lt).trans ((Cu (s:=hJ s aJ) (B:=s.aB) db HH HI).trans (w5 r _ _ (HG (s:=hJ s aJ) (B:=s.aB) aev) zm zn))
   ·exact w5 r _ _ lt zm zn
theorem SG (lt:∀e∈s.mem,e.1<s.aA){sh:kd U}{x:c4 U (gw sh)}:fY (eC sh++W) (M++fX sh) s (enter W M sh x s):=by
 have h:=(Sy (s:=s) (W:=eC sh++W) (M:=M++fX sh)).trans (w5 sh x _ (fun e he=>by
  obtain⟨e',h1,h2⟩:=dn.1 ((uS (M:=M++fX sh) s.mem).subset (mm (f:=Prod.fst) he));rw[<-h2];exact lt e' h1) (fun t ht=>sG _ ht) (fun p hp=>lO _ hp))
 exact⟨h.vs,h.aB,h.aA,h.mem,h.row⟩
theorem SH (lt:∀e∈s.mem,e.1<s.aA){sh:kd U}{x:c4 U (gw sh)}:Fr s (enter W M sh x s):=by
 have bU:∀{p},p∈M++fX sh->p∈M++(fX sh++s.bU):=fun q=>by rw[<-jl];exact sG _ q
 have fi:=SG (W:=W) (M:=M) lt (x:=x)
 exact {
  vs:=fun t ht=>fi.vs t fun q=>ht (by
   show t∈eC sh++(W++s.c3);rw[<-jl];exact sG _ q)
  c3:=fun t ht=>lO _ (lO _ ht)
  bU:=fun t ht=>lO _ (lO _ ht)
  aB:=fi.aB
  aA:=fi.aA
  mem:=fun o w cs h=>by
   obtain⟨ey,h1,h2,aq⟩:=fi.mem o w cs h;exact⟨ey,h1,h2,fun j hj=>aq j fun q=>hj (bU q)⟩
  row:=fun o aJ hc h=>(fi.row o aJ hc h).imp id bU}
theorem HJ{n m:Nat}{sh:kd U}{y:c4 U (gw sh)}(h:wT n m W M sh s1=some y):(∀t∈s1.c3,t∈W)/\(∀o j,(o,j)∈s1.bU->o<m->(o,j)∈M++fX sh)/\k2 n m (M++fX sh) s1 [] sh=some y:=by
 unfold wT at h;split at h
 ·cases h
 ·rename_i ae
  split at h
  ·rename_i ai;exact⟨HB ae,HC ai,h⟩
  ·cases h
theorem SI{x y:X}(h:B4 x y=true):x=y:=by
 cases x<;>cases y<;>simp only[B4]at h<;>first|rfl|cases h|rw[dm h]
theorem HK{A:Type}[aF A]{S:A->Prop}{n m:Nat}{x:X}{k:X->a1 U->A}:∀{os:sg U} {o:uw U (uz os)},uA n m W M x s1 os=some o->∃(sh:kd U) (y:c4 U (gw sh)),wT n m W M sh s1=some y/\(S (leave W M s k os o)->S (k x (enter W M sh y s)))
 |[],_,h=>by cases h
 |[(fA,sh)],o,h=>by
  simp only[uA]at h;split at h
  ·rename_i e;rw[SI e];exact⟨sh,o,h,fun q=>q⟩
  ·cases h
 |(fA,sh)::q::r,o,h=>by
  simp only[uA]at h;split at h
  ·rename_i e
   split at h
   ·rename_i y hy
    cases h;rw[SI e];exact⟨sh,y,hy,fun q=>q⟩
   ·cases h
  ·split at h
   ·rename_i y hy
    cases h;obtain⟨aew,kO,h1,h2⟩:=HK (S:=S) (k:=k) hy;exact⟨aew,kO,h1,h2⟩
   ·cases h
end
end Go.Abs.fM
