/- Texts of this claim, joined and written short by a program. -/
import Derived.Test.YtdoflpjbdlgciaaGreatDoorP24
import Derived.Test.YtdoflpjbdlgciaaGreatDoorP00
set_option linter.unusedVariables false
set_option linter.unusedSimpArgs false
set_option linter.unusedSectionVars false
namespace Go.Abs.hG
open Go Go.Abs
section
variable{U:iE}{b:Nat}{F:cO}{fs:List V}{s s1 s2 cP:bB U}{σ cU:bY}{H H1:Heap}{G az:Nat->List (Nat × cD)}{ρ gf:List V}{ad:Nat->Option cb}{b0:nT U}{W W':List Nat}{M M':List (Nat × Nat)}
mutual
theorem RU{B:List Bool}:∀{v w:aO U.ay} {u:V},same v w=true->b5 U B ρ fs v u->b5 U B ρ fs w u
 |v,w,u,h,af=>by
  unfold same at h;split at h
  ·split at h<;>first|exact af|cases h
  ·split at h
   ·rename_i e;rw[e8 e]at af;exact af
   ·rename_i e;rw[e8 e]at af;exact af
   ·cases h
  ·split at h
   ·rename_i e
    have e:=of_decide_eq_true e;have e2:=of_decide_eq_true h;subst e;subst e2;exact af
   ·cases h
  ·rw[vw _ _ h]at af;exact af
  ·split at h
   ·rename_i e;rw[e8 e,e8 h]at af;exact af
   ·cases h
  ·rw[e8 h]at af;exact af
  ·split at h
   ·rename_i e
    cases af with
    |fn af=>rw[e8 e];exact .fn (RV h af)
   ·cases h
  ·cases af with
   |agg af=>exact .agg (RV h af)
  ·rw[of_decide_eq_true h]at af;exact af
  ·cases h
theorem RV{B:List Bool}:∀{vs ws:List (aO U.ay)} {us:List V},Af vs ws=true->bz U B ρ fs vs us->bz U B ρ fs ws us
 |[],[],_,_,h=>h
 |[],_::_,_,h,_=>by simp[Af]at h
 | _::_,[],_,h,_=>by simp[Af]at h
 |v::vs,w::ws,_,h,.cons af r=>by
  simp only[Af]at h;split at h
  ·rename_i e;exact .cons (RU e af) (RV h r)
  ·cases h
end
theorem LX{α:Type}{l fS:List α}(h:l <+: fS){i:Nat}{a:α}(hi:fS[i]? =some a)(hl:i<l.length):l[i]? =some a:=by
 obtain⟨t,rfl⟩:=h;rwa [gM hl]at hi
theorem LY{i n:Nat}(h:Nat.blt i n=true):i<n:=ma h
mutual
theorem LZ{B x0:List Bool}(dK:B <+: x0)(aR:ρ <+: gf):∀{v:aO U.ay} {w:V},wf B.length ρ.length v=true->b5 U x0 gf fs v w->b5 U B ρ fs v w
 | _,_,_,.int=>.int
 | _,_,_,.cy=>.cy
 | _,_,h,.bo q=>.bo (LX dK q (LY (by simpa only[wf]using h)))
 | _,_,_,.str=>.str
 | _,_,_,.sl=>.sl
 | _,_,_,.k=>.k
 | _,_,h,.agg q=>.agg (He dK aR (by simpa only[wf]using h) q)
 | _,_,h,.bd q=>.bd (He dK aR (by simpa only[wf]using h) q)
 | _,_,h,.dW q=>.dW (He dK aR (by simpa only[wf]using h) q)
 | _,_,h,.ptr q=>.ptr (LX aR q (LY (by simpa only[wf]using h)))
 | _,_,h,.row q=>.row (LX aR q (LY (by simpa only[wf]using h)))
 | _,_,h,.jk q=>.jk (LX aR q (LY (by simpa only[wf]using h)))
 | _,_,h,.fn q=>.fn (He dK aR (by simpa only[wf]using h) q)
 | _,_,_,.fv q=>.fv q
 | _,_,_,.lb=>.lb
theorem He{B x0:List Bool}(dK:B <+: x0)(aR:ρ <+: gf):∀{vs:List (aO U.ay)} {ws:List V},Ag B.length ρ.length vs=true->bz U x0 gf fs vs ws->bz U B ρ fs vs ws
 | _,_,_,.nil=>.nil
 | _,_,h,.cons q r=>by
   simp only[Ag]at h;split at h
   ·rename_i e;exact .cons (LZ dK aR e q) (He dK aR h r)
   ·cases h
end
structure ij (W:List Nat) (M:List (Nat × Nat)) (s s1:bB U):Prop where
 vs:∀t,t∉W->bw s1.vs t=bw s.vs t
 aJ:s.aJ <+: s1.aJ
 aC:s.aC<=s1.aC
 mem:∀o w cs,bw s.mem o=some (.cells w cs)->∃cs',bw s1.mem o=some (.cells w cs')/\cs'.length=cs.length/\∀j:Nat,(o,j)∉M->cs'[j]? =cs[j]?
 row:∀o a1,s9 a1=false->bw s.mem o=some a1->bw s1.mem o=some a1\/(o,0)∈M
theorem ij.rfl:ij W M s s:=⟨fun _ _=>Eq.refl _,ew,aM _,fun o w cs h=>⟨cs,h,Eq.refl _,fun _ _=>Eq.refl _⟩,fun _ _ _ h=>.inl h⟩
theorem ij.trans (h:ij W M s s1)(k:ij W M s1 s2):ij W M s s2 where
 vs:=fun t ht=>(k.vs t ht).trans (h.vs t ht)
 aJ:=h.aJ.trans k.aJ
 aC:=dc h.aC k.aC
 mem:=fun o w cs hm=>by
  obtain⟨px,h1,h2,av⟩:=h.mem o w cs hm;obtain⟨Hd,ct,dN,jT⟩:=k.mem o w px h1;exact⟨Hd,ct,dN.trans h2,fun j hj=>(jT j hj).trans (av j hj)⟩
 row:=fun o a1 hc hm=>(h.row o a1 hc hm).elim (k.row o a1 hc) .inr
theorem ij.wide (h:ij W M s s1)(hW:∀t∈W,t∈W')(l8:∀p∈M,p∈M'):ij W' M' s s1 where
 vs:=fun t ht=>h.vs t fun q=>ht (hW t q)
 aJ:=h.aJ
 aC:=h.aC
 mem:=fun o w cs hm=>by
  obtain⟨px,h1,h2,av⟩:=h.mem o w cs hm;exact⟨px,h1,h2,fun j hj=>av j fun q=>hj (l8 _ q)⟩
 row:=fun o a1 hc hm=>(h.row o a1 hc hm).imp id (l8 _)
theorem Fr.gV (h:Fr s s1)(lt:∀e∈s.mem,e.1<s.aC)(hW:∀t∈s1.dS,t∈W)(l8:∀o j,(o,j)∈s1.cN->o<s.aC->(o,j)∈M):ij W M s s1 where
 vs:=fun t ht=>h.vs t fun q=>ht (hW t q)
 aJ:=h.aJ
 aC:=h.aC
 mem:=fun o w cs hm=>by
  obtain⟨px,h1,h2,av⟩:=h.mem o w cs hm;exact⟨px,h1,h2,fun j hj=>av j fun q=>hj (l8 _ _ q (lt _ (jF hm)))⟩
 row:=fun o a1 hc hm=>(h.row o a1 hc hm).imp id fun q=>l8 _ _ q (lt _ (jF hm))
theorem Hf{α:Type}{l:List (Nat × α)}{o:Nat}{c:α}(h:bw l o=some c):o∈l.map Prod.fst:=eM.2 ⟨_,jF h,rfl⟩
theorem RW:∀{l:List Nat},GU W l=true->∀t∈l,t∈W
 |[],_,_,h=>by cases h
 |a::l,h,t,ht=>by
  simp only[GU]at h;split at h
  ·rename_i e
   rcases dL.1 ht with rfl|ht
   ·exact(mem_iff _ _).1 e
   ·exact RW h t ht
  ·cases h
theorem Ay{o j:Nat}:∀{l:List (Nat × Nat)},q0 o j l=true↔(o,j)∈l
 |[]=>by simp[q0]
 |(a,c)::r=>by
  have ih:=Ay (o:=o) (j:=j) (l:=r);have ne:∀{x y:Nat},Nat.beq x y=false->¬y=x:=fun h e=>by rw[e,Bk]at h;cases h
  unfold q0;rw[dL,bC];cases h1:Nat.beq a o<;>cases h2:Nat.beq c j
  ·simp[ne h1,ih]
  ·simp[ne h1,ih]
  ·simp[ne h2,ih]
  ·simp[e8 h1,e8 h2]
theorem RX{n:Nat}:∀{l:List (Nat × Nat)},GV n M l=true->∀o j,(o,j)∈l->o<n->(o,j)∈M
 |[],_,_,_,h,_=>by cases h
 |(a,c)::l,h,o,j,hm,hn=>by
  simp only[GV]at h;split at h
  ·rename_i e
   rcases dL.1 hm with q|hm
   ·cases q
    have:=ma e;omega
   ·exact RX h o j hm hn
  ·split at h
   ·rename_i e
    rcases dL.1 hm with q|hm
    ·cases q;exact Ay.1 e
    ·exact RX h o j hm hn
   ·cases h
theorem _root_.Go.Abs.Own.pick{H:Heap}{ids l:List Nat}{G:Nat->List (Nat × cD)}{F:cO}(h:Own H (ids.map G++F))(hn:l.Nodup)(hs:∀o∈l,o∈ids):Own H (l.map G++F):=by
 have at_:∀{o:Nat},o∈ids->∃k:Nat,k<ids.length/\ids[k]? =some o/\(ids.map G++F)[k]? =some (G o):=fun {o} ho=>by
  obtain⟨k,ah⟩:=oN.1 ho;have aH:=(fF.1 ah).1;exact⟨k,aH,ah,by rw[gM (by simpa using aH),kR,ah];rfl⟩
 refine⟨fun m hm p hp=> ?_,?_⟩
 ·rcases kS.1 hm with hm|hm
  ·obtain⟨o,ho,rfl⟩:=eM.1 hm
   exact h.1 _ (w7 _ (sa (hs o ho))) p hp
  ·exact h.1 _ (pB _ hm) p hp
 ·rw[lh,TL]
  refine⟨?_,?_,?_⟩
  ·rw[sf,List.pairwise_map]
   refine List.Pairwise.imp_of_mem ?_ hn;intro i j hi hj cW a ao gU;obtain⟨arn,_,q1,aT⟩:=at_ (hs i hi);obtain⟨acQ,_,b3,cZ⟩:=at_ (hs j hj);obtain⟨p,hp,rfl⟩:=eM.1 ao;obtain⟨q,bj,e⟩:=eM.1 gU;exact h.J8 aT cZ (fun e=>cW (by rw[e,b3]at q1;cases q1;rfl)) hp bj e.symm
  ·have:=h.2
   rw[lh,TL]at this;exact this.2.1
  ·intro x hx y hy a ao gU
   obtain⟨m,hm,rfl⟩:=eM.1 hx;obtain⟨o,ho,rfl⟩:=eM.1 hm;obtain⟨m',lO,rfl⟩:=eM.1 hy;obtain⟨arn,aH,_,aT⟩:=at_ (hs o ho);obtain⟨acQ,hj⟩:=oN.1 lO;have cZ:(ids.map G++F)[ids.length+acQ]? =some m':=by rw[w5 (by simp)];simpa using hj
   obtain⟨p,hp,rfl⟩:=eM.1 ao;obtain⟨q,bj,e⟩:=eM.1 gU;exact h.J8 aT cZ (by omega) hp bj e.symm
theorem _root_.Go.Abs.Own.aro{H:Heap}{ids:List Nat}{l:List (Option Nat)}{G:Nat->List (Nat × cD)}{F:cO}(h:Own H (ids.map G++F))(hn:(l.filterMap id).Nodup)(hs:∀o∈l.filterMap id,o∈ids):Own H ((l.map fun x=>x.elim [] G)++F):=by
 have nl:∀{pre X:cO},Own H (pre++X)->Own H (pre++[]::X):=fun {pre X} h=>by
  refine⟨fun m hm p hp=> ?_,?_⟩
  ·rcases kS.1 hm with q|q
   ·exact h.1 m (w7 _ q) p hp
   ·rcases dL.1 q with rfl|q
    ·cases hp
    ·exact h.1 m (pB _ q) p hp
  ·have:=h.2
   rw[lh,TL]at this;rw[lh,TL,eG,HZ];refine⟨this.1,⟨fun _ _ a ao=>by simp at ao,this.2.1⟩,fun x hx y hy a ao=> ?_⟩;rcases dL.1 hy with rfl|hy
   ·simp
   ·exact this.2.2 x hx y hy a ao
 have key:∀(l:List (Option Nat)) (pre:cO),Own H (pre++((l.filterMap id).map G++F))->Own H (pre++((l.map fun x=>x.elim [] G)++F)):=by
  intro l
  induction l with
  |nil=>exact fun _ h=>h
  |cons x l ih=>
   intro pre h;cases x with
   |none=>exact nl (ih pre h)
   |some o=>
    have:=ih (pre++[G o]) (by simpa using h);simpa using this
 exact key l [] (h.pick hn hs)
theorem Az:∀l:List (Nat × cv U),((q3 M l).map Prod.fst).Sublist (l.map Prod.fst)
 |[]=>sb _
 |(o,c)::r=>by
  simp only[q3];split
  ·exact(Az r).cons_cons _
  ·split
   ·exact(Az r).cons _
   ·exact(Az r).cons_cons _
theorem L0{o:Nat}{w:Bool}{cs:List (aO U.ay)}:∀{l:List (Nat × cv U)},bw l o=some (.cells w cs)->bw (q3 M l) o=some (.cells w (r2 o M 0 cs))
 |(a,c)::r,h=>by
  rw[gd]at h;simp only[q3];split at h
  ·rename_i e
   cases h;subst e;simp only[gd,if_pos]
  ·rename_i e
   split
   ·rw[gd,if_neg e];exact L0 h
   ·split
    ·exact L0 h
    ·rw[gd,if_neg e];exact L0 h
theorem L1{o:Nat}{a1:cv U}(hc:s9 a1=false)(l8:(o,0)∉M):∀{l:List (Nat × cv U)},bw l o=some a1->bw (q3 M l) o=some a1
 |(a,c)::r,h=>by
  rw[gd]at h;simp only[q3];split at h
  ·rename_i e
   cases h;subst e
   have:q0 a 0 M=false:=by
    cases e:q0 a 0 M with
    |false=>rfl
    |true=>exact absurd (Ay.1 e) l8
   cases a1 with
   |cells=>cases hc
   | _=>simp only[this,gd,if_pos]
  ·rename_i e
   split
   ·rw[gd,if_neg e];exact L1 hc l8 h
   ·split
    ·exact L1 hc l8 h
    ·rw[gd,if_neg e];exact L1 hc l8 h
theorem AA{o:Nat}{c':cv U}:∀{l:List (Nat × cv U)},(o,c')∈q3 M l->(∃w cs,(o,.cells w cs)∈l/\c'=.cells w (r2 o M 0 cs))\/((o,c')∈l/\s9 c'=false/\(o,0)∉M)
 |(a,c)::r,h=>by
  have up:((∃w cs,(o,.cells w cs)∈r/\c'=.cells w (r2 o M 0 cs))\/((o,c')∈r/\s9 c'=false/\(o,0)∉M))->(∃w cs,(o,.cells w cs)∈(a,c)::r/\c'=.cells w (r2 o M 0 cs))\/((o,c')∈(a,c)::r/\s9 c'=false/\(o,0)∉M):=
   Or.imp (fun⟨w,cs,h1,h2⟩=>⟨w,cs,lg _ h1,h2⟩) fun⟨h1,h2⟩=>⟨lg _ h1,h2⟩
  simp only[q3]at h;split at h
  ·rcases dL.1 h with e|h
   ·cases e;exact .inl ⟨_,_,qo ..,rfl⟩
   ·exact up (AA h)
  ·rename_i hc
   split at h
   ·exact up (AA h)
   ·rename_i e2
    rcases dL.1 h with e|h
    ·cases e
     refine .inr ⟨qo ..,?_,fun q=>by rw[Ay.2 q]at e2;cases e2⟩;cases c' with
     |cells w cs=>exact absurd rfl (hc w cs)
     | _=>rfl
    ·exact up (AA h)
theorem acR{o:Nat}:∀(cs:List (aO U.ay)) (i:Nat),(r2 o M i cs).length=cs.length
 |[],_=>rfl
 |c::r,i=>by simp[r2,acR r]
theorem acS{o:Nat}:∀(cs:List (aO U.ay)) (i j:Nat),(o,i+j)∉M->(r2 o M i cs)[j]? =cs[j]?
 |[],_,_,_=>rfl
 |c::r,i,0,h=>by
  have:q0 o i M=false:=by
   cases e:q0 o i M with
   |false=>rfl
   |true=>exact absurd (Ay.1 e) h
  simp[r2,this]
 |c::r,i,j+1,h=>by
  simp only[r2,Bd];exact acS r (i+1) j (by rwa [HY,rl])
theorem RY{t:Nat}:∀(l:List Nat) (r:List (Nat × aO U.ay)),bw ((l.map fun t=>(t,aO.lb))++r) t=if t∈l then some .lb else bw r t
 |[],r=>by simp
 |a::l,r=>by
  rw[eG,ky,gd,RY l r];by_cases e:a=t
  ·subst e;simp
  ·simp[e,lj e]
theorem acT:ij W M s (blank W M s) where
 vs:=fun t ht=>by unfold blank;simp only;rw[RY,if_neg ht]
 aJ:=ew
 aC:=aM _
 mem:=fun o w cs hm=>⟨_,L0 hm,acR _ _,fun j hj=>acS _ _ _ (by rwa [er])⟩
 row:=fun o a1 hc hm=>(Decidable.em ((o,0)∈M)).elim .inr fun q=>.inl (L1 hc q hm)
theorem acU{o:Nat}{B x0:List Bool}(dK:B <+: x0)(aR:ρ <+: gf):∀{cs px:List (aO U.ay)} {acV ws:List V} (i:Nat),bz U B ρ fs cs acV->bz U x0 gf fs px ws->px.length=cs.length->(∀j:Nat,(o,i+j)∉M->px[j]? =cs[j]?)->bz U B ρ fs (r2 o M i cs) ws
 | _,_,_,_,i,.nil,.nil,_,_=>.nil
 | _,_,_,_,i,.nil,.cons _ _,hl,_=>by cases hl
 | _,_,_,_,i,.cons _ _,.nil,hl,_=>by cases hl
 |c::cs,dk::px,_,_,i,.cons h r,.cons h1 bH,hl,hj=>by
  refine .cons ?_ (acU dK aR (i+1) r bH (by simpa using hl) fun j q=>by
   have:=hj (j+1) (by rwa [HY,rl]at q);simpa using this)
  split
  ·exact .lb
  ·rename_i e
   have:(o,i)∉M:=fun q=>by rw[Ay.2 q]at e;cases e
   have:=hj 0 (by rwa [yx]);simp only[n4,aA]at this;subst this;exact h.back dK aR h1
theorem acW (R:b6 U b F fs s σ H G ρ)(bL:b6 U b F fs s1 cU H1 az gf)(aR:ρ <+: gf)(gV:ij W M s s1):b6 U b F fs (blank W M s) cU H1 az ρ where
 aC:=R.aC
 vs:=fun t v h=>by
  have h:bw ((W.map fun t=>(t,aO.lb))++s.vs) t=some v:=h;rw[RY]at h;split at h
  ·cases h;exact .lb
  ·rename_i e
   have h1:=h;rw[<-gV.vs t e]at h1;exact(R.vs t v h).back gV.aJ aR (bL.vs t v h1)
 own:=by
  have ag:∀l:List (Nat × cv U),l.map (fun e=>az e.1)=(l.map Prod.fst).map az:=fun l=>by rw[sf];rfl
  have:=bL.own;unfold dV at this⊢;rw[ag]at this⊢;refine this.pick (R.dx.sublist (Az _)) fun o ho=> ?_;obtain⟨⟨o',c⟩,he,rfl⟩:=eM.1 ho;rcases AA he with⟨w,cs,h1,-⟩|⟨h1,hc,h2⟩
  ·obtain⟨cs',av,-⟩:=gV.mem _ _ _ (wN R.dx h1)
   exact Hf av
  ·exact Hf ((gV.row _ _ hc (wN R.dx h1)).resolve_right h2)
 dx:=R.dx.sublist (Az _)
 lt:=fun e he=>by
  have:=(Az (M:=M) s.mem).subset (sa (f:=Prod.fst) he);obtain⟨e',h1,h2⟩:=eM.1 this;rw[<-h2];exact R.lt e' h1
 mem:=fun o a1 h=>by
  have h:bw (q3 M s.mem) o=some a1:=h;rcases AA (jF h)with⟨w,cs,hm,rfl⟩|⟨hm,hc,l8⟩
  ·have hm:=wN R.dx hm
   obtain⟨px,h1,h2,av⟩:=gV.mem o w cs hm;obtain⟨a0,acV,p1,p2,p3,mC⟩:=R.mem o _ hm;obtain⟨a,ws,q1,aT,b3,cZ⟩:=bL.mem o _ h1;have:=nS aR p1;rw[q1]at this;cases this;exact⟨_,ws,p1,aT,acU gV.aJ aR 0 p3 b3 h2 (fun j hj=>av j (by rwa [er]at hj)),cZ⟩
  ·have hm:=wN R.dx hm
   have h0:=R.mem o _ hm;have h1:=bL.mem o _ ((gV.row o a1 hc hm).resolve_right l8);cases a1 with
   |cells=>cases hc
   |row t x=>
    obtain⟨v0,p1,p2⟩:=h0;obtain⟨v,q1,aT⟩:=h1;have:=nS aR p1;rw[q1]at this;cases this;exact⟨_,p1,aT⟩
   |mp k w x=>
    obtain⟨v0,p1,p2⟩:=h0;obtain⟨v,q1,aT⟩:=h1;have:=nS aR p1;rw[q1]at this;cases this;exact⟨_,p1,aT⟩
 ed:=R.ed
def RZ (σ:bY)(G:Nat->List (Nat × cD)):Loc->V->Prop
 | .s t,w=>w=σ t
 | .m o j,w=>∃a ws,G o=[(a,.cells ws)]/\ws[j]? =some w
theorem AB (R:b6 U b F fs s σ H G ρ){l:Loc}{v:aO U.ay}(h:at_ s l=some v):∃w,RZ σ G l w/\b5 U s.aJ ρ fs v w:=by
 cases l with
 |s t=>exact⟨_,rfl,R.vs t v h⟩
 |m o j=>
  simp only[at_]at h;split at h
  ·rename_i wr cs hm
   obtain⟨a,ws,q1,aT,b3,cZ⟩:=R.mem o _ hm;rw[wD]at h;obtain⟨w,ag,e2⟩:=b3.get h;exact⟨w,⟨a,ws,aT,ag⟩,e2⟩
  ·cases h
theorem JF{α:Type}{l:List α}{j:Nat}{a:α}(h:l[j]? =some a):l.set j a=l:=by
 apply yp;intro i;by_cases e:j=i
 ·subst e;rw[tu (fF.1 h).1,h]
 ·rw[lG e]
def acX (s:bB U)(σ:bY)(G:Nat->List (Nat × cD)):Loc->V->Prop
 | .s t,w=>w=σ t
 | .m o j,w=>∀wr cs,bw s.mem o=some (.cells wr cs)->∃a ws,G o=[(a,.cells ws)]/\ws[j]? =some w
theorem Df (R:b6 U b F fs s σ H G ρ){l:Loc}{v:aO U.ay}{w:V}(hw:acX s σ G l w)(af:b5 U s.aJ ρ fs v w):b6 U b F fs (kM s l v) σ H G ρ:=by
 cases l with
 |s t=>
  cases hw;refine⟨R.aC,fun k u h=> ?_,R.own,R.dx,R.lt,R.mem,R.ed⟩;have h:bw ((t,v)::s.vs) k=some u:=h;rw[gd]at h;split at h
  ·rename_i e;cases h;subst e;exact af
  ·exact R.vs k u h
 |m o j=>
  simp only[kM];split
  ·rename_i wr cs hm
   obtain⟨a,ws,ag,e2⟩:=hw wr cs hm;refine⟨R.aC,R.vs,?_,?_,fun e he=> ?_,fun q a1 h=> ?_,R.ed⟩
   ·have:=R.own
    unfold dV at this⊢;have ag:∀l:List (Nat × cv U),l.map (fun e=>G e.1)=(l.map Prod.fst).map G:=fun l=>by rw[sf];rfl
    simp only;rw[ag,xZ,<-ag];exact this
   ·simp only[xZ];exact R.dx
   ·have:e.1∈(l6 o (.cells wr (cs.set j v)) s.mem).map Prod.fst:=sa he
    rw[xZ]at this;obtain⟨e',h1,h2⟩:=eM.1 this;rw[<-h2];exact R.lt e' h1
   ·simp only[uv]at h
    split at h
    ·rename_i e;subst e
     rw[hm]at h;cases h;obtain⟨bl,eK,q1,aT,b3,cZ⟩:=R.mem q _ hm;rw[aT]at ag;cases ag;refine⟨_,_,q1,aT,?_,cZ⟩;have:=b3.set j af;rwa [JF e2]at this
    ·exact R.mem q a1 h
  ·exact R
theorem L2{l:Loc}{v:aO U.ay}:(kM s l v).aJ=s.aJ:=by
 cases l with
 |s t=>rfl
 |m o j=>simp only[kM];split<;>rfl
theorem acY{l:Loc}{v:aO U.ay}:(kM s l v).mem.map Prod.fst=s.mem.map Prod.fst/\(kM s l v).aC=s.aC:=by
 cases l with
 |s t=>exact⟨rfl,rfl⟩
 |m o j=>simp only[kM];split<;>simp[xZ]
theorem arp{l:Loc}{v:aO U.ay}{q:Nat}{w:Bool}{cs:List (aO U.ay)}(h:bw (kM s l v).mem q=some (.cells w cs)):∃cs,bw s.mem q=some (.cells w cs):=by
 cases l with
 |s t=>exact⟨_,h⟩
 |m o j=>
  simp only[kM]at h;split at h
  ·rename_i wr cs' hm
   simp only[uv]at h;split at h
   ·rename_i e;subst e;rw[hm]at h⊢; cases h;exact⟨_,rfl⟩
   ·exact⟨_,h⟩
  ·exact⟨_,h⟩
theorem acZ (a6:gD U){c:Nat}{y:U.ay c}{a1:cv U}{v:aO U.ay}{w:V}(h:LG c v=some y)(af:b5 U [] [] [] v w)(h':rowAt c y=some a1):∃e9 n9,a1=.row e9 n9/\w=bU (U.es e9) (U.enc e9) n9:=by
 unfold LG at h;split at h
 ·cases h
 ·rename_i hn
  unfold rowAt at h';split at h'
  ·rename_i p hp;rw[hn]at hp;cases hp
  ·split at h'
   ·rename_i e9 n9 hs
    cases h';refine⟨e9,n9,rfl,?_⟩;have ag:=a6.iR c _ _ _ _ _ y af h;have e2:=a6.lz c y [] [] [];rw[eF,hs]at e2;rw[ag];generalize U.enc c y=u at e2;cases e2;rfl
   ·cases h'
theorem arq{A B:Type}(h:A=B)(x:B):(h ▸ (h.symm ▸ x:A):B)=x:=by subst h;rfl
theorem ars{c eI j6:Nat}{x:List (U.ay eI × U.ay j6)}{y:U.ay c}(h:Rq c eI j6 x=some y):rowAt c y=some (.mp eI j6 x):=by
 unfold Rq at h;split at h
 ·cases h
 ·rename_i p hp
  split at h
  ·rename_i e
   subst e;cases h;unfold rowAt;split
   ·rename_i Ex pQ
    rw[hp]at pQ;cases pQ;congr 2;exact arq _ _
   ·rename_i hn;rw[hp]at hn;cases hn
  ·cases h
theorem art{α β:Type}{es bN:Nat}{f:α->V}{mg:β->V}{x:ak α}{gx:ak β}{v:V}{m:List (Nat × cD)}(h:bU es f x=bU bN mg gx)(hr:iO b es f v x m):iO b bN mg v gx m:=by
 unfold iO at hr⊢;cases x with
 |nil=>cases gx<;>cases h;cases hr;exact .nil
 |emp=>cases gx<;>cases h;cases hr;exact .emp
 |mk l=>cases gx with
  |mk fS=>
   simp only[bU,V.list.injEq]at h;obtain⟨rfl,h⟩:=h;simp only[ak.map,h]at hr;exact hr
  |nil=>cases h
  |emp=>cases h
theorem aru{α:Type}{es:Nat}{f:α->V}{x:ak α}{v:aO U.ay}{w:V}{c:aO U.ay}(hn:uk v=some c)(af:b5 U [] [] [] c w)(h:w=bU es f x):iO b es f w x []:=by
 unfold uk at hn;split at hn<;>cases hn<;>cases af<;>cases x<;>cases h<;>first|exact .nil|exact .emp
theorem arv{B:List Bool}{v c:aO U.ay}{w:V}(hn:uk v=some c)(af:b5 U B ρ fs v w):b5 U [] [] [] c w:=by
 unfold uk at hn;split at hn<;>cases hn<;>cases af<;>exact .k
structure Fit (az:Nat->List (Nat × cD)) (s1 cP:bB U) (m:Nat) (M:List (Nat × Nat)) (u:List Nat) (f:Nat->Option Nat):Prop where
 ids:∀o∈(cP.mem.map Prod.fst).filterMap f,o∈s1.mem.map Prod.fst
 dx:((cP.mem.map Prod.fst).filterMap f).Nodup
 cells:∀q w cs,bw cP.mem q=some (.cells w cs)->f q=some q
 row:∀o a1,s9 a1=false->bw s1.mem o=some a1->mem o u=false->(m<=o\/(o,0)∈M)->o∉(cP.mem.map Prod.fst).filterMap f
theorem Fit.kM{m:Nat}{u:List Nat}{f:Nat->Option Nat}(h:Fit az s1 cP m M u f){B:List Bool}{l:Loc}{v:aO U.ay}:Fit az s1 (kM {cP with aJ:=B} l v) m M u f:=by
 have e:=(acY (s:={cP with aJ:=B}) (l:=l) (v:=v)).1;refine⟨by rw[e];exact h.ids,by rw[e];exact h.dx,fun q w cs bj=> ?_,by rw[e];exact h.row⟩;obtain⟨cs',h1⟩:=arp bj;exact h.cells q w cs' h1
theorem R0{m:Nat}{u:List Nat}{f:Nat->Option Nat}(h:Fit az s1 cP m M u f){l:Loc}{w:V}(hw:RZ cU az l w):acX cP cU (fun q=>(f q).elim [] az) l w:=by
 cases l with
 |s t=>exact hw
 |m o j=>
  intro wr cs hm;show ∃a ws,(f o).elim [] az=[(a,cD.cells ws)]/\ws[j]? =some w;rw[h.cells o wr cs hm];exact hw
theorem ac0{α β:Type}{f g:α->Option β}:∀{l:List α},(∀a∈l,f a=g a)->l.filterMap f=l.filterMap g
 |[],_=>rfl
 |a::l,h=>by rw[M1,M1,h a (qo ..),ac0 fun b hb=>h b (lg _ hb)]
theorem Fit.add{m:Nat}{u u':List Nat}{f:Nat->Option Nat}(h:Fit az s1 cP m M u f)(bL:b6 U b F fs s1 cU H1 az gf){tb:List V}(R:b6 U b F fs cP cU H1 (fun q=>(f q).elim [] az) tb){a1:cv U}{v:V}{l:Loc}(x:Option Nat)
  (hx:∀o,x=some o->o∈s1.mem.map Prod.fst/\o∉(cP.mem.map Prod.fst).filterMap f/\mem o u'=true) (hu:∀o,mem o u'=false->mem o u=false) (hc:s9 a1=false) (hr:∀B cM,cM[cP.aC]? =some v->q4 U b B cM fs cP.aC (x.elim [] az) a1) (hw:RZ cU az l v):
  ∃mg:Nat->Option Nat,Fit az s1 (hG.kM (kL cP a1) l (.row cP.aC)) m M u' mg/\b6 U b F fs (hG.kM (kL cP a1) l (.row cP.aC)) cU H1 (fun q=>(mg q).elim [] az) (tb++[v]):=by
 refine⟨fun q=>if q=cP.aC then x else f q,?_⟩
 have bu:∀q∈cP.mem.map Prod.fst,¬q=cP.aC:=fun q bj e=>by
  obtain⟨p,hp,e'⟩:=eM.1 bj;exact absurd (R.lt p hp) (by rw[e',e];exact Nat.lt_irrefl _)
 have Db:(kL cP a1).mem.map Prod.fst=cP.aC::cP.mem.map Prod.fst:=rfl
 have em:(cP.aC::cP.mem.map Prod.fst).filterMap (fun q=>if q=cP.aC then x else f q)=x.toList++(cP.mem.map Prod.fst).filterMap f:=by
  have:(cP.mem.map Prod.fst).filterMap (fun q=>if q=cP.aC then x else f q)=(cP.mem.map Prod.fst).filterMap f:=ac0 fun q bj=>if_neg (bu q bj);rw[M1,if_pos rfl,this];cases x<;>rfl
 have L3:Fit az s1 (kL cP a1) m M u' (fun q=>if q=cP.aC then x else f q):=by
  refine⟨?_,?_,fun q w cs bj=> ?_,?_⟩
  ·rw[Db,em]
   intro o ho;rcases kS.1 ho with q|q
   ·exact(hx o (by simpa using q)).1
   ·exact h.ids o q
  ·rw[Db,em,Bg]
   exact⟨by cases x<;>simp,h.dx,fun a ao c hc e=>by subst e;exact(hx a (by simpa using ao)).2.1 hc⟩
  ·have bj:bw ((cP.aC,a1)::cP.mem) q=some (.cells w cs):=bj
   rw[gd]at bj;split at bj
   ·cases bj;cases hc
   ·rename_i e;rw[if_neg (lj e)];exact h.cells q w cs bj
  ·rw[Db,em]
   intro o arw h0 h1 h2 av bc;rcases kS.1 bc with q|q
   ·rw[(hx o (by simpa using q)).2.2]at h2;cases h2
   ·exact h.row o arw h0 h1 (hu o h2) av q
 have Cc:(fun q=>if q=cP.aC then x.elim [] az else(f q).elim [] az)=fun q=>(if q=cP.aC then x else f q).elim [] az:=by
  funext q;split<;>rfl
 have aB:Own H1 (x.elim [] az::dV cP (fun q=>(f q).elim [] az) F):=by
  have ag:∀l:List (Nat × cv U),l.map (fun e=>az e.1)=(l.map Prod.fst).map az:=fun l=>by rw[sf];rfl
  have h1:=bL.own;unfold dV at h1⊢;rw[ag]at h1
  have h2:=h1.aro (l:=x::(cP.mem.map Prod.fst).map f) (by
   rw[M1,List.filterMap_map];have:=L3.dx;rw[Db,em]at this;cases x<;>exact this) (by
   have:=L3.ids;rw[Db,em]at this;rw[M1,List.filterMap_map];cases x<;>exact this)
  simpa[Function.comp_def]using h2
 have eA:=R.add aB (a1:=a1) (v:=v) (hr _ _ (R.new v));rw[Cc]at eA;have gH:=L3.kM (B:=(kL cP a1).aJ) (l:=l) (v:=.row cP.aC);exact⟨gH,Df eA (R0 L3 hw) (.row (R.new v))⟩
theorem x1 (a6:gD U)(bL:b6 U b F fs s1 cU H1 az gf)(aR:ρ <+: gf){B:List Bool}(oJ:B <+: s1.aJ):∀{sh:nq U} {u:List Nat} {x:dD U (iS sh)} {cP:bB U} {f:Nat->Option Nat} {tb:List V},b6 U b F fs cP cU H1 (fun q=>(f q).elim [] az) tb->B <+: cP.aJ->ρ <+: tb->Fit az s1 cP ρ.length M u f->
   oG B.length ρ.length M s1 u sh=some x->∃G' cM,b6 U b F fs (q2 sh x cP) cU H1 G' cM/\ρ <+: cM
 |[],u,_,cP,f,tb,R,_,q6,_,_=>⟨_,_,R,q6⟩
 |(l,.p t)::r,u,x,cP,f,tb,R,dK,q6,dm,h=>by
  simp only[oG]at h;split at h
  ·cases h
  ·rename_i v af
   split at h
   ·cases h
   ·rename_i y hy
    split at h
    ·cases h
    ·rename_i z aI
     cases h;obtain⟨w,aE,bG⟩:=AB bL af;have:=a6.iR _ _ _ _ _ _ _ bG hy;subst this;simp only[q2,G6,G7];refine x1 a6 bL aR oJ (Df (R.ey (LQ _)) (R0 (cP:={cP with aJ:=cP.aJ++U.xS t y}) ⟨dm.ids,dm.dx,dm.cells,dm.row⟩ aE) (a6.lz t y cP.aJ tb fs)) ?_ q6 dm.kM aI;rw[L2];exact dK.trans (h6 _ _)
 |(l,.c v)::r,u,x,cP,f,tb,R,dK,q6,dm,h=>by
  simp only[oG]at h;cases hu:at_ s1 l with
  |none=>rw[hu]at h;cases h
  |some u=>
   rw[hu]at h;cases ag:same u v<;>cases e2:wf B.length ρ.length v<;>simp only[ag,e2]at h
   ·cases h
   ·cases h
   ·cases h
   ·obtain⟨w,aE,bG⟩:=AB bL hu
    have:=LZ oJ aR e2 (RU ag bG);simp only[q2];exact x1 a6 bL aR oJ (Df R (R0 dm aE) (this.mono dK q6)) (by rw[L2];exact dK) q6 (dm.kM (B:=cP.aJ)) h
 |(_,.d)::r,u,x,cP,f,tb,R,dK,q6,dm,h=>by
  exact x1 (sh:=r) (x:=x) a6 bL aR oJ R dK q6 dm (by simp only[oG]at h;exact h)
 |(l,.r c)::r,u,x,cP,f,tb,R,dK,q6,dm,h=>by
  simp only[oG]at h;split at h
  ·cases h
  ·rename_i v af
   obtain⟨w,aE,bG⟩:=AB bL af;split at h
   ·rename_i o
    have key:∀{fr:cv U} {y:U.ay c} {z:dD U (iS r)},bw s1.mem o=some fr->s9 fr=false->hG.mem o u=false->(match Nat.ble ρ.length o with|true=>true|false=>q0 o 0 M)=true->oG B.length ρ.length M s1 (o::u) r=some z->
      (∀a1,rowAt c y=some a1->s9 a1=false/\∀B cM,cM[cP.aC]? =some w->q4 U b B cM fs cP.aC (az o) a1)->∃G' cM,b6 U b F fs (q2 ((l,.r c)::r) (xU (iS r) y z) cP) cU H1 G' cM/\ρ <+: cM:=by
     intro fr y z hm h0 hu hc aI eO
     have hc:ρ.length<=o\/(o,0)∈M:=by
      split at hc
      ·rename_i e;exact .inl (ma e)
      ·exact .inr (Ay.1 hc)
     have mm:∀o',hG.mem o' (o::u)=false->hG.mem o' u=false:=fun o' q=>by
      simp only[hG.mem]at q;split at q
      ·cases q
      ·exact q
     simp only[q2,G6,G7];split
     ·rename_i a1 Ep
      obtain⟨ct,dN⟩:=eO a1 Ep
      obtain⟨mg,f1,f2⟩:=dm.add bL R (u':=o::u) (some o) (fun o' e=>by
       cases e;exact⟨Hf hm,dm.row o fr h0 hm hu hc,by simp[hG.mem]⟩) mm ct dN aE
      exact x1 a6 bL aR oJ f2 (by rw[L2];exact dK) (q6.trans (h6 _ _)) f1 aI
     ·exact x1 a6 bL aR oJ R dK q6 ⟨dm.ids,dm.dx,dm.cells,fun o' a1 a0 al a2 a3=>dm.row o' a1 a0 al (mm o' a2) a3⟩ aI
    split at h
    ·rename_i t lb hm hu hc
     split at h
     ·cases h
     ·rename_i y hy
      split at h
      ·cases h
      ·rename_i z aI
       cases h;refine key hm rfl hu hc aI fun a1 eO=> ?_;obtain⟨e9,n9,rfl,e⟩:=acZ a6 hy .sl eO;obtain⟨v0,q1,aT⟩:=bL.mem o _ hm;cases bG with
       |row ho=>
        rw[q1]at ho;cases ho;exact⟨rfl,fun B cM q=>⟨_,q,art e aT⟩⟩
    ·rename_i eI j6 lb hm hu hc
     split at h
     ·cases h
     ·rename_i y hy
      split at h
      ·cases h
      ·rename_i z aI
       cases h;refine key hm rfl hu hc aI fun a1 eO=> ?_;rw[ars hy]at eO;cases eO;obtain⟨a,q1,aT⟩:=bL.mem o _ hm;cases bG with
       |row ho=>
        rw[q1]at ho;cases ho;exact⟨rfl,fun B cM q=>⟨_,q,aT⟩⟩
    ·cases h
   ·split at h
    ·cases h
    ·rename_i aBB hn
     split at h
     ·cases h
     ·rename_i y hy
      split at h
      ·cases h
      ·rename_i z aI
       cases h;simp only[q2,G6,G7];have ac1:=arv hn bG;split
       ·rename_i a1 Ep
        obtain⟨e9,n9,rfl,e⟩:=acZ a6 hy ac1 Ep;obtain⟨mg,f1,f2⟩:=dm.add (a1:=.row e9 n9) bL R (u':=u) none (fun _ e=>by cases e) (fun _ q=>q) rfl (fun B cM q=>⟨_,q,aru hn ac1 e⟩) aE;exact x1 a6 bL aR oJ f2 (by rw[L2];exact dK) (q6.trans (h6 _ _)) f1 aI
       ·exact x1 a6 bL aR oJ R dK q6 dm aI
theorem b6.L4 (R:b6 U b F fs s σ H G ρ){dS:List Nat}{cN:List (Nat × Nat)}:b6 U b F fs {s with ed:=[],dS:=dS,cN:=cN} σ H G ρ:=
 ⟨R.aC,R.vs,R.own,R.dx,R.lt,R.mem,fun _ _ h=>by cases h⟩
theorem L5 (a6:gD U)(R:b6 U b F fs s σ H G ρ)(bL:b6 U b F fs s1 cU H1 az gf)(aR:ρ <+: gf){sh:nq U}{x:dD U (iS sh)}(gV:ij (fU sh++W) (M++ig sh) s s1)(h:oG s.aJ.length s.aC (M++ig sh) s1 [] sh=some x):
  ∃G' cM,b6 U b F fs (enter W M sh x s) cU H1 G' cM/\ρ <+: cM:=by
 have p7:=acW R bL aR gV;have e:∀l:List Nat,l.filterMap some=l:=fun l=>List.filterMap_some
 obtain⟨G',cM,bH,cw⟩:=x1 a6 bL aR gV.aJ (f:=some) (M:=M++ig sh) p7 ew ew ⟨by
  rw[e];intro o ho;obtain⟨⟨o',c⟩,he,rfl⟩:=eM.1 ho;rcases AA he with⟨w,cs,h1,-⟩|⟨h1,hc,h2⟩
  ·obtain⟨cs',av,-⟩:=gV.mem _ _ _ (wN R.dx h1)
   exact Hf av
  ·exact Hf ((gV.row _ _ hc (wN R.dx h1)).resolve_right h2),by rw[e];exact p7.dx,fun _ _ _ _=>rfl,by
  rw[e];intro o a1 h0 hm _ hc ho;obtain⟨⟨o',c⟩,he,rfl⟩:=eM.1 ho;rcases AA he with⟨w,cs,h1,-⟩|⟨h1,-,h2⟩
  ·obtain⟨cs',av,-⟩:=gV.mem _ _ _ (wN R.dx h1)
   rw[hm]at av;cases av;cases h0
  ·rcases hc with hc|hc
   ·have:=R.lt _ h1
    rw[R.aC]at hc;exact absurd this (Nat.not_lt.2 hc)
   ·exact h2 hc⟩ (by rw[R.aC];exact h)
 exact⟨G',cM,bH.L4,cw⟩
theorem L6{l:Loc}{v:aO U.ay}{B:List Bool}(dK:s.aJ <+: B)(hW:∀t,l=.s t->t∈W)(l8:∀o j,l=.m o j->(o,j)∈M):ij W M s (kM {s with aJ:=B} l v):=by
 cases l with
 |s t=>
  refine⟨fun k ah=> ?_,dK,aM _,fun o w cs h=>⟨cs,h,rfl,fun _ _=>rfl⟩,fun _ _ _ h=>.inl h⟩;show bw ((t,v)::s.vs) k=_;rw[gd,if_neg];intro e;subst e;exact ah (hW _ rfl)
 |m o j=>
  simp only[kM];split
  ·rename_i wr cs hm
   have hm:bw s.mem o=some (.cells wr cs):=hm;refine⟨fun _ _=>rfl,dK,aM _,fun q w cs' h=> ?_,fun q a1 hc h=> ?_⟩
   ·simp only[uv]
    by_cases e:q=o
    ·subst e
     rw[h]at hm;cases hm;refine⟨_,by rw[if_pos rfl,h];rfl,by simp,fun i hi=> ?_⟩;rw[lG];intro e;subst e;exact hi (l8 _ _ rfl)
    ·exact⟨cs',by rw[if_neg e];exact h,rfl,fun _ _=>rfl⟩
   ·simp only[uv]
    by_cases e:q=o
    ·subst e;rw[h]at hm;cases hm;cases hc
    ·rw[if_neg e];exact .inl h
  ·exact⟨fun _ _=>rfl,dK,aM _,fun o w cs h=>⟨cs,h,rfl,fun _ _=>rfl⟩,fun _ _ _ h=>.inl h⟩
theorem arx{a1:cv U}(lt:∀e∈s.mem,e.1<s.aC):ij W M s (kL s a1):=by
 have key:∀{o:Nat} {c:cv U},bw s.mem o=some c->bw (kL s a1).mem o=some c:=fun {o c} h=>by
  show bw ((s.aC,a1)::s.mem) o=_;rw[gd,if_neg (Nat.ne_of_gt (lt _ (jF h)))];exact h
 exact⟨fun _ _=>rfl,ew,DM _,fun o w cs h=>⟨cs,key h,rfl,fun _ _=>rfl⟩,fun _ _ _ h=>.inl (key h)⟩
theorem R1{l:Loc}{v:aO U.ay}{B:List Bool}(lt:∀e∈s.mem,e.1<s.aC):∀e∈(kM {s with aJ:=B} l v).mem,e.1<(kM {s with aJ:=B} l v).aC:=fun e he=>by
 have h:=sa (f:=Prod.fst) he;obtain⟨h1,h2⟩:=acY (s:={s with aJ:=B}) (l:=l) (v:=v);rw[h1]at h;rw[h2];obtain⟨e',q1,aT⟩:=eM.1 h;rw[<-aT];exact lt e' q1
theorem Dg:∀(sh:nq U) (x:dD U (iS sh)) (s:bB U),(∀e∈s.mem,e.1<s.aC)->(∀t∈fU sh,t∈W)->(∀p∈ig sh,p∈M)->ij W M s (q2 sh x s)
 |[],_,_,_,_,_=>.rfl
 |(l,p)::r,x,s,lt,hW,l8=>by
  have R2:∀t,l=.s t->t∈W:=fun t e=>hW t (by subst e;exact qo ..);have Hg:∀t∈fU r,t∈W:=fun t h=>hW t (by cases l<;>first|exact lg _ h|exact h);have R3:∀o j,l=.m o j->(o,j)∈M:=fun o j e=>l8 _ (by subst e;exact qo ..);have Hh:∀q∈ig r,q∈M:=fun q h=>l8 q (by cases l<;>first|exact lg _ h|exact h);cases p with
  |p c=>exact(L6 (h6 _ _) R2 R3).trans (Dg r _ _ (R1 lt) Hg Hh)
  |c v=>exact(L6 (B:=s.aJ) ew R2 R3).trans (Dg r _ _ (R1 (B:=s.aJ) lt) Hg Hh)
  |d=>exact Dg r _ _ lt Hg Hh
  |r c=>
   simp only[q2];split
   ·rename_i a1 _
    have ary:∀e∈(kL s a1).mem,e.1<(kL s a1).aC:=fun e he=>by
     rcases dL.1 he with rfl|he
     ·exact yr _
     ·exact M5 (lt e he)
    exact(arx lt).trans ((L6 (s:=kL s a1) (B:=s.aJ) ew R2 R3).trans (Dg r _ _ (R1 (s:=kL s a1) (B:=s.aJ) ary) Hg Hh))
   ·exact Dg r _ _ lt Hg Hh
theorem ac2 (lt:∀e∈s.mem,e.1<s.aC){sh:nq U}{x:dD U (iS sh)}:ij (fU sh++W) (M++ig sh) s (enter W M sh x s):=by
 have h:=(acT (s:=s) (W:=fU sh++W) (M:=M++ig sh)).trans (Dg sh x _ (fun e he=>by
  obtain⟨e',h1,h2⟩:=eM.1 ((Az (M:=M++ig sh) s.mem).subset (sa (f:=Prod.fst) he));rw[<-h2];exact lt e' h1) (fun t ht=>w7 _ ht) (fun p hp=>pB _ hp))
 exact⟨h.vs,h.aJ,h.aC,h.mem,h.row⟩
theorem ac3 (lt:∀e∈s.mem,e.1<s.aC){sh:nq U}{x:dD U (iS sh)}:Fr s (enter W M sh x s):=by
 have cN:∀{p},p∈M++ig sh->p∈M++(ig sh++s.cN):=fun q=>by rw[<-jJ];exact w7 _ q
 have gV:=ac2 (W:=W) (M:=M) lt (x:=x)
 exact {
  vs:=fun t ht=>gV.vs t fun q=>ht (by
   show t∈fU sh++(W++s.dS);rw[<-jJ];exact w7 _ q)
  dS:=fun t ht=>pB _ (pB _ ht)
  cN:=fun t ht=>pB _ (pB _ ht)
  aJ:=gV.aJ
  aC:=gV.aC
  mem:=fun o w cs h=>by
   obtain⟨cs',h1,h2,av⟩:=gV.mem o w cs h;exact⟨cs',h1,h2,fun j hj=>av j fun q=>hj (cN q)⟩
  row:=fun o a1 hc h=>(gV.row o a1 hc h).imp id cN}
theorem R4{n m:Nat}{sh:nq U}{y:dD U (iS sh)}(h:C6 n m W M sh s1=some y):(∀t∈s1.dS,t∈W)/\(∀o j,(o,j)∈s1.cN->o<m->(o,j)∈M++ig sh)/\oG n m (M++ig sh) s1 [] sh=some y:=by
 unfold C6 at h;split at h
 ·cases h
 ·rename_i ag
  split at h
  ·rename_i e2;exact⟨RW ag,RX e2,h⟩
  ·cases h
theorem ac4{x y:X}(h:LH x y=true):x=y:=by
 cases x<;>cases y<;>simp only[LH]at h<;>first|rfl|cases h|rw[e8 h]
theorem R5{A:Type}[aS A]{S:A->Prop}{n m:Nat}{x:X}{k:X->bB U->A}:∀{os:xX U} {o:Ad U (Ah os)},Ai n m W M x s1 os=some o->∃(sh:nq U) (y:dD U (iS sh)),C6 n m W M sh s1=some y/\(S (leave W M s k os o)->S (k x (enter W M sh y s)))
 |[],_,h=>by cases h
 |[(gx,sh)],o,h=>by
  simp only[Ai]at h;split at h
  ·rename_i e;rw[ac4 e];exact⟨sh,o,h,fun q=>q⟩
  ·cases h
 |(gx,sh)::q::r,o,h=>by
  simp only[Ai]at h;split at h
  ·rename_i e
   split at h
   ·rename_i y hy
    cases h;rw[ac4 e];exact⟨sh,y,hy,fun q=>q⟩
   ·cases h
  ·split at h
   ·rename_i y hy
    cases h;obtain⟨arz,n9,h1,h2⟩:=R5 (S:=S) (k:=k) hy;exact⟨arz,n9,h1,h2⟩
   ·cases h
end
end Go.Abs.hG
