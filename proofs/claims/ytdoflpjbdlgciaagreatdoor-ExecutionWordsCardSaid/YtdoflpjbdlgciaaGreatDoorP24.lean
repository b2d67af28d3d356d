/- Texts of this claim, joined and written short by a program. -/
import Derived.Test.YtdoflpjbdlgciaaGreatDoorP23
import Derived.Test.YtdoflpjbdlgciaaGreatDoorP00
set_option linter.unusedVariables false
set_option linter.unusedSimpArgs false
set_option linter.unusedSectionVars false
namespace Go.Abs.hG
open Go Go.Abs
def s9{U:iE}:cv U->Bool
 | .cells .. =>true
 | _=>false
structure Fr {U:iE} (s ar:bB U):Prop where
 vs:∀t,t∉ar.dS->bw ar.vs t=bw s.vs t
 dS:∀t∈s.dS,t∈ar.dS
 cN:∀p∈s.cN,p∈ar.cN
 aJ:s.aJ <+: ar.aJ
 aC:s.aC<=ar.aC
 mem:∀o w cs,bw s.mem o=some (.cells w cs)->∃cs',bw ar.mem o=some (.cells w cs')/\cs'.length=cs.length/\∀j:Nat,(o,j)∉ar.cN->cs'[j]? =cs[j]?
 row:∀o a1,s9 a1=false->bw s.mem o=some a1->bw ar.mem o=some a1\/(o,0)∈ar.cN
section
variable{U:iE}{b:Nat}{F:cO}{fs:List V}{s ar G1:bB U}{σ bp:bY}{H:Heap}{G:Nat->List (Nat × cD)}{ρ:List V}{aq:kK U}{A:Type}[aS A]{S:A->Prop}{ad:Nat->Option cb}{b0:nT U}
theorem Fr.rfl:Fr s s:=⟨fun _ _=>Eq.refl _,fun _ h=>h,fun _ h=>h,ew,aM _,fun o w cs h=>⟨cs,h,Eq.refl _,fun _ _=>Eq.refl _⟩,fun _ _ _ h=>.inl h⟩
theorem Fr.trans (h:Fr s ar)(k:Fr ar G1):Fr s G1 where
 vs:=fun t ht=>(k.vs t ht).trans (h.vs t fun q=>ht (k.dS t q))
 dS:=fun t ht=>k.dS t (h.dS t ht)
 cN:=fun p hp=>k.cN p (h.cN p hp)
 aJ:=h.aJ.trans k.aJ
 aC:=dc h.aC k.aC
 mem:=fun o w cs hm=>by
  obtain⟨px,h1,h2,av⟩:=h.mem o w cs hm;obtain⟨Hd,ct,dN,jT⟩:=k.mem o w px h1;exact⟨Hd,ct,dN.trans h2,fun j hj=>(jT j hj).trans (av j fun q=>hj (k.cN _ q))⟩
 row:=fun o a1 hc hm=>(h.row o a1 hc hm).elim (k.row o a1 hc) fun q=>.inr (k.cN _ q)
theorem jE.b2 (h:jE s ar):Fr s ar where
 vs:=fun t _=>by rw[h.vs]
 dS:=fun t ht=>by rw[h.dS];exact ht
 cN:=fun t ht=>by rw[h.cN];exact ht
 aJ:=h.aJ
 aC:=by rw[h.aC];exact aM _
 mem:=fun o w cs hm=>⟨cs,by rw[h.mem];exact hm,Eq.refl _,fun _ _=>Eq.refl _⟩
 row:=fun o a1 hc hm=>.inl (by rw[h.mem];exact hm)
theorem RI{α:Type}{l:List (Nat × α)}{t:Nat}(h:t∉l.map Prod.fst):bw l t=none:=by
 cases e:bw l t with
 |none=>rfl
 |some a=>exact absurd (sa (f:=Prod.fst) (jF e)) h
theorem b6.put (R:b6 U b F fs s σ H G ρ){t:Nat}{v:aO U.ay}{w:V}(af:b5 U s.aJ ρ fs v w){dS:List Nat}:b6 U b F fs {s with vs:=(t,v)::s.vs,dS:=dS} (up σ t w) H G ρ where
 aC:=R.aC
 vs:=fun k u h=>by
  rw[gd]at h;split at h
  ·rename_i e;cases h;subst e;rw[vY];exact af
  ·rename_i e;rw[jx _ _ (fun q=>e q.symm)];exact R.vs k u h
 own:=R.own
 dx:=R.dx
 lt:=R.lt
 mem:=R.mem
 ed:=R.ed
theorem RJ{t:Nat}{v:aO U.ay}:Fr s {s with vs:=(t,v)::s.vs,dS:=t::s.dS} where
 vs:=fun k h=>by
  rw[gd,if_neg];intro e;subst e;exact h (qo ..)
 dS:=fun t ht=>lg _ ht
 cN:=fun _ h=>h
 aJ:=ew
 aC:=aM _
 mem:=fun o w cs hm=>⟨cs,hm,Eq.refl _,fun _ _=>Eq.refl _⟩
 row:=fun _ _ _ h=>.inl h
theorem b6.new (R:b6 U b F fs s σ H G ρ)(v:V):(ρ++[v])[s.aC]? =some v:=by rw[<-R.aC];simp
theorem b6.add (R:b6 U b F fs s σ H G ρ){H':Heap}{m':List (Nat × cD)}{a1:cv U}{v:V}(aB:Own H' (m'::dV s G F))(hb:q4 U b s.aJ (ρ++[v]) fs s.aC m' a1):
  b6 U b F fs (kL s a1) σ H' (fun o=>if o=s.aC then m' else G o) (ρ++[v]) where
 aC:=by simp[kL,R.aC]
 vs:=fun t v h=>(R.vs t v h).mono ew (h6 _ _)
 own:=by
  have:dV (kL s a1) (fun o=>if o=s.aC then m' else G o) F=m'::dV s G F:=by
   unfold dV kL;simp only[eG,if_pos,ky];congr 2;refine qn fun e he=> ?_;rw[if_neg (qq (R.lt e he))]
  rw[this];exact aB
 dx:=by
  show(s.aC::s.mem.map Prod.fst).Nodup;refine xc.2 ⟨fun h=> ?_,R.dx⟩;obtain⟨e,he,q⟩:=eM.1 h;exact absurd q (qq (R.lt e he))
 lt:=fun e he=>by
  rcases dL.1 he with rfl|he
  ·exact yr _
  ·exact M5 (R.lt e he)
 mem:=fun o c h=>by
  have h:bw ((s.aC,a1)::s.mem) o=some c:=h;rw[gd]at h;split at h
  ·rename_i e;cases h;subst e;rw[if_pos rfl];exact hb
  ·rename_i e
   have:=(R.mem o c h).mono (ew (l:=s.aJ)) (h6 ρ [v]);simp only[lj e,if_false];exact this
 ed:=R.ed
theorem Dd (R:b6 U b F fs s σ H G ρ){a1:cv U}:Fr s (kL s a1) where
 vs:=fun _ _=>Eq.refl _
 dS:=fun _ h=>h
 cN:=fun _ h=>h
 aJ:=ew
 aC:=DM _
 mem:=fun o w cs hm=>⟨cs,by
  show bw ((s.aC,a1)::s.mem) o=_;rw[gd,if_neg (Nat.ne_of_gt (R.lt _ (jF hm)))];exact hm,Eq.refl _,fun _ _=>Eq.refl _⟩
 row:=fun o c hc hm=>.inl (by
  show bw ((s.aC,a1)::s.mem) o=_;rw[gd,if_neg (Nat.ne_of_gt (R.lt _ (jF hm)))];exact hm)
theorem xZ (o:Nat)(c:cv U):∀l:List (Nat × cv U),(l6 o c l).map Prod.fst=l.map Prod.fst
 |[]=>rfl
 |(k,d)::r=>by
  simp only[l6];split
  ·rfl
  ·simp[xZ o c r]
theorem uv (o:Nat)(c:cv U):∀(l:List (Nat × cv U)) (t:Nat),bw (l6 o c l) t=if t=o then(bw l t).map fun _=>c else bw l t
 |[],t=>by simp[l6,bw]
 |(k,d)::r,t=>by
  simp only[l6];split
  ·rename_i e
   have e:=e8 e;subst e;rw[gd,gd];by_cases q:k=t
   ·subst q;simp
   ·simp[q,lj q]
  ·rename_i e
   have e:k≠o:=fun q=>by rw[q,Bk]at e;cases e
   rw[gd,gd,uv o c r t];by_cases q:k=t
   ·subst q;simp[e]
   ·simp[q]
theorem RL{o f o' j:Nat}:∀{n:Nat} {l:List (Nat × Nat)},(o',j)∈marks o f n l↔(o'=o/\f<=j/\j<f+n)\/(o',j)∈l
 |0,l=>by simp only[marks];constructor<;>intro h<;>first|exact .inr h|(rcases h with h|h;omega;exact h)
 |n+1,l=>by
  simp only[marks,dL,RL (n:=n),bC];constructor
  ·rintro(⟨rfl,rfl⟩|⟨rfl,h⟩|h)
   ·exact .inl ⟨rfl,by omega,by omega⟩
   ·exact .inl ⟨rfl,by omega,by omega⟩
   ·exact .inr h
  ·rintro(⟨rfl,h1,h2⟩|h)
   ·by_cases q:j=f+n
    ·exact .inl ⟨rfl,q⟩
    ·exact .inr (.inl ⟨rfl,h1,by omega⟩)
   ·exact .inr (.inr h)
theorem acH:∀(xs cs:List (aO U.ay)) (o:Nat),(uh cs o xs).length=cs.length
 |[],_,_=>rfl
 |x::xs,cs,o=>by simp[uh,acH xs]
theorem acI:∀(xs cs:List (aO U.ay)) (o j:Nat),¬(o<=j/\j<o+xs.length)->(uh cs o xs)[j]? =cs[j]?
 |[],_,_,_,_=>rfl
 |x::xs,cs,o,j,h=>by
  simp only[dE]at h;rw[uh,acI xs _ (o+1) j (by omega),lG (by omega)]
theorem aq5{o:Nat}{c:cv U}{m:List (Nat × cD)}{k:Nat}(ah:k<s.mem.length)(hid:s.mem[k].1=o)(dx:(s.mem.map Prod.fst).Nodup){cN:List (Nat × Nat)}:
  dV {s with mem:=l6 o c s.mem,cN:=cN} (fun q=>if q=o then m else G q) F=(dV s G F).set k m:=by
 unfold dV;simp only;rw[TJ _ _ (by simpa using ah)];congr 1;have ag:(l6 o c s.mem).map (fun e=>if e.1=o then m else G e.1)=((l6 o c s.mem).map Prod.fst).map (fun q=>if q=o then m else G q):=by rw[sf];rfl
 have e2:s.mem.map (fun e=>G e.1)=(s.mem.map Prod.fst).map G:=by rw[sf];rfl
 rw[ag,e2,xZ];have hk':k<(s.mem.map Prod.fst).length:=by simpa using ah
 have RM:(s.mem.map Prod.fst)[k]=o:=by simpa using hid
 generalize s.mem.map Prod.fst=l at dx hk' RM;apply yp;intro i;rw[kR];by_cases e:k=i
 ·subst e
  rw[tu (by simpa using hk'),jI hk',RM];simp
 ·rw[lG e,kR]
  cases hi:l[i]? with
  |none=>rfl
  |some q=>
   have rT:=(fF.1 hi);obtain⟨rT,bj⟩:=rT;have:q≠o:=fun h=>e ((List.getElem_inj (h₀:=hk') (h₁:=rT) dx).1 (by rw[RM,bj,h]));simp[this]
theorem b6.cA (R:b6 U b F fs s σ H G ρ){H':Heap}{o k:Nat}{c fr:cv U}{m':List (Nat × cD)}{cN:List (Nat × Nat)}(hm:bw s.mem o=some fr)(ah:k<s.mem.length)(hid:s.mem[k].1=o)(hc:q4 U b s.aJ ρ fs o m' c)(aB:Own H' ((dV s G F).set k m')):
  b6 U b F fs {s with mem:=l6 o c s.mem,cN:=cN} σ H' (fun q=>if q=o then m' else G q) ρ where
 aC:=R.aC
 vs:=R.vs
 own:=by rw[aq5 ah hid R.dx];exact aB
 dx:=by show((l6 o _ s.mem).map Prod.fst).Nodup;rw[xZ];exact R.dx
 lt:=fun e he=>by
  have:e.1∈(l6 o c s.mem).map Prod.fst:=sa he;rw[xZ]at this;obtain⟨e',h1,h2⟩:=eM.1 this;rw[<-h2];exact R.lt e' h1
 mem:=fun q a1 h=>by
  have h1:bw (l6 o c s.mem) q=some a1:=h;clear h;rw[uv]at h1;have h:=h1;clear h1;split at h
  ·rename_i e;subst e
   rw[hm]at h;cases h;rw[if_pos rfl];exact hc
  ·rename_i e
   have:=R.mem q a1 h;simp only[e,if_false];exact this
 ed:=R.ed
theorem aq6{o f:Nat}{vs cs:List (aO U.ay)}{w:Bool}(hm:bw s.mem o=some (.cells w cs)):Fr s {s with mem:=l6 o (.cells w (uh cs f vs)) s.mem,cN:=marks o f vs.length s.cN} where
 vs:=fun _ _=>Eq.refl _
 dS:=fun _ h=>h
 cN:=fun p h=>by obtain⟨a,c⟩:=p;exact RL.2 (.inr h)
 aJ:=ew
 aC:=aM _
 mem:=fun q w' cs' h=>by
  simp only[uv];by_cases e:q=o
  ·subst e
   rw[h]at hm;cases hm;exact⟨_,by rw[if_pos rfl,h];rfl,acH _ _ _,fun j hj=>acI _ _ _ _ fun q=>hj (RL.2 (.inl ⟨rfl,q.1,q.2⟩))⟩
  ·exact⟨cs',by rw[if_neg e];exact h,rfl,fun _ _=>rfl⟩
 row:=fun q a1 hc h=>by
  simp only[uv];by_cases e:q=o
  ·subst e;rw[h]at hm;cases hm;cases hc
  ·rw[if_neg e];exact .inl h
theorem acJ{o:Nat}{fr c:cv U}(hc:s9 fr=false)(hm:bw s.mem o=some fr):Fr s {s with mem:=l6 o c s.mem,cN:=(o,0)::s.cN} where
 vs:=fun _ _=>Eq.refl _
 dS:=fun _ h=>h
 cN:=fun p h=>lg _ h
 aJ:=ew
 aC:=aM _
 mem:=fun q w' cs' h=>by
  simp only[uv];by_cases e:q=o
  ·subst e;rw[h]at hm;cases hm;cases hc
  ·exact⟨cs',by rw[if_neg e];exact h,rfl,fun _ _=>rfl⟩
 row:=fun q a1 _ h=>by
  simp only[uv];by_cases e:q=o
  ·subst e;exact .inr (qo ..)
  ·rw[if_neg e];exact .inl h
theorem acK{o n:Nat}:∀{l:List (Nat × cv U)} {a1:cv U},bw l o=some a1->(∀e∈l,e.1<n)->∃k,(l.map fun e=>G e.1)[k]? =some (G o)/\∀(c:cv U) m',((j7 o n c l).map fun e=>if e.1=n then m' else G e.1)=(l.map fun e=>G e.1).set k m'
 |(a,d)::r,a1,h,hn=>by
  simp only[bw]at h;simp only[j7];split at h
  ·rename_i e
   try rw[e]
   refine⟨0,by simp[e8 e],fun c m'=> ?_⟩;simp only[eG,M3,if_pos];congr 1;exact qn fun e he=>if_neg (qq (hn e (lg _ he)))
  ·rename_i e
   try rw[e]
   obtain⟨k,h1,h2⟩:=acK h fun e he=>hn e (lg _ he);refine⟨k+1,by simpa using h1,fun c m'=> ?_⟩;simp only[eG,TS,h2,if_neg (qq (hn _ (qo ..)))]
theorem LV{o n:Nat}{c:cv U}:∀{l:List (Nat × cv U)} {e:Nat × cv U},e∈j7 o n c l->e=(n,c)\/e∈l
 |(a,d)::r,e,h=>by
  simp only[j7]at h;split at h
  ·rcases dL.1 h with h|h
   ·exact .inl h
   ·exact .inr (lg _ h)
  ·rcases dL.1 h with rfl|h
   ·exact .inr (qo ..)
   ·exact(LV h).imp id (lg _)
theorem acL{o n:Nat}{c:cv U}:∀{l:List (Nat × cv U)},(l.map Prod.fst).Nodup->(∀e∈l,e.1<n)->((j7 o n c l).map Prod.fst).Nodup
 |[],h,_=>h
 |(a,d)::r,h,hn=>by
  have h':=xc.1 h;have oZ:∀e∈r,e.1<n:=fun e he=>hn e (lg _ he);simp only[j7];split
  ·refine xc.2 ⟨fun q=> ?_,h'.2⟩
   obtain⟨x,hx,q⟩:=eM.1 q;exact qq (oZ x hx) q
  ·refine xc.2 ⟨fun q=> ?_,acL h'.2 oZ⟩
   obtain⟨x,hx,q⟩:=eM.1 q;rcases LV hx with rfl|hx
   ·exact qq (hn _ (qo ..)) q.symm
   ·exact h'.1 (by rw[<-q];exact sa hx)
theorem acM{o n:Nat}{c:cv U}(hn:n≠o):∀{l:List (Nat × cv U)},(l.map Prod.fst).Nodup->bw (j7 o n c l) o=none
 |[],_=>rfl
 |(a,d)::r,h=>by
  have h':=xc.1 h;simp only[j7];split
  ·rename_i e
   have e:=e8 e;subst e;rw[gd,if_neg hn];exact RI h'.1
  ·rename_i e
   rw[gd,if_neg (fun q=>by rw[q,Bk]at e;cases e)];exact acM hn h'.2
theorem LW{o n q:Nat}{c:cv U}(h1:q≠o)(h2:q≠n):∀l:List (Nat × cv U),bw (j7 o n c l) q=bw l q
 |[]=>rfl
 |(a,d)::r=>by
  simp only[j7];split
  ·rename_i e
   have e:=e8 e;subst e;rw[gd,gd,if_neg (lj h1),if_neg (lj h2)]
  ·rw[gd,gd,LW h1 h2 r]
theorem b6.rep (R:b6 U b F fs s σ H G ρ){o:Nat}{fr:cv U}(hm:bw s.mem o=some fr):∃k:Nat,(dV s G F)[k]? =some (G o)/\∀{H':Heap} {c:cv U} {v:V} {m':List (Nat × cD)} {cN:List (Nat × Nat)},
  q4 U b s.aJ (ρ++[v]) fs s.aC m' c->Own H' ((dV s G F).set k m')->b6 U b F fs {s with mem:=j7 o s.aC c s.mem,aC:=s.aC+1,cN:=cN} σ H' (fun q=>if q=s.aC then m' else G q) (ρ++[v]):=by
 obtain⟨k,h1,h2⟩:=acK (G:=G) hm R.lt;have aH:=(fF.1 h1).1;refine⟨k,by unfold dV;rw[gM aH];exact h1,fun {H' c v m' cN} hc aB=> ?_⟩;have bu:s.aC≠o:=fun e=>absurd (R.lt _ (jF hm)) (by rw[<-e];exact Nat.lt_irrefl _)
 exact {
  aC:=by simp[R.aC]
  vs:=fun t v h=>(R.vs t v h).mono ew (h6 _ _)
  own:=by
   unfold dV at aB⊢;rw[TJ _ _ aH]at aB;rw[show(j7 o s.aC c s.mem).map (fun e=>if e.1=s.aC then m' else G e.1)=_ from h2 c m'];exact aB
  dx:=acL R.dx R.lt
  lt:=fun e he=>by
   rcases LV he with rfl|he
   ·exact yr _
   ·exact M5 (R.lt e he)
  mem:=fun q a1 h=>by
   have h:bw (j7 o s.aC c s.mem) q=some a1:=h;by_cases ag:q=s.aC
   ·subst ag
    rw[if_pos rfl];rcases LV (jF h)with e|e
    ·cases e;exact hc
    ·exact absurd (R.lt _ e) (Nat.lt_irrefl _)
   ·by_cases e2:q=o
    ·subst e2;rw[acM bu R.dx]at h;cases h
    ·rw[LW e2 ag]at h
     rw[if_neg ag];exact(R.mem q a1 h).mono ew (h6 _ _)
  ed:=R.ed}
theorem aq7 (R:b6 U b F fs s σ H G ρ){o t:Nat}{x:ak (U.ay t)}{c:cv U}(hm:bw s.mem o=some (.row t x)):Fr s {s with mem:=j7 o s.aC c s.mem,aC:=s.aC+1,cN:=(o,0)::s.cN} where
 vs:=fun _ _=>Eq.refl _
 dS:=fun _ h=>h
 cN:=fun p h=>lg _ h
 aJ:=ew
 aC:=DM _
 mem:=fun q w' cs' h=>⟨cs',by
  have ag:q≠o:=fun e=>by subst e;rw[h]at hm;cases hm
  show bw (j7 o s.aC c s.mem) q=_;rw[LW ag (qq (R.lt _ (jF h)))];exact h,rfl,fun _ _=>rfl⟩
 row:=fun q a1 _ h=>by
  by_cases e:q=o
  ·subst e;exact .inr (qo ..)
  ·refine .inl ?_
   show bw (j7 o s.aC c s.mem) q=_;rw[LW e (qq (R.lt _ (jF h)))];exact h
theorem aq8{eB:List Nat}{ops:List bP}{wr mP:List Bool}(h:ha wr mP)(ho:rp eB ops mP=true):rp eB ops wr=true:=by
 unfold rp at ho⊢;rcases kz _ _ |>.mp ho with ho|ho
 ·rw[kz];left
  unfold xh at ho⊢;split
  ·rename_i Re
   have aq9:mP.any id=true:=by
    obtain⟨x,hx,iy⟩:=sd.1 Re;simp only[id]at iy;subst iy;obtain⟨i,hi⟩:=oN.1 hx;exact sd.2 ⟨true,e0 (h.get hi),rfl⟩
   rw[if_pos aq9]at ho;rw[eV]at ho⊢;rintro⟨w,i⟩ hw;cases w with
   |false=>rfl
   |true=>
    have hi:=h.get (jm.1 hw);exact ho (true,i) (jm.2 hi)
  ·rfl
 ·rw[kz];exact .inr ho
theorem ara{B:List Bool}{v:aO U.ay}{w:V}(h:Rl v=true)(af:b5 U B ρ fs v w):plainCell w=true:=by
 cases af<;>simp only[Rl]at h
 case sl s=>cases s<;>rfl
 all_goals first|rfl|exact h|cases h
theorem acN{B:List Bool}:∀{cs:List (aO U.ay)} {ws:List V},LD cs=true->bz U B ρ fs cs ws->mf ws=true
 | _,_,_,.nil=>rfl
 | _,_,h,.cons h' r=>by
   simp only[LD]at h;split at h
   ·rename_i e;simp only[mf,ara e h',acN h r,xd]
   ·cases h
theorem acO{B:List Bool}{u:aO U.ay}{w:V}{f:Nat}{vs:List (aO U.ay)}{ws:List V}(h:(match f,vs with|0,[x]=>some x| _,_=>none)=some u)(hs:bz U B ρ fs vs ws)(hw:∀l,w≠ .agg l):∃w',xg w f ws=some w'/\b5 U B ρ fs u w':=by
 split at h
 ·cases h
  cases hs with
  |cons hx r=>cases r;exact⟨_,by unfold xg;split;exact absurd rfl (hw _);rfl,hx⟩
 ·cases h
theorem arb{B:List Bool}{v u:aO U.ay}{w:V}{f:Nat}{vs:List (aO U.ay)}{ws:List V}(h:Rm v f vs=some u)(af:b5 U B ρ fs v w)(hs:bz U B ρ fs vs ws):∃w',xg w f ws=some w'/\b5 U B ρ fs u w':=by
 cases af<;>simp only[Rm]at h
 case agg af=>
  split at h
  ·rename_i e
   cases h;refine⟨_,?_,.agg (LP hs f af)⟩;simp only[xg];rw[if_pos (by rw[<-af.length,<-hs.length];exact ma e)]
  ·cases h
 case sl s=>exact acO h hs (fun l e=>by cases s<;>cases e)
 all_goals first|cases h|exact acO h hs (fun l e=>by cases e)
theorem De{B:List Bool}{t:Nat}{v:aO U.ay}{w:V}{l:ak (U.ay t)}(h:e7 t v=some l)(af:b5 U B ρ fs v w):w=bU (U.es t) (U.enc t) l:=by
 unfold e7 at h;split at h
 ·split at h
  ·rename_i e;subst e;cases h;cases af;rfl
  ·cases h
 ·cases h;cases af;rfl
 ·cases h;cases af;rfl
 ·cases h
theorem arc{B:List Bool}:∀z:List V,b5 U B ρ fs (aci z) (lJ z)
 |[]=>.agg .nil
 |[v]=>LO v
 |a::c::r=>.agg (G2 (a::c::r))
theorem ard{a c:aj}{b1:IntKind}{n:Int}(h:Rk a c=true)(ao:bV bp σ a=.int b1 n):∃k,bV bp σ c=.int k n:=by
 unfold Rk at h;split at h
 ·rw[e8 h]at ao;exact⟨_,ao⟩
 ·rw[e8 h]at ao;exact⟨_,ao⟩
 ·have:=of_decide_eq_true h
  subst this;cases ao;exact⟨_,rfl⟩
 ·cases h
set_option maxHeartbeats 1000000 in
theorem RN{m':List (Nat × cv U)}:∀{l:List (Nat × cv U)} {o:Nat} {c:cv U},(o,c)∈l->bw m' o=none->(o,0)∈gone m' l
 |(a,d)::r,o,c,h,hn=>by
  simp only[gone];rcases dL.1 h with e|h
  ·cases e;rw[hn];exact qo ..
  ·split
   ·exact RN h hn
   ·exact lg _ (RN h hn)
theorem RO{m':List (Nat × cv U)}:∀{l:List (Nat × cv U)} {o:Nat} {w:Bool} {cs:List (aO U.ay)},C4 m' l=true->(o,cv.cells w cs)∈l->∃c,bw m' o=some c
 |(a,d)::r,o,w,cs,h,fO=>by
  simp only[C4]at h;rcases dL.1 fO with e|hm
  ·cases e
   simp only at h;split at h
   ·rename_i c hc;exact⟨c,hc⟩
   ·cases h
  ·split at h
   ·split at h
    ·exact RO h hm
    ·cases h
   ·exact RO h hm
theorem arf{len:Nat}{parts:List (Nat × aj)}{jM:Bool}{o:Nat}{x:aj}(h:Ro aq s len parts jM=some (o,x)):len=1/\parts=[(0,x)]/\jM=true/\ai aq s x=some (.row o):=by
 unfold Ro at h;split at h
 ·split at h
  ·rename_i he;cases h;exact⟨rfl,rfl,rfl,he⟩
  ·cases h
 ·cases h
theorem RP{o:Nat}:∀{m:List (Nat × cv U)} {k:Nat},k≠o->bw (r1 o m) k=bw m k
 |[],_,_=>rfl
 |(a,c)::r,k,ah=>by
  simp only[r1];split
  ·rename_i e
   have e:=e8 e;rw[gd,if_neg (by rw[e];exact fun q=>ah q.symm)]
  ·rw[gd,gd,RP ah]
theorem B2 (a6:gD U)(aD:l7 S)(hT:q5 ad b0)(ae:∀j f,nth b0.fv j=some f->∃w,fs[j]? =some w/\nW ad F f.ec f.rt f.f w)
  (R:b6 U b F fs s σ H G ρ) (b4:∀t v,bw aq t=some v->b5 U s.aJ ρ fs v (bp t)) {d:Option (Nat × Bool)} {op:cS} {g:Option (aj × Bool)} {rest:List bP} {wr:List Bool} {k:aO U.ay->bB U->Bool->A} {Q:bY->Heap->List Bool->Prop}
  (h:S (oper b0 aq s d k op)) (hw:gQ bp σ g=some true)
  (cT:∀v ar w H' G' cM mv RQ,S (k v ar RQ)->(mv=true->RQ=true)->b6 U b F fs ar σ H' G' cM->b5 U ar.aJ cM fs v w->ρ <+: cM->Fr s ar->Op ad b rest (gl bp d w) (gm σ d w) H' (mv::wr) Q):
  Op ad b (⟨d,op,g⟩::rest) bp σ H wr Q:=by
 unfold oper at h;split at h
 ·rename_i z
  refine zC hw R.own fun H' a ao aB=> ?_;exact cT _ _ _ _ _ _ _ _ h (fun _=>rfl) (R.add aB ⟨a,_,R.new _,rfl,G2 z,fun _=>ao⟩) (.ptr (R.new _)) (h6 _ _) (Dd R)
 ·rename_i x
  split at h
  ·exact absurd h aD.bad
  ·rename_i v af
   split at h
   ·exact absurd h aD.bad
   ·rename_i cs hc
    split at h
    ·rename_i ho
     have fa:=Ak hc (db R b4 af);refine P5 hw R.own rfl (Rw ho fa) fun H' a ao aB=> ?_;exact cT _ _ _ _ _ _ _ _ h (fun _=>rfl) (R.add aB ⟨a,_,R.new _,rfl,fa.mono ew (h6 _ _),fun _=>ao⟩) (.ptr (R.new _)) (h6 _ _) (Dd R)
    ·exact absurd h aD.bad
 ·rename_i n x y
  split at h
  ·rename_i o f v hx hy
   split at h
   ·rename_i cs vs hm hc
    split at h
    ·rename_i ag e2 bI
     have ze:=db R b4 hx;generalize As:bV bp σ x=wL at ze;cases ze with
     |ptr ho=>
      obtain⟨a,ws,q1,aT,b3,cZ,fq⟩:=R.cells hm;rw[q1]at ho;cases ho;have c3:=aqQ R hc (db R b4 hy);obtain⟨i,hi,aH,G8,hid⟩:=R.at hm
      refine zD hw R.own i (by rw[hi,aT]) (fq rfl) As rfl ⟨by rw[<-c3.length];exact e8 ag,by
       have:=e8 ag;rw[<-cZ.length];exact ma e2⟩ (acq R bI c3) rfl fun H' aB=> ?_
      exact cT _ _ _ _ _ _ _ _ h (fun _=>rfl) (R.cA hm aH hid ⟨_,_,q1,rfl,LP c3 f cZ,fq⟩ aB) .k ew (aq6 hm)
    ·exact absurd h aD.bad
   ·exact absurd h aD.bad
  ·rename_i o i f v hx hy
   split at h
   ·rename_i t cu vs hm hc
    split at h
    ·rename_i ag e2
     obtain⟨e,he,h⟩:=aD.c2 h;obtain⟨aBz,ar,h1,h2,av⟩:=Al (ρ:=ρ) (fs:=fs) a6 h;split at h1
     ·exact absurd h1 aD.bad
     ·rename_i u hu
      split at h1
      ·exact absurd h1 aD.bad
      ·rename_i e' he'
       have oh:=R.ey h2;have lO:bw ar.mem o=some (.row t cu):=by rw[h2.mem];exact hm
       have ze:=db R b4 hx;generalize As:bV bp σ x=wL at ze;cases ze with
       |jk ho=>
        obtain⟨v0,q1,aT⟩:=oh.mem o _ lO;rw[q1]at ho;cases ho;have:=aT.acx;subst this;have c3:=(Ak hc (db R b4 hy)).mono h2.aJ ew;obtain⟨k,hi,aH,G8,hid⟩:=oh.at lO;obtain⟨w',p1,p2⟩:=arb hu av c3;have jh:=a6.iR _ _ _ _ _ _ _ p2 he';subst jh;refine anW hw k he oh.own hi aT rfl As rfl (by rw[<-c3.length];exact e8 ag) (acN e2 c3) p1 fun H' m' hr aB=> ?_;exact cT _ _ _ _ _ _ _ _ h1 (fun _=>rfl) (oh.cA lO aH hid ⟨_,q1,hr⟩ aB) .k ew (h2.b2.trans (acJ rfl lO))
    ·exact absurd h aD.bad
   ·exact absurd h aD.bad
  ·exact absurd h aD.bad
 ·rename_i es bytes iC ki
  split at h
  ·rename_i o y uw Au
   split at h
   ·rename_i t x hm
    unfold C5 at h;split at h
    ·rename_i ta ag e2
     obtain⟨z,aI,h⟩:=aD.c2 h;have nB:=db R b4 uw;generalize hf:bV bp σ iC=wa at nB;cases nB with
     |row ho=>
      obtain⟨v0,q1,aT⟩:=R.mem o _ hm;rw[q1]at ho;cases ho;have ag:=e8 ag;subst ag;obtain⟨k,hi,qH⟩:=R.rep hm;refine aby hw k aI R.own hi aT hf (De e2 (db R b4 Au)) (a6.bQ t) (a6.ok t) fun H' v' m' mv hr aB=> ?_;exact cT _ _ _ _ _ _ _ _ h (fun _=>rfl) (qH ⟨v',R.new v',hr⟩ aB) (.row (R.new v')) (h6 _ _) (aq7 R hm)
    ·exact absurd h aD.bad
   ·exact absurd h aD.bad
  ·rename_i x t y _ uw Au
   have key:∀{cu:ak (U.ay t)} {gk:V},bV bp σ iC=gk->iO b (U.es t) (U.enc t) gk cu []->S (C5 s es bytes t cu none (.sl t y) k)->Op ad b (⟨d,.append es bytes iC ki,g⟩::rest) bp σ H wr Q:=by
    intro cu gk hf arh rC;unfold C5 at rC;split at rC
    ·rename_i ta ag e2
     obtain⟨z,aI,rC⟩:=aD.c2 rC;have ag:=e8 ag;subst ag;refine aby (ms:=[]::dV s G F) hw 0 aI (R.own.ins 0) rfl arh hf (De e2 (db R b4 Au)) (a6.bQ t) (a6.ok t) fun H' v' m' mv hr aB=> ?_;exact cT _ _ _ _ _ _ _ _ rC (fun _=>rfl) (R.add aB ⟨v',R.new v',hr⟩) (.row (R.new v')) (h6 _ _) (Dd R)
    ·exact absurd rC aD.bad
   have hn:=db R b4 uw;split at h
   ·rename_i e
    exact key (G5 e hn) .nil h
   ·rename_i e
    exact key (G5 e hn) .emp h
   ·exact absurd h aD.bad
  ·exact absurd h aD.bad
 ·rename_i es z bytes ari tJ
  split at h
  ·rename_i q fD
   split at h
   ·rename_i t b1 n ht hs hl
    split at h
    ·rename_i e ag e2
     obtain⟨x,hx,h⟩:=aD.c2 h;have ag:=e8 ag;subst ag;have lM:=db R b4 hl;generalize Rd:bV bp σ ari=wl at lM;cases lM;obtain⟨abI,hc⟩:=ard hs Rd;refine anU hw hx R.own (a6.iR _ _ _ _ _ _ _ (arc (ρ:=ρ) (fs:=fs) z) e2) Rd hc fun H' v' m' mv hr aB=> ?_;exact cT _ _ _ _ _ _ _ _ h (fun _=>rfl) (R.add aB ⟨v',R.new v',hr⟩) (.row (R.new v')) (h6 _ _) (Dd R)
    ·exact absurd h aD.bad
   ·exact absurd h aD.bad
  ·exact absurd h aD.bad
 ·split at h
  ·rename_i q fD
   split at h
   ·rename_i c hc
    split at h
    ·rename_i p hp
     refine abv hw R.own fun H' a ao aB=> ?_;exact cT _ _ _ _ _ _ _ _ h (fun _=>rfl) (R.add aB ⟨a,R.new _,rfl,ao⟩) (.row (R.new _)) (h6 _ _) (Dd R)
    ·exact absurd h aD.bad
   ·exact absurd h aD.bad
  ·exact absurd h aD.bad
 ·rename_i kind x i y
  split at h
  ·rename_i o v u hx hi hy
   split at h
   ·rename_i eI j6 m hm
    split at h
    ·rename_i key val ag e2 bI
     have eN:=db R b4 hx;generalize hf:bV bp σ x=wa at eN;cases eN with
     |row ho=>
      obtain⟨a,q1,aT,b3⟩:=R.mem o _ hm;obtain⟨bE,ah,aH,G8,hid⟩:=R.at hm;rw[q1]at ho;cases ho;refine @abH ad b bp σ H wr rest _ _ ⟨U.beq eI⟩ _ _ _ _ m key val _ _ _ _ _ _ _ hw (RA a6 bI) R.own bE (by rw[ah,aT]) b3 hf (a6.iR _ _ _ _ _ _ _ (db R b4 hi) ag) (a6.iR _ _ _ _ _ _ _ (db R b4 hy) e2) (a6.bQ _ _) fun H' aB=> ?_;exact cT _ _ _ _ _ _ _ _ h (fun _=>rfl) (R.cA hm aH hid ⟨a,q1,rfl,b3⟩ aB) .k ew (acJ rfl hm)
    ·exact absurd h aD.bad
   ·exact absurd h aD.bad
  ·exact absurd h aD.bad
 ·rename_i f aU
  split at h
  ·rename_i fv arj Av wO
   split at h
   ·split at h
    ·obtain⟨v,ar,w,eK,m',h1,h2,av,bc,h5,gb,lu⟩:=aq4 a6 aD R hT ae h (db R b4 Av) (wK R b4 wO)
     have bL:=R.ey h2;have bu:∀{k:Nat} {c:cv U},bw m' k=some c->bw s.mem k=some c:=fun ah=>RG gb R.dx ah
     have eA:∀{H'},Own H' (m'.map (fun e=>G e.1)++F)->b6 U b F fs {ar with mem:=m',cN:=gone m' s.mem++ar.cN} σ H' G ρ:=fun aB=>
      ⟨bL.aC,bL.vs,aB,R.dx.sublist (gb.map _),fun p hp=>by rw[h2.aC];exact R.lt p (gb.subset hp),fun k c ah=>(R.mem k c (bu ah)).mono h2.aJ ew,bL.ed⟩
     have eP:Fr s {ar with mem:=m',cN:=gone m' s.mem++ar.cN}:=⟨fun t ht=>by rw[h2.vs],fun t ht=>by rw[h2.dS];exact ht,fun p hp=>pB _ (by rw[h2.cN];exact hp),h2.aJ,by rw[h2.aC];exact aM _,fun o w cs hm=>by
      obtain⟨c,hc⟩:=RO lu (jF hm);have:=bu hc;rw[hm]at this;cases this;exact⟨cs,hc,rfl,fun _ _=>rfl⟩,fun o c hc hm=>by
      cases bj:bw m' o with
      |none=>exact .inr (w7 _ (RN (jF hm) bj))
      |some c'=>
       have:=bu bj;rw[hm]at this;cases this;exact .inl rfl⟩
     cases acP:flat w with
     |true=>exact abJ hw R.own bc h5 acP rfl rfl (cT _ _ _ _ _ _ _ _ h1 (fun _=>rfl) (eA (R.own.sub ((gb.map _).append (sb _)))) av ew eP)
     |false=>exact anX hw R.own bc (fun H low r hr=>by obtain⟨x,y,z⟩:=r;exact(OB (OC 16) hr).2) h5 acP rfl rfl fun H' mv aB=>cT _ _ _ _ _ _ _ _ h1 (fun _=>rfl) (eA aB) av ew eP
    obtain⟨v,ar,w,eK,gR,h1,h2,av,bc,h5,gb⟩:=aq3 a6 aD R hT ae h (db R b4 Av) (wK R b4 wO);exact abJ hw R.own bc h5 gb rfl rfl (cT _ _ _ _ _ _ _ _ h1 (fun q=>by cases q) (R.ey h2) av ew h2.b2)
   obtain⟨v,ar,w,h1,h2,av,bc⟩:=acC a6 aD R hT ae h (db R b4 Av) (wK R b4 wO);exact iN hw (Cr (bc H R.own).1 (bc H R.own).2 rfl rfl) (cT _ _ _ _ _ _ _ _ h1 (fun q=>by cases q) (R.ey h2) av ew h2.b2)
  ·exact absurd h aD.bad
 ·rename_i wj aU
  split at h
  ·rename_i i v BO wO
   split at h
   ·rename_i p hp
    split at h
    ·rename_i x hx
     obtain⟨z,aI,h⟩:=aD.c2 h;obtain⟨n,ark,dm,hn⟩:=hT.2 _ (jF hp);have ao:=wK R b4 wO
     obtain⟨iC,rfl⟩:∃iC,aU=[iC]:=by
      have:=ao.length
      match aU,this with
      |[iC],_=>exact⟨iC,rfl⟩
     cases ao with
     |cons af _=>
      have iI:=db R b4 BO;generalize RR:bV bp σ wj=wf at iI;cases iI with
      |fn hl=>
       cases hl;refine an7 (ms:=dV s G F) hw dm hn aI R.own RR (De hx af) (a6.bQ p.1) (a6.ok p.1) fun H' v' m' mv hr aB=> ?_;exact cT _ _ _ _ _ _ _ _ h (fun _=>rfl) (R.add aB ⟨v',R.new v',hr⟩) (.row (R.new v')) (h6 _ _) (Dd R)
    ·exact absurd h aD.bad
   ·exact absurd h aD.bad
  ·exact absurd h aD.bad
 ·rename_i es z len parts jM
  split at h
  ·rename_i o aBA hl
   obtain⟨rfl,rfl,rfl,arl⟩:=arf hl;split at h
   ·rename_i q _
    split at h
    ·rename_i t e9 x ht hm
     split at h
     ·rename_i e he fc
      have af:=db R b4 arl;obtain⟨w',nf,z2,-⟩:=Ar (n:=16) (F:=F) (m':=r1 o s.mem) (v':=.sl e9 x) a6 R.Hb (by simp only[qU,hm]) af;have jh:=a6.iR _ _ _ _ _ _ _ z2 he;have fc:=e8 fc;have bu:∀{k:Nat} {c:cv U},bw (r1 o s.mem) k=some c->bw s.mem k=some c:=fun ah=>RG (Ha o _) R.dx ah;subst jh;refine an8 hw R.own nf rfl (a6.bQ t e) ⟨by rw[a6.es,fc],a6.ok t e⟩ fun H' mv aB=> ?_
      refine cT _ {s with mem:=r1 o s.mem,cN:=(o,0)::s.cN} _ H' G ρ mv true h (fun _=>rfl) ⟨R.aC,R.vs,aB,R.dx.sublist ((Ha o _).map _),fun p hp=>R.lt p ((Ha o _).subset hp),fun k c ah=>R.mem k c (bu ah),R.ed⟩ ?_ ew
       ⟨fun _ _=>rfl,fun _ h=>h,fun _ h=>lg _ h,ew,aM _,fun k w cs ah=>⟨cs,(RP fun e=>by subst e;rw[hm]at ah;cases ah).trans ah,rfl,fun _ _=>rfl⟩,fun k c hc ah=> ?_⟩
      ·have:b5 U s.aJ ρ fs (.sl t (.mk [e])) (bU (U.es t) (U.enc t) (.mk [e])):=.sl
       rw[fc]at this;exact this
      ·by_cases e:k=o
       ·subst e;exact .inr (qo ..)
       ·exact .inl ((RP e).trans ah)
     ·exact absurd h aD.bad
    ·exact absurd h aD.bad
   ·exact absurd h aD.bad
  ·obtain⟨v,ar,w,h1,h2,av,bc⟩:=RB (call:=cl ad) a6 aD R b4 h
   exact iN hw (bc H R.own) (cT _ _ _ _ _ _ _ _ h1 (fun q=>by cases q) (R.ey h2) av ew h2.b2)
 ·obtain⟨v,ar,w,h1,h2,av,bc⟩:=RB (call:=cl ad) a6 aD R b4 h
  exact iN hw (bc H R.own) (cT _ _ _ _ _ _ _ _ h1 (fun q=>by cases q) (R.ey h2) av ew h2.b2)
theorem RS{t:Nat}{v:aO U.ay}{w:V}{B:List Bool}(b4:∀t v,bw aq t=some v->b5 U B ρ fs v (bp t))(af:b5 U B ρ fs v w):∀k u,bw ((t,v)::aq) k=some u->b5 U B ρ fs u (up bp t w k):=fun k u h=>by
 rw[gd]at h;split at h
 ·rename_i e;cases h;subst e;rw[vY];exact af
 ·rename_i e;rw[jx _ _ (fun q=>e q.symm)];exact b4 k u h
theorem Aw (a6:gD U)(aD:l7 S)(hT:q5 ad b0)(ae:∀j f,nth b0.fv j=some f->∃w,fs[j]? =some w/\nW ad F f.ec f.rt f.f w){k:bB U->List Bool->A}{Q:bY->Heap->List Bool->Prop}:
  ∀{ops:List bP} {aq:kK U} {bp:bY} {s:bB U} {σ:bY} {H:Heap} {G:Nat->List (Nat × cD)} {ρ:List V} {wr mP:List Bool},S (so b0 ops aq s mP k)->ha wr mP->b6 U b F fs s σ H G ρ->(∀t v,bw aq t=some v->b5 U s.aJ ρ fs v (bp t))->
  (∀ar aV H' G' cM fD Ax,S (k ar Ax)->ha fD Ax->b6 U b F fs ar aV H' G' cM->ρ <+: cM->Fr s ar->Q aV H' fD)->Op ad b ops bp σ H wr Q
 |[],aq,bp,s,σ,H,G,ρ,wr,mP,h,hl,R,b4,cT=>gJ (cT _ _ _ _ _ _ _ h hl.rev R ew .rfl)
 |⟨d,op,g⟩::r,aq,bp,s,σ,H,G,ρ,wr,mP,h,hl,R,b4,cT=>by
  have fin:∀{s1:bB U} {H1:Heap} {az:Nat->List (Nat × cD)} {gf:List V} {v:aO U.ay} {w:V} {m RT:Bool},(m=true->RT=true)->b6 U b F fs s1 σ H1 az gf->b5 U s1.aJ gf fs v w->ρ <+: gf->Fr s s1->
    S (match put aq s1 v d with|(aq,s)=>so b0 r aq s (RT::mP) k)->Op ad b r (gl bp d w) (gm σ d w) H1 (m::wr) Q:=by
   intro s1 H1 az gf v w m RT hm bL af aR eP h1;have py:∀t v,bw aq t=some v->b5 U s1.aJ gf fs v (bp t):=fun t v q=>(b4 t v q).mono eP.aJ aR
   match d with
   |none=>exact Aw a6 aD hT ae h1 (.cons hm hl) bL py fun ar aV H' G' cM fD Ax al a0 a2 a3 a4=>cT _ _ _ _ _ _ _ al a0 a2 (aR.trans a3) (eP.trans a4)
   |some (t,false)=>exact Aw a6 aD hT ae h1 (.cons hm hl) bL (RS py af) fun ar aV H' G' cM fD Ax al a0 a2 a3 a4=>cT _ _ _ _ _ _ _ al a0 a2 (aR.trans a3) (eP.trans a4)
   |some (t,true)=>exact Aw a6 aD hT ae h1 (.cons hm hl) (bL.put af) py fun ar aV H' G' cM fD Ax al a0 a2 a3 a4=>cT _ _ _ _ _ _ _ al a0 a2 (aR.trans a3) (eP.trans (RJ.trans a4))
  have go:∀{s1:bB U},jE s s1->gQ bp σ g=some true->S (oper b0 aq s1 d (fun v s m=>match put aq s v d with|(aq,s)=>so b0 r aq s (m::mP) k) op)->Op ad b (⟨d,op,g⟩::r) bp σ H wr Q:=by
   intro s1 ah hw h1;exact B2 a6 aD hT ae (R.ey ah) (fun t v q=>(b4 t v q).mono ah.aJ ew) h1 hw fun v ar w H' G' cM mv RQ al a0 a2 a3 a4 a5=>fin a0 a2 a3 a4 (ah.b2.trans a5) al
  have skip:∀{s1:bB U},jE s s1->gQ bp σ g=some false->S (match put aq s1 (.bd []) d with|(aq,s)=>so b0 r aq s (false::mP) k)->Op ad b (⟨d,op,g⟩::r) bp σ H wr Q:=by
   intro s1 ah hw h1;exact PZ (o:=⟨d,op,g⟩) hw (fin (fun q=>q) (R.ey ah) (.bd .nil) ew ah.b2 h1)
  simp only[so]at h
  match g with
  |none=>exact go .rfl rfl h
  |some (x,w)=>
   simp only at h;split at h
   ·exact absurd h aD.bad
   ·rename_i v af
    have mF:=db R b4 af;split at h
    ·generalize As:bV bp σ x=wL at mF
     cases mF with
     |bd eS=>cases eS;exact skip .rfl (abr As) h
    ·cases w with
     |true=>
      obtain⟨β,s1,ag,e2,bI,cz⟩:=C8 aD h R.ed mF;rcases cz with⟨rfl,h⟩|⟨rfl,h⟩
      ·exact go e2 (jf ag rfl) h
      ·exact skip e2 (J6 ag rfl) h
     |false=>
      obtain⟨β,s1,ag,e2,bI,cz⟩:=C8 aD h R.ed mF;rcases cz with⟨rfl,h⟩|⟨rfl,h⟩
      ·exact skip e2 (J7 ag rfl) h
      ·exact go e2 (jf ag rfl) h
end
end Go.Abs.hG
