/- Texts of this claim, joined and written short by a program. -/
import Derived.Test.YtgkcikhegodchaaGreatDoorP25
import Derived.Test.YtgkcikhegodchaaGreatDoorP00
set_option linter.unusedVariables false
set_option linter.unusedSimpArgs false
set_option linter.unusedSectionVars false
namespace Go.Abs.hv
open Go Go.Abs
def uu{J:iT}:cp J->Bool
 | .cells .. =>true
 | _=>false
structure Fr {J:iT} (s ar:bE J):Prop where
 vs:∀t,t∉ar.dR->bt ar.vs t=bt s.vs t
 dR:∀t∈s.dR,t∈ar.dR
 cL:∀p∈s.cL,p∈ar.cL
 aQ:s.aQ <+: ar.aQ
 aE:s.aE<=ar.aE
 mem:∀o w cs,bt s.mem o=some (.cells w cs)->∃cs',bt ar.mem o=some (.cells w cs')/\cs'.length=cs.length/\∀j:Nat,(o,j)∉ar.cL->cs'[j]? =cs[j]?
 row:∀o aY,uu aY=false->bt s.mem o=some aY->bt ar.mem o=some aY\/(o,0)∈ar.cL
section
variable{J:iT}{b:Nat}{F:cG}{fs:List V}{s ar HD:bE J}{σ a8:bY}{H:Heap}{G:Nat->List (Nat × cf)}{ρ:List V}{aq:k7 J}{A:Type}[aP A]{S:A->Prop}{aa:Nat->Option cc}{cx:oj J}
theorem Fr.rfl:Fr s s:=⟨fun _ _=>Eq.refl _,fun _ h=>h,fun _ h=>h,ei,aN _,fun o w cs h=>⟨cs,h,Eq.refl _,fun _ _=>Eq.refl _⟩,fun _ _ _ h=>.inl h⟩
theorem Fr.trans (h:Fr s ar)(k:Fr ar HD):Fr s HD where
 vs:=fun t ht=>(k.vs t ht).trans (h.vs t fun q=>ht (k.dR t q))
 dR:=fun t ht=>k.dR t (h.dR t ht)
 cL:=fun p hp=>k.cL p (h.cL p hp)
 aQ:=h.aQ.trans k.aQ
 aE:=c4 h.aE k.aE
 mem:=fun o w cs hm=>by
  obtain⟨ql,h1,h2,au⟩:=h.mem o w cs hm;obtain⟨HK,b4,dq,jK⟩:=k.mem o w ql h1;exact⟨HK,b4,dq.trans h2,fun j hj=>(jK j hj).trans (au j fun q=>hj (k.cL _ q))⟩
 row:=fun o aY hc hm=>(h.row o aY hc hm).elim (k.row o aY hc) fun q=>.inr (k.cL _ q)
theorem jY.b7 (h:jY s ar):Fr s ar where
 vs:=fun t _=>by rw[h.vs]
 dR:=fun t ht=>by rw[h.dR];exact ht
 cL:=fun t ht=>by rw[h.cL];exact ht
 aQ:=h.aQ
 aE:=by rw[h.aE];exact aN _
 mem:=fun o w cs hm=>⟨cs,by rw[h.mem];exact hm,Eq.refl _,fun _ _=>Eq.refl _⟩
 row:=fun o aY hc hm=>.inl (by rw[h.mem];exact hm)
theorem Se{α:Type}{l:List (Nat × α)}{t:Nat}(h:t∉l.map Prod.fst):bt l t=none:=by
 cases e:bt l t with
 |none=>rfl
 |some a=>exact absurd (sd (f:=Prod.fst) (jA e)) h
theorem cd.put (R:cd J b F fs s σ H G ρ){t:Nat}{v:aR J.az}{w:V}(af:b8 J s.aQ ρ fs v w){dR:List Nat}:cd J b F fs {s with vs:=(t,v)::s.vs,dR:=dR} (up σ t w) H G ρ where
 aE:=R.aE
 vs:=fun k u h=>by
  rw[gk]at h;split at h
  ·rename_i e;cases h;subst e;rw[wW];exact af
  ·rename_i e;rw[jU _ _ (fun q=>e q.symm)];exact R.vs k u h
 own:=R.own
 dt:=R.dt
 lt:=R.lt
 mem:=R.mem
 du:=R.du
theorem Sf{t:Nat}{v:aR J.az}:Fr s {s with vs:=(t,v)::s.vs,dR:=t::s.dR} where
 vs:=fun k h=>by
  rw[gk,if_neg];intro e;subst e;exact h (qq ..)
 dR:=fun t ht=>lf _ ht
 cL:=fun _ h=>h
 aQ:=ei
 aE:=aN _
 mem:=fun o w cs hm=>⟨cs,hm,Eq.refl _,fun _ _=>Eq.refl _⟩
 row:=fun _ _ _ h=>.inl h
theorem cd.new (R:cd J b F fs s σ H G ρ)(v:V):(ρ++[v])[s.aE]? =some v:=by rw[<-R.aE];simp
theorem cd.add (R:cd J b F fs s σ H G ρ){H':Heap}{m':List (Nat × cf)}{aY:cp J}{v:V}(av:Own H' (m'::dB s G F))(hb:qk J b s.aQ (ρ++[v]) fs s.aE m' aY):
  cd J b F fs (k8 s aY) σ H' (fun o=>if o=s.aE then m' else G o) (ρ++[v]) where
 aE:=by simp[k8,R.aE]
 vs:=fun t v h=>(R.vs t v h).mono ei (hP _ _)
 own:=by
  have:dB (k8 s aY) (fun o=>if o=s.aE then m' else G o) F=m'::dB s G F:=by
   unfold dB k8;simp only[dX,if_pos,l4];congr 2;refine q6 fun e he=> ?_;rw[if_neg (re (R.lt e he))]
  rw[this];exact av
 dt:=by
  show(s.aE::s.mem.map Prod.fst).Nodup;refine xQ.2 ⟨fun h=> ?_,R.dt⟩;obtain⟨e,he,q⟩:=eA.1 h;exact absurd q (re (R.lt e he))
 lt:=fun e he=>by
  rcases dG.1 he with rfl|he
  ·exact zt _
  ·exact NI (R.lt e he)
 mem:=fun o c h=>by
  have h:bt ((s.aE,aY)::s.mem) o=some c:=h;rw[gk]at h;split at h
  ·rename_i e;cases h;subst e;rw[if_pos rfl];exact hb
  ·rename_i e
   have:=(R.mem o c h).mono (ei (l:=s.aQ)) (hP ρ [v]);simp only[lI e,if_false];exact this
 du:=R.du
theorem Bz (R:cd J b F fs s σ H G ρ){aY:cp J}:Fr s (k8 s aY) where
 vs:=fun _ _=>Eq.refl _
 dR:=fun _ h=>h
 cL:=fun _ h=>h
 aQ:=ei
 aE:=ED _
 mem:=fun o w cs hm=>⟨cs,by
  show bt ((s.aE,aY)::s.mem) o=_;rw[gk,if_neg (Nat.ne_of_gt (R.lt _ (jA hm)))];exact hm,Eq.refl _,fun _ _=>Eq.refl _⟩
 row:=fun o c hc hm=>.inl (by
  show bt ((s.aE,aY)::s.mem) o=_;rw[gk,if_neg (Nat.ne_of_gt (R.lt _ (jA hm)))];exact hm)
theorem Sg{o f o' j:Nat}:∀{n:Nat} {l:List (Nat × Nat)},(o',j)∈marks o f n l↔(o'=o/\f<=j/\j<f+n)\/(o',j)∈l
 |0,l=>by simp only[marks];constructor<;>intro h<;>first|exact .inr h|(rcases h with h|h;omega;exact h)
 |n+1,l=>by
  simp only[marks,dG,Sg (n:=n),bH];constructor
  ·rintro(⟨rfl,rfl⟩|⟨rfl,h⟩|h)
   ·exact .inl ⟨rfl,by omega,by omega⟩
   ·exact .inl ⟨rfl,by omega,by omega⟩
   ·exact .inr h
  ·rintro(⟨rfl,h1,h2⟩|h)
   ·by_cases q:j=f+n
    ·exact .inl ⟨rfl,q⟩
    ·exact .inr (.inl ⟨rfl,h1,by omega⟩)
   ·exact .inr (.inr h)
theorem adF:∀(xs cs:List (aR J.az)) (o:Nat),(vh cs o xs).length=cs.length
 |[],_,_=>rfl
 |x::xs,cs,o=>by simp[vh,adF xs]
theorem adG:∀(xs cs:List (aR J.az)) (o j:Nat),¬(o<=j/\j<o+xs.length)->(vh cs o xs)[j]? =cs[j]?
 |[],_,_,_,_=>rfl
 |x::xs,cs,o,j,h=>by
  simp only[iI]at h;rw[vh,adG xs _ (o+1) j (by omega),jE (by omega)]
theorem ar0{o:Nat}{c:cp J}{m:List (Nat × cf)}{k:Nat}(hk:k<s.mem.length)(hid:s.mem[k].1=o)(dt:(s.mem.map Prod.fst).Nodup){cL:List (Nat × Nat)}:
  dB {s with mem:=jc o c s.mem,cL:=cL} (fun q=>if q=o then m else G q) F=(dB s G F).set k m:=by
 unfold dB;simp only;rw[I4 _ _ (by simpa using hk)];congr 1;have ad:(jc o c s.mem).map (fun e=>if e.1=o then m else G e.1)=((jc o c s.mem).map Prod.fst).map (fun q=>if q=o then m else G q):=by rw[pC];rfl
 have e2:s.mem.map (fun e=>G e.1)=(s.mem.map Prod.fst).map G:=by rw[pC];rfl
 rw[ad,e2,vo];have hk':k<(s.mem.map Prod.fst).length:=by simpa using hk
 have Bw:(s.mem.map Prod.fst)[k]=o:=by simpa using hid
 generalize s.mem.map Prod.fst=l at dt hk' Bw;apply q7;intro i;rw[iH];by_cases e:k=i
 ·subst e
  rw[oA (by simpa using hk'),jD hk',Bw];simp
 ·rw[jE e,iH]
  cases hi:l[i]? with
  |none=>rfl
  |some q=>
   have n3:=(eY.1 hi);obtain⟨n3,bu⟩:=n3;have:q≠o:=fun h=>e ((List.getElem_inj (h₀:=hk') (h₁:=n3) dt).1 (by rw[Bw,bu,h]));simp[this]
theorem cd.cE (R:cd J b F fs s σ H G ρ){H':Heap}{o k:Nat}{c fi:cp J}{m':List (Nat × cf)}{cL:List (Nat × Nat)}(hm:bt s.mem o=some fi)(hk:k<s.mem.length)(hid:s.mem[k].1=o)(hc:qk J b s.aQ ρ fs o m' c)(av:Own H' ((dB s G F).set k m')):
  cd J b F fs {s with mem:=jc o c s.mem,cL:=cL} σ H' (fun q=>if q=o then m' else G q) ρ where
 aE:=R.aE
 vs:=R.vs
 own:=by rw[ar0 hk hid R.dt];exact av
 dt:=by show((jc o _ s.mem).map Prod.fst).Nodup;rw[vo];exact R.dt
 lt:=fun e he=>by
  have:e.1∈(jc o c s.mem).map Prod.fst:=sd he;rw[vo]at this;obtain⟨e',h1,h2⟩:=eA.1 this;rw[<-h2];exact R.lt e' h1
 mem:=fun q aY h=>by
  have h1:bt (jc o c s.mem) q=some aY:=h;clear h;rw[uq]at h1;have h:=h1;clear h1;split at h
  ·rename_i e;subst e
   rw[hm]at h;cases h;rw[if_pos rfl];exact hc
  ·rename_i e
   have:=R.mem q aY h;simp only[e,if_false];exact this
 du:=R.du
theorem ar1{o f:Nat}{vs cs:List (aR J.az)}{w:Bool}(hm:bt s.mem o=some (.cells w cs)):Fr s {s with mem:=jc o (.cells w (vh cs f vs)) s.mem,cL:=marks o f vs.length s.cL} where
 vs:=fun _ _=>Eq.refl _
 dR:=fun _ h=>h
 cL:=fun p h=>by obtain⟨a,c⟩:=p;exact Sg.2 (.inr h)
 aQ:=ei
 aE:=aN _
 mem:=fun q w' cs' h=>by
  simp only[uq];by_cases e:q=o
  ·subst e
   rw[h]at hm;cases hm;exact⟨_,by rw[if_pos rfl,h];rfl,adF _ _ _,fun j hj=>adG _ _ _ _ fun q=>hj (Sg.2 (.inl ⟨rfl,q.1,q.2⟩))⟩
  ·exact⟨cs',by rw[if_neg e];exact h,rfl,fun _ _=>rfl⟩
 row:=fun q aY hc h=>by
  simp only[uq];by_cases e:q=o
  ·subst e;rw[h]at hm;cases hm;cases hc
  ·rw[if_neg e];exact .inl h
theorem Sh{o:Nat}{fi c:cp J}(hc:uu fi=false)(hm:bt s.mem o=some fi):Fr s {s with mem:=jc o c s.mem,cL:=(o,0)::s.cL} where
 vs:=fun _ _=>Eq.refl _
 dR:=fun _ h=>h
 cL:=fun p h=>lf _ h
 aQ:=ei
 aE:=aN _
 mem:=fun q w' cs' h=>by
  simp only[uq];by_cases e:q=o
  ·subst e;rw[h]at hm;cases hm;cases hc
  ·exact⟨cs',by rw[if_neg e];exact h,rfl,fun _ _=>rfl⟩
 row:=fun q aY _ h=>by
  simp only[uq];by_cases e:q=o
  ·subst e;exact .inr (qq ..)
  ·rw[if_neg e];exact .inl h
theorem adH{o n:Nat}:∀{l:List (Nat × cp J)} {aY:cp J},bt l o=some aY->(∀e∈l,e.1<n)->∃k,(l.map fun e=>G e.1)[k]? =some (G o)/\∀(c:cp J) m',((kl o n c l).map fun e=>if e.1=n then m' else G e.1)=(l.map fun e=>G e.1).set k m'
 |(a,d)::r,aY,h,hn=>by
  simp only[bt]at h;simp only[kl];split at h
  ·rename_i e
   try rw[e]
   refine⟨0,by simp[eU e],fun c m'=> ?_⟩;simp only[dX,NG,if_pos];congr 1;exact q6 fun e he=>if_neg (re (hn e (lf _ he)))
  ·rename_i e
   try rw[e]
   obtain⟨k,h1,h2⟩:=adH h fun e he=>hn e (lf _ he);refine⟨k+1,by simpa using h1,fun c m'=> ?_⟩;simp only[dX,Vq,h2,if_neg (re (hn _ (qq ..)))]
theorem Mj{o n:Nat}{c:cp J}:∀{l:List (Nat × cp J)} {e:Nat × cp J},e∈kl o n c l->e=(n,c)\/e∈l
 |(a,d)::r,e,h=>by
  simp only[kl]at h;split at h
  ·rcases dG.1 h with h|h
   ·exact .inl h
   ·exact .inr (lf _ h)
  ·rcases dG.1 h with rfl|h
   ·exact .inr (qq ..)
   ·exact(Mj h).imp id (lf _)
theorem adI{o n:Nat}{c:cp J}:∀{l:List (Nat × cp J)},(l.map Prod.fst).Nodup->(∀e∈l,e.1<n)->((kl o n c l).map Prod.fst).Nodup
 |[],h,_=>h
 |(a,d)::r,h,hn=>by
  have h':=xQ.1 h;have pP:∀e∈r,e.1<n:=fun e he=>hn e (lf _ he);simp only[kl];split
  ·refine xQ.2 ⟨fun q=> ?_,h'.2⟩
   obtain⟨x,hx,q⟩:=eA.1 q;exact re (pP x hx) q
  ·refine xQ.2 ⟨fun q=> ?_,adI h'.2 pP⟩
   obtain⟨x,hx,q⟩:=eA.1 q;rcases Mj hx with rfl|hx
   ·exact re (hn _ (qq ..)) q.symm
   ·exact h'.1 (by rw[<-q];exact sd hx)
theorem adJ{o n:Nat}{c:cp J}(hn:n≠o):∀{l:List (Nat × cp J)},(l.map Prod.fst).Nodup->bt (kl o n c l) o=none
 |[],_=>rfl
 |(a,d)::r,h=>by
  have h':=xQ.1 h;simp only[kl];split
  ·rename_i e
   have e:=eU e;subst e;rw[gk,if_neg hn];exact Se h'.1
  ·rename_i e
   rw[gk,if_neg (fun q=>by rw[q,Cl]at e;cases e)];exact adJ hn h'.2
theorem Mk{o n q:Nat}{c:cp J}(h1:q≠o)(h2:q≠n):∀l:List (Nat × cp J),bt (kl o n c l) q=bt l q
 |[]=>rfl
 |(a,d)::r=>by
  simp only[kl];split
  ·rename_i e
   have e:=eU e;subst e;rw[gk,gk,if_neg (lI h1),if_neg (lI h2)]
  ·rw[gk,gk,Mk h1 h2 r]
theorem cd.rep (R:cd J b F fs s σ H G ρ){o:Nat}{fi:cp J}(hm:bt s.mem o=some fi):∃k:Nat,(dB s G F)[k]? =some (G o)/\∀{H':Heap} {c:cp J} {v:V} {m':List (Nat × cf)} {cL:List (Nat × Nat)},
  qk J b s.aQ (ρ++[v]) fs s.aE m' c->Own H' ((dB s G F).set k m')->cd J b F fs {s with mem:=kl o s.aE c s.mem,aE:=s.aE+1,cL:=cL} σ H' (fun q=>if q=s.aE then m' else G q) (ρ++[v]):=by
 obtain⟨k,h1,h2⟩:=adH (G:=G) hm R.lt;have aG:=(eY.1 h1).1;refine⟨k,by unfold dB;rw[fY aG];exact h1,fun {H' c v m' cL} hc av=> ?_⟩;have bq:s.aE≠o:=fun e=>absurd (R.lt _ (jA hm)) (by rw[<-e];exact Nat.lt_irrefl _)
 exact {
  aE:=by simp[R.aE]
  vs:=fun t v h=>(R.vs t v h).mono ei (hP _ _)
  own:=by
   unfold dB at av⊢;rw[I4 _ _ aG]at av;rw[show(kl o s.aE c s.mem).map (fun e=>if e.1=s.aE then m' else G e.1)=_ from h2 c m'];exact av
  dt:=adI R.dt R.lt
  lt:=fun e he=>by
   rcases Mj he with rfl|he
   ·exact zt _
   ·exact NI (R.lt e he)
  mem:=fun q aY h=>by
   have h:bt (kl o s.aE c s.mem) q=some aY:=h;by_cases ad:q=s.aE
   ·subst ad
    rw[if_pos rfl];rcases Mj (jA h)with e|e
    ·cases e;exact hc
    ·exact absurd (R.lt _ e) (Nat.lt_irrefl _)
   ·by_cases e2:q=o
    ·subst e2;rw[adJ bq R.dt]at h;cases h
    ·rw[Mk e2 ad]at h
     rw[if_neg ad];exact(R.mem q aY h).mono ei (hP _ _)
  du:=R.du}
theorem adK (R:cd J b F fs s σ H G ρ){o t:Nat}{x:ae (J.az t)}{c:cp J}(hm:bt s.mem o=some (.row t x)):Fr s {s with mem:=kl o s.aE c s.mem,aE:=s.aE+1,cL:=(o,0)::s.cL} where
 vs:=fun _ _=>Eq.refl _
 dR:=fun _ h=>h
 cL:=fun p h=>lf _ h
 aQ:=ei
 aE:=ED _
 mem:=fun q w' cs' h=>⟨cs',by
  have ad:q≠o:=fun e=>by subst e;rw[h]at hm;cases hm
  show bt (kl o s.aE c s.mem) q=_;rw[Mk ad (re (R.lt _ (jA h)))];exact h,rfl,fun _ _=>rfl⟩
 row:=fun q aY _ h=>by
  by_cases e:q=o
  ·subst e;exact .inr (qq ..)
  ·refine .inl ?_
   show bt (kl o s.aE c s.mem) q=_;rw[Mk e (re (R.lt _ (jA h)))];exact h
theorem ar2{eK:List Nat}{ops:List bU}{wr nh:List Bool}(h:hq wr nh)(ho:sr eK ops nh=true):sr eK ops wr=true:=by
 unfold sr at ho⊢;rcases j2 _ _ |>.mp ho with ho|ho
 ·rw[j2];left
  unfold xV at ho⊢;split
  ·rename_i RJ
   have ar3:nh.any id=true:=by
    obtain⟨x,hx,ig⟩:=uL.1 RJ;simp only[id]at ig;subst ig;obtain⟨i,hi⟩:=py.1 hx;exact uL.2 ⟨true,eZ (h.get hi),rfl⟩
   rw[if_pos ar3]at ho;rw[eE]at ho⊢;rintro⟨w,i⟩ hw;cases w with
   |false=>rfl
   |true=>
    have hi:=h.get (jC.1 hw);exact ho (true,i) (jC.2 hi)
  ·rfl
 ·rw[j2];exact .inr ho
theorem ar4{B:List Bool}{v:aR J.az}{w:V}(h:RR v=true)(af:b8 J B ρ fs v w):plainCell w=true:=by
 cases af<;>simp only[RR]at h
 case sl s=>cases s<;>rfl
 all_goals first|rfl|exact h|cases h
theorem adL{B:List Bool}:∀{cs:List (aR J.az)} {ws:List V},L2 cs=true->bG J B ρ fs cs ws->mz ws=true
 | _,_,_,.nil=>rfl
 | _,_,h,.cons h' r=>by
   simp only[L2]at h;split at h
   ·rename_i e;simp only[mz,ar4 e h',adL h r,xR]
   ·cases h
theorem adM{B:List Bool}{u:aR J.az}{w:V}{f:Nat}{vs:List (aR J.az)}{ws:List V}(h:(match f,vs with|0,[x]=>some x| _,_=>none)=some u)(hs:bG J B ρ fs vs ws)(hw:∀l,w≠ .agg l):∃w',xU w f ws=some w'/\b8 J B ρ fs u w':=by
 split at h
 ·cases h
  cases hs with
  |cons hx r=>cases r;exact⟨_,by unfold xU;split;exact absurd rfl (hw _);rfl,hx⟩
 ·cases h
theorem ar5{B:List Bool}{v u:aR J.az}{w:V}{f:Nat}{vs:List (aR J.az)}{ws:List V}(h:Gc v f vs=some u)(af:b8 J B ρ fs v w)(hs:bG J B ρ fs vs ws):∃w',xU w f ws=some w'/\b8 J B ρ fs u w':=by
 cases af<;>simp only[Gc]at h
 case agg af=>
  split at h
  ·rename_i e
   cases h;refine⟨_,?_,.agg (Md hs f af)⟩;simp only[xU];rw[if_pos (by rw[<-af.length,<-hs.length];exact j1 e)]
  ·cases h
 case sl s=>exact adM h hs (fun l e=>by cases s<;>cases e)
 all_goals first|cases h|exact adM h hs (fun l e=>by cases e)
theorem D3{B:List Bool}{t:Nat}{v:aR J.az}{w:V}{l:ae (J.az t)}(h:eM t v=some l)(af:b8 J B ρ fs v w):w=aV (J.es t) (J.enc t) l:=by
 unfold eM at h;split at h
 ·split at h
  ·rename_i e;subst e;cases h;cases af;rfl
  ·cases h
 ·cases h;cases af;rfl
 ·cases h;cases af;rfl
 ·cases h
theorem ar6{B:List Bool}:∀z:List V,b8 J B ρ fs (ade z) (mA z)
 |[]=>.agg .nil
 |[v]=>Mc v
 |a::c::r=>.agg (HE (a::c::r))
theorem ar7{a c:ai}{b5:IntKind}{n:Int}(h:RQ a c=true)(al:bB a8 σ a=.int b5 n):∃k,bB a8 σ c=.int k n:=by
 unfold RQ at h;split at h
 ·rw[eU h]at al;exact⟨_,al⟩
 ·rw[eU h]at al;exact⟨_,al⟩
 ·have:=of_decide_eq_true h
  subst this;cases al;exact⟨_,rfl⟩
 ·cases h
set_option maxHeartbeats 1000000 in
theorem Ml{m':List (Nat × cp J)}:∀{l:List (Nat × cp J)} {o t:Nat} {x:ae (J.az t)} {ed:Nat} {e1:ae (J.az ed)},(o,cp.row t x)∈l->bt m' o=some (.fz ed e1)->(o,0)∈gone m' l
 |(a,d)::r,o,t,x,ed,e1,h,hn=>by
  simp only[gone];rcases dG.1 h with e|hm
  ·cases e;simp only[hn];exact qq ..
  ·split
   ·split
    ·exact lf _ (Ml hm hn)
    ·exact Ml hm hn
   ·exact Ml hm hn
theorem ar8{len:Nat}{parts:List (Nat × ai)}{jG:Bool}{o:Nat}{x:ai}(h:RT aq s len parts jG=some (o,x)):len=1/\parts=[(0,x)]/\jG=true/\ah aq s x=some (.row o):=by
 unfold RT at h;split at h
 ·split at h
  ·rename_i he;cases h;exact⟨rfl,rfl,rfl,he⟩
  ·cases h
 ·cases h
theorem HL{o:Nat}:∀{m:List (Nat × cp J)} {k:Nat},k≠o->bt (qi o m) k=bt m k
 |[],_,_=>rfl
 |(a,c)::r,k,hk=>by
  simp only[qi];split
  ·rename_i e
   have e:=eU e;rw[gk,if_neg (by rw[e];exact fun q=>hk q.symm)]
  ·rw[gk,gk,HL hk]
theorem CU (a6:gv J)(aC:mr S)(hT:rX aa cx)(ag:∀j f,nth cx.fv j=some f->∃w,fs[j]? =some w/\oo aa F f.ea f.rt f.f w)
  (R:cd J b F fs s σ H G ρ) (b0:∀t v,bt aq t=some v->b8 J s.aQ ρ fs v (a8 t)) {d:Option (Nat × Bool)} {op:cX} {g:Option (ai × Bool)} {rest:List bU} {wr:List Bool} {k:aR J.az->bE J->Bool->A} {Q:bY->Heap->List Bool->Prop}
  (h:S (oper cx aq s d k op)) (hw:gi a8 σ g=some true)
  (cA:∀v ar w H' G' cR mv Si,S (k v ar Si)->(mv=true->Si=true)->cd J b F fs ar σ H' G' cR->b8 J ar.aQ cR fs v w->ρ <+: cR->Fr s ar->Op aa b rest (fN a8 d w) (fO σ d w) H' (mv::wr) Q):
  Op aa b (⟨d,op,g⟩::rest) a8 σ H wr Q:=by
 unfold oper at h;split at h
 ·rename_i z
  refine u7 hw R.own fun H' a al av=> ?_;exact cA _ _ _ _ _ _ _ _ h (fun _=>rfl) (R.add av ⟨a,_,R.new _,rfl,HE z,fun _=>al⟩) (.ptr (R.new _)) (hP _ _) (Bz R)
 ·rename_i x
  split at h
  ·exact absurd h aC.bad
  ·rename_i v af
   split at h
   ·exact absurd h aC.bad
   ·rename_i cs hc
    split at h
    ·rename_i ho
     have fJ:=Bp hc (c3 R b0 af);refine F4 hw R.own rfl (R2 ho fJ) fun H' a al av=> ?_;exact cA _ _ _ _ _ _ _ _ h (fun _=>rfl) (R.add av ⟨a,_,R.new _,rfl,fJ.mono ei (hP _ _),fun _=>al⟩) (.ptr (R.new _)) (hP _ _) (Bz R)
    ·exact absurd h aC.bad
 ·rename_i n x y
  split at h
  ·rename_i o f v hx hy
   split at h
   ·rename_i cs vs hm hc
    split at h
    ·rename_i ad e2 bK
     have Aj:=c3 R b0 hx;generalize BA:bB a8 σ x=xk at Aj;cases Aj with
     |ptr ho=>
      obtain⟨a,ws,q1,q2,b3,cS,fw⟩:=R.cells hm;rw[q1]at ho;cases ho;have c6:=arI R hc (c3 R b0 hy);obtain⟨i,hi,aG,DZ,hid⟩:=R.at hm
      refine u9 hw R.own i (by rw[hi,q2]) (fw rfl) BA rfl ⟨by rw[<-c6.length];exact eU ad,by
       have:=eU ad;rw[<-cS.length];exact j1 e2⟩ (adm R bK c6) rfl fun H' av=> ?_
      exact cA _ _ _ _ _ _ _ _ h (fun _=>rfl) (R.cE hm aG hid ⟨_,_,q1,rfl,Md c6 f cS,fw⟩ av) .k ei (ar1 hm)
    ·exact absurd h aC.bad
   ·exact absurd h aC.bad
  ·rename_i o i f v hx hy
   split at h
   ·rename_i t cb vs hm hc
    split at h
    ·rename_i ad e2
     obtain⟨e,he,h⟩:=aC.cJ h;obtain⟨aBf,ar,h1,h2,au⟩:=Bq (ρ:=ρ) (fs:=fs) a6 h;split at h1
     ·exact absurd h1 aC.bad
     ·rename_i u hu
      split at h1
      ·exact absurd h1 aC.bad
      ·rename_i e' he'
       have oT:=R.eH h2;have kz:bt ar.mem o=some (.row t cb):=by rw[h2.mem];exact hm
       have Aj:=c3 R b0 hx;generalize BA:bB a8 σ x=xk at Aj;cases Aj with
       |hN ho=>
        obtain⟨v0,q1,q2⟩:=oT.mem o _ kz;rw[q1]at ho;cases ho;have:=q2.adu;subst this;have c6:=(Bp hc (c3 R b0 hy)).mono h2.aQ ei;obtain⟨k,hi,aG,DZ,hid⟩:=oT.at kz;obtain⟨w',p1,p2⟩:=ar5 hu au c6;have jx:=a6.iC _ _ _ _ _ _ _ p2 he';subst jx;refine aoL hw k he oT.own hi q2 rfl BA rfl (by rw[<-c6.length];exact eU ad) (adL e2 c6) p1 fun H' m' hr av=> ?_;exact cA _ _ _ _ _ _ _ _ h1 (fun _=>rfl) (oT.cE kz aG hid ⟨_,q1,hr⟩ av) .k ei (h2.b7.trans (Sh rfl kz))
    ·exact absurd h aC.bad
   ·exact absurd h aC.bad
  ·exact absurd h aC.bad
 ·rename_i es bytes dE fW
  have adN:∀{t:Nat} {q:ae (J.az t)} {x:aR J.az},ah aq s dE=some x->Go.Abs.elems H (J.es t) (bB a8 σ fW)=some (q.l.map (J.enc t))->S (L1 s es bytes t x q k)->Op aa b (⟨d,.append es bytes dE fW,g⟩::rest) a8 σ H wr Q:=by
   intro t q x mn yT h0;have hQ:=c3 R b0 mn;generalize ft:bB a8 σ dE=wa at hQ
   have key:∀{cb:ae (J.az t)},e3 b (J.es t) (J.enc t) wa cb []->S (s3 s es bytes t cb none (.sl t q) k)->Op aa b (⟨d,.append es bytes dE fW,g⟩::rest) a8 σ H wr Q:=by
    intro cb Sj mI;unfold s3 at mI;split at mI
    ·rename_i rY ad e2
     have Fv:eM t (.sl t q:aR J.az)=some q:=by simp[eM]
     rw[Fv]at e2;cases e2;obtain⟨z,aJ,mI⟩:=aC.cJ mI;have ad:=eU ad;subst ad;refine acZ (ms:=[]::dB s G F) hw 0 aJ (R.own.ins 0) rfl Sj ft yT (a6.bx t) (a6.ok t) fun H' v' m' mv hr av=> ?_;exact cA _ _ _ _ _ _ _ _ mI (fun _=>rfl) (R.add av ⟨v',R.new v',hr⟩) (.row (R.new v')) (hP _ _) (Bz R)
    ·exact absurd mI aC.bad
   unfold L1 at h0;split at h0
   ·rename_i o'
    split at h0
    ·rename_i ed cb kz
     unfold s3 at h0;split at h0
     ·rename_i rY ad e2
      have ht:t=ed:=by
       by_cases ht:t=ed
       ·exact ht
       ·simp[eM,ht]at e2
      subst ht;have Fv:eM t (.sl t q:aR J.az)=some q:=by simp[eM]
      rw[Fv]at e2;cases e2;obtain⟨z,aJ,h1⟩:=aC.cJ h0;clear h0;cases hQ with
      |row ka=>
       obtain⟨v0,q1,q2⟩:=R.mem o' _ kz;rw[q1]at ka;cases ka;have ad:=eU ad;subst ad;obtain⟨k0,wj,pQ⟩:=R.rep kz;refine acZ hw k0 aJ R.own wj q2 ft yT (a6.bx t) (a6.ok t) fun H' v' m' mv hr av=> ?_;exact cA _ _ _ _ _ _ _ _ h1 (fun _=>rfl) (pQ ⟨v',R.new v',hr⟩ av) (.row (R.new v')) (hP _ _) (adK R kz)
     ·exact absurd h0 aC.bad
    ·exact absurd h0 aC.bad
   ·split at h0
    ·rename_i e
     exact key (by rw[yS e hQ];exact .nil) h0
    ·rename_i e
     exact key (by rw[yS e hQ];exact .emp) h0
    ·exact absurd h0 aC.bad
  split at h
  ·rename_i x o lo hi mn rZ
   split at h
   ·rename_i t y hm
    obtain⟨q,bu,h0⟩:=aC.cJ h;clear h;have sA:=c3 R b0 rZ;generalize HM:bB a8 σ fW=wb at sA;cases sA with
    |lC ho Sk=>
     obtain⟨v1,bI,cq⟩:=R.mem o _ hm;obtain⟨b4,ha,-⟩:=R.at hm;rw[bI]at ho;cases ho;exact adN mn (by rw[HM];exact adt b4 ha R.own cq bu Sk) h0
   ·exact absurd h aC.bad
  ·rename_i x o mn rZ
   split at h
   ·rename_i t y hm
    have sA:=c3 R b0 rZ;generalize HM:bB a8 σ fW=wb at sA;cases sA with
    |row ho=>
     obtain⟨v1,bI,cq⟩:=R.mem o _ hm;obtain⟨b4,ha,-⟩:=R.at hm;rw[bI]at ho;cases ho;exact adN mn (by rw[HM];exact arM b4 ha R.own cq) h
   ·exact absurd h aC.bad
  ·rename_i o y _ _ mn rZ
   split at h
   ·rename_i t x hm
    unfold s3 at h;split at h
    ·rename_i rY ad e2
     obtain⟨z,aJ,h⟩:=aC.cJ h;have hQ:=c3 R b0 mn;generalize ft:bB a8 σ dE=wa at hQ;cases hQ with
     |row ho=>
      obtain⟨v0,q1,q2⟩:=R.mem o _ hm;rw[q1]at ho;cases ho;have ad:=eU ad;subst ad;obtain⟨k,hi,pQ⟩:=R.rep hm;refine F6 hw k aJ R.own hi q2 ft (D3 e2 (c3 R b0 rZ)) (a6.bx t) (a6.ok t) fun H' v' m' mv hr av=> ?_;exact cA _ _ _ _ _ _ _ _ h (fun _=>rfl) (pQ ⟨v',R.new v',hr⟩ av) (.row (R.new v')) (hP _ _) (adK R hm)
    ·exact absurd h aC.bad
   ·exact absurd h aC.bad
  ·rename_i x t y _ mn rZ
   have key:∀{cb:ae (J.az t)} {gA:V},bB a8 σ dE=gA->e3 b (J.es t) (J.enc t) gA cb []->S (s3 s es bytes t cb none (.sl t y) k)->Op aa b (⟨d,.append es bytes dE fW,g⟩::rest) a8 σ H wr Q:=by
    intro cb gA ft Sj mI;unfold s3 at mI;split at mI
    ·rename_i rY ad e2
     obtain⟨z,aJ,mI⟩:=aC.cJ mI;have ad:=eU ad;subst ad;refine F6 (ms:=[]::dB s G F) hw 0 aJ (R.own.ins 0) rfl Sj ft (D3 e2 (c3 R b0 rZ)) (a6.bx t) (a6.ok t) fun H' v' m' mv hr av=> ?_;exact cA _ _ _ _ _ _ _ _ mI (fun _=>rfl) (R.add av ⟨v',R.new v',hr⟩) (.row (R.new v')) (hP _ _) (Bz R)
    ·exact absurd mI aC.bad
   have hn:=c3 R b0 mn;split at h
   ·rename_i e
    exact key (yS e hn) .nil h
   ·rename_i e
    exact key (yS e hn) .emp h
   ·exact absurd h aC.bad
  ·exact absurd h aC.bad
 ·rename_i es z bytes ar9 lL
  split at h
  ·rename_i q fD
   split at h
   ·rename_i t b5 n ht hs hl
    split at h
    ·rename_i e ad e2
     obtain⟨x,hx,h⟩:=aC.cJ h;have ad:=eU ad;subst ad;have l8:=c3 R b0 hl;generalize RI:bB a8 σ ar9=wl at l8;cases l8;obtain⟨acy,hc⟩:=ar7 hs RI;refine aoJ hw hx R.own (a6.iC _ _ _ _ _ _ _ (ar6 (ρ:=ρ) (fs:=fs) z) e2) RI hc fun H' v' m' mv hr av=> ?_;exact cA _ _ _ _ _ _ _ _ h (fun _=>rfl) (R.add av ⟨v',R.new v',hr⟩) (.row (R.new v')) (hP _ _) (Bz R)
    ·exact absurd h aC.bad
   ·exact absurd h aC.bad
  ·exact absurd h aC.bad
 ·split at h
  ·rename_i q fD
   split at h
   ·rename_i c hc
    split at h
    ·rename_i p hp
     refine Qv hw R.own fun H' a al av=> ?_;exact cA _ _ _ _ _ _ _ _ h (fun _=>rfl) (R.add av ⟨a,R.new _,rfl,al⟩) (.row (R.new _)) (hP _ _) (Bz R)
    ·exact absurd h aC.bad
   ·exact absurd h aC.bad
  ·exact absurd h aC.bad
 ·rename_i kind x i y
  split at h
  ·rename_i o v u hx hi hy
   split at h
   ·rename_i eO kk m hm
    split at h
    ·rename_i key val ad e2 bK
     have cn:=c3 R b0 hx;generalize ft:bB a8 σ x=wa at cn;cases cn with
     |row ho=>
      obtain⟨a,q1,q2,b3⟩:=R.mem o _ hm;obtain⟨bJ,hk,aG,DZ,hid⟩:=R.at hm;rw[q1]at ho;cases ho;refine @QB aa b a8 σ H wr rest _ _ ⟨J.beq eO⟩ _ _ _ _ m key val _ _ _ _ _ _ _ hw (R6 a6 bK) R.own bJ (by rw[hk,q2]) b3 ft (a6.iC _ _ _ _ _ _ _ (c3 R b0 hi) ad) (a6.iC _ _ _ _ _ _ _ (c3 R b0 hy) e2) (a6.bx _ _) fun H' av=> ?_;exact cA _ _ _ _ _ _ _ _ h (fun _=>rfl) (R.cE hm aG hid ⟨a,q1,rfl,b3⟩ av) .k ei (Sh rfl hm)
    ·exact absurd h aC.bad
   ·exact absurd h aC.bad
  ·exact absurd h aC.bad
 ·rename_i f aX
  split at h
  ·rename_i fv adO BB xo
   split at h
   ·split at h
    ·obtain⟨v,ar,w,eX,m',G',h1,h2,au,a7,h5,fL⟩:=arZ a6 aC R hT ag h (c3 R b0 BB) (xj R b0 xo)
     have bT:=R.eH h2
     have eJ:∀{H' bC},ur b s.aQ ρ fs bC m'->Own H' (m'.map (fun e=>bC e.1)++F)->cd J b F fs {ar with mem:=m',cL:=gone m' s.mem++ar.cL} σ H' bC ρ:=fun jf av=>
      ⟨bT.aE,bT.vs,av,jf.1,fun p hp=>by
       rw[h2.aE];have:p.1∈m'.map Prod.fst:=sd hp;rw[fL.fst]at this;obtain⟨e',q1,q2⟩:=eA.1 this;rw[<-q2];exact R.lt e' q1,fun k c hk=>(jf.2 k c hk).mono h2.aQ ei,bT.du⟩
     have eR:Fr s {ar with mem:=m',cL:=gone m' s.mem++ar.cL}:=⟨fun t ht=>by rw[h2.vs],fun t ht=>by rw[h2.dR];exact ht,fun p hp=>qp _ (by rw[h2.cL];exact hp),h2.aQ,by rw[h2.aE];exact aN _,fun o w cs hm=>by
      rcases fL.mem o _ hm with⟨ak,a2⟩|⟨t,x,ak,a2,a3,a4⟩
      ·exact⟨cs,ak,rfl,fun _ _=>rfl⟩
      ·exact(nomatch ak),fun o c hc hm=>by
      rcases fL.mem o _ hm with⟨ak,a2⟩|⟨t,x,ak,a2,a3,a4⟩
      ·exact .inl ak
      ·rcases ak with rfl|rfl
       ·exact .inr (xM _ (Ml (jA hm) a2))
       ·exact .inl a2⟩
     cases adP:flat w with
     |true=>exact acz hw R.own a7 h5 adP rfl rfl (cA _ _ _ _ _ _ _ _ h1 (fun _=>rfl) (eJ (fL.same R.Bx) (by rw[fL.dB];exact R.own)) au ei eR)
     |false=>exact aoM hw R.own a7 (fun H low r hr=>by obtain⟨x,y,z⟩:=r;exact(O6 (O7 16) hr).2) h5 adP rfl rfl fun H' mv av=>cA _ _ _ _ _ _ _ _ h1 (fun _=>rfl) (eJ (fL.ok R.Bx) av) au ei eR
    obtain⟨v,ar,w,eX,gB,h1,h2,au,a7,h5,fL⟩:=arY a6 aC R hT ag h (c3 R b0 BB) (xj R b0 xo);exact acz hw R.own a7 h5 fL rfl rfl (cA _ _ _ _ _ _ _ _ h1 (fun q=>by cases q) (R.eH h2) au ei h2.b7)
   obtain⟨v,ar,w,h1,h2,au,a7⟩:=ady a6 aC R hT ag h (c3 R b0 BB) (xj R b0 xo);exact hF hw (va (a7 H R.own).1 (a7 H R.own).2 rfl rfl) (cA _ _ _ _ _ _ _ _ h1 (fun q=>by cases q) (R.eH h2) au ei h2.b7)
  ·exact absurd h aC.bad
 ·rename_i k4 aX
  split at h
  ·rename_i i adO CJ xo
   split at h
   ·rename_i p hp
    have gm:=hT.2 _ (jA hp);have al:=xj R b0 xo;have hS:=c3 R b0 CJ;generalize D4:bB a8 σ k4=wf at hS;cases hS with
    |fn hl=>
    cases hl;unfold adf at h;split at h
    ·rename_i ya
     unfold DY at gm;rw[ya]at gm;split at h
     ·rename_i o
      split at h
      ·rename_i t x hm
       split at h
       ·rename_i ht
        obtain⟨z,aJ,h⟩:=aC.cJ h;have ht:=eU ht;subst ht
        obtain⟨dE,rfl⟩:∃dE,aX=[dE]:=by
         have:=al.length
         match aX,this with
         |[dE],_=>exact⟨dE,rfl⟩
        have al:bG J s.aQ ρ fs _ [bB a8 σ dE]:=al;generalize ft:bB a8 σ dE=wa at al;cases al with
        |cons af _=>
         cases af with
         |row ho=>
          obtain⟨v0,q1,q2⟩:=R.mem o _ hm;obtain⟨bJ,hk,aG,DZ,hid⟩:=R.at hm;rw[q1]at ho;cases ho;refine arc hw gm bJ aJ R.own hk q2 D4 ft (a6.ok _) fun H' m' mv hr av=> ?_;exact cA _ _ _ _ _ _ _ _ h (fun _=>rfl) (R.cE hm aG hid ⟨_,q1,hr⟩ av) .k ei (Sh rfl hm)
       ·exact absurd h aC.bad
      ·exact absurd h aC.bad
     ·obtain⟨dE,rfl⟩:∃dE,aX=[dE]:=by
       have:=al.length
       match aX,this with
       |[dE],_=>exact⟨dE,rfl⟩
      have al:bG J s.aQ ρ fs _ [bB a8 σ dE]:=al;generalize ft:bB a8 σ dE=wa at al;cases al with
      |cons af _=>
       cases af;exact ard hw gm D4 ft fun mv=>cA _ s _ H G ρ mv true h (fun _=>rfl) R .k ei .rfl
     ·exact absurd h aC.bad
    ·rename_i ya
     unfold DY at gm;rw[ya]at gm;split at h
     ·rename_i o adg a rS c
      split at h
      ·rename_i t x hm
       split at h
       ·rename_i ht ad e2
        obtain⟨z,aJ,h⟩:=aC.cJ h;have ht:=eU ht;subst ht;have ad:=of_decide_eq_true ad;have e2:=of_decide_eq_true e2;subst ad e2
        obtain⟨uS,dE,lL,rfl⟩:∃uS dE lL,aX=[uS,dE,lL]:=by
         have:=al.length
         match aX,this with
         |[uS,dE,lL],_=>exact⟨uS,dE,lL,rfl⟩
        have al:bG J s.aQ ρ fs _ [bB a8 σ uS,bB a8 σ dE,bB a8 σ lL]:=al;generalize lr:bB a8 σ uS=fD at al;generalize ft:bB a8 σ dE=wa at al;generalize nJ:bB a8 σ lL=Br at al;cases al with
        |cons af al=>
         cases al with
         |cons hQ al=>
          cases al with
          |cons xm _=>
           cases hQ;cases xm;cases af with
           |row ho=>
            obtain⟨v0,q1,q2⟩:=R.mem o _ hm;obtain⟨bJ,b4,dq⟩:=Sc (G:=G) hm;rw[q1]at ho;cases ho;have aG:=(eY.1 b4).1;have bq:∀{k:Nat} {c:cp J},bt (qi o s.mem) k=some c->bt s.mem k=some c:=fun hk=>adz (Bv o _) R.dt hk;refine arf hw gm bJ aJ R.own (by unfold dB;rw[fY aG];exact b4) q2 D4 lr ft nJ (a6.bx _) (a6.ok _) fun H' m' mv av=> ?_
            have lW:Own H' ((qi o s.mem).map (fun e=>G e.1)++F):=av.sub (by
             unfold dB;rw[I4 _ _ aG];exact(dq _).append (Jb _))
            refine cA _ {s with mem:=qi o s.mem,cL:=(o,0)::s.cL} _ H' G ρ mv true h (fun _=>rfl) ⟨R.aE,R.vs,lW,R.dt.sublist ((Bv o _).map _),fun p hp=>R.lt p ((Bv o _).subset hp),fun k c hk=>R.mem k c (bq hk),R.du⟩ .sl ei
             ⟨fun _ _=>rfl,fun _ h=>h,fun _ h=>lf _ h,ei,aN _,fun k w cs hk=>⟨cs,(HL fun e=>by subst e;rw[hm]at hk;cases hk).trans hk,rfl,fun _ _=>rfl⟩,fun k c hc hk=> ?_⟩
            by_cases e:k=o
            ·subst e;exact .inr (qq ..)
            ·exact .inl ((HL e).trans hk)
       ·exact absurd h aC.bad
      ·exact absurd h aC.bad
     ·exact absurd h aC.bad
    ·rename_i nw sP
     split at h
     ·rename_i v
      split at h
      ·rename_i x hx
       obtain⟨z,aJ,h⟩:=aC.cJ h
       obtain⟨n,asa,c1,hn⟩:=gm.clone (by
        obtain⟨t,n⟩:=p
        match n,nw,sP with
        |n+2,_,_=>rfl
        |0,h,_=>exact absurd rfl h
        |1,_,h=>exact absurd rfl h)
       obtain⟨dE,rfl⟩:∃dE,aX=[dE]:=by
        have:=al.length
        match aX,this with
        |[dE],_=>exact⟨dE,rfl⟩
       cases al with
       |cons af _=>
        refine aoU (ms:=dB s G F) hw c1 hn aJ R.own D4 (D3 hx af) (a6.bx p.1) (a6.ok p.1) fun H' v' m' mv hr av=> ?_;exact cA _ _ _ _ _ _ _ _ h (fun _=>rfl) (R.add av ⟨v',R.new v',hr⟩) (.row (R.new v')) (hP _ _) (Bz R)
      ·exact absurd h aC.bad
     ·exact absurd h aC.bad
   ·exact absurd h aC.bad
  ·exact absurd h aC.bad
 ·rename_i es z len parts jG
  split at h
  ·rename_i o aBg hl
   obtain⟨rfl,rfl,rfl,asb⟩:=ar8 hl;split at h
   ·rename_i q _
    split at h
    ·rename_i t ed x ht hm
     split at h
     ·rename_i e he fc
      have af:=c3 R b0 asb;obtain⟨w',qN,z2⟩:=arW (n:=15) (F:=F) a6 R.Bx hm af;have jx:=a6.iC _ _ _ _ _ _ _ z2 he;have fc:=eU fc;have bq:∀{k:Nat} {c:cp J},bt (qi o s.mem) k=some c->bt s.mem k=some c:=fun hk=>adz (Bv o _) R.dt hk;subst jx;refine acH hw R.own qN rfl (a6.bx t e) ⟨by rw[a6.es,fc],a6.ok t e⟩ fun H' mv av=> ?_
      refine cA _ {s with mem:=qi o s.mem,cL:=(o,0)::s.cL} _ H' G ρ mv true h (fun _=>rfl) ⟨R.aE,R.vs,av,R.dt.sublist ((Bv o _).map _),fun p hp=>R.lt p ((Bv o _).subset hp),fun k c hk=>R.mem k c (bq hk),R.du⟩ ?_ ei
       ⟨fun _ _=>rfl,fun _ h=>h,fun _ h=>lf _ h,ei,aN _,fun k w cs hk=>⟨cs,(HL fun e=>by subst e;rw[hm]at hk;cases hk).trans hk,rfl,fun _ _=>rfl⟩,fun k c hc hk=> ?_⟩
      ·have:b8 J s.aQ ρ fs (.sl t (.mk [e])) (aV (J.es t) (J.enc t) (.mk [e])):=.sl
       rw[fc]at this;exact this
      ·by_cases e:k=o
       ·subst e;exact .inr (qq ..)
       ·exact .inl ((HL e).trans hk)
     ·exact absurd h aC.bad
    ·exact absurd h aC.bad
   ·exact absurd h aC.bad
  ·obtain⟨v,ar,w,h1,h2,au,a7⟩:=R7 (call:=b9 aa) a6 aC R b0 h
   exact hF hw (a7 H R.own) (cA _ _ _ _ _ _ _ _ h1 (fun q=>by cases q) (R.eH h2) au ei h2.b7)
 ·obtain⟨v,ar,w,h1,h2,au,a7⟩:=R7 (call:=b9 aa) a6 aC R b0 h
  exact hF hw (a7 H R.own) (cA _ _ _ _ _ _ _ _ h1 (fun q=>by cases q) (R.eH h2) au ei h2.b7)
theorem Sl{t:Nat}{v:aR J.az}{w:V}{B:List Bool}(b0:∀t v,bt aq t=some v->b8 J B ρ fs v (a8 t))(af:b8 J B ρ fs v w):∀k u,bt ((t,v)::aq) k=some u->b8 J B ρ fs u (up a8 t w k):=fun k u h=>by
 rw[gk]at h;split at h
 ·rename_i e;cases h;subst e;rw[wW];exact af
 ·rename_i e;rw[jU _ _ (fun q=>e q.symm)];exact b0 k u h
theorem BC (a6:gv J)(aC:mr S)(hT:rX aa cx)(ag:∀j f,nth cx.fv j=some f->∃w,fs[j]? =some w/\oo aa F f.ea f.rt f.f w){k:bE J->List Bool->A}{Q:bY->Heap->List Bool->Prop}:
  ∀{ops:List bU} {aq:k7 J} {a8:bY} {s:bE J} {σ:bY} {H:Heap} {G:Nat->List (Nat × cf)} {ρ:List V} {wr nh:List Bool},S (so cx ops aq s nh k)->hq wr nh->cd J b F fs s σ H G ρ->(∀t v,bt aq t=some v->b8 J s.aQ ρ fs v (a8 t))->
  (∀ar aT H' G' cR fD BD,S (k ar BD)->hq fD BD->cd J b F fs ar aT H' G' cR->ρ <+: cR->Fr s ar->Q aT H' fD)->Op aa b ops a8 σ H wr Q
 |[],aq,a8,s,σ,H,G,ρ,wr,nh,h,hl,R,b0,cA=>cZ (cA _ _ _ _ _ _ _ h hl.rev R ei .rfl)
 |⟨d,op,g⟩::r,aq,a8,s,σ,H,G,ρ,wr,nh,h,hl,R,b0,cA=>by
  have fin:∀{s1:bE J} {H1:Heap} {aB:Nat->List (Nat × cf)} {gw:List V} {v:aR J.az} {w:V} {m Sm:Bool},(m=true->Sm=true)->cd J b F fs s1 σ H1 aB gw->b8 J s1.aQ gw fs v w->ρ <+: gw->Fr s s1->
    S (match put aq s1 v d with|(aq,s)=>so cx r aq s (Sm::nh) k)->Op aa b r (fN a8 d w) (fO σ d w) H1 (m::wr) Q:=by
   intro s1 H1 aB gw v w m Sm hm bT af aU eR h1;have qm:∀t v,bt aq t=some v->b8 J s1.aQ gw fs v (a8 t):=fun t v q=>(b0 t v q).mono eR.aQ aU
   match d with
   |none=>exact BC a6 aC hT ag h1 (.cons hm hl) bT qm fun ar aT H' G' cR fD BD ak a0 a2 a3 a4=>cA _ _ _ _ _ _ _ ak a0 a2 (aU.trans a3) (eR.trans a4)
   |some (t,false)=>exact BC a6 aC hT ag h1 (.cons hm hl) bT (Sl qm af) fun ar aT H' G' cR fD BD ak a0 a2 a3 a4=>cA _ _ _ _ _ _ _ ak a0 a2 (aU.trans a3) (eR.trans a4)
   |some (t,true)=>exact BC a6 aC hT ag h1 (.cons hm hl) (bT.put af) qm fun ar aT H' G' cR fD BD ak a0 a2 a3 a4=>cA _ _ _ _ _ _ _ ak a0 a2 (aU.trans a3) (eR.trans (Sf.trans a4))
  have go:∀{s1:bE J},jY s s1->gi a8 σ g=some true->S (oper cx aq s1 d (fun v s m=>match put aq s v d with|(aq,s)=>so cx r aq s (m::nh) k) op)->Op aa b (⟨d,op,g⟩::r) a8 σ H wr Q:=by
   intro s1 hk hw h1;exact CU a6 aC hT ag (R.eH hk) (fun t v q=>(b0 t v q).mono hk.aQ ei) h1 hw fun v ar w H' G' cR mv Si ak a0 a2 a3 a4 a5=>fin a0 a2 a3 a4 (hk.b7.trans a5) ak
  have skip:∀{s1:bE J},jY s s1->gi a8 σ g=some false->S (match put aq s1 (.aF []) d with|(aq,s)=>so cx r aq s (false::nh) k)->Op aa b (⟨d,op,g⟩::r) a8 σ H wr Q:=by
   intro s1 hk hw h1;exact Qo (o:=⟨d,op,g⟩) hw (fin (fun q=>q) (R.eH hk) (.aF .nil) ei hk.b7 h1)
  simp only[so]at h
  match g with
  |none=>exact go .rfl rfl h
  |some (x,w)=>
   simp only at h;split at h
   ·exact absurd h aC.bad
   ·rename_i v af
    have mW:=c3 R b0 af;split at h
    ·generalize BA:bB a8 σ x=xk at mW
     cases mW with
     |aF c7=>cases c7;exact skip .rfl (acn BA) h
    ·cases w with
     |true=>
      obtain⟨β,s1,ad,e2,bK,cw⟩:=DW aC h R.du mW;rcases cw with⟨rfl,h⟩|⟨rfl,h⟩
      ·exact go e2 (h3 ad rfl) h
      ·exact skip e2 (KK ad rfl) h
     |false=>
      obtain⟨β,s1,ad,e2,bK,cw⟩:=DW aC h R.du mW;rcases cw with⟨rfl,h⟩|⟨rfl,h⟩
      ·exact skip e2 (KL ad rfl) h
      ·exact go e2 (h3 ad rfl) h
end
end Go.Abs.hv
