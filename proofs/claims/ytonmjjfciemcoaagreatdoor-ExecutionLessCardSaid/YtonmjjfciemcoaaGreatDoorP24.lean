/- Texts of this claim, joined and written short by a program. -/
import Derived.Test.YtonmjjfciemcoaaGreatDoorP23
import Derived.Test.YtonmjjfciemcoaaGreatDoorP00
set_option linter.unusedVariables false
set_option linter.unusedSimpArgs false
set_option linter.unusedSectionVars false
namespace Go.Abs.gB
open Go Go.Abs
def uy{U:iQ}:ck U->Bool
 | .cells .. =>true
 | _=>false
structure Fr {U:iQ} (s ao:bA U):Prop where
 vs:∀t,t∉ao.dL->bj ao.vs t=bj s.vs t
 dL:∀t∈s.dL,t∈ao.dL
 cI:∀p∈s.cI,p∈ao.cI
 aK:s.aK <+: ao.aK
 aD:s.aD<=ao.aD
 mem:∀o w cs,bj s.mem o=some (.cells w cs)->∃cs',bj ao.mem o=some (.cells w cs')/\cs'.length=cs.length/\∀j:Nat,(o,j)∉ao.cI->cs'[j]? =cs[j]?
 row:∀o aV,uy aV=false->bj s.mem o=some aV->bj ao.mem o=some aV\/(o,0)∈ao.cI
section
variable{U:iQ}{b:Nat}{F:cG}{fs:List V}{s ao Iw:bA U}{σ a1:bW}{H:Heap}{G:Nat->List (Nat × b5)}{ρ:List V}{aq:kO U}{A:Type}[aJ A]{S:A->Prop}{aa:Nat->Option bU}{cx:oj U}
theorem Fr.rfl:Fr s s:=⟨fun _ _=>Eq.refl _,fun _ h=>h,fun _ h=>h,dW,aH _,fun o w cs h=>⟨cs,h,Eq.refl _,fun _ _=>Eq.refl _⟩,fun _ _ _ h=>.inl h⟩
theorem Fr.trans (h:Fr s ao)(k:Fr ao Iw):Fr s Iw where
 vs:=fun t ht=>(k.vs t ht).trans (h.vs t fun q=>ht (k.dL t q))
 dL:=fun t ht=>k.dL t (h.dL t ht)
 cI:=fun p hp=>k.cI p (h.cI p hp)
 aK:=h.aK.trans k.aK
 aD:=cY h.aD k.aD
 mem:=fun o w cs hm=>by
  obtain⟨pV,h1,h2,ar⟩:=h.mem o w cs hm;obtain⟨ID,bQ,c6,iX⟩:=k.mem o w pV h1;exact⟨ID,bQ,c6.trans h2,fun j hj=>(iX j hj).trans (ar j fun q=>hj (k.cI _ q))⟩
 row:=fun o aV hc hm=>(h.row o aV hc hm).elim (k.row o aV hc) fun q=>.inr (k.cI _ q)
theorem jJ.b2 (h:jJ s ao):Fr s ao where
 vs:=fun t _=>by rw[h.vs]
 dL:=fun t ht=>by rw[h.dL];exact ht
 cI:=fun t ht=>by rw[h.cI];exact ht
 aK:=h.aK
 aD:=by rw[h.aD];exact aH _
 mem:=fun o w cs hm=>⟨cs,by rw[h.mem];exact hm,Eq.refl _,fun _ _=>Eq.refl _⟩
 row:=fun o aV hc hm=>.inl (by rw[h.mem];exact hm)
theorem SX{α:Type}{l:List (Nat × α)}{t:Nat}(h:t∉l.map Prod.fst):bj l t=none:=by
 cases e:bj l t with
 |none=>rfl
 |some a=>exact absurd (r2 (f:=Prod.fst) (ju e)) h
theorem b7.put (R:b7 U b F fs s σ H G ρ){t:Nat}{v:aO U.ax}{w:V}(ad:b3 U s.aK ρ fs v w){dL:List Nat}:b7 U b F fs {s with vs:=(t,v)::s.vs,dL:=dL} (up σ t w) H G ρ where
 aD:=R.aD
 vs:=fun k u h=>by
  rw[fZ]at h;split at h
  ·rename_i e;cases h;subst e;rw[w5];exact ad
  ·rename_i e;rw[jF _ _ (fun q=>e q.symm)];exact R.vs k u h
 own:=R.own
 dk:=R.dk
 lt:=R.lt
 mem:=R.mem
 dQ:=R.dQ
theorem SY{t:Nat}{v:aO U.ax}:Fr s {s with vs:=(t,v)::s.vs,dL:=t::s.dL} where
 vs:=fun k h=>by
  rw[fZ,if_neg];intro e;subst e;exact h (p5 ..)
 dL:=fun t ht=>kW _ ht
 cI:=fun _ h=>h
 aK:=dW
 aD:=aH _
 mem:=fun o w cs hm=>⟨cs,hm,Eq.refl _,fun _ _=>Eq.refl _⟩
 row:=fun _ _ _ h=>.inl h
theorem b7.new (R:b7 U b F fs s σ H G ρ)(v:V):(ρ++[v])[s.aD]? =some v:=by rw[<-R.aD];simp
theorem b7.add (R:b7 U b F fs s σ H G ρ){H':Heap}{m':List (Nat × b5)}{aV:ck U}{v:V}(aw:Own H' (m'::dz s G F))(hb:pU U b s.aK (ρ++[v]) fs s.aD m' aV):
  b7 U b F fs (kP s aV) σ H' (fun o=>if o=s.aD then m' else G o) (ρ++[v]) where
 aD:=by simp[kP,R.aD]
 vs:=fun t v h=>(R.vs t v h).mono dW (hK _ _)
 own:=by
  have:dz (kP s aV) (fun o=>if o=s.aD then m' else G o) F=m'::dz s G F:=by
   unfold dz kP;simp only[dv,if_pos,mi];congr 2;refine p4 fun e he=> ?_;rw[if_neg (qW (R.lt e he))]
  rw[this];exact aw
 dk:=by
  show(s.aD::s.mem.map Prod.fst).Nodup;refine tf.2 ⟨fun h=> ?_,R.dk⟩;obtain⟨e,he,q⟩:=dZ.1 h;exact absurd q (qW (R.lt e he))
 lt:=fun e he=>by
  rcases dx.1 he with rfl|he
  ·exact zE _
  ·exact Oj (R.lt e he)
 mem:=fun o c h=>by
  have h:bj ((s.aD,aV)::s.mem) o=some c:=h;rw[fZ]at h;split at h
  ·rename_i e;cases h;subst e;rw[if_pos rfl];exact hb
  ·rename_i e
   have:=(R.mem o c h).mono (dW (l:=s.aK)) (hK ρ [v]);simp only[ly e,if_false];exact this
 dQ:=R.dQ
theorem BQ (R:b7 U b F fs s σ H G ρ){aV:ck U}:Fr s (kP s aV) where
 vs:=fun _ _=>Eq.refl _
 dL:=fun _ h=>h
 cI:=fun _ h=>h
 aK:=dW
 aD:=Fu _
 mem:=fun o w cs hm=>⟨cs,by
  show bj ((s.aD,aV)::s.mem) o=_;rw[fZ,if_neg (Nat.ne_of_gt (R.lt _ (ju hm)))];exact hm,Eq.refl _,fun _ _=>Eq.refl _⟩
 row:=fun o c hc hm=>.inl (by
  show bj ((s.aD,aV)::s.mem) o=_;rw[fZ,if_neg (Nat.ne_of_gt (R.lt _ (ju hm)))];exact hm)
theorem SZ{o f o' j:Nat}:∀{n:Nat} {l:List (Nat × Nat)},(o',j)∈marks o f n l↔(o'=o/\f<=j/\j<f+n)\/(o',j)∈l
 |0,l=>by simp only[marks];constructor<;>intro h<;>first|exact .inr h|(rcases h with h|h;omega;exact h)
 |n+1,l=>by
  simp only[marks,dx,SZ (n:=n),bx];constructor
  ·rintro(⟨rfl,rfl⟩|⟨rfl,h⟩|h)
   ·exact .inl ⟨rfl,by omega,by omega⟩
   ·exact .inl ⟨rfl,by omega,by omega⟩
   ·exact .inr h
  ·rintro(⟨rfl,h1,h2⟩|h)
   ·by_cases q:j=f+n
    ·exact .inl ⟨rfl,q⟩
    ·exact .inr (.inl ⟨rfl,h1,by omega⟩)
   ·exact .inr (.inr h)
theorem afv:∀(xs cs:List (aO U.ax)) (o:Nat),(vw cs o xs).length=cs.length
 |[],_,_=>rfl
 |x::xs,cs,o=>by simp[vw,afv xs]
theorem afw:∀(xs cs:List (aO U.ax)) (o j:Nat),¬(o<=j/\j<o+xs.length)->(vw cs o xs)[j]? =cs[j]?
 |[],_,_,_,_=>rfl
 |x::xs,cs,o,j,h=>by
  simp only[gD]at h;rw[vw,afw xs _ (o+1) j (by omega),jx (by omega)]
theorem au1{o:Nat}{c:ck U}{m:List (Nat × b5)}{k:Nat}(hk:k<s.mem.length)(hid:s.mem[k].1=o)(dk:(s.mem.map Prod.fst).Nodup){cI:List (Nat × Nat)}:
  dz {s with mem:=je o c s.mem,cI:=cI} (fun q=>if q=o then m else G q) F=(dz s G F).set k m:=by
 unfold dz;simp only;rw[JT _ _ (by simpa using hk)];congr 1;have af:(je o c s.mem).map (fun e=>if e.1=o then m else G e.1)=((je o c s.mem).map Prod.fst).map (fun q=>if q=o then m else G q):=by rw[kX];rfl
 have ak:s.mem.map (fun e=>G e.1)=(s.mem.map Prod.fst).map G:=by rw[kX];rfl
 rw[af,ak,vD];have hk':k<(s.mem.map Prod.fst).length:=by simpa using hk
 have BO:(s.mem.map Prod.fst)[k]=o:=by simpa using hid
 generalize s.mem.map Prod.fst=l at dk hk' BO;apply oA;intro i;rw[hL];by_cases e:k=i
 ·subst e
  rw[nI (by simpa using hk'),eg hk',BO];simp
 ·rw[jx e,hL]
  cases hi:l[i]? with
  |none=>rfl
  |some q=>
   have nZ:=(fj.1 hi);obtain⟨nZ,bf⟩:=nZ;have:q≠o:=fun h=>e ((List.getElem_inj (h₀:=hk') (h₁:=nZ) dk).1 (by rw[BO,bf,h]));simp[this]
theorem b7.cp (R:b7 U b F fs s σ H G ρ){H':Heap}{o k:Nat}{c fD:ck U}{m':List (Nat × b5)}{cI:List (Nat × Nat)}(hm:bj s.mem o=some fD)(hk:k<s.mem.length)(hid:s.mem[k].1=o)(hc:pU U b s.aK ρ fs o m' c)(aw:Own H' ((dz s G F).set k m')):
  b7 U b F fs {s with mem:=je o c s.mem,cI:=cI} σ H' (fun q=>if q=o then m' else G q) ρ where
 aD:=R.aD
 vs:=R.vs
 own:=by rw[au1 hk hid R.dk];exact aw
 dk:=by show((je o _ s.mem).map Prod.fst).Nodup;rw[vD];exact R.dk
 lt:=fun e he=>by
  have:e.1∈(je o c s.mem).map Prod.fst:=r2 he;rw[vD]at this;obtain⟨e',h1,h2⟩:=dZ.1 this;rw[<-h2];exact R.lt e' h1
 mem:=fun q aV h=>by
  have h1:bj (je o c s.mem) q=some aV:=h;clear h;rw[uw]at h1;have h:=h1;clear h1;split at h
  ·rename_i e;subst e
   rw[hm]at h;cases h;rw[if_pos rfl];exact hc
  ·rename_i e
   have:=R.mem q aV h;simp only[e,if_false];exact this
 dQ:=R.dQ
theorem au2{o f:Nat}{vs cs:List (aO U.ax)}{w:Bool}(hm:bj s.mem o=some (.cells w cs)):Fr s {s with mem:=je o (.cells w (vw cs f vs)) s.mem,cI:=marks o f vs.length s.cI} where
 vs:=fun _ _=>Eq.refl _
 dL:=fun _ h=>h
 cI:=fun p h=>by obtain⟨a,c⟩:=p;exact SZ.2 (.inr h)
 aK:=dW
 aD:=aH _
 mem:=fun q w' cs' h=>by
  simp only[uw];by_cases e:q=o
  ·subst e
   rw[h]at hm;cases hm;exact⟨_,by rw[if_pos rfl,h];rfl,afv _ _ _,fun j hj=>afw _ _ _ _ fun q=>hj (SZ.2 (.inl ⟨rfl,q.1,q.2⟩))⟩
  ·exact⟨cs',by rw[if_neg e];exact h,rfl,fun _ _=>rfl⟩
 row:=fun q aV hc h=>by
  simp only[uw];by_cases e:q=o
  ·subst e;rw[h]at hm;cases hm;cases hc
  ·rw[if_neg e];exact .inl h
theorem S0{o:Nat}{fD c:ck U}(hc:uy fD=false)(hm:bj s.mem o=some fD):Fr s {s with mem:=je o c s.mem,cI:=(o,0)::s.cI} where
 vs:=fun _ _=>Eq.refl _
 dL:=fun _ h=>h
 cI:=fun p h=>kW _ h
 aK:=dW
 aD:=aH _
 mem:=fun q w' cs' h=>by
  simp only[uw];by_cases e:q=o
  ·subst e;rw[h]at hm;cases hm;cases hc
  ·exact⟨cs',by rw[if_neg e];exact h,rfl,fun _ _=>rfl⟩
 row:=fun q aV _ h=>by
  simp only[uw];by_cases e:q=o
  ·subst e;exact .inr (p5 ..)
  ·rw[if_neg e];exact .inl h
theorem afx{o n:Nat}:∀{l:List (Nat × ck U)} {aV:ck U},bj l o=some aV->(∀e∈l,e.1<n)->∃k,(l.map fun e=>G e.1)[k]? =some (G o)/\∀(c:ck U) m',((kd o n c l).map fun e=>if e.1=n then m' else G e.1)=(l.map fun e=>G e.1).set k m'
 |(a,d)::r,aV,h,hn=>by
  simp only[bj]at h;simp only[kd];split at h
  ·rename_i e
   try rw[e]
   refine⟨0,by simp[eE e],fun c m'=> ?_⟩;simp only[dv,Oh,if_pos];congr 1;exact p4 fun e he=>if_neg (qW (hn e (kW _ he)))
  ·rename_i e
   try rw[e]
   obtain⟨k,h1,h2⟩:=afx h fun e he=>hn e (kW _ he);refine⟨k+1,by simpa using h1,fun c m'=> ?_⟩;simp only[dv,Wr,h2,if_neg (qW (hn _ (p5 ..)))]
theorem MX{o n:Nat}{c:ck U}:∀{l:List (Nat × ck U)} {e:Nat × ck U},e∈kd o n c l->e=(n,c)\/e∈l
 |(a,d)::r,e,h=>by
  simp only[kd]at h;split at h
  ·rcases dx.1 h with h|h
   ·exact .inl h
   ·exact .inr (kW _ h)
  ·rcases dx.1 h with rfl|h
   ·exact .inr (p5 ..)
   ·exact(MX h).imp id (kW _)
theorem afy{o n:Nat}{c:ck U}:∀{l:List (Nat × ck U)},(l.map Prod.fst).Nodup->(∀e∈l,e.1<n)->((kd o n c l).map Prod.fst).Nodup
 |[],h,_=>h
 |(a,d)::r,h,hn=>by
  have h':=tf.1 h;have q8:∀e∈r,e.1<n:=fun e he=>hn e (kW _ he);simp only[kd];split
  ·refine tf.2 ⟨fun q=> ?_,h'.2⟩
   obtain⟨x,hx,q⟩:=dZ.1 q;exact qW (q8 x hx) q
  ·refine tf.2 ⟨fun q=> ?_,afy h'.2 q8⟩
   obtain⟨x,hx,q⟩:=dZ.1 q;rcases MX hx with rfl|hx
   ·exact qW (hn _ (p5 ..)) q.symm
   ·exact h'.1 (by rw[<-q];exact r2 hx)
theorem afz{o n:Nat}{c:ck U}(hn:n≠o):∀{l:List (Nat × ck U)},(l.map Prod.fst).Nodup->bj (kd o n c l) o=none
 |[],_=>rfl
 |(a,d)::r,h=>by
  have h':=tf.1 h;simp only[kd];split
  ·rename_i e
   have e:=eE e;subst e;rw[fZ,if_neg hn];exact SX h'.1
  ·rename_i e
   rw[fZ,if_neg (fun q=>by rw[q,zM]at e;cases e)];exact afz hn h'.2
theorem MY{o n q:Nat}{c:ck U}(h1:q≠o)(h2:q≠n):∀l:List (Nat × ck U),bj (kd o n c l) q=bj l q
 |[]=>rfl
 |(a,d)::r=>by
  simp only[kd];split
  ·rename_i e
   have e:=eE e;subst e;rw[fZ,fZ,if_neg (ly h1),if_neg (ly h2)]
  ·rw[fZ,fZ,MY h1 h2 r]
theorem b7.rep (R:b7 U b F fs s σ H G ρ){o:Nat}{fD:ck U}(hm:bj s.mem o=some fD):∃k:Nat,(dz s G F)[k]? =some (G o)/\∀{H':Heap} {c:ck U} {v:V} {m':List (Nat × b5)} {cI:List (Nat × Nat)},
  pU U b s.aK (ρ++[v]) fs s.aD m' c->Own H' ((dz s G F).set k m')->b7 U b F fs {s with mem:=kd o s.aD c s.mem,aD:=s.aD+1,cI:=cI} σ H' (fun q=>if q=s.aD then m' else G q) (ρ++[v]):=by
 obtain⟨k,h1,h2⟩:=afx (G:=G) hm R.lt;have aT:=(fj.1 h1).1;refine⟨k,by unfold dz;rw[e5 aT];exact h1,fun {H' c v m' cI} hc aw=> ?_⟩;have bg:s.aD≠o:=fun e=>absurd (R.lt _ (ju hm)) (by rw[<-e];exact Nat.lt_irrefl _)
 exact {
  aD:=by simp[R.aD]
  vs:=fun t v h=>(R.vs t v h).mono dW (hK _ _)
  own:=by
   unfold dz at aw⊢;rw[JT _ _ aT]at aw;rw[show(kd o s.aD c s.mem).map (fun e=>if e.1=s.aD then m' else G e.1)=_ from h2 c m'];exact aw
  dk:=afy R.dk R.lt
  lt:=fun e he=>by
   rcases MX he with rfl|he
   ·exact zE _
   ·exact Oj (R.lt e he)
  mem:=fun q aV h=>by
   have h:bj (kd o s.aD c s.mem) q=some aV:=h;by_cases af:q=s.aD
   ·subst af
    rw[if_pos rfl];rcases MX (ju h)with e|e
    ·cases e;exact hc
    ·exact absurd (R.lt _ e) (Nat.lt_irrefl _)
   ·by_cases ak:q=o
    ·subst ak;rw[afz bg R.dk]at h;cases h
    ·rw[MY ak af]at h
     rw[if_neg af];exact(R.mem q aV h).mono dW (hK _ _)
  dQ:=R.dQ}
theorem afA (R:b7 U b F fs s σ H G ρ){o t:Nat}{x:ae (U.ax t)}{c:ck U}(hm:bj s.mem o=some (.row t x)):Fr s {s with mem:=kd o s.aD c s.mem,aD:=s.aD+1,cI:=(o,0)::s.cI} where
 vs:=fun _ _=>Eq.refl _
 dL:=fun _ h=>h
 cI:=fun p h=>kW _ h
 aK:=dW
 aD:=Fu _
 mem:=fun q w' cs' h=>⟨cs',by
  have af:q≠o:=fun e=>by subst e;rw[h]at hm;cases hm
  show bj (kd o s.aD c s.mem) q=_;rw[MY af (qW (R.lt _ (ju h)))];exact h,rfl,fun _ _=>rfl⟩
 row:=fun q aV _ h=>by
  by_cases e:q=o
  ·subst e;exact .inr (p5 ..)
  ·refine .inl ?_
   show bj (kd o s.aD c s.mem) q=_;rw[MY e (qW (R.lt _ (ju h)))];exact h
theorem au3{eC:List Nat}{ops:List bS}{wr mW:List Bool}(h:hv wr mW)(ho:r7 eC ops mW=true):r7 eC ops wr=true:=by
 unfold r7 at ho⊢;rcases iI _ _ |>.mp ho with ho|ho
 ·rw[iI];left
  unfold yc at ho⊢;split
  ·rename_i Sq
   have au4:mW.any id=true:=by
    obtain⟨x,hx,gj⟩:=tc.1 Sq;simp only[id]at gj;subst gj;obtain⟨i,hi⟩:=pY.1 hx;exact tc.2 ⟨true,gg (h.get hi),rfl⟩
   rw[if_pos au4]at ho;rw[ev]at ho⊢;rintro⟨w,i⟩ hw;cases w with
   |false=>rfl
   |true=>
    have hi:=h.get (jw.1 hw);exact ho (true,i) (jw.2 hi)
  ·rfl
 ·rw[iI];exact .inr ho
theorem au5{B:List Bool}{v:aO U.ax}{w:V}(h:Sx v=true)(ad:b3 U B ρ fs v w):plainCell w=true:=by
 cases ad<;>simp only[Sx]at h
 case sl s=>cases s<;>rfl
 all_goals first|rfl|exact h|cases h
theorem afB{B:List Bool}:∀{cs:List (aO U.ax)} {ws:List V},MG cs=true->bD U B ρ fs cs ws->mj ws=true
 | _,_,_,.nil=>rfl
 | _,_,h,.cons h' r=>by
   simp only[MG]at h;split at h
   ·rename_i e;simp only[mj,au5 e h',afB h r,zK]
   ·cases h
theorem afC{B:List Bool}{u:aO U.ax}{w:V}{f:Nat}{vs:List (aO U.ax)}{ws:List V}(h:(match f,vs with|0,[x]=>some x| _,_=>none)=some u)(hs:bD U B ρ fs vs ws)(hw:∀l,w≠ .agg l):∃w',yb w f ws=some w'/\b3 U B ρ fs u w':=by
 split at h
 ·cases h
  cases hs with
  |cons hx r=>cases r;exact⟨_,by unfold yb;split;exact absurd rfl (hw _);rfl,hx⟩
 ·cases h
theorem au6{B:List Bool}{v u:aO U.ax}{w:V}{f:Nat}{vs:List (aO U.ax)}{ws:List V}(h:nz v f vs=some u)(ad:b3 U B ρ fs v w)(hs:bD U B ρ fs vs ws):∃w',yb w f ws=some w'/\b3 U B ρ fs u w':=by
 cases ad<;>simp only[nz]at h
 case agg ad=>
  split at h
  ·rename_i e
   cases h;refine⟨_,?_,.agg (MS hs f ad)⟩;simp only[yb];rw[if_pos (by rw[<-ad.length,<-hs.length];exact mh e)]
  ·cases h
 case sl s=>exact afC h hs (fun l e=>by cases s<;>cases e)
 all_goals first|cases h|exact afC h hs (fun l e=>by cases e)
theorem EC{B:List Bool}{t:Nat}{v:aO U.ax}{w:V}{l:ae (U.ax t)}(h:eD t v=some l)(ad:b3 U B ρ fs v w):w=bn (U.es t) (U.enc t) l:=by
 unfold eD at h;split at h
 ·split at h
  ·rename_i e;subst e;cases h;cases ad;rfl
  ·cases h
 ·cases h;cases ad;rfl
 ·cases h;cases ad;rfl
 ·cases h
theorem au7{B:List Bool}:∀z:List V,b3 U B ρ fs (ae4 z) (lz z)
 |[]=>.agg .nil
 |[v]=>MR v
 |a::c::r=>.agg (Ix (a::c::r))
theorem au8{a c:aj}{bY:IntKind}{n:Int}(h:Sw a c=true)(ha:bw a1 σ a=.int bY n):∃k,bw a1 σ c=.int k n:=by
 unfold Sw at h;split at h
 ·rw[eE h]at ha;exact⟨_,ha⟩
 ·rw[eE h]at ha;exact⟨_,ha⟩
 ·have:=of_decide_eq_true h
  subst this;cases ha;exact⟨_,rfl⟩
 ·cases h
set_option maxHeartbeats 1000000 in
theorem MZ{m':List (Nat × ck U)}:∀{l:List (Nat × ck U)} {o t:Nat} {x:ae (U.ax t)} {ey:Nat} {fQ:ae (U.ax ey)},(o,ck.row t x)∈l->bj m' o=some (.fz ey fQ)->(o,0)∈gone m' l
 |(a,d)::r,o,t,x,ey,fQ,h,hn=>by
  simp only[gone];rcases dx.1 h with e|hm
  ·cases e;simp only[hn];exact p5 ..
  ·split
   ·split
    ·exact kW _ (MZ hm hn)
    ·exact MZ hm hn
   ·exact MZ hm hn
theorem au9{len:Nat}{parts:List (Nat × aj)}{jP:Bool}{o:Nat}{x:aj}(h:Sz aq s len parts jP=some (o,x)):len=1/\parts=[(0,x)]/\jP=true/\ah aq s x=some (.row o):=by
 unfold Sz at h;split at h
 ·split at h
  ·rename_i he;cases h;exact⟨rfl,rfl,rfl,he⟩
  ·cases h
 ·cases h
theorem IE{o:Nat}:∀{m:List (Nat × ck U)} {k:Nat},k≠o->bj (pS o m) k=bj m k
 |[],_,_=>rfl
 |(a,c)::r,k,hk=>by
  simp only[pS];split
  ·rename_i e
   have e:=eE e;rw[fZ,if_neg (by rw[e];exact fun q=>hk q.symm)]
  ·rw[fZ,fZ,IE hk]
theorem Dr (aY:gp U)(aA:mb S)(hT:rL aa cx)(ag:∀j f,nth cx.fv j=some f->∃w,fs[j]? =some w/\oo aa F f.dU f.rt f.f w)
  (R:b7 U b F fs s σ H G ρ) (bV:∀t v,bj aq t=some v->b3 U s.aK ρ fs v (a1 t)) {d:Option (Nat × Bool)} {op:cV} {g:Option (aj × Bool)} {rest:List bS} {wr:List Bool} {k:aO U.ax->bA U->Bool->A} {Q:bW->Heap->List Bool->Prop}
  (h:S (oper cx aq s d k op)) (hw:gd a1 σ g=some true)
  (cr:∀v ao w H' G' cS mv S1,S (k v ao S1)->(mv=true->S1=true)->b7 U b F fs ao σ H' G' cS->b3 U ao.aK cS fs v w->ρ <+: cS->Fr s ao->Op aa b rest (fI a1 d w) (fJ σ d w) H' (mv::wr) Q):
  Op aa b (⟨d,op,g⟩::rest) a1 σ H wr Q:=by
 unfold oper at h;split at h
 ·rename_i z
  refine A7 hw R.own fun H' a ha aw=> ?_;exact cr _ _ _ _ _ _ _ _ h (fun _=>rfl) (R.add aw ⟨a,_,R.new _,rfl,Ix z,fun _=>ha⟩) (.ptr (R.new _)) (hK _ _) (BQ R)
 ·rename_i x
  split at h
  ·exact absurd h aA.bad
  ·rename_i v ad
   split at h
   ·exact absurd h aA.bad
   ·rename_i cs hc
    split at h
    ·rename_i ho
     have eV:=BH hc (c1 R bV ad);refine Rh hw R.own rfl (SI ho eV) fun H' a ha aw=> ?_;exact cr _ _ _ _ _ _ _ _ h (fun _=>rfl) (R.add aw ⟨a,_,R.new _,rfl,eV.mono dW (hK _ _),fun _=>ha⟩) (.ptr (R.new _)) (hK _ _) (BQ R)
    ·exact absurd h aA.bad
 ·rename_i n x y
  split at h
  ·rename_i o f v hx hy
   split at h
   ·rename_i cs vs hm hc
    split at h
    ·rename_i af ak bK
     have Ay:=c1 R bV hx;generalize BR:bw a1 σ x=xu at Ay;cases Ay with
     |ptr ho=>
      obtain⟨a,ws,q1,q2,cn,c7,fr⟩:=R.cells hm;rw[q1]at ho;cases ho;have c2:=auI R hc (c1 R bV hy);obtain⟨i,hi,aT,Ey,hid⟩:=R.at hm
      refine A8 hw R.own i (by rw[hi,q2]) (fr rfl) BR rfl ⟨by rw[<-c2.length];exact eE af,by
       have:=eE af;rw[<-c7.length];exact mh ak⟩ (afc R bK c2) rfl fun H' aw=> ?_
      exact cr _ _ _ _ _ _ _ _ h (fun _=>rfl) (R.cp hm aT hid ⟨_,_,q1,rfl,MS c2 f c7,fr⟩ aw) .k dW (au2 hm)
    ·exact absurd h aA.bad
   ·exact absurd h aA.bad
  ·rename_i o i f v hx hy
   split at h
   ·rename_i t c9 vs hm hc
    split at h
    ·rename_i af ak
     obtain⟨e,he,h⟩:=aA.cv h;obtain⟨aEd,ao,h1,h2,ar⟩:=BI (ρ:=ρ) (fs:=fs) aY h;split at h1
     ·exact absurd h1 aA.bad
     ·rename_i u hu
      split at h1
      ·exact absurd h1 aA.bad
      ·rename_i e' qq
       have oN:=R.keep h2;have h7:bj ao.mem o=some (.row t c9):=by rw[h2.mem];exact hm
       have Ay:=c1 R bV hx;generalize BR:bw a1 σ x=xu at Ay;cases Ay with
       |jt ho=>
        obtain⟨v0,q1,q2⟩:=oN.mem o _ h7;rw[q1]at ho;cases ho;have:=q2.afk;subst this;have c2:=(BH hc (c1 R bV hy)).mono h2.aK dW;obtain⟨k,hi,aT,Ey,hid⟩:=oN.at h7;obtain⟨w',p1,p2⟩:=au6 hu ar c2;have jr:=aY.jd _ _ _ _ _ _ _ p2 qq;subst jr;refine arA hw k he oN.own hi q2 rfl BR rfl (by rw[<-c2.length];exact eE af) (afB ak c2) p1 fun H' m' hr aw=> ?_;exact cr _ _ _ _ _ _ _ _ h1 (fun _=>rfl) (oN.cp h7 aT hid ⟨_,q1,hr⟩ aw) .k dW (h2.b2.trans (S0 rfl h7))
    ·exact absurd h aA.bad
   ·exact absurd h aA.bad
  ·exact absurd h aA.bad
 ·rename_i es bytes dB fP
  have afD:∀{t:Nat} {q:ae (U.ax t)} {x:aO U.ax},ah aq s dB=some x->Go.Abs.elems H (U.es t) (bw a1 σ fP)=some (q.l.map (U.enc t))->S (MF s es bytes t x q k)->Op aa b (⟨d,.append es bytes dB fP,g⟩::rest) a1 σ H wr Q:=by
   intro t q x oe y3 h0;have gi:=c1 R bV oe;generalize fg:bw a1 σ dB=wa at gi
   have key:∀{c9:ae (U.ax t)},fE b (U.es t) (U.enc t) wa c9 []->S (sV s es bytes t c9 none (.sl t q) k)->Op aa b (⟨d,.append es bytes dB fP,g⟩::rest) a1 σ H wr Q:=by
    intro c9 S2 mA;unfold sV at mA;split at mA
    ·rename_i BS af ak
     have Gt:eD t (.sl t q:aO U.ax)=some q:=by simp[eD]
     rw[Gt]at ak;cases ak;obtain⟨z,aR,mA⟩:=aA.cv mA;have af:=eE af;subst af;refine aer (ms:=[]::dz s G F) hw 0 aR (R.own.ins 0) rfl S2 fg y3 (aY.bI t) (aY.ok t) fun H' v' m' mv hr aw=> ?_;exact cr _ _ _ _ _ _ _ _ mA (fun _=>rfl) (R.add aw ⟨v',R.new v',hr⟩) (.row (R.new v')) (hK _ _) (BQ R)
    ·exact absurd mA aA.bad
   unfold MF at h0;split at h0
   ·rename_i o'
    split at h0
    ·rename_i ey c9 h7
     unfold sV at h0;split at h0
     ·rename_i BS af ak
      have ht:t=ey:=by
       by_cases ht:t=ey
       ·exact ht
       ·simp[eD,ht]at ak
      subst ht;have Gt:eD t (.sl t q:aO U.ax)=some q:=by simp[eD]
      rw[Gt]at ak;cases ak;obtain⟨z,aR,h1⟩:=aA.cv h0;clear h0;cases gi with
      |row jU=>
       obtain⟨v0,q1,q2⟩:=R.mem o' _ h7;rw[q1]at jU;cases jU;have af:=eE af;subst af;obtain⟨k0,tx,pr⟩:=R.rep h7;refine aer hw k0 aR R.own tx q2 fg y3 (aY.bI t) (aY.ok t) fun H' v' m' mv hr aw=> ?_;exact cr _ _ _ _ _ _ _ _ h1 (fun _=>rfl) (pr ⟨v',R.new v',hr⟩ aw) (.row (R.new v')) (hK _ _) (afA R h7)
     ·exact absurd h0 aA.bad
    ·exact absurd h0 aA.bad
   ·split at h0
    ·rename_i e
     exact key (by rw[y2 e gi];exact .nil) h0
    ·rename_i e
     exact key (by rw[y2 e gi];exact .emp) h0
    ·exact absurd h0 aA.bad
  split at h
  ·rename_i x o lo hi oe rM
   split at h
   ·rename_i t y hm
    obtain⟨q,bf,h0⟩:=aA.cv h;clear h;have sf:=c1 R bV rM;generalize IG:bw a1 σ fP=wb at sf;cases sf with
    |lp ho S3=>
     obtain⟨v1,bB,ca⟩:=R.mem o _ hm;obtain⟨bQ,gG,-⟩:=R.at hm;rw[bB]at ho;cases ho;exact afD oe (by rw[IG];exact afj bQ gG R.own ca bf S3) h0
   ·exact absurd h aA.bad
  ·rename_i x o oe rM
   split at h
   ·rename_i t y hm
    have sf:=c1 R bV rM;generalize IG:bw a1 σ fP=wb at sf;cases sf with
    |row ho=>
     obtain⟨v1,bB,ca⟩:=R.mem o _ hm;obtain⟨bQ,gG,-⟩:=R.at hm;rw[bB]at ho;cases ho;exact afD oe (by rw[IG];exact auN bQ gG R.own ca) h
   ·exact absurd h aA.bad
  ·rename_i o y _ _ oe rM
   split at h
   ·rename_i t x hm
    unfold sV at h;split at h
    ·rename_i BS af ak
     obtain⟨z,aR,h⟩:=aA.cv h;have gi:=c1 R bV oe;generalize fg:bw a1 σ dB=wa at gi;cases gi with
     |row ho=>
      obtain⟨v0,q1,q2⟩:=R.mem o _ hm;rw[q1]at ho;cases ho;have af:=eE af;subst af;obtain⟨k,hi,pr⟩:=R.rep hm;refine ad8 hw k aR R.own hi q2 fg (EC ak (c1 R bV rM)) (aY.bI t) (aY.ok t) fun H' v' m' mv hr aw=> ?_;exact cr _ _ _ _ _ _ _ _ h (fun _=>rfl) (pr ⟨v',R.new v',hr⟩ aw) (.row (R.new v')) (hK _ _) (afA R hm)
    ·exact absurd h aA.bad
   ·exact absurd h aA.bad
  ·rename_i x t y _ oe rM
   have key:∀{c9:ae (U.ax t)} {gm:V},bw a1 σ dB=gm->fE b (U.es t) (U.enc t) gm c9 []->S (sV s es bytes t c9 none (.sl t y) k)->Op aa b (⟨d,.append es bytes dB fP,g⟩::rest) a1 σ H wr Q:=by
    intro c9 gm fg S2 mA;unfold sV at mA;split at mA
    ·rename_i BS af ak
     obtain⟨z,aR,mA⟩:=aA.cv mA;have af:=eE af;subst af;refine ad8 (ms:=[]::dz s G F) hw 0 aR (R.own.ins 0) rfl S2 fg (EC ak (c1 R bV rM)) (aY.bI t) (aY.ok t) fun H' v' m' mv hr aw=> ?_;exact cr _ _ _ _ _ _ _ _ mA (fun _=>rfl) (R.add aw ⟨v',R.new v',hr⟩) (.row (R.new v')) (hK _ _) (BQ R)
    ·exact absurd mA aA.bad
   have hn:=c1 R bV oe;split at h
   ·rename_i e
    exact key (y2 e hn) .nil h
   ·rename_i e
    exact key (y2 e hn) .emp h
   ·exact absurd h aA.bad
  ·exact absurd h aA.bad
 ·rename_i es z bytes ava lE
  split at h
  ·rename_i q fq
   split at h
   ·rename_i t bY n ht hs hl
    split at h
    ·rename_i e af ak
     obtain⟨x,hx,h⟩:=aA.cv h;have af:=eE af;subst af;have lB:=c1 R bV hl;generalize Sp:bw a1 σ ava=wl at lB;cases lB;obtain⟨aei,hc⟩:=au8 hs Sp;refine ary hw hx R.own (aY.jd _ _ _ _ _ _ _ (au7 (ρ:=ρ) (fs:=fs) z) ak) Sp hc fun H' v' m' mv hr aw=> ?_;exact cr _ _ _ _ _ _ _ _ h (fun _=>rfl) (R.add aw ⟨v',R.new v',hr⟩) (.row (R.new v')) (hK _ _) (BQ R)
    ·exact absurd h aA.bad
   ·exact absurd h aA.bad
  ·exact absurd h aA.bad
 ·split at h
  ·rename_i q fq
   split at h
   ·rename_i c hc
    split at h
    ·rename_i p hp
     refine ad5 hw R.own fun H' a ha aw=> ?_;exact cr _ _ _ _ _ _ _ _ h (fun _=>rfl) (R.add aw ⟨a,R.new _,rfl,ha⟩) (.row (R.new _)) (hK _ _) (BQ R)
    ·exact absurd h aA.bad
   ·exact absurd h aA.bad
  ·exact absurd h aA.bad
 ·rename_i kind x i y
  split at h
  ·rename_i o v u hx hi hy
   split at h
   ·rename_i eI kc m hm
    split at h
    ·rename_i key val af ak bK
     have dC:=c1 R bV hx;generalize fg:bw a1 σ x=wa at dC;cases dC with
     |row ho=>
      obtain⟨a,q1,q2,cn⟩:=R.mem o _ hm;obtain⟨bF,hk,aT,Ey,hid⟩:=R.at hm;rw[q1]at ho;cases ho;refine @aeh aa b a1 σ H wr rest _ _ ⟨U.beq eI⟩ _ _ _ _ m key val _ _ _ _ _ _ _ hw (SM aY bK) R.own bF (by rw[hk,q2]) cn fg (aY.jd _ _ _ _ _ _ _ (c1 R bV hi) af) (aY.jd _ _ _ _ _ _ _ (c1 R bV hy) ak) (aY.bI _ _) fun H' aw=> ?_;exact cr _ _ _ _ _ _ _ _ h (fun _=>rfl) (R.cp hm aT hid ⟨a,q1,rfl,cn⟩ aw) .k dW (S0 rfl hm)
    ·exact absurd h aA.bad
   ·exact absurd h aA.bad
  ·exact absurd h aA.bad
 ·rename_i f ay
  split at h
  ·rename_i fv afE BT xy
   split at h
   ·split at h
    ·obtain⟨v,ao,w,eK,m',G',h1,h2,ar,aS,h5,eA⟩:=au0 aY aA R hT ag h (c1 R bV BT) (xt R bV xy)
     have bP:=R.keep h2
     have eB:∀{H' bu},ux b s.aK ρ fs bu m'->Own H' (m'.map (fun e=>bu e.1)++F)->b7 U b F fs {ao with mem:=m',cI:=gone m' s.mem++ao.cI} σ H' bu ρ:=fun kT aw=>
      ⟨bP.aD,bP.vs,aw,kT.1,fun p hp=>by
       rw[h2.aD];have:p.1∈m'.map Prod.fst:=r2 hp;rw[eA.fst]at this;obtain⟨e',q1,q2⟩:=dZ.1 this;rw[<-q2];exact R.lt e' q1,fun k c hk=>(kT.2 k c hk).mono h2.aK dW,bP.dQ⟩
     have eQ:Fr s {ao with mem:=m',cI:=gone m' s.mem++ao.cI}:=⟨fun t ht=>by rw[h2.vs],fun t ht=>by rw[h2.dL];exact ht,fun p hp=>pZ _ (by rw[h2.cI];exact hp),h2.aK,by rw[h2.aD];exact aH _,fun o w cs hm=>by
      rcases eA.mem o _ hm with⟨al,a2⟩|⟨t,x,al,a2,a3,a4⟩
      ·exact⟨cs,al,rfl,fun _ _=>rfl⟩
      ·exact(nomatch al),fun o c hc hm=>by
      rcases eA.mem o _ hm with⟨al,a2⟩|⟨t,x,al,a2,a3,a4⟩
      ·exact .inl al
      ·rcases al with rfl|rfl
       ·exact .inr (x5 _ (MZ (ju hm) a2))
       ·exact .inl a2⟩
     cases afF:flat w with
     |true=>exact aej hw R.own aS h5 afF rfl rfl (cr _ _ _ _ _ _ _ _ h1 (fun _=>rfl) (eB (eA.same R.BP) (by rw[eA.dz];exact R.own)) ar dW eQ)
     |false=>exact arB hw R.own aS (fun H low r hr=>by obtain⟨x,y,z⟩:=r;exact(PS (PT 16) hr).2) h5 afF rfl rfl fun H' mv aw=>cr _ _ _ _ _ _ _ _ h1 (fun _=>rfl) (eB (eA.ok R.BP) aw) ar dW eQ
    obtain⟨v,ao,w,eK,gT,h1,h2,ar,aS,h5,eA⟩:=auZ aY aA R hT ag h (c1 R bV BT) (xt R bV xy);exact aej hw R.own aS h5 eA rfl rfl (cr _ _ _ _ _ _ _ _ h1 (fun q=>by cases q) (R.keep h2) ar dW h2.b2)
   obtain⟨v,ao,w,h1,h2,ar,aS⟩:=afo aY aA R hT ag h (c1 R bV BT) (xt R bV xy);exact jb hw (DS (aS H R.own).1 (aS H R.own).2 rfl rfl) (cr _ _ _ _ _ _ _ _ h1 (fun q=>by cases q) (R.keep h2) ar dW h2.b2)
  ·exact absurd h aA.bad
 ·rename_i kN ay
  split at h
  ·rename_i i afE De xy
   split at h
   ·rename_i p hp
    have fm:=hT.2 _ (ju hp);have ha:=xt R bV xy;have iv:=c1 R bV De;generalize ED:bw a1 σ kN=wf at iv;cases iv with
    |fn hl=>
    cases hl;unfold ae5 at h;split at h
    ·rename_i u6
     unfold sY at fm;rw[u6]at fm;split at h
     ·rename_i o
      split at h
      ·rename_i t x hm
       split at h
       ·rename_i ht
        obtain⟨z,aR,h⟩:=aA.cv h;have ht:=eE ht;subst ht
        obtain⟨dB,rfl⟩:∃dB,ay=[dB]:=by
         have:=ha.length
         match ay,this with
         |[dB],_=>exact⟨dB,rfl⟩
        have ha:bD U s.aK ρ fs _ [bw a1 σ dB]:=ha;generalize fg:bw a1 σ dB=wa at ha;cases ha with
        |cons ad _=>
         cases ad with
         |row ho=>
          obtain⟨v0,q1,q2⟩:=R.mem o _ hm;obtain⟨bF,hk,aT,Ey,hid⟩:=R.at hm;rw[q1]at ho;cases ho;refine arM hw fm bF aR R.own hk q2 ED fg (aY.ok _) fun H' m' mv hr aw=> ?_;exact cr _ _ _ _ _ _ _ _ h (fun _=>rfl) (R.cp hm aT hid ⟨_,q1,hr⟩ aw) .k dW (S0 rfl hm)
       ·exact absurd h aA.bad
      ·exact absurd h aA.bad
     ·obtain⟨dB,rfl⟩:∃dB,ay=[dB]:=by
       have:=ha.length
       match ay,this with
       |[dB],_=>exact⟨dB,rfl⟩
      have ha:bD U s.aK ρ fs _ [bw a1 σ dB]:=ha;generalize fg:bw a1 σ dB=wa at ha;cases ha with
      |cons ad _=>
       cases ad;exact arN hw fm ED fg fun mv=>cr _ s _ H G ρ mv true h (fun _=>rfl) R .k dW .rfl
     ·exact absurd h aA.bad
    ·rename_i u6
     unfold sY at fm;rw[u6]at fm;split at h
     ·rename_i o ae6 a rF c
      split at h
      ·rename_i t x hm
       split at h
       ·rename_i ht af ak
        obtain⟨z,aR,h⟩:=aA.cv h;have ht:=eE ht;subst ht;have af:=of_decide_eq_true af;have ak:=of_decide_eq_true ak;subst af ak
        obtain⟨u5,dB,lE,rfl⟩:∃u5 dB lE,ay=[u5,dB,lE]:=by
         have:=ha.length
         match ay,this with
         |[u5,dB,lE],_=>exact⟨u5,dB,lE,rfl⟩
        have ha:bD U s.aK ρ fs _ [bw a1 σ u5,bw a1 σ dB,bw a1 σ lE]:=ha;generalize lW:bw a1 σ u5=fq at ha;generalize fg:bw a1 σ dB=wa at ha;generalize nC:bw a1 σ lE=BJ at ha;cases ha with
        |cons ad ha=>
         cases ha with
         |cons gi ha=>
          cases ha with
          |cons xw _=>
           cases gi;cases xw;cases ad with
           |row ho=>
            obtain⟨v0,q1,q2⟩:=R.mem o _ hm;obtain⟨bF,bQ,c6⟩:=SU (G:=G) hm;rw[q1]at ho;cases ho;have aT:=(fj.1 bQ).1;have bg:∀{k:Nat} {c:ck U},bj (pS o s.mem) k=some c->bj s.mem k=some c:=fun hk=>afp (BN o _) R.dk hk;refine arO hw fm bF aR R.own (by unfold dz;rw[e5 aT];exact bQ) q2 ED lW fg nC (aY.bI _) (aY.ok _) fun H' m' mv aw=> ?_
            have lM:Own H' ((pS o s.mem).map (fun e=>G e.1)++F):=aw.sub (by
             unfold dz;rw[JT _ _ aT];exact(c6 _).append (J0 _))
            refine cr _ {s with mem:=pS o s.mem,cI:=(o,0)::s.cI} _ H' G ρ mv true h (fun _=>rfl) ⟨R.aD,R.vs,lM,R.dk.sublist ((BN o _).map _),fun p hp=>R.lt p ((BN o _).subset hp),fun k c hk=>R.mem k c (bg hk),R.dQ⟩ .sl dW
             ⟨fun _ _=>rfl,fun _ h=>h,fun _ h=>kW _ h,dW,aH _,fun k w cs hk=>⟨cs,(IE fun e=>by subst e;rw[hm]at hk;cases hk).trans hk,rfl,fun _ _=>rfl⟩,fun k c hc hk=> ?_⟩
            by_cases e:k=o
            ·subst e;exact .inr (p5 ..)
            ·exact .inl ((IE e).trans hk)
       ·exact absurd h aA.bad
      ·exact absurd h aA.bad
     ·exact absurd h aA.bad
    ·rename_i nn sC
     split at h
     ·rename_i v
      split at h
      ·rename_i x hx
       obtain⟨z,aR,h⟩:=aA.cv h
       obtain⟨n,avb,cH,hn⟩:=fm.clone (by
        obtain⟨t,n⟩:=p
        match n,nn,sC with
        |n+2,_,_=>rfl
        |0,h,_=>exact absurd rfl h
        |1,_,h=>exact absurd rfl h)
       obtain⟨dB,rfl⟩:∃dB,ay=[dB]:=by
        have:=ha.length
        match ay,this with
        |[dB],_=>exact⟨dB,rfl⟩
       cases ha with
       |cons ad _=>
        refine arK (ms:=dz s G F) hw cH hn aR R.own ED (EC hx ad) (aY.bI p.1) (aY.ok p.1) fun H' v' m' mv hr aw=> ?_;exact cr _ _ _ _ _ _ _ _ h (fun _=>rfl) (R.add aw ⟨v',R.new v',hr⟩) (.row (R.new v')) (hK _ _) (BQ R)
      ·exact absurd h aA.bad
     ·exact absurd h aA.bad
   ·exact absurd h aA.bad
  ·exact absurd h aA.bad
 ·rename_i es z len parts jP
  split at h
  ·rename_i o aEe hl
   obtain⟨rfl,rfl,rfl,avc⟩:=au9 hl;split at h
   ·rename_i q _
    split at h
    ·rename_i t ey x ht hm
     split at h
     ·rename_i e he eo
      have ad:=c1 R bV avc;obtain⟨w',la,z2⟩:=auX (n:=15) (F:=F) aY R.BP hm ad;have jr:=aY.jd _ _ _ _ _ _ _ z2 he;have eo:=eE eo;have bg:∀{k:Nat} {c:ck U},bj (pS o s.mem) k=some c->bj s.mem k=some c:=fun hk=>afp (BN o _) R.dk hk;subst jr;refine arL hw R.own la rfl (aY.bI t e) ⟨by rw[aY.es,eo],aY.ok t e⟩ fun H' mv aw=> ?_
      refine cr _ {s with mem:=pS o s.mem,cI:=(o,0)::s.cI} _ H' G ρ mv true h (fun _=>rfl) ⟨R.aD,R.vs,aw,R.dk.sublist ((BN o _).map _),fun p hp=>R.lt p ((BN o _).subset hp),fun k c hk=>R.mem k c (bg hk),R.dQ⟩ ?_ dW
       ⟨fun _ _=>rfl,fun _ h=>h,fun _ h=>kW _ h,dW,aH _,fun k w cs hk=>⟨cs,(IE fun e=>by subst e;rw[hm]at hk;cases hk).trans hk,rfl,fun _ _=>rfl⟩,fun k c hc hk=> ?_⟩
      ·have:b3 U s.aK ρ fs (.sl t (.mk [e])) (bn (U.es t) (U.enc t) (.mk [e])):=.sl
       rw[eo]at this;exact this
      ·by_cases e:k=o
       ·subst e;exact .inr (p5 ..)
       ·exact .inl ((IE e).trans hk)
     ·exact absurd h aA.bad
    ·exact absurd h aA.bad
   ·exact absurd h aA.bad
  ·obtain⟨v,ao,w,h1,h2,ar,aS⟩:=SN (call:=b0 aa) aY aA R bV h
   exact jb hw (aS H R.own) (cr _ _ _ _ _ _ _ _ h1 (fun q=>by cases q) (R.keep h2) ar dW h2.b2)
 ·obtain⟨v,ao,w,h1,h2,ar,aS⟩:=SN (call:=b0 aa) aY aA R bV h
  exact jb hw (aS H R.own) (cr _ _ _ _ _ _ _ _ h1 (fun q=>by cases q) (R.keep h2) ar dW h2.b2)
theorem S4{t:Nat}{v:aO U.ax}{w:V}{B:List Bool}(bV:∀t v,bj aq t=some v->b3 U B ρ fs v (a1 t))(ad:b3 U B ρ fs v w):∀k u,bj ((t,v)::aq) k=some u->b3 U B ρ fs u (up a1 t w k):=fun k u h=>by
 rw[fZ]at h;split at h
 ·rename_i e;cases h;subst e;rw[w5];exact ad
 ·rename_i e;rw[jF _ _ (fun q=>e q.symm)];exact bV k u h
theorem BU (aY:gp U)(aA:mb S)(hT:rL aa cx)(ag:∀j f,nth cx.fv j=some f->∃w,fs[j]? =some w/\oo aa F f.dU f.rt f.f w){k:bA U->List Bool->A}{Q:bW->Heap->List Bool->Prop}:
  ∀{ops:List bS} {aq:kO U} {a1:bW} {s:bA U} {σ:bW} {H:Heap} {G:Nat->List (Nat × b5)} {ρ:List V} {wr mW:List Bool},S (so cx ops aq s mW k)->hv wr mW->b7 U b F fs s σ H G ρ->(∀t v,bj aq t=some v->b3 U s.aK ρ fs v (a1 t))->
  (∀ao aW H' G' cS fq BV,S (k ao BV)->hv fq BV->b7 U b F fs ao aW H' G' cS->ρ <+: cS->Fr s ao->Q aW H' fq)->Op aa b ops a1 σ H wr Q
 |[],aq,a1,s,σ,H,G,ρ,wr,mW,h,hl,R,bV,cr=>gJ (cr _ _ _ _ _ _ _ h hl.rev R dW .rfl)
 |⟨d,op,g⟩::r,aq,a1,s,σ,H,G,ρ,wr,mW,h,hl,R,bV,cr=>by
  have fin:∀{s1:bA U} {H1:Heap} {az:Nat->List (Nat × b5)} {gf:List V} {v:aO U.ax} {w:V} {m S5:Bool},(m=true->S5=true)->b7 U b F fs s1 σ H1 az gf->b3 U s1.aK gf fs v w->ρ <+: gf->Fr s s1->
    S (match put aq s1 v d with|(aq,s)=>so cx r aq s (S5::mW) k)->Op aa b r (fI a1 d w) (fJ σ d w) H1 (m::wr) Q:=by
   intro s1 H1 az gf v w m S5 hm bP ad aP eQ h1;have pW:∀t v,bj aq t=some v->b3 U s1.aK gf fs v (a1 t):=fun t v q=>(bV t v q).mono eQ.aK aP
   match d with
   |none=>exact BU aY aA hT ag h1 (.cons hm hl) bP pW fun ao aW H' G' cS fq BV al a0 a2 a3 a4=>cr _ _ _ _ _ _ _ al a0 a2 (aP.trans a3) (eQ.trans a4)
   |some (t,false)=>exact BU aY aA hT ag h1 (.cons hm hl) bP (S4 pW ad) fun ao aW H' G' cS fq BV al a0 a2 a3 a4=>cr _ _ _ _ _ _ _ al a0 a2 (aP.trans a3) (eQ.trans a4)
   |some (t,true)=>exact BU aY aA hT ag h1 (.cons hm hl) (bP.put ad) pW fun ao aW H' G' cS fq BV al a0 a2 a3 a4=>cr _ _ _ _ _ _ _ al a0 a2 (aP.trans a3) (eQ.trans (SY.trans a4))
  have go:∀{s1:bA U},jJ s s1->gd a1 σ g=some true->S (oper cx aq s1 d (fun v s m=>match put aq s v d with|(aq,s)=>so cx r aq s (m::mW) k) op)->Op aa b (⟨d,op,g⟩::r) a1 σ H wr Q:=by
   intro s1 hk hw h1;exact Dr aY aA hT ag (R.keep hk) (fun t v q=>(bV t v q).mono hk.aK dW) h1 hw fun v ao w H' G' cS mv S1 al a0 a2 a3 a4 a5=>fin a0 a2 a3 a4 (hk.b2.trans a5) al
  have skip:∀{s1:bA U},jJ s s1->gd a1 σ g=some false->S (match put aq s1 (.aU []) d with|(aq,s)=>so cx r aq s (false::mW) k)->Op aa b (⟨d,op,g⟩::r) a1 σ H wr Q:=by
   intro s1 hk hw h1;exact Ra (o:=⟨d,op,g⟩) hw (fin (fun q=>q) (R.keep hk) (.aU .nil) dW hk.b2 h1)
  simp only[so]at h
  match g with
  |none=>exact go .rfl rfl h
  |some (x,w)=>
   simp only at h;split at h
   ·exact absurd h aA.bad
   ·rename_i v ad
    have mK:=c1 R bV ad;split at h
    ·generalize BR:bw a1 σ x=xu at mK
     cases mK with
     |aU e8=>cases e8;exact skip .rfl (ad0 BR) h
    ·cases w with
     |true=>
      obtain⟨β,s1,af,ak,bK,cL⟩:=Ew aA h R.dQ mK;rcases cL with⟨rfl,h⟩|⟨rfl,h⟩
      ·exact go ak (jo af rfl) h
      ·exact skip ak (LH af rfl) h
     |false=>
      obtain⟨β,s1,af,ak,bK,cL⟩:=Ew aA h R.dQ mK;rcases cL with⟨rfl,h⟩|⟨rfl,h⟩
      ·exact skip ak (LI af rfl) h
      ·exact go ak (jo af rfl) h
end
end Go.Abs.gB
