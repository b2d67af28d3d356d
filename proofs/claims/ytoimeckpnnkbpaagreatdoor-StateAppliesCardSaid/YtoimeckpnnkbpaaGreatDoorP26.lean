/- Texts of this claim, joined and written short by a program. -/
import Derived.Test.YtoimeckpnnkbpaaGreatDoorP25
import Derived.Test.YtoimeckpnnkbpaaGreatDoorP00
set_option linter.unusedVariables false
set_option linter.unusedSimpArgs false
set_option linter.unusedSectionVars false
namespace Go.Abs.gK
open Go Go.Abs
def su{J:ib}:ch J->Bool
 | .cells .. =>true
 | _=>false
structure Fr {J:ib} (s al:bh J):Prop where
 vs:∀t,t∉al.dw->bd al.vs t=bd s.vs t
 dw:∀t∈s.dw,t∈al.dw
 cB:∀p∈s.cB,p∈al.cB
 aI:s.aI <+: al.aI
 aB:s.aB<=al.aB
 mem:∀o w cs,bd s.mem o=some (.cells w cs)->∃cs',bd al.mem o=some (.cells w cs')/\cs'.length=cs.length/\∀j:Nat,(o,j)∉al.cB->cs'[j]? =cs[j]?
 row:∀o aP,su aP=false->bd s.mem o=some aP->bd al.mem o=some aP\/(o,0)∈al.cB
section
variable{J:ib}{b:Nat}{F:cN}{fs:List V}{s al EB:bh J}{σ bB:bV}{H:Heap}{G:Nat->List (Nat × cc)}{ρ:List V}{aw:k6 J}{A:Type}[aM A]{S:A->Prop}{aa:Nat->Option bY}{bR:ni J}
theorem Fr.rfl:Fr s s:=⟨fun _ _=>Eq.refl _,fun _ h=>h,fun _ h=>h,ea,aK _,fun o w cs h=>⟨cs,h,Eq.refl _,fun _ _=>Eq.refl _⟩,fun _ _ _ h=>.inl h⟩
theorem Fr.trans (h:Fr s al)(k:Fr al EB):Fr s EB where
 vs:=fun t ht=>(k.vs t ht).trans (h.vs t fun q=>ht (k.dw t q))
 dw:=fun t ht=>k.dw t (h.dw t ht)
 cB:=fun p hp=>k.cB p (h.cB p hp)
 aI:=h.aI.trans k.aI
 aB:=cV h.aB k.aB
 mem:=fun o w cs hm=>by
  obtain⟨oA,h1,h2,ar⟩:=h.mem o w cs hm;obtain⟨EM,cq,ee,k1⟩:=k.mem o w oA h1;exact⟨EM,cq,ee.trans h2,fun j hj=>(k1 j hj).trans (ar j fun q=>hj (k.cB _ q))⟩
 row:=fun o aP hc hm=>(h.row o aP hc hm).elim (k.row o aP hc) fun q=>.inr (k.cB _ q)
theorem iZ.bM (h:iZ s al):Fr s al where
 vs:=fun t _=>by rw[h.vs]
 dw:=fun t ht=>by rw[h.dw];exact ht
 cB:=fun t ht=>by rw[h.cB];exact ht
 aI:=h.aI
 aB:=by rw[h.aB];exact aK _
 mem:=fun o w cs hm=>⟨cs,by rw[h.mem];exact hm,Eq.refl _,fun _ _=>Eq.refl _⟩
 row:=fun o aP hc hm=>.inl (by rw[h.mem];exact hm)
theorem W8{α:Type}{l:List (Nat × α)}{t:Nat}(h:t∉l.map Prod.fst):bd l t=none:=by
 cases e:bd l t with
 |none=>rfl
 |some a=>exact absurd (sL (f:=Prod.fst) (auD e)) h
theorem b5.put (R:b5 J b F fs s σ H G ρ){t:Nat}{v:aJ J.ax}{w:V}(ad:bU J s.aI ρ fs v w){dw:List Nat}:b5 J b F fs {s with vs:=(t,v)::s.vs,dw:=dw} (up σ t w) H G ρ where
 aB:=R.aB
 vs:=fun k u h=>by
  rw[fm]at h;split at h
  ·rename_i e;cases h;subst e;rw[ve];exact ad
  ·rename_i e;rw[iU _ _ (fun q=>e q.symm)];exact R.vs k u h
 own:=R.own
 dk:=R.dk
 lt:=R.lt
 mem:=R.mem
 dv:=R.dv
theorem Oi{t:Nat}{v:aJ J.ax}:Fr s {s with vs:=(t,v)::s.vs,dw:=t::s.dw} where
 vs:=fun k h=>by
  rw[fm,if_neg];intro e;subst e;exact h (po ..)
 dw:=fun t ht=>kQ _ ht
 cB:=fun _ h=>h
 aI:=ea
 aB:=aK _
 mem:=fun o w cs hm=>⟨cs,hm,Eq.refl _,fun _ _=>Eq.refl _⟩
 row:=fun _ _ _ h=>.inl h
theorem b5.new (R:b5 J b F fs s σ H G ρ)(v:V):(ρ++[v])[s.aB]? =some v:=by rw[<-R.aB];simp
theorem b5.add (R:b5 J b F fs s σ H G ρ){H':Heap}{m':List (Nat × cc)}{aP:ch J}{v:V}(aA:Own H' (m'::dT s G F))(hb:p8 J b s.aI (ρ++[v]) fs s.aB m' aP):
  b5 J b F fs (kh s aP) σ H' (fun o=>if o=s.aB then m' else G o) (ρ++[v]) where
 aB:=by simp[kh,R.aB]
 vs:=fun t v h=>(R.vs t v h).mono ea (hC _ _)
 own:=by
  have:dT (kh s aP) (fun o=>if o=s.aB then m' else G o) F=m'::dT s G F:=by
   unfold dT kh;simp only[eo,if_pos,jz];congr 2;refine pn fun e he=> ?_;rw[if_neg (oH (R.lt e he))]
  rw[this];exact aA
 dk:=by
  show(s.aB::s.mem.map Prod.fst).Nodup;refine ud.2 ⟨fun h=> ?_,R.dk⟩;obtain⟨e,he,q⟩:=ey.1 h;exact absurd q (oH (R.lt e he))
 lt:=fun e he=>by
  rcases dA.1 he with rfl|he
  ·exact wh _
  ·exact Cc (R.lt e he)
 mem:=fun o c h=>by
  have h:bd ((s.aB,aP)::s.mem) o=some c:=h;rw[fm]at h;split at h
  ·rename_i e;cases h;subst e;rw[if_pos rfl];exact hb
  ·rename_i e
   have:=(R.mem o c h).mono (ea (l:=s.aI)) (hC ρ [v]);simp only[kp e,if_false];exact this
 dv:=R.dv
theorem Bz (R:b5 J b F fs s σ H G ρ){aP:ch J}:Fr s (kh s aP) where
 vs:=fun _ _=>Eq.refl _
 dw:=fun _ h=>h
 cB:=fun _ h=>h
 aI:=ea
 aB:=Ch _
 mem:=fun o w cs hm=>⟨cs,by
  show bd ((s.aB,aP)::s.mem) o=_;rw[fm,if_neg (Nat.ne_of_gt (R.lt _ (auD hm)))];exact hm,Eq.refl _,fun _ _=>Eq.refl _⟩
 row:=fun o c hc hm=>.inl (by
  show bd ((s.aB,aP)::s.mem) o=_;rw[fm,if_neg (Nat.ne_of_gt (R.lt _ (auD hm)))];exact hm)
theorem xf (o:Nat)(c:ch J):∀l:List (Nat × ch J),(lL o c l).map Prod.fst=l.map Prod.fst
 |[]=>rfl
 |(k,d)::r=>by
  simp only[lL];split
  ·rfl
  ·simp[xf o c r]
theorem tG (o:Nat)(c:ch J):∀(l:List (Nat × ch J)) (t:Nat),bd (lL o c l) t=if t=o then(bd l t).map fun _=>c else bd l t
 |[],t=>by simp[lL,bd]
 |(k,d)::r,t=>by
  simp only[lL];split
  ·rename_i e
   have e:=e8 e;subst e;rw[fm,fm];by_cases q:k=t
   ·subst q;simp
   ·simp[q,kp q]
  ·rename_i e
   have e:k≠o:=fun q=>by rw[q,zX]at e;cases e
   rw[fm,fm,tG o c r t];by_cases q:k=t
   ·subst q;simp[e]
   ·simp[q]
theorem Oj{o f o' j:Nat}:∀{n:Nat} {l:List (Nat × Nat)},(o',j)∈marks o f n l↔(o'=o/\f<=j/\j<f+n)\/(o',j)∈l
 |0,l=>by simp only[marks];constructor<;>intro h<;>first|exact .inr h|(rcases h with h|h;omega;exact h)
 |n+1,l=>by
  simp only[marks,dA,Oj (n:=n),bt];constructor
  ·rintro(⟨rfl,rfl⟩|⟨rfl,h⟩|h)
   ·exact .inl ⟨rfl,by omega,by omega⟩
   ·exact .inl ⟨rfl,by omega,by omega⟩
   ·exact .inr h
  ·rintro(⟨rfl,h1,h2⟩|h)
   ·by_cases q:j=f+n
    ·exact .inl ⟨rfl,q⟩
    ·exact .inr (.inl ⟨rfl,h1,by omega⟩)
   ·exact .inr (.inr h)
theorem W9:∀(xs cs:List (aJ J.ax)) (o:Nat),(tx cs o xs).length=cs.length
 |[],_,_=>rfl
 |x::xs,cs,o=>by simp[tx,W9 xs]
theorem Xa:∀(xs cs:List (aJ J.ax)) (o j:Nat),¬(o<=j/\j<o+xs.length)->(tx cs o xs)[j]? =cs[j]?
 |[],_,_,_,_=>rfl
 |x::xs,cs,o,j,h=>by
  simp only[ev]at h;rw[tx,Xa xs _ (o+1) j (by omega),gm (by omega)]
theorem ajZ{o:Nat}{c:ch J}{m:List (Nat × cc)}{k:Nat}(cW:k<s.mem.length)(hid:s.mem[k].1=o)(dk:(s.mem.map Prod.fst).Nodup){cB:List (Nat × Nat)}:
  dT {s with mem:=lL o c s.mem,cB:=cB} (fun q=>if q=o then m else G q) F=(dT s G F).set k m:=by
 unfold dT;simp only;rw[QF _ _ (by simpa using cW)];congr 1;have af:(lL o c s.mem).map (fun e=>if e.1=o then m else G e.1)=((lL o c s.mem).map Prod.fst).map (fun q=>if q=o then m else G q):=by rw[rB];rfl
 have e2:s.mem.map (fun e=>G e.1)=(s.mem.map Prod.fst).map G:=by rw[rB];rfl
 rw[af,e2,xf];have hk':k<(s.mem.map Prod.fst).length:=by simpa using cW
 have Ok:(s.mem.map Prod.fst)[k]=o:=by simpa using hid
 generalize s.mem.map Prod.fst=l at dk hk' Ok;apply wg;intro i;rw[jy];by_cases e:k=i
 ·subst e
  rw[nU (by simpa using hk'),hX hk',Ok];simp
 ·rw[gm e,jy]
  cases hi:l[i]? with
  |none=>rfl
  |some q=>
   have qU:=(pY.1 hi);obtain⟨qU,bc⟩:=qU;have:q≠o:=fun h=>e ((List.getElem_inj (h₀:=hk') (h₁:=qU) dk).1 (by rw[Ok,bc,h]));simp[this]
theorem b5.ck (R:b5 J b F fs s σ H G ρ){H':Heap}{o k:Nat}{c fk:ch J}{m':List (Nat × cc)}{cB:List (Nat × Nat)}(hm:bd s.mem o=some fk)(cW:k<s.mem.length)(hid:s.mem[k].1=o)(hc:p8 J b s.aI ρ fs o m' c)(aA:Own H' ((dT s G F).set k m')):
  b5 J b F fs {s with mem:=lL o c s.mem,cB:=cB} σ H' (fun q=>if q=o then m' else G q) ρ where
 aB:=R.aB
 vs:=R.vs
 own:=by rw[ajZ cW hid R.dk];exact aA
 dk:=by show((lL o _ s.mem).map Prod.fst).Nodup;rw[xf];exact R.dk
 lt:=fun e he=>by
  have:e.1∈(lL o c s.mem).map Prod.fst:=sL he;rw[xf]at this;obtain⟨e',h1,h2⟩:=ey.1 this;rw[<-h2];exact R.lt e' h1
 mem:=fun q aP h=>by
  have h1:bd (lL o c s.mem) q=some aP:=h;clear h;rw[tG]at h1;have h:=h1;clear h1;split at h
  ·rename_i e;subst e
   rw[hm]at h;cases h;rw[if_pos rfl];exact hc
  ·rename_i e
   have:=R.mem q aP h;simp only[e,if_false];exact this
 dv:=R.dv
theorem aj0{o f:Nat}{vs cs:List (aJ J.ax)}{w:Bool}(hm:bd s.mem o=some (.cells w cs)):Fr s {s with mem:=lL o (.cells w (tx cs f vs)) s.mem,cB:=marks o f vs.length s.cB} where
 vs:=fun _ _=>Eq.refl _
 dw:=fun _ h=>h
 cB:=fun p h=>by obtain⟨a,c⟩:=p;exact Oj.2 (.inr h)
 aI:=ea
 aB:=aK _
 mem:=fun q w' cs' h=>by
  simp only[tG];by_cases e:q=o
  ·subst e
   rw[h]at hm;cases hm;exact⟨_,by rw[if_pos rfl,h];rfl,W9 _ _ _,fun j hj=>Xa _ _ _ _ fun q=>hj (Oj.2 (.inl ⟨rfl,q.1,q.2⟩))⟩
  ·exact⟨cs',by rw[if_neg e];exact h,rfl,fun _ _=>rfl⟩
 row:=fun q aP hc h=>by
  simp only[tG];by_cases e:q=o
  ·subst e;rw[h]at hm;cases hm;cases hc
  ·rw[if_neg e];exact .inl h
theorem Xb{o:Nat}{fk c:ch J}(hc:su fk=false)(hm:bd s.mem o=some fk):Fr s {s with mem:=lL o c s.mem,cB:=(o,0)::s.cB} where
 vs:=fun _ _=>Eq.refl _
 dw:=fun _ h=>h
 cB:=fun p h=>kQ _ h
 aI:=ea
 aB:=aK _
 mem:=fun q w' cs' h=>by
  simp only[tG];by_cases e:q=o
  ·subst e;rw[h]at hm;cases hm;cases hc
  ·exact⟨cs',by rw[if_neg e];exact h,rfl,fun _ _=>rfl⟩
 row:=fun q aP _ h=>by
  simp only[tG];by_cases e:q=o
  ·subst e;exact .inr (po ..)
  ·rw[if_neg e];exact .inl h
theorem Xc{o n:Nat}:∀{l:List (Nat × ch J)} {aP:ch J},bd l o=some aP->(∀e∈l,e.1<n)->∃k,(l.map fun e=>G e.1)[k]? =some (G o)/\∀(c:ch J) m',((mO o n c l).map fun e=>if e.1=n then m' else G e.1)=(l.map fun e=>G e.1).set k m'
 |(a,d)::r,aP,h,hn=>by
  simp only[bd]at h;simp only[mO];split at h
  ·rename_i e
   try rw[e]
   refine⟨0,by simp[e8 e],fun c m'=> ?_⟩;simp only[eo,T8,if_pos];congr 1;exact pn fun e he=>if_neg (oH (hn e (kQ _ he)))
  ·rename_i e
   try rw[e]
   obtain⟨k,h1,h2⟩:=Xc h fun e he=>hn e (kQ _ he);refine⟨k+1,by simpa using h1,fun c m'=> ?_⟩;simp only[eo,U1,h2,if_neg (oH (hn _ (po ..)))]
theorem I8{o n:Nat}{c:ch J}:∀{l:List (Nat × ch J)} {e:Nat × ch J},e∈mO o n c l->e=(n,c)\/e∈l
 |(a,d)::r,e,h=>by
  simp only[mO]at h;split at h
  ·rcases dA.1 h with h|h
   ·exact .inl h
   ·exact .inr (kQ _ h)
  ·rcases dA.1 h with rfl|h
   ·exact .inr (po ..)
   ·exact(I8 h).imp id (kQ _)
theorem Xd{o n:Nat}{c:ch J}:∀{l:List (Nat × ch J)},(l.map Prod.fst).Nodup->(∀e∈l,e.1<n)->((mO o n c l).map Prod.fst).Nodup
 |[],h,_=>h
 |(a,d)::r,h,hn=>by
  have h':=ud.1 h;have pD:∀e∈r,e.1<n:=fun e he=>hn e (kQ _ he);simp only[mO];split
  ·refine ud.2 ⟨fun q=> ?_,h'.2⟩
   obtain⟨x,hx,q⟩:=ey.1 q;exact oH (pD x hx) q
  ·refine ud.2 ⟨fun q=> ?_,Xd h'.2 pD⟩
   obtain⟨x,hx,q⟩:=ey.1 q;rcases I8 hx with rfl|hx
   ·exact oH (hn _ (po ..)) q.symm
   ·exact h'.1 (by rw[<-q];exact sL hx)
theorem Xe{o n:Nat}{c:ch J}(hn:n≠o):∀{l:List (Nat × ch J)},(l.map Prod.fst).Nodup->bd (mO o n c l) o=none
 |[],_=>rfl
 |(a,d)::r,h=>by
  have h':=ud.1 h;simp only[mO];split
  ·rename_i e
   have e:=e8 e;subst e;rw[fm,if_neg hn];exact W8 h'.1
  ·rename_i e
   rw[fm,if_neg (fun q=>by rw[q,zX]at e;cases e)];exact Xe hn h'.2
theorem I9{o n q:Nat}{c:ch J}(h1:q≠o)(h2:q≠n):∀l:List (Nat × ch J),bd (mO o n c l) q=bd l q
 |[]=>rfl
 |(a,d)::r=>by
  simp only[mO];split
  ·rename_i e
   have e:=e8 e;subst e;rw[fm,fm,if_neg (kp h1),if_neg (kp h2)]
  ·rw[fm,fm,I9 h1 h2 r]
theorem b5.rep (R:b5 J b F fs s σ H G ρ){o:Nat}{fk:ch J}(hm:bd s.mem o=some fk):∃k:Nat,(dT s G F)[k]? =some (G o)/\∀{H':Heap} {c:ch J} {v:V} {m':List (Nat × cc)} {cB:List (Nat × Nat)},
  p8 J b s.aI (ρ++[v]) fs s.aB m' c->Own H' ((dT s G F).set k m')->b5 J b F fs {s with mem:=mO o s.aB c s.mem,aB:=s.aB+1,cB:=cB} σ H' (fun q=>if q=s.aB then m' else G q) (ρ++[v]):=by
 obtain⟨k,h1,h2⟩:=Xc (G:=G) hm R.lt;have aX:=(pY.1 h1).1;refine⟨k,by unfold dT;rw[gE aX];exact h1,fun {H' c v m' cB} hc aA=> ?_⟩;have bf:s.aB≠o:=fun e=>absurd (R.lt _ (auD hm)) (by rw[<-e];exact Nat.lt_irrefl _)
 exact {
  aB:=by simp[R.aB]
  vs:=fun t v h=>(R.vs t v h).mono ea (hC _ _)
  own:=by
   unfold dT at aA⊢;rw[QF _ _ aX]at aA;rw[show(mO o s.aB c s.mem).map (fun e=>if e.1=s.aB then m' else G e.1)=_ from h2 c m'];exact aA
  dk:=Xd R.dk R.lt
  lt:=fun e he=>by
   rcases I8 he with rfl|he
   ·exact wh _
   ·exact Cc (R.lt e he)
  mem:=fun q aP h=>by
   have h:bd (mO o s.aB c s.mem) q=some aP:=h;by_cases af:q=s.aB
   ·subst af
    rw[if_pos rfl];rcases I8 (auD h)with e|e
    ·cases e;exact hc
    ·exact absurd (R.lt _ e) (Nat.lt_irrefl _)
   ·by_cases e2:q=o
    ·subst e2;rw[Xe bf R.dk]at h;cases h
    ·rw[I9 e2 af]at h
     rw[if_neg af];exact(R.mem q aP h).mono ea (hC _ _)
  dv:=R.dv}
theorem aj1 (R:b5 J b F fs s σ H G ρ){o t:Nat}{x:ak (J.ax t)}{c:ch J}(hm:bd s.mem o=some (.row t x)):Fr s {s with mem:=mO o s.aB c s.mem,aB:=s.aB+1,cB:=(o,0)::s.cB} where
 vs:=fun _ _=>Eq.refl _
 dw:=fun _ h=>h
 cB:=fun p h=>kQ _ h
 aI:=ea
 aB:=Ch _
 mem:=fun q w' cs' h=>⟨cs',by
  have af:q≠o:=fun e=>by subst e;rw[h]at hm;cases hm
  show bd (mO o s.aB c s.mem) q=_;rw[I9 af (oH (R.lt _ (auD h)))];exact h,rfl,fun _ _=>rfl⟩
 row:=fun q aP _ h=>by
  by_cases e:q=o
  ·subst e;exact .inr (po ..)
  ·refine .inl ?_
   show bd (mO o s.aB c s.mem) q=_;rw[I9 e (oH (R.lt _ (auD h)))];exact h
theorem aj2{dE:List Nat}{ops:List bO}{wr mq:List Bool}(h:gD wr mq)(ho:nX dE ops mq=true):nX dE ops wr=true:=by
 unfold nX at ho⊢;rcases ko _ _ |>.mp ho with ho|ho
 ·rw[ko];left
  unfold rD at ho⊢;split
  ·rename_i Nf
   have aj3:mq.any id=true:=by
    obtain⟨x,hx,kY⟩:=ry.1 Nf;simp only[id]at kY;subst kY;obtain⟨i,hi⟩:=ns.1 hx;exact ry.2 ⟨true,hz (h.get hi),rfl⟩
   rw[if_pos aj3]at ho;rw[eV]at ho⊢;rintro⟨w,i⟩ hw;cases w with
   |false=>rfl
   |true=>
    have hi:=h.get (ie.1 hw);exact ho (true,i) (ie.2 hi)
  ·rfl
 ·rw[ko];exact .inr ho
theorem aj4{B:List Bool}{v:aJ J.ax}{w:V}(h:NU v=true)(ad:bU J B ρ fs v w):plainCell w=true:=by
 cases ad<;>simp only[NU]at h
 case sl s=>cases s<;>rfl
 all_goals first|rfl|exact h|cases h
theorem Xf{B:List Bool}:∀{cs:List (aJ J.ax)} {ws:List V},IP cs=true->bm J B ρ fs cs ws->lQ ws=true
 | _,_,_,.nil=>rfl
 | _,_,h,.cons h' r=>by
   simp only[IP]at h;split at h
   ·rename_i e;simp only[lQ,aj4 e h',Xf h r,zV]
   ·cases h
theorem Xg{B:List Bool}{u:aJ J.ax}{w:V}{f:Nat}{vs:List (aJ J.ax)}{ws:List V}(h:(match f,vs with|0,[x]=>some x| _,_=>none)=some u)(hs:bm J B ρ fs vs ws)(hw:∀l,w≠ .agg l):∃w',wi w f ws=some w'/\bU J B ρ fs u w':=by
 split at h
 ·cases h
  cases hs with
  |cons hx r=>cases r;exact⟨_,by unfold wi;split;exact absurd rfl (hw _);rfl,hx⟩
 ·cases h
theorem aj5{B:List Bool}{v u:aJ J.ax}{w:V}{f:Nat}{vs:List (aJ J.ax)}{ws:List V}(h:NV v f vs=some u)(ad:bU J B ρ fs v w)(hs:bm J B ρ fs vs ws):∃w',wi w f ws=some w'/\bU J B ρ fs u w':=by
 cases ad<;>simp only[NV]at h
 case agg ad=>
  split at h
  ·rename_i e
   cases h;refine⟨_,?_,.agg (I3 hs f ad)⟩;simp only[wi];rw[if_pos (by rw[<-ad.length,<-hs.length];exact km e)]
  ·cases h
 case sl s=>exact Xg h hs (fun l e=>by cases s<;>cases e)
 all_goals first|cases h|exact Xg h hs (fun l e=>by cases e)
theorem EN{B:List Bool}{t:Nat}{v:aJ J.ax}{w:V}{l:ak (J.ax t)}(h:e1 t v=some l)(ad:bU J B ρ fs v w):w=bg (J.es t) (J.enc t) l:=by
 unfold e1 at h;split at h
 ·split at h
  ·rename_i e;subst e;cases h;cases ad;rfl
  ·cases h
 ·cases h;cases ad;rfl
 ·cases h;cases ad;rfl
 ·cases h
theorem aj6{B:List Bool}:∀z:List V,bU J B ρ fs (WH z) (kT z)
 |[]=>.agg .nil
 |[v]=>I2 v
 |a::c::r=>.agg (EC (a::c::r))
theorem aj7{a c:ag}{bK:IntKind}{n:Int}(h:NT a c=true)(ao:bN bB σ a=.int bK n):∃k,bN bB σ c=.int k n:=by
 unfold NT at h;split at h
 ·rw[e8 h]at ao;exact⟨_,ao⟩
 ·rw[e8 h]at ao;exact⟨_,ao⟩
 ·have:=of_decide_eq_true h
  subst this;cases ao;exact⟨_,rfl⟩
 ·cases h
set_option maxHeartbeats 1000000 in
theorem Ol{m':List (Nat × ch J)}:∀{l:List (Nat × ch J)} {o:Nat} {c:ch J},(o,c)∈l->bd m' o=none->(o,0)∈gone m' l
 |(a,d)::r,o,c,h,hn=>by
  simp only[gone];rcases dA.1 h with e|h
  ·cases e;rw[hn];exact po ..
  ·split
   ·exact Ol h hn
   ·exact kQ _ (Ol h hn)
theorem Om{m':List (Nat × ch J)}:∀{l:List (Nat × ch J)} {o:Nat} {w:Bool} {cs:List (aJ J.ax)},Bq m' l=true->(o,ch.cells w cs)∈l->∃c,bd m' o=some c
 |(a,d)::r,o,w,cs,h,fi=>by
  simp only[Bq]at h;rcases dA.1 fi with e|hm
  ·cases e
   simp only at h;split at h
   ·rename_i c hc;exact⟨c,hc⟩
   ·cases h
  ·split at h
   ·split at h
    ·exact Om h hm
    ·cases h
   ·exact Om h hm
theorem aj8{len:Nat}{parts:List (Nat × ag)}{jc:Bool}{o:Nat}{x:ag}(h:NX aw s len parts jc=some (o,x)):len=1/\parts=[(0,x)]/\jc=true/\ae aw s x=some (.row o):=by
 unfold NX at h;split at h
 ·split at h
  ·rename_i he;cases h;exact⟨rfl,rfl,rfl,he⟩
  ·cases h
 ·cases h
theorem On{o:Nat}:∀{m:List (Nat × ch J)} {k:Nat},k≠o->bd (q9 o m) k=bd m k
 |[],_,_=>rfl
 |(a,c)::r,k,cW=>by
  simp only[q9];split
  ·rename_i e
   have e:=e8 e;rw[fm,if_neg (by rw[e];exact fun q=>cW q.symm)]
  ·rw[fm,fm,On cW]
theorem AB (a1:gC J)(aC:mo S)(hT:re aa bR)(ab:∀j f,nth bR.fv j=some f->∃w,fs[j]? =some w/\nR aa F f.dK f.rt f.f w)
  (R:b5 J b F fs s σ H G ρ) (b6:∀t v,bd aw t=some v->bU J s.aI ρ fs v (bB t)) {d:Option (Nat × Bool)} {op:cH} {g:Option (ag × Bool)} {rest:List bO} {wr:List Bool} {k:aJ J.ax->bh J->Bool->A} {Q:bV->Heap->List Bool->Prop}
  (h:S (oper bR aw s d k op)) (hw:gJ bB σ g=some true)
  (cA:∀v al w H' G' cy mv Oo,S (k v al Oo)->(mv=true->Oo=true)->b5 J b F fs al σ H' G' cy->bU J al.aI cy fs v w->ρ <+: cy->Fr s al->Op aa b rest (fV bB d w) (fW σ d w) H' (mv::wr) Q):
  Op aa b (⟨d,op,g⟩::rest) bB σ H wr Q:=by
 unfold oper at h;split at h
 ·rename_i z
  refine yJ hw R.own fun H' a ao aA=> ?_;exact cA _ _ _ _ _ _ _ _ h (fun _=>rfl) (R.add aA ⟨a,_,R.new _,rfl,EC z,fun _=>ao⟩) (.ptr (R.new _)) (hC _ _) (Bz R)
 ·rename_i x
  split at h
  ·exact absurd h aC.bad
  ·rename_i v ad
   split at h
   ·exact absurd h aC.bad
   ·rename_i cs hc
    split at h
    ·rename_i ho
     have fS:=zc hc (db R b6 ad);refine MT hw R.own rfl (N7 ho fS) fun H' a ao aA=> ?_;exact cA _ _ _ _ _ _ _ _ h (fun _=>rfl) (R.add aA ⟨a,_,R.new _,rfl,fS.mono ea (hC _ _),fun _=>ao⟩) (.ptr (R.new _)) (hC _ _) (Bz R)
    ·exact absurd h aC.bad
 ·rename_i n x y
  split at h
  ·rename_i o f v hx hy
   split at h
   ·rename_i cs vs hm hc
    split at h
    ·rename_i af e2 bT
     have yo:=db R b6 hx;generalize zi:bN bB σ x=vE at yo;cases yo with
     |ptr ho=>
      obtain⟨a,ws,q1,aS,b1,cL,et⟩:=R.cells hm;rw[q1]at ho;cases ho;have cS:=ajL R hc (db R b6 hy);obtain⟨i,hi,aX,EI,hid⟩:=R.at hm
      refine yK hw R.own i (by rw[hi,aS]) (et rfl) zi rfl ⟨by rw[<-cS.length];exact e8 af,by
       have:=e8 af;rw[<-cL.length];exact km e2⟩ (WO R bT cS) rfl fun H' aA=> ?_
      exact cA _ _ _ _ _ _ _ _ h (fun _=>rfl) (R.ck hm aX hid ⟨_,_,q1,rfl,I3 cS f cL,et⟩ aA) .k ea (aj0 hm)
    ·exact absurd h aC.bad
   ·exact absurd h aC.bad
  ·rename_i o i f v hx hy
   split at h
   ·rename_i t c6 vs hm hc
    split at h
    ·rename_i af e2
     obtain⟨e,he,h⟩:=aC.c2 h;obtain⟨atE,al,h1,h2,ar⟩:=zd (ρ:=ρ) (fs:=fs) a1 h;split at h1
     ·exact absurd h1 aC.bad
     ·rename_i u hu
      split at h1
      ·exact absurd h1 aC.bad
      ·rename_i e' he'
       have nA:=R.dQ h2;have mY:bd al.mem o=some (.row t c6):=by rw[h2.mem];exact hm
       have yo:=db R b6 hx;generalize zi:bN bB σ x=vE at yo;cases yo with
       |iK ho=>
        obtain⟨v0,q1,aS⟩:=nA.mem o _ mY;rw[q1]at ho;cases ho;have:=aS.WW;subst this;have cS:=(zc hc (db R b6 hy)).mono h2.aI ea;obtain⟨k,hi,aX,EI,hid⟩:=nA.at mY;obtain⟨w',p1,p2⟩:=aj5 hu ar cS;have oj:=a1.iu _ _ _ _ _ _ _ p2 he';subst oj;refine ahA hw k he nA.own hi aS rfl zi rfl (by rw[<-cS.length];exact e8 af) (Xf e2 cS) p1 fun H' m' hr aA=> ?_;exact cA _ _ _ _ _ _ _ _ h1 (fun _=>rfl) (nA.ck mY aX hid ⟨_,q1,hr⟩ aA) .k ea (h2.bM.trans (Xb rfl mY))
    ·exact absurd h aC.bad
   ·exact absurd h aC.bad
  ·exact absurd h aC.bad
 ·rename_i es bytes iV lj
  split at h
  ·rename_i o y Oq Ot
   split at h
   ·rename_i t x hm
    unfold Br at h;split at h
    ·rename_i EO af e2
     obtain⟨z,aT,h⟩:=aC.c2 h;have n7:=db R b6 Oq;generalize gT:bN bB σ iV=wa at n7;cases n7 with
     |row ho=>
      obtain⟨v0,q1,aS⟩:=R.mem o _ hm;rw[q1]at ho;cases ho;have af:=e8 af;subst af;obtain⟨k,hi,pH⟩:=R.rep hm;refine VY hw k aT R.own hi aS gT (EN e2 (db R b6 Ot)) (a1.bs t) (a1.ok t) fun H' v' m' mv hr aA=> ?_;exact cA _ _ _ _ _ _ _ _ h (fun _=>rfl) (pH ⟨v',R.new v',hr⟩ aA) (.row (R.new v')) (hC _ _) (aj1 R hm)
    ·exact absurd h aC.bad
   ·exact absurd h aC.bad
  ·rename_i x t y _ Oq Ot
   have key:∀{c6:ak (J.ax t)} {fM:V},bN bB σ iV=fM->hf b (J.es t) (J.enc t) fM c6 []->S (Br s es bytes t c6 none (.sl t y) k)->Op aa b (⟨d,.append es bytes iV lj,g⟩::rest) bB σ H wr Q:=by
    intro c6 fM gT aj9 qE;unfold Br at qE;split at qE
    ·rename_i EO af e2
     obtain⟨z,aT,qE⟩:=aC.c2 qE;have af:=e8 af;subst af;refine VY (ms:=[]::dT s G F) hw 0 aT (R.own.ins 0) rfl aj9 gT (EN e2 (db R b6 Ot)) (a1.bs t) (a1.ok t) fun H' v' m' mv hr aA=> ?_;exact cA _ _ _ _ _ _ _ _ qE (fun _=>rfl) (R.add aA ⟨v',R.new v',hr⟩) (.row (R.new v')) (hC _ _) (Bz R)
    ·exact absurd qE aC.bad
   have hn:=db R b6 Oq;split at h
   ·rename_i e
    exact key (Xh e hn) .nil h
   ·rename_i e
    exact key (Xh e hn) .emp h
   ·exact absurd h aC.bad
  ·exact absurd h aC.bad
 ·rename_i es z bytes aka sZ
  split at h
  ·rename_i q e6
   split at h
   ·rename_i t bK n ht hs hl
    split at h
    ·rename_i e af e2
     obtain⟨x,hx,h⟩:=aC.c2 h;have af:=e8 af;subst af;have lX:=db R b6 hl;generalize Xi:bN bB σ aka=wl at lX;cases lX;obtain⟨V6,hc⟩:=aj7 hs Xi;refine ahy hw hx R.own (a1.iu _ _ _ _ _ _ _ (aj6 (ρ:=ρ) (fs:=fs) z) e2) Xi hc fun H' v' m' mv hr aA=> ?_;exact cA _ _ _ _ _ _ _ _ h (fun _=>rfl) (R.add aA ⟨v',R.new v',hr⟩) (.row (R.new v')) (hC _ _) (Bz R)
    ·exact absurd h aC.bad
   ·exact absurd h aC.bad
  ·exact absurd h aC.bad
 ·split at h
  ·rename_i q e6
   split at h
   ·rename_i c hc
    split at h
    ·rename_i p hp
     refine VU hw R.own fun H' a ao aA=> ?_;exact cA _ _ _ _ _ _ _ _ h (fun _=>rfl) (R.add aA ⟨a,R.new _,rfl,ao⟩) (.row (R.new _)) (hC _ _) (Bz R)
    ·exact absurd h aC.bad
   ·exact absurd h aC.bad
  ·exact absurd h aC.bad
 ·rename_i kind x i y
  split at h
  ·rename_i o v u hx hi hy
   split at h
   ·rename_i ei ju m hm
    split at h
    ·rename_i key val af e2 bT
     have ek:=db R b6 hx;generalize gT:bN bB σ x=wa at ek;cases ek with
     |row ho=>
      obtain⟨a,q1,aS,b1⟩:=R.mem o _ hm;obtain⟨bp,cW,aX,EI,hid⟩:=R.at hm;rw[q1]at ho;cases ho;refine @V4 aa b bB σ H wr rest _ _ ⟨J.beq ei⟩ _ _ _ _ m key val _ _ _ _ _ _ _ hw (Oa a1 bT) R.own bp (by rw[cW,aS]) b1 gT (a1.iu _ _ _ _ _ _ _ (db R b6 hi) af) (a1.iu _ _ _ _ _ _ _ (db R b6 hy) e2) (a1.bs _ _) fun H' aA=> ?_;exact cA _ _ _ _ _ _ _ _ h (fun _=>rfl) (R.ck hm aX hid ⟨a,q1,rfl,b1⟩ aA) .k ea (Xb rfl hm)
    ·exact absurd h aC.bad
   ·exact absurd h aC.bad
  ·exact absurd h aC.bad
 ·rename_i f aO
  split at h
  ·rename_i fv akb zj vI
   split at h
   ·split at h
    ·obtain⟨v,al,w,eh,m',h1,h2,ar,aQ,h5,ft,kZ⟩:=ajY a1 aC R hT ab h (db R b6 zj) (vD R b6 vI)
     have bq:=R.dQ h2;have bf:∀{k:Nat} {c:ch J},bd m' k=some c->bd s.mem k=some c:=fun cW=>Og ft R.dk cW
     have dY:∀{H'},Own H' (m'.map (fun e=>G e.1)++F)->b5 J b F fs {al with mem:=m',cB:=gone m' s.mem++al.cB} σ H' G ρ:=fun aA=>
      ⟨bq.aB,bq.vs,aA,R.dk.sublist (ft.map _),fun p hp=>by rw[h2.aB];exact R.lt p (ft.subset hp),fun k c cW=>(R.mem k c (bf cW)).mono h2.aI ea,bq.dv⟩
     have er:Fr s {al with mem:=m',cB:=gone m' s.mem++al.cB}:=⟨fun t ht=>by rw[h2.vs],fun t ht=>by rw[h2.dw];exact ht,fun p hp=>pk _ (by rw[h2.cB];exact hp),h2.aI,by rw[h2.aB];exact aK _,fun o w cs hm=>by
      obtain⟨c,hc⟩:=Om kZ (auD hm);have:=bf hc;rw[hm]at this;cases this;exact⟨cs,hc,rfl,fun _ _=>rfl⟩,fun o c hc hm=>by
      cases bc:bd m' o with
      |none=>exact .inr (we _ (Ol (auD hm) bc))
      |some c'=>
       have:=bf bc;rw[hm]at this;cases this;exact .inl rfl⟩
     cases Xj:flat w with
     |true=>exact V7 hw R.own aQ h5 Xj rfl rfl (cA _ _ _ _ _ _ _ _ h1 (fun _=>rfl) (dY (R.own.sub ((ft.map _).append (ru _)))) ar ea er)
     |false=>exact ahB hw R.own aQ (fun H low r hr=>by obtain⟨x,y,z⟩:=r;exact(Lw (Lx 16) hr).2) h5 Xj rfl rfl fun H' mv aA=>cA _ _ _ _ _ _ _ _ h1 (fun _=>rfl) (dY aA) ar ea er
    obtain⟨v,al,w,eh,fO,h1,h2,ar,aQ,h5,ft⟩:=ajX a1 aC R hT ab h (db R b6 zj) (vD R b6 vI);exact V7 hw R.own aQ h5 ft rfl rfl (cA _ _ _ _ _ _ _ _ h1 (fun q=>by cases q) (R.dQ h2) ar ea h2.bM)
   obtain⟨v,al,w,h1,h2,ar,aQ⟩:=W2 a1 aC R hT ab h (db R b6 zj) (vD R b6 vI);exact ha hw (wV (aQ H R.own).1 (aQ H R.own).2 rfl rfl) (cA _ _ _ _ _ _ _ _ h1 (fun q=>by cases q) (R.dQ h2) ar ea h2.bM)
  ·exact absurd h aC.bad
 ·rename_i vk aO
  split at h
  ·rename_i i v Ap vI
   split at h
   ·rename_i p hp
    split at h
    ·rename_i x hx
     obtain⟨z,aT,h⟩:=aC.c2 h;obtain⟨n,akc,cZ,hn⟩:=hT.2 _ (auD hp);have ao:=vD R b6 vI
     obtain⟨iV,rfl⟩:∃iV,aO=[iV]:=by
      have:=ao.length
      match aO,this with
      |[iV],_=>exact⟨iV,rfl⟩
     cases ao with
     |cons ad _=>
      have im:=db R b6 Ap;generalize Ou:bN bB σ vk=wf at im;cases im with
      |fn hl=>
       cases hl;refine ahK (ms:=dT s G F) hw cZ hn aT R.own Ou (EN hx ad) (a1.bs p.1) (a1.ok p.1) fun H' v' m' mv hr aA=> ?_;exact cA _ _ _ _ _ _ _ _ h (fun _=>rfl) (R.add aA ⟨v',R.new v',hr⟩) (.row (R.new v')) (hC _ _) (Bz R)
    ·exact absurd h aC.bad
   ·exact absurd h aC.bad
  ·exact absurd h aC.bad
 ·rename_i es z len parts jc
  split at h
  ·rename_i o atF hl
   obtain⟨rfl,rfl,rfl,akd⟩:=aj8 hl;split at h
   ·rename_i q _
    split at h
    ·rename_i t eY x ht hm
     split at h
     ·rename_i e he fa
      have ad:=db R b6 akd;obtain⟨w',qP,z2,-⟩:=zh (n:=16) (F:=F) (m':=q9 o s.mem) (v':=.sl eY x) a1 R.EL (by simp only[pP,hm]) ad;have oj:=a1.iu _ _ _ _ _ _ _ z2 he;have fa:=e8 fa;have bf:∀{k:Nat} {c:ch J},bd (q9 o s.mem) k=some c->bd s.mem k=some c:=fun cW=>Og (EK o _) R.dk cW;subst oj;refine ahL hw R.own qP rfl (a1.bs t e) ⟨by rw[a1.es,fa],a1.ok t e⟩ fun H' mv aA=> ?_
      refine cA _ {s with mem:=q9 o s.mem,cB:=(o,0)::s.cB} _ H' G ρ mv true h (fun _=>rfl) ⟨R.aB,R.vs,aA,R.dk.sublist ((EK o _).map _),fun p hp=>R.lt p ((EK o _).subset hp),fun k c cW=>R.mem k c (bf cW),R.dv⟩ ?_ ea
       ⟨fun _ _=>rfl,fun _ h=>h,fun _ h=>kQ _ h,ea,aK _,fun k w cs cW=>⟨cs,(On fun e=>by subst e;rw[hm]at cW;cases cW).trans cW,rfl,fun _ _=>rfl⟩,fun k c hc cW=> ?_⟩
      ·have:bU J s.aI ρ fs (.sl t (.mk [e])) (bg (J.es t) (J.enc t) (.mk [e])):=.sl
       rw[fa]at this;exact this
      ·by_cases e:k=o
       ·subst e;exact .inr (po ..)
       ·exact .inl ((On e).trans cW)
     ·exact absurd h aC.bad
    ·exact absurd h aC.bad
   ·exact absurd h aC.bad
  ·obtain⟨v,al,w,h1,h2,ar,aQ⟩:=Ob (call:=bZ aa) a1 aC R b6 h
   exact ha hw (aQ H R.own) (cA _ _ _ _ _ _ _ _ h1 (fun q=>by cases q) (R.dQ h2) ar ea h2.bM)
 ·obtain⟨v,al,w,h1,h2,ar,aQ⟩:=Ob (call:=bZ aa) a1 aC R b6 h
  exact ha hw (aQ H R.own) (cA _ _ _ _ _ _ _ _ h1 (fun q=>by cases q) (R.dQ h2) ar ea h2.bM)
theorem Ov{t:Nat}{v:aJ J.ax}{w:V}{B:List Bool}(b6:∀t v,bd aw t=some v->bU J B ρ fs v (bB t))(ad:bU J B ρ fs v w):∀k u,bd ((t,v)::aw) k=some u->bU J B ρ fs u (up bB t w k):=fun k u h=>by
 rw[fm]at h;split at h
 ·rename_i e;cases h;subst e;rw[ve];exact ad
 ·rename_i e;rw[iU _ _ (fun q=>e q.symm)];exact b6 k u h
theorem zk (a1:gC J)(aC:mo S)(hT:re aa bR)(ab:∀j f,nth bR.fv j=some f->∃w,fs[j]? =some w/\nR aa F f.dK f.rt f.f w){k:bh J->List Bool->A}{Q:bV->Heap->List Bool->Prop}:
  ∀{ops:List bO} {aw:k6 J} {bB:bV} {s:bh J} {σ:bV} {H:Heap} {G:Nat->List (Nat × cc)} {ρ:List V} {wr mq:List Bool},S (so bR ops aw s mq k)->gD wr mq->b5 J b F fs s σ H G ρ->(∀t v,bd aw t=some v->bU J s.aI ρ fs v (bB t))->
  (∀al aN H' G' cy e6 zl,S (k al zl)->gD e6 zl->b5 J b F fs al aN H' G' cy->ρ <+: cy->Fr s al->Q aN H' e6)->Op aa b ops bB σ H wr Q
 |[],aw,bB,s,σ,H,G,ρ,wr,mq,h,hl,R,b6,cA=>dV (cA _ _ _ _ _ _ _ h hl.rev R ea .rfl)
 |⟨d,op,g⟩::r,aw,bB,s,σ,H,G,ρ,wr,mq,h,hl,R,b6,cA=>by
  have fin:∀{s1:bh J} {H1:Heap} {ay:Nat->List (Nat × cc)} {jP:List V} {v:aJ J.ax} {w:V} {m Ow:Bool},(m=true->Ow=true)->b5 J b F fs s1 σ H1 ay jP->bU J s1.aI jP fs v w->ρ <+: jP->Fr s s1->
    S (match put aw s1 v d with|(aw,s)=>so bR r aw s (Ow::mq) k)->Op aa b r (fV bB d w) (fW σ d w) H1 (m::wr) Q:=by
   intro s1 H1 ay jP v w m Ow hm bq ad aL er h1;have oB:∀t v,bd aw t=some v->bU J s1.aI jP fs v (bB t):=fun t v q=>(b6 t v q).mono er.aI aL
   match d with
   |none=>exact zk a1 aC hT ab h1 (.cons hm hl) bq oB fun al aN H' G' cy e6 zl ai a0 a2 a3 a4=>cA _ _ _ _ _ _ _ ai a0 a2 (aL.trans a3) (er.trans a4)
   |some (t,false)=>exact zk a1 aC hT ab h1 (.cons hm hl) bq (Ov oB ad) fun al aN H' G' cy e6 zl ai a0 a2 a3 a4=>cA _ _ _ _ _ _ _ ai a0 a2 (aL.trans a3) (er.trans a4)
   |some (t,true)=>exact zk a1 aC hT ab h1 (.cons hm hl) (bq.put ad) oB fun al aN H' G' cy e6 zl ai a0 a2 a3 a4=>cA _ _ _ _ _ _ _ ai a0 a2 (aL.trans a3) (er.trans (Oi.trans a4))
  have go:∀{s1:bh J},iZ s s1->gJ bB σ g=some true->S (oper bR aw s1 d (fun v s m=>match put aw s v d with|(aw,s)=>so bR r aw s (m::mq) k) op)->Op aa b (⟨d,op,g⟩::r) bB σ H wr Q:=by
   intro s1 cW hw h1;exact AB a1 aC hT ab (R.dQ cW) (fun t v q=>(b6 t v q).mono cW.aI ea) h1 hw fun v al w H' G' cy mv Oo ai a0 a2 a3 a4 a5=>fin a0 a2 a3 a4 (cW.bM.trans a5) ai
  have skip:∀{s1:bh J},iZ s s1->gJ bB σ g=some false->S (match put aw s1 (.aU []) d with|(aw,s)=>so bR r aw s (false::mq) k)->Op aa b (⟨d,op,g⟩::r) bB σ H wr Q:=by
   intro s1 cW hw h1;exact MO (o:=⟨d,op,g⟩) hw (fin (fun q=>q) (R.dQ cW) (.aU .nil) ea cW.bM h1)
  simp only[so]at h
  match g with
  |none=>exact go .rfl rfl h
  |some (x,w)=>
   simp only at h;split at h
   ·exact absurd h aC.bad
   ·rename_i v ad
    have l9:=db R b6 ad;split at h
    ·generalize zi:bN bB σ x=vE at l9
     cases l9 with
     |aU fj=>cases fj;exact skip .rfl (VR zi) h
    ·cases w with
     |true=>
      obtain⟨β,s1,af,e2,bT,cF⟩:=Bu aC h R.dv l9;rcases cF with⟨rfl,h⟩|⟨rfl,h⟩
      ·exact go e2 (hJ af rfl) h
      ·exact skip e2 (Ht af rfl) h
     |false=>
      obtain⟨β,s1,af,e2,bT,cF⟩:=Bu aC h R.dv l9;rcases cF with⟨rfl,h⟩|⟨rfl,h⟩
      ·exact skip e2 (Hu af rfl) h
      ·exact go e2 (hJ af rfl) h
end
end Go.Abs.gK
