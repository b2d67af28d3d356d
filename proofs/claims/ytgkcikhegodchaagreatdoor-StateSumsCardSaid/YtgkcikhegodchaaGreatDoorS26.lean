/- Texts of this claim, joined and written short by a program. -/
import Derived.Test.YtgkcikhegodchaaGreatDoorS25
import Derived.Test.YtgkcikhegodchaaGreatDoorS00
set_option linter.unusedVariables false
set_option linter.unusedSimpArgs false
set_option linter.unusedSectionVars false
namespace Go.Abs.hq
open Go Go.Abs
def tC{J:iI}:b8 J->Bool
 | .cells .. =>true
 | _=>false
structure Fr {J:iI} (s ao:bp J):Prop where
 vs:∀t,t∉ao.dE->bc ao.vs t=bc s.vs t
 dE:∀t∈s.dE,t∈ao.dE
 cA:∀p∈s.cA,p∈ao.cA
 aH:s.aH <+: ao.aH
 aB:s.aB<=ao.aB
 mem:∀o w cs,bc s.mem o=some (.cells w cs)->∃cs',bc ao.mem o=some (.cells w cs')/\cs'.length=cs.length/\∀j:Nat,(o,j)∉ao.cA->cs'[j]? =cs[j]?
 row:∀o aP,tC aP=false->bc s.mem o=some aP->bc ao.mem o=some aP\/(o,0)∈ao.cA
section
variable{J:iI}{b:Nat}{F:cy}{fs:List V}{s ao Gs:bp J}{σ aW:bN}{H:Heap}{G:Nat->List (Nat × bU)}{ρ:List V}{aq:kJ J}{A:Type}[aG A]{S:A->Prop}{aa:Nat->Option bV}{cx:od J}
theorem Fr.rfl:Fr s s:=⟨fun _ _=>Eq.refl _,fun _ h=>h,fun _ h=>h,dS,aF _,fun o w cs h=>⟨cs,h,Eq.refl _,fun _ _=>Eq.refl _⟩,fun _ _ _ h=>.inl h⟩
theorem Fr.trans (h:Fr s ao)(k:Fr ao Gs):Fr s Gs where
 vs:=fun t ht=>(k.vs t ht).trans (h.vs t fun q=>ht (k.dE t q))
 dE:=fun t ht=>k.dE t (h.dE t ht)
 cA:=fun p hp=>k.cA p (h.cA p hp)
 aH:=h.aH.trans k.aH
 aB:=cM h.aB k.aB
 mem:=fun o w cs hm=>by
  obtain⟨pI,h1,h2,ar⟩:=h.mem o w cs hm;obtain⟨Gz,b6,dI,kf⟩:=k.mem o w pI h1;exact⟨Gz,b6,dI.trans h2,fun j hj=>(kf j hj).trans (ar j fun q=>hj (k.cA _ q))⟩
 row:=fun o aP hc hm=>(h.row o aP hc hm).elim (k.row o aP hc) fun q=>.inr (k.cA _ q)
theorem jI.bQ (h:jI s ao):Fr s ao where
 vs:=fun t _=>by rw[h.vs]
 dE:=fun t ht=>by rw[h.dE];exact ht
 cA:=fun t ht=>by rw[h.cA];exact ht
 aH:=h.aH
 aB:=by rw[h.aB];exact aF _
 mem:=fun o w cs hm=>⟨cs,by rw[h.mem];exact hm,Eq.refl _,fun _ _=>Eq.refl _⟩
 row:=fun o aP hc hm=>.inl (by rw[h.mem];exact hm)
theorem QM{α:Type}{l:List (Nat × α)}{t:Nat}(h:t∉l.map Prod.fst):bc l t=none:=by
 cases e:bc l t with
 |none=>rfl
 |some a=>exact absurd (rA (f:=Prod.fst) (jr e)) h
theorem bW.put (R:bW J b F fs s σ H G ρ){t:Nat}{v:aL J.ax}{w:V}(af:bS J s.aH ρ fs v w){dE:List Nat}:bW J b F fs {s with vs:=(t,v)::s.vs,dE:=dE} (up σ t w) H G ρ where
 aB:=R.aB
 vs:=fun k u h=>by
  rw[fT]at h;split at h
  ·rename_i e;cases h;subst e;rw[v8];exact af
  ·rename_i e;rw[jG _ _ (fun q=>e q.symm)];exact R.vs k u h
 own:=R.own
 db:=R.db
 lt:=R.lt
 mem:=R.mem
 dK:=R.dK
theorem QN{t:Nat}{v:aL J.ax}:Fr s {s with vs:=(t,v)::s.vs,dE:=t::s.dE} where
 vs:=fun k h=>by
  rw[fT,if_neg];intro e;subst e;exact h (pO ..)
 dE:=fun t ht=>kQ _ ht
 cA:=fun _ h=>h
 aH:=dS
 aB:=aF _
 mem:=fun o w cs hm=>⟨cs,hm,Eq.refl _,fun _ _=>Eq.refl _⟩
 row:=fun _ _ _ h=>.inl h
theorem bW.new (R:bW J b F fs s σ H G ρ)(v:V):(ρ++[v])[s.aB]? =some v:=by rw[<-R.aB];simp
theorem bW.add (R:bW J b F fs s σ H G ρ){H':Heap}{m':List (Nat × bU)}{aP:b8 J}{v:V}(aw:Own H' (m'::dn s G F))(hb:pH J b s.aH (ρ++[v]) fs s.aB m' aP):
  bW J b F fs (kK s aP) σ H' (fun o=>if o=s.aB then m' else G o) (ρ++[v]) where
 aB:=by simp[kK,R.aB]
 vs:=fun t v h=>(R.vs t v h).mono dS (hB _ _)
 own:=by
  have:dn (kK s aP) (fun o=>if o=s.aB then m' else G o) F=m'::dn s G F:=by
   unfold dn kK;simp only[de,if_pos,lN];congr 2;refine pN fun e he=> ?_;rw[if_neg (qA (R.lt e he))]
  rw[this];exact aw
 db:=by
  show(s.aB::s.mem.map Prod.fst).Nodup;refine sG.2 ⟨fun h=> ?_,R.db⟩;obtain⟨e,he,q⟩:=dX.1 h;exact absurd q (qA (R.lt e he))
 lt:=fun e he=>by
  rcases dp.1 he with rfl|he
  ·exact yC _
  ·exact Ml (R.lt e he)
 mem:=fun o c h=>by
  have h:bc ((s.aB,aP)::s.mem) o=some c:=h;rw[fT]at h;split at h
  ·rename_i e;cases h;subst e;rw[if_pos rfl];exact hb
  ·rename_i e
   have:=(R.mem o c h).mono (dS (l:=s.aH)) (hB ρ [v]);simp only[kS e,if_false];exact this
 dK:=R.dK
theorem Ay (R:bW J b F fs s σ H G ρ){aP:b8 J}:Fr s (kK s aP) where
 vs:=fun _ _=>Eq.refl _
 dE:=fun _ h=>h
 cA:=fun _ h=>h
 aH:=dS
 aB:=DN _
 mem:=fun o w cs hm=>⟨cs,by
  show bc ((s.aB,aP)::s.mem) o=_;rw[fT,if_neg (Nat.ne_of_gt (R.lt _ (jr hm)))];exact hm,Eq.refl _,fun _ _=>Eq.refl _⟩
 row:=fun o c hc hm=>.inl (by
  show bc ((s.aB,aP)::s.mem) o=_;rw[fT,if_neg (Nat.ne_of_gt (R.lt _ (jr hm)))];exact hm)
theorem QO{o f o' j:Nat}:∀{n:Nat} {l:List (Nat × Nat)},(o',j)∈marks o f n l↔(o'=o/\f<=j/\j<f+n)\/(o',j)∈l
 |0,l=>by simp only[marks];constructor<;>intro h<;>first|exact .inr h|(rcases h with h|h;omega;exact h)
 |n+1,l=>by
  simp only[marks,dp,QO (n:=n),bq];constructor
  ·rintro(⟨rfl,rfl⟩|⟨rfl,h⟩|h)
   ·exact .inl ⟨rfl,by omega,by omega⟩
   ·exact .inl ⟨rfl,by omega,by omega⟩
   ·exact .inr h
  ·rintro(⟨rfl,h1,h2⟩|h)
   ·by_cases q:j=f+n
    ·exact .inl ⟨rfl,q⟩
    ·exact .inr (.inl ⟨rfl,h1,by omega⟩)
   ·exact .inr (.inr h)
theorem aby:∀(xs cs:List (aL J.ax)) (o:Nat),(uG cs o xs).length=cs.length
 |[],_,_=>rfl
 |x::xs,cs,o=>by simp[uG,aby xs]
theorem abz:∀(xs cs:List (aL J.ax)) (o j:Nat),¬(o<=j/\j<o+xs.length)->(uG cs o xs)[j]? =cs[j]?
 |[],_,_,_,_=>rfl
 |x::xs,cs,o,j,h=>by
  simp only[fl]at h;rw[uG,abz xs _ (o+1) j (by omega),iv (by omega)]
theorem apL{o:Nat}{c:b8 J}{m:List (Nat × bU)}{k:Nat}(hk:k<s.mem.length)(hid:s.mem[k].1=o)(db:(s.mem.map Prod.fst).Nodup){cA:List (Nat × Nat)}:
  dn {s with mem:=iX o c s.mem,cA:=cA} (fun q=>if q=o then m else G q) F=(dn s G F).set k m:=by
 unfold dn;simp only;rw[HG _ _ (by simpa using hk)];congr 1;have ab:(iX o c s.mem).map (fun e=>if e.1=o then m else G e.1)=((iX o c s.mem).map Prod.fst).map (fun q=>if q=o then m else G q):=by rw[kR];rfl
 have aj:s.mem.map (fun e=>G e.1)=(s.mem.map Prod.fst).map G:=by rw[kR];rfl
 rw[ab,aj,uN];have hk':k<(s.mem.map Prod.fst).length:=by simpa using hk
 have Aw:(s.mem.map Prod.fst)[k]=o:=by simpa using hid
 generalize s.mem.map Prod.fst=l at db hk' Aw;apply o0;intro i;rw[h8];by_cases e:k=i
 ·subst e
  rw[mP (by simpa using hk'),gq hk',Aw];simp
 ·rw[iv e,h8]
  cases hi:l[i]? with
  |none=>rfl
  |some q=>
   have nd:=(e0.1 hi);obtain⟨nd,bg⟩:=nd;have:q≠o:=fun h=>e ((List.getElem_inj (h₀:=hk') (h₁:=nd) db).1 (by rw[Aw,bg,h]));simp[this]
theorem bW.ck (R:bW J b F fs s σ H G ρ){H':Heap}{o k:Nat}{c fj:b8 J}{m':List (Nat × bU)}{cA:List (Nat × Nat)}(hm:bc s.mem o=some fj)(hk:k<s.mem.length)(hid:s.mem[k].1=o)(hc:pH J b s.aH ρ fs o m' c)(aw:Own H' ((dn s G F).set k m')):
  bW J b F fs {s with mem:=iX o c s.mem,cA:=cA} σ H' (fun q=>if q=o then m' else G q) ρ where
 aB:=R.aB
 vs:=R.vs
 own:=by rw[apL hk hid R.db];exact aw
 db:=by show((iX o _ s.mem).map Prod.fst).Nodup;rw[uN];exact R.db
 lt:=fun e he=>by
  have:e.1∈(iX o c s.mem).map Prod.fst:=rA he;rw[uN]at this;obtain⟨e',h1,h2⟩:=dX.1 this;rw[<-h2];exact R.lt e' h1
 mem:=fun q aP h=>by
  have h1:bc (iX o c s.mem) q=some aP:=h;clear h;rw[tA]at h1;have h:=h1;clear h1;split at h
  ·rename_i e;subst e
   rw[hm]at h;cases h;rw[if_pos rfl];exact hc
  ·rename_i e
   have:=R.mem q aP h;simp only[e,if_false];exact this
 dK:=R.dK
theorem apM{o f:Nat}{vs cs:List (aL J.ax)}{w:Bool}(hm:bc s.mem o=some (.cells w cs)):Fr s {s with mem:=iX o (.cells w (uG cs f vs)) s.mem,cA:=marks o f vs.length s.cA} where
 vs:=fun _ _=>Eq.refl _
 dE:=fun _ h=>h
 cA:=fun p h=>by obtain⟨a,c⟩:=p;exact QO.2 (.inr h)
 aH:=dS
 aB:=aF _
 mem:=fun q w' cs' h=>by
  simp only[tA];by_cases e:q=o
  ·subst e
   rw[h]at hm;cases hm;exact⟨_,by rw[if_pos rfl,h];rfl,aby _ _ _,fun j hj=>abz _ _ _ _ fun q=>hj (QO.2 (.inl ⟨rfl,q.1,q.2⟩))⟩
  ·exact⟨cs',by rw[if_neg e];exact h,rfl,fun _ _=>rfl⟩
 row:=fun q aP hc h=>by
  simp only[tA];by_cases e:q=o
  ·subst e;rw[h]at hm;cases hm;cases hc
  ·rw[if_neg e];exact .inl h
theorem QP{o:Nat}{fj c:b8 J}(hc:tC fj=false)(hm:bc s.mem o=some fj):Fr s {s with mem:=iX o c s.mem,cA:=(o,0)::s.cA} where
 vs:=fun _ _=>Eq.refl _
 dE:=fun _ h=>h
 cA:=fun p h=>kQ _ h
 aH:=dS
 aB:=aF _
 mem:=fun q w' cs' h=>by
  simp only[tA];by_cases e:q=o
  ·subst e;rw[h]at hm;cases hm;cases hc
  ·exact⟨cs',by rw[if_neg e];exact h,rfl,fun _ _=>rfl⟩
 row:=fun q aP _ h=>by
  simp only[tA];by_cases e:q=o
  ·subst e;exact .inr (pO ..)
  ·rw[if_neg e];exact .inl h
theorem abA{o n:Nat}:∀{l:List (Nat × b8 J)} {aP:b8 J},bc l o=some aP->(∀e∈l,e.1<n)->∃k,(l.map fun e=>G e.1)[k]? =some (G o)/\∀(c:b8 J) m',((j8 o n c l).map fun e=>if e.1=n then m' else G e.1)=(l.map fun e=>G e.1).set k m'
 |(a,d)::r,aP,h,hn=>by
  simp only[bc]at h;simp only[j8];split at h
  ·rename_i e
   try rw[e]
   refine⟨0,by simp[ey e],fun c m'=> ?_⟩;simp only[de,Mj,if_pos];congr 1;exact pN fun e he=>if_neg (qA (hn e (kQ _ he)))
  ·rename_i e
   try rw[e]
   obtain⟨k,h1,h2⟩:=abA h fun e he=>hn e (kQ _ he);refine⟨k+1,by simpa using h1,fun c m'=> ?_⟩;simp only[de,S0,h2,if_neg (qA (hn _ (pO ..)))]
theorem KY{o n:Nat}{c:b8 J}:∀{l:List (Nat × b8 J)} {e:Nat × b8 J},e∈j8 o n c l->e=(n,c)\/e∈l
 |(a,d)::r,e,h=>by
  simp only[j8]at h;split at h
  ·rcases dp.1 h with h|h
   ·exact .inl h
   ·exact .inr (kQ _ h)
  ·rcases dp.1 h with rfl|h
   ·exact .inr (pO ..)
   ·exact(KY h).imp id (kQ _)
theorem abB{o n:Nat}{c:b8 J}:∀{l:List (Nat × b8 J)},(l.map Prod.fst).Nodup->(∀e∈l,e.1<n)->((j8 o n c l).map Prod.fst).Nodup
 |[],h,_=>h
 |(a,d)::r,h,hn=>by
  have h':=sG.1 h;have qJ:∀e∈r,e.1<n:=fun e he=>hn e (kQ _ he);simp only[j8];split
  ·refine sG.2 ⟨fun q=> ?_,h'.2⟩
   obtain⟨x,hx,q⟩:=dX.1 q;exact qA (qJ x hx) q
  ·refine sG.2 ⟨fun q=> ?_,abB h'.2 qJ⟩
   obtain⟨x,hx,q⟩:=dX.1 q;rcases KY hx with rfl|hx
   ·exact qA (hn _ (pO ..)) q.symm
   ·exact h'.1 (by rw[<-q];exact rA hx)
theorem abC{o n:Nat}{c:b8 J}(hn:n≠o):∀{l:List (Nat × b8 J)},(l.map Prod.fst).Nodup->bc (j8 o n c l) o=none
 |[],_=>rfl
 |(a,d)::r,h=>by
  have h':=sG.1 h;simp only[j8];split
  ·rename_i e
   have e:=ey e;subst e;rw[fT,if_neg hn];exact QM h'.1
  ·rename_i e
   rw[fT,if_neg (fun q=>by rw[q,yI]at e;cases e)];exact abC hn h'.2
theorem KZ{o n q:Nat}{c:b8 J}(h1:q≠o)(h2:q≠n):∀l:List (Nat × b8 J),bc (j8 o n c l) q=bc l q
 |[]=>rfl
 |(a,d)::r=>by
  simp only[j8];split
  ·rename_i e
   have e:=ey e;subst e;rw[fT,fT,if_neg (kS h1),if_neg (kS h2)]
  ·rw[fT,fT,KZ h1 h2 r]
theorem bW.rep (R:bW J b F fs s σ H G ρ){o:Nat}{fj:b8 J}(hm:bc s.mem o=some fj):∃k:Nat,(dn s G F)[k]? =some (G o)/\∀{H':Heap} {c:b8 J} {v:V} {m':List (Nat × bU)} {cA:List (Nat × Nat)},
  pH J b s.aH (ρ++[v]) fs s.aB m' c->Own H' ((dn s G F).set k m')->bW J b F fs {s with mem:=j8 o s.aB c s.mem,aB:=s.aB+1,cA:=cA} σ H' (fun q=>if q=s.aB then m' else G q) (ρ++[v]):=by
 obtain⟨k,h1,h2⟩:=abA (G:=G) hm R.lt;have aK:=(e0.1 h1).1;refine⟨k,by unfold dn;rw[fB aK];exact h1,fun {H' c v m' cA} hc aw=> ?_⟩;have aZ:s.aB≠o:=fun e=>absurd (R.lt _ (jr hm)) (by rw[<-e];exact Nat.lt_irrefl _)
 exact {
  aB:=by simp[R.aB]
  vs:=fun t v h=>(R.vs t v h).mono dS (hB _ _)
  own:=by
   unfold dn at aw⊢;rw[HG _ _ aK]at aw;rw[show(j8 o s.aB c s.mem).map (fun e=>if e.1=s.aB then m' else G e.1)=_ from h2 c m'];exact aw
  db:=abB R.db R.lt
  lt:=fun e he=>by
   rcases KY he with rfl|he
   ·exact yC _
   ·exact Ml (R.lt e he)
  mem:=fun q aP h=>by
   have h:bc (j8 o s.aB c s.mem) q=some aP:=h;by_cases ab:q=s.aB
   ·subst ab
    rw[if_pos rfl];rcases KY (jr h)with e|e
    ·cases e;exact hc
    ·exact absurd (R.lt _ e) (Nat.lt_irrefl _)
   ·by_cases aj:q=o
    ·subst aj;rw[abC aZ R.db]at h;cases h
    ·rw[KZ aj ab]at h
     rw[if_neg ab];exact(R.mem q aP h).mono dS (hB _ _)
  dK:=R.dK}
theorem abD (R:bW J b F fs s σ H G ρ){o t:Nat}{x:ad (J.ax t)}{c:b8 J}(hm:bc s.mem o=some (.row t x)):Fr s {s with mem:=j8 o s.aB c s.mem,aB:=s.aB+1,cA:=(o,0)::s.cA} where
 vs:=fun _ _=>Eq.refl _
 dE:=fun _ h=>h
 cA:=fun p h=>kQ _ h
 aH:=dS
 aB:=DN _
 mem:=fun q w' cs' h=>⟨cs',by
  have ab:q≠o:=fun e=>by subst e;rw[h]at hm;cases hm
  show bc (j8 o s.aB c s.mem) q=_;rw[KZ ab (qA (R.lt _ (jr h)))];exact h,rfl,fun _ _=>rfl⟩
 row:=fun q aP _ h=>by
  by_cases e:q=o
  ·subst e;exact .inr (pO ..)
  ·refine .inl ?_
   show bc (j8 o s.aB c s.mem) q=_;rw[KZ e (qA (R.lt _ (jr h)))];exact h
theorem apN{er:List Nat}{ops:List bI}{wr mI:List Bool}(h:gS wr mI)(ho:rH er ops mI=true):rH er ops wr=true:=by
 unfold rH at ho⊢;rcases jN _ _ |>.mp ho with ho|ho
 ·rw[jN];left
  unfold xg at ho⊢;split
  ·rename_i Qj
   have apO:mI.any id=true:=by
    obtain⟨x,hx,hQ⟩:=rD.1 Qj;simp only[id]at hQ;subst hQ;obtain⟨i,hi⟩:=pL.1 hx;exact rD.2 ⟨true,gV (h.get hi),rfl⟩
   rw[if_pos apO]at ho;rw[eU]at ho⊢;rintro⟨w,i⟩ hw;cases w with
   |false=>rfl
   |true=>
    have hi:=h.get (js.1 hw);exact ho (true,i) (js.2 hi)
  ·rfl
 ·rw[jN];exact .inr ho
theorem apP{B:List Bool}{v:aL J.ax}{w:V}(h:Qq v=true)(af:bS J B ρ fs v w):plainCell w=true:=by
 cases af<;>simp only[Qq]at h
 case sl s=>cases s<;>rfl
 all_goals first|rfl|exact h|cases h
theorem abE{B:List Bool}:∀{cs:List (aL J.ax)} {ws:List V},KH cs=true->bu J B ρ fs cs ws->mc ws=true
 | _,_,_,.nil=>rfl
 | _,_,h,.cons h' r=>by
   simp only[KH]at h;split at h
   ·rename_i e;simp only[mc,apP e h',abE h r,Bl]
   ·cases h
theorem abF{B:List Bool}{u:aL J.ax}{w:V}{f:Nat}{vs:List (aL J.ax)}{ws:List V}(h:(match f,vs with|0,[x]=>some x| _,_=>none)=some u)(hs:bu J B ρ fs vs ws)(hw:∀l,w≠ .agg l):∃w',xf w f ws=some w'/\bS J B ρ fs u w':=by
 split at h
 ·cases h
  cases hs with
  |cons hx r=>cases r;exact⟨_,by unfold xf;split;exact absurd rfl (hw _);rfl,hx⟩
 ·cases h
theorem apQ{B:List Bool}{v u:aL J.ax}{w:V}{f:Nat}{vs:List (aL J.ax)}{ws:List V}(h:nk v f vs=some u)(af:bS J B ρ fs v w)(hs:bu J B ρ fs vs ws):∃w',xf w f ws=some w'/\bS J B ρ fs u w':=by
 cases af<;>simp only[nk]at h
 case agg af=>
  split at h
  ·rename_i e
   cases h;refine⟨_,?_,.agg (KT hs f af)⟩;simp only[xf];rw[if_pos (by rw[<-af.length,<-hs.length];exact ma e)]
  ·cases h
 case sl s=>exact abF h hs (fun l e=>by cases s<;>cases e)
 all_goals first|cases h|exact abF h hs (fun l e=>by cases e)
theorem C3{B:List Bool}{t:Nat}{v:aL J.ax}{w:V}{l:ad (J.ax t)}(h:ev t v=some l)(af:bS J B ρ fs v w):w=bb (J.es t) (J.enc t) l:=by
 unfold ev at h;split at h
 ·split at h
  ·rename_i e;subst e;cases h;cases af;rfl
  ·cases h
 ·cases h;cases af;rfl
 ·cases h;cases af;rfl
 ·cases h
theorem apR{B:List Bool}:∀z:List V,bS J B ρ fs (aa4 z) (lr z)
 |[]=>.agg .nil
 |[v]=>KS v
 |a::c::r=>.agg (Gt (a::c::r))
theorem apS{a c:ai}{bP:IntKind}{n:Int}(h:Qp a c=true)(ha:bn aW σ a=.int bP n):∃k,bn aW σ c=.int k n:=by
 unfold Qp at h;split at h
 ·rw[ey h]at ha;exact⟨_,ha⟩
 ·rw[ey h]at ha;exact⟨_,ha⟩
 ·have:=of_decide_eq_true h
  subst this;cases ha;exact⟨_,rfl⟩
 ·cases h
set_option maxHeartbeats 1000000 in
theorem K0{m':List (Nat × b8 J)}:∀{l:List (Nat × b8 J)} {o t:Nat} {x:ad (J.ax t)} {ej:Nat} {fJ:ad (J.ax ej)},(o,b8.row t x)∈l->bc m' o=some (.fz ej fJ)->(o,0)∈gone m' l
 |(a,d)::r,o,t,x,ej,fJ,h,hn=>by
  simp only[gone];rcases dp.1 h with e|hm
  ·cases e;simp only[hn];exact pO ..
  ·split
   ·split
    ·exact kQ _ (K0 hm hn)
    ·exact K0 hm hn
   ·exact K0 hm hn
theorem apT{len:Nat}{parts:List (Nat × ai)}{ju:Bool}{o:Nat}{x:ai}(h:Qs aq s len parts ju=some (o,x)):len=1/\parts=[(0,x)]/\ju=true/\ag aq s x=some (.row o):=by
 unfold Qs at h;split at h
 ·split at h
  ·rename_i he;cases h;exact⟨rfl,rfl,rfl,he⟩
  ·cases h
 ·cases h
theorem GA{o:Nat}:∀{m:List (Nat × b8 J)} {k:Nat},k≠o->bc (pF o m) k=bc m k
 |[],_,_=>rfl
 |(a,c)::r,k,hk=>by
  simp only[pF];split
  ·rename_i e
   have e:=ey e;rw[fT,if_neg (by rw[e];exact fun q=>hk q.symm)]
  ·rw[fT,fT,GA hk]
theorem BX (aT:gj J)(az:l6 S)(hT:re aa cx)(ae:∀j f,nth cx.fv j=some f->∃w,fs[j]? =some w/\og aa F f.dN f.rt f.f w)
  (R:bW J b F fs s σ H G ρ) (bO:∀t v,bc aq t=some v->bS J s.aH ρ fs v (aW t)) {d:Option (Nat × Bool)} {op:cN} {g:Option (ai × Bool)} {rest:List bI} {wr:List Bool} {k:aL J.ax->bp J->Bool->A} {Q:bN->Heap->List Bool->Prop}
  (h:S (oper cx aq s d k op)) (hw:ga aW σ g=some true)
  (cl:∀v ao w H' G' cH mv QQ,S (k v ao QQ)->(mv=true->QQ=true)->bW J b F fs ao σ H' G' cH->bS J ao.aH cH fs v w->ρ <+: cH->Fr s ao->Op aa b rest (fw aW d w) (fx σ d w) H' (mv::wr) Q):
  Op aa b (⟨d,op,g⟩::rest) aW σ H wr Q:=by
 unfold oper at h;split at h
 ·rename_i z
  refine zP hw R.own fun H' a ha aw=> ?_;exact cl _ _ _ _ _ _ _ _ h (fun _=>rfl) (R.add aw ⟨a,_,R.new _,rfl,Gt z,fun _=>ha⟩) (.ptr (R.new _)) (hB _ _) (Ay R)
 ·rename_i x
  split at h
  ·exact absurd h az.bad
  ·rename_i v af
   split at h
   ·exact absurd h az.bad
   ·rename_i cs hc
    split at h
    ·rename_i ho
     have fq:=Ao hc (cV R bO af);refine Ph hw R.own rfl (QA ho fq) fun H' a ha aw=> ?_;exact cl _ _ _ _ _ _ _ _ h (fun _=>rfl) (R.add aw ⟨a,_,R.new _,rfl,fq.mono dS (hB _ _),fun _=>ha⟩) (.ptr (R.new _)) (hB _ _) (Ay R)
    ·exact absurd h az.bad
 ·rename_i n x y
  split at h
  ·rename_i o f v hx hy
   split at h
   ·rename_i cs vs hm hc
    split at h
    ·rename_i ab aj bC
     have zq:=cV R bO hx;generalize Az:bn aW σ x=wK at zq;cases zq with
     |ptr ho=>
      obtain⟨a,ws,q1,q2,cd,c2,fi⟩:=R.cells hm;rw[q1]at ho;cases ho;have cW:=aps R hc (cV R bO hy);obtain⟨i,hi,aK,CZ,hid⟩:=R.at hm
      refine zQ hw R.own i (by rw[hi,q2]) (fi rfl) Az rfl ⟨by rw[<-cW.length];exact ey ab,by
       have:=ey ab;rw[<-c2.length];exact ma aj⟩ (abd R bC cW) rfl fun H' aw=> ?_
      exact cl _ _ _ _ _ _ _ _ h (fun _=>rfl) (R.ck hm aK hid ⟨_,_,q1,rfl,KT cW f c2,fi⟩ aw) .k dS (apM hm)
    ·exact absurd h az.bad
   ·exact absurd h az.bad
  ·rename_i o i f v hx hy
   split at h
   ·rename_i t cZ vs hm hc
    split at h
    ·rename_i ab aj
     obtain⟨e,he,h⟩:=az.ct h;obtain⟨aAx,ao,h1,h2,ar⟩:=Ap (ρ:=ρ) (fs:=fs) aT h;split at h1
     ·exact absurd h1 az.bad
     ·rename_i u hu
      split at h1
      ·exact absurd h1 az.bad
      ·rename_i e' p8
       have oE:=R.ek h2;have jB:bc ao.mem o=some (.row t cZ):=by rw[h2.mem];exact hm
       have zq:=cV R bO hx;generalize Az:bn aW σ x=wK at zq;cases zq with
       |jq ho=>
        obtain⟨v0,q1,q2⟩:=oE.mem o _ jB;rw[q1]at ho;cases ho;have:=q2.abm;subst this;have cW:=(Ao hc (cV R bO hy)).mono h2.aH dS;obtain⟨k,hi,aK,CZ,hid⟩:=oE.at jB;obtain⟨w',p1,p2⟩:=apQ hu ar cW;have jm:=aT.iJ _ _ _ _ _ _ _ p2 p8;subst jm;refine amA hw k he oE.own hi q2 rfl Az rfl (by rw[<-cW.length];exact ey ab) (abE aj cW) p1 fun H' m' hr aw=> ?_;exact cl _ _ _ _ _ _ _ _ h1 (fun _=>rfl) (oE.ck jB aK hid ⟨_,q1,hr⟩ aw) .k dS (h2.bQ.trans (QP rfl jB))
    ·exact absurd h az.bad
   ·exact absurd h az.bad
  ·exact absurd h az.bad
 ·rename_i es bytes dr fH
  have abG:∀{t:Nat} {q:ad (J.ax t)} {x:aL J.ax},ag aq s dr=some x->Go.Abs.elems H (J.es t) (bn aW σ fH)=some (q.l.map (J.enc t))->S (KG s es bytes t x q k)->Op aa b (⟨d,.append es bytes dr fH,g⟩::rest) aW σ H wr Q:=by
   intro t q x oc x6 h0;have gw:=cV R bO oc;generalize fa:bn aW σ dr=wa at gw
   have key:∀{cZ:ad (J.ax t)},ft b (J.es t) (J.enc t) wa cZ []->S (su s es bytes t cZ none (.sl t q) k)->Op aa b (⟨d,.append es bytes dr fH,g⟩::rest) aW σ H wr Q:=by
    intro cZ QR mn;unfold su at mn;split at mn
    ·rename_i AA ab aj
     have EB:ev t (.sl t q:aL J.ax)=some q:=by simp[ev]
     rw[EB]at aj;cases aj;obtain⟨z,aO,mn⟩:=az.ct mn;have ab:=ey ab;subst ab;refine aaR (ms:=[]::dn s G F) hw 0 aO (R.own.ins 0) rfl QR fa x6 (aT.bx t) (aT.ok t) fun H' v' m' mv hr aw=> ?_;exact cl _ _ _ _ _ _ _ _ mn (fun _=>rfl) (R.add aw ⟨v',R.new v',hr⟩) (.row (R.new v')) (hB _ _) (Ay R)
    ·exact absurd mn az.bad
   unfold KG at h0;split at h0
   ·rename_i o'
    split at h0
    ·rename_i ej cZ jB
     unfold su at h0;split at h0
     ·rename_i AA ab aj
      have ht:t=ej:=by
       by_cases ht:t=ej
       ·exact ht
       ·simp[ev,ht]at aj
      subst ht;have EB:ev t (.sl t q:aL J.ax)=some q:=by simp[ev]
      rw[EB]at aj;cases aj;obtain⟨z,aO,h1⟩:=az.ct h0;clear h0;cases gw with
      |row jU=>
       obtain⟨v0,q1,q2⟩:=R.mem o' _ jB;rw[q1]at jU;cases jU;have ab:=ey ab;subst ab;obtain⟨k0,vp,pf⟩:=R.rep jB;refine aaR hw k0 aO R.own vp q2 fa x6 (aT.bx t) (aT.ok t) fun H' v' m' mv hr aw=> ?_;exact cl _ _ _ _ _ _ _ _ h1 (fun _=>rfl) (pf ⟨v',R.new v',hr⟩ aw) (.row (R.new v')) (hB _ _) (abD R jB)
     ·exact absurd h0 az.bad
    ·exact absurd h0 az.bad
   ·split at h0
    ·rename_i e
     exact key (by rw[x4 e gw];exact .nil) h0
    ·rename_i e
     exact key (by rw[x4 e gw];exact .emp) h0
    ·exact absurd h0 az.bad
  split at h
  ·rename_i x o lo hi oc rh
   split at h
   ·rename_i t y hm
    obtain⟨q,bg,h0⟩:=az.ct h;clear h;have rP:=cV R bO rh;generalize GC:bn aW σ fH=wb at rP;cases rP with
    |ll ho QS=>
     obtain⟨v1,bB,b4⟩:=R.mem o _ hm;obtain⟨b6,gx,-⟩:=R.at hm;rw[bB]at ho;cases ho;exact abG oc (by rw[GC];exact abl b6 gx R.own b4 bg QS) h0
   ·exact absurd h az.bad
  ·rename_i x o oc rh
   split at h
   ·rename_i t y hm
    have rP:=cV R bO rh;generalize GC:bn aW σ fH=wb at rP;cases rP with
    |row ho=>
     obtain⟨v1,bB,b4⟩:=R.mem o _ hm;obtain⟨b6,gx,-⟩:=R.at hm;rw[bB]at ho;cases ho;exact abG oc (by rw[GC];exact apx b6 gx R.own b4) h
   ·exact absurd h az.bad
  ·rename_i o y _ _ oc rh
   split at h
   ·rename_i t x hm
    unfold su at h;split at h
    ·rename_i AA ab aj
     obtain⟨z,aO,h⟩:=az.ct h;have gw:=cV R bO oc;generalize fa:bn aW σ dr=wa at gw;cases gw with
     |row ho=>
      obtain⟨v0,q1,q2⟩:=R.mem o _ hm;rw[q1]at ho;cases ho;have ab:=ey ab;subst ab;obtain⟨k,hi,pf⟩:=R.rep hm;refine Z4 hw k aO R.own hi q2 fa (C3 aj (cV R bO rh)) (aT.bx t) (aT.ok t) fun H' v' m' mv hr aw=> ?_;exact cl _ _ _ _ _ _ _ _ h (fun _=>rfl) (pf ⟨v',R.new v',hr⟩ aw) (.row (R.new v')) (hB _ _) (abD R hm)
    ·exact absurd h az.bad
   ·exact absurd h az.bad
  ·rename_i x t y _ oc rh
   have key:∀{cZ:ad (J.ax t)} {gg:V},bn aW σ dr=gg->ft b (J.es t) (J.enc t) gg cZ []->S (su s es bytes t cZ none (.sl t y) k)->Op aa b (⟨d,.append es bytes dr fH,g⟩::rest) aW σ H wr Q:=by
    intro cZ gg fa QR mn;unfold su at mn;split at mn
    ·rename_i AA ab aj
     obtain⟨z,aO,mn⟩:=az.ct mn;have ab:=ey ab;subst ab;refine Z4 (ms:=[]::dn s G F) hw 0 aO (R.own.ins 0) rfl QR fa (C3 aj (cV R bO rh)) (aT.bx t) (aT.ok t) fun H' v' m' mv hr aw=> ?_;exact cl _ _ _ _ _ _ _ _ mn (fun _=>rfl) (R.add aw ⟨v',R.new v',hr⟩) (.row (R.new v')) (hB _ _) (Ay R)
    ·exact absurd mn az.bad
   have hn:=cV R bO oc;split at h
   ·rename_i e
    exact key (x4 e hn) .nil h
   ·rename_i e
    exact key (x4 e hn) .emp h
   ·exact absurd h az.bad
  ·exact absurd h az.bad
 ·rename_i es z bytes apU lz
  split at h
  ·rename_i q fh
   split at h
   ·rename_i t bP n ht hs hl
    split at h
    ·rename_i e ab aj
     obtain⟨x,hx,h⟩:=az.ct h;have ab:=ey ab;subst ab;have lv:=cV R bO hl;generalize Qi:bn aW σ apU=wl at lv;cases lv;obtain⟨aae,hc⟩:=apS hs Qi;refine amy hw hx R.own (aT.iJ _ _ _ _ _ _ _ (apR (ρ:=ρ) (fs:=fs) z) aj) Qi hc fun H' v' m' mv hr aw=> ?_;exact cl _ _ _ _ _ _ _ _ h (fun _=>rfl) (R.add aw ⟨v',R.new v',hr⟩) (.row (R.new v')) (hB _ _) (Ay R)
    ·exact absurd h az.bad
   ·exact absurd h az.bad
  ·exact absurd h az.bad
 ·split at h
  ·rename_i q fh
   split at h
   ·rename_i c hc
    split at h
    ·rename_i p hp
     refine Z1 hw R.own fun H' a ha aw=> ?_;exact cl _ _ _ _ _ _ _ _ h (fun _=>rfl) (R.add aw ⟨a,R.new _,rfl,ha⟩) (.row (R.new _)) (hB _ _) (Ay R)
    ·exact absurd h az.bad
   ·exact absurd h az.bad
  ·exact absurd h az.bad
 ·rename_i kind x i y
  split at h
  ·rename_i o v u hx hi hy
   split at h
   ·rename_i eB j7 m hm
    split at h
    ·rename_i key val ab aj bC
     have dt:=cV R bO hx;generalize fa:bn aW σ x=wa at dt;cases dt with
     |row ho=>
      obtain⟨a,q1,q2,cd⟩:=R.mem o _ hm;obtain⟨bz,hk,aK,CZ,hid⟩:=R.at hm;rw[q1]at ho;cases ho;refine @aad aa b aW σ H wr rest _ _ ⟨J.beq eB⟩ _ _ _ _ m key val _ _ _ _ _ _ _ hw (QE aT bC) R.own bz (by rw[hk,q2]) cd fa (aT.iJ _ _ _ _ _ _ _ (cV R bO hi) ab) (aT.iJ _ _ _ _ _ _ _ (cV R bO hy) aj) (aT.bx _ _) fun H' aw=> ?_;exact cl _ _ _ _ _ _ _ _ h (fun _=>rfl) (R.ck hm aK hid ⟨a,q1,rfl,cd⟩ aw) .k dS (QP rfl hm)
    ·exact absurd h az.bad
   ·exact absurd h az.bad
  ·exact absurd h az.bad
 ·rename_i f aQ
  split at h
  ·rename_i fv abH AB wO
   split at h
   ·split at h
    ·obtain⟨v,ao,w,eK,m',G',h1,h2,ar,aR,h5,eo⟩:=apK aT az R hT ae h (cV R bO AB) (wJ R bO wO)
     have bH:=R.ek h2
     have ep:∀{H' bl},tB b s.aH ρ fs bl m'->Own H' (m'.map (fun e=>bl e.1)++F)->bW J b F fs {ao with mem:=m',cA:=gone m' s.mem++ao.cA} σ H' bl ρ:=fun kn aw=>
      ⟨bH.aB,bH.vs,aw,kn.1,fun p hp=>by
       rw[h2.aB];have:p.1∈m'.map Prod.fst:=rA hp;rw[eo.fst]at this;obtain⟨e',q1,q2⟩:=dX.1 this;rw[<-q2];exact R.lt e' q1,fun k c hk=>(kn.2 k c hk).mono h2.aH dS,bH.dK⟩
     have eN:Fr s {ao with mem:=m',cA:=gone m' s.mem++ao.cA}:=⟨fun t ht=>by rw[h2.vs],fun t ht=>by rw[h2.dE];exact ht,fun p hp=>pM _ (by rw[h2.cA];exact hp),h2.aH,by rw[h2.aB];exact aF _,fun o w cs hm=>by
      rcases eo.mem o _ hm with⟨al,a2⟩|⟨t,x,al,a2,a3,a4⟩
      ·exact⟨cs,al,rfl,fun _ _=>rfl⟩
      ·exact(nomatch al),fun o c hc hm=>by
      rcases eo.mem o _ hm with⟨al,a2⟩|⟨t,x,al,a2,a3,a4⟩
      ·exact .inl al
      ·rcases al with rfl|rfl
       ·exact .inr (w9 _ (K0 (jr hm) a2))
       ·exact .inl a2⟩
     cases abI:flat w with
     |true=>exact aaf hw R.own aR h5 abI rfl rfl (cl _ _ _ _ _ _ _ _ h1 (fun _=>rfl) (ep (eo.same R.Ax) (by rw[eo.dn];exact R.own)) ar dS eN)
     |false=>exact amB hw R.own aR (fun H low r hr=>by obtain⟨x,y,z⟩:=r;exact(NL (NM 16) hr).2) h5 abI rfl rfl fun H' mv aw=>cl _ _ _ _ _ _ _ _ h1 (fun _=>rfl) (ep (eo.ok R.Ax) aw) ar dS eN
    obtain⟨v,ao,w,eK,gN,h1,h2,ar,aR,h5,eo⟩:=apJ aT az R hT ae h (cV R bO AB) (wJ R bO wO);exact aaf hw R.own aR h5 eo rfl rfl (cl _ _ _ _ _ _ _ _ h1 (fun q=>by cases q) (R.ek h2) ar dS h2.bQ)
   obtain⟨v,ao,w,h1,h2,ar,aR⟩:=abq aT az R hT ae h (cV R bO AB) (wJ R bO wO);exact iU hw (Cq (aR H R.own).1 (aR H R.own).2 rfl rfl) (cl _ _ _ _ _ _ _ _ h1 (fun q=>by cases q) (R.ek h2) ar dS h2.bQ)
  ·exact absurd h az.bad
 ·rename_i kH aQ
  split at h
  ·rename_i i abH BL wO
   split at h
   ·rename_i p hp
    have fe:=hT.2 _ (jr hp);have ha:=wJ R bO wO;have h9:=cV R bO BL;generalize C4:bn aW σ kH=wf at h9;cases h9 with
    |fn hl=>
    cases hl;unfold aa5 at h;split at h
    ·rename_i xw
     unfold x5 at fe;rw[xw]at fe;split at h
     ·rename_i o
      split at h
      ·rename_i t x hm
       split at h
       ·rename_i ht
        obtain⟨z,aO,h⟩:=az.ct h;have ht:=ey ht;subst ht
        obtain⟨dr,rfl⟩:∃dr,aQ=[dr]:=by
         have:=ha.length
         match aQ,this with
         |[dr],_=>exact⟨dr,rfl⟩
        have ha:bu J s.aH ρ fs _ [bn aW σ dr]:=ha;generalize fa:bn aW σ dr=wa at ha;cases ha with
        |cons af _=>
         cases af with
         |row ho=>
          obtain⟨v0,q1,q2⟩:=R.mem o _ hm;obtain⟨bz,hk,aK,CZ,hid⟩:=R.at hm;rw[q1]at ho;cases ho;refine aoY hw fe bz aO R.own hk q2 C4 fa (aT.ok _) fun H' m' mv hr aw=> ?_;exact cl _ _ _ _ _ _ _ _ h (fun _=>rfl) (R.ck hm aK hid ⟨_,q1,hr⟩ aw) .k dS (QP rfl hm)
       ·exact absurd h az.bad
      ·exact absurd h az.bad
     ·obtain⟨dr,rfl⟩:∃dr,aQ=[dr]:=by
       have:=ha.length
       match aQ,this with
       |[dr],_=>exact⟨dr,rfl⟩
      have ha:bu J s.aH ρ fs _ [bn aW σ dr]:=ha;generalize fa:bn aW σ dr=wa at ha;cases ha with
      |cons af _=>
       cases af;exact aoZ hw fe C4 fa fun mv=>cl _ s _ H G ρ mv true h (fun _=>rfl) R .k dS .rfl
     ·exact absurd h az.bad
    ·rename_i xw
     unfold x5 at fe;rw[xw]at fe;split at h
     ·rename_i o aa6 a q6 c
      split at h
      ·rename_i t x hm
       split at h
       ·rename_i ht ab aj
        obtain⟨z,aO,h⟩:=az.ct h;have ht:=ey ht;subst ht;have ab:=of_decide_eq_true ab;have aj:=of_decide_eq_true aj;subst ab aj
        obtain⟨uf,dr,lz,rfl⟩:∃uf dr lz,aQ=[uf,dr,lz]:=by
         have:=ha.length
         match aQ,this with
         |[uf,dr,lz],_=>exact⟨uf,dr,lz,rfl⟩
        have ha:bu J s.aH ρ fs _ [bn aW σ uf,bn aW σ dr,bn aW σ lz]:=ha;generalize k4:bn aW σ uf=fh at ha;generalize fa:bn aW σ dr=wa at ha;generalize nq:bn aW σ lz=Aq at ha;cases ha with
        |cons af ha=>
         cases ha with
         |cons gw ha=>
          cases ha with
          |cons wM _=>
           cases gw;cases wM;cases af with
           |row ho=>
            obtain⟨v0,q1,q2⟩:=R.mem o _ hm;obtain⟨bz,b6,dI⟩:=QK (G:=G) hm;rw[q1]at ho;cases ho;have aK:=(e0.1 b6).1;have aZ:∀{k:Nat} {c:b8 J},bc (pF o s.mem) k=some c->bc s.mem k=some c:=fun hk=>abr (Av o _) R.db hk;refine ao0 hw fe bz aO R.own (by unfold dn;rw[fB aK];exact b6) q2 C4 k4 fa nq (aT.bx _) (aT.ok _) fun H' m' mv aw=> ?_
            have lI:Own H' ((pF o s.mem).map (fun e=>G e.1)++F):=aw.sub (by
             unfold dn;rw[HG _ _ aK];exact(dI _).append (HN _))
            refine cl _ {s with mem:=pF o s.mem,cA:=(o,0)::s.cA} _ H' G ρ mv true h (fun _=>rfl) ⟨R.aB,R.vs,lI,R.db.sublist ((Av o _).map _),fun p hp=>R.lt p ((Av o _).subset hp),fun k c hk=>R.mem k c (aZ hk),R.dK⟩ .sl dS
             ⟨fun _ _=>rfl,fun _ h=>h,fun _ h=>kQ _ h,dS,aF _,fun k w cs hk=>⟨cs,(GA fun e=>by subst e;rw[hm]at hk;cases hk).trans hk,rfl,fun _ _=>rfl⟩,fun k c hc hk=> ?_⟩
            by_cases e:k=o
            ·subst e;exact .inr (pO ..)
            ·exact .inl ((GA e).trans hk)
       ·exact absurd h az.bad
      ·exact absurd h az.bad
     ·exact absurd h az.bad
    ·rename_i mY r7
     split at h
     ·rename_i v
      split at h
      ·rename_i x hx
       obtain⟨z,aO,h⟩:=az.ct h
       obtain⟨n,apV,cR,hn⟩:=fe.clone (by
        obtain⟨t,n⟩:=p
        match n,mY,r7 with
        |n+2,_,_=>rfl
        |0,h,_=>exact absurd rfl h
        |1,_,h=>exact absurd rfl h)
       obtain⟨dr,rfl⟩:∃dr,aQ=[dr]:=by
        have:=ha.length
        match aQ,this with
        |[dr],_=>exact⟨dr,rfl⟩
       cases ha with
       |cons af _=>
        refine amL (ms:=dn s G F) hw cR hn aO R.own C4 (C3 hx af) (aT.bx p.1) (aT.ok p.1) fun H' v' m' mv hr aw=> ?_;exact cl _ _ _ _ _ _ _ _ h (fun _=>rfl) (R.add aw ⟨v',R.new v',hr⟩) (.row (R.new v')) (hB _ _) (Ay R)
      ·exact absurd h az.bad
     ·exact absurd h az.bad
   ·exact absurd h az.bad
  ·exact absurd h az.bad
 ·rename_i es z len parts ju
  split at h
  ·rename_i o aAy hl
   obtain⟨rfl,rfl,rfl,apW⟩:=apT hl;split at h
   ·rename_i q _
    split at h
    ·rename_i t ej x ht hm
     split at h
     ·rename_i e he eM
      have af:=cV R bO apW;obtain⟨w',na,z2⟩:=apH (n:=15) (F:=F) aT R.Ax hm af;have jm:=aT.iJ _ _ _ _ _ _ _ z2 he;have eM:=ey eM;have aZ:∀{k:Nat} {c:b8 J},bc (pF o s.mem) k=some c->bc s.mem k=some c:=fun hk=>abr (Av o _) R.db hk;subst jm;refine amM hw R.own na rfl (aT.bx t e) ⟨by rw[aT.es,eM],aT.ok t e⟩ fun H' mv aw=> ?_
      refine cl _ {s with mem:=pF o s.mem,cA:=(o,0)::s.cA} _ H' G ρ mv true h (fun _=>rfl) ⟨R.aB,R.vs,aw,R.db.sublist ((Av o _).map _),fun p hp=>R.lt p ((Av o _).subset hp),fun k c hk=>R.mem k c (aZ hk),R.dK⟩ ?_ dS
       ⟨fun _ _=>rfl,fun _ h=>h,fun _ h=>kQ _ h,dS,aF _,fun k w cs hk=>⟨cs,(GA fun e=>by subst e;rw[hm]at hk;cases hk).trans hk,rfl,fun _ _=>rfl⟩,fun k c hc hk=> ?_⟩
      ·have:bS J s.aH ρ fs (.sl t (.mk [e])) (bb (J.es t) (J.enc t) (.mk [e])):=.sl
       rw[eM]at this;exact this
      ·by_cases e:k=o
       ·subst e;exact .inr (pO ..)
       ·exact .inl ((GA e).trans hk)
     ·exact absurd h az.bad
    ·exact absurd h az.bad
   ·exact absurd h az.bad
  ·obtain⟨v,ao,w,h1,h2,ar,aR⟩:=QF (call:=bY aa) aT az R bO h
   exact iU hw (aR H R.own) (cl _ _ _ _ _ _ _ _ h1 (fun q=>by cases q) (R.ek h2) ar dS h2.bQ)
 ·obtain⟨v,ao,w,h1,h2,ar,aR⟩:=QF (call:=bY aa) aT az R bO h
  exact iU hw (aR H R.own) (cl _ _ _ _ _ _ _ _ h1 (fun q=>by cases q) (R.ek h2) ar dS h2.bQ)
theorem QT{t:Nat}{v:aL J.ax}{w:V}{B:List Bool}(bO:∀t v,bc aq t=some v->bS J B ρ fs v (aW t))(af:bS J B ρ fs v w):∀k u,bc ((t,v)::aq) k=some u->bS J B ρ fs u (up aW t w k):=fun k u h=>by
 rw[fT]at h;split at h
 ·rename_i e;cases h;subst e;rw[v8];exact af
 ·rename_i e;rw[jG _ _ (fun q=>e q.symm)];exact bO k u h
theorem AD (aT:gj J)(az:l6 S)(hT:re aa cx)(ae:∀j f,nth cx.fv j=some f->∃w,fs[j]? =some w/\og aa F f.dN f.rt f.f w){k:bp J->List Bool->A}{Q:bN->Heap->List Bool->Prop}:
  ∀{ops:List bI} {aq:kJ J} {aW:bN} {s:bp J} {σ:bN} {H:Heap} {G:Nat->List (Nat × bU)} {ρ:List V} {wr mI:List Bool},S (so cx ops aq s mI k)->gS wr mI->bW J b F fs s σ H G ρ->(∀t v,bc aq t=some v->bS J s.aH ρ fs v (aW t))->
  (∀ao aS H' G' cH fh AE,S (k ao AE)->gS fh AE->bW J b F fs ao aS H' G' cH->ρ <+: cH->Fr s ao->Q aS H' fh)->Op aa b ops aW σ H wr Q
 |[],aq,aW,s,σ,H,G,ρ,wr,mI,h,hl,R,bO,cl=>gB (cl _ _ _ _ _ _ _ h hl.rev R dS .rfl)
 |⟨d,op,g⟩::r,aq,aW,s,σ,H,G,ρ,wr,mI,h,hl,R,bO,cl=>by
  have fin:∀{s1:bp J} {H1:Heap} {ay:Nat->List (Nat × bU)} {gb:List V} {v:aL J.ax} {w:V} {m QU:Bool},(m=true->QU=true)->bW J b F fs s1 σ H1 ay gb->bS J s1.aH gb fs v w->ρ <+: gb->Fr s s1->
    S (match put aq s1 v d with|(aq,s)=>so cx r aq s (QU::mI) k)->Op aa b r (fw aW d w) (fx σ d w) H1 (m::wr) Q:=by
   intro s1 H1 ay gb v w m QU hm bH af aN eN h1;have pJ:∀t v,bc aq t=some v->bS J s1.aH gb fs v (aW t):=fun t v q=>(bO t v q).mono eN.aH aN
   match d with
   |none=>exact AD aT az hT ae h1 (.cons hm hl) bH pJ fun ao aS H' G' cH fh AE al a0 a2 a3 a4=>cl _ _ _ _ _ _ _ al a0 a2 (aN.trans a3) (eN.trans a4)
   |some (t,false)=>exact AD aT az hT ae h1 (.cons hm hl) bH (QT pJ af) fun ao aS H' G' cH fh AE al a0 a2 a3 a4=>cl _ _ _ _ _ _ _ al a0 a2 (aN.trans a3) (eN.trans a4)
   |some (t,true)=>exact AD aT az hT ae h1 (.cons hm hl) (bH.put af) pJ fun ao aS H' G' cH fh AE al a0 a2 a3 a4=>cl _ _ _ _ _ _ _ al a0 a2 (aN.trans a3) (eN.trans (QN.trans a4))
  have go:∀{s1:bp J},jI s s1->ga aW σ g=some true->S (oper cx aq s1 d (fun v s m=>match put aq s v d with|(aq,s)=>so cx r aq s (m::mI) k) op)->Op aa b (⟨d,op,g⟩::r) aW σ H wr Q:=by
   intro s1 hk hw h1;exact BX aT az hT ae (R.ek hk) (fun t v q=>(bO t v q).mono hk.aH dS) h1 hw fun v ao w H' G' cH mv QQ al a0 a2 a3 a4 a5=>fin a0 a2 a3 a4 (hk.bQ.trans a5) al
  have skip:∀{s1:bp J},jI s s1->ga aW σ g=some false->S (match put aq s1 (.aU []) d with|(aq,s)=>so cx r aq s (false::mI) k)->Op aa b (⟨d,op,g⟩::r) aW σ H wr Q:=by
   intro s1 hk hw h1;exact O8 (o:=⟨d,op,g⟩) hw (fin (fun q=>q) (R.ek hk) (.aU .nil) dS hk.bQ h1)
  simp only[so]at h
  match g with
  |none=>exact go .rfl rfl h
  |some (x,w)=>
   simp only at h;split at h
   ·exact absurd h az.bad
   ·rename_i v af
    have mA:=cV R bO af;split at h
    ·generalize Az:bn aW σ x=wK at mA
     cases mA with
     |aU fY=>cases fY;exact skip .rfl (ZW Az) h
    ·cases w with
     |true=>
      obtain⟨β,s1,ab,aj,bC,cu⟩:=CX az h R.dK mA;rcases cu with⟨rfl,h⟩|⟨rfl,h⟩
      ·exact go aj (jl ab rfl) h
      ·exact skip aj (Js ab rfl) h
     |false=>
      obtain⟨β,s1,ab,aj,bC,cu⟩:=CX az h R.dK mA;rcases cu with⟨rfl,h⟩|⟨rfl,h⟩
      ·exact skip aj (Jt ab rfl) h
      ·exact go aj (jl ab rfl) h
end
end Go.Abs.hq
