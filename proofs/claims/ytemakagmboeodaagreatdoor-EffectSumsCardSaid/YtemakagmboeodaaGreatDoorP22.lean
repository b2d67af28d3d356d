/- Texts of this claim, joined and written short by a program. -/
import Derived.Test.YtemakagmboeodaaGreatDoorP21
import Derived.Test.YtemakagmboeodaaGreatDoorP00
set_option linter.unusedVariables false
set_option linter.unusedSimpArgs false
set_option linter.unusedSectionVars false
namespace Go.Abs.fM
open Go Go.Abs
def oR{U:fW}:bC U->Bool
 | .cells .. =>true
 | _=>false
structure Fr {U:fW} (s ao:a1 U):Prop where
 vs:∀t,t∉ao.c3->aX ao.vs t=aX s.vs t
 c3:∀t∈s.c3,t∈ao.c3
 bU:∀p∈s.bU,p∈ao.bU
 aB:s.aB <+: ao.aB
 aA:s.aA<=ao.aA
 mem:∀o w cs,aX s.mem o=some (.cells w cs)->∃ey,aX ao.mem o=some (.cells w ey)/\ey.length=cs.length/\∀j:Nat,(o,j)∉ao.bU->ey[j]? =cs[j]?
 row:∀o aJ,oR aJ=false->aX s.mem o=some aJ->aX ao.mem o=some aJ\/(o,0)∈ao.bU
section
variable{U:fW}{b:Nat}{F:bV}{fs:List V}{s ao y9:a1 U}{σ aM:bt}{H:Heap}{G:Nat->List (Nat × bd)}{ρ:List V}{aj:h6 U}{A:Type}[aF A]{S:A->Prop}{ab:Nat->Option bQ}{cx:kc U}
theorem Fr.rfl:Fr s s:=⟨fun _ _=>Eq.refl _,fun _ h=>h,fun _ h=>h,db,aI _,fun o w cs h=>⟨cs,h,Eq.refl _,fun _ _=>Eq.refl _⟩,fun _ _ _ h=>.inl h⟩
theorem Fr.trans (h:Fr s ao)(k:Fr ao y9):Fr s y9 where
 vs:=fun t ht=>(k.vs t ht).trans (h.vs t fun q=>ht (k.c3 t q))
 c3:=fun t ht=>k.c3 t (h.c3 t ht)
 bU:=fun p hp=>k.bU p (h.bU p hp)
 aB:=h.aB.trans k.aB
 aA:=cA h.aA k.aA
 mem:=fun o w cs hm=>by
  obtain⟨lL,h1,h2,aq⟩:=h.mem o w cs hm;obtain⟨zf,bM,dC,iv⟩:=k.mem o w lL h1;exact⟨zf,bM,dC.trans h2,fun j hj=>(iv j hj).trans (aq j fun q=>hj (k.bU _ q))⟩
 row:=fun o aJ hc hm=>(h.row o aJ hc hm).elim (k.row o aJ hc) fun q=>.inr (k.bU _ q)
theorem gN.bD (h:gN s ao):Fr s ao where
 vs:=fun t _=>by rw[h.vs]
 c3:=fun t ht=>by rw[h.c3];exact ht
 bU:=fun t ht=>by rw[h.bU];exact ht
 aB:=h.aB
 aA:=by rw[h.aA];exact aI _
 mem:=fun o w cs hm=>⟨cs,by rw[h.mem];exact hm,Eq.refl _,fun _ _=>Eq.refl _⟩
 row:=fun o aJ hc hm=>.inl (by rw[h.mem];exact hm)
theorem Ho{α:Type}{l:List (Nat × α)}{t:Nat}(h:t∉l.map Prod.fst):aX l t=none:=by
 cases e:aX l t with
 |none=>rfl
 |some a=>exact absurd (mm (f:=Prod.fst) (gD e)) h
theorem bB.put (R:bB U b F fs s σ H G ρ){t:Nat}{v:aD U.ar}{w:V}(ad:bp U s.aB ρ fs v w){c3:List Nat}:bB U b F fs {s with vs:=(t,v)::s.vs,c3:=c3} (up σ t w) H G ρ where
 aA:=R.aA
 vs:=fun k u h=>by
  rw[eG]at h;split at h
  ·rename_i e;cases h;subst e;rw[wH];exact ad
  ·rename_i e;rw[wI _ _ (fun q=>e q.symm)];exact R.vs k u h
 own:=R.own
 cI:=R.cI
 lt:=R.lt
 mem:=R.mem
 dh:=R.dh
theorem Hp{t:Nat}{v:aD U.ar}:Fr s {s with vs:=(t,v)::s.vs,c3:=t::s.c3} where
 vs:=fun k h=>by
  rw[eG,if_neg];intro e;subst e;exact h (k7 ..)
 c3:=fun t ht=>ie _ ht
 bU:=fun _ h=>h
 aB:=db
 aA:=aI _
 mem:=fun o w cs hm=>⟨cs,hm,Eq.refl _,fun _ _=>Eq.refl _⟩
 row:=fun _ _ _ h=>.inl h
theorem bB.new (R:bB U b F fs s σ H G ρ)(v:V):(ρ++[v])[s.aA]? =some v:=by rw[<-R.aA];simp
theorem bB.add (R:bB U b F fs s σ H G ρ){H':Heap}{m':List (Nat × bd)}{aJ:bC U}{v:V}(hO:Own H' (m'::cK s G F))(hb:lJ U b s.aB (ρ++[v]) fs s.aA m' aJ):
  bB U b F fs (hJ s aJ) σ H' (fun o=>if o=s.aA then m' else G o) (ρ++[v]) where
 aA:=by simp[hJ,R.aA]
 vs:=fun t v h=>(R.vs t v h).mono db (fl _ _)
 own:=by
  have:cK (hJ s aJ) (fun o=>if o=s.aA then m' else G o) F=m'::cK s G F:=by
   unfold cK hJ;simp only[cW,if_pos,kE];congr 2;refine mW fun e he=> ?_;rw[if_neg (mo (R.lt e he))]
  rw[this];exact hO
 cI:=by
  show(s.aA::s.mem.map Prod.fst).Nodup;refine n4.2 ⟨fun h=> ?_,R.cI⟩;obtain⟨e,he,q⟩:=dn.1 h;exact absurd q (mo (R.lt e he))
 lt:=fun e he=>by
  rcases cY.1 he with rfl|he
  ·exact xk _
  ·exact C6 (R.lt e he)
 mem:=fun o c h=>by
  have h:aX ((s.aA,aJ)::s.mem) o=some c:=h;rw[eG]at h;split at h
  ·rename_i e;cases h;subst e;rw[if_pos rfl];exact hb
  ·rename_i e
   have:=(R.mem o c h).mono (db (l:=s.aB)) (fl ρ [v]);simp only[jn e,if_false];exact this
 dh:=R.dh
theorem sk (R:bB U b F fs s σ H G ρ){aJ:bC U}:Fr s (hJ s aJ) where
 vs:=fun _ _=>Eq.refl _
 c3:=fun _ h=>h
 bU:=fun _ h=>h
 aB:=db
 aA:=xp _
 mem:=fun o w cs hm=>⟨cs,by
  show aX ((s.aA,aJ)::s.mem) o=_;rw[eG,if_neg (Nat.ne_of_gt (R.lt _ (gD hm)))];exact hm,Eq.refl _,fun _ _=>Eq.refl _⟩
 row:=fun o c hc hm=>.inl (by
  show aX ((s.aA,aJ)::s.mem) o=_;rw[eG,if_neg (Nat.ne_of_gt (R.lt _ (gD hm)))];exact hm)
theorem Hq{o f cC j:Nat}:∀{n:Nat} {l:List (Nat × Nat)},(cC,j)∈marks o f n l↔(cC=o/\f<=j/\j<f+n)\/(cC,j)∈l
 |0,l=>by simp only[marks];constructor<;>intro h<;>first|exact .inr h|(rcases h with h|h;omega;exact h)
 |n+1,l=>by
  simp only[marks,cY,Hq (n:=n),a6];constructor
  ·rintro(⟨rfl,rfl⟩|⟨rfl,h⟩|h)
   ·exact .inl ⟨rfl,by omega,by omega⟩
   ·exact .inl ⟨rfl,by omega,by omega⟩
   ·exact .inr h
  ·rintro(⟨rfl,h1,h2⟩|h)
   ·by_cases q:j=f+n
    ·exact .inl ⟨rfl,q⟩
    ·exact .inr (.inl ⟨rfl,h1,by omega⟩)
   ·exact .inr (.inr h)
theorem Sj:∀(xs cs:List (aD U.ar)) (o:Nat),(pF cs o xs).length=cs.length
 |[],_,_=>rfl
 |x::xs,cs,o=>by simp[pF,Sj xs]
theorem Sk:∀(xs cs:List (aD U.ar)) (o j:Nat),¬(o<=j/\j<o+xs.length)->(pF cs o xs)[j]? =cs[j]?
 |[],_,_,_,_=>rfl
 |x::xs,cs,o,j,h=>by
  simp only[iN]at h;rw[pF,Sk xs _ (o+1) j (by omega),iL (by omega)]
theorem ad5{o:Nat}{c:bC U}{m:List (Nat × bd)}{k:Nat}(hk:k<s.mem.length)(hid:s.mem[k].1=o)(cI:(s.mem.map Prod.fst).Nodup){bU:List (Nat × Nat)}:
  cK {s with mem:=gv o c s.mem,bU:=bU} (fun q=>if q=o then m else G q) F=(cK s G F).set k m:=by
 unfold cK;simp only;rw[zP _ _ (by simpa using hk)];congr 1;have ae:(gv o c s.mem).map (fun e=>if e.1=o then m else G e.1)=((gv o c s.mem).map Prod.fst).map (fun q=>if q=o then m else G q):=by rw[jm];rfl
 have ai:s.mem.map (fun e=>G e.1)=(s.mem.map Prod.fst).map G:=by rw[jm];rfl
 rw[ae,ai,pN];have hk':k<(s.mem.map Prod.fst).length:=by simpa using hk
 have uL:(s.mem.map Prod.fst)[k]=o:=by simpa using hid
 generalize s.mem.map Prod.fst=l at cI hk' uL;apply lP;intro i;rw[iM];by_cases e:k=i
 ·subst e
  rw[mi (by simpa using hk'),gk hk',uL];simp
 ·rw[iL e,iM]
  cases hi:l[i]? with
  |none=>rfl
  |some q=>
   have nL:=(fu.1 hi);obtain⟨nL,a8⟩:=nL;have:q≠o:=fun h=>e ((List.getElem_inj (h₀:=hk') (h₁:=nL) cI).1 (by rw[uL,a8,h]));simp[this]
theorem bB.b0 (R:bB U b F fs s σ H G ρ){H':Heap}{o k:Nat}{c jc:bC U}{m':List (Nat × bd)}{bU:List (Nat × Nat)}(hm:aX s.mem o=some jc)(hk:k<s.mem.length)(hid:s.mem[k].1=o)(hc:lJ U b s.aB ρ fs o m' c)(hO:Own H' ((cK s G F).set k m')):
  bB U b F fs {s with mem:=gv o c s.mem,bU:=bU} σ H' (fun q=>if q=o then m' else G q) ρ where
 aA:=R.aA
 vs:=R.vs
 own:=by rw[ad5 hk hid R.cI];exact hO
 cI:=by show((gv o _ s.mem).map Prod.fst).Nodup;rw[pN];exact R.cI
 lt:=fun e he=>by
  have:e.1∈(gv o c s.mem).map Prod.fst:=mm he;rw[pN]at this;obtain⟨e',h1,h2⟩:=dn.1 this;rw[<-h2];exact R.lt e' h1
 mem:=fun q aJ h=>by
  have h1:aX (gv o c s.mem) q=some aJ:=h;clear h;rw[oP]at h1;have h:=h1;clear h1;split at h
  ·rename_i e;subst e
   rw[hm]at h;cases h;rw[if_pos rfl];exact hc
  ·rename_i e
   have:=R.mem q aJ h;simp only[e,if_false];exact this
 dh:=R.dh
theorem ad6{o f:Nat}{vs cs:List (aD U.ar)}{w:Bool}(hm:aX s.mem o=some (.cells w cs)):Fr s {s with mem:=gv o (.cells w (pF cs f vs)) s.mem,bU:=marks o f vs.length s.bU} where
 vs:=fun _ _=>Eq.refl _
 c3:=fun _ h=>h
 bU:=fun p h=>by obtain⟨a,c⟩:=p;exact Hq.2 (.inr h)
 aB:=db
 aA:=aI _
 mem:=fun q w' ey h=>by
  simp only[oP];by_cases e:q=o
  ·subst e
   rw[h]at hm;cases hm;exact⟨_,by rw[if_pos rfl,h];rfl,Sj _ _ _,fun j hj=>Sk _ _ _ _ fun q=>hj (Hq.2 (.inl ⟨rfl,q.1,q.2⟩))⟩
  ·exact⟨ey,by rw[if_neg e];exact h,rfl,fun _ _=>rfl⟩
 row:=fun q aJ hc h=>by
  simp only[oP];by_cases e:q=o
  ·subst e;rw[h]at hm;cases hm;cases hc
  ·rw[if_neg e];exact .inl h
theorem Hr{o:Nat}{jc c:bC U}(hc:oR jc=false)(hm:aX s.mem o=some jc):Fr s {s with mem:=gv o c s.mem,bU:=(o,0)::s.bU} where
 vs:=fun _ _=>Eq.refl _
 c3:=fun _ h=>h
 bU:=fun p h=>ie _ h
 aB:=db
 aA:=aI _
 mem:=fun q w' ey h=>by
  simp only[oP];by_cases e:q=o
  ·subst e;rw[h]at hm;cases hm;cases hc
  ·exact⟨ey,by rw[if_neg e];exact h,rfl,fun _ _=>rfl⟩
 row:=fun q aJ _ h=>by
  simp only[oP];by_cases e:q=o
  ·subst e;exact .inr (k7 ..)
  ·rw[if_neg e];exact .inl h
theorem Sl{o n:Nat}:∀{l:List (Nat × bC U)} {aJ:bC U},aX l o=some aJ->(∀e∈l,e.1<n)->∃k,(l.map fun e=>G e.1)[k]? =some (G o)/\∀(c:bC U) m',((hq o n c l).map fun e=>if e.1=n then m' else G e.1)=(l.map fun e=>G e.1).set k m'
 |(a,d)::r,aJ,h,hn=>by
  simp only[aX]at h;simp only[hq];split at h
  ·rename_i e
   try rw[e]
   refine⟨0,by simp[dm e],fun c m'=> ?_⟩;simp only[cW,C4,if_pos];congr 1;exact mW fun e he=>if_neg (mo (hn e (ie _ he)))
  ·rename_i e
   try rw[e]
   obtain⟨k,h1,h2⟩:=Sl h fun e he=>hn e (ie _ he);refine⟨k+1,by simpa using h1,fun c m'=> ?_⟩;simp only[cW,IP,h2,if_neg (mo (hn _ (k7 ..)))]
theorem Ck{o n:Nat}{c:bC U}:∀{l:List (Nat × bC U)} {e:Nat × bC U},e∈hq o n c l->e=(n,c)\/e∈l
 |(a,d)::r,e,h=>by
  simp only[hq]at h;split at h
  ·rcases cY.1 h with h|h
   ·exact .inl h
   ·exact .inr (ie _ h)
  ·rcases cY.1 h with rfl|h
   ·exact .inr (k7 ..)
   ·exact(Ck h).imp id (ie _)
theorem Sm{o n:Nat}{c:bC U}:∀{l:List (Nat × bC U)},(l.map Prod.fst).Nodup->(∀e∈l,e.1<n)->((hq o n c l).map Prod.fst).Nodup
 |[],h,_=>h
 |(a,d)::r,h,hn=>by
  have h':=n4.1 h;have mz:∀e∈r,e.1<n:=fun e he=>hn e (ie _ he);simp only[hq];split
  ·refine n4.2 ⟨fun q=> ?_,h'.2⟩
   obtain⟨x,hx,q⟩:=dn.1 q;exact mo (mz x hx) q
  ·refine n4.2 ⟨fun q=> ?_,Sm h'.2 mz⟩
   obtain⟨x,hx,q⟩:=dn.1 q;rcases Ck hx with rfl|hx
   ·exact mo (hn _ (k7 ..)) q.symm
   ·exact h'.1 (by rw[<-q];exact mm hx)
theorem Sn{o n:Nat}{c:bC U}(hn:n≠o):∀{l:List (Nat × bC U)},(l.map Prod.fst).Nodup->aX (hq o n c l) o=none
 |[],_=>rfl
 |(a,d)::r,h=>by
  have h':=n4.1 h;simp only[hq];split
  ·rename_i e
   have e:=dm e;subst e;rw[eG,if_neg hn];exact Ho h'.1
  ·rename_i e
   rw[eG,if_neg (fun q=>by rw[q,sO]at e;cases e)];exact Sn hn h'.2
theorem Cl{o n q:Nat}{c:bC U}(h1:q≠o)(h2:q≠n):∀l:List (Nat × bC U),aX (hq o n c l) q=aX l q
 |[]=>rfl
 |(a,d)::r=>by
  simp only[hq];split
  ·rename_i e
   have e:=dm e;subst e;rw[eG,eG,if_neg (jn h1),if_neg (jn h2)]
  ·rw[eG,eG,Cl h1 h2 r]
theorem bB.rep (R:bB U b F fs s σ H G ρ){o:Nat}{jc:bC U}(hm:aX s.mem o=some jc):∃k:Nat,(cK s G F)[k]? =some (G o)/\∀{H':Heap} {c:bC U} {v:V} {m':List (Nat × bd)} {bU:List (Nat × Nat)},
  lJ U b s.aB (ρ++[v]) fs s.aA m' c->Own H' ((cK s G F).set k m')->bB U b F fs {s with mem:=hq o s.aA c s.mem,aA:=s.aA+1,bU:=bU} σ H' (fun q=>if q=s.aA then m' else G q) (ρ++[v]):=by
 obtain⟨k,h1,h2⟩:=Sl (G:=G) hm R.lt;have aY:=(fu.1 h1).1;refine⟨k,by unfold cK;rw[ft aY];exact h1,fun {H' c v m' bU} hc hO=> ?_⟩;have bb:s.aA≠o:=fun e=>absurd (R.lt _ (gD hm)) (by rw[<-e];exact Nat.lt_irrefl _)
 exact {
  aA:=by simp[R.aA]
  vs:=fun t v h=>(R.vs t v h).mono db (fl _ _)
  own:=by
   unfold cK at hO⊢;rw[zP _ _ aY]at hO;rw[show(hq o s.aA c s.mem).map (fun e=>if e.1=s.aA then m' else G e.1)=_ from h2 c m'];exact hO
  cI:=Sm R.cI R.lt
  lt:=fun e he=>by
   rcases Ck he with rfl|he
   ·exact xk _
   ·exact C6 (R.lt e he)
  mem:=fun q aJ h=>by
   have h:aX (hq o s.aA c s.mem) q=some aJ:=h;by_cases ae:q=s.aA
   ·subst ae
    rw[if_pos rfl];rcases Ck (gD h)with e|e
    ·cases e;exact hc
    ·exact absurd (R.lt _ e) (Nat.lt_irrefl _)
   ·by_cases ai:q=o
    ·subst ai;rw[Sn bb R.cI]at h;cases h
    ·rw[Cl ai ae]at h
     rw[if_neg ae];exact(R.mem q aJ h).mono db (fl _ _)
  dh:=R.dh}
theorem Sp (R:bB U b F fs s σ H G ρ){o t:Nat}{x:al (U.ar t)}{c:bC U}(hm:aX s.mem o=some (.row t x)):Fr s {s with mem:=hq o s.aA c s.mem,aA:=s.aA+1,bU:=(o,0)::s.bU} where
 vs:=fun _ _=>Eq.refl _
 c3:=fun _ h=>h
 bU:=fun p h=>ie _ h
 aB:=db
 aA:=xp _
 mem:=fun q w' ey h=>⟨ey,by
  have ae:q≠o:=fun e=>by subst e;rw[h]at hm;cases hm
  show aX (hq o s.aA c s.mem) q=_;rw[Cl ae (mo (R.lt _ (gD h)))];exact h,rfl,fun _ _=>rfl⟩
 row:=fun q aJ _ h=>by
  by_cases e:q=o
  ·subst e;exact .inr (k7 ..)
  ·refine .inl ?_
   show aX (hq o s.aA c s.mem) q=_;rw[Cl e (mo (R.lt _ (gD h)))];exact h
theorem ad7{dw:List Nat}{ops:List bl}{wr jT:List Bool}(h:fk wr jT)(ho:p7 dw ops jT=true):p7 dw ops wr=true:=by
 unfold p7 at ho⊢;rcases iO _ _ |>.mp ho with ho|ho
 ·rw[iO];left
  unfold xu at ho⊢;split
  ·rename_i GN
   have ad8:jT.any id=true:=by
    obtain⟨x,hx,fI⟩:=zT.1 GN;simp only[id]at fI;subst fI;obtain⟨i,hi⟩:=oY.1 hx;exact zT.2 ⟨true,ml (h.get hi),rfl⟩
   rw[if_pos ad8]at ho;rw[eV]at ho⊢;rintro⟨w,i⟩ hw;cases w with
   |false=>rfl
   |true=>
    have hi:=h.get (hz.1 hw);exact ho (true,i) (hz.2 hi)
  ·rfl
 ·rw[iO];exact .inr ho
theorem ad9{B:List Bool}{v:aD U.ar}{w:V}(h:GV v=true)(ad:bp U B ρ fs v w):plainCell w=true:=by
 cases ad<;>simp only[GV]at h
 case sl s=>cases s<;>rfl
 all_goals first|rfl|exact h|cases h
theorem Sq{B:List Bool}:∀{cs:List (aD U.ar)} {ws:List V},B0 cs=true->bT U B ρ fs cs ws->kG ws=true
 | _,_,_,.nil=>rfl
 | _,_,h,.cons h' r=>by
   simp only[B0]at h;split at h
   ·rename_i e;simp only[kG,ad9 e h',Sq h r,z1]
   ·cases h
theorem Sr{B:List Bool}{u:aD U.ar}{w:V}{f:Nat}{vs:List (aD U.ar)}{ws:List V}(h:(match f,vs with|0,[x]=>some x| _,_=>none)=some u)(hs:bT U B ρ fs vs ws)(hw:∀l,w≠ .agg l):∃w',rj w f ws=some w'/\bp U B ρ fs u w':=by
 split at h
 ·cases h
  cases hs with
  |cons hx r=>cases r;exact⟨_,by unfold rj;split;exact absurd rfl (hw _);rfl,hx⟩
 ·cases h
theorem aea{B:List Bool}{v u:aD U.ar}{w:V}{f:Nat}{vs:List (aD U.ar)}{ws:List V}(h:jj v f vs=some u)(ad:bp U B ρ fs v w)(hs:bT U B ρ fs vs ws):∃w',rj w f ws=some w'/\bp U B ρ fs u w':=by
 cases ad<;>simp only[jj]at h
 case agg ad=>
  split at h
  ·rename_i e
   cases h;refine⟨_,?_,.agg (Cc hs f ad)⟩;simp only[rj];rw[if_pos (by rw[<-ad.length,<-hs.length];exact mj e)]
  ·cases h
 case sl s=>exact Sr h hs (fun l e=>by cases s<;>cases e)
 all_goals first|cases h|exact Sr h hs (fun l e=>by cases e)
theorem w2{B:List Bool}{t:Nat}{v:aD U.ar}{w:V}{l:al (U.ar t)}(h:kZ t v=some l)(ad:bp U B ρ fs v w):w=b4 (U.es t) (U.enc t) l:=by
 unfold kZ at h;split at h
 ·split at h
  ·rename_i e;subst e;cases h;cases ad;rfl
  ·cases h
 ·cases h;cases ad;rfl
 ·cases h;cases ad;rfl
 ·cases h
theorem aeb{B:List Bool}:∀z:List V,bp U B ρ fs (RG z) (jo z)
 |[]=>.agg .nil
 |[v]=>Cb v
 |a::c::r=>.agg (za (a::c::r))
theorem aec{a c:ah}{bI:IntKind}{n:Int}(h:GU a c=true)(ha:ba aM σ a=.int bI n):∃k,ba aM σ c=.int k n:=by
 unfold GU at h;split at h
 ·rw[dm h]at ha;exact⟨_,ha⟩
 ·rw[dm h]at ha;exact⟨_,ha⟩
 ·have:=of_decide_eq_true h
  subst this;cases ha;exact⟨_,rfl⟩
 ·cases h
set_option maxHeartbeats 1000000 in
theorem Cm{m':List (Nat × bC U)}:∀{l:List (Nat × bC U)} {o t:Nat} {x:al (U.ar t)} {dr:Nat} {fA:al (U.ar dr)},(o,bC.row t x)∈l->aX m' o=some (.fz dr fA)->(o,0)∈gone m' l
 |(a,d)::r,o,t,x,dr,fA,h,hn=>by
  simp only[gone];rcases cY.1 h with e|hm
  ·cases e;simp only[hn];exact k7 ..
  ·split
   ·split
    ·exact ie _ (Cm hm hn)
    ·exact Cm hm hn
   ·exact Cm hm hn
theorem aed{len:Nat}{parts:List (Nat × ah)}{gQ:Bool}{o:Nat}{x:ah}(h:GX aj s len parts gQ=some (o,x)):len=1/\parts=[(0,x)]/\gQ=true/\ag aj s x=some (.row o):=by
 unfold GX at h;split at h
 ·split at h
  ·rename_i he;cases h;exact⟨rfl,rfl,rfl,he⟩
  ·cases h
 ·cases h
theorem zg{o:Nat}:∀{m:List (Nat × bC U)} {k:Nat},k≠o->aX (lF o m) k=aX m k
 |[],_,_=>rfl
 |(a,c)::r,k,hk=>by
  simp only[lF];split
  ·rename_i e
   have e:=dm e;rw[eG,if_neg (by rw[e];exact fun q=>hk q.symm)]
  ·rw[eG,eG,zg hk]
theorem Hs{i:Nat}{e:eU U}:∀{T:List (eU U)},nR T i=some e->e∈T/\e.id=i
 |[],h=>by cases h
 |e'::T,h=>by
  simp only[nR]at h;split at h
  ·rename_i hb;cases h;exact⟨k7 ..,dm hb⟩
  ·exact⟨ie _ (Hs h).1,(Hs h).2⟩
theorem aee{B:List Bool}:∀{bc:List Nat} {c:c4 U bc},k1 B bc []=some c->bc=[]
 |[],_,_=>rfl
 | _::_,_,h=>by simp[k1]at h
theorem aef (aK:eJ U):∀{bc:List Nat} {x:c4 U bc} {t:Nat} {y:al (U.ar t)},GY U bc x=some ⟨t,y⟩->b4 (U.es t) (U.enc t) y=jW bc x
 |[s],x,t,y,h=>by
  simp only[GY]at h;split at h
  ·rename_i dr kO e
   cases h;have key:∀w,bp U ([]++U.oM s x) [] [] (.sl t y) w->b4 (U.es t) (U.enc t) y=w:=fun w q=>by cases q;rfl
   refine key _ ?_;have:=aK.e7 s x [] [] [];rw[n3,e]at this;exact this
  ·cases h
 |[],_,_,_,h=>by cases h
 | _::_::_,_,_,_,h=>by cases h
theorem aeg{H H1:Heap}{wr:List Bool}{aM σ:bt}{rest:List bl}{d:Option (Nat × Bool)}{g:Option (ah × Bool)}{gr:ah}{aC:List ah}{fv v:V}{ws:List V}{Q:bt->Heap->List Bool->Prop}(hw:eF aM σ g=some true)(af:ba aM σ gr=fv)(ha:aC.map (ba aM σ)=ws)
  (hc:cp ab fv ws H=some (v,H1,H.length)) (hl:H.length<=H1.length) (bE:b<=H.length->∀mv,Op ab b rest (fq aM d v) (fr σ d v) H1 (mv::wr) Q):Op ab b (⟨d,.call true gr aC,g⟩::rest) aM σ H wr Q:=fun aH ax low h1 h2 aq bf=>
 gM (o:=⟨d,.call true gr aC,g⟩) hw (fun hb=>⟨cA hb hl,H.length,hb,by rw[qG];simp only[af,ha,hc,Nat.min_self],rfl⟩) (bE bf _) aH ax low h1 h2 aq bf
theorem vP (aK:eJ U)(aw:jB S)(hT:mR ab cx)(af:∀j f,nth cx.fv j=some f->∃w,fs[j]? =some w/\kC ab F f.c6 f.rt f.f w)
  (R:bB U b F fs s σ H G ρ) (bk:∀t v,aX aj t=some v->bp U s.aB ρ fs v (aM t)) {d:Option (Nat × Bool)} {op:b8} {g:Option (ah × Bool)} {rest:List bl} {wr:List Bool} {k:aD U.ar->a1 U->Bool->A} {Q:bt->Heap->List Bool->Prop}
  (h:S (oper cx aj s d k op)) (hw:eF aM σ g=some true)
  (bE:∀v ao w H' G' b2 mv Ht,S (k v ao Ht)->(mv=true->Ht=true)->bB U b F fs ao σ H' G' b2->bp U ao.aB b2 fs v w->ρ <+: b2->Fr s ao->Op ab b rest (fq aM d w) (fr σ d w) H' (mv::wr) Q):
  Op ab b (⟨d,op,g⟩::rest) aM σ H wr Q:=by
 unfold oper at h;split at h
 ·rename_i z
  refine acA hw R.own fun H' a ha hO=> ?_;exact bE _ _ _ _ _ _ _ _ h (fun _=>rfl) (R.add hO ⟨a,_,R.new _,rfl,za z,fun _=>ha⟩) (.ptr (R.new _)) (fl _ _) (sk R)
 ·rename_i x
  split at h
  ·exact absurd h aw.bad
  ·rename_i v ad
   split at h
   ·exact absurd h aw.bad
   ·rename_i cs hc
    split at h
    ·rename_i ho
     have en:=uD hc (cf R bk ad);refine acB hw R.own rfl (Hb ho en) fun H' a ha hO=> ?_;exact bE _ _ _ _ _ _ _ _ h (fun _=>rfl) (R.add hO ⟨a,_,R.new _,rfl,en.mono db (fl _ _),fun _=>ha⟩) (.ptr (R.new _)) (fl _ _) (sk R)
    ·exact absurd h aw.bad
 ·rename_i n x y
  split at h
  ·rename_i o f v hx hy
   split at h
   ·rename_i cs vs hm hc
    split at h
    ·rename_i ae ai bz
     have tW:=cf R bk hx;generalize uN:ba aM σ x=qZ at tW;cases tW with
     |ptr ho=>
      obtain⟨a,ws,q1,q2,dk,fC,mG⟩:=R.cells hm;rw[q1]at ho;cases ho;have cO:=adM R hc (cf R bk hy);obtain⟨i,hi,aY,Ch,hid⟩:=R.at hm
      refine acD hw R.own i (by rw[hi,q2]) (mG rfl) uN rfl ⟨by rw[<-cO.length];exact dm ae,by
       have:=dm ae;rw[<-fC.length];exact mj ai⟩ (R0 R bz cO) rfl fun H' hO=> ?_
      exact bE _ _ _ _ _ _ _ _ h (fun _=>rfl) (R.b0 hm aY hid ⟨_,_,q1,rfl,Cc cO f fC,mG⟩ hO) .k db (ad6 hm)
    ·exact absurd h aw.bad
   ·exact absurd h aw.bad
  ·rename_i o i f v hx hy
   split at h
   ·rename_i t gX vs hm hc
    split at h
    ·rename_i ae ai
     obtain⟨e,he,h⟩:=aw.bL h;obtain⟨ajd,ao,h1,h2,aq⟩:=uE (ρ:=ρ) (fs:=fs) aK h;split at h1
     ·exact absurd h1 aw.bad
     ·rename_i u hu
      split at h1
      ·exact absurd h1 aw.bad
      ·rename_i e' ov
       have kR:=R.eg h2;have gI:aX ao.mem o=some (.row t gX):=by rw[h2.mem];exact hm
       have tW:=cf R bk hx;generalize uN:ba aM σ x=qZ at tW;cases tW with
       |gC ho=>
        obtain⟨v0,q1,q2⟩:=kR.mem o _ gI;rw[q1]at ho;cases ho;have:=q2.R8;subst this;have cO:=(uD hc (cf R bk hy)).mono h2.aB db;obtain⟨k,hi,aY,Ch,hid⟩:=kR.at gI;obtain⟨w',p1,cN⟩:=aea hu aq cO;have gB:=aK.gu _ _ _ _ _ _ _ cN ov;subst gB;refine acU hw k he kR.own hi q2 rfl uN rfl (by rw[<-cO.length];exact dm ae) (Sq ai cO) p1 fun H' m' hr hO=> ?_;exact bE _ _ _ _ _ _ _ _ h1 (fun _=>rfl) (kR.b0 gI aY hid ⟨_,q1,hr⟩ hO) .k db (h2.bD.trans (Hr rfl gI))
    ·exact absurd h aw.bad
   ·exact absurd h aw.bad
  ·exact absurd h aw.bad
 ·rename_i es bytes cQ ez
  have Ss:∀{t:Nat} {q:al (U.ar t)} {x:aD U.ar},ag aj s cQ=some x->Go.Abs.elems H (U.es t) (ba aM σ ez)=some (q.l.map (U.enc t))->S (BZ s es bytes t x q k)->Op ab b (⟨d,.append es bytes cQ ez,g⟩::rest) aM σ H wr Q:=by
   intro t q x kA w3 h0;have fR:=cf R bk kA;generalize dY:ba aM σ cQ=wa at fR
   have key:∀{gX:al (U.ar t)},dS b (U.es t) (U.enc t) wa gX []->S (nS s es bytes t gX none (.sl t q) k)->Op ab b (⟨d,.append es bytes cQ ez,g⟩::rest) aM σ H wr Q:=by
    intro gX Hu jr;unfold nS at jr;split at jr
    ·rename_i Hv ae ai
     have yh:kZ t (.sl t q:aD U.ar)=some q:=by simp[kZ]
     rw[yh]at ai;cases ai;obtain⟨z,aP,jr⟩:=aw.bL jr;have ae:=dm ae;subst ae;refine Rq (ms:=[]::cK s G F) hw 0 aP (R.own.ins 0) rfl Hu dY w3 (aK.bS t) (aK.ok t) fun H' v' m' mv hr hO=> ?_;exact bE _ _ _ _ _ _ _ _ jr (fun _=>rfl) (R.add hO ⟨v',R.new v',hr⟩) (.row (R.new v')) (fl _ _) (sk R)
    ·exact absurd jr aw.bad
   unfold BZ at h0;split at h0
   ·rename_i cC
    split at h0
    ·rename_i dr gX gI
     unfold nS at h0;split at h0
     ·rename_i Hv ae ai
      have ht:t=dr:=by
       by_cases ht:t=dr
       ·exact ht
       ·simp[kZ,ht]at ai
      subst ht;have yh:kZ t (.sl t q:aD U.ar)=some q:=by simp[kZ]
      rw[yh]at ai;cases ai;obtain⟨z,aP,h1⟩:=aw.bL h0;clear h0;cases fR with
      |row gU=>
       obtain⟨v0,q1,q2⟩:=R.mem cC _ gI;rw[q1]at gU;cases gU;have ae:=dm ae;subst ae;obtain⟨k0,vE,ll⟩:=R.rep gI;refine Rq hw k0 aP R.own vE q2 dY w3 (aK.bS t) (aK.ok t) fun H' v' m' mv hr hO=> ?_;exact bE _ _ _ _ _ _ _ _ h1 (fun _=>rfl) (ll ⟨v',R.new v',hr⟩ hO) (.row (R.new v')) (fl _ _) (Sp R gI)
     ·exact absurd h0 aw.bad
    ·exact absurd h0 aw.bad
   ·split at h0
    ·rename_i e
     exact key (by rw[si e fR];exact .nil) h0
    ·rename_i e
     exact key (by rw[si e fR];exact .emp) h0
    ·exact absurd h0 aw.bad
  split at h
  ·rename_i x o cS hi kA mT
   split at h
   ·rename_i t y hm
    obtain⟨q,a8,h0⟩:=aw.bL h;clear h;have nt:=cf R bk mT;generalize zh:ba aM σ ez=wb at nt;cases nt with
    |iG ho Hw=>
     obtain⟨v1,bq,cc⟩:=R.mem o _ hm;obtain⟨bM,gJ,-⟩:=R.at hm;rw[bq]at ho;cases ho;exact Ss kA (by rw[zh];exact R7 bM gJ R.own cc a8 Hw) h0
   ·exact absurd h aw.bad
  ·rename_i x o kA mT
   split at h
   ·rename_i t y hm
    have nt:=cf R bk mT;generalize zh:ba aM σ ez=wb at nt;cases nt with
    |row ho=>
     obtain⟨v1,bq,cc⟩:=R.mem o _ hm;obtain⟨bM,gJ,-⟩:=R.at hm;rw[bq]at ho;cases ho;exact Ss kA (by rw[zh];exact adR bM gJ R.own cc) h
   ·exact absurd h aw.bad
  ·rename_i o y _ _ kA mT
   split at h
   ·rename_i t x hm
    unfold nS at h;split at h
    ·rename_i Hv ae ai
     obtain⟨z,aP,h⟩:=aw.bL h;have fR:=cf R bk kA;generalize dY:ba aM σ cQ=wa at fR;cases fR with
     |row ho=>
      obtain⟨v0,q1,q2⟩:=R.mem o _ hm;rw[q1]at ho;cases ho;have ae:=dm ae;subst ae;obtain⟨k,hi,ll⟩:=R.rep hm;refine Q9 hw k aP R.own hi q2 dY (w2 ai (cf R bk mT)) (aK.bS t) (aK.ok t) fun H' v' m' mv hr hO=> ?_;exact bE _ _ _ _ _ _ _ _ h (fun _=>rfl) (ll ⟨v',R.new v',hr⟩ hO) (.row (R.new v')) (fl _ _) (Sp R hm)
    ·exact absurd h aw.bad
   ·exact absurd h aw.bad
  ·rename_i x t y _ kA mT
   have key:∀{gX:al (U.ar t)} {eR:V},ba aM σ cQ=eR->dS b (U.es t) (U.enc t) eR gX []->S (nS s es bytes t gX none (.sl t y) k)->Op ab b (⟨d,.append es bytes cQ ez,g⟩::rest) aM σ H wr Q:=by
    intro gX eR dY Hu jr;unfold nS at jr;split at jr
    ·rename_i Hv ae ai
     obtain⟨z,aP,jr⟩:=aw.bL jr;have ae:=dm ae;subst ae;refine Q9 (ms:=[]::cK s G F) hw 0 aP (R.own.ins 0) rfl Hu dY (w2 ai (cf R bk mT)) (aK.bS t) (aK.ok t) fun H' v' m' mv hr hO=> ?_;exact bE _ _ _ _ _ _ _ _ jr (fun _=>rfl) (R.add hO ⟨v',R.new v',hr⟩) (.row (R.new v')) (fl _ _) (sk R)
    ·exact absurd jr aw.bad
   have hn:=cf R bk kA;split at h
   ·rename_i e
    exact key (si e hn) .nil h
   ·rename_i e
    exact key (si e hn) .emp h
   ·exact absurd h aw.bad
  ·exact absurd h aw.bad
 ·rename_i es z bytes aeh kl
  split at h
  ·rename_i q ep
   split at h
   ·rename_i t bI n ht hs hl
    split at h
    ·rename_i e ae ai
     obtain⟨x,hx,h⟩:=aw.bL h;have ae:=dm ae;subst ae;have jH:=cf R bk hl;generalize GM:ba aM σ aeh=wl at jH;cases jH;obtain⟨Rg,hc⟩:=aec hs GM;refine acS hw hx R.own (aK.gu _ _ _ _ _ _ _ (aeb (ρ:=ρ) (fs:=fs) z) ai) GM hc fun H' v' m' mv hr hO=> ?_;exact bE _ _ _ _ _ _ _ _ h (fun _=>rfl) (R.add hO ⟨v',R.new v',hr⟩) (.row (R.new v')) (fl _ _) (sk R)
    ·exact absurd h aw.bad
   ·exact absurd h aw.bad
  ·exact absurd h aw.bad
 ·split at h
  ·rename_i q ep
   split at h
   ·rename_i c hc
    split at h
    ·rename_i p hp
     refine acC hw R.own fun H' a ha hO=> ?_;exact bE _ _ _ _ _ _ _ _ h (fun _=>rfl) (R.add hO ⟨a,R.new _,rfl,ha⟩) (.row (R.new _)) (fl _ _) (sk R)
    ·exact absurd h aw.bad
   ·exact absurd h aw.bad
  ·exact absurd h aw.bad
 ·rename_i kind x i y
  split at h
  ·rename_i o v u hx hi hy
   split at h
   ·rename_i ek hh m hm
    split at h
    ·rename_i key val ae ai bz
     have cR:=cf R bk hx;generalize dY:ba aM σ x=wa at cR;cases cR with
     |row ho=>
      obtain⟨a,q1,q2,dk⟩:=R.mem o _ hm;obtain⟨bJ,hk,aY,Ch,hid⟩:=R.at hm;rw[q1]at ho;cases ho;refine @acQ ab b aM σ H wr rest _ _ ⟨U.beq ek⟩ _ _ _ _ m key val _ _ _ _ _ _ _ hw (Hg aK bz) R.own bJ (by rw[hk,q2]) dk dY (aK.gu _ _ _ _ _ _ _ (cf R bk hi) ae) (aK.gu _ _ _ _ _ _ _ (cf R bk hy) ai) (aK.bS _ _) fun H' hO=> ?_;exact bE _ _ _ _ _ _ _ _ h (fun _=>rfl) (R.b0 hm aY hid ⟨a,q1,rfl,dk⟩ hO) .k db (Hr rfl hm)
    ·exact absurd h aw.bad
   ·exact absurd h aw.bad
  ·exact absurd h aw.bad
 ·rename_i f aC
  split at h
  ·rename_i fv St uO pO
   split at h
   ·split at h
    ·obtain⟨v,ao,w,dD,m',G',h1,h2,aq,bf,fe,fj⟩:=ad4 aK aw R hT af h (cf R bk uO) (pL R bk pO)
     have bH:=R.eg h2
     have eZ:∀{H' a7},oQ b s.aB ρ fs a7 m'->Own H' (m'.map (fun e=>a7 e.1)++F)->bB U b F fs {ao with mem:=m',bU:=gone m' s.mem++ao.bU} σ H' a7 ρ:=fun ia hO=>
      ⟨bH.aA,bH.vs,hO,ia.1,fun p hp=>by
       rw[h2.aA];have:p.1∈m'.map Prod.fst:=mm hp;rw[fj.fst]at this;obtain⟨e',q1,q2⟩:=dn.1 this;rw[<-q2];exact R.lt e' q1,fun k c hk=>(ia.2 k c hk).mono h2.aB db,bH.dh⟩
     have dL:Fr s {ao with mem:=m',bU:=gone m' s.mem++ao.bU}:=⟨fun t ht=>by rw[h2.vs],fun t ht=>by rw[h2.c3];exact ht,fun p hp=>lO _ (by rw[h2.bU];exact hp),h2.aB,by rw[h2.aA];exact aI _,fun o w cs hm=>by
      rcases fj.mem o _ hm with⟨av,a2⟩|⟨t,x,av,a2,a3,a4⟩
      ·exact⟨cs,av,rfl,fun _ _=>rfl⟩
      ·exact(nomatch av),fun o c hc hm=>by
      rcases fj.mem o _ hm with⟨av,a2⟩|⟨t,x,av,a2,a3,a4⟩
      ·exact .inl av
      ·rcases av with rfl|rfl
       ·exact .inr (sG _ (Cm (gD hm) a2))
       ·exact .inl a2⟩
     cases Su:flat w with
     |true=>exact Rh hw R.own bf fe Su rfl rfl (bE _ _ _ _ _ _ _ _ h1 (fun _=>rfl) (eZ (fj.same R.uM) (by rw[fj.cK];exact R.own)) aq db dL)
     |false=>exact acV hw R.own bf (fun H low r hr=>by obtain⟨x,y,z⟩:=r;exact(ES (ET 16) hr).2) fe Su rfl rfl fun H' mv hO=>bE _ _ _ _ _ _ _ _ h1 (fun _=>rfl) (eZ (fj.ok R.uM) hO) aq db dL
    obtain⟨v,ao,w,dD,fb,h1,h2,aq,bf,fe,fj⟩:=ad3 aK aw R hT af h (cf R bk uO) (pL R bk pO);exact Rh hw R.own bf fe fj rfl rfl (bE _ _ _ _ _ _ _ _ h1 (fun q=>by cases q) (R.eg h2) aq db h2.bD)
   obtain⟨v,ao,w,h1,h2,aq,bf⟩:=Sc aK aw R hT af h (cf R bk uO) (pL R bk pO);exact BC hw (Q8 (bf H R.own).1 (bf H R.own).2 rfl rfl) (bE _ _ _ _ _ _ _ _ h1 (fun q=>by cases q) (R.eg h2) aq db h2.bD)
  ·exact absurd h aw.bad
 ·rename_i gr aC
  split at h
  ·rename_i i St tw pO
   split at h
   ·rename_i p hp
    have ew:=hT.2.1 _ (gD hp);have ha:=pL R bk pO;have fx:=cf R bk tw;generalize sn:ba aM σ gr=wf at fx;cases fx with
    |fn hl=>
    cases hl;unfold RI at h;split at h
    ·rename_i rN
     unfold sj at ew;rw[rN]at ew;split at h
     ·rename_i o
      split at h
      ·rename_i t x hm
       split at h
       ·rename_i ht
        obtain⟨z,aP,h⟩:=aw.bL h;have ht:=dm ht;subst ht
        obtain⟨cQ,rfl⟩:∃cQ,aC=[cQ]:=by
         have:=ha.length
         match aC,this with
         |[cQ],_=>exact⟨cQ,rfl⟩
        have ha:bT U s.aB ρ fs _ [ba aM σ cQ]:=ha;generalize dY:ba aM σ cQ=wa at ha;cases ha with
        |cons ad _=>
         cases ad with
         |row ho=>
          obtain⟨v0,q1,q2⟩:=R.mem o _ hm;obtain⟨bJ,hk,aY,Ch,hid⟩:=R.at hm;rw[q1]at ho;cases ho;refine ac7 hw ew bJ aP R.own hk q2 sn dY (aK.ok _) fun H' m' mv hr hO=> ?_;exact bE _ _ _ _ _ _ _ _ h (fun _=>rfl) (R.b0 hm aY hid ⟨_,q1,hr⟩ hO) .k db (Hr rfl hm)
       ·exact absurd h aw.bad
      ·exact absurd h aw.bad
     ·obtain⟨cQ,rfl⟩:∃cQ,aC=[cQ]:=by
       have:=ha.length
       match aC,this with
       |[cQ],_=>exact⟨cQ,rfl⟩
      have ha:bT U s.aB ρ fs _ [ba aM σ cQ]:=ha;generalize dY:ba aM σ cQ=wa at ha;cases ha with
      |cons ad _=>
       cases ad;exact ac8 hw ew sn dY fun mv=>bE _ s _ H G ρ mv true h (fun _=>rfl) R .k db .rfl
     ·exact absurd h aw.bad
    ·rename_i rN
     unfold sj at ew;rw[rN]at ew;split at h
     ·rename_i o RJ a mM c
      split at h
      ·rename_i t x hm
       split at h
       ·rename_i ht ae ai
        obtain⟨z,aP,h⟩:=aw.bL h;have ht:=dm ht;subst ht;have ae:=of_decide_eq_true ae;have ai:=of_decide_eq_true ai;subst ae ai
        obtain⟨pe,cQ,kl,rfl⟩:∃pe cQ kl,aC=[pe,cQ,kl]:=by
         have:=ha.length
         match aC,this with
         |[pe,cQ,kl],_=>exact⟨pe,cQ,kl,rfl⟩
        have ha:bT U s.aB ρ fs _ [ba aM σ pe,ba aM σ cQ,ba aM σ kl]:=ha;generalize ju:ba aM σ pe=ep at ha;generalize dY:ba aM σ cQ=wa at ha;generalize ke:ba aM σ kl=uG at ha;cases ha with
        |cons ad ha=>
         cases ha with
         |cons fR ha=>
          cases ha with
          |cons Cf _=>
           cases fR;cases Cf;cases ad with
           |row ho=>
            obtain⟨v0,q1,q2⟩:=R.mem o _ hm;obtain⟨bJ,bM,dC⟩:=Hm (G:=G) hm;rw[q1]at ho;cases ho;have aY:=(fu.1 bM).1;have bb:∀{k:Nat} {c:bC U},aX (lF o s.mem) k=some c->aX s.mem k=some c:=fun hk=>Sd (uK o _) R.cI hk;refine ac9 hw ew bJ aP R.own (by unfold cK;rw[ft aY];exact bM) q2 sn ju dY ke (aK.bS _) (aK.ok _) fun H' m' mv hO=> ?_
            have lB:Own H' ((lF o s.mem).map (fun e=>G e.1)++F):=hO.sub (by
             unfold cK;rw[zP _ _ aY];exact(dC _).append (C8 _))
            refine bE _ {s with mem:=lF o s.mem,bU:=(o,0)::s.bU} _ H' G ρ mv true h (fun _=>rfl) ⟨R.aA,R.vs,lB,R.cI.sublist ((uK o _).map _),fun p hp=>R.lt p ((uK o _).subset hp),fun k c hk=>R.mem k c (bb hk),R.dh⟩ .sl db
             ⟨fun _ _=>rfl,fun _ h=>h,fun _ h=>ie _ h,db,aI _,fun k w cs hk=>⟨cs,(zg fun e=>by subst e;rw[hm]at hk;cases hk).trans hk,rfl,fun _ _=>rfl⟩,fun k c hc hk=> ?_⟩
            by_cases e:k=o
            ·subst e;exact .inr (k7 ..)
            ·exact .inl ((zg e).trans hk)
       ·exact absurd h aw.bad
      ·exact absurd h aw.bad
     ·exact absurd h aw.bad
    ·rename_i j8 yF
     split at h
     ·rename_i v
      split at h
      ·rename_i x hx
       obtain⟨z,aP,h⟩:=aw.bL h
       obtain⟨n,aei,cy,hn⟩:=ew.clone (by
        obtain⟨t,n⟩:=p
        match n,j8,yF with
        |n+2,_,_=>rfl
        |0,h,_=>exact absurd rfl h
        |1,_,h=>exact absurd rfl h)
       obtain⟨cQ,rfl⟩:∃cQ,aC=[cQ]:=by
        have:=ha.length
        match aC,this with
        |[cQ],_=>exact⟨cQ,rfl⟩
       cases ha with
       |cons ad _=>
        refine ac5 (ms:=cK s G F) hw cy hn aP R.own sn (w2 hx ad) (aK.bS p.1) (aK.ok p.1) fun H' v' m' mv hr hO=> ?_;exact bE _ _ _ _ _ _ _ _ h (fun _=>rfl) (R.add hO ⟨v',R.new v',hr⟩) (.row (R.new v')) (fl _ _) (sk R)
      ·exact absurd h aw.bad
     ·exact absurd h aw.bad
   ·split at h
    ·rename_i e he
     obtain⟨aej,hid⟩:=Hs he;have ha:=pL R bk pO;have fx:=cf R bk tw;generalize sn:ba aM σ gr=wf at fx;cases fx with
     |fn hl=>
     cases hl;unfold RH at h;split at h
     ·exact absurd h aw.bad
     ·rename_i c hc
      split at h
      ·rename_i a mS tT
       obtain⟨r,nW,h⟩:=aw.bL h;split at h
       ·rename_i t y hr
        have q0:=wZ aK R hT af tT ha;obtain⟨v,m',q1,q2,dk⟩:=hT.2.2 e aej H (cK s G F) c a _ r (aee hc) q0 R.own nW t y (aef aK hr);rw[hid]at q1;refine aeg hw sn rfl q1 (by simp) fun hb mv=> ?_;exact bE _ _ _ _ _ _ _ _ h (fun _=>rfl) (R.add (dk _ R.own) ⟨v,R.new v,dz.low hb q2⟩) (.row (R.new v)) (fl _ _) (sk R)
       ·exact absurd h aw.bad
      ·exact absurd h aw.bad
    ·exact absurd h aw.bad
  ·exact absurd h aw.bad
 ·rename_i es z len parts gQ
  split at h
  ·rename_i o aje hl
   obtain⟨rfl,rfl,rfl,aek⟩:=aed hl;split at h
   ·rename_i q _
    split at h
    ·rename_i t dr x ht hm
     split at h
     ·rename_i e he dT
      have ad:=cf R bk aek;obtain⟨w',dI,z2⟩:=ad1 (n:=15) (F:=F) aK R.uM hm ad;have gB:=aK.gu _ _ _ _ _ _ _ z2 he;have dT:=dm dT;have bb:∀{k:Nat} {c:bC U},aX (lF o s.mem) k=some c->aX s.mem k=some c:=fun hk=>Sd (uK o _) R.cI hk;subst gB;refine ac6 hw R.own dI rfl (aK.bS t e) ⟨by rw[aK.es,dT],aK.ok t e⟩ fun H' mv hO=> ?_
      refine bE _ {s with mem:=lF o s.mem,bU:=(o,0)::s.bU} _ H' G ρ mv true h (fun _=>rfl) ⟨R.aA,R.vs,hO,R.cI.sublist ((uK o _).map _),fun p hp=>R.lt p ((uK o _).subset hp),fun k c hk=>R.mem k c (bb hk),R.dh⟩ ?_ db
       ⟨fun _ _=>rfl,fun _ h=>h,fun _ h=>ie _ h,db,aI _,fun k w cs hk=>⟨cs,(zg fun e=>by subst e;rw[hm]at hk;cases hk).trans hk,rfl,fun _ _=>rfl⟩,fun k c hc hk=> ?_⟩
      ·have:bp U s.aB ρ fs (.sl t (.mk [e])) (b4 (U.es t) (U.enc t) (.mk [e])):=.sl
       rw[dT]at this;exact this
      ·by_cases e:k=o
       ·subst e;exact .inr (k7 ..)
       ·exact .inl ((zg e).trans hk)
     ·exact absurd h aw.bad
    ·exact absurd h aw.bad
   ·exact absurd h aw.bad
  ·obtain⟨v,ao,w,h1,h2,aq,bf⟩:=Hh (call:=cp ab) aK aw R bk h
   exact BC hw (bf H R.own) (bE _ _ _ _ _ _ _ _ h1 (fun q=>by cases q) (R.eg h2) aq db h2.bD)
 ·obtain⟨v,ao,w,h1,h2,aq,bf⟩:=Hh (call:=cp ab) aK aw R bk h
  exact BC hw (bf H R.own) (bE _ _ _ _ _ _ _ _ h1 (fun q=>by cases q) (R.eg h2) aq db h2.bD)
theorem Hx{t:Nat}{v:aD U.ar}{w:V}{B:List Bool}(bk:∀t v,aX aj t=some v->bp U B ρ fs v (aM t))(ad:bp U B ρ fs v w):∀k u,aX ((t,v)::aj) k=some u->bp U B ρ fs u (up aM t w k):=fun k u h=>by
 rw[eG]at h;split at h
 ·rename_i e;cases h;subst e;rw[wH];exact ad
 ·rename_i e;rw[wI _ _ (fun q=>e q.symm)];exact bk k u h
theorem uP (aK:eJ U)(aw:jB S)(hT:mR ab cx)(af:∀j f,nth cx.fv j=some f->∃w,fs[j]? =some w/\kC ab F f.c6 f.rt f.f w){k:a1 U->List Bool->A}{Q:bt->Heap->List Bool->Prop}:
  ∀{ops:List bl} {aj:h6 U} {aM:bt} {s:a1 U} {σ:bt} {H:Heap} {G:Nat->List (Nat × bd)} {ρ:List V} {wr jT:List Bool},S (so cx ops aj s jT k)->fk wr jT->bB U b F fs s σ H G ρ->(∀t v,aX aj t=some v->bp U s.aB ρ fs v (aM t))->
  (∀ao bn H' G' b2 ep uQ,S (k ao uQ)->fk ep uQ->bB U b F fs ao bn H' G' b2->ρ <+: b2->Fr s ao->Q bn H' ep)->Op ab b ops aM σ H wr Q
 |[],aj,aM,s,σ,H,G,ρ,wr,jT,h,hl,R,bk,bE=>aco (bE _ _ _ _ _ _ _ h hl.rev R db .rfl)
 |⟨d,op,g⟩::r,aj,aM,s,σ,H,G,ρ,wr,jT,h,hl,R,bk,bE=>by
  have fin:∀{s1:a1 U} {H1:Heap} {az:Nat->List (Nat × bd)} {eK:List V} {v:aD U.ar} {w:V} {m Hy:Bool},(m=true->Hy=true)->bB U b F fs s1 σ H1 az eK->bp U s1.aB eK fs v w->ρ <+: eK->Fr s s1->
    S (match put aj s1 v d with|(aj,s)=>so cx r aj s (Hy::jT) k)->Op ab b r (fq aM d w) (fr σ d w) H1 (m::wr) Q:=by
   intro s1 H1 az eK v w m Hy hm bH ad aE dL h1;have lM:∀t v,aX aj t=some v->bp U s1.aB eK fs v (aM t):=fun t v q=>(bk t v q).mono dL.aB aE
   match d with
   |none=>exact uP aK aw hT af h1 (.cons hm hl) bH lM fun ao bn H' G' b2 ep uQ av a0 a2 a3 a4=>bE _ _ _ _ _ _ _ av a0 a2 (aE.trans a3) (dL.trans a4)
   |some (t,false)=>exact uP aK aw hT af h1 (.cons hm hl) bH (Hx lM ad) fun ao bn H' G' b2 ep uQ av a0 a2 a3 a4=>bE _ _ _ _ _ _ _ av a0 a2 (aE.trans a3) (dL.trans a4)
   |some (t,true)=>exact uP aK aw hT af h1 (.cons hm hl) (bH.put ad) lM fun ao bn H' G' b2 ep uQ av a0 a2 a3 a4=>bE _ _ _ _ _ _ _ av a0 a2 (aE.trans a3) (dL.trans (Hp.trans a4))
  have go:∀{s1:a1 U},gN s s1->eF aM σ g=some true->S (oper cx aj s1 d (fun v s m=>match put aj s v d with|(aj,s)=>so cx r aj s (m::jT) k) op)->Op ab b (⟨d,op,g⟩::r) aM σ H wr Q:=by
   intro s1 hk hw h1;exact vP aK aw hT af (R.eg hk) (fun t v q=>(bk t v q).mono hk.aB db) h1 hw fun v ao w H' G' b2 mv Ht av a0 a2 a3 a4 a5=>fin a0 a2 a3 a4 (hk.bD.trans a5) av
  have skip:∀{s1:a1 U},gN s s1->eF aM σ g=some false->S (match put aj s1 (.aR []) d with|(aj,s)=>so cx r aj s (false::jT) k)->Op ab b (⟨d,op,g⟩::r) aM σ H wr Q:=by
   intro s1 hk hw h1;exact Gn (o:=⟨d,op,g⟩) hw (fin (fun q=>q) (R.eg hk) (.aR .nil) db hk.bD h1)
  simp only[so]at h
  match g with
  |none=>exact go .rfl rfl h
  |some (x,w)=>
   simp only at h;split at h
   ·exact absurd h aw.bad
   ·rename_i v ad
    have kv:=cf R bk ad;split at h
    ·generalize uN:ba aM σ x=qZ at kv
     cases kv with
     |aR h3=>cases h3;exact skip .rfl (Q0 uN) h
    ·cases w with
     |true=>
      obtain⟨β,s1,ae,ai,bz,cn⟩:=wV aw h R.dh kv;rcases cn with⟨rfl,h⟩|⟨rfl,h⟩
      ·exact go ai (Bz ae rfl) h
      ·exact skip ai (BA ae rfl) h
     |false=>
      obtain⟨β,s1,ae,ai,bz,cn⟩:=wV aw h R.dh kv;rcases cn with⟨rfl,h⟩|⟨rfl,h⟩
      ·exact skip ai (BB ae rfl) h
      ·exact go ai (Bz ae rfl) h
end
end Go.Abs.fM
