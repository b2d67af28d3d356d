/- Texts of this claim, joined and written short by a program. -/
import Derived.Test.YtdoflpjbdlgciaaGreatDoorP25
import Derived.Test.YtdoflpjbdlgciaaGreatDoorP20
import Derived.Test.YtdoflpjbdlgciaaGreatDoorP22
import Derived.Test.YtdoflpjbdlgciaaGreatDoorP00
set_option linter.unusedVariables false
set_option linter.unusedSimpArgs false
set_option linter.unusedSectionVars false
namespace Go.Abs.hG
open Go Go.Abs
section
variable{U:iE}{b:Nat}{F:cO}{fs:List V}{s s1 s2 cP:bB U}{σ cU:bY}{H H1:Heap}{G az:Nat->List (Nat × cD)}{ρ gf:List V}{ad:Nat->Option cb}{b0:nT U}{W:List Nat}
theorem ac5 (c:Bool)(x y:wJ):(GW c x y).val=bif c then x.val else y.val:=by
 unfold GW;split
 ·split<;>rfl
 all_goals first|rfl|(cases c<;>simp[wJ.val])
theorem ac6{c:Bool}{x y:wJ}{i:Nat}{n:Bool}{d:Bool}(h:GW c x y=.nm i n d):∃a e,x=.nm i n a/\y=.nm i n e:=by
 unfold GW at h;split at h
 ·split at h
  ·rename_i e;cases h;exact⟨_,_,rfl,by rw[e8 e]⟩
  ·rename_i e;cases h;exact⟨_,_,rfl,by rw[e8 e]⟩
  ·cases h
 all_goals cases h
def L7 (fs:List V)(l:Loc)(s1:bB U):acj U->Prop
 | .bad=>True
 | .v v=>∃v1,at_ s1 l=some v1/\∀(B:List Bool) (ρ:List V) (w:V),b5 U B ρ fs v1 w->b5 U B ρ fs v w
 | .b x=>∃v1,at_ s1 l=some v1/\xT s1 v1=some x.val/\∀i n d,x=.nm i n d->v1=.bo i n
theorem R6{l:Loc}:∀{p:pr (bB U)},p.val=some s1->L7 fs l s1 (mx l p)
 | .bad,h=>by cases h
 | .leaf s,h=>by
   cases h;unfold mx;split
   ·trivial
   ·rename_i v af
    split
    ·exact⟨_,af,rfl,fun _ _ _ e=>by cases e⟩
    ·split
     ·rename_i hb;exact⟨_,af,hb,fun _ _ _ e=>by cases e;rfl⟩
     ·trivial
    ·exact⟨_,af,fun _ _ _ q=>q⟩
 | .br i c t e,h=>by
   have ht:c=true->L7 fs l s1 (mx l t):=fun hc=>R6 (by subst hc;exact h);have he:c=false->L7 fs l s1 (mx l e):=fun hc=>R6 (by subst hc;exact h);unfold mx;split
   ·rename_i x y h1 h2
    rw[h1]at ht;rw[h2]at he;cases c with
    |true=>
     obtain⟨v1,al,a2,a3⟩:=ht rfl;refine⟨v1,al,by rw[a2,ac5];rfl,fun j n d q=> ?_⟩;obtain⟨_,_,q1,aT⟩:=ac6 q;exact a3 _ _ _ q1
    |false=>
     obtain⟨v1,al,a2,a3⟩:=he rfl;refine⟨v1,al,by rw[a2,ac5];rfl,fun j n d q=> ?_⟩;obtain⟨_,_,q1,aT⟩:=ac6 q;exact a3 _ _ _ aT
   ·rename_i k a bE bl h1 h2
    rw[h1]at ht;rw[h2]at he;split
    ·rename_i ah
     have ah:=of_decide_eq_true ah;subst ah;cases c
     ·exact he rfl
     ·exact ht rfl
    ·trivial
   ·rename_i a bl h1 h2
    rw[h1]at ht;rw[h2]at he;cases c
    ·exact he rfl
    ·exact ht rfl
   ·rename_i v w _ _ h1 h2
    rw[h1]at ht;rw[h2]at he;split
    ·rename_i hs
     cases c with
     |false=>exact he rfl
     |true=>
      obtain⟨v1,al,a2⟩:=ht rfl;exact⟨v1,al,fun B ρ u q=>RU hs (a2 B ρ u q)⟩
    ·trivial
   ·trivial
theorem R7:∀{p:pr (bB U)},C7 W p=true->∃s1,p.val=some s1/\(∀t∈s1.dS,t∈W)/\s1.cN=[]
 | .bad,h=>by cases h
 | .leaf s,h=>by
   simp only[C7]at h;split at h
   ·rename_i ag e2;exact⟨s,rfl,RW ag,e2⟩
   ·cases h
 | .br i c t e,h=>by
   simp only[C7]at h;split at h
   ·rename_i h1
    cases c with
    |true=>obtain⟨s1,al,a2⟩:=R7 h1;exact⟨s1,al,a2⟩
    |false=>obtain⟨s1,al,a2⟩:=R7 h;exact⟨s1,al,a2⟩
   ·cases h
theorem ac7{A:Type}[aS A]{S:A->Prop}(aD:l7 S)(bL:b6 U b F fs s1 cU H1 az gf)(aR:ρ <+: gf){B:List Bool}(oJ:B <+: s1.aJ){p:pr (bB U)}(hp:p.val=some s1){k:bB U->A}:
  ∀{sl:List Nat} {cP:bB U},b6 U b F fs cP cU H1 az ρ->B <+: cP.aJ->S (uo B.length ρ.length p sl cP k)->∃kr,S (k kr)/\b6 U b F fs kr cU H1 az ρ/\ij sl [] cP kr/\kr.dS=cP.dS/\kr.cN=cP.cN
 |[],cP,R,_,h=>⟨cP,h,R,.rfl,rfl,rfl⟩
 |t::r,cP,R,dK,h=>by
  have hm:=R6 (fs:=fs) (l:=.s t) hp;simp only[uo]at h
  have go:∀{v:aO U.ay} {l:List Bool},b5 U (cP.aJ++l) ρ fs v (cU t)->S (uo B.length ρ.length p r {cP with vs:=(t,v)::cP.vs,aJ:=cP.aJ++l} k)->
    ∃kr,S (k kr)/\b6 U b F fs kr cU H1 az ρ/\ij (t::r) [] cP kr/\kr.dS=cP.dS/\kr.cN=cP.cN:=fun {v l} af h=>by
   have oh:=Df (R.ey (LQ l)) (l:=.s t) (w:=cU t) rfl af;obtain⟨kr,al,a2,a3,a4,a5⟩:=ac7 aD bL aR oJ hp oh (dK.trans (h6 _ _)) h;exact⟨kr,al,a2,(L6 (s:=cP) (l:=.s t) (v:=v) (h6 cP.aJ l) (fun q e=>by cases e;exact qo ..) (fun _ _ e=>by cases e)).trans (a3.wide (fun q bj=>lg _ bj) fun _ q=>q),a4,a5⟩
  have R8:∀{v:aO U.ay},b5 U cP.aJ ρ fs v (cU t)->S (uo B.length ρ.length p r {cP with vs:=(t,v)::cP.vs} k)->∃kr,S (k kr)/\b6 U b F fs kr cU H1 az ρ/\ij (t::r) [] cP kr/\kr.dS=cP.dS/\kr.cN=cP.cN:=fun {v} af h=>
   go (v:=v) (l:=[]) (by rw[rk];exact af) (by rw[rk];exact h)
  have nm:∀{x:wJ},L7 fs (.s t) s1 (.b x)->b5 U (cP.aJ++[x.val]) ρ fs (.bo cP.aJ.length false) (cU t):=fun {x} ⟨v1,al,a2,a3⟩=>by
   obtain⟨w,aE,bG⟩:=AB bL al;cases aE;rw[C9 a2 bG];have:b5 U (cP.aJ++[x.val]) ρ fs (.bo cP.aJ.length false) (.bool (x.val != false)):=.bo (by simp);simpa using this
  split at h
  ·rename_i v af
   rw[af]at hm;split at h
   ·rename_i hw
    obtain⟨v1,al,a2⟩:=hm;obtain⟨w,aE,bG⟩:=AB bL al;cases aE;exact R8 ((LZ oJ aR hw (a2 _ _ _ bG)).mono dK ew) h
   ·exact absurd h aD.bad
  ·rename_i x hx
   rw[hx]at hm;split at h
   ·rename_i d
    obtain⟨v1,al,a2,a3⟩:=hm;obtain⟨w,aE,bG⟩:=AB bL al;cases aE;exact R8 (by rw[C9 a2 bG];exact .cy) h
   ·rename_i i neg d
    split at h
    ·rename_i hi
     obtain⟨v1,al,a2,a3⟩:=hm;obtain⟨w,aE,bG⟩:=AB bL al;cases aE;have:=a3 _ _ _ rfl;subst this;exact R8 ((LZ oJ aR (by simpa only[wf]using hi) bG).mono dK ew) h
    ·exact go (nm hm) h
   ·exact go (nm hm) h
  ·exact absurd h aD.bad
theorem ac8{A:Type}[aS A]{S:A->Prop}(a6:gD U)(aD:l7 S)(hT:q5 ad b0)(ae:∀j f,nth b0.fv j=some f->∃w,fs[j]? =some w/\nW ad F f.ec f.rt f.f w){ops:List bP}{eB:Option (List Nat)}{k:bB U->A}{Q:X->bY->Heap->Prop}
  (h:S (so b0 ops [] s [] fun s wr=>LJ eB ops wr (k s))) (R:b6 U b F fs s σ H G ρ)
  (cT:∀ar aV H' G' cM,S (k ar)->b6 U b F fs ar aV H' G' cM->ρ <+: cM->Fr s ar->Q .normal aV H'):fg ad b (.region ops eB) σ H Q:=by
 cases eB with
 |none=>exact tZ (Aw a6 aD hT ae h .nil R (fun t v q=>by cases q) fun ar aV H' G' cM fD Ax al a0 a2 a3 a4=>cT _ _ _ _ _ al a2 a3 a4)
 |some eB=>
  refine abq (Aw a6 aD hT ae h .nil R (fun t v q=>by cases q) fun ar aV H' G' cM fD Ax al a0 a2 a3 a4=> ?_);simp only[LJ]at al;split at al
  ·rename_i e;exact⟨aq8 a0 e,cT _ _ _ _ _ al a2 a3 a4⟩
  ·exact absurd al aD.bad
theorem ij.q7{ac9 R9:List Nat}{ada Sa:List (Nat × Nat)}{uq kr s2:bB U}(h:ij ac9 ada uq kr)(_:True)(b2:Fr kr s2)(lt:∀e∈uq.mem,e.1<uq.aC)(hW:∀t∈ac9,t∈R9)(l8:∀p∈ada,p∈Sa)(hd:∀t∈s2.dS,t∈R9)(hm:∀o j,(o,j)∈s2.cN->o<uq.aC->(o,j)∈Sa):ij R9 Sa uq s2 where
 vs:=fun t ht=>(b2.vs t fun q=>ht (hd t q)).trans (h.vs t fun q=>ht (hW t q))
 aJ:=h.aJ.trans b2.aJ
 aC:=dc h.aC b2.aC
 mem:=fun o w cs hc=>by
  obtain⟨px,h1,h2,av⟩:=h.mem o w cs hc;obtain⟨Hd,ct,dN,jT⟩:=b2.mem o w px h1;exact⟨Hd,ct,dN.trans h2,fun j hj=>(jT j fun q=>hj (hm o j q (lt _ (jF hc)))).trans (av j fun q=>hj (l8 _ q))⟩
 row:=fun o a1 h0 hc=>(h.row o a1 h0 hc).elim (fun h1=>(b2.row o a1 h0 h1).imp id fun q=>hm o 0 q (lt _ (jF hc))) fun q=>.inr (l8 _ q)
theorem b6.adb (R:b6 U b F fs s σ H G ρ){dS:List Nat}{cN:List (Nat × Nat)}:b6 U b F fs {s with dS:=dS,cN:=cN} σ H G ρ:=
 ⟨R.aC,R.vs,R.own,R.dx,R.lt,R.mem,R.ed⟩
theorem Hi{A:Type}[aS A]{S:A->Prop}(a6:gD U)(aD:l7 S)(hT:q5 ad b0)(ae:∀j f,nth b0.fv j=some f->∃w,fs[j]? =some w/\nW ad F f.ec f.rt f.f w){k:kK U->bB U->A}:
  ∀{ops:List bP} {aq:kK U} {bp:bY} {s:bB U} {σ:bY},S (wI b0 ops aq s k)->b6 U b F fs s σ H G ρ->(∀t v,bw aq t=some v->b5 U s.aJ ρ fs v (bp t))->
  ∃eE s1 ik cU,ic (cl ad) (dV s G F) ops bp σ ik cU/\S (k eE s1)/\b6 U b F fs s1 cU H G ρ/\(∀t v,bw eE t=some v->b5 U s1.aJ ρ fs v (ik t))/\Fr s s1/\s1.mem=s.mem/\s1.aC=s.aC
 |[],aq,bp,s,σ,h,R,b4=>⟨aq,s,bp,σ,.nil,h,R,b4,.rfl,rfl,rfl⟩
 |⟨d,op,g⟩::r,aq,bp,s,σ,h,R,b4=>by
  have fin:∀{s1:bB U} {v:aO U.ay} {w:V},jE s s1->b5 U s1.aJ ρ fs v w->S (match put aq s1 v d with|(aq,s)=>wI b0 r aq s k)->
    ∃eE s2 ik cU,ic (cl ad) (dV s G F) r (gl bp d w) (gm σ d w) ik cU/\S (k eE s2)/\b6 U b F fs s2 cU H G ρ/\(∀t v,bw eE t=some v->b5 U s2.aJ ρ fs v (ik t))/\Fr s s2/\s2.mem=s.mem/\s2.aC=s.aC:=by
   intro s1 v w ah af h1;have py:∀t v,bw aq t=some v->b5 U s1.aJ ρ fs v (bp t):=fun t v q=>(b4 t v q).mono ah.aJ ew;have bx:dV s G F=dV s1 G F:=by unfold dV;rw[ah.mem]
   rw[bx,<-ah.mem,<-ah.aC]
   match d with
   |none=>
    obtain⟨eE,s2,a,c,ag,e2,bI,cz,dF,hz⟩:=Hi a6 aD hT ae h1 (R.ey ah) py;exact⟨eE,s2,a,c,ag,e2,bI,cz,ah.b2.trans dF,hz⟩
   |some (t,false)=>
    obtain⟨eE,s2,a,c,ag,e2,bI,cz,dF,hz⟩:=Hi a6 aD hT ae h1 (R.ey ah) (RS py af);exact⟨eE,s2,a,c,ag,e2,bI,cz,ah.b2.trans dF,hz⟩
   |some (t,true)=>
    obtain⟨eE,s2,a,c,ag,e2,bI,cz,dF,hz⟩:=Hi a6 aD hT ae h1 ((R.ey ah).put af) py;exact⟨eE,s2,a,c,ag,e2,bI,cz,ah.b2.trans (RJ.trans dF),hz⟩
  have go:∀{s1:bB U},jE s s1->gQ bp σ g=some true->S (Rp b0 aq s1 d (fun v s=>match put aq s v d with|(aq,s)=>wI b0 r aq s k) op)->
    ∃eE s2 ik cU,ic (cl ad) (dV s G F) (⟨d,op,g⟩::r) bp σ ik cU/\S (k eE s2)/\b6 U b F fs s2 cU H G ρ/\(∀t v,bw eE t=some v->b5 U s2.aJ ρ fs v (ik t))/\Fr s s2/\s2.mem=s.mem/\s2.aC=s.aC:=by
   intro s1 ah hw h1;have bL:=R.ey ah;have py:∀t v,bw aq t=some v->b5 U s1.aJ ρ fs v (bp t):=fun t v q=>(b4 t v q).mono ah.aJ ew;have bx:dV s G F=dV s1 G F:=by unfold dV;rw[ah.mem]
   unfold Rp at h1;split at h1
   ·split at h1
    ·rename_i fv arj Av wO
     obtain⟨v,ar,w,h1,h2,av,bc⟩:=acC a6 aD bL hT ae h1 (db bL py Av) (wK bL py wO);obtain⟨eE,s2,a,c,ag,e2⟩:=fin (ah.trans h2) av h1;exact⟨eE,s2,a,c,.step hw (fun H' aB=>by rw[bx]at aB;exact Cr (bc H' aB).1 (bc H' aB).2 rfl rfl) ag,e2⟩
    ·exact absurd h1 aD.bad
   ·obtain⟨v,ar,w,h1,h2,av,bc⟩:=RB (call:=cl ad) a6 aD bL py h1
    obtain⟨eE,s2,a,c,ag,e2⟩:=fin (ah.trans h2) av h1;exact⟨eE,s2,a,c,.step hw (fun H' aB=>by rw[bx]at aB;exact bc H' aB) ag,e2⟩
  have skip:∀{s1:bB U},jE s s1->gQ bp σ g=some false->S (match put aq s1 (.bd []) d with|(aq,s)=>wI b0 r aq s k)->
    ∃eE s2 ik cU,ic (cl ad) (dV s G F) (⟨d,op,g⟩::r) bp σ ik cU/\S (k eE s2)/\b6 U b F fs s2 cU H G ρ/\(∀t v,bw eE t=some v->b5 U s2.aJ ρ fs v (ik t))/\Fr s s2/\s2.mem=s.mem/\s2.aC=s.aC:=by
   intro s1 ah hw h1;obtain⟨eE,s2,a,c,ag,e2⟩:=fin ah (.bd .nil) h1;exact⟨eE,s2,a,c,.skip hw ag,e2⟩
  simp only[wI]at h
  match g with
  |none=>exact go .rfl rfl h
  |some (x,w)=>
   simp only at h;split at h
   ·exact absurd h aD.bad
   ·rename_i v af
    have mF:=db R b4 af;split at h
    ·generalize As:bV bp σ x=wL at mF
     cases mF with
     |bd eS=>cases eS;exact skip .rfl (abr As) h
    ·cases w with
     |true=>
      obtain⟨β,s1,ag,e2,bI,cz⟩:=C8 aD h R.ed mF;rcases cz with⟨rfl,h⟩|⟨rfl,h⟩
      ·exact go e2 (jf ag rfl) h
      ·exact skip e2 (J6 ag rfl) h
     |false=>
      obtain⟨β,s1,ag,e2,bI,cz⟩:=C8 aD h R.ed mF;rcases cz with⟨rfl,h⟩|⟨rfl,h⟩
      ·exact skip e2 (J7 ag rfl) h
      ·exact go e2 (jf ag rfl) h
theorem arA{eB:List Nat}{ops:List bP}{wr mP:List Bool}(h:ha wr mP)(ho:xj eB ops mP=true):xj eB ops wr=true:=by
 unfold xj at ho⊢;simp only[ca]at ho⊢;obtain⟨⟨h1,h2⟩,av⟩:=ho;refine⟨⟨(h.take _).no h1,?_⟩,av⟩;rw[eV]at h2⊢;rintro⟨w,i⟩ hw;cases w with
 |false=>rfl
 |true=>
  have hi:=h.get (jm.1 hw);exact h2 (true,i) (jm.2 hi)
theorem ade{n:Nat}:∀{m:List (Nat × cv U)},LK n m=true->∀e∈m,n<=e.1
 |[],_,_,h=>by cases h
 |a::r,h,e,he=>by
  simp only[LK]at h;split at h
  ·rename_i q
   rcases dL.1 he with rfl|he
   ·exact ma q
   ·exact ade h e he
  ·cases h
theorem q4.low{b e3:Nat}(hb:b<=e3){B:List Bool}{o:Nat}{m:List (Nat × cD)}:∀{a1:cv U},q4 U e3 B ρ fs o m a1->q4 U b B ρ fs o m a1
 | .cells w cs,⟨a,ws,h1,h2,av,bc⟩=>⟨a,ws,h1,h2,av,fun q=>dc hb (bc q)⟩
 | .row t s,⟨v,h1,h2⟩=>⟨v,h1,by
   unfold iO at h2⊢;generalize s.map (U.enc t)=x at h2;cases h2 with
   |nil=>exact .nil
   |emp=>exact .emp
   |row l ds h q=>exact .row l ds h (dc hb q)⟩
 | .mp k w x,⟨a,h1,h2,av⟩=>⟨a,h1,h2,dc hb av⟩
theorem arB{A:Type}[aS A]{S:A->Prop}(a6:gD U)(aD:l7 S)(hT:q5 ad b0)(ae:∀j f,nth b0.fv j=some f->∃w,fs[j]? =some w/\nW ad F f.ec f.rt f.f w){ops:List bP}{eB:List Nat}{k:bB U->A}{Q:X->bY->Heap->Prop}
  (h:S (wI b0 (ops.take (kV ops)) [] s fun aq s=>so b0 (ops.drop (kV ops)) aq {s with mem:=[]} (List.replicate (kV ops) false) fun ar wr=>Rr eB ops wr s.aC ar.mem (k {ar with mem:=ar.mem++s.mem}))) (R:b6 U b F fs s σ H G ρ)
  (cT:∀ar aV H' G' cM,S (k ar)->b6 U b F fs ar aV H' G' cM->ρ <+: cM->Fr s ar->Q .normal aV H'):fg ad b (.region ops (some eB)) σ H Q:=by
 obtain⟨eE,s1,ik,cU,p1,p2,bL,mC,s8,Hj,L8⟩:=Hi a6 aD hT ae h R (fun t v q=>by cases q);refine abM (kV ops) R.own rfl p1 fun hb=> ?_
 have NL:∀j f,nth b0.fv j=some f->∃w,fs[j]? =some w/\nW ad (dV s1 G F) f.ec f.rt f.f w:=fun j f q=>by
  obtain⟨w,ag,e2,bI⟩:=ae j f q;exact⟨w,ag,e2,fun H z q aB aI=>bI H z q (aB.sub (DE _ _)) aI⟩
 have q8:b6 U H.length (dV s1 G F) fs {s1 with mem:=[]} cU H (fun _=>[]) ρ:=⟨bL.aC,bL.vs,bL.own,H9,fun _ q=>(by cases q),fun _ _ q=>(by cases q),bL.ed⟩;refine Aw a6 aD hT NL p2 (ha.refl _) q8 mC fun s2 jA H2 bD tc wr mP al a2 eA a4 a5=> ?_;unfold Rr at al;split at al
 ·rename_i ag e2
  have hge:=ade e2
  have no:∀{q},q<s1.aC->bw s2.mem q=none:=fun {q} bj=>RI fun hm=>by
   obtain⟨e,he,rfl⟩:=eM.1 hm;exact absurd (hge e he) (Nat.not_le.2 bj)
  refine⟨arA a2 ag,cT _ jA H2 (fun q=>if q<s1.aC then G q else bD q) tc al ⟨eA.aC,eA.vs,?_,?_,fun e he=> ?_,fun o a1 ho=> ?_,eA.ed⟩ a4 (s8.trans ?_)⟩
  ·have:=eA.own
   unfold dV at this⊢;simp only at this⊢;rw[lh,jJ];have bI:s2.mem.map (fun e=>if e.1<s1.aC then G e.1 else bD e.1)=s2.mem.map fun e=>bD e.1:=qn fun e he=>if_neg (Nat.not_lt.2 (hge e he));have cz:s1.mem.map (fun e=>if e.1<s1.aC then G e.1 else bD e.1)=s1.mem.map fun e=>G e.1:=qn fun e he=>if_pos (bL.lt e he);rw[bI,cz];exact this
  ·simp only[lh]
   refine Bg.2 ⟨eA.dx,bL.dx,fun x hx y hy e=> ?_⟩;obtain⟨p,hp,rfl⟩:=eM.1 hx;obtain⟨q,bj,rfl⟩:=eM.1 hy;have:=hge p hp;have:=bL.lt q bj;omega
  ·rcases kS.1 he with he|he
   ·exact eA.lt e he
   ·exact rj (bL.lt e he) a5.aC
  ·have ho:bw (s2.mem++s1.mem) o=some a1:=ho
   rw[C2]at ho;cases hm:bw s2.mem o with
   |some c=>
    rw[hm]at ho;cases ho;simp only[if_neg (Nat.not_lt.2 (hge _ (jF hm)))];exact(eA.mem o a1 hm).low hb
   |none=>
    rw[hm]at ho;simp only[if_pos (bL.lt _ (jF ho))];exact(bL.mem o a1 ho).mono a5.aJ a4
  ·exact⟨a5.vs,a5.dS,a5.cN,a5.aJ,a5.aC,fun o w cs hm=>⟨cs,by
    show bw (s2.mem++s1.mem) o=_;rw[C2,no (bL.lt _ (jF hm))];exact hm,rfl,fun _ _=>rfl⟩,fun o a1 hc hm=>.inl (by
    show bw (s2.mem++s1.mem) o=_;rw[C2,no (bL.lt _ (jF hm))];exact hm)⟩
 ·exact absurd al aD.bad
theorem ha.pre:∀(l:List Bool) {r nu:List Bool},ha r nu->ha (l++r) (l++nu)
 |[],_,_,h=>h
 | _::l,_,_,h=>.cons id (ha.pre l h)
theorem adf{o n:Nat}{c d:cv U}:∀{p q:List (Nat × cv U)},bw p o=some d->j7 o n c (p++q)=j7 o n c p++q
 |[],_,h=>by cases h
 |(a,e)::r,q,h=>by
  simp only[bw]at h;simp only[ky,j7];split at h
  ·rename_i ag
   rw[ag];rfl
  ·rename_i ag
   rw[ag];simp only[adf h];rfl
section
variable{p:List (Nat × cv U)}
theorem b6.Sb (R:b6 U b F fs {s with mem:=p++s.mem} σ H G ρ){o:Nat}{c:cv U}(h:bw s.mem o=some c):bw (p++s.mem) o=some c:=by
 have hn:((p++s.mem).map Prod.fst).Nodup:=R.dx;rw[lh,Bg]at hn;rw[C2,RI fun q=>hn.2.2 _ q _ (sa (f:=Prod.fst) (jF h)) rfl];exact h
theorem b6.arC (R:b6 U b F fs {s with mem:=p++s.mem} σ H G ρ):b6 U b F fs s σ H G ρ where
 aC:=R.aC
 vs:=R.vs
 own:=R.own.sub (by unfold dV;simp only[lh,jJ];exact DE _ _)
 dx:=by
  have hn:((p++s.mem).map Prod.fst).Nodup:=R.dx;rw[lh,Bg]at hn;exact hn.2.1
 lt:=fun e he=>R.lt e (pB _ he)
 mem:=fun o c h=>R.mem o c (R.Sb h)
 ed:=R.ed
theorem b6.arD (R:b6 U b F fs {s with mem:=p++s.mem} σ H G ρ)(bL:b6 U b F fs s1 cU H G ρ)(hm:s1.mem=s.mem)(hn:s1.aC=s.aC)(hb:s.aJ <+: s1.aJ):b6 U b F fs {s1 with mem:=p++s1.mem} cU H G ρ where
 aC:=bL.aC
 vs:=bL.vs
 own:=by have:=R.own;unfold dV at this⊢; simp only at this⊢; rw[hm];exact this
 dx:=by have:=R.dx;simp only at this⊢; rw[hm];exact this
 lt:=fun e he=>by
  have he:e∈p++s1.mem:=he;rw[hm]at he;show e.1<s1.aC;rw[hn];exact R.lt e he
 mem:=fun o c h=>by
  have h:bw (p++s1.mem) o=some c:=h;rw[hm]at h;exact(R.mem o c h).mono hb ew
 ed:=bL.ed
end
theorem Hk{A:Type}[aS A]{S:A->Prop}(a6:gD U)(aD:l7 S)(hT:q5 ad b0)(ae:∀j f,nth b0.fv j=some f->∃w,fs[j]? =some w/\nW ad F f.ec f.rt f.f w){k:kK U->bB U->List (Nat × cv U)->List Bool->A}:
  ∀{ops:List bP} {aq:kK U} {bp:bY} {s:bB U} {σ:bY} {H:Heap} {G:Nat->List (Nat × cD)} {ρ:List V} {p:List (Nat × cv U)} {w:List Bool},S (xY b0 ops aq s p w k)->b6 U b F fs {s with mem:=p++s.mem} σ H G ρ->(∀t v,bw aq t=some v->b5 U s.aJ ρ fs v (bp t))->b<=H.length->
  ∃eE s1 p1 ik cU H1 az gf aE,j5 ad b (dV s G F) ops bp σ H ik cU H1 aE/\S (k eE s1 p1 (w++aE))/\b6 U b F fs {s1 with mem:=p1++s1.mem} cU H1 az gf/\(∀t v,bw eE t=some v->b5 U s1.aJ gf fs v (ik t))/\ρ <+: gf/\Fr s s1/\s1.mem=s.mem
 |[],aq,bp,s,σ,H,G,ρ,p,w,h,R,b4,hb=>⟨aq,s,p,bp,σ,H,G,ρ,[],.nil,by rw[rk];exact h,R,b4,ew,.rfl,rfl⟩
 |o::r,aq,bp,s,σ,H,G,ρ,p,w,h,R,b4,hb=>by
  have q8:=R.arC
  have fin:∀{d:Option (Nat × Bool)} {op:cS} {p1:List (Nat × cv U)} {v':V} {H1:Heap} {bS:Nat} {m':List (Nat × cD)},cf (cl ad) (bV bp σ) H H.length op=some (v',H1,bS)->b<=bS->b<=H1.length->
    b6 U b F fs {s with mem:=p1++s.mem,aC:=s.aC+1} σ H1 (fun q=>if q=s.aC then m' else G q) (ρ++[v'])->
    S (match put aq {s with aC:=s.aC+1} (.row s.aC) d with|(aq,s1)=>xY b0 r aq s1 p1 (w++[true]) k)->
    ∃eE s1 p1 ik cU H1 az gf aE,j5 ad b (dV s G F) (⟨d,op,none⟩::r) bp σ H ik cU H1 aE/\S (k eE s1 p1 (w++aE))/\b6 U b F fs {s1 with mem:=p1++s1.mem} cU H1 az gf/\(∀t v,bw eE t=some v->b5 U s1.aJ gf fs v (ik t))/\ρ <+: gf/\Fr s s1/\s1.mem=s.mem:=by
   intro d op p1 v' H1 bS m' dk eu fe bL h1
   have Dh:dV s (fun q=>if q=s.aC then m' else G q) F=dV s G F:=by
    unfold dV;congr 1;exact qn fun e he=>if_neg (qq (q8.lt e he))
   have GK:Own H1 (dV s G F):=by
    rw[<-Dh];exact bL.own.sub (by unfold dV;simp only[lh,jJ];exact DE _ _)
   have py:∀t v,bw aq t=some v->b5 U s.aJ (ρ++[v']) fs v (bp t):=fun t v q=>(b4 t v q).mono ew (h6 _ _);have mF:b5 U s.aJ (ρ++[v']) fs (.row s.aC) v':=.row (q8.new v');have Sc:Fr s {s with aC:=s.aC+1}:=⟨fun _ _=>rfl,fun _ h=>h,fun _ h=>h,ew,DM _,fun o w cs hm=>⟨cs,hm,rfl,fun _ _=>rfl⟩,fun _ _ _ h=>.inl h⟩
   match d,h1 with
   |none,h1=>
    obtain⟨eE,s1,p2,ik,cU,H2,az,gf,aE,ag,e2,bI,cz,dF,hz,nM⟩:=Hk (s:={s with aC:=s.aC+1}) a6 aD hT ae h1 bL py fe;have ag:j5 ad b (dV s (fun q=>if q=s.aC then m' else G q) F) r bp σ H1 ik cU H2 aE:=ag;rw[Dh]at ag;exact⟨eE,s1,p2,ik,cU,H2,az,gf,true::aE,.make rfl dk eu fe GK ag,by simpa using e2,bI,cz,(h6 _ _).trans dF,Sc.trans hz,nM⟩
   |some (t,false),h1=>
    obtain⟨eE,s1,p2,ik,cU,H2,az,gf,aE,ag,e2,bI,cz,dF,hz,nM⟩:=Hk (s:={s with aC:=s.aC+1}) a6 aD hT ae h1 bL (RS py mF) fe;have ag:j5 ad b (dV s (fun q=>if q=s.aC then m' else G q) F) r (up bp t v') σ H1 ik cU H2 aE:=ag;rw[Dh]at ag;exact⟨eE,s1,p2,ik,cU,H2,az,gf,true::aE,.make rfl dk eu fe GK ag,by simpa using e2,bI,cz,(h6 _ _).trans dF,Sc.trans hz,nM⟩
   |some (t,true),h1=>
    obtain⟨eE,s1,p2,ik,cU,H2,az,gf,aE,ag,e2,bI,cz,dF,hz,nM⟩:=Hk a6 aD hT ae h1 (bL.put mF) py fe;have ag:j5 ad b (dV s (fun q=>if q=s.aC then m' else G q) F) r bp (up σ t v') H1 ik cU H2 aE:=ag;rw[Dh]at ag;exact⟨eE,s1,p2,ik,cU,H2,az,gf,true::aE,.make rfl dk eu fe GK ag,by simpa using e2,bI,cz,(h6 _ _).trans dF,Sc.trans (RJ.trans hz),nM⟩
  simp only[xY]at h;split at h
  ·rename_i d f aU
   split at h
   ·rename_i i v BO wO
    split at h
    ·rename_i q bj
     split at h
     ·rename_i x hx
      obtain⟨z,aI,h⟩:=aD.c2 h;obtain⟨cQ,ark,dm,hn⟩:=hT.2 _ (jF bj);have ao:=wK q8 b4 wO
      obtain⟨iC,rfl⟩:∃iC,aU=[iC]:=by
       have:=ao.length
       match aU,this with
       |[iC],_=>exact⟨iC,rfl⟩
      cases ao with
      |cons af _=>
       have iI:=db q8 b4 BO;generalize RR:bV bp σ f=wf at iI;cases iI with
       |fn hl=>
        cases hl;obtain⟨v',H1,m',dk,eu,fe,ix⟩:=abP (b:=b) dm hn aI R.own RR (De hx af) (a6.bQ q.1) (a6.ok q.1) hb;exact fin (p1:=(s.aC,.row q.1 z)::p) dk hb (dc hb ix) (R.add fe ⟨v',R.new v',eu⟩) h
     ·exact absurd h aD.bad
    ·exact absurd h aD.bad
   ·exact absurd h aD.bad
  ·rename_i d es bytes iC ki
   split at h
   ·rename_i q y uw Au
    split at h
    ·rename_i t x hm
     split at h
     ·rename_i n9 ag e2
      obtain⟨z,aI,h⟩:=aD.c2 h;have lO:bw (p++s.mem) q=some (.row t x):=by rw[C2,hm]
      obtain⟨eN,nB,OZ⟩:∃v,ρ[q]? =some v/\iO b (U.es t) (U.enc t) v x (G q):=R.mem q _ lO
      have hf:bV bp σ iC=eN:=by
       have:=db q8 b4 uw;cases this with
       |row h1=>rw[nB]at h1;exact(yv h1).symm
      have fc:=e8 ag;subst fc;obtain⟨arE,ct,dN⟩:=R.rep lO;obtain⟨v',H1,bS,m',dk,eu,fe,ix,iz⟩:=ace (ad:=ad) (b:=b) hb arE aI R.own ct OZ hf (De e2 (db q8 b4 Au)) (a6.bQ t) (a6.ok t);have eA:=dN (c:=.row t z) (cN:=s.cN) ⟨v',R.new v',ix⟩ iz;have bI:j7 q s.aC (.row t z) (p++s.mem)=j7 q s.aC (.row t z) p++s.mem:=adf hm;have nI:b6 U b F fs {s with mem:=j7 q s.aC (.row t z) p++s.mem,aC:=s.aC+1} σ H1 (fun q=>if q=s.aC then m' else G q) (ρ++[v']):=by rw[<-bI];exact eA
      exact fin fe dk eu nI h
     ·exact absurd h aD.bad
    ·exact absurd h aD.bad
   ·rename_i x t y aBC uw Au
    split at h
    ·rename_i ag e2
     obtain⟨z,aI,h⟩:=aD.c2 h;have fc:=e8 ag;subst fc
     have hy:bV bp σ ki=bU (U.es t) (U.enc t) y:=by
      have:=db q8 b4 Au;generalize bV bp σ ki=Ry at this;cases this;rfl
     obtain⟨v',H1,bS,m',dk,eu,fe,ix,iz⟩:=ace (ad:=ad) (b:=b) hb 0 aI (R.own.ins 0) rfl jy.emp (G5 e2 (db q8 b4 uw)) hy (a6.bQ t) (a6.ok t);exact fin (p1:=(s.aC,.row t z)::p) fe dk eu (R.add iz ⟨v',R.new v',ix⟩) h
    ·exact absurd h aD.bad
   ·exact absurd h aD.bad
  ·rename_i o' tV xw
   obtain⟨eE,s1,ik,cU,q1,aT,nI,cZ,fq,hC,nH⟩:=Hi a6 aD hT ae h q8 b4;have Dh:dV s1 G F=dV s G F:=by unfold dV;rw[hC]
   obtain⟨Lr,s2,p2,arF,jA,H2,bD,tc,bG,ag,e2,bI,cz,dF,hz,nM⟩:=Hk a6 aD hT ae aT (R.arD nI hC nH fq.aJ) cZ hb;rw[Dh]at ag;refine⟨Lr,s2,p2,arF,jA,H2,bD,tc,[false]++bG,j5.append (ic.aqt q1) ag,by simpa using e2,bI,cz,dF,fq.trans hz,nM.trans hC⟩
theorem arG{A:Type}[aS A]{S:A->Prop}(a6:gD U)(aD:l7 S)(hT:q5 ad b0)(ae:∀j f,nth b0.fv j=some f->∃w,fs[j]? =some w/\nW ad F f.ec f.rt f.f w){ops:List bP}{eB:List Nat}{n:Nat}{k:bB U->A}{Q:X->bY->Heap->Prop}
  (h:S (ack b0 eB ops n s k)) (R:b6 U b F fs s σ H G ρ) (cT:∀ar aV H' G' cM,S (k ar)->b6 U b F fs ar aV H' G' cM->ρ <+: cM->Fr s ar->Q .normal aV H'):fg ad b (.region ops (some eB)) σ H Q:=by
 refine aqv (ms:=dV s G F) (MX n ops) R.own fun hb=> ?_;obtain⟨eE,s1,p1,ik,cU,H1,az,gf,aE,ag,e2,bI,cz,dF,hz,nM⟩:=Hk (bp:=nK) (p:=[]) a6 aD hT ae h R (fun t v q=>by cases q) hb;rw[ke]at e2;refine⟨ik,cU,H1,aE,ag,fun w' hw=> ?_⟩;have f1:Fr s1 {s1 with mem:=p1++s1.mem}:=⟨fun _ _=>rfl,fun _ h=>h,fun _ h=>h,ew,aM _,fun o w cs hm=>⟨cs,bI.Sb hm,rfl,fun _ _=>rfl⟩,fun o c hc hm=>.inl (bI.Sb hm)⟩;refine Aw a6 aD hT ae e2 hw.rev bI cz fun ar aV H' G' cM wr mP al a2 Sd a4 a5=> ?_;split at al
 ·rename_i e
  exact⟨aqu a2 e,cT _ _ _ _ _ al Sd (dF.trans a4) (hz.trans (f1.trans a5))⟩
 ·exact absurd al aD.bad
theorem arH{c:b8}{Q:X->bY->Heap->Prop}(h:fg ad b c σ H (andThen ad b (.loop c) Q)):fg ad b (.loop c) σ H Q:=fun aw low h1 h2 av=>by
 obtain⟨x,dv,H',low',aV,ag,e2,bI,cz,dF⟩:=h aw low h1 h2 av;rw[ru,ag];cases x with
 |normal=>exact dF dv low' e2 bI cz
 |exit i=>exact⟨_,_,_,_,aV,rfl,e2,bI,cz,dF⟩
 |ret=>exact⟨_,_,_,_,aV,rfl,e2,bI,cz,dF⟩
theorem adg (a6:gD U){f:kp U->{A:Type}->[aS A]->bB U->(X->bB U->A)->A}{a:b8}(ih:∀{an:kp U} {A:Type} [aS A] {S:A->Prop},l7 S->∀{s:bB U} {k:X->bB U->A} {σ:bY} {H:Heap} {G:Nat->List (Nat × cD)} {ρ:List V} {Q:X->bY->Heap->Prop},S (f an s k)->b6 U b F fs s σ H G ρ->
   (∀x ar aV H' G' cM,S (k x ar)->b6 U b F fs ar aV H' G' cM->ρ <+: cM->Fr s ar->Q x aV H')->fg ad b a σ H Q) {hd:nq U} {os:xX U} {x:kp U} {A:Type} [aS A] {S:A->Prop} (aD:l7 S) {s:bB U} {k:X->bB U->A} {σ:bY} {H:Heap} {G:Nat->List (Nat × cD)} {ρ:List V} {Q:X->bY->Heap->Prop}
  (h:S (LL f (kq a) hd os x s k)) (R:b6 U b F fs s σ H G ρ) (cT:∀x ar aV H' G' cM,S (k x ar)->b6 U b F fs ar aV H' G' cM->ρ <+: cM->Fr s ar->Q x aV H'):fg ad b (.loop a) σ H Q:=by
 unfold LL at h;split at h
 ·exact absurd h aD.bad
 ·rename_i arI arJ
  obtain⟨o,ho,h⟩:=aD.c2 h
  refine c8 _ (fun st aV H'=>∃G' cM,b6 U b F fs (fresh (enter (kq a) [] hd st s)) aV H' G' cM/\ρ <+: cM)
   (fun o x aV H'=>∃s2 G' cM,(S (leave (fU hd++kq a) (ig hd) s k os o)->S (k x s2))/\b6 U b F fs s2 aV H' G' cM/\ρ <+: cM/\Fr s s2) ho ?_ ?_ ?_
  ·obtain⟨G',cM,bH,cw⟩:=L5 (W:=kq a) (M:=[]) a6 R R ew .rfl arJ
   exact⟨G',cM,bH.L4,cw⟩
  ·rintro st cU H1 r ⟨az,gf,bL,adh⟩ hr
   refine ih (Rv r) hr bL fun gx s2 jA H2 bD tc al a2 a3 a4=> ?_
   have base:ij (fU hd++kq a) ([]++ig hd) s (fresh (enter (kq a) [] hd st s)):=by
    have:=ac2 (W:=kq a) (M:=[]) R.lt (x:=st);exact⟨this.vs,this.aJ,this.aC,this.mem,this.row⟩
   have og:s.aC<=(fresh (enter (kq a) [] hd st s)).aC:=base.aC
   have adi:∀{y:Ad U (Ah os)},Ai s.aJ.length s.aC (fU hd++kq a) (ig hd) gx s2 os=some y->∃fu G' cM,(S (leave (fU hd++kq a) (ig hd) s k os y)->S (k gx fu))/\b6 U b F fs fu jA H2 G' cM/\ρ <+: cM/\Fr s fu:=by
    intro y hy;obtain⟨sh,z,g1,g2⟩:=R5 (S:=S) (s:=s) (k:=k) hy;obtain⟨q1,aT,b3⟩:=R4 g1
    have gV:ij (fU sh++(fU hd++kq a)) (ig hd++ig sh) s s2:=
     base.q7 (by simp) a4 R.lt (fun t ht=>pB _ ht) (fun p hp=>w7 _ (by simpa using hp)) (fun t ht=>pB _ (q1 t ht)) aT
    obtain⟨G',cM,bH,cw⟩:=L5 a6 R a2 (adh.trans a3) gV b3;exact⟨_,G',cM,g2,bH,cw,ac3 R.lt⟩
   cases gx with
   |normal=>
    simp only at al;split at al
    ·rename_i y hy
     cases al;obtain⟨q1,aT,b3⟩:=R4 hy;have gV:ij (fU hd++kq a) ([]++ig hd) s s2:=base.q7 (by simp) a4 R.lt (fun _ h=>h) (fun _ h=>h) (fun t ht=>pB _ (q1 t ht)) aT;obtain⟨G',cM,bH,cw⟩:=L5 a6 R a2 (adh.trans a3) gV b3;exact⟨rfl,G',cM,bH.L4,cw⟩
    ·cases al
   |exit i=>
    simp only at al;split at al
    ·rename_i y hy;cases al;exact⟨nofun,adi hy⟩
    ·cases al
   |ret=>
    simp only at al;split at al
    ·rename_i y hy;cases al;exact⟨nofun,adi hy⟩
    ·cases al
  ·rintro gx cU H1 ⟨s2,bD,tc,dk,eu,fe,ix⟩
   exact cT _ _ _ _ _ _ (dk h) eu fe ix
set_option maxHeartbeats 1000000 in
theorem ux (a6:gD U)(hT:q5 ad b0)(ae:∀j f,nth b0.fv j=some f->∃w,fs[j]? =some w/\nW ad F f.ec f.rt f.f w):
  ∀{c:b8} {an:kp U} {A:Type} [aS A] {S:A->Prop},l7 S->∀{s:bB U} {k:X->bB U->A} {σ:bY} {H:Heap} {G:Nat->List (Nat × cD)} {ρ:List V} {Q:X->bY->Heap->Prop},S (kN b0 c an s k)->b6 U b F fs s σ H G ρ->
   (∀x ar aV H' G' cM,S (k x ar)->b6 U b F fs ar aV H' G' cM->ρ <+: cM->Fr s ar->Q x aV H')->fg ad b c σ H Q
 | .skip,an,A,_,S,aD,s,k,σ,H,G,ρ,Q,h,R,cT=>zw (cT _ _ _ _ _ _ h R ew .rfl)
 | .ret,an,A,_,S,aD,s,k,σ,H,G,ρ,Q,h,R,cT=>zx (cT _ _ _ _ _ _ h R ew .rfl)
 | .exit i,an,A,_,S,aD,s,k,σ,H,G,ρ,Q,h,R,cT=>J5 (cT _ _ _ _ _ _ h R ew .rfl)
 | .region ops eB,an,A,_,S,aD,s,k,σ,H,G,ρ,Q,h,R,cT=>by
   unfold kN at h;split at h
   ·exact arB (k:=fun s=>k .normal s) a6 aD hT ae h R fun ar aV H' G' cM al a2 a3 a4=>cT _ _ _ _ _ _ al a2 a3 a4
   ·exact arG (k:=fun s=>k .normal s) a6 aD hT ae h R fun ar aV H' G' cM al a2 a3 a4=>cT _ _ _ _ _ _ al a2 a3 a4
   ·exact ac8 (k:=fun s=>k .normal s) a6 aD hT ae h R fun ar aV H' G' cM al a2 a3 a4=>cT _ _ _ _ _ _ al a2 a3 a4
 | .seq a c,an,A,_,S,aD,s,k,σ,H,G,ρ,Q,h,R,cT=>by
   have snd:∀{y:kp U} {x:X} {ar:bB U} {aV:bY} {H':Heap} {G':Nat->List (Nat × cD)} {cM:List V},S (match x with| .normal=>kN b0 c y ar k|x=>k x ar)->b6 U b F fs ar aV H' G' cM->ρ <+: cM->Fr s ar->andThen ad b c Q x aV H':=by
    intro y x ar aV H' G' cM al a2 a3 a4;cases x with
    |normal=>exact ux a6 hT ae aD al a2 fun x s2 jA H2 bD tc dQ fY jG lk=>cT _ _ _ _ _ _ dQ fY (a3.trans jG) (a4.trans lk)
    |exit i=>exact cT _ _ _ _ _ _ al a2 a3 a4
    |ret=>exact cT _ _ _ _ _ _ al a2 a3 a4
   unfold kN at h;split at h
   ·rename_i os x y
    obtain⟨o,ho,h⟩:=aD.c2 h;refine p8 (ux a6 hT ae (Rv o) ho R.L4 fun gx s1 cU H1 az gf al a2 a3 a4=> ?_);obtain⟨sh,z,g1,g2⟩:=R5 (S:=S) (s:=s) (k:=fun x ar=>match x with| .normal=>kN b0 c y ar k|x=>k x ar) al;obtain⟨q1,aT,b3⟩:=R4 g1
    have gV:ij (fU sh++kq a) ([]++ig sh) s s1:=by
     have:=a4.gV (W:=fU sh++kq a) (M:=[]++ig sh) R.lt (fun t ht=>pB _ (q1 t ht)) aT;exact⟨this.vs,this.aJ,this.aC,this.mem,this.row⟩
    obtain⟨G',cM,bH,cw⟩:=L5 a6 R a2 a3 gV b3;exact snd (g2 h) bH cw (ac3 R.lt)
   ·rename_i sl y
    split at h
    ·rename_i ops eB
     unfold acm at h;split at h
     ·rename_i hw
      obtain⟨s1,p1,p2,p3⟩:=R7 hw;refine p8 (ac8 (S:=fun q:pr (bB U)=>q.val=some s1) (k:=fun s=>pr.leaf s) (s:={s with dS:=[],cN:=[]}) a6 (aqP s1) hT ae p1 R.adb fun ar aV H' G' cM al a2 a3 a4=> ?_);cases al
      have gV:ij (pw ops) [] s s1:=by
       have:=a4.gV (W:=pw ops) (M:=[]) R.lt p2 (fun o j q=>by rw[p3]at q;cases q);exact⟨this.vs,this.aJ,this.aC,this.mem,this.row⟩
      have hb:=acW R a2 a3 gV;have qF:b6 U b F fs {blank (pw ops) [] s with dS:=sl++(pw ops++s.dS)} aV H' G' ρ:=hb.adb;obtain⟨kr,ag,e2,bI,cz,dF⟩:=ac7 aD a2 a3 gV.aJ p1 qF (ew) (by rw[R.aC];exact h)
      have w:ij (sl++(pw ops++s.dS)) [] s kr:=by
       have aE:=(acT (s:=s) (W:=pw ops) (M:=[])).wide (W':=sl++(pw ops++s.dS)) (M':=[]) (fun t ht=>pB _ (w7 _ ht)) (fun _ q=>q);have bG:=bI.wide (W':=sl++(pw ops++s.dS)) (M':=[]) (fun t ht=>w7 _ ht) (fun _ q=>q);exact ij.trans (s1:={blank (pw ops) [] s with dS:=sl++(pw ops++s.dS)}) ⟨aE.vs,aE.aJ,aE.aC,aE.mem,aE.row⟩ bG
      refine snd (x:=.normal) ag e2 ew ⟨fun t ht=>w.vs t fun q=>ht (by rw[cz];exact q),fun t ht=>by rw[cz];exact pB _ (pB _ ht),fun q bj=>by rw[dF];exact bj,w.aJ,w.aC,fun o wr cs hm=> ?_,fun o a1 hc hm=>.inl ((w.row o a1 hc hm).resolve_right (by simp))⟩;obtain⟨cs',m1,m2,m3⟩:=w.mem o wr cs hm;exact⟨cs',m1,m2,fun j _=>m3 j (by simp)⟩
     ·exact absurd h aD.bad
    ·exact absurd h aD.bad
   ·exact p8 (ux a6 hT ae aD h R fun x ar aV H' G' cM al a2 a3 a4=>snd al a2 a3 a4)
 | .cond x a c,an,A,_,S,aD,s,k,σ,H,G,ρ,Q,h,R,cT=>by
   simp only[kN]at h;split at h
   ·exact absurd h aD.bad
   ·rename_i v af
    obtain⟨β,s1,ag,e2,bI,cz⟩:=C8 aD h R.ed (db (bp:=nK) R (fun t v q=>by cases q) af);rcases cz with⟨rfl,h⟩|⟨rfl,h⟩
    ·exact zy ag rfl (ux a6 hT ae aD h (R.ey e2) fun x s2 jA H2 bD tc dQ fY jG lk=>cT _ _ _ _ _ _ dQ fY jG (e2.b2.trans lk))
    ·exact zz ag rfl (ux a6 hT ae aD h (R.ey e2) fun x s2 jA H2 bD tc dQ fY jG lk=>cT _ _ _ _ _ _ dQ fY jG (e2.b2.trans lk))
 | .block id a,an,A,_,S,aD,s,k,σ,H,G,ρ,Q,h,R,cT=>by
   simp only[kN]at h;exact Fp (ux a6 hT ae aD h R fun x s2 jA H2 bD tc dQ fY jG lk=>cT _ _ _ _ _ _ dQ fY jG lk)
 | .loop a,an,A,_,S,aD,s,k,σ,H,G,ρ,Q,h,R,cT=>by
   unfold kN at h;split at h
   ·exact adg a6 (fun {_ _ _ _} aD {_ _ _ _ _ _ _} h R cT=>ux a6 hT ae aD h R cT) aD h R cT
   ·refine arH (ux a6 hT ae aD h R fun x ar aV H' G' cM al a2 a3 a4=> ?_)
    cases x with
    |normal=>exact adg a6 (fun {_ _ _ _} aD {_ _ _ _ _ _ _} h R cT=>ux a6 hT ae aD h R cT) aD al a2 fun x s2 jA H2 bD tc dQ fY jG lk=>cT _ _ _ _ _ _ dQ fY (a3.trans jG) (a4.trans lk)
    |exit i=>exact cT _ _ _ _ _ _ al a2 a3 a4
    |ret=>exact cT _ _ _ _ _ _ al a2 a3 a4
   ·exact absurd h aD.bad
 | .yA ..,an,A,_,S,aD,s,k,σ,H,G,ρ,Q,h,R,cT=>absurd h (by unfold kN;exact aD.bad)
 | .rangeFunc ..,an,A,_,S,aD,s,k,σ,H,G,ρ,Q,h,R,cT=>absurd h (by unfold kN;exact aD.bad)
 | .fail,an,A,_,S,aD,s,k,σ,H,G,ρ,Q,h,R,cT=>absurd h (by unfold kN;exact aD.bad)
end
end Go.Abs.hG
namespace Go.Abs.hG
open Go Go.Abs
section
variable{U:iE}{b:Nat}{F:cO}{fs:List V}{s ar:bB U}{σ:bY}{H:Heap}{G:Nat->List (Nat × cD)}{ρ:List V}{ad:Nat->Option cb}
theorem Se:∀(vs:List V) (i j:Nat) (v:V),vs[j]? =some v->wi i vs (i+j)=v
 |[],_,_,_,h=>by simp at h
 |u::r,i,0,v,h=>by simp at h;subst h;exact vY _ _ _
 |u::r,i,j+1,v,h=>by
  simp at h;rw[wi,jx _ _ (by omega),show i+(j+1)=i+1+j by omega];exact Se r (i+1) j v h
theorem Sf{F:cO}:∀{aU:List l4} {a:l5 U aU} {ws:List V},s7 ad F aU a ws->ws.length=aU.length
 |[],_,_,h=>by cases h;rfl
 | .v t::aU,x,_,⟨eK,e,r⟩=>by subst e;simp[Sf r]
 | .f _ _::aU,x,_,⟨w,eK,e,_,r⟩=>by subst e;simp[Sf r]
def Di:List l4->List V->List V
 | .v _::r,_::ws=>Di r ws
 | .f _ _::r,w::ws=>w::Di r ws
 | _,_=>[]
def adj (ad:Nat->Option cb)(F:cO)(fs:List V)(l:List (GP U)):Prop:=∀j f,nth l j=some f->∃w,fs[j]? =some w/\nW ad F f.ec f.rt f.f w
theorem Sg (a6:gD U):∀{aU:List l4} {x:l5 U aU} {ws:List V} {j:Nat} {s:bB U} {l:List (GP U)} {pre:List V},s7 ad F aU x ws->(∀i w,ws[i]? =some w->σ (j+i)=w)->fs=pre++Di aU ws->pre.length=l.length->adj ad F fs l->b6 U b F fs s σ H G ρ->
  b6 U b F fs (Aj aU x j s l).1 σ H G ρ/\adj ad F fs (Aj aU x j s l).2/\(Aj aU x j s l).1.mem=s.mem/\(Aj aU x j s l).1.aC=s.aC
 |[],x,ws,j,s,l,pre,hA,q9,ae,hp,hl,R=>⟨R,hl,rfl,rfl⟩
 | .v t::aU,x,ws,j,s,l,pre,⟨eK,e,r⟩,q9,ae,hp,hl,R=>by
   subst e;have h0:=q9 0 _ rfl;have oh:=Df (R.ey (LQ (U.xS t x.1))) (l:=.s j) (w:=U.enc t x.1) h0.symm (a6.lz t x.1 s.aJ ρ fs);exact Sg (aU:=aU) (x:=x.2) (ws:=eK) (j:=j+1) (l:=l) a6 r (fun i w h=>by have:=q9 (i+1) w (by simpa using h);rwa [HY,rl]) ae hp hl oh
 | .f ec rt::aU,x,ws,j,s,l,pre,⟨w,eK,e,q,r⟩,q9,ae,hp,hl,R=>by
   subst e;have h0:=q9 0 _ rfl
   have hj:fs[l.length]? =some w:=by
    rw[ae,<-hp,w5 (aM _)];simp[Di]
   have oh:=Df R (l:=.s j) (w:=w) (v:=.fv l.length) h0.symm (.fv hj);refine Sg (aU:=aU) (x:=x.2) (ws:=eK) (j:=j+1) (l:=l++[⟨ec,rt,x.1⟩]) a6 (pre:=pre++[w]) r (fun i w h=>by have:=q9 (i+1) w (by simpa using h);rwa [HY,rl]) (by rw[ae];simp[Di]) (by simp[hp]) (fun k g ah=> ?_) oh;rw[wD]at ah;rcases gq k l.length with aH|hge
   ·rw[gM aH]at ah
    exact hl k g (by rw[wD];exact ah)
   ·rw[w5 hge]at ah
    cases hd:k-l.length with
    |zero=>
     rw[hd]at ah;cases ah;have:k=l.length:=by omega
     subst this;exact⟨w,hj,q⟩
    |succ n=>rw[hd]at ah;simp at ah
theorem adk (a6:gD U):∀{ts:List Nat} {c:dD U ts} {aU:List Nat} {j:Nat} {s ar:bB U} {G:Nat->List (Nat × cD)} {ρ:List V},LM ts c j s=some ar->aU.length=ts.length->(∀i a,aU[i]? =some a->σ (j+i)=.ptr a 0)->Own H (s.mem.map (fun e=>G e.1)++(An ts c aU++F))->b6 U b F fs s σ H G ρ->
  ∃G' cM,b6 U b F fs ar σ H G' cM
 |[],c,aU,j,s,ar,G,ρ,h,hl,q9,aB,R=>by cases h;exact⟨G,ρ,R⟩
 |t::ts,c,[],j,s,ar,G,ρ,h,hl,q9,aB,R=>by cases hl
 |t::ts,c,a::aU,j,s,ar,G,ρ,h,hl,q9,aB,R=>by
  simp only[LM]at h;split at h
  ·cases h
  ·rename_i cs hc
   have fa:=Ak (ρ:=ρ) (fs:=fs) hc (a6.lz t (pt ts c) s.aJ ρ fs);have h0:=q9 0 _ rfl;refine adk a6 (G:=fun o=>if o=s.aC then[(a,.cells (aF (U.enc t (pt ts c))))]else G o) (ρ:=ρ++[.ptr a 0]) h (by simpa using hl) (fun i bl hi=>by have:=q9 (i+1) bl (by simpa using hi);rwa [HY,rl]) ?_ ?_
   ·have e:(s.mem.map fun e=>if e.1=s.aC then[(a,cD.cells (aF (U.enc t (pt ts c))))]else G e.1)=s.mem.map fun e=>G e.1:=
     qn fun e he=>by rw[if_neg (qq (R.lt e he))]
    simp only[lh,e,eG,me,if_pos,jJ,List.singleton_append];exact aB
   ·have adl:(ρ++[V.ptr a 0])[s.aC]? =some (.ptr a 0):=by rw[w5 (by rw[R.aC];exact aM _),R.aC];simp
    refine⟨by simp[R.aC],fun k v ah=> ?_,?_,?_,fun e he=> ?_,fun o a1 ho=> ?_,fun i β ah=>nS (h6 _ _) (R.ed i β ah)⟩
    ·have ah:bw ((j,.ptr s.aC 0)::s.vs) k=some v:=ah
     rw[gd]at ah;split at ah
     ·rename_i e;cases ah;subst e
      rw[show σ j=.ptr a 0 from h0];exact .ptr adl
     ·exact(R.vs k v ah).mono (h6 _ _) (h6 _ _)
    ·have e:(s.mem.map fun e=>if e.1=s.aC then[(a,cD.cells (aF (U.enc t (pt ts c))))]else G e.1)=s.mem.map fun e=>G e.1:=
      qn fun e he=>by rw[if_neg (qq (R.lt e he))]
     unfold dV;simp only[lh,e,eG,me,if_pos,jJ,List.singleton_append];refine aB.sub (List.Sublist.append (sb _) ?_);simp only[An,ky];exact List.Sublist.cons_cons _ (DE _ _)
    ·simp only[lh,eG,me]
     refine Bg.2 ⟨R.dx,by simp,fun x hx y hy=> ?_⟩;obtain⟨e,he,q⟩:=eM.1 hx;simp only[DH]at hy;subst hy;rw[<-q];exact qq (R.lt e he)
    ·rcases kS.1 he with he|he
     ·exact M5 (R.lt e he)
     ·simp only[DH]at he;subst he;exact yr _
    ·have ho:bw (s.mem++[(s.aC,cv.cells false cs)]) o=some a1:=ho
     rw[C2]at ho;cases hm:bw s.mem o with
     |some c'=>
      rw[hm]at ho;cases ho;have:=(R.mem o a1 hm).mono (h6 s.aJ (U.xS t (pt ts c))) (h6 ρ [.ptr a 0]);simp only[qq (R.lt _ (jF hm)),if_false];exact this
     |none=>
      rw[hm]at ho;simp only at ho;rw[gd]at ho;split at ho
      ·rename_i e
       cases ho;subst e;exact⟨a,_,adl,by simp,fa.mono ew (h6 _ _),fun q=>by cases q⟩
      ·cases ho
theorem adm (R:b6 U b F fs s σ H G ρ):∀{rs:List mV} {vs:List (aO U.ay)},GX s rs=some vs->∃us,sT σ H rs us/\bz U s.aJ ρ fs vs us
 |[],_,h=>by cases h;exact⟨[],.nil,.nil⟩
 |r::rs,vs,h=>by
  simp only[GX]at h;split at h
  ·cases h
  ·rename_i v af
   split at h
   ·cases h
   ·rename_i l hl
    cases h;obtain⟨us,h1,h2⟩:=adm R hl;cases r with
    |tmp t=>exact⟨_,.tmp rfl h1,.cons (R.vs t v af) h2⟩
    |cell a sh=>
     simp only at af;split at af
     ·rename_i o f ao
      split at af
      ·rename_i w cs hm
       have nB:=R.vs a _ ao;generalize hw:σ a=w at nB;cases nB with
       |ptr ho=>
        obtain⟨q,ws,q1,aT,b3,cZ,-⟩:=R.cells hm;rw[q1]at ho;cases ho;obtain⟨u,dk,eu⟩:=G3 af cZ;exact⟨_,.cell hw (b3 H R.own) dk h1,.cons eu h2⟩
      ·cases af
     ·cases af
theorem adn (a6:gD U):∀(ts:List Nat) (x:dD U ts),cx (jW ts x)=true
 |[],_=>rfl
 |t::r,x=>by simp only[jW,cx,a6.bQ,adn a6 r,xd]
theorem arK (a6:gD U)(ts:List Nat)(x:dD U ts):bQ (nV ts x)=true:=by
 unfold nV;have h:=adn a6 ts x;generalize jW ts x=us at h
 match us with
 |[]=>rfl
 |[u]=>simpa[cx,one]using h
 | _::_::_=>exact h
theorem ado{f:List (Nat × cv U)->aO U.ay->Option (aO U.ay × List (Nat × cv U))}:∀{vs vs':List (aO U.ay)} {m m':List (Nat × cv U)},um f m vs=some (vs',m')->vs'.length=vs.length
 |[],_,_,_,h=>by cases h;rfl
 |v::r,_,_,_,h=>by
  simp only[um]at h;split at h
  ·cases h
  ·split at h
   ·cases h
   ·rename_i e;cases h;simp[ado e]
theorem adp (a6:gD U){T:List (bM U)}(hT:∀e∈T,lC ad e)(e:bM U){f:hh}(dm:ad e.id=some (.code f))(ty:List (Nat × Nat))(wF:List (Nat × Nat × Nat))(oi:∀q∈wF,acA U ad q.1 q.2)(an:kp U)
  (eP:f.fresh=false) (hn:Nat.ble (e.args.length+e.caps.length) f.xf=true) (h:∀c a,e.fn c a=GY T ty wF f an e.caps e.args e.res c a):lC ad e:=by
 intro H F c a aU ws r hlen aB hA hr;rw[h]at hr;unfold GY at hr;have hl:=Sf hA;have q9:∀i w,ws[i]? =some w->wi 0 (ws++Ao aU) (0+i)=w:=fun i w hi=>Se _ 0 i w (by rw[gM (fF.1 hi).1];exact hi)
 have q8:b6 U H.length F (Di e.args ws) uq (wi 0 (ws++Ao aU)) H (fun _=>[]) []:=
  ⟨rfl,fun _ _ q=>(by cases q),aB.sub (DE _ _),H9,fun _ q=>(by cases q),fun _ _ q=>(by cases q),fun _ _ q=>(by cases q)⟩
 obtain⟨bL,f1,m1,-⟩:=Sg (pre:=[]) (l:=[]) a6 hA q9 rfl rfl (fun j f q=>by simp[nth]at q) q8;split at hr;rename_i s1 fv arL;rw[arL]at bL f1 m1;split at hr
 ·cases hr
 ·rename_i s2 arM
  obtain⟨bD,tc,eA⟩:=adk a6 (σ:=wi 0 (ws++Ao aU)) arM hlen (fun i x hi=>by
   rw[<-hl];have:=Se (ws++Ao aU) 0 (ws.length+i) (.ptr x 0) (by rw[w5 (M7 _ _)];simp[hi]);rwa [er]at this) (by rw[m1];exact aB) bL
  refine abD (caps:=Ao aU) dm ?_ eP ?_ (arK a6 _ _)
  ·simp only[e1,jn,hl,hlen]
   exact ma hn
  ·refine ux a6 (b0:=⟨T,fv,ty,wF⟩) ⟨hT,oi⟩ f1 (Rv r) hr eA fun x ar aV H' G' cM al a2 a3 a4=> ?_
   have fin:(match GX ar f.results with
     |some vs=>Rs ar e.res vs
     |none=>none)=some r->Kb f.results aV H' H.length (nV e.res r):=fun h=>by
    split at h
    ·rename_i vs c3
     obtain⟨us,kD,qA⟩:=adm a2 c3;unfold Rs at h;split at h
     ·rename_i v
      cases qA with
      |cons af hr=>
       cases hr;split at h
       ·rename_i v' m' aI
        obtain⟨w',nf,z2,-⟩:=Ar (F:=F) a6 a2.Hb aI af;have:=LR a6 h (.cons z2 .nil);have ag:nV e.res r=w':=by unfold nV;rw[<-this];rfl
        rw[ag];exact abC kD rfl a2.own nf
       ·cases h
     ·rename_i bu
      split at h
      ·rename_i vs' m' aI
       obtain⟨eK,nf,z2,-⟩:=Dc (F:=F) (Ar a6) a2.Hb aI qA;have:=LR a6 h z2;have ck:=qA.length;have kY:=z2.length;have L9:=ado aI
       have gS:∀{l:List V},l.length=vs.length->one l=.bd l:=fun {l} hl=>by
        match l,hl with
        |[],_=>rfl
        |[w],hl=>
         match vs,hl,bu with
         |[v],_,bu=>exact absurd rfl (bu v)
        | _::_::_,_=>rfl
       have ag:nV e.res r=.bd eK:=by
        unfold nV;rw[<-this];exact gS (by rw[<-kY,L9])
       rw[ag];exact abC kD (gS ck.symm) a2.own (acE nf)
      ·cases h
    ·cases h
   cases x with
   |exit i=>cases al
   |normal=>exact⟨.inl rfl,fin al⟩
   |ret=>exact⟨.inr rfl,fin al⟩
theorem arN (a6:gD U){T:List (bM U)}(hT:∀e∈T,lC ad e)(e:bM U){X:Type}(Fn:(X->Option (dD U e.res))->X->Option (dD U e.res))(q7:dD U e.caps->l5 U e.args->X)(he:∀c a,e.fn c a=zH Fn (q7 c a))
  {f:hh} (dm:ad e.id=some (.code f)) (ty:List (Nat × Nat)) (an:kp U) (eP:f.fresh=false) (hn:Nat.ble (e.args.length+e.caps.length) f.xf=true)
  (h:∀(g:X->Option (dD U e.res)) (c:dD U e.caps) (a:l5 U e.args),Fn g (q7 c a)=GY (⟨e.id,e.caps,e.args,e.res,fun c a=>g (q7 c a)⟩::T) ty [] f an e.caps e.args e.res c a):lC ad e:=by
 have key:∀n,lC ad ⟨e.id,e.caps,e.args,e.res,fun c a=>oz Fn n (q7 c a)⟩:=by
  intro n
  induction n with
  |zero=>intro H F c a aU ws r _ _ _ q;cases q
  |succ n ih=>
   refine adp a6 (T:=⟨e.id,e.caps,e.args,e.res,fun c a=>oz Fn n (q7 c a)⟩::T) (fun e' he'=> ?_) _ dm ty [] (fun _ q=>by cases q) an eP hn fun c a=>h (oz Fn n) c a;rcases dL.1 he' with rfl|he'
   ·exact ih
   ·exact hT e' he'
 intro H F c a aU ws r h1 h2 av bc;rw[he]at bc;obtain⟨n,oZ⟩:=an1 bc;exact key n H F c a aU ws r h1 h2 av oZ
variable{B:List Bool}{v:aO U.ay}{w:V}
theorem b5.adq{i:Nat}{c:Bool}(h:B[i]? =some c):b5 U B ρ fs (.bo i false) (.bool c):=by
 have:b5 U B ρ fs (.bo i false) (.bool (c != false)):=.bo h;simpa using this
theorem adr{l:List Bool}{c:Bool}{i:Nat}(h:l[i]? =some c):(B++l)[B.length+i]? =some c:=by
 rw[w5 (M7 _ _),Nat.add_sub_cancel_left];exact h
theorem bz.inv{v:aO U.ay}{vs:List (aO U.ay)}{ws:List V}:bz U B ρ fs (v::vs) ws->∃w eK,ws=w::eK/\b5 U B ρ fs v w/\bz U B ρ fs vs eK
 | .cons h r=>⟨_,_,rfl,h,r⟩
theorem bz.pz{ws:List V}:bz U B ρ fs [] ws->ws=[]
 | .nil=>rfl
theorem qf{α:Type}(e:Nat)(f:α->V)(l:ak α):bX (aF (bU e f l))=true:=by simp[bX]
theorem qg{α:Type}(e:Nat)(f:α->V)(l:ak α):(aF (bU e f l)).length=1:=by simp
theorem h3{k:IntKind}{n:Int}(h:hH k v=some n)(af:b5 U B ρ fs v w):w=.int k n:=by
 unfold hH at h;split at h
 ·split at h
  ·rename_i e
   cases h;cases af;rw[of_decide_eq_true e]
  ·cases h
 ·cases h
theorem ads{c:Bool}(h:LN B v=some c)(af:b5 U B ρ fs v w):w=.bool c:=by
 unfold LN at h;split at h
 ·cases h;cases af;rfl
 ·split at h
  ·rename_i c' hc
   rw[wD]at hc;cases af with
   |bo hb=>
    rw[hc]at hb;cases hb;split at h<;>cases h<;>simp
  ·cases h
 ·cases h
theorem Sh{s:aW}(h:GZ v=some s)(af:b5 U B ρ fs v w):w=.str s:=by
 unfold GZ at h;split at h
 ·cases h;cases af;rfl
 ·cases h
theorem ga{t:Nat}{l:ak (U.ay t)}(h:e7 t v=some l)(af:b5 U B ρ fs v w):w=bU (U.es t) (U.enc t) l:=De h af
theorem pA{R:Type}{f:List (aO U.ay)->Option R}{x:R}(h:nU f v=some x)(af:b5 U B ρ fs v w):∃vs ws,w=.agg ws/\bz U B ρ fs vs ws/\f vs=some x:=by
 unfold nU at h;split at h
 ·cases af with
  |agg af=>exact⟨_,_,rfl,af,h⟩
 ·cases h
end
end Go.Abs.hG
namespace Go.Abs.hG
open Go Go.Abs
section
variable{U:iE}{ad:Nat->Option cb}{T:List (bM U)}
def AD (ad:Nat->Option cb)(i:Nat):hh:=match ad i with
 |some (.code f)=>f
 | _=>default
def Ma (ad:Nat->Option cb)(e:bM U):Bool:=match ad e.id with
 |some (.code f)=>!f.fresh&&Nat.ble (e.args.length+e.caps.length) f.xf
 | _=>false
abbrev bW (ad:Nat->Option cb)(T:List (bM U)):Prop:=∀e∈T,lC ad e
theorem AE{e:bM U}(h:Ma ad e=true):ad e.id=some (.code (AD ad e.id))/\(AD ad e.id).fresh=false/\Nat.ble (e.args.length+e.caps.length) (AD ad e.id).xf=true:=by
 unfold Ma at h;unfold AD;split at h
 ·rename_i f ae
  rw[ae];simp only[ca,mb]at h;exact⟨rfl,h.1,h.2⟩
 ·cases h
theorem bW.cons{e:bM U}(hT:bW ad T)(h:lC ad e):bW ad (e::T):=fun e' he=>by
 rcases dL.1 he with rfl|he
 ·exact h
 ·exact hT e' he
theorem cr (a6:gD U){e:bM U}(hT:bW ad T)(ty:List (Nat × Nat))(an:kp U)(h1:Ma ad e=true)(h2:∀c a,e.fn c a=GY T ty [] (AD ad e.id) an e.caps e.args e.res c a):bW ad (e::T):=
 hT.cons (adp a6 hT e (AE h1).1 ty [] (fun _ q=>by cases q) an (AE h1).2.1 (AE h1).2.2 h2)
theorem arO (a6:gD U){e:bM U}{X:Type}(hT:bW ad T)(Fn:(X->Option (dD U e.res))->X->Option (dD U e.res))(q7:dD U e.caps->l5 U e.args->X)(he:∀c a,e.fn c a=zH Fn (q7 c a))(ty:List (Nat × Nat))(an:kp U)(h1:Ma ad e=true)
  (h2:∀(g:X->Option (dD U e.res)) (c:dD U e.caps) (a:l5 U e.args),Fn g (q7 c a)=GY (⟨e.id,e.caps,e.args,e.res,fun c a=>g (q7 c a)⟩::T) ty [] (AD ad e.id) an e.caps e.args e.res c a):bW ad (e::T):=
 hT.cons (arN a6 hT e Fn q7 he (AE h1).1 ty an (AE h1).2.1 (AE h1).2.2 h2)
def Mb:(aU:List l4)->l5 U aU->List V
 | .v t::r,x=>U.enc t x.1::Mb r x.2
 | _,_=>[]
theorem adt{F:cO}:∀{aU:List l4} {a:l5 U aU} {ws:List V},Ae aU=true->s7 ad F aU a ws->ws=Mb aU a
 |[],_,_,_,h=>h
 | .v t::aU,x,_,hn,⟨eK,e,r⟩=>by rw[e,adt (aU:=aU) hn r];rfl
 | .f _ _::_,_,_,hn,_=>by cases hn
theorem x2{i:Nat}{args:List l4}{res:List Nat}{fn:l5 U args->Option (dD U res)}(hn:Ae args=true)(h:∀H a r,fn a=some r->cl ad (.fn i [] []) (Mb args a) H=some (nV res r,H,H.length)):lC ad ⟨i,[],args,res,fun _ a=>fn a⟩:=by
 intro H F c a aU ws r h1 h2 av bc;cases aU with
 |nil=>rw[adt hn av];exact h H a r bc
 |cons x xs=>cases h1
theorem bW.hd{e:bM U}(h:bW ad (e::T)):lC ad e:=h e (qo ..)
end
end Go.Abs.hG
namespace Go.Abs.bZ
open Go Go.Abs Go.Abs.hG
noncomputable section
def adu (ad:Nat->Option cb):Prop:=∀(H0:Heap) (ab:Int) (r:Bool),zK ab=some r->cl ad (.fn 359 [] []) [.int .u8 ab] H0=some (.bool r,H0,H0.length)
def adv (ad:Nat->Option cb):Prop:=∀(H0:Heap) (ab:Int) (r:Bool),zL ab=some r->cl ad (.fn 362 [] []) [.int .u8 ab] H0=some (.bool r,H0,H0.length)
def adw (ad:Nat->Option cb):Prop:=∀(H0:Heap) (ab:Int) (r:Bool),FI ab=some r->cl ad (.fn 361 [] []) [.int .u8 ab] H0=some (.bool r,H0,H0.length)
def adx (ad:Nat->Option cb):Prop:=∀(H0:Heap) (ab:Int) (r:Bool),Cx ab=some r->cl ad (.fn 364 [] []) [.int .u8 ab] H0=some (.bool r,H0,H0.length)
def ady (ad:Nat->Option cb):Prop:=∀(H0:Heap) (ab:aW) (r:Bool),FF ab=some r->cl ad (.fn 365 [] []) [.str ab] H0=some (.bool r,H0,H0.length)
def adz (ad:Nat->Option cb):Prop:=∀(H0:Heap) (ab:aW) (r:Int),Cv ab=some r->cl ad (.fn 363 [] []) [.str ab] H0=some (aQ r,H0,H0.length)
def adA (ad:Nat->Option cb):Prop:=∀(H0:Heap) (Hl:cO) (arP:Own H0 Hl) (ab:aW) (ax:(Int->Option Bool)) (wP:V) (arQ:∀H low,fR H low wP=some (wP,H,low)) (arR:∀H (z0:Int) (q:Bool),Own H Hl->ax z0=some q->cl ad wP [.int .u8 z0] H=some (.bool q,H,H.length)) (r:Int),Cw ab ax=some r->cl ad (.fn 360 [] []) [.str ab,wP] H0=some (aQ r,H0,H0.length)
def adB (ad:Nat->Option cb):Prop:=∀(H0:Heap) (ab:aW) (r:Int),FH ab=some r->cl ad (.fn 358 [] []) [.str ab] H0=some (aQ r,H0,H0.length)
def adC (ad:Nat->Option cb):Prop:=∀(H0:Heap) (ab:Int) (r:Bool),Cy ab=some r->cl ad (.fn 425 [] []) [.int .u8 ab] H0=some (.bool r,H0,H0.length)
def Mc (ad:Nat->Option cb):Prop:=∀(H0:Heap) (ab:Int) (ax:Int) (r:Bool),np ab ax=some r->cl ad (.fn 120 [] []) [aQ ab,aQ ax] H0=some (.bool r,H0,H0.length)
def AF (ad:Nat->Option cb):Prop:=∀(H0:Heap) (Hl:cO) (arP:Own H0 Hl) (ab:(ak gz)) (ax:(gz->Option Bool)) (wP:V) (arQ:∀H low,fR H low wP=some (wP,H,low)) (arR:∀H (z0:gz) (q:Bool),Own H Hl->ax z0=some q->cl ad wP [.agg [aQ z0.Table,aQ z0.fP,aQ z0.cj]] H=some (.bool q,H,H.length)) (r:Bool),FD ab ax=some r->cl ad (.fn 128 [] []) [bU 3 jB ab,wP] H0=some (.bool r,H0,H0.length)
def arS (ad:Nat->Option cb):Prop:=∀(H0:Heap) (ab:(ak Range)) (ax:Int) (r:(ak Range)),FA ab ax=some r->cl ad (.fn 119 [] []) [bU 2 qV ab,aQ ax] H0=some (bU 2 qV r,H0,H0.length)
variable{ad:Nat->Option cb}
theorem arT (h:lC (U:=a8) ad ⟨359,[],[.v 3],[1],fun c a=>zK a.1⟩):adu ad:=fun H0 a0 r q=>h H0 [] () (a0,()) [] _ r rfl (.nil H0) ⟨_,rfl,rfl⟩ q
theorem arU (h:lC (U:=a8) ad ⟨362,[],[.v 3],[1],fun c a=>zL a.1⟩):adv ad:=fun H0 a0 r q=>h H0 [] () (a0,()) [] _ r rfl (.nil H0) ⟨_,rfl,rfl⟩ q
theorem arV (h:lC (U:=a8) ad ⟨361,[],[.v 3],[1],fun c a=>FI a.1⟩):adw ad:=fun H0 a0 r q=>h H0 [] () (a0,()) [] _ r rfl (.nil H0) ⟨_,rfl,rfl⟩ q
theorem arW (h:lC (U:=a8) ad ⟨364,[],[.v 3],[1],fun c a=>Cx a.1⟩):adx ad:=fun H0 a0 r q=>h H0 [] () (a0,()) [] _ r rfl (.nil H0) ⟨_,rfl,rfl⟩ q
theorem arX (h:lC (U:=a8) ad ⟨365,[],[.v 2],[1],fun c a=>FF a.1⟩):ady ad:=fun H0 a0 r q=>h H0 [] () (a0,()) [] _ r rfl (.nil H0) ⟨_,rfl,rfl⟩ q
theorem arY (h:lC (U:=a8) ad ⟨363,[],[.v 2],[0],fun c a=>Cv a.1⟩):adz ad:=fun H0 a0 r q=>h H0 [] () (a0,()) [] _ r rfl (.nil H0) ⟨_,rfl,rfl⟩ q
theorem arZ (h:lC (U:=a8) ad ⟨360,[],[.v 2,.f [3] 1],[0],fun c a=>Cw a.1 a.2.1⟩):adA ad:=fun H0 F aB a0 al ct tV h9 r q=>h H0 F () (a0,al,()) [] _ r rfl aB ⟨_,rfl,⟨ct,_,rfl,⟨tV,h9⟩,rfl⟩⟩ q
theorem ar0 (h:lC (U:=a8) ad ⟨358,[],[.v 2],[0],fun c a=>FH a.1⟩):adB ad:=fun H0 a0 r q=>h H0 [] () (a0,()) [] _ r rfl (.nil H0) ⟨_,rfl,rfl⟩ q
theorem ar1 (h:lC (U:=a8) ad ⟨425,[],[.v 3],[1],fun c a=>Cy a.1⟩):adC ad:=fun H0 a0 r q=>h H0 [] () (a0,()) [] _ r rfl (.nil H0) ⟨_,rfl,rfl⟩ q
theorem ar2 (h:lC (U:=a8) ad ⟨120,[],[.v 0,.v 0],[1],fun c a=>np a.1 a.2.1⟩):Mc ad:=fun H0 a0 al r q=>h H0 [] () (a0,al,()) [] _ r rfl (.nil H0) ⟨_,rfl,⟨_,rfl,rfl⟩⟩ q
theorem ar3 (h:lC (U:=a8) ad ⟨128,[],[.v 5,.f [4] 1],[1],fun c a=>FD a.1 a.2.1⟩):AF ad:=fun H0 F aB a0 al ct tV h9 r q=>h H0 F () (a0,al,()) [] _ r rfl aB ⟨_,rfl,⟨ct,_,rfl,⟨tV,h9⟩,rfl⟩⟩ q
end
end Go.Abs.bZ
