/- Texts of this claim, joined and written short by a program. -/
import Derived.Test.YtoimeckpnnkbpaaGreatDoorP27
import Derived.Test.YtoimeckpnnkbpaaGreatDoorP22
import Derived.Test.YtoimeckpnnkbpaaGreatDoorP24
import Derived.Test.YtoimeckpnnkbpaaGreatDoorP00
set_option linter.unusedVariables false
set_option linter.unusedSimpArgs false
set_option linter.unusedSectionVars false
namespace Go.Abs.gK
open Go Go.Abs
section
variable{J:ib}{b:Nat}{F:cN}{fs:List V}{s s1 s2 cC:bh J}{σ c1:bV}{H H1:Heap}{G ay:Nat->List (Nat × cc)}{ρ jP:List V}{aa:Nat->Option bY}{bR:ni J}{W:List Nat}
theorem XA (c:Bool)(x y:vC):(Ex c x y).val=bif c then x.val else y.val:=by
 unfold Ex;split
 ·split<;>rfl
 all_goals first|rfl|(cases c<;>simp[vC.val])
theorem XB{c:Bool}{x y:vC}{i:Nat}{n:Bool}{d:Bool}(h:Ex c x y=.nm i n d):∃a e,x=.nm i n a/\y=.nm i n e:=by
 unfold Ex at h;split at h
 ·split at h
  ·rename_i e;cases h;exact⟨_,_,rfl,by rw[e8 e]⟩
  ·rename_i e;cases h;exact⟨_,_,rfl,by rw[e8 e]⟩
  ·cases h
 all_goals cases h
def Jk (fs:List V)(l:Loc)(s1:bh J):WI J->Prop
 | .bad=>True
 | .v v=>∃v1,at_ s1 l=some v1/\∀(B:List Bool) (ρ:List V) (w:V),bU J B ρ fs v1 w->bU J B ρ fs v w
 | .b x=>∃v1,at_ s1 l=some v1/\w9 s1 v1=some x.val/\∀i n d,x=.nm i n d->v1=.bo i n
theorem OK{l:Loc}:∀{p:ow (bh J)},p.val=some s1->Jk fs l s1 (mx l p)
 | .bad,h=>by cases h
 | .leaf s,h=>by
   cases h;unfold mx;split
   ·trivial
   ·rename_i v ad
    split
    ·exact⟨_,ad,rfl,fun _ _ _ e=>by cases e⟩
    ·split
     ·rename_i hb;exact⟨_,ad,hb,fun _ _ _ e=>by cases e;rfl⟩
     ·trivial
    ·exact⟨_,ad,fun _ _ _ q=>q⟩
 | .br i c t e,h=>by
   have ht:c=true->Jk fs l s1 (mx l t):=fun hc=>OK (by subst hc;exact h);have he:c=false->Jk fs l s1 (mx l e):=fun hc=>OK (by subst hc;exact h);unfold mx;split
   ·rename_i x y h1 h2
    rw[h1]at ht;rw[h2]at he;cases c with
    |true=>
     obtain⟨v1,ai,a2,a3⟩:=ht rfl;refine⟨v1,ai,by rw[a2,XA];rfl,fun j n d q=> ?_⟩;obtain⟨_,_,q1,aS⟩:=XB q;exact a3 _ _ _ q1
    |false=>
     obtain⟨v1,ai,a2,a3⟩:=he rfl;refine⟨v1,ai,by rw[a2,XA];rfl,fun j n d q=> ?_⟩;obtain⟨_,_,q1,aS⟩:=XB q;exact a3 _ _ _ aS
   ·rename_i k a bp a7 h1 h2
    rw[h1]at ht;rw[h2]at he;split
    ·rename_i cW
     have cW:=of_decide_eq_true cW;subst cW;cases c
     ·exact he rfl
     ·exact ht rfl
    ·trivial
   ·rename_i a a7 h1 h2
    rw[h1]at ht;rw[h2]at he;cases c
    ·exact he rfl
    ·exact ht rfl
   ·rename_i v w _ _ h1 h2
    rw[h1]at ht;rw[h2]at he;split
    ·rename_i hs
     cases c with
     |false=>exact he rfl
     |true=>
      obtain⟨v1,ai,a2⟩:=ht rfl;exact⟨v1,ai,fun B ρ u q=>Ox hs (a2 B ρ u q)⟩
    ·trivial
   ·trivial
theorem OL:∀{p:ow (bh J)},Bt W p=true->∃s1,p.val=some s1/\(∀t∈s1.dw,t∈W)/\s1.cB=[]
 | .bad,h=>by cases h
 | .leaf s,h=>by
   simp only[Bt]at h;split at h
   ·rename_i af e2;exact⟨s,rfl,Oz af,e2⟩
   ·cases h
 | .br i c t e,h=>by
   simp only[Bt]at h;split at h
   ·rename_i h1
    cases c with
    |true=>obtain⟨s1,ai,a2⟩:=OL h1;exact⟨s1,ai,a2⟩
    |false=>obtain⟨s1,ai,a2⟩:=OL h;exact⟨s1,ai,a2⟩
   ·cases h
theorem XC{A:Type}[aM A]{S:A->Prop}(aC:mo S)(bq:b5 J b F fs s1 c1 H1 ay jP)(aL:ρ <+: jP){B:List Bool}(nS:B <+: s1.aI){p:ow (bh J)}(hp:p.val=some s1){k:bh J->A}:
  ∀{sl:List Nat} {cC:bh J},b5 J b F fs cC c1 H1 ay ρ->B <+: cC.aI->S (tC B.length ρ.length p sl cC k)->∃jQ,S (k jQ)/\b5 J b F fs jQ c1 H1 ay ρ/\hO sl [] cC jQ/\jQ.dw=cC.dw/\jQ.cB=cC.cB
 |[],cC,R,_,h=>⟨cC,h,R,.rfl,rfl,rfl⟩
 |t::r,cC,R,dr,h=>by
  have hm:=OK (fs:=fs) (l:=.s t) hp;simp only[tC]at h
  have go:∀{v:aJ J.ax} {l:List Bool},bU J (cC.aI++l) ρ fs v (c1 t)->S (tC B.length ρ.length p r {cC with vs:=(t,v)::cC.vs,aI:=cC.aI++l} k)->
    ∃jQ,S (k jQ)/\b5 J b F fs jQ c1 H1 ay ρ/\hO (t::r) [] cC jQ/\jQ.dw=cC.dw/\jQ.cB=cC.cB:=fun {v l} ad h=>by
   have nA:=BA (R.dQ (I4 l)) (l:=.s t) (w:=c1 t) rfl ad;obtain⟨jQ,ai,a2,a3,a4,a5⟩:=XC aC bq aL nS hp nA (dr.trans (hC _ _)) h;exact⟨jQ,ai,a2,(Jj (s:=cC) (l:=.s t) (v:=v) (hC cC.aI l) (fun q e=>by cases e;exact po ..) (fun _ _ e=>by cases e)).trans (a3.wide (fun q bc=>kQ _ bc) fun _ q=>q),a4,a5⟩
  have OM:∀{v:aJ J.ax},bU J cC.aI ρ fs v (c1 t)->S (tC B.length ρ.length p r {cC with vs:=(t,v)::cC.vs} k)->∃jQ,S (k jQ)/\b5 J b F fs jQ c1 H1 ay ρ/\hO (t::r) [] cC jQ/\jQ.dw=cC.dw/\jQ.cB=cC.cB:=fun {v} ad h=>
   go (v:=v) (l:=[]) (by rw[rz];exact ad) (by rw[rz];exact h)
  have nm:∀{x:vC},Jk fs (.s t) s1 (.b x)->bU J (cC.aI++[x.val]) ρ fs (.bo cC.aI.length false) (c1 t):=fun {x} ⟨v1,ai,a2,a3⟩=>by
   obtain⟨w,aH,bG⟩:=zp bq ai;cases aH;rw[Bv a2 bG];have:bU J (cC.aI++[x.val]) ρ fs (.bo cC.aI.length false) (.bool (x.val != false)):=.bo (by simp);simpa using this
  split at h
  ·rename_i v ad
   rw[ad]at hm;split at h
   ·rename_i hw
    obtain⟨v1,ai,a2⟩:=hm;obtain⟨w,aH,bG⟩:=zp bq ai;cases aH;exact OM ((Jc nS aL hw (a2 _ _ _ bG)).mono dr ea) h
   ·exact absurd h aC.bad
  ·rename_i x hx
   rw[hx]at hm;split at h
   ·rename_i d
    obtain⟨v1,ai,a2,a3⟩:=hm;obtain⟨w,aH,bG⟩:=zp bq ai;cases aH;exact OM (by rw[Bv a2 bG];exact .b0) h
   ·rename_i i neg d
    split at h
    ·rename_i hi
     obtain⟨v1,ai,a2,a3⟩:=hm;obtain⟨w,aH,bG⟩:=zp bq ai;cases aH;have:=a3 _ _ _ rfl;subst this;exact OM ((Jc nS aL (by simpa only[wf]using hi) bG).mono dr ea) h
    ·exact go (nm hm) h
   ·exact go (nm hm) h
  ·exact absurd h aC.bad
theorem XD{A:Type}[aM A]{S:A->Prop}(a1:gC J)(aC:mo S)(hT:re aa bR)(ab:∀j f,nth bR.fv j=some f->∃w,fs[j]? =some w/\nR aa F f.dK f.rt f.f w){ops:List bO}{dE:Option (List Nat)}{k:bh J->A}{Q:X->bV->Heap->Prop}
  (h:S (so bR ops [] s [] fun s wr=>IX dE ops wr (k s))) (R:b5 J b F fs s σ H G ρ)
  (cA:∀al aN H' G' cy,S (k al)->b5 J b F fs al aN H' G' cy->ρ <+: cy->Fr s al->Q .normal aN H'):eS aa b (.region ops dE) σ H Q:=by
 cases dE with
 |none=>exact o6 (zk a1 aC hT ab h .nil R (fun t v q=>by cases q) fun al aN H' G' cy e6 zl ai a0 a2 a3 a4=>cA _ _ _ _ _ ai a2 a3 a4)
 |some dE=>
  refine MN (zk a1 aC hT ab h .nil R (fun t v q=>by cases q) fun al aN H' G' cy e6 zl ai a0 a2 a3 a4=> ?_);simp only[IX]at ai;split at ai
  ·rename_i e;exact⟨aj2 a0 e,cA _ _ _ _ _ ai a2 a3 a4⟩
  ·exact absurd ai aC.bad
theorem hO.XE{XF ON:List Nat}{XG OO:List (Nat × Nat)}{tD jQ s2:bh J}(h:hO XF XG tD jQ)(_:True)(bM:Fr jQ s2)(lt:∀e∈tD.mem,e.1<tD.aB)(hW:∀t∈XF,t∈ON)(kH:∀p∈XG,p∈OO)(hd:∀t∈s2.dw,t∈ON)(hm:∀o j,(o,j)∈s2.cB->o<tD.aB->(o,j)∈OO):hO ON OO tD s2 where
 vs:=fun t ht=>(bM.vs t fun q=>ht (hd t q)).trans (h.vs t fun q=>ht (hW t q))
 aI:=h.aI.trans bM.aI
 aB:=cV h.aB bM.aB
 mem:=fun o w cs hc=>by
  obtain⟨oA,h1,h2,ar⟩:=h.mem o w cs hc;obtain⟨EM,cq,ee,k1⟩:=bM.mem o w oA h1;exact⟨EM,cq,ee.trans h2,fun j hj=>(k1 j fun q=>hj (hm o j q (lt _ (auD hc)))).trans (ar j fun q=>hj (kH _ q))⟩
 row:=fun o aP h0 hc=>(h.row o aP h0 hc).elim (fun h1=>(bM.row o aP h0 h1).imp id fun q=>hm o 0 q (lt _ (auD hc))) fun q=>.inr (kH _ q)
theorem b5.XH (R:b5 J b F fs s σ H G ρ){dw:List Nat}{cB:List (Nat × Nat)}:b5 J b F fs {s with dw:=dw,cB:=cB} σ H G ρ:=
 ⟨R.aB,R.vs,R.own,R.dk,R.lt,R.mem,R.dv⟩
theorem BC{A:Type}[aM A]{S:A->Prop}(a1:gC J)(aC:mo S)(hT:re aa bR)(ab:∀j f,nth bR.fv j=some f->∃w,fs[j]? =some w/\nR aa F f.dK f.rt f.f w){k:k6 J->bh J->A}:
  ∀{ops:List bO} {aw:k6 J} {bB:bV} {s:bh J} {σ:bV},S (sq bR ops aw s k)->b5 J b F fs s σ H G ρ->(∀t v,bd aw t=some v->bU J s.aI ρ fs v (bB t))->
  ∃fD s1 oC c1,fC (bZ aa) (dT s G F) ops bB σ oC c1/\S (k fD s1)/\b5 J b F fs s1 c1 H G ρ/\(∀t v,bd fD t=some v->bU J s1.aI ρ fs v (oC t))/\Fr s s1/\s1.mem=s.mem/\s1.aB=s.aB
 |[],aw,bB,s,σ,h,R,b6=>⟨aw,s,bB,σ,.nil,h,R,b6,.rfl,rfl,rfl⟩
 |⟨d,op,g⟩::r,aw,bB,s,σ,h,R,b6=>by
  have fin:∀{s1:bh J} {v:aJ J.ax} {w:V},iZ s s1->bU J s1.aI ρ fs v w->S (match put aw s1 v d with|(aw,s)=>sq bR r aw s k)->
    ∃fD s2 oC c1,fC (bZ aa) (dT s G F) r (fV bB d w) (fW σ d w) oC c1/\S (k fD s2)/\b5 J b F fs s2 c1 H G ρ/\(∀t v,bd fD t=some v->bU J s2.aI ρ fs v (oC t))/\Fr s s2/\s2.mem=s.mem/\s2.aB=s.aB:=by
   intro s1 v w cW ad h1;have oB:∀t v,bd aw t=some v->bU J s1.aI ρ fs v (bB t):=fun t v q=>(b6 t v q).mono cW.aI ea;have bj:dT s G F=dT s1 G F:=by unfold dT;rw[cW.mem]
   rw[bj,<-cW.mem,<-cW.aB]
   match d with
   |none=>
    obtain⟨fD,s2,a,c,af,e2,bT,cF,ej,j2⟩:=BC a1 aC hT ab h1 (R.dQ cW) oB;exact⟨fD,s2,a,c,af,e2,bT,cF,cW.bM.trans ej,j2⟩
   |some (t,false)=>
    obtain⟨fD,s2,a,c,af,e2,bT,cF,ej,j2⟩:=BC a1 aC hT ab h1 (R.dQ cW) (Ov oB ad);exact⟨fD,s2,a,c,af,e2,bT,cF,cW.bM.trans ej,j2⟩
   |some (t,true)=>
    obtain⟨fD,s2,a,c,af,e2,bT,cF,ej,j2⟩:=BC a1 aC hT ab h1 ((R.dQ cW).put ad) oB;exact⟨fD,s2,a,c,af,e2,bT,cF,cW.bM.trans (Oi.trans ej),j2⟩
  have go:∀{s1:bh J},iZ s s1->gJ bB σ g=some true->S (NY bR aw s1 d (fun v s=>match put aw s v d with|(aw,s)=>sq bR r aw s k) op)->
    ∃fD s2 oC c1,fC (bZ aa) (dT s G F) (⟨d,op,g⟩::r) bB σ oC c1/\S (k fD s2)/\b5 J b F fs s2 c1 H G ρ/\(∀t v,bd fD t=some v->bU J s2.aI ρ fs v (oC t))/\Fr s s2/\s2.mem=s.mem/\s2.aB=s.aB:=by
   intro s1 cW hw h1;have bq:=R.dQ cW;have oB:∀t v,bd aw t=some v->bU J s1.aI ρ fs v (bB t):=fun t v q=>(b6 t v q).mono cW.aI ea;have bj:dT s G F=dT s1 G F:=by unfold dT;rw[cW.mem]
   unfold NY at h1;split at h1
   ·split at h1
    ·rename_i fv akb zj vI
     obtain⟨v,al,w,h1,h2,ar,aQ⟩:=W2 a1 aC bq hT ab h1 (db bq oB zj) (vD bq oB vI);obtain⟨fD,s2,a,c,af,e2⟩:=fin (cW.trans h2) ar h1;exact⟨fD,s2,a,c,.step hw (fun H' aA=>by rw[bj]at aA;exact wV (aQ H' aA).1 (aQ H' aA).2 rfl rfl) af,e2⟩
    ·exact absurd h1 aC.bad
   ·obtain⟨v,al,w,h1,h2,ar,aQ⟩:=Ob (call:=bZ aa) a1 aC bq oB h1
    obtain⟨fD,s2,a,c,af,e2⟩:=fin (cW.trans h2) ar h1;exact⟨fD,s2,a,c,.step hw (fun H' aA=>by rw[bj]at aA;exact aQ H' aA) af,e2⟩
  have skip:∀{s1:bh J},iZ s s1->gJ bB σ g=some false->S (match put aw s1 (.aU []) d with|(aw,s)=>sq bR r aw s k)->
    ∃fD s2 oC c1,fC (bZ aa) (dT s G F) (⟨d,op,g⟩::r) bB σ oC c1/\S (k fD s2)/\b5 J b F fs s2 c1 H G ρ/\(∀t v,bd fD t=some v->bU J s2.aI ρ fs v (oC t))/\Fr s s2/\s2.mem=s.mem/\s2.aB=s.aB:=by
   intro s1 cW hw h1;obtain⟨fD,s2,a,c,af,e2⟩:=fin cW (.aU .nil) h1;exact⟨fD,s2,a,c,.skip hw af,e2⟩
  simp only[sq]at h
  match g with
  |none=>exact go .rfl rfl h
  |some (x,w)=>
   simp only at h;split at h
   ·exact absurd h aC.bad
   ·rename_i v ad
    have l9:=db R b6 ad;split at h
    ·generalize zi:bN bB σ x=vE at l9
     cases l9 with
     |aU fj=>cases fj;exact skip .rfl (VR zi) h
    ·cases w with
     |true=>
      obtain⟨β,s1,af,e2,bT,cF⟩:=Bu aC h R.dv l9;rcases cF with⟨rfl,h⟩|⟨rfl,h⟩
      ·exact go e2 (hJ af rfl) h
      ·exact skip e2 (Ht af rfl) h
     |false=>
      obtain⟨β,s1,af,e2,bT,cF⟩:=Bu aC h R.dv l9;rcases cF with⟨rfl,h⟩|⟨rfl,h⟩
      ·exact skip e2 (Hu af rfl) h
      ·exact go e2 (hJ af rfl) h
theorem akq{dE:List Nat}{ops:List bO}{wr mq:List Bool}(h:gD wr mq)(ho:wk dE ops mq=true):wk dE ops wr=true:=by
 unfold wk at ho⊢;simp only[b8]at ho⊢;obtain⟨⟨h1,h2⟩,ar⟩:=ho;refine⟨⟨(h.take _).no h1,?_⟩,ar⟩;rw[eV]at h2⊢;rintro⟨w,i⟩ hw;cases w with
 |false=>rfl
 |true=>
  have hi:=h.get (ie.1 hw);exact h2 (true,i) (ie.2 hi)
theorem XI{n:Nat}:∀{m:List (Nat × ch J)},IY n m=true->∀e∈m,n<=e.1
 |[],_,_,h=>by cases h
 |a::r,h,e,he=>by
  simp only[IY]at h;split at h
  ·rename_i q
   rcases dA.1 he with rfl|he
   ·exact km q
   ·exact XI h e he
  ·cases h
theorem p8.low{b eL:Nat}(hb:b<=eL){B:List Bool}{o:Nat}{m:List (Nat × cc)}:∀{aP:ch J},p8 J eL B ρ fs o m aP->p8 J b B ρ fs o m aP
 | .cells w cs,⟨a,ws,h1,h2,ar,aQ⟩=>⟨a,ws,h1,h2,ar,fun q=>cV hb (aQ q)⟩
 | .row t s,⟨v,h1,h2⟩=>⟨v,h1,by
   unfold hf at h2⊢;generalize s.map (J.enc t)=x at h2;cases h2 with
   |nil=>exact .nil
   |emp=>exact .emp
   |row l ds h q=>exact .row l ds h (cV hb q)⟩
 | .mp k w x,⟨a,h1,h2,ar⟩=>⟨a,h1,h2,cV hb ar⟩
theorem akr{A:Type}[aM A]{S:A->Prop}(a1:gC J)(aC:mo S)(hT:re aa bR)(ab:∀j f,nth bR.fv j=some f->∃w,fs[j]? =some w/\nR aa F f.dK f.rt f.f w){ops:List bO}{dE:List Nat}{k:bh J->A}{Q:X->bV->Heap->Prop}
  (h:S (sq bR (ops.take (kt ops)) [] s fun aw s=>so bR (ops.drop (kt ops)) aw {s with mem:=[]} (List.replicate (kt ops) false) fun al wr=>N0 dE ops wr s.aB al.mem (k {al with mem:=al.mem++s.mem}))) (R:b5 J b F fs s σ H G ρ)
  (cA:∀al aN H' G' cy,S (k al)->b5 J b F fs al aN H' G' cy->ρ <+: cy->Fr s al->Q .normal aN H'):eS aa b (.region ops (some dE)) σ H Q:=by
 obtain⟨fD,s1,oC,c1,p1,p2,bq,j6,qa,xi,EU⟩:=BC a1 aC hT ab h R (fun t v q=>by cases q);refine Wb (kt ops) R.own rfl p1 fun hb=> ?_
 have KL:∀j f,nth bR.fv j=some f->∃w,fs[j]? =some w/\nR aa (dT s1 G F) f.dK f.rt f.f w:=fun j f q=>by
  obtain⟨w,af,e2,bT⟩:=ab j f q;exact⟨w,af,e2,fun H z q aA aT=>bT H z q (aA.sub (Ke _ _)) aT⟩
 have OP:b5 J H.length (dT s1 G F) fs {s1 with mem:=[]} c1 H (fun _=>[]) ρ:=⟨bq.aB,bq.vs,bq.own,FR,fun _ q=>(by cases q),fun _ _ q=>(by cases q),bq.dv⟩;refine zk a1 aC hT KL p2 (gD.refl _) OP j6 fun s2 js H2 bl vJ wr mq ai a2 dY a4 a5=> ?_;unfold N0 at ai;split at ai
 ·rename_i af e2
  have hge:=XI e2
  have no:∀{q},q<s1.aB->bd s2.mem q=none:=fun {q} bc=>W8 fun hm=>by
   obtain⟨e,he,rfl⟩:=ey.1 hm;exact absurd (hge e he) (Nat.not_le.2 bc)
  refine⟨akq a2 af,cA _ js H2 (fun q=>if q<s1.aB then G q else bl q) vJ ai ⟨dY.aB,dY.vs,?_,?_,fun e he=> ?_,fun o aP ho=> ?_,dY.dv⟩ a4 (qa.trans ?_)⟩
  ·have:=dY.own
   unfold dT at this⊢;simp only at this⊢;rw[nW,mS];have bT:s2.mem.map (fun e=>if e.1<s1.aB then G e.1 else bl e.1)=s2.mem.map fun e=>bl e.1:=pn fun e he=>if_neg (Nat.not_lt.2 (hge e he));have cF:s1.mem.map (fun e=>if e.1<s1.aB then G e.1 else bl e.1)=s1.mem.map fun e=>G e.1:=pn fun e he=>if_pos (bq.lt e he);rw[bT,cF];exact this
  ·simp only[nW]
   refine FM.2 ⟨dY.dk,bq.dk,fun x hx y hy e=> ?_⟩;obtain⟨p,hp,rfl⟩:=ey.1 hx;obtain⟨q,bc,rfl⟩:=ey.1 hy;have:=hge p hp;have:=bq.lt q bc;omega
  ·rcases jA.1 he with he|he
   ·exact dY.lt e he
   ·exact qs (bq.lt e he) a5.aB
  ·have ho:bd (s2.mem++s1.mem) o=some aP:=ho
   rw[IC]at ho;cases hm:bd s2.mem o with
   |some c=>
    rw[hm]at ho;cases ho;simp only[if_neg (Nat.not_lt.2 (hge _ (auD hm)))];exact(dY.mem o aP hm).low hb
   |none=>
    rw[hm]at ho;simp only[if_pos (bq.lt _ (auD ho))];exact(bq.mem o aP ho).mono a5.aI a4
  ·exact⟨a5.vs,a5.dw,a5.cB,a5.aI,a5.aB,fun o w cs hm=>⟨cs,by
    show bd (s2.mem++s1.mem) o=_;rw[IC,no (bq.lt _ (auD hm))];exact hm,rfl,fun _ _=>rfl⟩,fun o aP hc hm=>.inl (by
    show bd (s2.mem++s1.mem) o=_;rw[IC,no (bq.lt _ (auD hm))];exact hm)⟩
 ·exact absurd ai aC.bad
theorem gD.pre:∀(l:List Bool) {r mU:List Bool},gD r mU->gD (l++r) (l++mU)
 |[],_,_,h=>h
 | _::l,_,_,h=>.cons id (gD.pre l h)
theorem aDS{o n:Nat}{c d:ch J}:∀{p q:List (Nat × ch J)},bd p o=some d->mO o n c (p++q)=mO o n c p++q
 |[],_,h=>by cases h
 |(a,e)::r,q,h=>by
  simp only[bd]at h;simp only[jz,mO];split at h
  ·rename_i af
   rw[af];rfl
  ·rename_i af
   rw[af];simp only[aDS h];rfl
section
variable{p:List (Nat × ch J)}
theorem b5.ay3 (R:b5 J b F fs {s with mem:=p++s.mem} σ H G ρ){o:Nat}{c:ch J}(h:bd s.mem o=some c):bd (p++s.mem) o=some c:=by
 have hn:((p++s.mem).map Prod.fst).Nodup:=R.dk;rw[nW,FM]at hn;rw[IC,W8 fun q=>hn.2.2 _ q _ (sL (f:=Prod.fst) (auD h)) rfl];exact h
theorem b5.aJm (R:b5 J b F fs {s with mem:=p++s.mem} σ H G ρ):b5 J b F fs s σ H G ρ where
 aB:=R.aB
 vs:=R.vs
 own:=R.own.sub (by unfold dT;simp only[nW,mS];exact Ke _ _)
 dk:=by
  have hn:((p++s.mem).map Prod.fst).Nodup:=R.dk;rw[nW,FM]at hn;exact hn.2.1
 lt:=fun e he=>R.lt e (pk _ he)
 mem:=fun o c h=>R.mem o c (R.ay3 h)
 dv:=R.dv
theorem b5.aJn (R:b5 J b F fs {s with mem:=p++s.mem} σ H G ρ)(bq:b5 J b F fs s1 c1 H G ρ)(hm:s1.mem=s.mem)(hn:s1.aB=s.aB)(hb:s.aI <+: s1.aI):b5 J b F fs {s1 with mem:=p++s1.mem} c1 H G ρ where
 aB:=bq.aB
 vs:=bq.vs
 own:=by have:=R.own;unfold dT at this⊢; simp only at this⊢; rw[hm];exact this
 dk:=by have:=R.dk;simp only at this⊢; rw[hm];exact this
 lt:=fun e he=>by
  have he:e∈p++s1.mem:=he;rw[hm]at he;show e.1<s1.aB;rw[hn];exact R.lt e he
 mem:=fun o c h=>by
  have h:bd (p++s1.mem) o=some c:=h;rw[hm]at h;exact(R.mem o c h).mono hb ea
 dv:=bq.dv
end
theorem aw3{A:Type}[aM A]{S:A->Prop}(a1:gC J)(aC:mo S)(hT:re aa bR)(ab:∀j f,nth bR.fv j=some f->∃w,fs[j]? =some w/\nR aa F f.dK f.rt f.f w){k:k6 J->bh J->List (Nat × ch J)->List Bool->A}:
  ∀{ops:List bO} {aw:k6 J} {bB:bV} {s:bh J} {σ:bV} {H:Heap} {G:Nat->List (Nat × cc)} {ρ:List V} {p:List (Nat × ch J)} {w:List Bool},S (avm bR ops aw s p w k)->b5 J b F fs {s with mem:=p++s.mem} σ H G ρ->(∀t v,bd aw t=some v->bU J s.aI ρ fs v (bB t))->b<=H.length->
  ∃fD s1 p1 oC c1 H1 ay jP aH,qp aa b (dT s G F) ops bB σ H oC c1 H1 aH/\S (k fD s1 p1 (w++aH))/\b5 J b F fs {s1 with mem:=p1++s1.mem} c1 H1 ay jP/\(∀t v,bd fD t=some v->bU J s1.aI jP fs v (oC t))/\ρ <+: jP/\Fr s s1/\s1.mem=s.mem
 |[],aw,bB,s,σ,H,G,ρ,p,w,h,R,b6,hb=>⟨aw,s,p,bB,σ,H,G,ρ,[],.nil,by rw[rz];exact h,R,b6,ea,.rfl,rfl⟩
 |o::r,aw,bB,s,σ,H,G,ρ,p,w,h,R,b6,hb=>by
  have OP:=R.aJm
  have fin:∀{d:Option (Nat × Bool)} {op:cH} {p1:List (Nat × ch J)} {v':V} {H1:Heap} {bI:Nat} {m':List (Nat × cc)},b2 (bZ aa) (bN bB σ) H H.length op=some (v',H1,bI)->b<=bI->b<=H1.length->
    b5 J b F fs {s with mem:=p1++s.mem,aB:=s.aB+1} σ H1 (fun q=>if q=s.aB then m' else G q) (ρ++[v'])->
    S (match put aw {s with aB:=s.aB+1} (.row s.aB) d with|(aw,s1)=>avm bR r aw s1 p1 (w++[true]) k)->
    ∃fD s1 p1 oC c1 H1 ay jP aH,qp aa b (dT s G F) (⟨d,op,none⟩::r) bB σ H oC c1 H1 aH/\S (k fD s1 p1 (w++aH))/\b5 J b F fs {s1 with mem:=p1++s1.mem} c1 H1 ay jP/\(∀t v,bd fD t=some v->bU J s1.aI jP fs v (oC t))/\ρ <+: jP/\Fr s s1/\s1.mem=s.mem:=by
   intro d op p1 v' H1 bI m' dq fb gG bq h1
   have av1:dT s (fun q=>if q=s.aB then m' else G q) F=dT s G F:=by
    unfold dT;congr 1;exact pn fun e he=>if_neg (oH (OP.lt e he))
   have w0:Own H1 (dT s G F):=by
    rw[<-av1];exact bq.own.sub (by unfold dT;simp only[nW,mS];exact Ke _ _)
   have oB:∀t v,bd aw t=some v->bU J s.aI (ρ++[v']) fs v (bB t):=fun t v q=>(b6 t v q).mono ea (hC _ _);have l9:bU J s.aI (ρ++[v']) fs (.row s.aB) v':=.row (OP.new v');have ay4:Fr s {s with aB:=s.aB+1}:=⟨fun _ _=>rfl,fun _ h=>h,fun _ h=>h,ea,Ch _,fun o w cs hm=>⟨cs,hm,rfl,fun _ _=>rfl⟩,fun _ _ _ h=>.inl h⟩
   match d,h1 with
   |none,h1=>
    obtain⟨fD,s1,p2,oC,c1,H2,ay,jP,aH,af,e2,bT,cF,ej,j2,wX⟩:=aw3 (s:={s with aB:=s.aB+1}) a1 aC hT ab h1 bq oB gG;have af:qp aa b (dT s (fun q=>if q=s.aB then m' else G q) F) r bB σ H1 oC c1 H2 aH:=af;rw[av1]at af;exact⟨fD,s1,p2,oC,c1,H2,ay,jP,true::aH,.make rfl dq fb gG w0 af,by simpa using e2,bT,cF,(hC _ _).trans ej,ay4.trans j2,wX⟩
   |some (t,false),h1=>
    obtain⟨fD,s1,p2,oC,c1,H2,ay,jP,aH,af,e2,bT,cF,ej,j2,wX⟩:=aw3 (s:={s with aB:=s.aB+1}) a1 aC hT ab h1 bq (Ov oB l9) gG;have af:qp aa b (dT s (fun q=>if q=s.aB then m' else G q) F) r (up bB t v') σ H1 oC c1 H2 aH:=af;rw[av1]at af;exact⟨fD,s1,p2,oC,c1,H2,ay,jP,true::aH,.make rfl dq fb gG w0 af,by simpa using e2,bT,cF,(hC _ _).trans ej,ay4.trans j2,wX⟩
   |some (t,true),h1=>
    obtain⟨fD,s1,p2,oC,c1,H2,ay,jP,aH,af,e2,bT,cF,ej,j2,wX⟩:=aw3 a1 aC hT ab h1 (bq.put l9) oB gG;have af:qp aa b (dT s (fun q=>if q=s.aB then m' else G q) F) r bB (up σ t v') H1 oC c1 H2 aH:=af;rw[av1]at af;exact⟨fD,s1,p2,oC,c1,H2,ay,jP,true::aH,.make rfl dq fb gG w0 af,by simpa using e2,bT,cF,(hC _ _).trans ej,ay4.trans (Oi.trans j2),wX⟩
  simp only[avm]at h;split at h
  ·rename_i d f aO
   split at h
   ·rename_i i v Ap vI
    split at h
    ·rename_i q bc
     split at h
     ·rename_i x hx
      obtain⟨z,aT,h⟩:=aC.c2 h;obtain⟨cJ,akc,cZ,hn⟩:=hT.2 _ (auD bc);have ao:=vD OP b6 vI
      obtain⟨iV,rfl⟩:∃iV,aO=[iV]:=by
       have:=ao.length
       match aO,this with
       |[iV],_=>exact⟨iV,rfl⟩
      cases ao with
      |cons ad _=>
       have im:=db OP b6 Ap;generalize Ou:bN bB σ f=wf at im;cases im with
       |fn hl=>
        cases hl;obtain⟨v',H1,m',dq,fb,gG,iC⟩:=We (b:=b) cZ hn aT R.own Ou (EN hx ad) (a1.bs q.1) (a1.ok q.1) hb;exact fin (p1:=(s.aB,.row q.1 z)::p) dq hb (cV hb iC) (R.add gG ⟨v',R.new v',fb⟩) h
     ·exact absurd h aC.bad
    ·exact absurd h aC.bad
   ·exact absurd h aC.bad
  ·rename_i d es bytes iV lj
   split at h
   ·rename_i q y Oq Ot
    split at h
    ·rename_i t x hm
     split at h
     ·rename_i n8 af e2
      obtain⟨z,aT,h⟩:=aC.c2 h;have mY:bd (p++s.mem) q=some (.row t x):=by rw[IC,hm]
      obtain⟨ek,n7,adQ⟩:∃v,ρ[q]? =some v/\hf b (J.es t) (J.enc t) v x (G q):=R.mem q _ mY
      have gT:bN bB σ iV=ek:=by
       have:=db OP b6 Oq;cases this with
       |row h1=>rw[n7]at h1;exact(rA h1).symm
      have fa:=e8 af;subst fa;obtain⟨aJo,cq,ee⟩:=R.rep mY;obtain⟨v',H1,bI,m',dq,fb,gG,iC,jj⟩:=aqx (aa:=aa) (b:=b) hb aJo aT R.own cq adQ gT (EN e2 (db OP b6 Ot)) (a1.bs t) (a1.ok t);have dY:=ee (c:=.row t z) (cB:=s.cB) ⟨v',R.new v',iC⟩ jj;have bT:mO q s.aB (.row t z) (p++s.mem)=mO q s.aB (.row t z) p++s.mem:=aDS hm;have mb:b5 J b F fs {s with mem:=mO q s.aB (.row t z) p++s.mem,aB:=s.aB+1} σ H1 (fun q=>if q=s.aB then m' else G q) (ρ++[v']):=by rw[<-bT];exact dY
      exact fin gG dq fb mb h
     ·exact absurd h aC.bad
    ·exact absurd h aC.bad
   ·rename_i x t y aNd Oq Ot
    split at h
    ·rename_i af e2
     obtain⟨z,aT,h⟩:=aC.c2 h;have fa:=e8 af;subst fa
     have hy:bN bB σ lj=bg (J.es t) (J.enc t) y:=by
      have:=db OP b6 Ot;generalize bN bB σ lj=WR at this;cases this;rfl
     obtain⟨v',H1,bI,m',dq,fb,gG,iC,jj⟩:=aqx (aa:=aa) (b:=b) hb 0 aT (R.own.ins 0) rfl jr.emp (Xh e2 (db OP b6 Oq)) hy (a1.bs t) (a1.ok t);exact fin (p1:=(s.aB,.row t z)::p) gG dq fb (R.add jj ⟨v',R.new v',iC⟩) h
    ·exact absurd h aC.bad
   ·exact absurd h aC.bad
  ·rename_i o' te Az
   obtain⟨fD,s1,oC,c1,q1,aS,mb,cL,et,gz,jI⟩:=BC a1 aC hT ab h OP b6;have av1:dT s1 G F=dT s G F:=by unfold dT;rw[gz]
   obtain⟨OS,s2,p2,OT,js,H2,bl,vJ,bG,af,e2,bT,cF,ej,j2,wX⟩:=aw3 a1 aC hT ab aS (R.aJn mb gz jI et.aI) cL hb;rw[av1]at af;refine⟨OS,s2,p2,OT,js,H2,bl,vJ,[false]++bG,qp.append (fC.aJi q1) af,by simpa using e2,bT,cF,ej,et.trans j2,wX.trans gz⟩
theorem akt{A:Type}[aM A]{S:A->Prop}(a1:gC J)(aC:mo S)(hT:re aa bR)(ab:∀j f,nth bR.fv j=some f->∃w,fs[j]? =some w/\nR aa F f.dK f.rt f.f w){ops:List bO}{dE:List Nat}{n:Nat}{k:bh J->A}{Q:X->bV->Heap->Prop}
  (h:S (N1 bR dE ops n s k)) (R:b5 J b F fs s σ H G ρ) (cA:∀al aN H' G' cy,S (k al)->b5 J b F fs al aN H' G' cy->ρ <+: cy->Fr s al->Q .normal aN H'):eS aa b (.region ops (some dE)) σ H Q:=by
 refine aJk (ms:=dT s G F) (B7 n ops) R.own fun hb=> ?_;obtain⟨fD,s1,p1,oC,c1,H1,ay,jP,aH,af,e2,bT,cF,ej,j2,wX⟩:=aw3 (bB:=mL) (p:=[]) a1 aC hT ab h R (fun t v q=>by cases q) hb;rw[jB]at e2;refine⟨oC,c1,H1,aH,af,fun w' hw=> ?_⟩;have f1:Fr s1 {s1 with mem:=p1++s1.mem}:=⟨fun _ _=>rfl,fun _ h=>h,fun _ h=>h,ea,aK _,fun o w cs hm=>⟨cs,bT.ay3 hm,rfl,fun _ _=>rfl⟩,fun o c hc hm=>.inl (bT.ay3 hm)⟩;refine zk a1 aC hT ab e2 hw.rev bT cF fun al aN H' G' cy wr mq ai a2 OV a4 a5=> ?_;split at ai
 ·rename_i e
  exact⟨aJj a2 e,cA _ _ _ _ _ ai OV (ej.trans a4) (j2.trans (f1.trans a5))⟩
 ·exact absurd ai aC.bad
theorem akx{c:cj}{Q:X->bV->Heap->Prop}(h:eS aa b c σ H (andThen aa b (.loop c) Q)):eS aa b (.loop c) σ H Q:=fun av low h1 h2 ar=>by
 obtain⟨x,dD,H',low',aN,af,e2,bT,cF,ej⟩:=h av low h1 h2 ar;rw[py,af];cases x with
 |normal=>exact ej dD low' e2 bT cF
 |exit i=>exact⟨_,_,_,_,aN,rfl,e2,bT,cF,ej⟩
 |ret=>exact⟨_,_,_,_,aN,rfl,e2,bT,cF,ej⟩
theorem XJ (a1:gC J){f:kM J->{A:Type}->[aM A]->bh J->(X->bh J->A)->A}{a:cj}(ih:∀{an:kM J} {A:Type} [aM A] {S:A->Prop},mo S->∀{s:bh J} {k:X->bh J->A} {σ:bV} {H:Heap} {G:Nat->List (Nat × cc)} {ρ:List V} {Q:X->bV->Heap->Prop},S (f an s k)->b5 J b F fs s σ H G ρ->
   (∀x al aN H' G' cy,S (k x al)->b5 J b F fs al aN H' G' cy->ρ <+: cy->Fr s al->Q x aN H')->eS aa b a σ H Q) {hd:mP J} {os:xe J} {x:kM J} {A:Type} [aM A] {S:A->Prop} (aC:mo S) {s:bh J} {k:X->bh J->A} {σ:bV} {H:Heap} {G:Nat->List (Nat × cc)} {ρ:List V} {Q:X->bV->Heap->Prop}
  (h:S (IZ f (jM a) hd os x s k)) (R:b5 J b F fs s σ H G ρ) (cA:∀x al aN H' G' cy,S (k x al)->b5 J b F fs al aN H' G' cy->ρ <+: cy->Fr s al->Q x aN H'):eS aa b (.loop a) σ H Q:=by
 unfold IZ at h;split at h
 ·exact absurd h aC.bad
 ·rename_i aky akz
  obtain⟨o,ho,h⟩:=aC.c2 h
  refine fe _ (fun st aN H'=>∃G' cy,b5 J b F fs (fresh (enter (jM a) [] hd st s)) aN H' G' cy/\ρ <+: cy)
   (fun o x aN H'=>∃s2 G' cy,(S (leave (fq hd++jM a) (hN hd) s k os o)->S (k x s2))/\b5 J b F fs s2 aN H' G' cy/\ρ <+: cy/\Fr s s2) ho ?_ ?_ ?_
  ·obtain⟨G',cy,bA,b9⟩:=Ji (W:=jM a) (M:=[]) a1 R R ea .rfl akz
   exact⟨G',cy,bA.Jh,b9⟩
  ·rintro st c1 H1 r ⟨ay,jP,bq,XK⟩ hr
   refine ih (N6 r) hr bq fun eI s2 js H2 bl vJ ai a2 a3 a4=> ?_
   have base:hO (fq hd++jM a) ([]++hN hd) s (fresh (enter (jM a) [] hd st s)):=by
    have:=Xx (W:=jM a) (M:=[]) R.lt (x:=st);exact⟨this.vs,this.aI,this.aB,this.mem,this.row⟩
   have mG:s.aB<=(fresh (enter (jM a) [] hd st s)).aB:=base.aB
   have XL:∀{y:y5 J (y9 os)},za s.aI.length s.aB (fq hd++jM a) (hN hd) eI s2 os=some y->∃dL G' cy,(S (leave (fq hd++jM a) (hN hd) s k os y)->S (k eI dL))/\b5 J b F fs dL js H2 G' cy/\ρ <+: cy/\Fr s dL:=by
    intro y hy;obtain⟨sh,z,g1,g2⟩:=OJ (S:=S) (s:=s) (k:=k) hy;obtain⟨q1,aS,b1⟩:=OI g1
    have gw:hO (fq sh++(fq hd++jM a)) (hN hd++hN sh) s s2:=
     base.XE (by simp) a4 R.lt (fun t ht=>pk _ ht) (fun p hp=>we _ (by simpa using hp)) (fun t ht=>pk _ (q1 t ht)) aS
    obtain⟨G',cy,bA,b9⟩:=Ji a1 R a2 (XK.trans a3) gw b1;exact⟨_,G',cy,g2,bA,b9,Xy R.lt⟩
   cases eI with
   |normal=>
    simp only at ai;split at ai
    ·rename_i y hy
     cases ai;obtain⟨q1,aS,b1⟩:=OI hy;have gw:hO (fq hd++jM a) ([]++hN hd) s s2:=base.XE (by simp) a4 R.lt (fun _ h=>h) (fun _ h=>h) (fun t ht=>pk _ (q1 t ht)) aS;obtain⟨G',cy,bA,b9⟩:=Ji a1 R a2 (XK.trans a3) gw b1;exact⟨rfl,G',cy,bA.Jh,b9⟩
    ·cases ai
   |exit i=>
    simp only at ai;split at ai
    ·rename_i y hy;cases ai;exact⟨nofun,XL hy⟩
    ·cases ai
   |ret=>
    simp only at ai;split at ai
    ·rename_i y hy;cases ai;exact⟨nofun,XL hy⟩
    ·cases ai
  ·rintro eI c1 H1 ⟨s2,bl,vJ,dq,fb,gG,iC⟩
   exact cA _ _ _ _ _ _ (dq h) fb gG iC
set_option maxHeartbeats 1000000 in
theorem tH (a1:gC J)(hT:re aa bR)(ab:∀j f,nth bR.fv j=some f->∃w,fs[j]? =some w/\nR aa F f.dK f.rt f.f w):
  ∀{c:cj} {an:kM J} {A:Type} [aM A] {S:A->Prop},mo S->∀{s:bh J} {k:X->bh J->A} {σ:bV} {H:Heap} {G:Nat->List (Nat × cc)} {ρ:List V} {Q:X->bV->Heap->Prop},S (kj bR c an s k)->b5 J b F fs s σ H G ρ->
   (∀x al aN H' G' cy,S (k x al)->b5 J b F fs al aN H' G' cy->ρ <+: cy->Fr s al->Q x aN H')->eS aa b c σ H Q
 | .skip,an,A,_,S,aC,s,k,σ,H,G,ρ,Q,h,R,cA=>qV (cA _ _ _ _ _ _ h R ea .rfl)
 | .ret,an,A,_,S,aC,s,k,σ,H,G,ρ,Q,h,R,cA=>ti (cA _ _ _ _ _ _ h R ea .rfl)
 | .exit i,an,A,_,S,aC,s,k,σ,H,G,ρ,Q,h,R,cA=>Dz (cA _ _ _ _ _ _ h R ea .rfl)
 | .region ops dE,an,A,_,S,aC,s,k,σ,H,G,ρ,Q,h,R,cA=>by
   unfold kj at h;split at h
   ·exact akr (k:=fun s=>k .normal s) a1 aC hT ab h R fun al aN H' G' cy ai a2 a3 a4=>cA _ _ _ _ _ _ ai a2 a3 a4
   ·exact akt (k:=fun s=>k .normal s) a1 aC hT ab h R fun al aN H' G' cy ai a2 a3 a4=>cA _ _ _ _ _ _ ai a2 a3 a4
   ·exact XD (k:=fun s=>k .normal s) a1 aC hT ab h R fun al aN H' G' cy ai a2 a3 a4=>cA _ _ _ _ _ _ ai a2 a3 a4
 | .seq a c,an,A,_,S,aC,s,k,σ,H,G,ρ,Q,h,R,cA=>by
   have snd:∀{y:kM J} {x:X} {al:bh J} {aN:bV} {H':Heap} {G':Nat->List (Nat × cc)} {cy:List V},S (match x with| .normal=>kj bR c y al k|x=>k x al)->b5 J b F fs al aN H' G' cy->ρ <+: cy->Fr s al->andThen aa b c Q x aN H':=by
    intro y x al aN H' G' cy ai a2 a3 a4;cases x with
    |normal=>exact tH a1 hT ab aC ai a2 fun x s2 js H2 bl vJ dm gy jO lg=>cA _ _ _ _ _ _ dm gy (a3.trans jO) (a4.trans lg)
    |exit i=>exact cA _ _ _ _ _ _ ai a2 a3 a4
    |ret=>exact cA _ _ _ _ _ _ ai a2 a3 a4
   unfold kj at h;split at h
   ·rename_i os x y
    obtain⟨o,ho,h⟩:=aC.c2 h;refine kc (tH a1 hT ab (N6 o) ho R.Jh fun eI s1 c1 H1 ay jP ai a2 a3 a4=> ?_);obtain⟨sh,z,g1,g2⟩:=OJ (S:=S) (s:=s) (k:=fun x al=>match x with| .normal=>kj bR c y al k|x=>k x al) ai;obtain⟨q1,aS,b1⟩:=OI g1
    have gw:hO (fq sh++jM a) ([]++hN sh) s s1:=by
     have:=a4.gw (W:=fq sh++jM a) (M:=[]++hN sh) R.lt (fun t ht=>pk _ (q1 t ht)) aS;exact⟨this.vs,this.aI,this.aB,this.mem,this.row⟩
    obtain⟨G',cy,bA,b9⟩:=Ji a1 R a2 a3 gw b1;exact snd (g2 h) bA b9 (Xy R.lt)
   ·rename_i sl y
    split at h
    ·rename_i ops dE
     unfold WK at h;split at h
     ·rename_i hw
      obtain⟨s1,p1,p2,p3⟩:=OL hw;refine kc (XD (S:=fun q:ow (bh J)=>q.val=some s1) (k:=fun s=>ow.leaf s) (s:={s with dw:=[],cB:=[]}) a1 (ajK s1) hT ab p1 R.XH fun al aN H' G' cy ai a2 a3 a4=> ?_);cases ai
      have gw:hO (oy ops) [] s s1:=by
       have:=a4.gw (W:=oy ops) (M:=[]) R.lt p2 (fun o j q=>by rw[p3]at q;cases q);exact⟨this.vs,this.aI,this.aB,this.mem,this.row⟩
      have hb:=Xq R a2 a3 gw;have rN:b5 J b F fs {blank (oy ops) [] s with dw:=sl++(oy ops++s.dw)} aN H' G' ρ:=hb.XH;obtain⟨jQ,af,e2,bT,cF,ej⟩:=XC aC a2 a3 gw.aI p1 rN (ea) (by rw[R.aB];exact h)
      have w:hO (sl++(oy ops++s.dw)) [] s jQ:=by
       have aH:=(Xn (s:=s) (W:=oy ops) (M:=[])).wide (W':=sl++(oy ops++s.dw)) (M':=[]) (fun t ht=>pk _ (we _ ht)) (fun _ q=>q);have bG:=bT.wide (W':=sl++(oy ops++s.dw)) (M':=[]) (fun t ht=>we _ ht) (fun _ q=>q);exact hO.trans (s1:={blank (oy ops) [] s with dw:=sl++(oy ops++s.dw)}) ⟨aH.vs,aH.aI,aH.aB,aH.mem,aH.row⟩ bG
      refine snd (x:=.normal) af e2 ea ⟨fun t ht=>w.vs t fun q=>ht (by rw[cF];exact q),fun t ht=>by rw[cF];exact pk _ (pk _ ht),fun q bc=>by rw[ej];exact bc,w.aI,w.aB,fun o wr cs hm=> ?_,fun o aP hc hm=>.inl ((w.row o aP hc hm).resolve_right (by simp))⟩;obtain⟨cs',m1,m2,m3⟩:=w.mem o wr cs hm;exact⟨cs',m1,m2,fun j _=>m3 j (by simp)⟩
     ·exact absurd h aC.bad
    ·exact absurd h aC.bad
   ·exact kc (tH a1 hT ab aC h R fun x al aN H' G' cy ai a2 a3 a4=>snd ai a2 a3 a4)
 | .cond x a c,an,A,_,S,aC,s,k,σ,H,G,ρ,Q,h,R,cA=>by
   simp only[kj]at h;split at h
   ·exact absurd h aC.bad
   ·rename_i v ad
    obtain⟨β,s1,af,e2,bT,cF⟩:=Bu aC h R.dv (db (bB:=mL) R (fun t v q=>by cases q) ad);rcases cF with⟨rfl,h⟩|⟨rfl,h⟩
    ·exact qW af rfl (tH a1 hT ab aC h (R.dQ e2) fun x s2 js H2 bl vJ dm gy jO lg=>cA _ _ _ _ _ _ dm gy jO (e2.bM.trans lg))
    ·exact qX af rfl (tH a1 hT ab aC h (R.dQ e2) fun x s2 js H2 bl vJ dm gy jO lg=>cA _ _ _ _ _ _ dm gy jO (e2.bM.trans lg))
 | .block id a,an,A,_,S,aC,s,k,σ,H,G,ρ,Q,h,R,cA=>by
   simp only[kj]at h;exact yF (tH a1 hT ab aC h R fun x s2 js H2 bl vJ dm gy jO lg=>cA _ _ _ _ _ _ dm gy jO lg)
 | .loop a,an,A,_,S,aC,s,k,σ,H,G,ρ,Q,h,R,cA=>by
   unfold kj at h;split at h
   ·exact XJ a1 (fun {_ _ _ _} aC {_ _ _ _ _ _ _} h R cA=>tH a1 hT ab aC h R cA) aC h R cA
   ·refine akx (tH a1 hT ab aC h R fun x al aN H' G' cy ai a2 a3 a4=> ?_)
    cases x with
    |normal=>exact XJ a1 (fun {_ _ _ _} aC {_ _ _ _ _ _ _} h R cA=>tH a1 hT ab aC h R cA) aC ai a2 fun x s2 js H2 bl vJ dm gy jO lg=>cA _ _ _ _ _ _ dm gy (a3.trans jO) (a4.trans lg)
    |exit i=>exact cA _ _ _ _ _ _ ai a2 a3 a4
    |ret=>exact cA _ _ _ _ _ _ ai a2 a3 a4
   ·exact absurd h aC.bad
 | .xL ..,an,A,_,S,aC,s,k,σ,H,G,ρ,Q,h,R,cA=>absurd h (by unfold kj;exact aC.bad)
 | .rangeFunc ..,an,A,_,S,aC,s,k,σ,H,G,ρ,Q,h,R,cA=>absurd h (by unfold kj;exact aC.bad)
 | .fail,an,A,_,S,aC,s,k,σ,H,G,ρ,Q,h,R,cA=>absurd h (by unfold kj;exact aC.bad)
end
end Go.Abs.gK
namespace Go.Abs.gK
open Go Go.Abs
section
variable{J:ib}{b:Nat}{F:cN}{fs:List V}{s al:bh J}{σ:bV}{H:Heap}{G:Nat->List (Nat × cc)}{ρ:List V}{aa:Nat->Option bY}
theorem OW:∀(vs:List V) (i j:Nat) (v:V),vs[j]? =some v->vj i vs (i+j)=v
 |[],_,_,_,h=>by simp at h
 |u::r,i,0,v,h=>by simp at h;subst h;exact ve _ _ _
 |u::r,i,j+1,v,h=>by
  simp at h;rw[vj,iU _ _ (by omega),show i+(j+1)=i+1+j by omega];exact OW r (i+1) j v h
theorem OX{F:cN}:∀{aO:List lK} {a:nO J aO} {ws:List V},ss aa F aO a ws->ws.length=aO.length
 |[],_,_,h=>by cases h;rfl
 | .v t::aO,x,_,⟨eh,e,r⟩=>by subst e;simp[OX r]
 | .f _ _::aO,x,_,⟨w,eh,e,_,r⟩=>by subst e;simp[OX r]
def BD:List lK->List V->List V
 | .v _::r,_::ws=>BD r ws
 | .f _ _::r,w::ws=>w::BD r ws
 | _,_=>[]
def XM (aa:Nat->Option bY)(F:cN)(fs:List V)(l:List (Er J)):Prop:=∀j f,nth l j=some f->∃w,fs[j]? =some w/\nR aa F f.dK f.rt f.f w
theorem OY (a1:gC J):∀{aO:List lK} {x:nO J aO} {ws:List V} {j:Nat} {s:bh J} {l:List (Er J)} {pre:List V},ss aa F aO x ws->(∀i w,ws[i]? =some w->σ (j+i)=w)->fs=pre++BD aO ws->pre.length=l.length->XM aa F fs l->b5 J b F fs s σ H G ρ->
  b5 J b F fs (zb aO x j s l).1 σ H G ρ/\XM aa F fs (zb aO x j s l).2/\(zb aO x j s l).1.mem=s.mem/\(zb aO x j s l).1.aB=s.aB
 |[],x,ws,j,s,l,pre,hA,qc,ab,hp,hl,R=>⟨R,hl,rfl,rfl⟩
 | .v t::aO,x,ws,j,s,l,pre,⟨eh,e,r⟩,qc,ab,hp,hl,R=>by
   subst e;have h0:=qc 0 _ rfl;have nA:=BA (R.dQ (I4 (J.w8 t x.1))) (l:=.s j) (w:=J.enc t x.1) h0.symm (a1.k5 t x.1 s.aI ρ fs);exact OY (aO:=aO) (x:=x.2) (ws:=eh) (j:=j+1) (l:=l) a1 r (fun i w h=>by have:=qc (i+1) w (by simpa using h);rwa [FJ,pr]) ab hp hl nA
 | .f dK rt::aO,x,ws,j,s,l,pre,⟨w,eh,e,q,r⟩,qc,ab,hp,hl,R=>by
   subst e;have h0:=qc 0 _ rfl
   have hj:fs[l.length]? =some w:=by
    rw[ab,<-hp,sJ (aK _)];simp[BD]
   have nA:=BA R (l:=.s j) (w:=w) (v:=.fv l.length) h0.symm (.fv hj);refine OY (aO:=aO) (x:=x.2) (ws:=eh) (j:=j+1) (l:=l++[⟨dK,rt,x.1⟩]) a1 (pre:=pre++[w]) r (fun i w h=>by have:=qc (i+1) w (by simpa using h);rwa [FJ,pr]) (by rw[ab];simp[BD]) (by simp[hp]) (fun k g cW=> ?_) nA;rw[vx]at cW;rcases fX k l.length with aX|hge
   ·rw[gE aX]at cW
    exact hl k g (by rw[vx];exact cW)
   ·rw[sJ hge]at cW
    cases hd:k-l.length with
    |zero=>
     rw[hd]at cW;cases cW;have:k=l.length:=by omega
     subst this;exact⟨w,hj,q⟩
    |succ n=>rw[hd]at cW;simp at cW
theorem XN (a1:gC J):∀{ts:List Nat} {c:dS J ts} {aO:List Nat} {j:Nat} {s al:bh J} {G:Nat->List (Nat × cc)} {ρ:List V},I0 ts c j s=some al->aO.length=ts.length->(∀i a,aO[i]? =some a->σ (j+i)=.ptr a 0)->Own H (s.mem.map (fun e=>G e.1)++(ze ts c aO++F))->b5 J b F fs s σ H G ρ->
  ∃G' cy,b5 J b F fs al σ H G' cy
 |[],c,aO,j,s,al,G,ρ,h,hl,qc,aA,R=>by cases h;exact⟨G,ρ,R⟩
 |t::ts,c,[],j,s,al,G,ρ,h,hl,qc,aA,R=>by cases hl
 |t::ts,c,a::aO,j,s,al,G,ρ,h,hl,qc,aA,R=>by
  simp only[I0]at h;split at h
  ·cases h
  ·rename_i cs hc
   have fS:=zc (ρ:=ρ) (fs:=fs) hc (a1.k5 t (ox ts c) s.aI ρ fs);have h0:=qc 0 _ rfl;refine XN a1 (G:=fun o=>if o=s.aB then[(a,.cells (aE (J.enc t (ox ts c))))]else G o) (ρ:=ρ++[.ptr a 0]) h (by simpa using hl) (fun i a7 hi=>by have:=qc (i+1) a7 (by simpa using hi);rwa [FJ,pr]) ?_ ?_
   ·have e:(s.mem.map fun e=>if e.1=s.aB then[(a,cc.cells (aE (J.enc t (ox ts c))))]else G e.1)=s.mem.map fun e=>G e.1:=
     pn fun e he=>by rw[if_neg (oH (R.lt e he))]
    simp only[nW,e,eo,mT,if_pos,mS,List.singleton_append];exact aA
   ·have XO:(ρ++[V.ptr a 0])[s.aB]? =some (.ptr a 0):=by rw[sJ (by rw[R.aB];exact aK _),R.aB];simp
    refine⟨by simp[R.aB],fun k v cW=> ?_,?_,?_,fun e he=> ?_,fun o aP ho=> ?_,fun i β cW=>nh (hC _ _) (R.dv i β cW)⟩
    ·have cW:bd ((j,.ptr s.aB 0)::s.vs) k=some v:=cW
     rw[fm]at cW;split at cW
     ·rename_i e;cases cW;subst e
      rw[show σ j=.ptr a 0 from h0];exact .ptr XO
     ·exact(R.vs k v cW).mono (hC _ _) (hC _ _)
    ·have e:(s.mem.map fun e=>if e.1=s.aB then[(a,cc.cells (aE (J.enc t (ox ts c))))]else G e.1)=s.mem.map fun e=>G e.1:=
      pn fun e he=>by rw[if_neg (oH (R.lt e he))]
     unfold dT;simp only[nW,e,eo,mT,if_pos,mS,List.singleton_append];refine aA.sub (List.Sublist.append (ru _) ?_);simp only[ze,jz];exact List.Sublist.cons_cons _ (Ke _ _)
    ·simp only[nW,eo,mT]
     refine FM.2 ⟨R.dk,by simp,fun x hx y hy=> ?_⟩;obtain⟨e,he,q⟩:=ey.1 hx;simp only[FI]at hy;subst hy;rw[<-q];exact oH (R.lt e he)
    ·rcases jA.1 he with he|he
     ·exact Cc (R.lt e he)
     ·simp only[FI]at he;subst he;exact wh _
    ·have ho:bd (s.mem++[(s.aB,ch.cells false cs)]) o=some aP:=ho
     rw[IC]at ho;cases hm:bd s.mem o with
     |some c'=>
      rw[hm]at ho;cases ho;have:=(R.mem o aP hm).mono (hC s.aI (J.w8 t (ox ts c))) (hC ρ [.ptr a 0]);simp only[oH (R.lt _ (auD hm)),if_false];exact this
     |none=>
      rw[hm]at ho;simp only at ho;rw[fm]at ho;split at ho
      ·rename_i e
       cases ho;subst e;exact⟨a,_,XO,by simp,fS.mono ea (hC _ _),fun q=>by cases q⟩
      ·cases ho
theorem XP (R:b5 J b F fs s σ H G ρ):∀{rs:List mB} {vs:List (aJ J.ax)},Ey s rs=some vs->∃us,sd σ H rs us/\bm J s.aI ρ fs vs us
 |[],_,h=>by cases h;exact⟨[],.nil,.nil⟩
 |r::rs,vs,h=>by
  simp only[Ey]at h;split at h
  ·cases h
  ·rename_i v ad
   split at h
   ·cases h
   ·rename_i l hl
    cases h;obtain⟨us,h1,h2⟩:=XP R hl;cases r with
    |tmp t=>exact⟨_,.tmp rfl h1,.cons (R.vs t v ad) h2⟩
    |cell a sh=>
     simp only at ad;split at ad
     ·rename_i o f ao
      split at ad
      ·rename_i w cs hm
       have n7:=R.vs a _ ao;generalize hw:σ a=w at n7;cases n7 with
       |ptr ho=>
        obtain⟨q,ws,q1,aS,b1,cL,-⟩:=R.cells hm;rw[q1]at ho;cases ho;obtain⟨u,dq,fb⟩:=ED ad cL;exact⟨_,.cell hw (b1 H R.own) dq h1,.cons fb h2⟩
      ·cases ad
     ·cases ad
theorem XQ (a1:gC J):∀(ts:List Nat) (x:dS J ts),bW (jk ts x)=true
 |[],_=>rfl
 |t::r,x=>by simp only[jk,bW,a1.bs,XQ a1 r,zV]
theorem akA (a1:gC J)(ts:List Nat)(x:dS J ts):bs (nj ts x)=true:=by
 unfold nj;have h:=XQ a1 ts x;generalize jk ts x=us at h
 match us with
 |[]=>rfl
 |[u]=>simpa[bW,one]using h
 | _::_::_=>exact h
theorem XR{f:List (Nat × ch J)->aJ J.ax->Option (aJ J.ax × List (Nat × ch J))}:∀{vs vs':List (aJ J.ax)} {m m':List (Nat × ch J)},tB f m vs=some (vs',m')->vs'.length=vs.length
 |[],_,_,_,h=>by cases h;rfl
 |v::r,_,_,_,h=>by
  simp only[tB]at h;split at h
  ·cases h
  ·split at h
   ·cases h
   ·rename_i e;cases h;simp[XR e]
theorem akB (a1:gC J){T:List (cn J)}(hT:∀e∈T,mQ aa e)(e:cn J){f:h3}(cZ:aa e.id=some (.code f))(ty:List (Nat × Nat))(vz:List (Nat × Nat × Nat))(kC:∀q∈vz,WZ J aa q.1 q.2)(an:kM J)
  (er:f.fresh=false) (hn:Nat.ble (e.args.length+e.caps.length) f.xM=true) (h:∀c a,e.fn c a=N3 T ty vz f an e.caps e.args e.res c a):mQ aa e:=by
 intro H F c a aO ws r hlen aA hA hr;rw[h]at hr;unfold N3 at hr;have hl:=OX hA;have qc:∀i w,ws[i]? =some w->vj 0 (ws++zf aO) (0+i)=w:=fun i w hi=>OW _ 0 i w (by rw[gE (pY.1 hi).1];exact hi)
 have OP:b5 J H.length F (BD e.args ws) tD (vj 0 (ws++zf aO)) H (fun _=>[]) []:=
  ⟨rfl,fun _ _ q=>(by cases q),aA.sub (Ke _ _),FR,fun _ q=>(by cases q),fun _ _ q=>(by cases q),fun _ _ q=>(by cases q)⟩
 obtain⟨bq,f1,m1,-⟩:=OY (pre:=[]) (l:=[]) a1 hA qc rfl rfl (fun j f q=>by simp[nth]at q) OP;split at hr;rename_i s1 fv akC;rw[akC]at bq f1 m1;split at hr
 ·cases hr
 ·rename_i s2 akD
  obtain⟨bl,vJ,dY⟩:=XN a1 (σ:=vj 0 (ws++zf aO)) akD hlen (fun i x hi=>by
   rw[<-hl];have:=OW (ws++zf aO) 0 (ws.length+i) (.ptr x 0) (by rw[sJ (Kn _ _)];simp[hi]);rwa [eO]at this) (by rw[m1];exact aA) bq
  refine MZ (caps:=zf aO) cZ ?_ er ?_ (akA a1 _ _)
  ·simp only[gM,oG,hl,hlen]
   exact km hn
  ·refine tH a1 (bR:=⟨T,fv,ty,vz⟩) ⟨hT,kC⟩ f1 (N6 r) hr dY fun x al aN H' G' cy ai a2 a3 a4=> ?_
   have fin:(match Ey al f.results with
     |some vs=>N2 al e.res vs
     |none=>none)=some r->Hy f.results aN H' H.length (nj e.res r):=fun h=>by
    split at h
    ·rename_i vs cS
     obtain⟨us,ky,oR⟩:=XP a2 cS;unfold N2 at h;split at h
     ·rename_i v
      cases oR with
      |cons ad hr=>
       cases hr;split at h
       ·rename_i v' m' aT
        obtain⟨w',qP,z2,-⟩:=zh (F:=F) a1 a2.EL aT ad;have:=I5 a1 h (.cons z2 .nil);have af:nj e.res r=w':=by unfold nj;rw[<-this];rfl
        rw[af];exact MY ky rfl a2.own qP
       ·cases h
     ·rename_i bf
      split at h
      ·rename_i vs' m' aT
       obtain⟨eh,qP,z2,-⟩:=Bx (F:=F) (zh a1) a2.EL aT oR;have:=I5 a1 h z2;have bF:=oR.length;have iB:=z2.length;have vm:=XR aT
       have hg:∀{l:List V},l.length=vs.length->one l=.aU l:=fun {l} hl=>by
        match l,hl with
        |[],_=>rfl
        |[w],hl=>
         match vs,hl,bf with
         |[v],_,bf=>exact absurd rfl (bf v)
        | _::_::_,_=>rfl
       have af:nj e.res r=.aU eh:=by
        unfold nj;rw[<-this];exact hg (by rw[<-iB,vm])
       rw[af];exact MY ky (hg bF.symm) a2.own (W5 qP)
      ·cases h
    ·cases h
   cases x with
   |exit i=>cases ai
   |normal=>exact⟨.inl rfl,fin ai⟩
   |ret=>exact⟨.inr rfl,fin ai⟩
theorem aJp (a1:gC J){T:List (cn J)}(hT:∀e∈T,mQ aa e)(e:cn J){X:Type}(Fn:(X->Option (dS J e.res))->X->Option (dS J e.res))(XE:dS J e.caps->nO J e.args->X)(he:∀c a,e.fn c a=avf Fn (XE c a))
  {f:h3} (cZ:aa e.id=some (.code f)) (ty:List (Nat × Nat)) (an:kM J) (er:f.fresh=false) (hn:Nat.ble (e.args.length+e.caps.length) f.xM=true)
  (h:∀(g:X->Option (dS J e.res)) (c:dS J e.caps) (a:nO J e.args),Fn g (XE c a)=N3 (⟨e.id,e.caps,e.args,e.res,fun c a=>g (XE c a)⟩::T) ty [] f an e.caps e.args e.res c a):mQ aa e:=by
 have key:∀n,mQ aa ⟨e.id,e.caps,e.args,e.res,fun c a=>H4 Fn n (XE c a)⟩:=by
  intro n
  induction n with
  |zero=>intro H F c a aO ws r _ _ _ q;cases q
  |succ n ih=>
   refine akB a1 (T:=⟨e.id,e.caps,e.args,e.res,fun c a=>H4 Fn n (XE c a)⟩::T) (fun e' he'=> ?_) _ cZ ty [] (fun _ q=>by cases q) an er hn fun c a=>h (H4 Fn n) c a;rcases dA.1 he' with rfl|he'
   ·exact ih
   ·exact hT e' he'
 intro H F c a aO ws r h1 h2 ar aQ;rw[he]at aQ;obtain⟨n,pD⟩:=aHQ aQ;exact key n H F c a aO ws r h1 h2 ar pD
variable{B:List Bool}{v:aJ J.ax}{w:V}
theorem bU.XS{i:Nat}{c:Bool}(h:B[i]? =some c):bU J B ρ fs (.bo i false) (.bool c):=by
 have:bU J B ρ fs (.bo i false) (.bool (c != false)):=.bo h;simpa using this
theorem XT{l:List Bool}{c:Bool}{i:Nat}(h:l[i]? =some c):(B++l)[B.length+i]? =some c:=by
 rw[sJ (Kn _ _),Nat.add_sub_cancel_left];exact h
theorem bm.inv{v:aJ J.ax}{vs:List (aJ J.ax)}{ws:List V}:bm J B ρ fs (v::vs) ws->∃w eh,ws=w::eh/\bU J B ρ fs v w/\bm J B ρ fs vs eh
 | .cons h r=>⟨_,_,rfl,h,r⟩
theorem bm.qd{ws:List V}:bm J B ρ fs [] ws->ws=[]
 | .nil=>rfl
theorem qe{α:Type}(e:Nat)(f:α->V)(l:ak α):bS (aE (bg e f l))=true:=by simp[bS]
theorem qf{α:Type}(e:Nat)(f:α->V)(l:ak α):(aE (bg e f l)).length=1:=by simp
theorem jv{k:IntKind}{n:Int}(h:iL k v=some n)(ad:bU J B ρ fs v w):w=.int k n:=by
 unfold iL at h;split at h
 ·split at h
  ·rename_i e
   cases h;cases ad;rw[of_decide_eq_true e]
  ·cases h
 ·cases h
theorem XU{c:Bool}(h:I1 B v=some c)(ad:bU J B ρ fs v w):w=.bool c:=by
 unfold I1 at h;split at h
 ·cases h;cases ad;rfl
 ·split at h
  ·rename_i c' hc
   rw[vx]at hc;cases ad with
   |bo hb=>
    rw[hc]at hb;cases hb;split at h<;>cases h<;>simp
  ·cases h
 ·cases h
theorem OZ{s:bH}(h:Ez v=some s)(ad:bU J B ρ fs v w):w=.str s:=by
 unfold Ez at h;split at h
 ·cases h;cases ad;rfl
 ·cases h
theorem fG{t:Nat}{l:ak (J.ax t)}(h:e1 t v=some l)(ad:bU J B ρ fs v w):w=bg (J.es t) (J.enc t) l:=EN h ad
theorem qg{R:Type}{f:List (aJ J.ax)->Option R}{x:R}(h:oz f v=some x)(ad:bU J B ρ fs v w):∃vs ws,w=.agg ws/\bm J B ρ fs vs ws/\f vs=some x:=by
 unfold oz at h;split at h
 ·cases ad with
  |agg ad=>exact⟨_,_,rfl,ad,h⟩
 ·cases h
end
end Go.Abs.gK
namespace Go.Abs.gK
open Go Go.Abs
section
variable{J:ib}{aa:Nat->Option bY}{T:List (cn J)}
def BF (aa:Nat->Option bY)(i:Nat):h3:=match aa i with
 |some (.code f)=>f
 | _=>default
def O0 (aa:Nat->Option bY)(e:cn J):Bool:=match aa e.id with
 |some (.code f)=>!f.fresh&&Nat.ble (e.args.length+e.caps.length) f.xM
 | _=>false
abbrev cG (aa:Nat->Option bY)(T:List (cn J)):Prop:=∀e∈T,mQ aa e
theorem Jl{e:cn J}(h:O0 aa e=true):aa e.id=some (.code (BF aa e.id))/\(BF aa e.id).fresh=false/\Nat.ble (e.args.length+e.caps.length) (BF aa e.id).xM=true:=by
 unfold O0 at h;unfold BF;split at h
 ·rename_i f ab
  rw[ab];simp only[b8,nV]at h;exact⟨rfl,h.1,h.2⟩
 ·cases h
theorem cG.cons{e:cn J}(hT:cG aa T)(h:mQ aa e):cG aa (e::T):=fun e' he=>by
 rcases dA.1 he with rfl|he
 ·exact h
 ·exact hT e' he
theorem dh (a1:gC J){e:cn J}(hT:cG aa T)(ty:List (Nat × Nat))(an:kM J)(h1:O0 aa e=true)(h2:∀c a,e.fn c a=N3 T ty [] (BF aa e.id) an e.caps e.args e.res c a):cG aa (e::T):=
 hT.cons (akB a1 hT e (Jl h1).1 ty [] (fun _ q=>by cases q) an (Jl h1).2.1 (Jl h1).2.2 h2)
theorem axs (a1:gC J){e:cn J}(hT:cG aa T)(ty:List (Nat × Nat))(vz:List (Nat × Nat × Nat))(kC:∀q∈vz,WZ J aa q.1 q.2)(an:kM J)(h1:O0 aa e=true)(h2:∀c a,e.fn c a=N3 T ty vz (BF aa e.id) an e.caps e.args e.res c a):cG aa (e::T):=
 hT.cons (akB a1 hT e (Jl h1).1 ty vz kC an (Jl h1).2.1 (Jl h1).2.2 h2)
theorem aDU (a1:gC J){e:cn J}{X:Type}(hT:cG aa T)(Fn:(X->Option (dS J e.res))->X->Option (dS J e.res))(XE:dS J e.caps->nO J e.args->X)(he:∀c a,e.fn c a=avf Fn (XE c a))(ty:List (Nat × Nat))(an:kM J)(h1:O0 aa e=true)
  (h2:∀(g:X->Option (dS J e.res)) (c:dS J e.caps) (a:nO J e.args),Fn g (XE c a)=N3 (⟨e.id,e.caps,e.args,e.res,fun c a=>g (XE c a)⟩::T) ty [] (BF aa e.id) an e.caps e.args e.res c a):cG aa (e::T):=
 hT.cons (aJp a1 hT e Fn XE he (Jl h1).1 ty an (Jl h1).2.1 (Jl h1).2.2 h2)
def Jm:(aO:List lK)->nO J aO->List V
 | .v t::r,x=>J.enc t x.1::Jm r x.2
 | _,_=>[]
theorem XV{F:cN}:∀{aO:List lK} {a:nO J aO} {ws:List V},y6 aO=true->ss aa F aO a ws->ws=Jm aO a
 |[],_,_,_,h=>h
 | .v t::aO,x,_,hn,⟨eh,e,r⟩=>by rw[e,XV (aO:=aO) hn r];rfl
 | .f _ _::_,_,_,hn,_=>by cases hn
theorem tI{i:Nat}{args:List lK}{res:List Nat}{fn:nO J args->Option (dS J res)}(hn:y6 args=true)(h:∀H a r,fn a=some r->bZ aa (.fn i [] []) (Jm args a) H=some (nj res r,H,H.length)):mQ aa ⟨i,[],args,res,fun _ a=>fn a⟩:=by
 intro H F c a aO ws r h1 h2 ar aQ;cases aO with
 |nil=>rw[XV hn ar];exact h H a r aQ
 |cons x xs=>cases h1
theorem cG.hd{e:cn J}(h:cG aa (e::T)):mQ aa e:=h e (po ..)
end
end Go.Abs.gK
namespace Go.Abs.hk
open Go Go.Abs Go.Abs.gK
noncomputable section
def XW (aa:Nat->Option bY):Prop:=∀(H0:Heap) (ah:Int) (r:Bool),yT ah=some r->bZ aa (.fn 230 [] []) [.int .u8 ah] H0=some (.bool r,H0,H0.length)
def XX (aa:Nat->Option bY):Prop:=∀(H0:Heap) (ah:Int) (r:Bool),yU ah=some r->bZ aa (.fn 233 [] []) [.int .u8 ah] H0=some (.bool r,H0,H0.length)
def XY (aa:Nat->Option bY):Prop:=∀(H0:Heap) (ah:Int) (r:Bool),DT ah=some r->bZ aa (.fn 232 [] []) [.int .u8 ah] H0=some (.bool r,H0,H0.length)
def XZ (aa:Nat->Option bY):Prop:=∀(H0:Heap) (ah:Int) (r:Bool),A9 ah=some r->bZ aa (.fn 235 [] []) [.int .u8 ah] H0=some (.bool r,H0,H0.length)
def X0 (aa:Nat->Option bY):Prop:=∀(H0:Heap) (ah:bH) (r:Bool),DP ah=some r->bZ aa (.fn 236 [] []) [.str ah] H0=some (.bool r,H0,H0.length)
def X1 (aa:Nat->Option bY):Prop:=∀(H0:Heap) (ah:bH) (r:Int),A7 ah=some r->bZ aa (.fn 234 [] []) [.str ah] H0=some (aD r,H0,H0.length)
def X2 (aa:Nat->Option bY):Prop:=∀(H0:Heap) (EV:cN) (akE:Own H0 EV) (ah:bH) (ba:(Int->Option Bool)) (vK:V) (akF:∀H low,eP H low vK=some (vK,H,low)) (akG:∀H (z0:Int) (q:Bool),Own H EV->ba z0=some q->bZ aa vK [.int .u8 z0] H=some (.bool q,H,H.length)) (r:Int),A8 ah ba=some r->bZ aa (.fn 231 [] []) [.str ah,vK] H0=some (aD r,H0,H0.length)
def X3 (aa:Nat->Option bY):Prop:=∀(H0:Heap) (ah:bH) (r:Int),DS ah=some r->bZ aa (.fn 229 [] []) [.str ah] H0=some (aD r,H0,H0.length)
def X4 (aa:Nat->Option bY):Prop:=∀(H0:Heap) (ah:Int) (r:Bool),Ba ah=some r->bZ aa (.fn 358 [] []) [.int .u8 ah] H0=some (.bool r,H0,H0.length)
def Jn (aa:Nat->Option bY):Prop:=∀(H0:Heap) (ah:Int) (ba:Int) (r:Bool),kg ah ba=some r->bZ aa (.fn 214 [] []) [aD ah,aD ba] H0=some (.bool r,H0,H0.length)
def zq (aa:Nat->Option bY):Prop:=∀(H0:Heap) (EV:cN) (akE:Own H0 EV) (ah:(ak gk)) (ba:(gk->Option Bool)) (vK:V) (akF:∀H low,eP H low vK=some (vK,H,low)) (akG:∀H (z0:gk) (q:Bool),Own H EV->ba z0=some q->bZ aa vK [.agg [aD z0.Table,aD z0.jt,aD z0.da]] H=some (.bool q,H,H.length)) (r:Bool),DM ah ba=some r->bZ aa (.fn 223 [] []) [bg 3 iX ah,vK] H0=some (.bool r,H0,H0.length)
def akH (aa:Nat->Option bY):Prop:=∀(H0:Heap) (ah:(ak Range)) (ba:Int) (r:(ak Range)),DJ ah ba=some r->bZ aa (.fn 213 [] []) [bg 2 pS ah,aD ba] H0=some (bg 2 pS r,H0,H0.length)
variable{aa:Nat->Option bY}
theorem X5 (h:mQ (J:=bn) aa ⟨230,[],[.v 3],[1],fun c a=>yT a.1⟩):XW aa:=fun H0 a0 r q=>h H0 [] () (a0,()) [] _ r rfl (.nil H0) ⟨_,rfl,rfl⟩ q
theorem X6 (h:mQ (J:=bn) aa ⟨233,[],[.v 3],[1],fun c a=>yU a.1⟩):XX aa:=fun H0 a0 r q=>h H0 [] () (a0,()) [] _ r rfl (.nil H0) ⟨_,rfl,rfl⟩ q
theorem X7 (h:mQ (J:=bn) aa ⟨232,[],[.v 3],[1],fun c a=>DT a.1⟩):XY aa:=fun H0 a0 r q=>h H0 [] () (a0,()) [] _ r rfl (.nil H0) ⟨_,rfl,rfl⟩ q
theorem X8 (h:mQ (J:=bn) aa ⟨235,[],[.v 3],[1],fun c a=>A9 a.1⟩):XZ aa:=fun H0 a0 r q=>h H0 [] () (a0,()) [] _ r rfl (.nil H0) ⟨_,rfl,rfl⟩ q
theorem X9 (h:mQ (J:=bn) aa ⟨236,[],[.v 2],[1],fun c a=>DP a.1⟩):X0 aa:=fun H0 a0 r q=>h H0 [] () (a0,()) [] _ r rfl (.nil H0) ⟨_,rfl,rfl⟩ q
theorem Ya (h:mQ (J:=bn) aa ⟨234,[],[.v 2],[0],fun c a=>A7 a.1⟩):X1 aa:=fun H0 a0 r q=>h H0 [] () (a0,()) [] _ r rfl (.nil H0) ⟨_,rfl,rfl⟩ q
theorem Yb (h:mQ (J:=bn) aa ⟨231,[],[.v 2,.f [3] 1],[0],fun c a=>A8 a.1 a.2.1⟩):X2 aa:=fun H0 F aA a0 ai cq te il r q=>h H0 F () (a0,ai,()) [] _ r rfl aA ⟨_,rfl,⟨cq,_,rfl,⟨te,il⟩,rfl⟩⟩ q
theorem Yc (h:mQ (J:=bn) aa ⟨229,[],[.v 2],[0],fun c a=>DS a.1⟩):X3 aa:=fun H0 a0 r q=>h H0 [] () (a0,()) [] _ r rfl (.nil H0) ⟨_,rfl,rfl⟩ q
theorem Yd (h:mQ (J:=bn) aa ⟨358,[],[.v 3],[1],fun c a=>Ba a.1⟩):X4 aa:=fun H0 a0 r q=>h H0 [] () (a0,()) [] _ r rfl (.nil H0) ⟨_,rfl,rfl⟩ q
theorem akI (h:mQ (J:=bn) aa ⟨214,[],[.v 0,.v 0],[1],fun c a=>kg a.1 a.2.1⟩):Jn aa:=fun H0 a0 ai r q=>h H0 [] () (a0,ai,()) [] _ r rfl (.nil H0) ⟨_,rfl,⟨_,rfl,rfl⟩⟩ q
theorem akJ (h:mQ (J:=bn) aa ⟨223,[],[.v 5,.f [4] 1],[1],fun c a=>DM a.1 a.2.1⟩):zq aa:=fun H0 F aA a0 ai cq te il r q=>h H0 F () (a0,ai,()) [] _ r rfl aA ⟨_,rfl,⟨cq,_,rfl,⟨te,il⟩,rfl⟩⟩ q
end
end Go.Abs.hk
