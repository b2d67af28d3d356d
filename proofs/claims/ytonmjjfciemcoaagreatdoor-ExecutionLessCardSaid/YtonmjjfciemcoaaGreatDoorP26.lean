/- Texts of this claim, joined and written short by a program. -/
import Derived.Test.YtonmjjfciemcoaaGreatDoorP25
import Derived.Test.YtonmjjfciemcoaaGreatDoorP20
import Derived.Test.YtonmjjfciemcoaaGreatDoorP22
import Derived.Test.YtonmjjfciemcoaaGreatDoorP00
set_option linter.unusedVariables false
set_option linter.unusedSimpArgs false
set_option linter.unusedSectionVars false
namespace Go.Abs.gB
open Go Go.Abs
section
variable{U:iQ}{b:Nat}{F:cG}{fs:List V}{s s1 s2 cT:bA U}{σ cU:bW}{H H1:Heap}{G az:Nat->List (Nat × b5)}{ρ gf:List V}{aa:Nat->Option bU}{cx:oj U}{W:List Nat}
theorem afU (c:Bool)(x y:xq):(Is c x y).val=bif c then x.val else y.val:=by
 unfold Is;split
 ·split<;>rfl
 all_goals first|rfl|(cases c<;>simp[xq.val])
theorem afV{c:Bool}{x y:xq}{i:Nat}{n:Bool}{d:Bool}(h:Is c x y=.nm i n d):∃a e,x=.nm i n a/\y=.nm i n e:=by
 unfold Is at h;split at h
 ·split at h
  ·rename_i e;cases h;exact⟨_,_,rfl,by rw[eE e]⟩
  ·rename_i e;cases h;exact⟨_,_,rfl,by rw[eE e]⟩
  ·cases h
 all_goals cases h
def Na (fs:List V)(l:Loc)(s1:bA U):ae7 U->Prop
 | .bad=>True
 | .v v=>∃v1,at_ s1 l=some v1/\∀(B:List Bool) (ρ:List V) (w:V),b3 U B ρ fs v1 w->b3 U B ρ fs v w
 | .b x=>∃v1,at_ s1 l=some v1/\yX s1 v1=some x.val/\∀i n d,x=.nm i n d->v1=.bo i n
theorem Th{l:Loc}:∀{p:pQ (bA U)},p.val=some s1->Na fs l s1 (mx l p)
 | .bad,h=>by cases h
 | .leaf s,h=>by
   cases h;unfold mx;split
   ·trivial
   ·rename_i v ad
    split
    ·exact⟨_,ad,rfl,fun _ _ _ e=>by cases e⟩
    ·split
     ·rename_i hb;exact⟨_,ad,hb,fun _ _ _ e=>by cases e;rfl⟩
     ·trivial
    ·exact⟨_,ad,fun _ _ _ q=>q⟩
 | .br i c t e,h=>by
   have ht:c=true->Na fs l s1 (mx l t):=fun hc=>Th (by subst hc;exact h);have he:c=false->Na fs l s1 (mx l e):=fun hc=>Th (by subst hc;exact h);unfold mx;split
   ·rename_i x y h1 h2
    rw[h1]at ht;rw[h2]at he;cases c with
    |true=>
     obtain⟨v1,al,a2,a3⟩:=ht rfl;refine⟨v1,al,by rw[a2,afU];rfl,fun j n d q=> ?_⟩;obtain⟨_,_,q1,q2⟩:=afV q;exact a3 _ _ _ q1
    |false=>
     obtain⟨v1,al,a2,a3⟩:=he rfl;refine⟨v1,al,by rw[a2,afU];rfl,fun j n d q=> ?_⟩;obtain⟨_,_,q1,q2⟩:=afV q;exact a3 _ _ _ q2
   ·rename_i k a bF bk h1 h2
    rw[h1]at ht;rw[h2]at he;split
    ·rename_i hk
     have hk:=of_decide_eq_true hk;subst hk;cases c
     ·exact he rfl
     ·exact ht rfl
    ·trivial
   ·rename_i a bk h1 h2
    rw[h1]at ht;rw[h2]at he;cases c
    ·exact he rfl
    ·exact ht rfl
   ·rename_i v w _ _ h1 h2
    rw[h1]at ht;rw[h2]at he;split
    ·rename_i hs
     cases c with
     |false=>exact he rfl
     |true=>
      obtain⟨v1,al,a2⟩:=ht rfl;exact⟨v1,al,fun B ρ u q=>S6 hs (a2 B ρ u q)⟩
    ·trivial
   ·trivial
theorem Ti:∀{p:pQ (bA U)},Ev W p=true->∃s1,p.val=some s1/\(∀t∈s1.dL,t∈W)/\s1.cI=[]
 | .bad,h=>by cases h
 | .leaf s,h=>by
   simp only[Ev]at h;split at h
   ·rename_i af ak;exact⟨s,rfl,S8 af,ak⟩
   ·cases h
 | .br i c t e,h=>by
   simp only[Ev]at h;split at h
   ·rename_i h1
    cases c with
    |true=>obtain⟨s1,al,a2⟩:=Ti h1;exact⟨s1,al,a2⟩
    |false=>obtain⟨s1,al,a2⟩:=Ti h;exact⟨s1,al,a2⟩
   ·cases h
theorem afW{A:Type}[aJ A]{S:A->Prop}(aA:mb S)(bP:b7 U b F fs s1 cU H1 az gf)(aP:ρ <+: gf){B:List Bool}(o3:B <+: s1.aK){p:pQ (bA U)}(hp:p.val=some s1){k:bA U->A}:
  ∀{sl:List Nat} {cT:bA U},b7 U b F fs cT cU H1 az ρ->B <+: cT.aK->S (vz B.length ρ.length p sl cT k)->∃ky,S (k ky)/\b7 U b F fs ky cU H1 az ρ/\iD sl [] cT ky/\ky.dL=cT.dL/\ky.cI=cT.cI
 |[],cT,R,_,h=>⟨cT,h,R,.rfl,rfl,rfl⟩
 |t::r,cT,R,dc,h=>by
  have hm:=Th (fs:=fs) (l:=.s t) hp;simp only[vz]at h
  have go:∀{v:aO U.ax} {l:List Bool},b3 U (cT.aK++l) ρ fs v (cU t)->S (vz B.length ρ.length p r {cT with vs:=(t,v)::cT.vs,aK:=cT.aK++l} k)->
    ∃ky,S (k ky)/\b7 U b F fs ky cU H1 az ρ/\iD (t::r) [] cT ky/\ky.dL=cT.dL/\ky.cI=cT.cI:=fun {v l} ad h=>by
   have oN:=EE (R.keep (MT l)) (l:=.s t) (w:=cU t) rfl ad;obtain⟨ky,al,a2,a3,a4,a5⟩:=afW aA bP aP o3 hp oN (dc.trans (hK _ _)) h;exact⟨ky,al,a2,(M9 (s:=cT) (l:=.s t) (v:=v) (hK cT.aK l) (fun q e=>by cases e;exact p5 ..) (fun _ _ e=>by cases e)).trans (a3.wide (fun q bf=>kW _ bf) fun _ q=>q),a4,a5⟩
  have Tj:∀{v:aO U.ax},b3 U cT.aK ρ fs v (cU t)->S (vz B.length ρ.length p r {cT with vs:=(t,v)::cT.vs} k)->∃ky,S (k ky)/\b7 U b F fs ky cU H1 az ρ/\iD (t::r) [] cT ky/\ky.dL=cT.dL/\ky.cI=cT.cI:=fun {v} ad h=>
   go (v:=v) (l:=[]) (by rw[lR];exact ad) (by rw[lR];exact h)
  have nm:∀{x:xq},Na fs (.s t) s1 (.b x)->b3 U (cT.aK++[x.val]) ρ fs (.bo cT.aK.length false) (cU t):=fun {x} ⟨v1,al,a2,a3⟩=>by
   obtain⟨w,aG,bR⟩:=B0 bP al;cases aG;rw[Ex a2 bR];have:b3 U (cT.aK++[x.val]) ρ fs (.bo cT.aK.length false) (.bool (x.val != false)):=.bo (by simp);simpa using this
  split at h
  ·rename_i v ad
   rw[ad]at hm;split at h
   ·rename_i hw
    obtain⟨v1,al,a2⟩:=hm;obtain⟨w,aG,bR⟩:=B0 bP al;cases aG;exact Tj ((M0 o3 aP hw (a2 _ _ _ bR)).mono dc dW) h
   ·exact absurd h aA.bad
  ·rename_i x hx
   rw[hx]at hm;split at h
   ·rename_i d
    obtain⟨v1,al,a2,a3⟩:=hm;obtain⟨w,aG,bR⟩:=B0 bP al;cases aG;exact Tj (by rw[Ex a2 bR];exact .cw) h
   ·rename_i i neg d
    split at h
    ·rename_i hi
     obtain⟨v1,al,a2,a3⟩:=hm;obtain⟨w,aG,bR⟩:=B0 bP al;cases aG;have:=a3 _ _ _ rfl;subst this;exact Tj ((M0 o3 aP (by simpa only[wf]using hi) bR).mono dc dW) h
    ·exact go (nm hm) h
   ·exact go (nm hm) h
  ·exact absurd h aA.bad
theorem afX{A:Type}[aJ A]{S:A->Prop}(aY:gp U)(aA:mb S)(hT:rL aa cx)(ag:∀j f,nth cx.fv j=some f->∃w,fs[j]? =some w/\oo aa F f.dU f.rt f.f w){ops:List bS}{eC:Option (List Nat)}{k:bA U->A}{Q:X->bW->Heap->Prop}
  (h:S (so cx ops [] s [] fun s wr=>ML eC ops wr (k s))) (R:b7 U b F fs s σ H G ρ)
  (cr:∀ao aW H' G' cS,S (k ao)->b7 U b F fs ao aW H' G' cS->ρ <+: cS->Fr s ao->Q .normal aW H'):fc aa b (.region ops eC) σ H Q:=by
 cases eC with
 |none=>exact vj (BU aY aA hT ag h .nil R (fun t v q=>by cases q) fun ao aW H' G' cS fq BV al a0 a2 a3 a4=>cr _ _ _ _ _ al a2 a3 a4)
 |some eC=>
  refine adZ (BU aY aA hT ag h .nil R (fun t v q=>by cases q) fun ao aW H' G' cS fq BV al a0 a2 a3 a4=> ?_);simp only[ML]at al;split at al
  ·rename_i e;exact⟨au3 a0 e,cr _ _ _ _ _ al a2 a3 a4⟩
  ·exact absurd al aA.bad
theorem iD.afY{afZ qL:List Nat}{af0 Tk:List (Nat × Nat)}{vA ky s2:bA U}(h:iD afZ af0 vA ky)(_:True)(b2:Fr ky s2)(lt:∀e∈vA.mem,e.1<vA.aD)(hW:∀t∈afZ,t∈qL)(kT:∀p∈af0,p∈Tk)(hd:∀t∈s2.dL,t∈qL)(hm:∀o j,(o,j)∈s2.cI->o<vA.aD->(o,j)∈Tk):iD qL Tk vA s2 where
 vs:=fun t ht=>(b2.vs t fun q=>ht (hd t q)).trans (h.vs t fun q=>ht (hW t q))
 aK:=h.aK.trans b2.aK
 aD:=cY h.aD b2.aD
 mem:=fun o w cs hc=>by
  obtain⟨pV,h1,h2,ar⟩:=h.mem o w cs hc;obtain⟨ID,bQ,c6,iX⟩:=b2.mem o w pV h1;exact⟨ID,bQ,c6.trans h2,fun j hj=>(iX j fun q=>hj (hm o j q (lt _ (ju hc)))).trans (ar j fun q=>hj (kT _ q))⟩
 row:=fun o aV h0 hc=>(h.row o aV h0 hc).elim (fun h1=>(b2.row o aV h0 h1).imp id fun q=>hm o 0 q (lt _ (ju hc))) fun q=>.inr (kT _ q)
theorem b7.af1 (R:b7 U b F fs s σ H G ρ){dL:List Nat}{cI:List (Nat × Nat)}:b7 U b F fs {s with dL:=dL,cI:=cI} σ H G ρ:=
 ⟨R.aD,R.vs,R.own,R.dk,R.lt,R.mem,R.dQ⟩
theorem IP{A:Type}[aJ A]{S:A->Prop}(aY:gp U)(aA:mb S)(hT:rL aa cx)(ag:∀j f,nth cx.fv j=some f->∃w,fs[j]? =some w/\oo aa F f.dU f.rt f.f w){k:kO U->bA U->A}:
  ∀{ops:List bS} {aq:kO U} {a1:bW} {s:bA U} {σ:bW},S (xp cx ops aq s k)->b7 U b F fs s σ H G ρ->(∀t v,bj aq t=some v->b3 U s.aK ρ fs v (a1 t))->
  ∃eH s1 iE cU,iA (b0 aa) (dz s G F) ops a1 σ iE cU/\S (k eH s1)/\b7 U b F fs s1 cU H G ρ/\(∀t v,bj eH t=some v->b3 U s1.aK ρ fs v (iE t))/\Fr s s1/\s1.mem=s.mem/\s1.aD=s.aD
 |[],aq,a1,s,σ,h,R,bV=>⟨aq,s,a1,σ,.nil,h,R,bV,.rfl,rfl,rfl⟩
 |⟨d,op,g⟩::r,aq,a1,s,σ,h,R,bV=>by
  have fin:∀{s1:bA U} {v:aO U.ax} {w:V},jJ s s1->b3 U s1.aK ρ fs v w->S (match put aq s1 v d with|(aq,s)=>xp cx r aq s k)->
    ∃eH s2 iE cU,iA (b0 aa) (dz s G F) r (fI a1 d w) (fJ σ d w) iE cU/\S (k eH s2)/\b7 U b F fs s2 cU H G ρ/\(∀t v,bj eH t=some v->b3 U s2.aK ρ fs v (iE t))/\Fr s s2/\s2.mem=s.mem/\s2.aD=s.aD:=by
   intro s1 v w hk ad h1;have pW:∀t v,bj aq t=some v->b3 U s1.aK ρ fs v (a1 t):=fun t v q=>(bV t v q).mono hk.aK dW;have ba:dz s G F=dz s1 G F:=by unfold dz;rw[hk.mem]
   rw[ba,<-hk.mem,<-hk.aD]
   match d with
   |none=>
    obtain⟨eH,s2,a,c,af,ak,bK,cL,dF,hE⟩:=IP aY aA hT ag h1 (R.keep hk) pW;exact⟨eH,s2,a,c,af,ak,bK,cL,hk.b2.trans dF,hE⟩
   |some (t,false)=>
    obtain⟨eH,s2,a,c,af,ak,bK,cL,dF,hE⟩:=IP aY aA hT ag h1 (R.keep hk) (S4 pW ad);exact⟨eH,s2,a,c,af,ak,bK,cL,hk.b2.trans dF,hE⟩
   |some (t,true)=>
    obtain⟨eH,s2,a,c,af,ak,bK,cL,dF,hE⟩:=IP aY aA hT ag h1 ((R.keep hk).put ad) pW;exact⟨eH,s2,a,c,af,ak,bK,cL,hk.b2.trans (SY.trans dF),hE⟩
  have go:∀{s1:bA U},jJ s s1->gd a1 σ g=some true->S (SA cx aq s1 d (fun v s=>match put aq s v d with|(aq,s)=>xp cx r aq s k) op)->
    ∃eH s2 iE cU,iA (b0 aa) (dz s G F) (⟨d,op,g⟩::r) a1 σ iE cU/\S (k eH s2)/\b7 U b F fs s2 cU H G ρ/\(∀t v,bj eH t=some v->b3 U s2.aK ρ fs v (iE t))/\Fr s s2/\s2.mem=s.mem/\s2.aD=s.aD:=by
   intro s1 hk hw h1;have bP:=R.keep hk;have pW:∀t v,bj aq t=some v->b3 U s1.aK ρ fs v (a1 t):=fun t v q=>(bV t v q).mono hk.aK dW;have ba:dz s G F=dz s1 G F:=by unfold dz;rw[hk.mem]
   unfold SA at h1;split at h1
   ·split at h1
    ·rename_i fv afE BT xy
     obtain⟨v,ao,w,h1,h2,ar,aS⟩:=afo aY aA bP hT ag h1 (c1 bP pW BT) (xt bP pW xy);obtain⟨eH,s2,a,c,af,ak⟩:=fin (hk.trans h2) ar h1;exact⟨eH,s2,a,c,.step hw (fun H' aw=>by rw[ba]at aw;exact DS (aS H' aw).1 (aS H' aw).2 rfl rfl) af,ak⟩
    ·exact absurd h1 aA.bad
   ·obtain⟨v,ao,w,h1,h2,ar,aS⟩:=SN (call:=b0 aa) aY aA bP pW h1
    obtain⟨eH,s2,a,c,af,ak⟩:=fin (hk.trans h2) ar h1;exact⟨eH,s2,a,c,.step hw (fun H' aw=>by rw[ba]at aw;exact aS H' aw) af,ak⟩
  have skip:∀{s1:bA U},jJ s s1->gd a1 σ g=some false->S (match put aq s1 (.aU []) d with|(aq,s)=>xp cx r aq s k)->
    ∃eH s2 iE cU,iA (b0 aa) (dz s G F) (⟨d,op,g⟩::r) a1 σ iE cU/\S (k eH s2)/\b7 U b F fs s2 cU H G ρ/\(∀t v,bj eH t=some v->b3 U s2.aK ρ fs v (iE t))/\Fr s s2/\s2.mem=s.mem/\s2.aD=s.aD:=by
   intro s1 hk hw h1;obtain⟨eH,s2,a,c,af,ak⟩:=fin hk (.aU .nil) h1;exact⟨eH,s2,a,c,.skip hw af,ak⟩
  simp only[xp]at h
  match g with
  |none=>exact go .rfl rfl h
  |some (x,w)=>
   simp only at h;split at h
   ·exact absurd h aA.bad
   ·rename_i v ad
    have mK:=c1 R bV ad;split at h
    ·generalize BR:bw a1 σ x=xu at mK
     cases mK with
     |aU e8=>cases e8;exact skip .rfl (ad0 BR) h
    ·cases w with
     |true=>
      obtain⟨β,s1,af,ak,bK,cL⟩:=Ew aA h R.dQ mK;rcases cL with⟨rfl,h⟩|⟨rfl,h⟩
      ·exact go ak (jo af rfl) h
      ·exact skip ak (LH af rfl) h
     |false=>
      obtain⟨β,s1,af,ak,bK,cL⟩:=Ew aA h R.dQ mK;rcases cL with⟨rfl,h⟩|⟨rfl,h⟩
      ·exact skip ak (LI af rfl) h
      ·exact go ak (jo af rfl) h
theorem avp{eC:List Nat}{ops:List bS}{wr mW:List Bool}(h:hv wr mW)(ho:ye eC ops mW=true):ye eC ops wr=true:=by
 unfold ye at ho⊢;simp only[b6]at ho⊢;obtain⟨⟨h1,h2⟩,ar⟩:=ho;refine⟨⟨(h.take _).no h1,?_⟩,ar⟩;rw[ev]at h2⊢;rintro⟨w,i⟩ hw;cases w with
 |false=>rfl
 |true=>
  have hi:=h.get (jw.1 hw);exact h2 (true,i) (jw.2 hi)
theorem af2{n:Nat}:∀{m:List (Nat × ck U)},MM n m=true->∀e∈m,n<=e.1
 |[],_,_,h=>by cases h
 |a::r,h,e,he=>by
  simp only[MM]at h;split at h
  ·rename_i q
   rcases dx.1 he with rfl|he
   ·exact mh q
   ·exact af2 h e he
  ·cases h
theorem pU.low{b e1:Nat}(hb:b<=e1){B:List Bool}{o:Nat}{m:List (Nat × b5)}:∀{aV:ck U},pU U e1 B ρ fs o m aV->pU U b B ρ fs o m aV
 | .cells w cs,⟨a,ws,h1,h2,ar,aS⟩=>⟨a,ws,h1,h2,ar,fun q=>cY hb (aS q)⟩
 | .row t s,⟨v,h1,h2⟩=>⟨v,h1,by
   unfold fE at h2⊢;generalize s.map (U.enc t)=x at h2;cases h2 with
   |nil=>exact .nil
   |emp=>exact .emp
   |row l ds h q=>exact .row l ds h (cY hb q)⟩
 | .fz t s,⟨v,m0,h1,h2,ar⟩=>⟨v,m0,h1,by
   unfold fE at h2⊢;generalize s.map (U.enc t)=x at h2;cases h2 with
   |nil=>exact .nil
   |emp=>exact .emp
   |row l ds h q=>exact .row l ds h (cY hb q),ar⟩
 | .mp k w x,⟨a,h1,h2,ar⟩=>⟨a,h1,h2,cY hb ar⟩
theorem avq{A:Type}[aJ A]{S:A->Prop}(aY:gp U)(aA:mb S)(hT:rL aa cx)(ag:∀j f,nth cx.fv j=some f->∃w,fs[j]? =some w/\oo aa F f.dU f.rt f.f w){ops:List bS}{eC:List Nat}{k:bA U->A}{Q:X->bW->Heap->Prop}
  (h:S (xp cx (ops.take (k1 ops)) [] s fun aq s=>so cx (ops.drop (k1 ops)) aq {s with mem:=[]} (List.replicate (k1 ops) false) fun ao wr=>SC eC ops wr s.aD ao.mem (k {ao with mem:=ao.mem++s.mem}))) (R:b7 U b F fs s σ H G ρ)
  (cr:∀ao aW H' G' cS,S (k ao)->b7 U b F fs ao aW H' G' cS->ρ <+: cS->Fr s ao->Q .normal aW H'):fc aa b (.region ops (some eC)) σ H Q:=by
 obtain⟨eH,s1,iE,cU,p1,p2,bP,k8,uv,IQ,Nb⟩:=IP aY aA hT ag h R (fun t v q=>by cases q);refine aem (k1 ops) R.own rfl p1 fun hb=> ?_
 have O4:∀j f,nth cx.fv j=some f->∃w,fs[j]? =some w/\oo aa (dz s1 G F) f.dU f.rt f.f w:=fun j f q=>by
  obtain⟨w,af,ak,bK⟩:=ag j f q;exact⟨w,af,ak,fun H z q aw aR=>bK H z q (aw.sub (Fj _ _)) aR⟩
 have nF:b7 U H.length (dz s1 G F) fs {s1 with mem:=[]} cU H (fun _=>[]) ρ:=⟨bP.aD,bP.vs,bP.own,Fs,fun _ q=>(by cases q),fun _ _ q=>(by cases q),bP.dQ⟩;refine BU aY aA hT O4 p2 (hv.refl _) nF k8 fun s2 jG H2 bu uA wr mW al a2 eB a4 a5=> ?_;unfold SC at al;split at al
 ·rename_i af ak
  have hge:=af2 ak
  have no:∀{q},q<s1.aD->bj s2.mem q=none:=fun {q} bf=>SX fun hm=>by
   obtain⟨e,he,rfl⟩:=dZ.1 hm;exact absurd (hge e he) (Nat.not_le.2 bf)
  refine⟨avp a2 af,cr _ jG H2 (fun q=>if q<s1.aD then G q else bu q) uA al ⟨eB.aD,eB.vs,?_,?_,fun e he=> ?_,fun o aV ho=> ?_,eB.dQ⟩ a4 (uv.trans ?_)⟩
  ·have:=eB.own
   unfold dz at this⊢;simp only at this⊢;rw[kk,kA];have bK:s2.mem.map (fun e=>if e.1<s1.aD then G e.1 else bu e.1)=s2.mem.map fun e=>bu e.1:=p4 fun e he=>if_neg (Nat.not_lt.2 (hge e he));have cL:s1.mem.map (fun e=>if e.1<s1.aD then G e.1 else bu e.1)=s1.mem.map fun e=>G e.1:=p4 fun e he=>if_pos (bP.lt e he);rw[bK,cL];exact this
  ·simp only[kk]
   refine uT.2 ⟨eB.dk,bP.dk,fun x hx y hy e=> ?_⟩;obtain⟨p,hp,rfl⟩:=dZ.1 hx;obtain⟨q,bf,rfl⟩:=dZ.1 hy;have:=hge p hp;have:=bP.lt q bf;omega
  ·rcases iq.1 he with he|he
   ·exact eB.lt e he
   ·exact r3 (bP.lt e he) a5.aD
  ·have ho:bj (s2.mem++s1.mem) o=some aV:=ho
   rw[Es]at ho;cases hm:bj s2.mem o with
   |some c=>
    rw[hm]at ho;cases ho;simp only[if_neg (Nat.not_lt.2 (hge _ (ju hm)))];exact(eB.mem o aV hm).low hb
   |none=>
    rw[hm]at ho;simp only[if_pos (bP.lt _ (ju ho))];exact(bP.mem o aV ho).mono a5.aK a4
  ·exact⟨a5.vs,a5.dL,a5.cI,a5.aK,a5.aD,fun o w cs hm=>⟨cs,by
    show bj (s2.mem++s1.mem) o=_;rw[Es,no (bP.lt _ (ju hm))];exact hm,rfl,fun _ _=>rfl⟩,fun o aV hc hm=>.inl (by
    show bj (s2.mem++s1.mem) o=_;rw[Es,no (bP.lt _ (ju hm))];exact hm)⟩
 ·exact absurd al aA.bad
theorem hv.pre:∀(l:List Bool) {r o9:List Bool},hv r o9->hv (l++r) (l++o9)
 |[],_,_,h=>h
 | _::l,_,_,h=>.cons id (hv.pre l h)
theorem af3{o n:Nat}{c d:ck U}:∀{p q:List (Nat × ck U)},bj p o=some d->kd o n c (p++q)=kd o n c p++q
 |[],_,h=>by cases h
 |(a,e)::r,q,h=>by
  simp only[bj]at h;simp only[mi,kd];split at h
  ·rename_i af
   try rw[af]
   rfl
  ·rename_i af
   try rw[af]
   simp only[af3 h];rfl
section
variable{p:List (Nat × ck U)}
theorem b7.Tl (R:b7 U b F fs {s with mem:=p++s.mem} σ H G ρ){o:Nat}{c:ck U}(h:bj s.mem o=some c):bj (p++s.mem) o=some c:=by
 have hn:((p++s.mem).map Prod.fst).Nodup:=R.dk;rw[kk,uT]at hn;rw[Es,SX fun q=>hn.2.2 _ q _ (r2 (f:=Prod.fst) (ju h)) rfl];exact h
theorem b7.avr (R:b7 U b F fs {s with mem:=p++s.mem} σ H G ρ):b7 U b F fs s σ H G ρ where
 aD:=R.aD
 vs:=R.vs
 own:=R.own.sub (by unfold dz;simp only[kk,kA];exact Fj _ _)
 dk:=by
  have hn:((p++s.mem).map Prod.fst).Nodup:=R.dk;rw[kk,uT]at hn;exact hn.2.1
 lt:=fun e he=>R.lt e (pZ _ he)
 mem:=fun o c h=>R.mem o c (R.Tl h)
 dQ:=R.dQ
theorem b7.avs (R:b7 U b F fs {s with mem:=p++s.mem} σ H G ρ)(bP:b7 U b F fs s1 cU H G ρ)(hm:s1.mem=s.mem)(hn:s1.aD=s.aD)(hb:s.aK <+: s1.aK):b7 U b F fs {s1 with mem:=p++s1.mem} cU H G ρ where
 aD:=bP.aD
 vs:=bP.vs
 own:=by have:=R.own;unfold dz at this⊢; simp only at this⊢; rw[hm];exact this
 dk:=by have:=R.dk;simp only at this⊢; rw[hm];exact this
 lt:=fun e he=>by
  have he:e∈p++s1.mem:=he;rw[hm]at he;show e.1<s1.aD;rw[hn];exact R.lt e he
 mem:=fun o c h=>by
  have h:bj (p++s1.mem) o=some c:=h;rw[hm]at h;exact(R.mem o c h).mono hb dW
 dQ:=bP.dQ
end
theorem IU{A:Type}[aJ A]{S:A->Prop}(aY:gp U)(aA:mb S)(hT:rL aa cx)(ag:∀j f,nth cx.fv j=some f->∃w,fs[j]? =some w/\oo aa F f.dU f.rt f.f w){k:kO U->bA U->List (Nat × ck U)->List Bool->A}:
  ∀{ops:List bS} {aq:kO U} {a1:bW} {s:bA U} {σ:bW} {H:Heap} {G:Nat->List (Nat × b5)} {ρ:List V} {p:List (Nat × ck U)} {w:List Bool},S (xr cx ops aq s p w k)->b7 U b F fs {s with mem:=p++s.mem} σ H G ρ->(∀t v,bj aq t=some v->b3 U s.aK ρ fs v (a1 t))->b<=H.length->
  ∃eH s1 p1 iE cU H1 az gf aG,kb aa b (dz s G F) ops a1 σ H iE cU H1 aG/\S (k eH s1 p1 (w++aG))/\b7 U b F fs {s1 with mem:=p1++s1.mem} cU H1 az gf/\(∀t v,bj eH t=some v->b3 U s1.aK gf fs v (iE t))/\ρ <+: gf/\Fr s s1/\s1.mem=s.mem
 |[],aq,a1,s,σ,H,G,ρ,p,w,h,R,bV,hb=>⟨aq,s,p,a1,σ,H,G,ρ,[],.nil,by rw[lR];exact h,R,bV,dW,.rfl,rfl⟩
 |o::r,aq,a1,s,σ,H,G,ρ,p,w,h,R,bV,hb=>by
  have nF:=R.avr
  have fin:∀{d:Option (Nat × Bool)} {op:cV} {p1:List (Nat × ck U)} {v':V} {H1:Heap} {bO:Nat} {m':List (Nat × b5)},cc (b0 aa) (bw a1 σ) H H.length op=some (v',H1,bO)->b<=bO->b<=H1.length->
    b7 U b F fs {s with mem:=p1++s.mem,aD:=s.aD+1} σ H1 (fun q=>if q=s.aD then m' else G q) (ρ++[v'])->
    S (match put aq {s with aD:=s.aD+1} (.row s.aD) d with|(aq,s1)=>xr cx r aq s1 p1 (w++[true]) k)->
    ∃eH s1 p1 iE cU H1 az gf aG,kb aa b (dz s G F) (⟨d,op,none⟩::r) a1 σ H iE cU H1 aG/\S (k eH s1 p1 (w++aG))/\b7 U b F fs {s1 with mem:=p1++s1.mem} cU H1 az gf/\(∀t v,bj eH t=some v->b3 U s1.aK gf fs v (iE t))/\ρ <+: gf/\Fr s s1/\s1.mem=s.mem:=by
   intro d op p1 v' H1 bO m' df er e2 bP h1
   have EG:dz s (fun q=>if q=s.aD then m' else G q) F=dz s G F:=by
    unfold dz;congr 1;exact p4 fun e he=>if_neg (qW (nF.lt e he))
   have Ie:Own H1 (dz s G F):=by
    rw[<-EG];exact bP.own.sub (by unfold dz;simp only[kk,kA];exact Fj _ _)
   have pW:∀t v,bj aq t=some v->b3 U s.aK (ρ++[v']) fs v (a1 t):=fun t v q=>(bV t v q).mono dW (hK _ _);have mK:b3 U s.aK (ρ++[v']) fs (.row s.aD) v':=.row (nF.new v');have Tm:Fr s {s with aD:=s.aD+1}:=⟨fun _ _=>rfl,fun _ h=>h,fun _ h=>h,dW,Fu _,fun o w cs hm=>⟨cs,hm,rfl,fun _ _=>rfl⟩,fun _ _ _ h=>.inl h⟩
   match d,h1 with
   |none,h1=>
    obtain⟨eH,s1,p2,iE,cU,H2,az,gf,aG,af,ak,bK,cL,dF,hE,od⟩:=IU (s:={s with aD:=s.aD+1}) aY aA hT ag h1 bP pW e2;have af:kb aa b (dz s (fun q=>if q=s.aD then m' else G q) F) r a1 σ H1 iE cU H2 aG:=af;rw[EG]at af;exact⟨eH,s1,p2,iE,cU,H2,az,gf,true::aG,.make rfl df er e2 Ie af,by simpa using ak,bK,cL,(hK _ _).trans dF,Tm.trans hE,od⟩
   |some (t,false),h1=>
    obtain⟨eH,s1,p2,iE,cU,H2,az,gf,aG,af,ak,bK,cL,dF,hE,od⟩:=IU (s:={s with aD:=s.aD+1}) aY aA hT ag h1 bP (S4 pW mK) e2;have af:kb aa b (dz s (fun q=>if q=s.aD then m' else G q) F) r (up a1 t v') σ H1 iE cU H2 aG:=af;rw[EG]at af;exact⟨eH,s1,p2,iE,cU,H2,az,gf,true::aG,.make rfl df er e2 Ie af,by simpa using ak,bK,cL,(hK _ _).trans dF,Tm.trans hE,od⟩
   |some (t,true),h1=>
    obtain⟨eH,s1,p2,iE,cU,H2,az,gf,aG,af,ak,bK,cL,dF,hE,od⟩:=IU aY aA hT ag h1 (bP.put mK) pW e2;have af:kb aa b (dz s (fun q=>if q=s.aD then m' else G q) F) r a1 (up σ t v') H1 iE cU H2 aG:=af;rw[EG]at af;exact⟨eH,s1,p2,iE,cU,H2,az,gf,true::aG,.make rfl df er e2 Ie af,by simpa using ak,bK,cL,(hK _ _).trans dF,Tm.trans (SY.trans hE),od⟩
  simp only[xr]at h;split at h
  ·rename_i d f ay
   split at h
   ·rename_i i v De xy
    split at h
    ·rename_i q bf
     split at h
     ·rename_i x hx avt
      obtain⟨z,aR,h⟩:=aA.cv h;obtain⟨cR,avb,cH,hn⟩:=(hT.2 _ (ju bf)).clone avt;have ha:=xt nF bV xy
      obtain⟨dB,rfl⟩:∃dB,ay=[dB]:=by
       have:=ha.length
       match ay,this with
       |[dB],_=>exact⟨dB,rfl⟩
      cases ha with
      |cons ad _=>
       have iv:=c1 nF bV De;generalize ED:bw a1 σ f=wf at iv;cases iv with
       |fn hl=>
        cases hl;obtain⟨v',H1,m',df,er,e2,h6⟩:=aep (b:=b) cH hn aR R.own ED (EC hx ad) (aY.bI q.1) (aY.ok q.1) hb;exact fin (p1:=(s.aD,.row q.1 z)::p) df hb (cY hb h6) (R.add e2 ⟨v',R.new v',er⟩) h
     ·exact absurd h aA.bad
    ·exact absurd h aA.bad
   ·exact absurd h aA.bad
  ·rename_i d es bytes dB fP
   split at h
   ·rename_i x o lo hi oe rM
    split at h
    ·rename_i t y hm ak
     split at h
     ·rename_i af
      obtain⟨q,bf,h0⟩:=aA.cv h;obtain⟨z,aR,h1⟩:=aA.cv h0;have eo:=eE af;subst eo;have sf:=c1 nF bV rM;generalize IG:bw a1 σ fP=wb at sf;cases sf with
      |lp ho S3=>
       obtain⟨v1,bB,ca⟩:=nF.mem o _ hm;obtain⟨bQ,gG,-⟩:=nF.at hm;rw[bB]at ho;cases ho;have y3:Go.Abs.elems H (U.es t) (bw a1 σ fP)=some (q.l.map (U.enc t)):=by rw[IG];exact afj bQ gG nF.own ca bf S3
       obtain⟨v',H1,bO,m',df,er,e2,h6,ie⟩:=aus (aa:=aa) (b:=b) hb 0 aR (R.own.ins 0) rfl fe.emp (y2 ak (c1 nF bV oe)) y3 (aY.bI t) (aY.ok t);exact fin (p1:=(s.aD,.row t z)::p) e2 df er (R.add ie ⟨v',R.new v',h6⟩) h1
     ·exact absurd h aA.bad
    ·exact absurd h aA.bad
   ·rename_i q y _ oe rM
    split at h
    ·rename_i t x hm
     split at h
     ·rename_i oI af ak
      obtain⟨z,aR,h⟩:=aA.cv h;have h7:bj (p++s.mem) q=some (.row t x):=by rw[Es,hm]
      obtain⟨dC,gi,Av⟩:∃v,ρ[q]? =some v/\fE b (U.es t) (U.enc t) v x (G q):=R.mem q _ h7
      have fg:bw a1 σ dB=dC:=by
       have:=c1 nF bV oe;cases this with
       |row h1=>rw[gi]at h1;exact(te h1).symm
      have eo:=eE af;subst eo;obtain⟨avu,bQ,c6⟩:=R.rep h7;obtain⟨v',H1,bO,m',df,er,e2,h6,ie⟩:=aeZ (aa:=aa) (b:=b) hb avu aR R.own bQ Av fg (EC ak (c1 nF bV rM)) (aY.bI t) (aY.ok t);have eB:=c6 (c:=.row t z) (cI:=s.cI) ⟨v',R.new v',h6⟩ ie;have bK:kd q s.aD (.row t z) (p++s.mem)=kd q s.aD (.row t z) p++s.mem:=af3 hm;have n0:b7 U b F fs {s with mem:=kd q s.aD (.row t z) p++s.mem,aD:=s.aD+1} σ H1 (fun q=>if q=s.aD then m' else G q) (ρ++[v']):=by rw[<-bK];exact eB
      exact fin e2 df er n0 h
     ·exact absurd h aA.bad
    ·exact absurd h aA.bad
   ·rename_i x t y aEg oe rM
    split at h
    ·rename_i af ak
     obtain⟨z,aR,h⟩:=aA.cv h;have eo:=eE af;subst eo
     have hy:bw a1 σ fP=bn (U.es t) (U.enc t) y:=by
      have:=c1 nF bV rM;generalize bw a1 σ fP=SK at this;cases this;rfl
     obtain⟨v',H1,bO,m',df,er,e2,h6,ie⟩:=aeZ (aa:=aa) (b:=b) hb 0 aR (R.own.ins 0) rfl fe.emp (y2 ak (c1 nF bV oe)) hy (aY.bI t) (aY.ok t);exact fin (p1:=(s.aD,.row t z)::p) e2 df er (R.add ie ⟨v',R.new v',h6⟩) h
    ·exact absurd h aA.bad
   ·exact absurd h aA.bad
  ·rename_i o' sC tC
   obtain⟨eH,s1,iE,cU,q1,q2,n0,c7,fr,ic,mH⟩:=IP aY aA hT ag h nF bV;have EG:dz s1 G F=dz s G F:=by unfold dz;rw[ic]
   obtain⟨Mu,s2,p2,avv,jG,H2,bu,uA,bR,af,ak,bK,cL,dF,hE,od⟩:=IU aY aA hT ag q2 (R.avs n0 ic mH fr.aK) c7 hb;rw[EG]at af;refine⟨Mu,s2,p2,avv,jG,H2,bu,uA,[false]++bR,kb.append (iA.auk q1) af,by simpa using ak,bK,cL,dF,fr.trans hE,od.trans ic⟩
theorem avw{A:Type}[aJ A]{S:A->Prop}(aY:gp U)(aA:mb S)(hT:rL aa cx)(ag:∀j f,nth cx.fv j=some f->∃w,fs[j]? =some w/\oo aa F f.dU f.rt f.f w){ops:List bS}{eC:List Nat}{n:Nat}{k:bA U->A}{Q:X->bW->Heap->Prop}
  (h:S (ae8 cx eC ops n s k)) (R:b7 U b F fs s σ H G ρ) (cr:∀ao aW H' G' cS,S (k ao)->b7 U b F fs ao aW H' G' cS->ρ <+: cS->Fr s ao->Q .normal aW H'):fc aa b (.region ops (some eC)) σ H Q:=by
 refine aum (ms:=dz s G F) (Oe n ops) R.own fun hb=> ?_;obtain⟨eH,s1,p1,iE,cU,H1,az,gf,aG,af,ak,bK,cL,dF,hE,od⟩:=IU (a1:=n9) (p:=[]) aY aA hT ag h R (fun t v q=>by cases q) hb;rw[jN]at ak;refine⟨iE,cU,H1,aG,af,fun w' hw=> ?_⟩;have f1:Fr s1 {s1 with mem:=p1++s1.mem}:=⟨fun _ _=>rfl,fun _ h=>h,fun _ h=>h,dW,aH _,fun o w cs hm=>⟨cs,bK.Tl hm,rfl,fun _ _=>rfl⟩,fun o c hc hm=>.inl (bK.Tl hm)⟩;refine BU aY aA hT ag ak hw.rev bK cL fun ao aW H' G' cS wr mW al a2 Tn a4 a5=> ?_;split at al
 ·rename_i e
  exact⟨aul a2 e,cr _ _ _ _ _ al Tn (dF.trans a4) (hE.trans (f1.trans a5))⟩
 ·exact absurd al aA.bad
theorem avx{c:bZ}{Q:X->bW->Heap->Prop}(h:fc aa b c σ H (andThen aa b (.loop c) Q)):fc aa b (.loop c) σ H Q:=fun au low h1 h2 ar=>by
 obtain⟨x,dt,H',low',aW,af,ak,bK,cL,dF⟩:=h au low h1 h2 ar;rw[sa,af];cases x with
 |normal=>exact dF dt low' ak bK cL
 |exit i=>exact⟨_,_,_,_,aW,rfl,ak,bK,cL,dF⟩
 |ret=>exact⟨_,_,_,_,aW,rfl,ak,bK,cL,dF⟩
theorem af4 (aY:gp U){f:kR U->{A:Type}->[aJ A]->bA U->(X->bA U->A)->A}{a:bZ}(ih:∀{an:kR U} {A:Type} [aJ A] {S:A->Prop},mb S->∀{s:bA U} {k:X->bA U->A} {σ:bW} {H:Heap} {G:Nat->List (Nat × b5)} {ρ:List V} {Q:X->bW->Heap->Prop},S (f an s k)->b7 U b F fs s σ H G ρ->
   (∀x ao aW H' G' cS,S (k x ao)->b7 U b F fs ao aW H' G' cS->ρ <+: cS->Fr s ao->Q x aW H')->fc aa b a σ H Q) {hd:nB U} {os:y1 U} {x:kR U} {A:Type} [aJ A] {S:A->Prop} (aA:mb S) {s:bA U} {k:X->bA U->A} {σ:bW} {H:Heap} {G:Nat->List (Nat × b5)} {ρ:List V} {Q:X->bW->Heap->Prop}
  (h:S (MN f (kx a) hd os x s k)) (R:b7 U b F fs s σ H G ρ) (cr:∀x ao aW H' G' cS,S (k x ao)->b7 U b F fs ao aW H' G' cS->ρ <+: cS->Fr s ao->Q x aW H'):fc aa b (.loop a) σ H Q:=by
 unfold MN at h;split at h
 ·exact absurd h aA.bad
 ·rename_i avy avz
  obtain⟨o,ho,h⟩:=aA.cv h
  refine cM _ (fun st aW H'=>∃G' cS,b7 U b F fs (fresh (enter (kx a) [] hd st s)) aW H' G' cS/\ρ <+: cS)
   (fun o x aW H'=>∃s2 G' cS,(S (leave (fV hd++kx a) (iB hd) s k os o)->S (k x s2))/\b7 U b F fs s2 aW H' G' cS/\ρ <+: cS/\Fr s s2) ho ?_ ?_ ?_
  ·obtain⟨G',cS,bB,ca⟩:=M8 (W:=kx a) (M:=[]) aY R R dW .rfl avz
   exact⟨G',cS,bB.M7,ca⟩
  ·rintro st cU H1 r ⟨az,gf,bP,af5⟩ hr
   refine ih (SH r) hr bP fun fQ s2 jG H2 bu uA al a2 a3 a4=> ?_
   have base:iD (fV hd++kx a) ([]++iB hd) s (fresh (enter (kx a) [] hd st s)):=by
    have:=afR (W:=kx a) (M:=[]) R.lt (x:=st);exact⟨this.vs,this.aK,this.aD,this.mem,this.row⟩
   have oM:s.aD<=(fresh (enter (kx a) [] hd st s)).aD:=base.aD
   have af6:∀{y:Bz U (BD os)},BF s.aK.length s.aD (fV hd++kx a) (iB hd) fQ s2 os=some y->∃e9 G' cS,(S (leave (fV hd++kx a) (iB hd) s k os y)->S (k fQ e9))/\b7 U b F fs e9 jG H2 G' cS/\ρ <+: cS/\Fr s e9:=by
    intro y hy;obtain⟨sh,z,g1,g2⟩:=Tg (S:=S) (s:=s) (k:=k) hy;obtain⟨q1,q2,cn⟩:=Tf g1
    have gZ:iD (fV sh++(fV hd++kx a)) (iB hd++iB sh) s s2:=
     base.afY (by simp) a4 R.lt (fun t ht=>pZ _ ht) (fun p hp=>x5 _ (by simpa using hp)) (fun t ht=>pZ _ (q1 t ht)) q2
    obtain⟨G',cS,bB,ca⟩:=M8 aY R a2 (af5.trans a3) gZ cn;exact⟨_,G',cS,g2,bB,ca,afS R.lt⟩
   cases fQ with
   |normal=>
    simp only at al;split at al
    ·rename_i y hy
     cases al;obtain⟨q1,q2,cn⟩:=Tf hy;have gZ:iD (fV hd++kx a) ([]++iB hd) s s2:=base.afY (by simp) a4 R.lt (fun _ h=>h) (fun _ h=>h) (fun t ht=>pZ _ (q1 t ht)) q2;obtain⟨G',cS,bB,ca⟩:=M8 aY R a2 (af5.trans a3) gZ cn;exact⟨rfl,G',cS,bB.M7,ca⟩
    ·cases al
   |exit i=>
    simp only at al;split at al
    ·rename_i y hy;cases al;exact⟨nofun,af6 hy⟩
    ·cases al
   |ret=>
    simp only at al;split at al
    ·rename_i y hy;cases al;exact⟨nofun,af6 hy⟩
    ·cases al
  ·rintro fQ cU H1 ⟨s2,bu,uA,df,er,e2,h6⟩
   exact cr _ _ _ _ _ _ (df h) er e2 h6
set_option maxHeartbeats 1000000 in
theorem vE (aY:gp U)(hT:rL aa cx)(ag:∀j f,nth cx.fv j=some f->∃w,fs[j]? =some w/\oo aa F f.dU f.rt f.f w):
  ∀{c:bZ} {an:kR U} {A:Type} [aJ A] {S:A->Prop},mb S->∀{s:bA U} {k:X->bA U->A} {σ:bW} {H:Heap} {G:Nat->List (Nat × b5)} {ρ:List V} {Q:X->bW->Heap->Prop},S (kS cx c an s k)->b7 U b F fs s σ H G ρ->
   (∀x ao aW H' G' cS,S (k x ao)->b7 U b F fs ao aW H' G' cS->ρ <+: cS->Fr s ao->Q x aW H')->fc aa b c σ H Q
 | .skip,an,A,_,S,aA,s,k,σ,H,G,ρ,Q,h,R,cr=>AZ (cr _ _ _ _ _ _ h R dW .rfl)
 | .ret,an,A,_,S,aA,s,k,σ,H,G,ρ,Q,h,R,cr=>A0 (cr _ _ _ _ _ _ h R dW .rfl)
 | .exit i,an,A,_,S,aA,s,k,σ,H,G,ρ,Q,h,R,cr=>LG (cr _ _ _ _ _ _ h R dW .rfl)
 | .region ops eC,an,A,_,S,aA,s,k,σ,H,G,ρ,Q,h,R,cr=>by
   unfold kS at h;split at h
   ·exact avq (k:=fun s=>k .normal s) aY aA hT ag h R fun ao aW H' G' cS al a2 a3 a4=>cr _ _ _ _ _ _ al a2 a3 a4
   ·exact avw (k:=fun s=>k .normal s) aY aA hT ag h R fun ao aW H' G' cS al a2 a3 a4=>cr _ _ _ _ _ _ al a2 a3 a4
   ·exact afX (k:=fun s=>k .normal s) aY aA hT ag h R fun ao aW H' G' cS al a2 a3 a4=>cr _ _ _ _ _ _ al a2 a3 a4
 | .seq a c,an,A,_,S,aA,s,k,σ,H,G,ρ,Q,h,R,cr=>by
   have snd:∀{y:kR U} {x:X} {ao:bA U} {aW:bW} {H':Heap} {G':Nat->List (Nat × b5)} {cS:List V},S (match x with| .normal=>kS cx c y ao k|x=>k x ao)->b7 U b F fs ao aW H' G' cS->ρ <+: cS->Fr s ao->andThen aa b c Q x aW H':=by
    intro y x ao aW H' G' cS al a2 a3 a4;cases x with
    |normal=>exact vE aY hT ag aA al a2 fun x s2 jG H2 bu uA b1 e3 iC kG=>cr _ _ _ _ _ _ b1 e3 (a3.trans iC) (a4.trans kG)
    |exit i=>exact cr _ _ _ _ _ _ al a2 a3 a4
    |ret=>exact cr _ _ _ _ _ _ al a2 a3 a4
   unfold kS at h;split at h
   ·rename_i os x y
    obtain⟨o,ho,h⟩:=aA.cv h;refine qF (vE aY hT ag (SH o) ho R.M7 fun fQ s1 cU H1 az gf al a2 a3 a4=> ?_);obtain⟨sh,z,g1,g2⟩:=Tg (S:=S) (s:=s) (k:=fun x ao=>match x with| .normal=>kS cx c y ao k|x=>k x ao) al;obtain⟨q1,q2,cn⟩:=Tf g1
    have gZ:iD (fV sh++kx a) ([]++iB sh) s s1:=by
     have:=a4.gZ (W:=fV sh++kx a) (M:=[]++iB sh) R.lt (fun t ht=>pZ _ (q1 t ht)) q2;exact⟨this.vs,this.aK,this.aD,this.mem,this.row⟩
    obtain⟨G',cS,bB,ca⟩:=M8 aY R a2 a3 gZ cn;exact snd (g2 h) bB ca (afS R.lt)
   ·rename_i sl y
    split at h
    ·rename_i ops eC
     unfold ae9 at h;split at h
     ·rename_i hw
      obtain⟨s1,p1,p2,p3⟩:=Ti hw;refine qF (afX (S:=fun q:pQ (bA U)=>q.val=some s1) (k:=fun s=>pQ.leaf s) (s:={s with dL:=[],cI:=[]}) aY (auH s1) hT ag p1 R.af1 fun ao aW H' G' cS al a2 a3 a4=> ?_);cases al
      have gZ:iD (pT ops) [] s s1:=by
       have:=a4.gZ (W:=pT ops) (M:=[]) R.lt p2 (fun o j q=>by rw[p3]at q;cases q);exact⟨this.vs,this.aK,this.aD,this.mem,this.row⟩
      have hb:=afM R a2 a3 gZ;have pq:b7 U b F fs {blank (pT ops) [] s with dL:=sl++(pT ops++s.dL)} aW H' G' ρ:=hb.af1;obtain⟨ky,af,ak,bK,cL,dF⟩:=afW aA a2 a3 gZ.aK p1 pq (dW) (by rw[R.aD];exact h)
      have w:iD (sl++(pT ops++s.dL)) [] s ky:=by
       have aG:=(afJ (s:=s) (W:=pT ops) (M:=[])).wide (W':=sl++(pT ops++s.dL)) (M':=[]) (fun t ht=>pZ _ (x5 _ ht)) (fun _ q=>q);have bR:=bK.wide (W':=sl++(pT ops++s.dL)) (M':=[]) (fun t ht=>x5 _ ht) (fun _ q=>q);exact iD.trans (s1:={blank (pT ops) [] s with dL:=sl++(pT ops++s.dL)}) ⟨aG.vs,aG.aK,aG.aD,aG.mem,aG.row⟩ bR
      refine snd (x:=.normal) af ak dW ⟨fun t ht=>w.vs t fun q=>ht (by rw[cL];exact q),fun t ht=>by rw[cL];exact pZ _ (pZ _ ht),fun q bf=>by rw[dF];exact bf,w.aK,w.aD,fun o wr cs hm=> ?_,fun o aV hc hm=>.inl ((w.row o aV hc hm).resolve_right (by simp))⟩;obtain⟨cs',m1,m2,m3⟩:=w.mem o wr cs hm;exact⟨cs',m1,m2,fun j _=>m3 j (by simp)⟩
     ·exact absurd h aA.bad
    ·exact absurd h aA.bad
   ·exact qF (vE aY hT ag aA h R fun x ao aW H' G' cS al a2 a3 a4=>snd al a2 a3 a4)
 | .cond x a c,an,A,_,S,aA,s,k,σ,H,G,ρ,Q,h,R,cr=>by
   simp only[kS]at h;split at h
   ·exact absurd h aA.bad
   ·rename_i v ad
    obtain⟨β,s1,af,ak,bK,cL⟩:=Ew aA h R.dQ (c1 (a1:=n9) R (fun t v q=>by cases q) ad);rcases cL with⟨rfl,h⟩|⟨rfl,h⟩
    ·exact A1 af rfl (vE aY hT ag aA h (R.keep ak) fun x s2 jG H2 bu uA b1 e3 iC kG=>cr _ _ _ _ _ _ b1 e3 iC (ak.b2.trans kG))
    ·exact A2 af rfl (vE aY hT ag aA h (R.keep ak) fun x s2 jG H2 bu uA b1 e3 iC kG=>cr _ _ _ _ _ _ b1 e3 iC (ak.b2.trans kG))
 | .block id a,an,A,_,S,aA,s,k,σ,H,G,ρ,Q,h,R,cr=>by
   simp only[kS]at h;exact G2 (vE aY hT ag aA h R fun x s2 jG H2 bu uA b1 e3 iC kG=>cr _ _ _ _ _ _ b1 e3 iC kG)
 | .loop a,an,A,_,S,aA,s,k,σ,H,G,ρ,Q,h,R,cr=>by
   unfold kS at h;split at h
   ·exact af4 aY (fun {_ _ _ _} aA {_ _ _ _ _ _ _} h R cr=>vE aY hT ag aA h R cr) aA h R cr
   ·refine avx (vE aY hT ag aA h R fun x ao aW H' G' cS al a2 a3 a4=> ?_)
    cases x with
    |normal=>exact af4 aY (fun {_ _ _ _} aA {_ _ _ _ _ _ _} h R cr=>vE aY hT ag aA h R cr) aA al a2 fun x s2 jG H2 bu uA b1 e3 iC kG=>cr _ _ _ _ _ _ b1 e3 (a3.trans iC) (a4.trans kG)
    |exit i=>exact cr _ _ _ _ _ _ al a2 a3 a4
    |ret=>exact cr _ _ _ _ _ _ al a2 a3 a4
   ·exact absurd h aA.bad
 | .zQ ..,an,A,_,S,aA,s,k,σ,H,G,ρ,Q,h,R,cr=>absurd h (by unfold kS;exact aA.bad)
 | .rangeFunc ..,an,A,_,S,aA,s,k,σ,H,G,ρ,Q,h,R,cr=>absurd h (by unfold kS;exact aA.bad)
 | .fail,an,A,_,S,aA,s,k,σ,H,G,ρ,Q,h,R,cr=>absurd h (by unfold kS;exact aA.bad)
end
end Go.Abs.gB
namespace Go.Abs.gB
open Go Go.Abs
section
variable{U:iQ}{b:Nat}{F:cG}{fs:List V}{s ao:bA U}{σ:bW}{H:Heap}{G:Nat->List (Nat × b5)}{ρ:List V}{aa:Nat->Option bU}
theorem To:∀(vs:List V) (i j:Nat) (v:V),vs[j]? =some v->xb i vs (i+j)=v
 |[],_,_,_,h=>by simp at h
 |u::r,i,0,v,h=>by simp at h;subst h;exact w5 _ _ _
 |u::r,i,j+1,v,h=>by
  simp at h;rw[xb,jF _ _ (by omega),show i+(j+1)=i+1+j by omega];exact To r (i+1) j v h
theorem Tp{F:cG}:∀{ay:List ma} {a:o0 U ay} {ws:List V},uu aa F ay a ws->ws.length=ay.length
 |[],_,_,h=>by cases h;rfl
 | .v t::ay,x,_,⟨eK,e,r⟩=>by subst e;simp[Tp r]
 | .f _ _::ay,x,_,⟨w,eK,e,_,r⟩=>by subst e;simp[Tp r]
def EH:List ma->List V->List V
 | .v _::r,_::ws=>EH r ws
 | .f _ _::r,w::ws=>w::EH r ws
 | _,_=>[]
def af7 (aa:Nat->Option bU)(F:cG)(fs:List V)(l:List (Il U)):Prop:=∀j f,nth l j=some f->∃w,fs[j]? =some w/\oo aa F f.dU f.rt f.f w
theorem Tq (aY:gp U):∀{ay:List ma} {x:o0 U ay} {ws:List V} {j:Nat} {s:bA U} {l:List (Il U)} {pre:List V},uu aa F ay x ws->(∀i w,ws[i]? =some w->σ (j+i)=w)->fs=pre++EH ay ws->pre.length=l.length->af7 aa F fs l->b7 U b F fs s σ H G ρ->
  b7 U b F fs (BG ay x j s l).1 σ H G ρ/\af7 aa F fs (BG ay x j s l).2/\(BG ay x j s l).1.mem=s.mem/\(BG ay x j s l).1.aD=s.aD
 |[],x,ws,j,s,l,pre,hA,rO,ag,hp,hl,R=>⟨R,hl,rfl,rfl⟩
 | .v t::ay,x,ws,j,s,l,pre,⟨eK,e,r⟩,rO,ag,hp,hl,R=>by
   subst e;have h0:=rO 0 _ rfl;have oN:=EE (R.keep (MT (U.yW t x.1))) (l:=.s j) (w:=U.enc t x.1) h0.symm (aY.hS t x.1 s.aK ρ fs);exact Tq (ay:=ay) (x:=x.2) (ws:=eK) (j:=j+1) (l:=l) aY r (fun i w h=>by have:=rO (i+1) w (by simpa using h);rwa [JX,qV]) ag hp hl oN
 | .f dU rt::ay,x,ws,j,s,l,pre,⟨w,eK,e,q,r⟩,rO,ag,hp,hl,R=>by
   subst e;have h0:=rO 0 _ rfl
   have hj:fs[l.length]? =some w:=by
    rw[ag,<-hp,pX (aH _)];simp[EH]
   have oN:=EE R (l:=.s j) (w:=w) (v:=.fv l.length) h0.symm (.fv hj);refine Tq (ay:=ay) (x:=x.2) (ws:=eK) (j:=j+1) (l:=l++[⟨dU,rt,x.1⟩]) aY (pre:=pre++[w]) r (fun i w h=>by have:=rO (i+1) w (by simpa using h);rwa [JX,qV]) (by rw[ag];simp[EH]) (by simp[hp]) (fun k g hk=> ?_) oN;rw[xl]at hk;rcases gh k l.length with aT|hge
   ·rw[e5 aT]at hk
    exact hl k g (by rw[xl];exact hk)
   ·rw[pX hge]at hk
    cases hd:k-l.length with
    |zero=>
     rw[hd]at hk;cases hk;have:k=l.length:=by omega
     subst this;exact⟨w,hj,q⟩
    |succ n=>rw[hd]at hk;simp at hk
theorem af8 (aY:gp U):∀{ts:List Nat} {c:ee U ts} {ay:List Nat} {j:Nat} {s ao:bA U} {G:Nat->List (Nat × b5)} {ρ:List V},MO ts c j s=some ao->ay.length=ts.length->(∀i a,ay[i]? =some a->σ (j+i)=.ptr a 0)->Own H (s.mem.map (fun e=>G e.1)++(BK ts c ay++F))->b7 U b F fs s σ H G ρ->
  ∃G' cS,b7 U b F fs ao σ H G' cS
 |[],c,ay,j,s,ao,G,ρ,h,hl,rO,aw,R=>by cases h;exact⟨G,ρ,R⟩
 |t::ts,c,[],j,s,ao,G,ρ,h,hl,rO,aw,R=>by cases hl
 |t::ts,c,a::ay,j,s,ao,G,ρ,h,hl,rO,aw,R=>by
  simp only[MO]at h;split at h
  ·cases h
  ·rename_i cs hc
   have eV:=BH (ρ:=ρ) (fs:=fs) hc (aY.hS t (pR ts c) s.aK ρ fs);have h0:=rO 0 _ rfl;refine af8 aY (G:=fun o=>if o=s.aD then[(a,.cells (aC (U.enc t (pR ts c))))]else G o) (ρ:=ρ++[.ptr a 0]) h (by simpa using hl) (fun i bk hi=>by have:=rO (i+1) bk (by simpa using hi);rwa [JX,qV]) ?_ ?_
   ·have e:(s.mem.map fun e=>if e.1=s.aD then[(a,b5.cells (aC (U.enc t (pR ts c))))]else G e.1)=s.mem.map fun e=>G e.1:=
     p4 fun e he=>by rw[if_neg (qW (R.lt e he))]
    simp only[kk,e,dv,iT,if_pos,kA,List.singleton_append];exact aw
   ·have af9:(ρ++[V.ptr a 0])[s.aD]? =some (.ptr a 0):=by rw[pX (by rw[R.aD];exact aH _),R.aD];simp
    refine⟨by simp[R.aD],fun k v hk=> ?_,?_,?_,fun e he=> ?_,fun o aV ho=> ?_,fun i β hk=>lN (hK _ _) (R.dQ i β hk)⟩
    ·have hk:bj ((j,.ptr s.aD 0)::s.vs) k=some v:=hk
     rw[fZ]at hk;split at hk
     ·rename_i e;cases hk;subst e
      rw[show σ j=.ptr a 0 from h0];exact .ptr af9
     ·exact(R.vs k v hk).mono (hK _ _) (hK _ _)
    ·have e:(s.mem.map fun e=>if e.1=s.aD then[(a,b5.cells (aC (U.enc t (pR ts c))))]else G e.1)=s.mem.map fun e=>G e.1:=
      p4 fun e he=>by rw[if_neg (qW (R.lt e he))]
     unfold dz;simp only[kk,e,dv,iT,if_pos,kA,List.singleton_append];refine aw.sub (List.Sublist.append (J0 _) ?_);simp only[BK,mi];exact List.Sublist.cons_cons _ (Fj _ _)
    ·simp only[kk,dv,iT]
     refine uT.2 ⟨R.dk,by simp,fun x hx y hy=> ?_⟩;obtain⟨e,he,q⟩:=dZ.1 hx;simp only[zB]at hy;subst hy;rw[<-q];exact qW (R.lt e he)
    ·rcases iq.1 he with he|he
     ·exact Oj (R.lt e he)
     ·simp only[zB]at he;subst he;exact zE _
    ·have ho:bj (s.mem++[(s.aD,ck.cells false cs)]) o=some aV:=ho
     rw[Es]at ho;cases hm:bj s.mem o with
     |some c'=>
      rw[hm]at ho;cases ho;have:=(R.mem o aV hm).mono (hK s.aK (U.yW t (pR ts c))) (hK ρ [.ptr a 0]);simp only[qW (R.lt _ (ju hm)),if_false];exact this
     |none=>
      rw[hm]at ho;simp only at ho;rw[fZ]at ho;split at ho
      ·rename_i e
       cases ho;subst e;exact⟨a,_,af9,by simp,eV.mono dW (hK _ _),fun q=>by cases q⟩
      ·cases ho
theorem aga (R:b7 U b F fs s σ H G ρ):∀{rs:List nd} {vs:List (aO U.ax)},It s rs=some vs->∃us,ub σ H rs us/\bD U s.aK ρ fs vs us
 |[],_,h=>by cases h;exact⟨[],.nil,.nil⟩
 |r::rs,vs,h=>by
  simp only[It]at h;split at h
  ·cases h
  ·rename_i v ad
   split at h
   ·cases h
   ·rename_i l hl
    cases h;obtain⟨us,h1,h2⟩:=aga R hl;cases r with
    |tmp t=>exact⟨_,.tmp rfl h1,.cons (R.vs t v ad) h2⟩
    |cell a sh=>
     simp only at ad;split at ad
     ·rename_i o f ha
      split at ad
      ·rename_i w cs hm
       have gi:=R.vs a _ ha;generalize hw:σ a=w at gi;cases gi with
       |ptr ho=>
        obtain⟨q,ws,q1,q2,cn,c7,-⟩:=R.cells hm;rw[q1]at ho;cases ho;obtain⟨u,df,er⟩:=Iy ad c7;exact⟨_,.cell hw (cn H R.own) df h1,.cons er h2⟩
      ·cases ad
     ·cases ad
theorem agb (aY:gp U):∀(ts:List Nat) (x:ee U ts),cj (iM ts x)=true
 |[],_=>rfl
 |t::r,x=>by simp only[iM,cj,aY.bI,agb aY r,zK]
theorem avA (aY:gp U)(ts:List Nat)(x:ee U ts):bI (om ts x)=true:=by
 unfold om;have h:=agb aY ts x;generalize iM ts x=us at h
 match us with
 |[]=>rfl
 |[u]=>simpa[cj,one]using h
 | _::_::_=>exact h
theorem agc{f:List (Nat × ck U)->aO U.ax->Option (aO U.ax × List (Nat × ck U))}:∀{vs vs':List (aO U.ax)} {m m':List (Nat × ck U)},vy f m vs=some (vs',m')->vs'.length=vs.length
 |[],_,_,_,h=>by cases h;rfl
 |v::r,_,_,_,h=>by
  simp only[vy]at h;split at h
  ·cases h
  ·split at h
   ·cases h
   ·rename_i e;cases h;simp[agc e]
theorem agd (aY:gp U){T:List (aX U)}(hT:∀e∈T,nD aa e)(e:aX U){f:hY}(cH:aa e.id=some (.code f))(ty:List (Nat × Nat))(rG:List (Nat × Nat × Nat))(oO:∀q∈rG,sY U aa q.1 q.2)(an:kR U)
  (eQ:f.fresh=false) (hn:Nat.ble (e.args.length+e.caps.length) f.zR=true) (h:∀c a,e.fn c a=MP T ty rG f an e.caps e.args e.res c a):nD aa e:=by
 intro H F c a ay ws r hlen aw hA hr;rw[h]at hr;unfold MP at hr;have hl:=Tp hA;have rO:∀i w,ws[i]? =some w->xb 0 (ws++BL ay) (0+i)=w:=fun i w hi=>To _ 0 i w (by rw[e5 (fj.1 hi).1];exact hi)
 have nF:b7 U H.length F (EH e.args ws) vA (xb 0 (ws++BL ay)) H (fun _=>[]) []:=
  ⟨rfl,fun _ _ q=>(by cases q),aw.sub (Fj _ _),Fs,fun _ q=>(by cases q),fun _ _ q=>(by cases q),fun _ _ q=>(by cases q)⟩
 obtain⟨bP,f1,m1,-⟩:=Tq (pre:=[]) (l:=[]) aY hA rO rfl rfl (fun j f q=>by simp[nth]at q) nF;split at hr;rename_i s1 fv avB;rw[avB]at bP f1 m1;split at hr
 ·cases hr
 ·rename_i s2 avC
  obtain⟨bu,uA,eB⟩:=af8 aY (σ:=xb 0 (ws++BL ay)) avC hlen (fun i x hi=>by
   rw[<-hl];have:=To (ws++BL ay) 0 (ws.length+i) (.ptr x 0) (by rw[pX (On _ _)];simp[hi]);rwa [dA]at this) (by rw[m1];exact aw) bP
  refine aed (caps:=BL ay) cH ?_ eQ ?_ (avA aY _ _)
  ·simp only[eZ,eL,hl,hlen]
   exact mh hn
  ·refine vE aY (cx:=⟨T,fv,ty,rG⟩) ⟨hT,oO⟩ f1 (SH r) hr eB fun x ao aW H' G' cS al a2 a3 a4=> ?_
   have fin:(match It ao f.results with
     |some vs=>SD ao e.res vs
     |none=>none)=some r->LM f.results aW H' H.length (om e.res r):=fun h=>by
    split at h
    ·rename_i vs c2
     obtain⟨us,jV,oF⟩:=aga a2 c2;unfold SD at h;split at h
     ·rename_i v
      cases oF with
      |cons ad hr=>
       cases hr;split at h
       ·rename_i v' m' aR
        obtain⟨w',bu,la,z2,-⟩:=EB (F:=F) aY a2.BP aR ad;have:=MU aY h (.cons z2 .nil);have af:om e.res r=w':=by unfold om;rw[<-this];rfl
        rw[af];exact aec jV rfl a2.own la
       ·cases h
     ·rename_i bg
      split at h
      ·rename_i vs' m' aR
       obtain⟨eK,bu,la,z2,-⟩:=EA (F:=F) (EB aY) a2.BP aR oF;have:=MU aY h z2;have cb:=oF.length;have jk:=z2.length;have EI:=agc aR
       have iP:∀{l:List V},l.length=vs.length->one l=.aU l:=fun {l} hl=>by
        match l,hl with
        |[],_=>rfl
        |[w],hl=>
         match vs,hl,bg with
         |[v],_,bg=>exact absurd rfl (bg v)
        | _::_::_,_=>rfl
       have af:om e.res r=.aU eK:=by
        unfold om;rw[<-this];exact iP (by rw[<-jk,EI])
       rw[af];exact aec jV (iP cb.symm) a2.own (afq la)
      ·cases h
    ·cases h
   cases x with
   |exit i=>cases al
   |normal=>exact⟨.inl rfl,fin al⟩
   |ret=>exact⟨.inr rfl,fin al⟩
variable{B:List Bool}{v:aO U.ax}{w:V}
theorem b3.age{i:Nat}{c:Bool}(h:B[i]? =some c):b3 U B ρ fs (.bo i false) (.bool c):=by
 have:b3 U B ρ fs (.bo i false) (.bool (c != false)):=.bo h;simpa using this
theorem agf{l:List Bool}{c:Bool}{i:Nat}(h:l[i]? =some c):(B++l)[B.length+i]? =some c:=by
 rw[pX (On _ _),Nat.add_sub_cancel_left];exact h
theorem bD.inv{v:aO U.ax}{vs:List (aO U.ax)}{ws:List V}:bD U B ρ fs (v::vs) ws->∃w eK,ws=w::eK/\b3 U B ρ fs v w/\bD U B ρ fs vs eK
 | .cons h r=>⟨_,_,rfl,h,r⟩
theorem bD.qM{ws:List V}:bD U B ρ fs [] ws->ws=[]
 | .nil=>rfl
theorem o4{α:Type}(e:Nat)(f:α->V)(l:ae α):bL (aC (bn e f l))=true:=by simp[bL]
theorem o5{α:Type}(e:Nat)(f:α->V)(l:ae α):(aC (bn e f l)).length=1:=by simp
theorem jv{k:IntKind}{n:Int}(h:iR k v=some n)(ad:b3 U B ρ fs v w):w=.int k n:=by
 unfold iR at h;split at h
 ·split at h
  ·rename_i e
   cases h;cases ad;rw[of_decide_eq_true e]
  ·cases h
 ·cases h
theorem agh{c:Bool}(h:MQ B v=some c)(ad:b3 U B ρ fs v w):w=.bool c:=by
 unfold MQ at h;split at h
 ·cases h;cases ad;rfl
 ·split at h
  ·rename_i c' hc
   rw[xl]at hc;cases ad with
   |bo hb=>
    rw[hc]at hb;cases hb;split at h<;>cases h<;>simp
  ·cases h
 ·cases h
theorem Tr{s:dn}(h:Iu v=some s)(ad:b3 U B ρ fs v w):w=.str s:=by
 unfold Iu at h;split at h
 ·cases h;cases ad;rfl
 ·cases h
theorem fL{t:Nat}{l:ae (U.ax t)}(h:eD t v=some l)(ad:b3 U B ρ fs v w):w=bn (U.es t) (U.enc t) l:=EC h ad
theorem qN{R:Type}{f:List (aO U.ax)->Option R}{x:R}(h:o2 f v=some x)(ad:b3 U B ρ fs v w):∃vs ws,w=.agg ws/\bD U B ρ fs vs ws/\f vs=some x:=by
 unfold o2 at h;split at h
 ·cases ad with
  |agg ad=>exact⟨_,_,rfl,ad,h⟩
 ·cases h
end
end Go.Abs.gB
namespace Go.Abs.gB
open Go Go.Abs
section
variable{U:iQ}{aa:Nat->Option bU}{T:List (aX U)}
def y6 (aa:Nat->Option bU)(i:Nat):hY:=match aa i with
 |some (.code f)=>f
 | _=>default
def Nc (aa:Nat->Option bU)(e:aX U):Bool:=match aa e.id with
 |some (.code f)=>!f.fresh&&Nat.ble (e.args.length+e.caps.length) f.zR
 | _=>false
abbrev aZ (aa:Nat->Option bU)(T:List (aX U)):Prop:=∀e∈T,nD aa e
theorem y7{e:aX U}(h:Nc aa e=true):aa e.id=some (.code (y6 aa e.id))/\(y6 aa e.id).fresh=false/\Nat.ble (e.args.length+e.caps.length) (y6 aa e.id).zR=true:=by
 unfold Nc at h;unfold y6;split at h
 ·rename_i f ag
  rw[ag];simp only[b6,kB]at h;exact⟨rfl,h.1,h.2⟩
 ·cases h
theorem aZ.cons{e:aX U}(hT:aZ aa T)(h:nD aa e):aZ aa (e::T):=fun e' he=>by
 rcases dx.1 he with rfl|he
 ·exact h
 ·exact hT e' he
theorem bt (aY:gp U){e:aX U}(hT:aZ aa T)(ty:List (Nat × Nat))(an:kR U)(h1:Nc aa e=true)(h2:∀c a,e.fn c a=MP T ty [] (y6 aa e.id) an e.caps e.args e.res c a):aZ aa (e::T):=
 hT.cons (agd aY hT e (y7 h1).1 ty [] (fun _ q=>by cases q) an (y7 h1).2.1 (y7 h1).2.2 h2)
theorem y8 (aY:gp U){e:aX U}(hT:aZ aa T)(ty:List (Nat × Nat))(rG:List (Nat × Nat × Nat))(oO:∀q∈rG,sY U aa q.1 q.2)(an:kR U)(h1:Nc aa e=true)(h2:∀c a,e.fn c a=MP T ty rG (y6 aa e.id) an e.caps e.args e.res c a):aZ aa (e::T):=
 hT.cons (agd aY hT e (y7 h1).1 ty rG oO an (y7 h1).2.1 (y7 h1).2.2 h2)
def IV:(ay:List ma)->o0 U ay->List V
 | .v t::r,x=>U.enc t x.1::IV r x.2
 | _,_=>[]
theorem agi{F:cG}:∀{ay:List ma} {a:o0 U ay} {ws:List V},BA ay=true->uu aa F ay a ws->ws=IV ay a
 |[],_,_,_,h=>h
 | .v t::ay,x,_,hn,⟨eK,e,r⟩=>by rw[e,agi (ay:=ay) hn r];rfl
 | .f _ _::_,_,_,hn,_=>by cases hn
theorem uB{i:Nat}{args:List ma}{res:List Nat}{fn:o0 U args->Option (ee U res)}(hn:BA args=true)(h:∀H a r,fn a=some r->b0 aa (.fn i [] []) (IV args a) H=some (om res r,H,H.length)):nD aa ⟨i,[],args,res,fun _ a=>fn a⟩:=by
 intro H F c a ay ws r h1 h2 ar aS;cases ay with
 |nil=>rw[agi hn ar];exact h H a r aS
 |cons x xs=>cases h1
theorem aZ.hd{e:aX U}(h:aZ aa (e::T)):nD aa e:=h e (p5 ..)
end
end Go.Abs.gB
namespace Go.Abs.bz
open Go Go.Abs Go.Abs.gB
noncomputable section
def agj (aa:Nat->Option bU):Prop:=∀(H0:Heap) (ai:Int) (r:Bool),yK ai=some r->b0 aa (.fn 379 [] []) [.int .u8 ai] H0=some (.bool r,H0,H0.length)
def agk (aa:Nat->Option bU):Prop:=∀(H0:Heap) (ai:Int) (r:Bool),yL ai=some r->b0 aa (.fn 382 [] []) [.int .u8 ai] H0=some (.bool r,H0,H0.length)
def agl (aa:Nat->Option bU):Prop:=∀(H0:Heap) (ai:Int) (r:Bool),D4 ai=some r->b0 aa (.fn 381 [] []) [.int .u8 ai] H0=some (.bool r,H0,H0.length)
def agm (aa:Nat->Option bU):Prop:=∀(H0:Heap) (ai:Int) (r:Bool),Bf ai=some r->b0 aa (.fn 384 [] []) [.int .u8 ai] H0=some (.bool r,H0,H0.length)
def agn (aa:Nat->Option bU):Prop:=∀(H0:Heap) (ai:dn) (r:Bool),D1 ai=some r->b0 aa (.fn 385 [] []) [.str ai] H0=some (.bool r,H0,H0.length)
def ago (aa:Nat->Option bU):Prop:=∀(H0:Heap) (ai:dn) (r:Int),Bd ai=some r->b0 aa (.fn 383 [] []) [.str ai] H0=some (aI r,H0,H0.length)
def agp (aa:Nat->Option bU):Prop:=∀(H0:Heap) (IW:cG) (avD:Own H0 IW) (ai:dn) (aL:(Int->Option Bool)) (xz:V) (avE:∀H low,fF H low xz=some (xz,H,low)) (avF:∀H (z0:Int) (q:Bool),Own H IW->aL z0=some q->b0 aa xz [.int .u8 z0] H=some (.bool q,H,H.length)) (r:Int),Be ai aL=some r->b0 aa (.fn 380 [] []) [.str ai,xz] H0=some (aI r,H0,H0.length)
def agq (aa:Nat->Option bU):Prop:=∀(H0:Heap) (ai:dn) (r:Int),D3 ai=some r->b0 aa (.fn 378 [] []) [.str ai] H0=some (aI r,H0,H0.length)
def agr (aa:Nat->Option bU):Prop:=∀(H0:Heap) (ai:Int) (r:Bool),Bg ai=some r->b0 aa (.fn 450 [] []) [.int .u8 ai] H0=some (.bool r,H0,H0.length)
def Nd (aa:Nat->Option bU):Prop:=∀(H0:Heap) (ai:Int) (aL:Int) (r:Bool),mS ai aL=some r->b0 aa (.fn 224 [] []) [aI ai,aI aL] H0=some (.bool r,H0,H0.length)
def B2 (aa:Nat->Option bU):Prop:=∀(H0:Heap) (IW:cG) (avD:Own H0 IW) (ai:(ae gM)) (aL:(gM->Option Bool)) (xz:V) (avE:∀H low,fF H low xz=some (xz,H,low)) (avF:∀H (z0:gM) (q:Bool),Own H IW->aL z0=some q->b0 aa xz [.agg [aI z0.Table,aI z0.j6,aI z0.dp]] H=some (.bool q,H,H.length)) (r:Bool),Hf ai aL=some r->b0 aa (.fn 232 [] []) [bn 3 jH ai,xz] H0=some (.bool r,H0,H0.length)
def avG (aa:Nat->Option bU):Prop:=∀(H0:Heap) (ai:(ae Range)) (aL:Int) (r:(ae Range)),DY ai aL=some r->b0 aa (.fn 223 [] []) [bn 2 rz ai,aI aL] H0=some (bn 2 rz r,H0,H0.length)
variable{aa:Nat->Option bU}
theorem ags (h:nD (U:=aE) aa ⟨379,[],[.v 3],[1],fun c a=>yK a.1⟩):agj aa:=fun H0 a0 r q=>h H0 [] () (a0,()) [] _ r rfl (.nil H0) ⟨_,rfl,rfl⟩ q
theorem agt (h:nD (U:=aE) aa ⟨382,[],[.v 3],[1],fun c a=>yL a.1⟩):agk aa:=fun H0 a0 r q=>h H0 [] () (a0,()) [] _ r rfl (.nil H0) ⟨_,rfl,rfl⟩ q
theorem agu (h:nD (U:=aE) aa ⟨381,[],[.v 3],[1],fun c a=>D4 a.1⟩):agl aa:=fun H0 a0 r q=>h H0 [] () (a0,()) [] _ r rfl (.nil H0) ⟨_,rfl,rfl⟩ q
theorem agv (h:nD (U:=aE) aa ⟨384,[],[.v 3],[1],fun c a=>Bf a.1⟩):agm aa:=fun H0 a0 r q=>h H0 [] () (a0,()) [] _ r rfl (.nil H0) ⟨_,rfl,rfl⟩ q
theorem agw (h:nD (U:=aE) aa ⟨385,[],[.v 2],[1],fun c a=>D1 a.1⟩):agn aa:=fun H0 a0 r q=>h H0 [] () (a0,()) [] _ r rfl (.nil H0) ⟨_,rfl,rfl⟩ q
theorem agx (h:nD (U:=aE) aa ⟨383,[],[.v 2],[0],fun c a=>Bd a.1⟩):ago aa:=fun H0 a0 r q=>h H0 [] () (a0,()) [] _ r rfl (.nil H0) ⟨_,rfl,rfl⟩ q
theorem agy (h:nD (U:=aE) aa ⟨380,[],[.v 2,.f [3] 1],[0],fun c a=>Be a.1 a.2.1⟩):agp aa:=fun H0 F aw a0 al bQ sC gG r q=>h H0 F () (a0,al,()) [] _ r rfl aw ⟨_,rfl,⟨bQ,_,rfl,⟨sC,gG⟩,rfl⟩⟩ q
theorem agz (h:nD (U:=aE) aa ⟨378,[],[.v 2],[0],fun c a=>D3 a.1⟩):agq aa:=fun H0 a0 r q=>h H0 [] () (a0,()) [] _ r rfl (.nil H0) ⟨_,rfl,rfl⟩ q
theorem agA (h:nD (U:=aE) aa ⟨450,[],[.v 3],[1],fun c a=>Bg a.1⟩):agr aa:=fun H0 a0 r q=>h H0 [] () (a0,()) [] _ r rfl (.nil H0) ⟨_,rfl,rfl⟩ q
theorem avH (h:nD (U:=aE) aa ⟨224,[],[.v 0,.v 0],[1],fun c a=>mS a.1 a.2.1⟩):Nd aa:=fun H0 a0 al r q=>h H0 [] () (a0,al,()) [] _ r rfl (.nil H0) ⟨_,rfl,⟨_,rfl,rfl⟩⟩ q
theorem avI (h:nD (U:=aE) aa ⟨232,[],[.v 5,.f [4] 1],[1],fun c a=>Hf a.1 a.2.1⟩):B2 aa:=fun H0 F aw a0 al bQ sC gG r q=>h H0 F () (a0,al,()) [] _ r rfl aw ⟨_,rfl,⟨bQ,_,rfl,⟨sC,gG⟩,rfl⟩⟩ q
end
end Go.Abs.bz
