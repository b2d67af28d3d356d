/- Texts of this claim, joined and written short by a program. -/
import Derived.Test.YtgkcikhegodchaaGreatDoorP27
import Derived.Test.YtgkcikhegodchaaGreatDoorP22
import Derived.Test.YtgkcikhegodchaaGreatDoorP24
import Derived.Test.YtgkcikhegodchaaGreatDoorP00
set_option linter.unusedVariables false
set_option linter.unusedSimpArgs false
set_option linter.unusedSectionVars false
namespace Go.Abs.hv
open Go Go.Abs
section
variable{J:iT}{b:Nat}{F:cG}{fs:List V}{s s1 s2 cV:bE J}{σ cM:bY}{H H1:Heap}{G aB:Nat->List (Nat × cf)}{ρ gw:List V}{aa:Nat->Option cc}{cx:oj J}{W:List Nat}
theorem ad5 (c:Bool)(x y:xh):(Hy c x y).val=bif c then x.val else y.val:=by
 unfold Hy;split
 ·split<;>rfl
 all_goals first|rfl|(cases c<;>simp[xh.val])
theorem ad6{c:Bool}{x y:xh}{i:Nat}{n:Bool}{d:Bool}(h:Hy c x y=.nm i n d):∃a e,x=.nm i n a/\y=.nm i n e:=by
 unfold Hy at h;split at h
 ·split at h
  ·rename_i e;cases h;exact⟨_,_,rfl,by rw[eU e]⟩
  ·rename_i e;cases h;exact⟨_,_,rfl,by rw[eU e]⟩
  ·cases h
 all_goals cases h
def Mu (fs:List V)(l:Loc)(s1:bE J):adh J->Prop
 | .bad=>True
 | .v v=>∃v1,at_ s1 l=some v1/\∀(B:List Bool) (ρ:List V) (w:V),b8 J B ρ fs v1 w->b8 J B ρ fs v w
 | .b x=>∃v1,at_ s1 l=some v1/\yN s1 v1=some x.val/\∀i n d,x=.nm i n d->v1=.bo i n
theorem SA{l:Loc}:∀{p:qg (bE J)},p.val=some s1->Mu fs l s1 (mx l p)
 | .bad,h=>by cases h
 | .leaf s,h=>by
   cases h;unfold mx;split
   ·trivial
   ·rename_i v af
    split
    ·exact⟨_,af,rfl,fun _ _ _ e=>by cases e⟩
    ·split
     ·rename_i hb;exact⟨_,af,hb,fun _ _ _ e=>by cases e;rfl⟩
     ·trivial
    ·exact⟨_,af,fun _ _ _ q=>q⟩
 | .br i c t e,h=>by
   have ht:c=true->Mu fs l s1 (mx l t):=fun hc=>SA (by subst hc;exact h);have he:c=false->Mu fs l s1 (mx l e):=fun hc=>SA (by subst hc;exact h);unfold mx;split
   ·rename_i x y h1 h2
    rw[h1]at ht;rw[h2]at he;cases c with
    |true=>
     obtain⟨v1,ak,a2,a3⟩:=ht rfl;refine⟨v1,ak,by rw[a2,ad5];rfl,fun j n d q=> ?_⟩;obtain⟨_,_,q1,q2⟩:=ad6 q;exact a3 _ _ _ q1
    |false=>
     obtain⟨v1,ak,a2,a3⟩:=he rfl;refine⟨v1,ak,by rw[a2,ad5];rfl,fun j n d q=> ?_⟩;obtain⟨_,_,q1,q2⟩:=ad6 q;exact a3 _ _ _ q2
   ·rename_i k a bJ bn h1 h2
    rw[h1]at ht;rw[h2]at he;split
    ·rename_i hk
     have hk:=of_decide_eq_true hk;subst hk;cases c
     ·exact he rfl
     ·exact ht rfl
    ·trivial
   ·rename_i a bn h1 h2
    rw[h1]at ht;rw[h2]at he;cases c
    ·exact he rfl
    ·exact ht rfl
   ·rename_i v w _ _ h1 h2
    rw[h1]at ht;rw[h2]at he;split
    ·rename_i hs
     cases c with
     |false=>exact he rfl
     |true=>
      obtain⟨v1,ak,a2⟩:=ht rfl;exact⟨v1,ak,fun B ρ u q=>Sn hs (a2 B ρ u q)⟩
    ·trivial
   ·trivial
theorem SB:∀{p:qg (bE J)},DV W p=true->∃s1,p.val=some s1/\(∀t∈s1.dR,t∈W)/\s1.cL=[]
 | .bad,h=>by cases h
 | .leaf s,h=>by
   simp only[DV]at h;split at h
   ·rename_i ad e2;exact⟨s,rfl,Sq ad,e2⟩
   ·cases h
 | .br i c t e,h=>by
   simp only[DV]at h;split at h
   ·rename_i h1
    cases c with
    |true=>obtain⟨s1,ak,a2⟩:=SB h1;exact⟨s1,ak,a2⟩
    |false=>obtain⟨s1,ak,a2⟩:=SB h;exact⟨s1,ak,a2⟩
   ·cases h
theorem ad7{A:Type}[aP A]{S:A->Prop}(aC:mr S)(bT:cd J b F fs s1 cM H1 aB gw)(aU:ρ <+: gw){B:List Bool}(pk:B <+: s1.aQ){p:qg (bE J)}(hp:p.val=some s1){k:bE J->A}:
  ∀{sl:List Nat} {cV:bE J},cd J b F fs cV cM H1 aB ρ->B <+: cV.aQ->S (vk B.length ρ.length p sl cV k)->∃kK,S (k kK)/\cd J b F fs kK cM H1 aB ρ/\iE sl [] cV kK/\kK.dR=cV.dR/\kK.cL=cV.cL
 |[],cV,R,_,h=>⟨cV,h,R,.rfl,rfl,rfl⟩
 |t::r,cV,R,dM,h=>by
  have hm:=SA (fs:=fs) (l:=.s t) hp;simp only[vk]at h
  have go:∀{v:aR J.az} {l:List Bool},b8 J (cV.aQ++l) ρ fs v (cM t)->S (vk B.length ρ.length p r {cV with vs:=(t,v)::cV.vs,aQ:=cV.aQ++l} k)->
    ∃kK,S (k kK)/\cd J b F fs kK cM H1 aB ρ/\iE (t::r) [] cV kK/\kK.dR=cV.dR/\kK.cL=cV.cL:=fun {v l} af h=>by
   have oT:=D5 (R.eH (Mf l)) (l:=.s t) (w:=cM t) rfl af;obtain⟨kK,ak,a2,a3,a4,a5⟩:=ad7 aC bT aU pk hp oT (dM.trans (hP _ _)) h;exact⟨kK,ak,a2,(Mt (s:=cV) (l:=.s t) (v:=v) (hP cV.aQ l) (fun q e=>by cases e;exact qq ..) (fun _ _ e=>by cases e)).trans (a3.wide (fun q bu=>lf _ bu) fun _ q=>q),a4,a5⟩
  have SC:∀{v:aR J.az},b8 J cV.aQ ρ fs v (cM t)->S (vk B.length ρ.length p r {cV with vs:=(t,v)::cV.vs} k)->∃kK,S (k kK)/\cd J b F fs kK cM H1 aB ρ/\iE (t::r) [] cV kK/\kK.dR=cV.dR/\kK.cL=cV.cL:=fun {v} af h=>
   go (v:=v) (l:=[]) (by rw[qt];exact af) (by rw[qt];exact h)
  have nm:∀{x:xh},Mu fs (.s t) s1 (.b x)->b8 J (cV.aQ++[x.val]) ρ fs (.bo cV.aQ.length false) (cM t):=fun {x} ⟨v1,ak,a2,a3⟩=>by
   obtain⟨w,aH,bQ⟩:=BI bT ak;cases aH;rw[DX a2 bQ];have:b8 J (cV.aQ++[x.val]) ρ fs (.bo cV.aQ.length false) (.bool (x.val != false)):=.bo (by simp);simpa using this
  split at h
  ·rename_i v af
   rw[af]at hm;split at h
   ·rename_i hw
    obtain⟨v1,ak,a2⟩:=hm;obtain⟨w,aH,bQ⟩:=BI bT ak;cases aH;exact SC ((Mm pk aU hw (a2 _ _ _ bQ)).mono dM ei) h
   ·exact absurd h aC.bad
  ·rename_i x hx
   rw[hx]at hm;split at h
   ·rename_i d
    obtain⟨v1,ak,a2,a3⟩:=hm;obtain⟨w,aH,bQ⟩:=BI bT ak;cases aH;exact SC (by rw[DX a2 bQ];exact .b2) h
   ·rename_i i neg d
    split at h
    ·rename_i hi
     obtain⟨v1,ak,a2,a3⟩:=hm;obtain⟨w,aH,bQ⟩:=BI bT ak;cases aH;have:=a3 _ _ _ rfl;subst this;exact SC ((Mm pk aU (by simpa only[wf]using hi) bQ).mono dM ei) h
    ·exact go (nm hm) h
   ·exact go (nm hm) h
  ·exact absurd h aC.bad
theorem ad8{A:Type}[aP A]{S:A->Prop}(a6:gv J)(aC:mr S)(hT:rX aa cx)(ag:∀j f,nth cx.fv j=some f->∃w,fs[j]? =some w/\oo aa F f.ea f.rt f.f w){ops:List bU}{eK:Option (List Nat)}{k:bE J->A}{Q:X->bY->Heap->Prop}
  (h:S (so cx ops [] s [] fun s wr=>L7 eK ops wr (k s))) (R:cd J b F fs s σ H G ρ)
  (cA:∀ar aT H' G' cR,S (k ar)->cd J b F fs ar aT H' G' cR->ρ <+: cR->Fr s ar->Q .normal aT H'):fj aa b (.region ops eK) σ H Q:=by
 cases eK with
 |none=>exact lR (BC a6 aC hT ag h .nil R (fun t v q=>by cases q) fun ar aT H' G' cR fD BD ak a0 a2 a3 a4=>cA _ _ _ _ _ ak a2 a3 a4)
 |some eK=>
  refine Qn (BC a6 aC hT ag h .nil R (fun t v q=>by cases q) fun ar aT H' G' cR fD BD ak a0 a2 a3 a4=> ?_);simp only[L7]at ak;split at ak
  ·rename_i e;exact⟨ar2 a0 e,cA _ _ _ _ _ ak a2 a3 a4⟩
  ·exact absurd ak aC.bad
theorem iE.h8{ad9 SD:List Nat}{aea SE:List (Nat × Nat)}{vl kK s2:bE J}(h:iE ad9 aea vl kK)(_:True)(b7:Fr kK s2)(lt:∀e∈vl.mem,e.1<vl.aE)(hW:∀t∈ad9,t∈SD)(jf:∀p∈aea,p∈SE)(hd:∀t∈s2.dR,t∈SD)(hm:∀o j,(o,j)∈s2.cL->o<vl.aE->(o,j)∈SE):iE SD SE vl s2 where
 vs:=fun t ht=>(b7.vs t fun q=>ht (hd t q)).trans (h.vs t fun q=>ht (hW t q))
 aQ:=h.aQ.trans b7.aQ
 aE:=c4 h.aE b7.aE
 mem:=fun o w cs hc=>by
  obtain⟨ql,h1,h2,au⟩:=h.mem o w cs hc;obtain⟨HK,b4,dq,jK⟩:=b7.mem o w ql h1;exact⟨HK,b4,dq.trans h2,fun j hj=>(jK j fun q=>hj (hm o j q (lt _ (jA hc)))).trans (au j fun q=>hj (jf _ q))⟩
 row:=fun o aY h0 hc=>(h.row o aY h0 hc).elim (fun h1=>(b7.row o aY h0 h1).imp id fun q=>hm o 0 q (lt _ (jA hc))) fun q=>.inr (jf _ q)
theorem cd.aeb (R:cd J b F fs s σ H G ρ){dR:List Nat}{cL:List (Nat × Nat)}:cd J b F fs {s with dR:=dR,cL:=cL} σ H G ρ:=
 ⟨R.aE,R.vs,R.own,R.dt,R.lt,R.mem,R.du⟩
theorem HT{A:Type}[aP A]{S:A->Prop}(a6:gv J)(aC:mr S)(hT:rX aa cx)(ag:∀j f,nth cx.fv j=some f->∃w,fs[j]? =some w/\oo aa F f.ea f.rt f.f w){k:k7 J->bE J->A}:
  ∀{ops:List bU} {aq:k7 J} {a8:bY} {s:bE J} {σ:bY},S (xg cx ops aq s k)->cd J b F fs s σ H G ρ->(∀t v,bt aq t=some v->b8 J s.aQ ρ fs v (a8 t))->
  ∃eT s1 iF cM,iB (b9 aa) (dB s G F) ops a8 σ iF cM/\S (k eT s1)/\cd J b F fs s1 cM H G ρ/\(∀t v,bt eT t=some v->b8 J s1.aQ ρ fs v (iF t))/\Fr s s1/\s1.mem=s.mem/\s1.aE=s.aE
 |[],aq,a8,s,σ,h,R,b0=>⟨aq,s,a8,σ,.nil,h,R,b0,.rfl,rfl,rfl⟩
 |⟨d,op,g⟩::r,aq,a8,s,σ,h,R,b0=>by
  have fin:∀{s1:bE J} {v:aR J.az} {w:V},jY s s1->b8 J s1.aQ ρ fs v w->S (match put aq s1 v d with|(aq,s)=>xg cx r aq s k)->
    ∃eT s2 iF cM,iB (b9 aa) (dB s G F) r (fN a8 d w) (fO σ d w) iF cM/\S (k eT s2)/\cd J b F fs s2 cM H G ρ/\(∀t v,bt eT t=some v->b8 J s2.aQ ρ fs v (iF t))/\Fr s s2/\s2.mem=s.mem/\s2.aE=s.aE:=by
   intro s1 v w hk af h1;have qm:∀t v,bt aq t=some v->b8 J s1.aQ ρ fs v (a8 t):=fun t v q=>(b0 t v q).mono hk.aQ ei;have bb:dB s G F=dB s1 G F:=by unfold dB;rw[hk.mem]
   rw[bb,<-hk.mem,<-hk.aE]
   match d with
   |none=>
    obtain⟨eT,s2,a,c,ad,e2,bK,cw,dC,gp⟩:=HT a6 aC hT ag h1 (R.eH hk) qm;exact⟨eT,s2,a,c,ad,e2,bK,cw,hk.b7.trans dC,gp⟩
   |some (t,false)=>
    obtain⟨eT,s2,a,c,ad,e2,bK,cw,dC,gp⟩:=HT a6 aC hT ag h1 (R.eH hk) (Sl qm af);exact⟨eT,s2,a,c,ad,e2,bK,cw,hk.b7.trans dC,gp⟩
   |some (t,true)=>
    obtain⟨eT,s2,a,c,ad,e2,bK,cw,dC,gp⟩:=HT a6 aC hT ag h1 ((R.eH hk).put af) qm;exact⟨eT,s2,a,c,ad,e2,bK,cw,hk.b7.trans (Sf.trans dC),gp⟩
  have go:∀{s1:bE J},jY s s1->gi a8 σ g=some true->S (RU cx aq s1 d (fun v s=>match put aq s v d with|(aq,s)=>xg cx r aq s k) op)->
    ∃eT s2 iF cM,iB (b9 aa) (dB s G F) (⟨d,op,g⟩::r) a8 σ iF cM/\S (k eT s2)/\cd J b F fs s2 cM H G ρ/\(∀t v,bt eT t=some v->b8 J s2.aQ ρ fs v (iF t))/\Fr s s2/\s2.mem=s.mem/\s2.aE=s.aE:=by
   intro s1 hk hw h1;have bT:=R.eH hk;have qm:∀t v,bt aq t=some v->b8 J s1.aQ ρ fs v (a8 t):=fun t v q=>(b0 t v q).mono hk.aQ ei;have bb:dB s G F=dB s1 G F:=by unfold dB;rw[hk.mem]
   unfold RU at h1;split at h1
   ·split at h1
    ·rename_i fv adO BB xo
     obtain⟨v,ar,w,h1,h2,au,a7⟩:=ady a6 aC bT hT ag h1 (c3 bT qm BB) (xj bT qm xo);obtain⟨eT,s2,a,c,ad,e2⟩:=fin (hk.trans h2) au h1;exact⟨eT,s2,a,c,.step hw (fun H' av=>by rw[bb]at av;exact va (a7 H' av).1 (a7 H' av).2 rfl rfl) ad,e2⟩
    ·exact absurd h1 aC.bad
   ·obtain⟨v,ar,w,h1,h2,au,a7⟩:=R7 (call:=b9 aa) a6 aC bT qm h1
    obtain⟨eT,s2,a,c,ad,e2⟩:=fin (hk.trans h2) au h1;exact⟨eT,s2,a,c,.step hw (fun H' av=>by rw[bb]at av;exact a7 H' av) ad,e2⟩
  have skip:∀{s1:bE J},jY s s1->gi a8 σ g=some false->S (match put aq s1 (.aF []) d with|(aq,s)=>xg cx r aq s k)->
    ∃eT s2 iF cM,iB (b9 aa) (dB s G F) (⟨d,op,g⟩::r) a8 σ iF cM/\S (k eT s2)/\cd J b F fs s2 cM H G ρ/\(∀t v,bt eT t=some v->b8 J s2.aQ ρ fs v (iF t))/\Fr s s2/\s2.mem=s.mem/\s2.aE=s.aE:=by
   intro s1 hk hw h1;obtain⟨eT,s2,a,c,ad,e2⟩:=fin hk (.aF .nil) h1;exact⟨eT,s2,a,c,.skip hw ad,e2⟩
  simp only[xg]at h
  match g with
  |none=>exact go .rfl rfl h
  |some (x,w)=>
   simp only at h;split at h
   ·exact absurd h aC.bad
   ·rename_i v af
    have mW:=c3 R b0 af;split at h
    ·generalize BA:bB a8 σ x=xk at mW
     cases mW with
     |aF c7=>cases c7;exact skip .rfl (acn BA) h
    ·cases w with
     |true=>
      obtain⟨β,s1,ad,e2,bK,cw⟩:=DW aC h R.du mW;rcases cw with⟨rfl,h⟩|⟨rfl,h⟩
      ·exact go e2 (h3 ad rfl) h
      ·exact skip e2 (KK ad rfl) h
     |false=>
      obtain⟨β,s1,ad,e2,bK,cw⟩:=DW aC h R.du mW;rcases cw with⟨rfl,h⟩|⟨rfl,h⟩
      ·exact skip e2 (KL ad rfl) h
      ·exact go e2 (h3 ad rfl) h
theorem asp{eK:List Nat}{ops:List bU}{wr nh:List Bool}(h:hq wr nh)(ho:xX eK ops nh=true):xX eK ops wr=true:=by
 unfold xX at ho⊢;simp only[cm]at ho⊢;obtain⟨⟨h1,h2⟩,au⟩:=ho;refine⟨⟨(h.take _).no h1,?_⟩,au⟩;rw[eE]at h2⊢;rintro⟨w,i⟩ hw;cases w with
 |false=>rfl
 |true=>
  have hi:=h.get (jC.1 hw);exact h2 (true,i) (jC.2 hi)
theorem aec{n:Nat}:∀{m:List (Nat × cp J)},L8 n m=true->∀e∈m,n<=e.1
 |[],_,_,h=>by cases h
 |a::r,h,e,he=>by
  simp only[L8]at h;split at h
  ·rename_i q
   rcases dG.1 he with rfl|he
   ·exact j1 q
   ·exact aec h e he
  ·cases h
theorem qk.low{b eN:Nat}(hb:b<=eN){B:List Bool}{o:Nat}{m:List (Nat × cf)}:∀{aY:cp J},qk J eN B ρ fs o m aY->qk J b B ρ fs o m aY
 | .cells w cs,⟨a,ws,h1,h2,au,a7⟩=>⟨a,ws,h1,h2,au,fun q=>c4 hb (a7 q)⟩
 | .row t s,⟨v,h1,h2⟩=>⟨v,h1,by
   unfold e3 at h2⊢;generalize s.map (J.enc t)=x at h2;cases h2 with
   |nil=>exact .nil
   |emp=>exact .emp
   |row l ds h q=>exact .row l ds h (c4 hb q)⟩
 | .fz t s,⟨v,m0,h1,h2,au⟩=>⟨v,m0,h1,by
   unfold e3 at h2⊢;generalize s.map (J.enc t)=x at h2;cases h2 with
   |nil=>exact .nil
   |emp=>exact .emp
   |row l ds h q=>exact .row l ds h (c4 hb q),au⟩
 | .mp k w x,⟨a,h1,h2,au⟩=>⟨a,h1,h2,c4 hb au⟩
theorem asq{A:Type}[aP A]{S:A->Prop}(a6:gv J)(aC:mr S)(hT:rX aa cx)(ag:∀j f,nth cx.fv j=some f->∃w,fs[j]? =some w/\oo aa F f.ea f.rt f.f w){ops:List bU}{eK:List Nat}{k:bE J->A}{Q:X->bY->Heap->Prop}
  (h:S (xg cx (ops.take (lk ops)) [] s fun aq s=>so cx (ops.drop (lk ops)) aq {s with mem:=[]} (List.replicate (lk ops) false) fun ar wr=>RW eK ops wr s.aE ar.mem (k {ar with mem:=ar.mem++s.mem}))) (R:cd J b F fs s σ H G ρ)
  (cA:∀ar aT H' G' cR,S (k ar)->cd J b F fs ar aT H' G' cR->ρ <+: cR->Fr s ar->Q .normal aT H'):fj aa b (.region ops (some eK)) σ H Q:=by
 obtain⟨eT,s1,iF,cM,p1,p2,bT,mR,uo,HU,Mv⟩:=HT a6 aC hT ag h R (fun t v q=>by cases q);refine acC (lk ops) R.own rfl p1 fun hb=> ?_
 have Ol:∀j f,nth cx.fv j=some f->∃w,fs[j]? =some w/\oo aa (dB s1 G F) f.ea f.rt f.f w:=fun j f q=>by
  obtain⟨w,ad,e2,bK⟩:=ag j f q;exact⟨w,ad,e2,fun H z q av aJ=>bK H z q (av.sub (Et _ _)) aJ⟩
 have nL:cd J H.length (dB s1 G F) fs {s1 with mem:=[]} cM H (fun _=>[]) ρ:=⟨bT.aE,bT.vs,bT.own,Ji,fun _ q=>(by cases q),fun _ _ q=>(by cases q),bT.du⟩;refine BC a6 aC hT Ol p2 (hq.refl _) nL mR fun s2 iZ H2 bC uw wr nh ak a2 eJ a4 a5=> ?_;unfold RW at ak;split at ak
 ·rename_i ad e2
  have hge:=aec e2
  have no:∀{q},q<s1.aE->bt s2.mem q=none:=fun {q} bu=>Se fun hm=>by
   obtain⟨e,he,rfl⟩:=eA.1 hm;exact absurd (hge e he) (Nat.not_le.2 bu)
  refine⟨asp a2 ad,cA _ iZ H2 (fun q=>if q<s1.aE then G q else bC q) uw ak ⟨eJ.aE,eJ.vs,?_,?_,fun e he=> ?_,fun o aY ho=> ?_,eJ.du⟩ a4 (uo.trans ?_)⟩
  ·have:=eJ.own
   unfold dB at this⊢;simp only at this⊢;rw[kS,kR];have bK:s2.mem.map (fun e=>if e.1<s1.aE then G e.1 else bC e.1)=s2.mem.map fun e=>bC e.1:=q6 fun e he=>if_neg (Nat.not_lt.2 (hge e he));have cw:s1.mem.map (fun e=>if e.1<s1.aE then G e.1 else bC e.1)=s1.mem.map fun e=>G e.1:=q6 fun e he=>if_pos (bT.lt e he);rw[bK,cw];exact this
  ·simp only[kS]
   refine zs.2 ⟨eJ.dt,bT.dt,fun x hx y hy e=> ?_⟩;obtain⟨p,hp,rfl⟩:=eA.1 hx;obtain⟨q,bu,rfl⟩:=eA.1 hy;have:=hge p hp;have:=bT.lt q bu;omega
  ·rcases kq.1 he with he|he
   ·exact eJ.lt e he
   ·exact se (bT.lt e he) a5.aE
  ·have ho:bt (s2.mem++s1.mem) o=some aY:=ho
   rw[DS]at ho;cases hm:bt s2.mem o with
   |some c=>
    rw[hm]at ho;cases ho;simp only[if_neg (Nat.not_lt.2 (hge _ (jA hm)))];exact(eJ.mem o aY hm).low hb
   |none=>
    rw[hm]at ho;simp only[if_pos (bT.lt _ (jA ho))];exact(bT.mem o aY ho).mono a5.aQ a4
  ·exact⟨a5.vs,a5.dR,a5.cL,a5.aQ,a5.aE,fun o w cs hm=>⟨cs,by
    show bt (s2.mem++s1.mem) o=_;rw[DS,no (bT.lt _ (jA hm))];exact hm,rfl,fun _ _=>rfl⟩,fun o aY hc hm=>.inl (by
    show bt (s2.mem++s1.mem) o=_;rw[DS,no (bT.lt _ (jA hm))];exact hm)⟩
 ·exact absurd ak aC.bad
theorem hq.pre:∀(l:List Bool) {r lh:List Bool},hq r lh->hq (l++r) (l++lh)
 |[],_,_,h=>h
 | _::l,_,_,h=>.cons id (hq.pre l h)
theorem aed{o n:Nat}{c d:cp J}:∀{p q:List (Nat × cp J)},bt p o=some d->kl o n c (p++q)=kl o n c p++q
 |[],_,h=>by cases h
 |(a,e)::r,q,h=>by
  simp only[bt]at h;simp only[l4,kl];split at h
  ·rename_i ad
   rw[ad];rfl
  ·rename_i ad
   rw[ad];simp only[aed h];rfl
section
variable{p:List (Nat × cp J)}
theorem cd.SF (R:cd J b F fs {s with mem:=p++s.mem} σ H G ρ){o:Nat}{c:cp J}(h:bt s.mem o=some c):bt (p++s.mem) o=some c:=by
 have hn:((p++s.mem).map Prod.fst).Nodup:=R.dt;rw[kS,zs]at hn;rw[DS,Se fun q=>hn.2.2 _ q _ (sd (f:=Prod.fst) (jA h)) rfl];exact h
theorem cd.asr (R:cd J b F fs {s with mem:=p++s.mem} σ H G ρ):cd J b F fs s σ H G ρ where
 aE:=R.aE
 vs:=R.vs
 own:=R.own.sub (by unfold dB;simp only[kS,kR];exact Et _ _)
 dt:=by
  have hn:((p++s.mem).map Prod.fst).Nodup:=R.dt;rw[kS,zs]at hn;exact hn.2.1
 lt:=fun e he=>R.lt e (qp _ he)
 mem:=fun o c h=>R.mem o c (R.SF h)
 du:=R.du
theorem cd.ass (R:cd J b F fs {s with mem:=p++s.mem} σ H G ρ)(bT:cd J b F fs s1 cM H G ρ)(hm:s1.mem=s.mem)(hn:s1.aE=s.aE)(hb:s.aQ <+: s1.aQ):cd J b F fs {s1 with mem:=p++s1.mem} cM H G ρ where
 aE:=bT.aE
 vs:=bT.vs
 own:=by have:=R.own;unfold dB at this⊢; simp only at this⊢; rw[hm];exact this
 dt:=by have:=R.dt;simp only at this⊢; rw[hm];exact this
 lt:=fun e he=>by
  have he:e∈p++s1.mem:=he;rw[hm]at he;show e.1<s1.aE;rw[hn];exact R.lt e he
 mem:=fun o c h=>by
  have h:bt (p++s1.mem) o=some c:=h;rw[hm]at h;exact(R.mem o c h).mono hb ei
 du:=bT.du
end
theorem HV{A:Type}[aP A]{S:A->Prop}(a6:gv J)(aC:mr S)(hT:rX aa cx)(ag:∀j f,nth cx.fv j=some f->∃w,fs[j]? =some w/\oo aa F f.ea f.rt f.f w){k:k7 J->bE J->List (Nat × cp J)->List Bool->A}:
  ∀{ops:List bU} {aq:k7 J} {a8:bY} {s:bE J} {σ:bY} {H:Heap} {G:Nat->List (Nat × cf)} {ρ:List V} {p:List (Nat × cp J)} {w:List Bool},S (xi cx ops aq s p w k)->cd J b F fs {s with mem:=p++s.mem} σ H G ρ->(∀t v,bt aq t=some v->b8 J s.aQ ρ fs v (a8 t))->b<=H.length->
  ∃eT s1 p1 iF cM H1 aB gw aH,kj aa b (dB s G F) ops a8 σ H iF cM H1 aH/\S (k eT s1 p1 (w++aH))/\cd J b F fs {s1 with mem:=p1++s1.mem} cM H1 aB gw/\(∀t v,bt eT t=some v->b8 J s1.aQ gw fs v (iF t))/\ρ <+: gw/\Fr s s1/\s1.mem=s.mem
 |[],aq,a8,s,σ,H,G,ρ,p,w,h,R,b0,hb=>⟨aq,s,p,a8,σ,H,G,ρ,[],.nil,by rw[qt];exact h,R,b0,ei,.rfl,rfl⟩
 |o::r,aq,a8,s,σ,H,G,ρ,p,w,h,R,b0,hb=>by
  have nL:=R.asr
  have fin:∀{d:Option (Nat × Bool)} {op:cX} {p1:List (Nat × cp J)} {v':V} {H1:Heap} {bL:Nat} {m':List (Nat × cf)},ch (b9 aa) (bB a8 σ) H H.length op=some (v',H1,bL)->b<=bL->b<=H1.length->
    cd J b F fs {s with mem:=p1++s.mem,aE:=s.aE+1} σ H1 (fun q=>if q=s.aE then m' else G q) (ρ++[v'])->
    S (match put aq {s with aE:=s.aE+1} (.row s.aE) d with|(aq,s1)=>xi cx r aq s1 p1 (w++[true]) k)->
    ∃eT s1 p1 iF cM H1 aB gw aH,kj aa b (dB s G F) (⟨d,op,none⟩::r) a8 σ H iF cM H1 aH/\S (k eT s1 p1 (w++aH))/\cd J b F fs {s1 with mem:=p1++s1.mem} cM H1 aB gw/\(∀t v,bt eT t=some v->b8 J s1.aQ gw fs v (iF t))/\ρ <+: gw/\Fr s s1/\s1.mem=s.mem:=by
   intro d op p1 v' H1 bL m' cT dI fg bT h1
   have D7:dB s (fun q=>if q=s.aE then m' else G q) F=dB s G F:=by
    unfold dB;congr 1;exact q6 fun e he=>if_neg (re (nL.lt e he))
   have rR:Own H1 (dB s G F):=by
    rw[<-D7];exact bT.own.sub (by unfold dB;simp only[kS,kR];exact Et _ _)
   have qm:∀t v,bt aq t=some v->b8 J s.aQ (ρ++[v']) fs v (a8 t):=fun t v q=>(b0 t v q).mono ei (hP _ _);have mW:b8 J s.aQ (ρ++[v']) fs (.row s.aE) v':=.row (nL.new v');have SG:Fr s {s with aE:=s.aE+1}:=⟨fun _ _=>rfl,fun _ h=>h,fun _ h=>h,ei,ED _,fun o w cs hm=>⟨cs,hm,rfl,fun _ _=>rfl⟩,fun _ _ _ h=>.inl h⟩
   match d,h1 with
   |none,h1=>
    obtain⟨eT,s1,p2,iF,cM,H2,aB,gw,aH,ad,e2,bK,cw,dC,gp,mZ⟩:=HV (s:={s with aE:=s.aE+1}) a6 aC hT ag h1 bT qm fg;have ad:kj aa b (dB s (fun q=>if q=s.aE then m' else G q) F) r a8 σ H1 iF cM H2 aH:=ad;rw[D7]at ad;exact⟨eT,s1,p2,iF,cM,H2,aB,gw,true::aH,.make rfl cT dI fg rR ad,by simpa using e2,bK,cw,(hP _ _).trans dC,SG.trans gp,mZ⟩
   |some (t,false),h1=>
    obtain⟨eT,s1,p2,iF,cM,H2,aB,gw,aH,ad,e2,bK,cw,dC,gp,mZ⟩:=HV (s:={s with aE:=s.aE+1}) a6 aC hT ag h1 bT (Sl qm mW) fg;have ad:kj aa b (dB s (fun q=>if q=s.aE then m' else G q) F) r (up a8 t v') σ H1 iF cM H2 aH:=ad;rw[D7]at ad;exact⟨eT,s1,p2,iF,cM,H2,aB,gw,true::aH,.make rfl cT dI fg rR ad,by simpa using e2,bK,cw,(hP _ _).trans dC,SG.trans gp,mZ⟩
   |some (t,true),h1=>
    obtain⟨eT,s1,p2,iF,cM,H2,aB,gw,aH,ad,e2,bK,cw,dC,gp,mZ⟩:=HV a6 aC hT ag h1 (bT.put mW) qm fg;have ad:kj aa b (dB s (fun q=>if q=s.aE then m' else G q) F) r a8 (up σ t v') H1 iF cM H2 aH:=ad;rw[D7]at ad;exact⟨eT,s1,p2,iF,cM,H2,aB,gw,true::aH,.make rfl cT dI fg rR ad,by simpa using e2,bK,cw,(hP _ _).trans dC,SG.trans (Sf.trans gp),mZ⟩
  simp only[xi]at h;split at h
  ·rename_i d f aX
   split at h
   ·rename_i i v CJ xo
    split at h
    ·rename_i q bu
     split at h
     ·rename_i x hx SH
      obtain⟨z,aJ,h⟩:=aC.cJ h;obtain⟨cU,asa,c1,hn⟩:=(hT.2 _ (jA bu)).clone SH;have al:=xj nL b0 xo
      obtain⟨dE,rfl⟩:∃dE,aX=[dE]:=by
       have:=al.length
       match aX,this with
       |[dE],_=>exact⟨dE,rfl⟩
      cases al with
      |cons af _=>
       have hS:=c3 nL b0 CJ;generalize D4:bB a8 σ f=wf at hS;cases hS with
       |fn hl=>
        cases hl;obtain⟨v',H1,m',cT,dI,fg,ic⟩:=acG (b:=b) c1 hn aJ R.own D4 (D3 hx af) (a6.bx q.1) (a6.ok q.1) hb;exact fin (p1:=(s.aE,.row q.1 z)::p) cT hb (c4 hb ic) (R.add fg ⟨v',R.new v',dI⟩) h
     ·exact absurd h aC.bad
    ·exact absurd h aC.bad
   ·exact absurd h aC.bad
  ·rename_i d es bytes dE fW
   split at h
   ·rename_i x o lo hi mn rZ
    split at h
    ·rename_i t y hm e2
     split at h
     ·rename_i ad
      obtain⟨q,bu,h0⟩:=aC.cJ h;obtain⟨z,aJ,h1⟩:=aC.cJ h0;have fc:=eU ad;subst fc;have sA:=c3 nL b0 rZ;generalize HM:bB a8 σ fW=wb at sA;cases sA with
      |lC ho Sk=>
       obtain⟨v1,bI,cq⟩:=nL.mem o _ hm;obtain⟨b4,ha,-⟩:=nL.at hm;rw[bI]at ho;cases ho;have yT:Go.Abs.elems H (J.es t) (bB a8 σ fW)=some (q.l.map (J.enc t)):=by rw[HM];exact adt b4 ha nL.own cq bu Sk
       obtain⟨v',H1,bL,m',cT,dI,fg,ic,il⟩:=art (aa:=aa) (b:=b) hb 0 aJ (R.own.ins 0) rfl fm.emp (yS e2 (c3 nL b0 mn)) yT (a6.bx t) (a6.ok t);exact fin (p1:=(s.aE,.row t z)::p) fg cT dI (R.add il ⟨v',R.new v',ic⟩) h1
     ·exact absurd h aC.bad
    ·exact absurd h aC.bad
   ·rename_i q y _ mn rZ
    split at h
    ·rename_i t x hm
     split at h
     ·rename_i oL ad e2
      obtain⟨z,aJ,h⟩:=aC.cJ h;have kz:bt (p++s.mem) q=some (.row t x):=by rw[DS,hm]
      obtain⟨cn,hQ,Pv⟩:∃v,ρ[q]? =some v/\e3 b (J.es t) (J.enc t) v x (G q):=R.mem q _ kz
      have ft:bB a8 σ dE=cn:=by
       have:=c3 nL b0 mn;cases this with
       |row h1=>rw[hQ]at h1;exact(ra h1).symm
      have fc:=eU ad;subst fc;obtain⟨ast,b4,dq⟩:=R.rep kz;obtain⟨v',H1,bL,m',cT,dI,fg,ic,il⟩:=ac7 (aa:=aa) (b:=b) hb ast aJ R.own b4 Pv ft (D3 e2 (c3 nL b0 rZ)) (a6.bx t) (a6.ok t);have eJ:=dq (c:=.row t z) (cL:=s.cL) ⟨v',R.new v',ic⟩ il;have bK:kl q s.aE (.row t z) (p++s.mem)=kl q s.aE (.row t z) p++s.mem:=aed hm;have n4:cd J b F fs {s with mem:=kl q s.aE (.row t z) p++s.mem,aE:=s.aE+1} σ H1 (fun q=>if q=s.aE then m' else G q) (ρ++[v']):=by rw[<-bK];exact eJ
      exact fin fg cT dI n4 h
     ·exact absurd h aC.bad
    ·exact absurd h aC.bad
   ·rename_i x t y aBi mn rZ
    split at h
    ·rename_i ad e2
     obtain⟨z,aJ,h⟩:=aC.cJ h;have fc:=eU ad;subst fc
     have hy:bB a8 σ fW=aV (J.es t) (J.enc t) y:=by
      have:=c3 nL b0 rZ;generalize bB a8 σ fW=R4 at this;cases this;rfl
     obtain⟨v',H1,bL,m',cT,dI,fg,ic,il⟩:=ac7 (aa:=aa) (b:=b) hb 0 aJ (R.own.ins 0) rfl fm.emp (yS e2 (c3 nL b0 mn)) hy (a6.bx t) (a6.ok t);exact fin (p1:=(s.aE,.row t z)::p) fg cT dI (R.add il ⟨v',R.new v',ic⟩) h
    ·exact absurd h aC.bad
   ·exact absurd h aC.bad
  ·rename_i o' sP yh
   obtain⟨eT,s1,iF,cM,q1,q2,n4,cS,fw,gV,mT⟩:=HT a6 aC hT ag h nL b0;have D7:dB s1 G F=dB s G F:=by unfold dB;rw[gV]
   obtain⟨LP,s2,p2,asu,iZ,H2,bC,uw,bQ,ad,e2,bK,cw,dC,gp,mZ⟩:=HV a6 aC hT ag q2 (R.ass n4 gV mT fw.aQ) cS hb;rw[D7]at ad;refine⟨LP,s2,p2,asu,iZ,H2,bC,uw,[false]++bQ,kj.append (iB.fE q1) ad,by simpa using e2,bK,cw,dC,fw.trans gp,mZ.trans gV⟩
theorem asv{A:Type}[aP A]{S:A->Prop}(a6:gv J)(aC:mr S)(hT:rX aa cx)(ag:∀j f,nth cx.fv j=some f->∃w,fs[j]? =some w/\oo aa F f.ea f.rt f.f w){ops:List bU}{eK:List Nat}{n:Nat}{k:bE J->A}{Q:X->bY->Heap->Prop}
  (h:S (adi cx eK ops n s k)) (R:cd J b F fs s σ H G ρ) (cA:∀ar aT H' G' cR,S (k ar)->cd J b F fs ar aT H' G' cR->ρ <+: cR->Fr s ar->Q .normal aT H'):fj aa b (.region ops (some eK)) σ H Q:=by
 refine ark (ms:=dB s G F) (Nv n ops) R.own fun hb=> ?_;obtain⟨eT,s1,p1,iF,cM,H1,aB,gw,aH,ad,e2,bK,cw,dC,gp,mZ⟩:=HV (a8:=oc) (p:=[]) a6 aC hT ag h R (fun t v q=>by cases q) hb;rw[j4]at e2;refine⟨iF,cM,H1,aH,ad,fun w' hw=> ?_⟩;have f1:Fr s1 {s1 with mem:=p1++s1.mem}:=⟨fun _ _=>rfl,fun _ h=>h,fun _ h=>h,ei,aN _,fun o w cs hm=>⟨cs,bK.SF hm,rfl,fun _ _=>rfl⟩,fun o c hc hm=>.inl (bK.SF hm)⟩;refine BC a6 aC hT ag e2 hw.rev bK cw fun ar aT H' G' cR wr nh ak a2 SI a4 a5=> ?_;split at ak
 ·rename_i e
  exact⟨arj a2 e,cA _ _ _ _ _ ak SI (dC.trans a4) (gp.trans (f1.trans a5))⟩
 ·exact absurd ak aC.bad
theorem asw{c:cF}{Q:X->bY->Heap->Prop}(h:fj aa b c σ H (andThen aa b (.loop c) Q)):fj aa b (.loop c) σ H Q:=fun ay low h1 h2 au=>by
 obtain⟨x,dm,H',low',aT,ad,e2,bK,cw,dC⟩:=h ay low h1 h2 au;rw[tq,ad];cases x with
 |normal=>exact dC dm low' e2 bK cw
 |exit i=>exact⟨_,_,_,_,aT,rfl,e2,bK,cw,dC⟩
 |ret=>exact⟨_,_,_,_,aT,rfl,e2,bK,cw,dC⟩
theorem aee (a6:gv J){f:kI J->{A:Type}->[aP A]->bE J->(X->bE J->A)->A}{a:cF}(ih:∀{an:kI J} {A:Type} [aP A] {S:A->Prop},mr S->∀{s:bE J} {k:X->bE J->A} {σ:bY} {H:Heap} {G:Nat->List (Nat × cf)} {ρ:List V} {Q:X->bY->Heap->Prop},S (f an s k)->cd J b F fs s σ H G ρ->
   (∀x ar aT H' G' cR,S (k x ar)->cd J b F fs ar aT H' G' cR->ρ <+: cR->Fr s ar->Q x aT H')->fj aa b a σ H Q) {hd:nI J} {os:yR J} {x:kI J} {A:Type} [aP A] {S:A->Prop} (aC:mr S) {s:bE J} {k:X->bE J->A} {σ:bY} {H:Heap} {G:Nat->List (Nat × cf)} {ρ:List V} {Q:X->bY->Heap->Prop}
  (h:S (L9 f (kJ a) hd os x s k)) (R:cd J b F fs s σ H G ρ) (cA:∀x ar aT H' G' cR,S (k x ar)->cd J b F fs ar aT H' G' cR->ρ <+: cR->Fr s ar->Q x aT H'):fj aa b (.loop a) σ H Q:=by
 unfold L9 at h;split at h
 ·exact absurd h aC.bad
 ·rename_i BJ asx
  obtain⟨o,ho,h⟩:=aC.cJ h
  refine cy _ (fun st aT H'=>∃G' cR,cd J b F fs (fresh (enter (kJ a) [] hd st s)) aT H' G' cR/\ρ <+: cR)
   (fun o x aT H'=>∃s2 G' cR,(S (leave (gd hd++kJ a) (iD hd) s k os o)->S (k x s2))/\cd J b F fs s2 aT H' G' cR/\ρ <+: cR/\Fr s s2) ho ?_ ?_ ?_
  ·obtain⟨G',cR,bI,cq⟩:=Ms (W:=kJ a) (M:=[]) a6 R R ei .rfl asx
   exact⟨G',cR,bI.Mr,cq⟩
  ·rintro st cM H1 r ⟨aB,gw,bT,aef⟩ hr
   refine ih (R1 r) hr bT fun e1 s2 iZ H2 bC uw ak a2 a3 a4=> ?_
   have base:iE (gd hd++kJ a) ([]++iD hd) s (fresh (enter (kJ a) [] hd st s)):=by
    have:=ad2 (W:=kJ a) (M:=[]) R.lt (x:=st);exact⟨this.vs,this.aQ,this.aE,this.mem,this.row⟩
   have oS:s.aE<=(fresh (enter (kJ a) [] hd st s)).aE:=base.aE
   have aeg:∀{y:Bi J (Bm os)},Bn s.aQ.length s.aE (gd hd++kJ a) (iD hd) e1 s2 os=some y->∃fy G' cR,(S (leave (gd hd++kJ a) (iD hd) s k os y)->S (k e1 fy))/\cd J b F fs fy iZ H2 G' cR/\ρ <+: cR/\Fr s fy:=by
    intro y hy;obtain⟨sh,z,g1,g2⟩:=Sz (S:=S) (s:=s) (k:=k) hy;obtain⟨q1,q2,b3⟩:=Sy g1
    have hg:iE (gd sh++(gd hd++kJ a)) (iD hd++iD sh) s s2:=
     base.h8 (by simp) a4 R.lt (fun t ht=>qp _ ht) (fun p hp=>xM _ (by simpa using hp)) (fun t ht=>qp _ (q1 t ht)) q2
    obtain⟨G',cR,bI,cq⟩:=Ms a6 R a2 (aef.trans a3) hg b3;exact⟨_,G',cR,g2,bI,cq,ad3 R.lt⟩
   cases e1 with
   |normal=>
    simp only at ak;split at ak
    ·rename_i y hy
     cases ak;obtain⟨q1,q2,b3⟩:=Sy hy;have hg:iE (gd hd++kJ a) ([]++iD hd) s s2:=base.h8 (by simp) a4 R.lt (fun _ h=>h) (fun _ h=>h) (fun t ht=>qp _ (q1 t ht)) q2;obtain⟨G',cR,bI,cq⟩:=Ms a6 R a2 (aef.trans a3) hg b3;exact⟨rfl,G',cR,bI.Mr,cq⟩
    ·cases ak
   |exit i=>
    simp only at ak;split at ak
    ·rename_i y hy;cases ak;exact⟨nofun,aeg hy⟩
    ·cases ak
   |ret=>
    simp only at ak;split at ak
    ·rename_i y hy;cases ak;exact⟨nofun,aeg hy⟩
    ·cases ak
  ·rintro e1 cM H1 ⟨s2,bC,uw,cT,dI,fg,ic⟩
   exact cA _ _ _ _ _ _ (cT h) dI fg ic
set_option maxHeartbeats 1000000 in
theorem vp (a6:gv J)(hT:rX aa cx)(ag:∀j f,nth cx.fv j=some f->∃w,fs[j]? =some w/\oo aa F f.ea f.rt f.f w):
  ∀{c:cF} {an:kI J} {A:Type} [aP A] {S:A->Prop},mr S->∀{s:bE J} {k:X->bE J->A} {σ:bY} {H:Heap} {G:Nat->List (Nat × cf)} {ρ:List V} {Q:X->bY->Heap->Prop},S (la cx c an s k)->cd J b F fs s σ H G ρ->
   (∀x ar aT H' G' cR,S (k x ar)->cd J b F fs ar aT H' G' cR->ρ <+: cR->Fr s ar->Q x aT H')->fj aa b c σ H Q
 | .skip,an,A,_,S,aC,s,k,σ,H,G,ρ,Q,h,R,cA=>nA (cA _ _ _ _ _ _ h R ei .rfl)
 | .ret,an,A,_,S,aC,s,k,σ,H,G,ρ,Q,h,R,cA=>sT (cA _ _ _ _ _ _ h R ei .rfl)
 | .exit i,an,A,_,S,aC,s,k,σ,H,G,ρ,Q,h,R,cA=>wX (cA _ _ _ _ _ _ h R ei .rfl)
 | .region ops eK,an,A,_,S,aC,s,k,σ,H,G,ρ,Q,h,R,cA=>by
   unfold la at h;split at h
   ·exact asq (k:=fun s=>k .normal s) a6 aC hT ag h R fun ar aT H' G' cR ak a2 a3 a4=>cA _ _ _ _ _ _ ak a2 a3 a4
   ·exact asv (k:=fun s=>k .normal s) a6 aC hT ag h R fun ar aT H' G' cR ak a2 a3 a4=>cA _ _ _ _ _ _ ak a2 a3 a4
   ·exact ad8 (k:=fun s=>k .normal s) a6 aC hT ag h R fun ar aT H' G' cR ak a2 a3 a4=>cA _ _ _ _ _ _ ak a2 a3 a4
 | .seq a c,an,A,_,S,aC,s,k,σ,H,G,ρ,Q,h,R,cA=>by
   have snd:∀{y:kI J} {x:X} {ar:bE J} {aT:bY} {H':Heap} {G':Nat->List (Nat × cf)} {cR:List V},S (match x with| .normal=>la cx c y ar k|x=>k x ar)->cd J b F fs ar aT H' G' cR->ρ <+: cR->Fr s ar->andThen aa b c Q x aT H':=by
    intro y x ar aT H' G' cR ak a2 a3 a4;cases x with
    |normal=>exact vp a6 hT ag aC ak a2 fun x s2 iZ H2 bC uw b1 e8 h7 j9=>cA _ _ _ _ _ _ b1 e8 (a3.trans h7) (a4.trans j9)
    |exit i=>exact cA _ _ _ _ _ _ ak a2 a3 a4
    |ret=>exact cA _ _ _ _ _ _ ak a2 a3 a4
   unfold la at h;split at h
   ·rename_i os x y
    obtain⟨o,ho,h⟩:=aC.cJ h;refine gW (vp a6 hT ag (R1 o) ho R.Mr fun e1 s1 cM H1 aB gw ak a2 a3 a4=> ?_);obtain⟨sh,z,g1,g2⟩:=Sz (S:=S) (s:=s) (k:=fun x ar=>match x with| .normal=>la cx c y ar k|x=>k x ar) ak;obtain⟨q1,q2,b3⟩:=Sy g1
    have hg:iE (gd sh++kJ a) ([]++iD sh) s s1:=by
     have:=a4.hg (W:=gd sh++kJ a) (M:=[]++iD sh) R.lt (fun t ht=>qp _ (q1 t ht)) q2;exact⟨this.vs,this.aQ,this.aE,this.mem,this.row⟩
    obtain⟨G',cR,bI,cq⟩:=Ms a6 R a2 a3 hg b3;exact snd (g2 h) bI cq (ad3 R.lt)
   ·rename_i sl y
    split at h
    ·rename_i ops eK
     unfold adj at h;split at h
     ·rename_i hw
      obtain⟨s1,p1,p2,p3⟩:=SB hw;refine gW (ad8 (S:=fun q:qg (bE J)=>q.val=some s1) (k:=fun s=>qg.leaf s) (s:={s with dR:=[],cL:=[]}) a6 (arH s1) hT ag p1 R.aeb fun ar aT H' G' cR ak a2 a3 a4=> ?_);cases ak
      have hg:iE (qj ops) [] s s1:=by
       have:=a4.hg (W:=qj ops) (M:=[]) R.lt p2 (fun o j q=>by rw[p3]at q;cases q);exact⟨this.vs,this.aQ,this.aE,this.mem,this.row⟩
      have hb:=adW R a2 a3 hg;have nW:cd J b F fs {blank (qj ops) [] s with dR:=sl++(qj ops++s.dR)} aT H' G' ρ:=hb.aeb;obtain⟨kK,ad,e2,bK,cw,dC⟩:=ad7 aC a2 a3 hg.aQ p1 nW (ei) (by rw[R.aE];exact h)
      have w:iE (sl++(qj ops++s.dR)) [] s kK:=by
       have aH:=(adT (s:=s) (W:=qj ops) (M:=[])).wide (W':=sl++(qj ops++s.dR)) (M':=[]) (fun t ht=>qp _ (xM _ ht)) (fun _ q=>q);have bQ:=bK.wide (W':=sl++(qj ops++s.dR)) (M':=[]) (fun t ht=>xM _ ht) (fun _ q=>q);exact iE.trans (s1:={blank (qj ops) [] s with dR:=sl++(qj ops++s.dR)}) ⟨aH.vs,aH.aQ,aH.aE,aH.mem,aH.row⟩ bQ
      refine snd (x:=.normal) ad e2 ei ⟨fun t ht=>w.vs t fun q=>ht (by rw[cw];exact q),fun t ht=>by rw[cw];exact qp _ (qp _ ht),fun q bu=>by rw[dC];exact bu,w.aQ,w.aE,fun o wr cs hm=> ?_,fun o aY hc hm=>.inl ((w.row o aY hc hm).resolve_right (by simp))⟩;obtain⟨cs',m1,m2,m3⟩:=w.mem o wr cs hm;exact⟨cs',m1,m2,fun j _=>m3 j (by simp)⟩
     ·exact absurd h aC.bad
    ·exact absurd h aC.bad
   ·exact gW (vp a6 hT ag aC h R fun x ar aT H' G' cR ak a2 a3 a4=>snd ak a2 a3 a4)
 | .cond x a c,an,A,_,S,aC,s,k,σ,H,G,ρ,Q,h,R,cA=>by
   simp only[la]at h;split at h
   ·exact absurd h aC.bad
   ·rename_i v af
    obtain⟨β,s1,ad,e2,bK,cw⟩:=DW aC h R.du (c3 (a8:=oc) R (fun t v q=>by cases q) af);rcases cw with⟨rfl,h⟩|⟨rfl,h⟩
    ·exact p4 ad rfl (vp a6 hT ag aC h (R.eH e2) fun x s2 iZ H2 bC uw b1 e8 h7 j9=>cA _ _ _ _ _ _ b1 e8 h7 (e2.b7.trans j9))
    ·exact nB ad rfl (vp a6 hT ag aC h (R.eH e2) fun x s2 iZ H2 bC uw b1 e8 h7 j9=>cA _ _ _ _ _ _ b1 e8 h7 (e2.b7.trans j9))
 | .block id a,an,A,_,S,aC,s,k,σ,H,G,ρ,Q,h,R,cA=>by
   simp only[la]at h;exact p6 (vp a6 hT ag aC h R fun x s2 iZ H2 bC uw b1 e8 h7 j9=>cA _ _ _ _ _ _ b1 e8 h7 j9)
 | .loop a,an,A,_,S,aC,s,k,σ,H,G,ρ,Q,h,R,cA=>by
   unfold la at h;split at h
   ·exact aee a6 (fun {_ _ _ _} aC {_ _ _ _ _ _ _} h R cA=>vp a6 hT ag aC h R cA) aC h R cA
   ·refine asw (vp a6 hT ag aC h R fun x ar aT H' G' cR ak a2 a3 a4=> ?_)
    cases x with
    |normal=>exact aee a6 (fun {_ _ _ _} aC {_ _ _ _ _ _ _} h R cA=>vp a6 hT ag aC h R cA) aC ak a2 fun x s2 iZ H2 bC uw b1 e8 h7 j9=>cA _ _ _ _ _ _ b1 e8 (a3.trans h7) (a4.trans j9)
    |exit i=>exact cA _ _ _ _ _ _ ak a2 a3 a4
    |ret=>exact cA _ _ _ _ _ _ ak a2 a3 a4
   ·exact absurd h aC.bad
 | .zB ..,an,A,_,S,aC,s,k,σ,H,G,ρ,Q,h,R,cA=>absurd h (by unfold la;exact aC.bad)
 | .rangeFunc ..,an,A,_,S,aC,s,k,σ,H,G,ρ,Q,h,R,cA=>absurd h (by unfold la;exact aC.bad)
 | .fail,an,A,_,S,aC,s,k,σ,H,G,ρ,Q,h,R,cA=>absurd h (by unfold la;exact aC.bad)
end
end Go.Abs.hv
namespace Go.Abs.hv
open Go Go.Abs
section
variable{J:iT}{b:Nat}{F:cG}{fs:List V}{s ar:bE J}{σ:bY}{H:Heap}{G:Nat->List (Nat × cf)}{ρ:List V}{aa:Nat->Option cc}
theorem SJ:∀(vs:List V) (i j:Nat) (v:V),vs[j]? =some v->vb i vs (i+j)=v
 |[],_,_,_,h=>by simp at h
 |u::r,i,0,v,h=>by simp at h;subst h;exact wW _ _ _
 |u::r,i,j+1,v,h=>by
  simp at h;rw[vb,jU _ _ (by omega),show i+(j+1)=i+1+j by omega];exact SJ r (i+1) j v h
theorem SK{F:cG}:∀{aX:List mo} {a:mq J aX} {ws:List V},um aa F aX a ws->ws.length=aX.length
 |[],_,_,h=>by cases h;rfl
 | .v t::aX,x,_,⟨eX,e,r⟩=>by subst e;simp[SK r]
 | .f _ _::aX,x,_,⟨w,eX,e,_,r⟩=>by subst e;simp[SK r]
def D8:List mo->List V->List V
 | .v _::r,_::ws=>D8 r ws
 | .f _ _::r,w::ws=>w::D8 r ws
 | _,_=>[]
def aeh (aa:Nat->Option cc)(F:cG)(fs:List V)(l:List (Hs J)):Prop:=∀j f,nth l j=some f->∃w,fs[j]? =some w/\oo aa F f.ea f.rt f.f w
theorem SL (a6:gv J):∀{aX:List mo} {x:mq J aX} {ws:List V} {j:Nat} {s:bE J} {l:List (Hs J)} {pre:List V},um aa F aX x ws->(∀i w,ws[i]? =some w->σ (j+i)=w)->fs=pre++D8 aX ws->pre.length=l.length->aeh aa F fs l->cd J b F fs s σ H G ρ->
  cd J b F fs (Bo aX x j s l).1 σ H G ρ/\aeh aa F fs (Bo aX x j s l).2/\(Bo aX x j s l).1.mem=s.mem/\(Bo aX x j s l).1.aE=s.aE
 |[],x,ws,j,s,l,pre,hA,r1,ag,hp,hl,R=>⟨R,hl,rfl,rfl⟩
 | .v t::aX,x,ws,j,s,l,pre,⟨eX,e,r⟩,r1,ag,hp,hl,R=>by
   subst e;have h0:=r1 0 _ rfl;have oT:=D5 (R.eH (Mf (J.yM t x.1))) (l:=.s j) (w:=J.enc t x.1) h0.symm (a6.h4 t x.1 s.aQ ρ fs);exact SL (aX:=aX) (x:=x.2) (ws:=eX) (j:=j+1) (l:=l) a6 r (fun i w h=>by have:=r1 (i+1) w (by simpa using h);rwa [I9,rb]) ag hp hl oT
 | .f ea rt::aX,x,ws,j,s,l,pre,⟨w,eX,e,q,r⟩,r1,ag,hp,hl,R=>by
   subst e;have h0:=r1 0 _ rfl
   have hj:fs[l.length]? =some w:=by
    rw[ag,<-hp,vH (aN _)];simp[D8]
   have oT:=D5 R (l:=.s j) (w:=w) (v:=.fv l.length) h0.symm (.fv hj);refine SL (aX:=aX) (x:=x.2) (ws:=eX) (j:=j+1) (l:=l++[⟨ea,rt,x.1⟩]) a6 (pre:=pre++[w]) r (fun i w h=>by have:=r1 (i+1) w (by simpa using h);rwa [I9,rb]) (by rw[ag];simp[D8]) (by simp[hp]) (fun k g hk=> ?_) oT;rw[xb]at hk;rcases gD k l.length with aG|hge
   ·rw[fY aG]at hk
    exact hl k g (by rw[xb];exact hk)
   ·rw[vH hge]at hk
    cases hd:k-l.length with
    |zero=>
     rw[hd]at hk;cases hk;have:k=l.length:=by omega
     subst this;exact⟨w,hj,q⟩
    |succ n=>rw[hd]at hk;simp at hk
theorem aei (a6:gv J):∀{ts:List Nat} {c:dF J ts} {aX:List Nat} {j:Nat} {s ar:bE J} {G:Nat->List (Nat × cf)} {ρ:List V},Ma ts c j s=some ar->aX.length=ts.length->(∀i a,aX[i]? =some a->σ (j+i)=.ptr a 0)->Own H (s.mem.map (fun e=>G e.1)++(Bs ts c aX++F))->cd J b F fs s σ H G ρ->
  ∃G' cR,cd J b F fs ar σ H G' cR
 |[],c,aX,j,s,ar,G,ρ,h,hl,r1,av,R=>by cases h;exact⟨G,ρ,R⟩
 |t::ts,c,[],j,s,ar,G,ρ,h,hl,r1,av,R=>by cases hl
 |t::ts,c,a::aX,j,s,ar,G,ρ,h,hl,r1,av,R=>by
  simp only[Ma]at h;split at h
  ·cases h
  ·rename_i cs hc
   have fJ:=Bp (ρ:=ρ) (fs:=fs) hc (a6.h4 t (qh ts c) s.aQ ρ fs);have h0:=r1 0 _ rfl;refine aei a6 (G:=fun o=>if o=s.aE then[(a,.cells (aI (J.enc t (qh ts c))))]else G o) (ρ:=ρ++[.ptr a 0]) h (by simpa using hl) (fun i bn hi=>by have:=r1 (i+1) bn (by simpa using hi);rwa [I9,rb]) ?_ ?_
   ·have e:(s.mem.map fun e=>if e.1=s.aE then[(a,cf.cells (aI (J.enc t (qh ts c))))]else G e.1)=s.mem.map fun e=>G e.1:=
     q6 fun e he=>by rw[if_neg (re (R.lt e he))]
    simp only[kS,e,dX,jF,if_pos,kR,List.singleton_append];exact av
   ·have aej:(ρ++[V.ptr a 0])[s.aE]? =some (.ptr a 0):=by rw[vH (by rw[R.aE];exact aN _),R.aE];simp
    refine⟨by simp[R.aE],fun k v hk=> ?_,?_,?_,fun e he=> ?_,fun o aY ho=> ?_,fun i β hk=>lZ (hP _ _) (R.du i β hk)⟩
    ·have hk:bt ((j,.ptr s.aE 0)::s.vs) k=some v:=hk
     rw[gk]at hk;split at hk
     ·rename_i e;cases hk;subst e
      rw[show σ j=.ptr a 0 from h0];exact .ptr aej
     ·exact(R.vs k v hk).mono (hP _ _) (hP _ _)
    ·have e:(s.mem.map fun e=>if e.1=s.aE then[(a,cf.cells (aI (J.enc t (qh ts c))))]else G e.1)=s.mem.map fun e=>G e.1:=
      q6 fun e he=>by rw[if_neg (re (R.lt e he))]
     unfold dB;simp only[kS,e,dX,jF,if_pos,kR,List.singleton_append];refine av.sub (List.Sublist.append (Jb _) ?_);simp only[Bs,l4];exact List.Sublist.cons_cons _ (Et _ _)
    ·simp only[kS,dX,jF]
     refine zs.2 ⟨R.dt,by simp,fun x hx y hy=> ?_⟩;obtain⟨e,he,q⟩:=eA.1 hx;simp only[I8]at hy;subst hy;rw[<-q];exact re (R.lt e he)
    ·rcases kq.1 he with he|he
     ·exact NI (R.lt e he)
     ·simp only[I8]at he;subst he;exact zt _
    ·have ho:bt (s.mem++[(s.aE,cp.cells false cs)]) o=some aY:=ho
     rw[DS]at ho;cases hm:bt s.mem o with
     |some c'=>
      rw[hm]at ho;cases ho;have:=(R.mem o aY hm).mono (hP s.aQ (J.yM t (qh ts c))) (hP ρ [.ptr a 0]);simp only[re (R.lt _ (jA hm)),if_false];exact this
     |none=>
      rw[hm]at ho;simp only at ho;rw[gk]at ho;split at ho
      ·rename_i e
       cases ho;subst e;exact⟨a,_,aej,by simp,fJ.mono ei (hP _ _),fun q=>by cases q⟩
      ·cases ho
theorem aek (R:cd J b F fs s σ H G ρ):∀{rs:List nr} {vs:List (aR J.az)},Hz s rs=some vs->∃us,tZ σ H rs us/\bG J s.aQ ρ fs vs us
 |[],_,h=>by cases h;exact⟨[],.nil,.nil⟩
 |r::rs,vs,h=>by
  simp only[Hz]at h;split at h
  ·cases h
  ·rename_i v af
   split at h
   ·cases h
   ·rename_i l hl
    cases h;obtain⟨us,h1,h2⟩:=aek R hl;cases r with
    |tmp t=>exact⟨_,.tmp rfl h1,.cons (R.vs t v af) h2⟩
    |cell a sh=>
     simp only at af;split at af
     ·rename_i o f al
      split at af
      ·rename_i w cs hm
       have hQ:=R.vs a _ al;generalize hw:σ a=w at hQ;cases hQ with
       |ptr ho=>
        obtain⟨q,ws,q1,q2,b3,cS,-⟩:=R.cells hm;rw[q1]at ho;cases ho;obtain⟨u,cT,dI⟩:=HF af cS;exact⟨_,.cell hw (b3 H R.own) cT h1,.cons dI h2⟩
      ·cases af
     ·cases af
theorem ael (a6:gv J):∀(ts:List Nat) (x:dF J ts),cj (ke ts x)=true
 |[],_=>rfl
 |t::r,x=>by simp only[ke,cj,a6.bx,ael a6 r,xR]
theorem asy (a6:gv J)(ts:List Nat)(x:dF J ts):bx (om ts x)=true:=by
 unfold om;have h:=ael a6 ts x;generalize ke ts x=us at h
 match us with
 |[]=>rfl
 |[u]=>simpa[cj,one]using h
 | _::_::_=>exact h
theorem aem{f:List (Nat × cp J)->aR J.az->Option (aR J.az × List (Nat × cp J))}:∀{vs vs':List (aR J.az)} {m m':List (Nat × cp J)},vj f m vs=some (vs',m')->vs'.length=vs.length
 |[],_,_,_,h=>by cases h;rfl
 |v::r,_,_,_,h=>by
  simp only[vj]at h;split at h
  ·cases h
  ·split at h
   ·cases h
   ·rename_i e;cases h;simp[aem e]
theorem aen (a6:gv J){T:List (ba J)}(hT:∀e∈T,km aa e)(e:ba J){f:ix}(c1:aa e.id=some (.code f))(ty:List (Nat × Nat))(xd:List (Nat × Nat × Nat))(oU:∀q∈xd,DY J aa q.1 q.2)(an:kI J)
  (eR:f.fresh=false) (hn:Nat.ble (e.args.length+e.caps.length) f.xT=true) (h:∀c a,e.fn c a=HA T ty xd f an e.caps e.args e.res c a):km aa e:=by
 intro H F c a aX ws r hlen av hA hr;rw[h]at hr;unfold HA at hr;have hl:=SK hA;have r1:∀i w,ws[i]? =some w->vb 0 (ws++Bt aX) (0+i)=w:=fun i w hi=>SJ _ 0 i w (by rw[fY (eY.1 hi).1];exact hi)
 have nL:cd J H.length F (D8 e.args ws) vl (vb 0 (ws++Bt aX)) H (fun _=>[]) []:=
  ⟨rfl,fun _ _ q=>(by cases q),av.sub (Et _ _),Ji,fun _ q=>(by cases q),fun _ _ q=>(by cases q),fun _ _ q=>(by cases q)⟩
 obtain⟨bT,f1,m1,-⟩:=SL (pre:=[]) (l:=[]) a6 hA r1 rfl rfl (fun j f q=>by simp[nth]at q) nL;split at hr;rename_i s1 fv asz;rw[asz]at bT f1 m1;split at hr
 ·cases hr
 ·rename_i s2 asA
  obtain⟨bC,uw,eJ⟩:=aei a6 (σ:=vb 0 (ws++Bt aX)) asA hlen (fun i x hi=>by
   rw[<-hl];have:=SJ (ws++Bt aX) 0 (ws.length+i) (.ptr x 0) (by rw[vH (NK _ _)];simp[hi]);rwa [eo]at this) (by rw[m1];exact av) bT
  refine KT (caps:=Bt aX) c1 ?_ eR ?_ (asy a6 _ _)
  ·simp only[hO,gR,hl,hlen]
   exact j1 hn
  ·refine vp a6 (cx:=⟨T,fv,ty,xd⟩) ⟨hT,oU⟩ f1 (R1 r) hr eJ fun x ar aT H' G' cR ak a2 a3 a4=> ?_
   have fin:(match Hz ar f.results with
     |some vs=>RX ar e.res vs
     |none=>none)=some r->KR f.results aT H' H.length (om e.res r):=fun h=>by
    split at h
    ·rename_i vs c6
     obtain⟨us,kW,rm⟩:=aek a2 c6;unfold RX at h;split at h
     ·rename_i v
      cases rm with
      |cons af hr=>
       cases hr;split at h
       ·rename_i v' m' aJ
        obtain⟨w',bC,qN,z2,-⟩:=D2 (F:=F) a6 a2.Bx aJ af;have:=Mg a6 h (.cons z2 .nil);have ad:om e.res r=w':=by unfold om;rw[<-this];rfl
        rw[ad];exact KS kW rfl a2.own qN
       ·cases h
     ·rename_i bq
      split at h
      ·rename_i vs' m' aJ
       obtain⟨eX,bC,qN,z2,-⟩:=D1 (F:=F) (D2 a6) a2.Bx aJ rm;have:=Mg a6 h z2;have b6:=rm.length;have ll:=z2.length;have Mw:=aem aJ
       have gI:∀{l:List V},l.length=vs.length->one l=.aF l:=fun {l} hl=>by
        match l,hl with
        |[],_=>rfl
        |[w],hl=>
         match vs,hl,bq with
         |[v],_,bq=>exact absurd rfl (bq v)
        | _::_::_,_=>rfl
       have ad:om e.res r=.aF eX:=by
        unfold om;rw[<-this];exact gI (by rw[<-ll,Mw])
       rw[ad];exact KS kW (gI b6.symm) a2.own (adA qN)
      ·cases h
    ·cases h
   cases x with
   |exit i=>cases ak
   |normal=>exact⟨.inl rfl,fin ak⟩
   |ret=>exact⟨.inr rfl,fin ak⟩
theorem asB (a6:gv J){T:List (ba J)}(hT:∀e∈T,km aa e)(e:ba J){X:Type}(Fn:(X->Option (dF J e.res))->X->Option (dF J e.res))(h8:dF J e.caps->mq J e.args->X)(he:∀c a,e.fn c a=rI Fn (h8 c a))
  {f:ix} (c1:aa e.id=some (.code f)) (ty:List (Nat × Nat)) (an:kI J) (eR:f.fresh=false) (hn:Nat.ble (e.args.length+e.caps.length) f.xT=true)
  (h:∀(g:X->Option (dF J e.res)) (c:dF J e.caps) (a:mq J e.args),Fn g (h8 c a)=HA (⟨e.id,e.caps,e.args,e.res,fun c a=>g (h8 c a)⟩::T) ty [] f an e.caps e.args e.res c a):km aa e:=by
 have key:∀n,km aa ⟨e.id,e.caps,e.args,e.res,fun c a=>fS Fn n (h8 c a)⟩:=by
  intro n
  induction n with
  |zero=>intro H F c a aX ws r _ _ _ q;cases q
  |succ n ih=>
   refine aen a6 (T:=⟨e.id,e.caps,e.args,e.res,fun c a=>fS Fn n (h8 c a)⟩::T) (fun e' he'=> ?_) _ c1 ty [] (fun _ q=>by cases q) an eR hn fun c a=>h (fS Fn n) c a;rcases dG.1 he' with rfl|he'
   ·exact ih
   ·exact hT e' he'
 intro H F c a aX ws r h1 h2 au a7;rw[he]at a7;obtain⟨n,pP⟩:=acF a7;exact key n H F c a aX ws r h1 h2 au pP
variable{B:List Bool}{v:aR J.az}{w:V}
theorem b8.aeo{i:Nat}{c:Bool}(h:B[i]? =some c):b8 J B ρ fs (.bo i false) (.bool c):=by
 have:b8 J B ρ fs (.bo i false) (.bool (c != false)):=.bo h;simpa using this
theorem aep{l:List Bool}{c:Bool}{i:Nat}(h:l[i]? =some c):(B++l)[B.length+i]? =some c:=by
 rw[vH (NK _ _),Nat.add_sub_cancel_left];exact h
theorem bG.inv{v:aR J.az}{vs:List (aR J.az)}{ws:List V}:bG J B ρ fs (v::vs) ws->∃w eX,ws=w::eX/\b8 J B ρ fs v w/\bG J B ρ fs vs eX
 | .cons h r=>⟨_,_,rfl,h,r⟩
theorem bG.qY{ws:List V}:bG J B ρ fs [] ws->ws=[]
 | .nil=>rfl
theorem pn{α:Type}(e:Nat)(f:α->V)(l:ae α):bM (aI (aV e f l))=true:=by simp[bM]
theorem po{α:Type}(e:Nat)(f:α->V)(l:ae α):(aI (aV e f l)).length=1:=by simp
theorem iU{k:IntKind}{n:Int}(h:iw k v=some n)(af:b8 J B ρ fs v w):w=.int k n:=by
 unfold iw at h;split at h
 ·split at h
  ·rename_i e
   cases h;cases af;rw[of_decide_eq_true e]
  ·cases h
 ·cases h
theorem aeq{c:Bool}(h:Mb B v=some c)(af:b8 J B ρ fs v w):w=.bool c:=by
 unfold Mb at h;split at h
 ·cases h;cases af;rfl
 ·split at h
  ·rename_i c' hc
   rw[xb]at hc;cases af with
   |bo hb=>
    rw[hc]at hb;cases hb;split at h<;>cases h<;>simp
  ·cases h
 ·cases h
theorem SM{s:ck}(h:HB v=some s)(af:b8 J B ρ fs v w):w=.str s:=by
 unfold HB at h;split at h
 ·cases h;cases af;rfl
 ·cases h
theorem fU{t:Nat}{l:ae (J.az t)}(h:eM t v=some l)(af:b8 J B ρ fs v w):w=aV (J.es t) (J.enc t) l:=D3 h af
theorem qZ{R:Type}{f:List (aR J.az)->Option R}{x:R}(h:pj f v=some x)(af:b8 J B ρ fs v w):∃vs ws,w=.agg ws/\bG J B ρ fs vs ws/\f vs=some x:=by
 unfold pj at h;split at h
 ·cases af with
  |agg af=>exact⟨_,_,rfl,af,h⟩
 ·cases h
end
end Go.Abs.hv
namespace Go.Abs.hv
open Go Go.Abs
section
variable{J:iT}{aa:Nat->Option cc}{T:List (ba J)}
def yW (aa:Nat->Option cc)(i:Nat):ix:=match aa i with
 |some (.code f)=>f
 | _=>default
def Mx (aa:Nat->Option cc)(e:ba J):Bool:=match aa e.id with
 |some (.code f)=>!f.fresh&&Nat.ble (e.args.length+e.caps.length) f.xT
 | _=>false
abbrev bg (aa:Nat->Option cc)(T:List (ba J)):Prop:=∀e∈T,km aa e
theorem yX{e:ba J}(h:Mx aa e=true):aa e.id=some (.code (yW aa e.id))/\(yW aa e.id).fresh=false/\Nat.ble (e.args.length+e.caps.length) (yW aa e.id).xT=true:=by
 unfold Mx at h;unfold yW;split at h
 ·rename_i f ag
  rw[ag];simp only[cm,oB]at h;exact⟨rfl,h.1,h.2⟩
 ·cases h
theorem bg.cons{e:ba J}(hT:bg aa T)(h:km aa e):bg aa (e::T):=fun e' he=>by
 rcases dG.1 he with rfl|he
 ·exact h
 ·exact hT e' he
theorem bF (a6:gv J){e:ba J}(hT:bg aa T)(ty:List (Nat × Nat))(an:kI J)(h1:Mx aa e=true)(h2:∀c a,e.fn c a=HA T ty [] (yW aa e.id) an e.caps e.args e.res c a):bg aa (e::T):=
 hT.cons (aen a6 hT e (yX h1).1 ty [] (fun _ q=>by cases q) an (yX h1).2.1 (yX h1).2.2 h2)
theorem aer (a6:gv J){e:ba J}{X:Type}(hT:bg aa T)(Fn:(X->Option (dF J e.res))->X->Option (dF J e.res))(h8:dF J e.caps->mq J e.args->X)(he:∀c a,e.fn c a=rI Fn (h8 c a))(ty:List (Nat × Nat))(an:kI J)(h1:Mx aa e=true)
  (h2:∀(g:X->Option (dF J e.res)) (c:dF J e.caps) (a:mq J e.args),Fn g (h8 c a)=HA (⟨e.id,e.caps,e.args,e.res,fun c a=>g (h8 c a)⟩::T) ty [] (yW aa e.id) an e.caps e.args e.res c a):bg aa (e::T):=
 hT.cons (asB a6 hT e Fn h8 he (yX h1).1 ty an (yX h1).2.1 (yX h1).2.2 h2)
def HW:(aX:List mo)->mq J aX->List V
 | .v t::r,x=>J.enc t x.1::HW r x.2
 | _,_=>[]
theorem aes{F:cG}:∀{aX:List mo} {a:mq J aX} {ws:List V},Bj aX=true->um aa F aX a ws->ws=HW aX a
 |[],_,_,_,h=>h
 | .v t::aX,x,_,hn,⟨eX,e,r⟩=>by rw[e,aes (aX:=aX) hn r];rfl
 | .f _ _::_,_,_,hn,_=>by cases hn
theorem r2{i:Nat}{args:List mo}{res:List Nat}{fn:mq J args->Option (dF J res)}(hn:Bj args=true)(h:∀H a r,fn a=some r->b9 aa (.fn i [] []) (HW args a) H=some (om res r,H,H.length)):km aa ⟨i,[],args,res,fun _ a=>fn a⟩:=by
 intro H F c a aX ws r h1 h2 au a7;cases aX with
 |nil=>rw[aes hn au];exact h H a r a7
 |cons x xs=>cases h1
theorem bg.hd{e:ba J}(h:bg aa (e::T)):km aa e:=h e (qq ..)
end
end Go.Abs.hv
namespace Go.Abs.bA
open Go Go.Abs Go.Abs.hv
noncomputable section
def aet (aa:Nat->Option cc):Prop:=∀(H0:Heap) (ab:Int) (r:Bool),yz ab=some r->b9 aa (.fn 245 [] []) [.int .u8 ab] H0=some (.bool r,H0,H0.length)
def aeu (aa:Nat->Option cc):Prop:=∀(H0:Heap) (ab:Int) (r:Bool),yA ab=some r->b9 aa (.fn 248 [] []) [.int .u8 ab] H0=some (.bool r,H0,H0.length)
def aev (aa:Nat->Option cc):Prop:=∀(H0:Heap) (ab:Int) (r:Bool),Dy ab=some r->b9 aa (.fn 247 [] []) [.int .u8 ab] H0=some (.bool r,H0,H0.length)
def aew (aa:Nat->Option cc):Prop:=∀(H0:Heap) (ab:Int) (r:Bool),AK ab=some r->b9 aa (.fn 250 [] []) [.int .u8 ab] H0=some (.bool r,H0,H0.length)
def aex (aa:Nat->Option cc):Prop:=∀(H0:Heap) (ab:ck) (r:Bool),Dv ab=some r->b9 aa (.fn 251 [] []) [.str ab] H0=some (.bool r,H0,H0.length)
def aey (aa:Nat->Option cc):Prop:=∀(H0:Heap) (ab:ck) (r:Int),AG ab=some r->b9 aa (.fn 249 [] []) [.str ab] H0=some (ao r,H0,H0.length)
def aez (aa:Nat->Option cc):Prop:=∀(H0:Heap) (HX:cG) (asC:Own H0 HX) (ab:ck) (ax:(Int->Option Bool)) (xp:V) (asD:∀H low,gl H low xp=some (xp,H,low)) (asE:∀H (z0:Int) (q:Bool),Own H HX->ax z0=some q->b9 aa xp [.int .u8 z0] H=some (.bool q,H,H.length)) (r:Int),AJ ab ax=some r->b9 aa (.fn 246 [] []) [.str ab,xp] H0=some (ao r,H0,H0.length)
def aeA (aa:Nat->Option cc):Prop:=∀(H0:Heap) (ab:ck) (r:Int),Dx ab=some r->b9 aa (.fn 244 [] []) [.str ab] H0=some (ao r,H0,H0.length)
def aeB (aa:Nat->Option cc):Prop:=∀(H0:Heap) (ab:Int) (r:Bool),AL ab=some r->b9 aa (.fn 369 [] []) [.int .u8 ab] H0=some (.bool r,H0,H0.length)
def My (aa:Nat->Option cc):Prop:=∀(H0:Heap) (ab:Int) (ax:Int) (r:Bool),nc ab ax=some r->b9 aa (.fn 82 [] []) [ao ab,ao ax] H0=some (.bool r,H0,H0.length)
def BK (aa:Nat->Option cc):Prop:=∀(H0:Heap) (HX:cG) (asC:Own H0 HX) (ab:(ae fp)) (ax:(fp->Option Bool)) (xp:V) (asD:∀H low,gl H low xp=some (xp,H,low)) (asE:∀H (z0:fp) (q:Bool),Own H HX->ax z0=some q->b9 aa xp [.agg [ao z0.Table,ao z0.dK,ao z0.bS]] H=some (.bool q,H,H.length)) (r:Bool),Ge ab ax=some r->b9 aa (.fn 91 [] []) [aV 3 iv ab,xp] H0=some (.bool r,H0,H0.length)
def asF (aa:Nat->Option cc):Prop:=∀(H0:Heap) (ab:(ae Range)) (ax:Int) (r:(ae Range)),Ds ab ax=some r->b9 aa (.fn 81 [] []) [aV 2 rJ ab,ao ax] H0=some (aV 2 rJ r,H0,H0.length)
def aeC (aa:Nat->Option cc):Prop:=∀(H0:Heap) (ab:Model) (ax:(ae Int)) (r:Bool),AX ab ax=some r->b9 aa (.fn 31 [] []) [.agg [aV 1 ao ab.aA,aV 6 jW ab.Tables,aV 1 V.str ab.eg,aV 6 rL ab.di,aV 3 rM ab.Operations,aV 5 rN ab.Actions,aV 3 iv ab.aW],aV 1 ao ax] H0=some (.bool r,H0,H0.length)
def SN (aa:Nat->Option cc):Prop:=∀(H0:Heap) (ab:(ae Int)) (ax:(ae Table)) (eW:Bool) (gP:Int) (r:Int × (ae Int) × Bool),ml ab ax eW gP=some r->b9 aa (.fn 13 [] []) [aV 1 ao ab,aV 6 jW ax,.bool eW,ao gP] H0=some (.aF [ao r.1,aV 1 ao r.2.1,.bool r.2.2],H0,H0.length)
def SP (aa:Nat->Option cc):Prop:=∀(H0:Heap) (ab:(ae Int)) (ax:(ae Table)) (eW:Int) (gP:(ae Int)) (r:Int × Int),qf ab ax eW gP=some r->b9 aa (.fn 14 [] []) [aV 1 ao ab,aV 6 jW ax,ao eW,aV 1 ao gP] H0=some (.aF [ao r.1,ao r.2],H0,H0.length)
def aeD (aa:Nat->Option cc):Prop:=∀(H0:Heap) (ab:(ae Int)) (r:Bool),yJ ab=some r->b9 aa (.fn 252 [] []) [aV 1 ao ab] H0=some (.bool r,H0,H0.length)
variable{aa:Nat->Option cc}
theorem aeE (h:km (J:=aK) aa ⟨245,[],[.v 3],[1],fun c a=>yz a.1⟩):aet aa:=fun H0 a0 r q=>h H0 [] () (a0,()) [] _ r rfl (.nil H0) ⟨_,rfl,rfl⟩ q
theorem aeF (h:km (J:=aK) aa ⟨248,[],[.v 3],[1],fun c a=>yA a.1⟩):aeu aa:=fun H0 a0 r q=>h H0 [] () (a0,()) [] _ r rfl (.nil H0) ⟨_,rfl,rfl⟩ q
theorem aeG (h:km (J:=aK) aa ⟨247,[],[.v 3],[1],fun c a=>Dy a.1⟩):aev aa:=fun H0 a0 r q=>h H0 [] () (a0,()) [] _ r rfl (.nil H0) ⟨_,rfl,rfl⟩ q
theorem aeH (h:km (J:=aK) aa ⟨250,[],[.v 3],[1],fun c a=>AK a.1⟩):aew aa:=fun H0 a0 r q=>h H0 [] () (a0,()) [] _ r rfl (.nil H0) ⟨_,rfl,rfl⟩ q
theorem aeI (h:km (J:=aK) aa ⟨251,[],[.v 2],[1],fun c a=>Dv a.1⟩):aex aa:=fun H0 a0 r q=>h H0 [] () (a0,()) [] _ r rfl (.nil H0) ⟨_,rfl,rfl⟩ q
theorem aeJ (h:km (J:=aK) aa ⟨249,[],[.v 2],[0],fun c a=>AG a.1⟩):aey aa:=fun H0 a0 r q=>h H0 [] () (a0,()) [] _ r rfl (.nil H0) ⟨_,rfl,rfl⟩ q
theorem aeK (h:km (J:=aK) aa ⟨246,[],[.v 2,.f [3] 1],[0],fun c a=>AJ a.1 a.2.1⟩):aez aa:=fun H0 F av a0 ak b4 sP ha r q=>h H0 F () (a0,ak,()) [] _ r rfl av ⟨_,rfl,⟨b4,_,rfl,⟨sP,ha⟩,rfl⟩⟩ q
theorem aeL (h:km (J:=aK) aa ⟨244,[],[.v 2],[0],fun c a=>Dx a.1⟩):aeA aa:=fun H0 a0 r q=>h H0 [] () (a0,()) [] _ r rfl (.nil H0) ⟨_,rfl,rfl⟩ q
theorem aeM (h:km (J:=aK) aa ⟨369,[],[.v 3],[1],fun c a=>AL a.1⟩):aeB aa:=fun H0 a0 r q=>h H0 [] () (a0,()) [] _ r rfl (.nil H0) ⟨_,rfl,rfl⟩ q
theorem asG (h:km (J:=aK) aa ⟨82,[],[.v 0,.v 0],[1],fun c a=>nc a.1 a.2.1⟩):My aa:=fun H0 a0 ak r q=>h H0 [] () (a0,ak,()) [] _ r rfl (.nil H0) ⟨_,rfl,⟨_,rfl,rfl⟩⟩ q
theorem asH (h:km (J:=aK) aa ⟨91,[],[.v 5,.f [4] 1],[1],fun c a=>Ge a.1 a.2.1⟩):BK aa:=fun H0 F av a0 ak b4 sP ha r q=>h H0 F () (a0,ak,()) [] _ r rfl av ⟨_,rfl,⟨b4,_,rfl,⟨sP,ha⟩,rfl⟩⟩ q
theorem aeN (h:km (J:=aK) aa ⟨31,[],[.v 28,.v 6],[1],fun c a=>AX a.1 a.2.1⟩):aeC aa:=fun H0 a0 ak r q=>h H0 [] () (a0,ak,()) [] _ r rfl (.nil H0) ⟨_,rfl,⟨_,rfl,rfl⟩⟩ q
theorem aeO (h:km (J:=aK) aa ⟨13,[],[.v 6,.v 10,.v 1,.v 0],[0,6,1],fun c a=>ml a.1 a.2.1 a.2.2.1 a.2.2.2.1⟩):SN aa:=fun H0 a0 ak a2 a3 r q=>h H0 [] () (a0,ak,a2,a3,()) [] _ r rfl (.nil H0) ⟨_,rfl,⟨_,rfl,⟨_,rfl,⟨_,rfl,rfl⟩⟩⟩⟩ q
theorem aeP (h:km (J:=aK) aa ⟨14,[],[.v 6,.v 10,.v 0,.v 6],[0,0],fun c a=>qf a.1 a.2.1 a.2.2.1 a.2.2.2.1⟩):SP aa:=fun H0 a0 ak a2 a3 r q=>h H0 [] () (a0,ak,a2,a3,()) [] _ r rfl (.nil H0) ⟨_,rfl,⟨_,rfl,⟨_,rfl,⟨_,rfl,rfl⟩⟩⟩⟩ q
theorem asI (h:km (J:=aK) aa ⟨252,[],[.v 6],[1],fun c a=>yJ a.1⟩):aeD aa:=fun H0 a0 r q=>h H0 [] () (a0,()) [] _ r rfl (.nil H0) ⟨_,rfl,rfl⟩ q
end
end Go.Abs.bA
