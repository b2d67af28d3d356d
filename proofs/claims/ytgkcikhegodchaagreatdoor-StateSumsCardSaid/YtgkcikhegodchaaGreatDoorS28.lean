/- Texts of this claim, joined and written short by a program. -/
import Derived.Test.YtgkcikhegodchaaGreatDoorS27
import Derived.Test.YtgkcikhegodchaaGreatDoorS22
import Derived.Test.YtgkcikhegodchaaGreatDoorS24
import Derived.Test.YtgkcikhegodchaaGreatDoorS00
set_option linter.unusedVariables false
set_option linter.unusedSimpArgs false
set_option linter.unusedSectionVars false
namespace Go.Abs.hq
open Go Go.Abs
section
variable{J:iI}{b:Nat}{F:cy}{fs:List V}{s s1 s2 cJ:bp J}{σ cL:bN}{H H1:Heap}{G ay:Nat->List (Nat × bU)}{ρ gb:List V}{aa:Nat->Option bV}{cx:od J}{W:List Nat}
theorem abX (c:Bool)(x y:wH):(Gn c x y).val=bif c then x.val else y.val:=by
 unfold Gn;split
 ·split<;>rfl
 all_goals first|rfl|(cases c<;>simp[wH.val])
theorem abY{c:Bool}{x y:wH}{i:Nat}{n:Bool}{d:Bool}(h:Gn c x y=.nm i n d):∃a e,x=.nm i n a/\y=.nm i n e:=by
 unfold Gn at h;split at h
 ·split at h
  ·rename_i e;cases h;exact⟨_,_,rfl,by rw[ey e]⟩
  ·rename_i e;cases h;exact⟨_,_,rfl,by rw[ey e]⟩
  ·cases h
 all_goals cases h
def La (fs:List V)(l:Loc)(s1:bp J):aa7 J->Prop
 | .bad=>True
 | .v v=>∃v1,at_ s1 l=some v1/\∀(B:List Bool) (ρ:List V) (w:V),bS J B ρ fs v1 w->bS J B ρ fs v w
 | .b x=>∃v1,at_ s1 l=some v1/\xZ s1 v1=some x.val/\∀i n d,x=.nm i n d->v1=.bo i n
theorem Q7{l:Loc}:∀{p:pD (bp J)},p.val=some s1->La fs l s1 (mx l p)
 | .bad,h=>by cases h
 | .leaf s,h=>by
   cases h;unfold mx;split
   ·trivial
   ·rename_i v af
    split
    ·exact⟨_,af,rfl,fun _ _ _ e=>by cases e⟩
    ·split
     ·rename_i hb;exact⟨_,af,hb,fun _ _ _ e=>by cases e;rfl⟩
     ·trivial
    ·exact⟨_,af,fun _ _ _ q=>q⟩
 | .br i c t e,h=>by
   have ht:c=true->La fs l s1 (mx l t):=fun hc=>Q7 (by subst hc;exact h);have he:c=false->La fs l s1 (mx l e):=fun hc=>Q7 (by subst hc;exact h);unfold mx;split
   ·rename_i x y h1 h2
    rw[h1]at ht;rw[h2]at he;cases c with
    |true=>
     obtain⟨v1,al,a2,a3⟩:=ht rfl;refine⟨v1,al,by rw[a2,abX];rfl,fun j n d q=> ?_⟩;obtain⟨_,_,q1,q2⟩:=abY q;exact a3 _ _ _ q1
    |false=>
     obtain⟨v1,al,a2,a3⟩:=he rfl;refine⟨v1,al,by rw[a2,abX];rfl,fun j n d q=> ?_⟩;obtain⟨_,_,q1,q2⟩:=abY q;exact a3 _ _ _ q2
   ·rename_i k a bz a8 h1 h2
    rw[h1]at ht;rw[h2]at he;split
    ·rename_i hk
     have hk:=of_decide_eq_true hk;subst hk;cases c
     ·exact he rfl
     ·exact ht rfl
    ·trivial
   ·rename_i a a8 h1 h2
    rw[h1]at ht;rw[h2]at he;cases c
    ·exact he rfl
    ·exact ht rfl
   ·rename_i v w _ _ h1 h2
    rw[h1]at ht;rw[h2]at he;split
    ·rename_i hs
     cases c with
     |false=>exact he rfl
     |true=>
      obtain⟨v1,al,a2⟩:=ht rfl;exact⟨v1,al,fun B ρ u q=>QV hs (a2 B ρ u q)⟩
    ·trivial
   ·trivial
theorem Q8:∀{p:pD (bp J)},CW W p=true->∃s1,p.val=some s1/\(∀t∈s1.dE,t∈W)/\s1.cA=[]
 | .bad,h=>by cases h
 | .leaf s,h=>by
   simp only[CW]at h;split at h
   ·rename_i ab aj;exact⟨s,rfl,QX ab,aj⟩
   ·cases h
 | .br i c t e,h=>by
   simp only[CW]at h;split at h
   ·rename_i h1
    cases c with
    |true=>obtain⟨s1,al,a2⟩:=Q8 h1;exact⟨s1,al,a2⟩
    |false=>obtain⟨s1,al,a2⟩:=Q8 h;exact⟨s1,al,a2⟩
   ·cases h
theorem abZ{A:Type}[aG A]{S:A->Prop}(az:l6 S)(bH:bW J b F fs s1 cL H1 ay gb)(aN:ρ <+: gb){B:List Bool}(oU:B <+: s1.aH){p:pD (bp J)}(hp:p.val=some s1){k:bp J->A}:
  ∀{sl:List Nat} {cJ:bp J},bW J b F fs cJ cL H1 ay ρ->B <+: cJ.aH->S (uJ B.length ρ.length p sl cJ k)->∃ko,S (k ko)/\bW J b F fs ko cL H1 ay ρ/\im sl [] cJ ko/\ko.dE=cJ.dE/\ko.cA=cJ.cA
 |[],cJ,R,_,h=>⟨cJ,h,R,.rfl,rfl,rfl⟩
 |t::r,cJ,R,cQ,h=>by
  have hm:=Q7 (fs:=fs) (l:=.s t) hp;simp only[uJ]at h
  have go:∀{v:aL J.ax} {l:List Bool},bS J (cJ.aH++l) ρ fs v (cL t)->S (uJ B.length ρ.length p r {cJ with vs:=(t,v)::cJ.vs,aH:=cJ.aH++l} k)->
    ∃ko,S (k ko)/\bW J b F fs ko cL H1 ay ρ/\im (t::r) [] cJ ko/\ko.dE=cJ.dE/\ko.cA=cJ.cA:=fun {v l} af h=>by
   have oE:=C5 (R.ek (KU l)) (l:=.s t) (w:=cL t) rfl af;obtain⟨ko,al,a2,a3,a4,a5⟩:=abZ az bH aN oU hp oE (cQ.trans (hB _ _)) h;exact⟨ko,al,a2,(K9 (s:=cJ) (l:=.s t) (v:=v) (hB cJ.aH l) (fun q e=>by cases e;exact pO ..) (fun _ _ e=>by cases e)).trans (a3.wide (fun q bg=>kQ _ bg) fun _ q=>q),a4,a5⟩
  have Q9:∀{v:aL J.ax},bS J cJ.aH ρ fs v (cL t)->S (uJ B.length ρ.length p r {cJ with vs:=(t,v)::cJ.vs} k)->∃ko,S (k ko)/\bW J b F fs ko cL H1 ay ρ/\im (t::r) [] cJ ko/\ko.dE=cJ.dE/\ko.cA=cJ.cA:=fun {v} af h=>
   go (v:=v) (l:=[]) (by rw[pP];exact af) (by rw[pP];exact h)
  have nm:∀{x:wH},La fs (.s t) s1 (.b x)->bS J (cJ.aH++[x.val]) ρ fs (.bo cJ.aH.length false) (cL t):=fun {x} ⟨v1,al,a2,a3⟩=>by
   obtain⟨w,aD,bJ⟩:=AJ bH al;cases aD;rw[CY a2 bJ];have:bS J (cJ.aH++[x.val]) ρ fs (.bo cJ.aH.length false) (.bool (x.val != false)):=.bo (by simp);simpa using this
  split at h
  ·rename_i v af
   rw[af]at hm;split at h
   ·rename_i hw
    obtain⟨v1,al,a2⟩:=hm;obtain⟨w,aD,bJ⟩:=AJ bH al;cases aD;exact Q9 ((K1 oU aN hw (a2 _ _ _ bJ)).mono cQ dS) h
   ·exact absurd h az.bad
  ·rename_i x hx
   rw[hx]at hm;split at h
   ·rename_i d
    obtain⟨v1,al,a2,a3⟩:=hm;obtain⟨w,aD,bJ⟩:=AJ bH al;cases aD;exact Q9 (by rw[CY a2 bJ];exact .cX) h
   ·rename_i i neg d
    split at h
    ·rename_i hi
     obtain⟨v1,al,a2,a3⟩:=hm;obtain⟨w,aD,bJ⟩:=AJ bH al;cases aD;have:=a3 _ _ _ rfl;subst this;exact Q9 ((K1 oU aN (by simpa only[wf]using hi) bJ).mono cQ dS) h
    ·exact go (nm hm) h
   ·exact go (nm hm) h
  ·exact absurd h az.bad
theorem ab0{A:Type}[aG A]{S:A->Prop}(aT:gj J)(az:l6 S)(hT:re aa cx)(ae:∀j f,nth cx.fv j=some f->∃w,fs[j]? =some w/\og aa F f.dN f.rt f.f w){ops:List bI}{er:Option (List Nat)}{k:bp J->A}{Q:X->bN->Heap->Prop}
  (h:S (so cx ops [] s [] fun s wr=>KM er ops wr (k s))) (R:bW J b F fs s σ H G ρ)
  (cl:∀ao aS H' G' cH,S (k ao)->bW J b F fs ao aS H' G' cH->ρ <+: cH->Fr s ao->Q .normal aS H'):e8 aa b (.region ops er) σ H Q:=by
 cases er with
 |none=>exact uv (AD aT az hT ae h .nil R (fun t v q=>by cases q) fun ao aS H' G' cH fh AE al a0 a2 a3 a4=>cl _ _ _ _ _ al a2 a3 a4)
 |some er=>
  refine ZV (AD aT az hT ae h .nil R (fun t v q=>by cases q) fun ao aS H' G' cH fh AE al a0 a2 a3 a4=> ?_);simp only[KM]at al;split at al
  ·rename_i e;exact⟨apN a0 e,cl _ _ _ _ _ al a2 a3 a4⟩
  ·exact absurd al az.bad
theorem im.Ra{ab1 Rb:List Nat}{ab2 Rc:List (Nat × Nat)}{uK ko s2:bp J}(h:im ab1 ab2 uK ko)(_:True)(bQ:Fr ko s2)(lt:∀e∈uK.mem,e.1<uK.aB)(hW:∀t∈ab1,t∈Rb)(kn:∀p∈ab2,p∈Rc)(hd:∀t∈s2.dE,t∈Rb)(hm:∀o j,(o,j)∈s2.cA->o<uK.aB->(o,j)∈Rc):im Rb Rc uK s2 where
 vs:=fun t ht=>(bQ.vs t fun q=>ht (hd t q)).trans (h.vs t fun q=>ht (hW t q))
 aH:=h.aH.trans bQ.aH
 aB:=cM h.aB bQ.aB
 mem:=fun o w cs hc=>by
  obtain⟨pI,h1,h2,ar⟩:=h.mem o w cs hc;obtain⟨Gz,b6,dI,kf⟩:=bQ.mem o w pI h1;exact⟨Gz,b6,dI.trans h2,fun j hj=>(kf j fun q=>hj (hm o j q (lt _ (jr hc)))).trans (ar j fun q=>hj (kn _ q))⟩
 row:=fun o aP h0 hc=>(h.row o aP h0 hc).elim (fun h1=>(bQ.row o aP h0 h1).imp id fun q=>hm o 0 q (lt _ (jr hc))) fun q=>.inr (kn _ q)
theorem bW.ab3 (R:bW J b F fs s σ H G ρ){dE:List Nat}{cA:List (Nat × Nat)}:bW J b F fs {s with dE:=dE,cA:=cA} σ H G ρ:=
 ⟨R.aB,R.vs,R.own,R.db,R.lt,R.mem,R.dK⟩
theorem GK{A:Type}[aG A]{S:A->Prop}(aT:gj J)(az:l6 S)(hT:re aa cx)(ae:∀j f,nth cx.fv j=some f->∃w,fs[j]? =some w/\og aa F f.dN f.rt f.f w){k:kJ J->bp J->A}:
  ∀{ops:List bI} {aq:kJ J} {aW:bN} {s:bp J} {σ:bN},S (wG cx ops aq s k)->bW J b F fs s σ H G ρ->(∀t v,bc aq t=some v->bS J s.aH ρ fs v (aW t))->
  ∃eF s1 iq cL,ij (bY aa) (dn s G F) ops aW σ iq cL/\S (k eF s1)/\bW J b F fs s1 cL H G ρ/\(∀t v,bc eF t=some v->bS J s1.aH ρ fs v (iq t))/\Fr s s1/\s1.mem=s.mem/\s1.aB=s.aB
 |[],aq,aW,s,σ,h,R,bO=>⟨aq,s,aW,σ,.nil,h,R,bO,.rfl,rfl,rfl⟩
 |⟨d,op,g⟩::r,aq,aW,s,σ,h,R,bO=>by
  have fin:∀{s1:bp J} {v:aL J.ax} {w:V},jI s s1->bS J s1.aH ρ fs v w->S (match put aq s1 v d with|(aq,s)=>wG cx r aq s k)->
    ∃eF s2 iq cL,ij (bY aa) (dn s G F) r (fw aW d w) (fx σ d w) iq cL/\S (k eF s2)/\bW J b F fs s2 cL H G ρ/\(∀t v,bc eF t=some v->bS J s2.aH ρ fs v (iq t))/\Fr s s2/\s2.mem=s.mem/\s2.aB=s.aB:=by
   intro s1 v w hk af h1;have pJ:∀t v,bc aq t=some v->bS J s1.aH ρ fs v (aW t):=fun t v q=>(bO t v q).mono hk.aH dS;have a6:dn s G F=dn s1 G F:=by unfold dn;rw[hk.mem]
   rw[a6,<-hk.mem,<-hk.aB]
   match d with
   |none=>
    obtain⟨eF,s2,a,c,ab,aj,bC,cu,dv,gY⟩:=GK aT az hT ae h1 (R.ek hk) pJ;exact⟨eF,s2,a,c,ab,aj,bC,cu,hk.bQ.trans dv,gY⟩
   |some (t,false)=>
    obtain⟨eF,s2,a,c,ab,aj,bC,cu,dv,gY⟩:=GK aT az hT ae h1 (R.ek hk) (QT pJ af);exact⟨eF,s2,a,c,ab,aj,bC,cu,hk.bQ.trans dv,gY⟩
   |some (t,true)=>
    obtain⟨eF,s2,a,c,ab,aj,bC,cu,dv,gY⟩:=GK aT az hT ae h1 ((R.ek hk).put af) pJ;exact⟨eF,s2,a,c,ab,aj,bC,cu,hk.bQ.trans (QN.trans dv),gY⟩
  have go:∀{s1:bp J},jI s s1->ga aW σ g=some true->S (Qt cx aq s1 d (fun v s=>match put aq s v d with|(aq,s)=>wG cx r aq s k) op)->
    ∃eF s2 iq cL,ij (bY aa) (dn s G F) (⟨d,op,g⟩::r) aW σ iq cL/\S (k eF s2)/\bW J b F fs s2 cL H G ρ/\(∀t v,bc eF t=some v->bS J s2.aH ρ fs v (iq t))/\Fr s s2/\s2.mem=s.mem/\s2.aB=s.aB:=by
   intro s1 hk hw h1;have bH:=R.ek hk;have pJ:∀t v,bc aq t=some v->bS J s1.aH ρ fs v (aW t):=fun t v q=>(bO t v q).mono hk.aH dS;have a6:dn s G F=dn s1 G F:=by unfold dn;rw[hk.mem]
   unfold Qt at h1;split at h1
   ·split at h1
    ·rename_i fv abH AB wO
     obtain⟨v,ao,w,h1,h2,ar,aR⟩:=abq aT az bH hT ae h1 (cV bH pJ AB) (wJ bH pJ wO);obtain⟨eF,s2,a,c,ab,aj⟩:=fin (hk.trans h2) ar h1;exact⟨eF,s2,a,c,.step hw (fun H' aw=>by rw[a6]at aw;exact Cq (aR H' aw).1 (aR H' aw).2 rfl rfl) ab,aj⟩
    ·exact absurd h1 az.bad
   ·obtain⟨v,ao,w,h1,h2,ar,aR⟩:=QF (call:=bY aa) aT az bH pJ h1
    obtain⟨eF,s2,a,c,ab,aj⟩:=fin (hk.trans h2) ar h1;exact⟨eF,s2,a,c,.step hw (fun H' aw=>by rw[a6]at aw;exact aR H' aw) ab,aj⟩
  have skip:∀{s1:bp J},jI s s1->ga aW σ g=some false->S (match put aq s1 (.aU []) d with|(aq,s)=>wG cx r aq s k)->
    ∃eF s2 iq cL,ij (bY aa) (dn s G F) (⟨d,op,g⟩::r) aW σ iq cL/\S (k eF s2)/\bW J b F fs s2 cL H G ρ/\(∀t v,bc eF t=some v->bS J s2.aH ρ fs v (iq t))/\Fr s s2/\s2.mem=s.mem/\s2.aB=s.aB:=by
   intro s1 hk hw h1;obtain⟨eF,s2,a,c,ab,aj⟩:=fin hk (.aU .nil) h1;exact⟨eF,s2,a,c,.skip hw ab,aj⟩
  simp only[wG]at h
  match g with
  |none=>exact go .rfl rfl h
  |some (x,w)=>
   simp only at h;split at h
   ·exact absurd h az.bad
   ·rename_i v af
    have mA:=cV R bO af;split at h
    ·generalize Az:bn aW σ x=wK at mA
     cases mA with
     |aU fY=>cases fY;exact skip .rfl (ZW Az) h
    ·cases w with
     |true=>
      obtain⟨β,s1,ab,aj,bC,cu⟩:=CX az h R.dK mA;rcases cu with⟨rfl,h⟩|⟨rfl,h⟩
      ·exact go aj (jl ab rfl) h
      ·exact skip aj (Js ab rfl) h
     |false=>
      obtain⟨β,s1,ab,aj,bC,cu⟩:=CX az h R.dK mA;rcases cu with⟨rfl,h⟩|⟨rfl,h⟩
      ·exact skip aj (Jt ab rfl) h
      ·exact go aj (jl ab rfl) h
theorem ap9{er:List Nat}{ops:List bI}{wr mI:List Bool}(h:gS wr mI)(ho:xi er ops mI=true):xi er ops wr=true:=by
 unfold xi at ho⊢;simp only[cn]at ho⊢;obtain⟨⟨h1,h2⟩,ar⟩:=ho;refine⟨⟨(h.take _).no h1,?_⟩,ar⟩;rw[eU]at h2⊢;rintro⟨w,i⟩ hw;cases w with
 |false=>rfl
 |true=>
  have hi:=h.get (js.1 hw);exact h2 (true,i) (js.2 hi)
theorem ab4{n:Nat}:∀{m:List (Nat × b8 J)},KN n m=true->∀e∈m,n<=e.1
 |[],_,_,h=>by cases h
 |a::r,h,e,he=>by
  simp only[KN]at h;split at h
  ·rename_i q
   rcases dp.1 he with rfl|he
   ·exact ma q
   ·exact ab4 h e he
  ·cases h
theorem pH.low{b eA:Nat}(hb:b<=eA){B:List Bool}{o:Nat}{m:List (Nat × bU)}:∀{aP:b8 J},pH J eA B ρ fs o m aP->pH J b B ρ fs o m aP
 | .cells w cs,⟨a,ws,h1,h2,ar,aR⟩=>⟨a,ws,h1,h2,ar,fun q=>cM hb (aR q)⟩
 | .row t s,⟨v,h1,h2⟩=>⟨v,h1,by
   unfold ft at h2⊢;generalize s.map (J.enc t)=x at h2;cases h2 with
   |nil=>exact .nil
   |emp=>exact .emp
   |row l ds h q=>exact .row l ds h (cM hb q)⟩
 | .fz t s,⟨v,m0,h1,h2,ar⟩=>⟨v,m0,h1,by
   unfold ft at h2⊢;generalize s.map (J.enc t)=x at h2;cases h2 with
   |nil=>exact .nil
   |emp=>exact .emp
   |row l ds h q=>exact .row l ds h (cM hb q),ar⟩
 | .mp k w x,⟨a,h1,h2,ar⟩=>⟨a,h1,h2,cM hb ar⟩
theorem aqa{A:Type}[aG A]{S:A->Prop}(aT:gj J)(az:l6 S)(hT:re aa cx)(ae:∀j f,nth cx.fv j=some f->∃w,fs[j]? =some w/\og aa F f.dN f.rt f.f w){ops:List bI}{er:List Nat}{k:bp J->A}{Q:X->bN->Heap->Prop}
  (h:S (wG cx (ops.take (kV ops)) [] s fun aq s=>so cx (ops.drop (kV ops)) aq {s with mem:=[]} (List.replicate (kV ops) false) fun ao wr=>Qv er ops wr s.aB ao.mem (k {ao with mem:=ao.mem++s.mem}))) (R:bW J b F fs s σ H G ρ)
  (cl:∀ao aS H' G' cH,S (k ao)->bW J b F fs ao aS H' G' cH->ρ <+: cH->Fr s ao->Q .normal aS H'):e8 aa b (.region ops (some er)) σ H Q:=by
 obtain⟨eF,s1,iq,cL,p1,p2,bH,kj,rf,x9,C7⟩:=GK aT az hT ae h R (fun t v q=>by cases q);refine aai (kV ops) R.own rfl p1 fun hb=> ?_
 have MX:∀j f,nth cx.fv j=some f->∃w,fs[j]? =some w/\og aa (dn s1 G F) f.dN f.rt f.f w:=fun j f q=>by
  obtain⟨w,ab,aj,bC⟩:=ae j f q;exact⟨w,ab,aj,fun H z q aw aO=>bC H z q (aw.sub (DA _ _)) aO⟩
 have nt:bW J H.length (dn s1 G F) fs {s1 with mem:=[]} cL H (fun _=>[]) ρ:=⟨bH.aB,bH.vs,bH.own,DK,fun _ q=>(by cases q),fun _ _ q=>(by cases q),bH.dK⟩;refine AD aT az hT MX p2 (gS.refl _) nt kj fun s2 jH H2 bl tE wr mI al a2 ep a4 a5=> ?_;unfold Qv at al;split at al
 ·rename_i ab aj
  have hge:=ab4 aj
  have no:∀{q},q<s1.aB->bc s2.mem q=none:=fun {q} bg=>QM fun hm=>by
   obtain⟨e,he,rfl⟩:=dX.1 hm;exact absurd (hge e he) (Nat.not_le.2 bg)
  refine⟨ap9 a2 ab,cl _ jH H2 (fun q=>if q<s1.aB then G q else bl q) tE al ⟨ep.aB,ep.vs,?_,?_,fun e he=> ?_,fun o aP ho=> ?_,ep.dK⟩ a4 (rf.trans ?_)⟩
  ·have:=ep.own
   unfold dn at this⊢;simp only at this⊢;rw[jP,kr];have bC:s2.mem.map (fun e=>if e.1<s1.aB then G e.1 else bl e.1)=s2.mem.map fun e=>bl e.1:=pN fun e he=>if_neg (Nat.not_lt.2 (hge e he));have cu:s1.mem.map (fun e=>if e.1<s1.aB then G e.1 else bl e.1)=s1.mem.map fun e=>G e.1:=pN fun e he=>if_pos (bH.lt e he);rw[bC,cu];exact this
  ·simp only[jP]
   refine tU.2 ⟨ep.db,bH.db,fun x hx y hy e=> ?_⟩;obtain⟨p,hp,rfl⟩:=dX.1 hx;obtain⟨q,bg,rfl⟩:=dX.1 hy;have:=hge p hp;have:=bH.lt q bg;omega
  ·rcases jc.1 he with he|he
   ·exact ep.lt e he
   ·exact rB (bH.lt e he) a5.aB
  ·have ho:bc (s2.mem++s1.mem) o=some aP:=ho
   rw[CT]at ho;cases hm:bc s2.mem o with
   |some c=>
    rw[hm]at ho;cases ho;simp only[if_neg (Nat.not_lt.2 (hge _ (jr hm)))];exact(ep.mem o aP hm).low hb
   |none=>
    rw[hm]at ho;simp only[if_pos (bH.lt _ (jr ho))];exact(bH.mem o aP ho).mono a5.aH a4
  ·exact⟨a5.vs,a5.dE,a5.cA,a5.aH,a5.aB,fun o w cs hm=>⟨cs,by
    show bc (s2.mem++s1.mem) o=_;rw[CT,no (bH.lt _ (jr hm))];exact hm,rfl,fun _ _=>rfl⟩,fun o aP hc hm=>.inl (by
    show bc (s2.mem++s1.mem) o=_;rw[CT,no (bH.lt _ (jr hm))];exact hm)⟩
 ·exact absurd al az.bad
theorem gS.pre:∀(l:List Bool) {r mS:List Bool},gS r mS->gS (l++r) (l++mS)
 |[],_,_,h=>h
 | _::l,_,_,h=>.cons id (gS.pre l h)
theorem ab5{o n:Nat}{c d:b8 J}:∀{p q:List (Nat × b8 J)},bc p o=some d->j8 o n c (p++q)=j8 o n c p++q
 |[],_,h=>by cases h
 |(a,e)::r,q,h=>by
  simp only[bc]at h;simp only[lN,j8];split at h
  ·rename_i ab
   rw[ab];rfl
  ·rename_i ab
   rw[ab];simp only[ab5 h];rfl
section
variable{p:List (Nat × b8 J)}
theorem bW.Re (R:bW J b F fs {s with mem:=p++s.mem} σ H G ρ){o:Nat}{c:b8 J}(h:bc s.mem o=some c):bc (p++s.mem) o=some c:=by
 have hn:((p++s.mem).map Prod.fst).Nodup:=R.db;rw[jP,tU]at hn;rw[CT,QM fun q=>hn.2.2 _ q _ (rA (f:=Prod.fst) (jr h)) rfl];exact h
theorem bW.aqb (R:bW J b F fs {s with mem:=p++s.mem} σ H G ρ):bW J b F fs s σ H G ρ where
 aB:=R.aB
 vs:=R.vs
 own:=R.own.sub (by unfold dn;simp only[jP,kr];exact DA _ _)
 db:=by
  have hn:((p++s.mem).map Prod.fst).Nodup:=R.db;rw[jP,tU]at hn;exact hn.2.1
 lt:=fun e he=>R.lt e (pM _ he)
 mem:=fun o c h=>R.mem o c (R.Re h)
 dK:=R.dK
theorem bW.aqc (R:bW J b F fs {s with mem:=p++s.mem} σ H G ρ)(bH:bW J b F fs s1 cL H G ρ)(hm:s1.mem=s.mem)(hn:s1.aB=s.aB)(hb:s.aH <+: s1.aH):bW J b F fs {s1 with mem:=p++s1.mem} cL H G ρ where
 aB:=bH.aB
 vs:=bH.vs
 own:=by have:=R.own;unfold dn at this⊢; simp only at this⊢; rw[hm];exact this
 db:=by have:=R.db;simp only at this⊢; rw[hm];exact this
 lt:=fun e he=>by
  have he:e∈p++s1.mem:=he;rw[hm]at he;show e.1<s1.aB;rw[hn];exact R.lt e he
 mem:=fun o c h=>by
  have h:bc (p++s1.mem) o=some c:=h;rw[hm]at h;exact(R.mem o c h).mono hb dS
 dK:=bH.dK
end
theorem GL{A:Type}[aG A]{S:A->Prop}(aT:gj J)(az:l6 S)(hT:re aa cx)(ae:∀j f,nth cx.fv j=some f->∃w,fs[j]? =some w/\og aa F f.dN f.rt f.f w){k:kJ J->bp J->List (Nat × b8 J)->List Bool->A}:
  ∀{ops:List bI} {aq:kJ J} {aW:bN} {s:bp J} {σ:bN} {H:Heap} {G:Nat->List (Nat × bU)} {ρ:List V} {p:List (Nat × b8 J)} {w:List Bool},S (wI cx ops aq s p w k)->bW J b F fs {s with mem:=p++s.mem} σ H G ρ->(∀t v,bc aq t=some v->bS J s.aH ρ fs v (aW t))->b<=H.length->
  ∃eF s1 p1 iq cL H1 ay gb aD,j6 aa b (dn s G F) ops aW σ H iq cL H1 aD/\S (k eF s1 p1 (w++aD))/\bW J b F fs {s1 with mem:=p1++s1.mem} cL H1 ay gb/\(∀t v,bc eF t=some v->bS J s1.aH gb fs v (iq t))/\ρ <+: gb/\Fr s s1/\s1.mem=s.mem
 |[],aq,aW,s,σ,H,G,ρ,p,w,h,R,bO,hb=>⟨aq,s,p,aW,σ,H,G,ρ,[],.nil,by rw[pP];exact h,R,bO,dS,.rfl,rfl⟩
 |o::r,aq,aW,s,σ,H,G,ρ,p,w,h,R,bO,hb=>by
  have nt:=R.aqb
  have fin:∀{d:Option (Nat × Bool)} {op:cN} {p1:List (Nat × b8 J)} {v':V} {H1:Heap} {bG:Nat} {m':List (Nat × bU)},b3 (bY aa) (bn aW σ) H H.length op=some (v',H1,bG)->b<=bG->b<=H1.length->
    bW J b F fs {s with mem:=p1++s.mem,aB:=s.aB+1} σ H1 (fun q=>if q=s.aB then m' else G q) (ρ++[v'])->
    S (match put aq {s with aB:=s.aB+1} (.row s.aB) d with|(aq,s1)=>wI cx r aq s1 p1 (w++[true]) k)->
    ∃eF s1 p1 iq cL H1 ay gb aD,j6 aa b (dn s G F) (⟨d,op,none⟩::r) aW σ H iq cL H1 aD/\S (k eF s1 p1 (w++aD))/\bW J b F fs {s1 with mem:=p1++s1.mem} cL H1 ay gb/\(∀t v,bc eF t=some v->bS J s1.aH gb fs v (iq t))/\ρ <+: gb/\Fr s s1/\s1.mem=s.mem:=by
   intro d op p1 v' H1 bG m' dj eG e3 bH h1
   have C8:dn s (fun q=>if q=s.aB then m' else G q) F=dn s G F:=by
    unfold dn;congr 1;exact pN fun e he=>if_neg (qA (nt.lt e he))
   have Gc:Own H1 (dn s G F):=by
    rw[<-C8];exact bH.own.sub (by unfold dn;simp only[jP,kr];exact DA _ _)
   have pJ:∀t v,bc aq t=some v->bS J s.aH (ρ++[v']) fs v (aW t):=fun t v q=>(bO t v q).mono dS (hB _ _);have mA:bS J s.aH (ρ++[v']) fs (.row s.aB) v':=.row (nt.new v');have Rf:Fr s {s with aB:=s.aB+1}:=⟨fun _ _=>rfl,fun _ h=>h,fun _ h=>h,dS,DN _,fun o w cs hm=>⟨cs,hm,rfl,fun _ _=>rfl⟩,fun _ _ _ h=>.inl h⟩
   match d,h1 with
   |none,h1=>
    obtain⟨eF,s1,p2,iq,cL,H2,ay,gb,aD,ab,aj,bC,cu,dv,gY,oa⟩:=GL (s:={s with aB:=s.aB+1}) aT az hT ae h1 bH pJ e3;have ab:j6 aa b (dn s (fun q=>if q=s.aB then m' else G q) F) r aW σ H1 iq cL H2 aD:=ab;rw[C8]at ab;exact⟨eF,s1,p2,iq,cL,H2,ay,gb,true::aD,.make rfl dj eG e3 Gc ab,by simpa using aj,bC,cu,(hB _ _).trans dv,Rf.trans gY,oa⟩
   |some (t,false),h1=>
    obtain⟨eF,s1,p2,iq,cL,H2,ay,gb,aD,ab,aj,bC,cu,dv,gY,oa⟩:=GL (s:={s with aB:=s.aB+1}) aT az hT ae h1 bH (QT pJ mA) e3;have ab:j6 aa b (dn s (fun q=>if q=s.aB then m' else G q) F) r (up aW t v') σ H1 iq cL H2 aD:=ab;rw[C8]at ab;exact⟨eF,s1,p2,iq,cL,H2,ay,gb,true::aD,.make rfl dj eG e3 Gc ab,by simpa using aj,bC,cu,(hB _ _).trans dv,Rf.trans gY,oa⟩
   |some (t,true),h1=>
    obtain⟨eF,s1,p2,iq,cL,H2,ay,gb,aD,ab,aj,bC,cu,dv,gY,oa⟩:=GL aT az hT ae h1 (bH.put mA) pJ e3;have ab:j6 aa b (dn s (fun q=>if q=s.aB then m' else G q) F) r aW (up σ t v') H1 iq cL H2 aD:=ab;rw[C8]at ab;exact⟨eF,s1,p2,iq,cL,H2,ay,gb,true::aD,.make rfl dj eG e3 Gc ab,by simpa using aj,bC,cu,(hB _ _).trans dv,Rf.trans (QN.trans gY),oa⟩
  simp only[wI]at h;split at h
  ·rename_i d f aQ
   split at h
   ·rename_i i v BL wO
    split at h
    ·rename_i q bg
     split at h
     ·rename_i x hx Rg
      obtain⟨z,aO,h⟩:=az.ct h;obtain⟨cI,apV,cR,hn⟩:=(hT.2 _ (jr bg)).clone Rg;have ha:=wJ nt bO wO
      obtain⟨dr,rfl⟩:∃dr,aQ=[dr]:=by
       have:=ha.length
       match aQ,this with
       |[dr],_=>exact⟨dr,rfl⟩
      cases ha with
      |cons af _=>
       have h9:=cV nt bO BL;generalize C4:bn aW σ f=wf at h9;cases h9 with
       |fn hl=>
        cases hl;obtain⟨v',H1,m',dj,eG,e3,hO⟩:=aal (b:=b) cR hn aO R.own C4 (C3 hx af) (aT.bx q.1) (aT.ok q.1) hb;exact fin (p1:=(s.aB,.row q.1 z)::p) dj hb (cM hb hO) (R.add e3 ⟨v',R.new v',eG⟩) h
     ·exact absurd h az.bad
    ·exact absurd h az.bad
   ·exact absurd h az.bad
  ·rename_i d es bytes dr fH
   split at h
   ·rename_i x o lo hi oc rh
    split at h
    ·rename_i t y hm aj
     split at h
     ·rename_i ab
      obtain⟨q,bg,h0⟩:=az.ct h;obtain⟨z,aO,h1⟩:=az.ct h0;have eM:=ey ab;subst eM;have rP:=cV nt bO rh;generalize GC:bn aW σ fH=wb at rP;cases rP with
      |ll ho QS=>
       obtain⟨v1,bB,b4⟩:=nt.mem o _ hm;obtain⟨b6,gx,-⟩:=nt.at hm;rw[bB]at ho;cases ho;have x6:Go.Abs.elems H (J.es t) (bn aW σ fH)=some (q.l.map (J.enc t)):=by rw[GC];exact abl b6 gx nt.own b4 bg QS
       obtain⟨v',H1,bG,m',dj,eG,e3,hO,hX⟩:=apc (aa:=aa) (b:=b) hb 0 aO (R.own.ins 0) rfl e9.emp (x4 aj (cV nt bO oc)) x6 (aT.bx t) (aT.ok t);exact fin (p1:=(s.aB,.row t z)::p) e3 dj eG (R.add hX ⟨v',R.new v',hO⟩) h1
     ·exact absurd h az.bad
    ·exact absurd h az.bad
   ·rename_i q y _ oc rh
    split at h
    ·rename_i t x hm
     split at h
     ·rename_i oy ab aj
      obtain⟨z,aO,h⟩:=az.ct h;have jB:bc (p++s.mem) q=some (.row t x):=by rw[CT,hm]
      obtain⟨dt,gw,zm⟩:∃v,ρ[q]? =some v/\ft b (J.es t) (J.enc t) v x (G q):=R.mem q _ jB
      have fa:bn aW σ dr=dt:=by
       have:=cV nt bO oc;cases this with
       |row h1=>rw[gw]at h1;exact(u3 h1).symm
      have eM:=ey ab;subst eM;obtain⟨aqd,b6,dI⟩:=R.rep jB;obtain⟨v',H1,bG,m',dj,eG,e3,hO,hX⟩:=aaZ (aa:=aa) (b:=b) hb aqd aO R.own b6 zm fa (C3 aj (cV nt bO rh)) (aT.bx t) (aT.ok t);have ep:=dI (c:=.row t z) (cA:=s.cA) ⟨v',R.new v',hO⟩ hX;have bC:j8 q s.aB (.row t z) (p++s.mem)=j8 q s.aB (.row t z) p++s.mem:=ab5 hm;have nW:bW J b F fs {s with mem:=j8 q s.aB (.row t z) p++s.mem,aB:=s.aB+1} σ H1 (fun q=>if q=s.aB then m' else G q) (ρ++[v']):=by rw[<-bC];exact ep
      exact fin e3 dj eG nW h
     ·exact absurd h az.bad
    ·exact absurd h az.bad
   ·rename_i x t y aAA oc rh
    split at h
    ·rename_i ab aj
     obtain⟨z,aO,h⟩:=az.ct h;have eM:=ey ab;subst eM
     have hy:bn aW σ fH=bb (J.es t) (J.enc t) y:=by
      have:=cV nt bO rh;generalize bn aW σ fH=QC at this;cases this;rfl
     obtain⟨v',H1,bG,m',dj,eG,e3,hO,hX⟩:=aaZ (aa:=aa) (b:=b) hb 0 aO (R.own.ins 0) rfl e9.emp (x4 aj (cV nt bO oc)) hy (aT.bx t) (aT.ok t);exact fin (p1:=(s.aB,.row t z)::p) e3 dj eG (R.add hX ⟨v',R.new v',hO⟩) h
    ·exact absurd h az.bad
   ·exact absurd h az.bad
  ·rename_i o' r7 sY
   obtain⟨eF,s1,iq,cL,q1,q2,nW,c2,fi,hU,nU⟩:=GK aT az hT ae h nt bO;have C8:dn s1 G F=dn s G F:=by unfold dn;rw[hU]
   obtain⟨Ku,s2,p2,aqe,jH,H2,bl,tE,bJ,ab,aj,bC,cu,dv,gY,oa⟩:=GL aT az hT ae q2 (R.aqc nW hU nU fi.aH) c2 hb;rw[C8]at ab;refine⟨Ku,s2,p2,aqe,jH,H2,bl,tE,[false]++bJ,j6.append (ij.ao3 q1) ab,by simpa using aj,bC,cu,dv,fi.trans gY,oa.trans hU⟩
theorem aqf{A:Type}[aG A]{S:A->Prop}(aT:gj J)(az:l6 S)(hT:re aa cx)(ae:∀j f,nth cx.fv j=some f->∃w,fs[j]? =some w/\og aa F f.dN f.rt f.f w){ops:List bI}{er:List Nat}{n:Nat}{k:bp J->A}{Q:X->bN->Heap->Prop}
  (h:S (aa8 cx er ops n s k)) (R:bW J b F fs s σ H G ρ) (cl:∀ao aS H' G' cH,S (k ao)->bW J b F fs ao aS H' G' cH->ρ <+: cH->Fr s ao->Q .normal aS H'):e8 aa b (.region ops (some er)) σ H Q:=by
 refine ao5 (ms:=dn s G F) (Md n ops) R.own fun hb=> ?_;obtain⟨eF,s1,p1,iq,cL,H1,ay,gb,aD,ab,aj,bC,cu,dv,gY,oa⟩:=GL (aW:=n3) (p:=[]) aT az hT ae h R (fun t v q=>by cases q) hb;rw[iM]at aj;refine⟨iq,cL,H1,aD,ab,fun w' hw=> ?_⟩;have f1:Fr s1 {s1 with mem:=p1++s1.mem}:=⟨fun _ _=>rfl,fun _ h=>h,fun _ h=>h,dS,aF _,fun o w cs hm=>⟨cs,bC.Re hm,rfl,fun _ _=>rfl⟩,fun o c hc hm=>.inl (bC.Re hm)⟩;refine AD aT az hT ae aj hw.rev bC cu fun ao aS H' G' cH wr mI al a2 Rh a4 a5=> ?_;split at al
 ·rename_i e
  exact⟨ao4 a2 e,cl _ _ _ _ _ al Rh (dv.trans a4) (gY.trans (f1.trans a5))⟩
 ·exact absurd al az.bad
theorem aqg{c:cm}{Q:X->bN->Heap->Prop}(h:e8 aa b c σ H (andThen aa b (.loop c) Q)):e8 aa b (.loop c) σ H Q:=fun au low h1 h2 ar=>by
 obtain⟨x,di,H',low',aS,ab,aj,bC,cu,dv⟩:=h au low h1 h2 ar;rw[sN,ab];cases x with
 |normal=>exact dv di low' aj bC cu
 |exit i=>exact⟨_,_,_,_,aS,rfl,aj,bC,cu,dv⟩
 |ret=>exact⟨_,_,_,_,aS,rfl,aj,bC,cu,dv⟩
theorem ab6 (aT:gj J){f:kM J->{A:Type}->[aG A]->bp J->(X->bp J->A)->A}{a:cm}(ih:∀{an:kM J} {A:Type} [aG A] {S:A->Prop},l6 S->∀{s:bp J} {k:X->bp J->A} {σ:bN} {H:Heap} {G:Nat->List (Nat × bU)} {ρ:List V} {Q:X->bN->Heap->Prop},S (f an s k)->bW J b F fs s σ H G ρ->
   (∀x ao aS H' G' cH,S (k x ao)->bW J b F fs ao aS H' G' cH->ρ <+: cH->Fr s ao->Q x aS H')->e8 aa b a σ H Q) {hd:np J} {os:x3 J} {x:kM J} {A:Type} [aG A] {S:A->Prop} (az:l6 S) {s:bp J} {k:X->bp J->A} {σ:bN} {H:Heap} {G:Nat->List (Nat × bU)} {ρ:List V} {Q:X->bN->Heap->Prop}
  (h:S (KO f (km a) hd os x s k)) (R:bW J b F fs s σ H G ρ) (cl:∀x ao aS H' G' cH,S (k x ao)->bW J b F fs ao aS H' G' cH->ρ <+: cH->Fr s ao->Q x aS H'):e8 aa b (.loop a) σ H Q:=by
 unfold KO at h;split at h
 ·exact absurd h az.bad
 ·rename_i aqh aqi
  obtain⟨o,ho,h⟩:=az.ct h
  refine eE _ (fun st aS H'=>∃G' cH,bW J b F fs (fresh (enter (km a) [] hd st s)) aS H' G' cH/\ρ <+: cH)
   (fun o x aS H'=>∃s2 G' cH,(S (leave (fO hd++km a) (il hd) s k os o)->S (k x s2))/\bW J b F fs s2 aS H' G' cH/\ρ <+: cH/\Fr s s2) ho ?_ ?_ ?_
  ·obtain⟨G',cH,bB,b4⟩:=K8 (W:=km a) (M:=[]) aT R R dS .rfl aqi
   exact⟨G',cH,bB.K7,b4⟩
  ·rintro st cL H1 r ⟨ay,gb,bH,ab7⟩ hr
   refine ih (Qz r) hr bH fun fJ s2 jH H2 bl tE al a2 a3 a4=> ?_
   have base:im (fO hd++km a) ([]++il hd) s (fresh (enter (km a) [] hd st s)):=by
    have:=abU (W:=km a) (M:=[]) R.lt (x:=st);exact⟨this.vs,this.aH,this.aB,this.mem,this.row⟩
   have oD:s.aB<=(fresh (enter (km a) [] hd st s)).aB:=base.aB
   have ab8:∀{y:Ah J (Al os)},Am s.aH.length s.aB (fO hd++km a) (il hd) fJ s2 os=some y->∃e6 G' cH,(S (leave (fO hd++km a) (il hd) s k os y)->S (k fJ e6))/\bW J b F fs e6 jH H2 G' cH/\ρ <+: cH/\Fr s e6:=by
    intro y hy;obtain⟨sh,z,g1,g2⟩:=Q6 (S:=S) (s:=s) (k:=k) hy;obtain⟨q1,q2,cd⟩:=Q5 g1
    have gQ:im (fO sh++(fO hd++km a)) (il hd++il sh) s s2:=
     base.Ra (by simp) a4 R.lt (fun t ht=>pM _ ht) (fun p hp=>w9 _ (by simpa using hp)) (fun t ht=>pM _ (q1 t ht)) q2
    obtain⟨G',cH,bB,b4⟩:=K8 aT R a2 (ab7.trans a3) gQ cd;exact⟨_,G',cH,g2,bB,b4,abV R.lt⟩
   cases fJ with
   |normal=>
    simp only at al;split at al
    ·rename_i y hy
     cases al;obtain⟨q1,q2,cd⟩:=Q5 hy;have gQ:im (fO hd++km a) ([]++il hd) s s2:=base.Ra (by simp) a4 R.lt (fun _ h=>h) (fun _ h=>h) (fun t ht=>pM _ (q1 t ht)) q2;obtain⟨G',cH,bB,b4⟩:=K8 aT R a2 (ab7.trans a3) gQ cd;exact⟨rfl,G',cH,bB.K7,b4⟩
    ·cases al
   |exit i=>
    simp only at al;split at al
    ·rename_i y hy;cases al;exact⟨nofun,ab8 hy⟩
    ·cases al
   |ret=>
    simp only at al;split at al
    ·rename_i y hy;cases al;exact⟨nofun,ab8 hy⟩
    ·cases al
  ·rintro fJ cL H1 ⟨s2,bl,tE,dj,eG,e3,hO⟩
   exact cl _ _ _ _ _ _ (dj h) eG e3 hO
set_option maxHeartbeats 1000000 in
theorem uO (aT:gj J)(hT:re aa cx)(ae:∀j f,nth cx.fv j=some f->∃w,fs[j]? =some w/\og aa F f.dN f.rt f.f w):
  ∀{c:cm} {an:kM J} {A:Type} [aG A] {S:A->Prop},l6 S->∀{s:bp J} {k:X->bp J->A} {σ:bN} {H:Heap} {G:Nat->List (Nat × bU)} {ρ:List V} {Q:X->bN->Heap->Prop},S (kN cx c an s k)->bW J b F fs s σ H G ρ->
   (∀x ao aS H' G' cH,S (k x ao)->bW J b F fs ao aS H' G' cH->ρ <+: cH->Fr s ao->Q x aS H')->e8 aa b c σ H Q
 | .skip,an,A,_,S,az,s,k,σ,H,G,ρ,Q,h,R,cl=>zH (cl _ _ _ _ _ _ h R dS .rfl)
 | .ret,an,A,_,S,az,s,k,σ,H,G,ρ,Q,h,R,cl=>zI (cl _ _ _ _ _ _ h R dS .rfl)
 | .exit i,an,A,_,S,az,s,k,σ,H,G,ρ,Q,h,R,cl=>Jr (cl _ _ _ _ _ _ h R dS .rfl)
 | .region ops er,an,A,_,S,az,s,k,σ,H,G,ρ,Q,h,R,cl=>by
   unfold kN at h;split at h
   ·exact aqa (k:=fun s=>k .normal s) aT az hT ae h R fun ao aS H' G' cH al a2 a3 a4=>cl _ _ _ _ _ _ al a2 a3 a4
   ·exact aqf (k:=fun s=>k .normal s) aT az hT ae h R fun ao aS H' G' cH al a2 a3 a4=>cl _ _ _ _ _ _ al a2 a3 a4
   ·exact ab0 (k:=fun s=>k .normal s) aT az hT ae h R fun ao aS H' G' cH al a2 a3 a4=>cl _ _ _ _ _ _ al a2 a3 a4
 | .seq a c,an,A,_,S,az,s,k,σ,H,G,ρ,Q,h,R,cl=>by
   have snd:∀{y:kM J} {x:X} {ao:bp J} {aS:bN} {H':Heap} {G':Nat->List (Nat × bU)} {cH:List V},S (match x with| .normal=>kN cx c y ao k|x=>k x ao)->bW J b F fs ao aS H' G' cH->ρ <+: cH->Fr s ao->andThen aa b c Q x aS H':=by
    intro y x ao aS H' G' cH al a2 a3 a4;cases x with
    |normal=>exact uO aT hT ae az al a2 fun x s2 jH H2 bl tE b1 ff iZ kz=>cl _ _ _ _ _ _ b1 ff (a3.trans iZ) (a4.trans kz)
    |exit i=>exact cl _ _ _ _ _ _ al a2 a3 a4
    |ret=>exact cl _ _ _ _ _ _ al a2 a3 a4
   unfold kN at h;split at h
   ·rename_i os x y
    obtain⟨o,ho,h⟩:=az.ct h;refine qk (uO aT hT ae (Qz o) ho R.K7 fun fJ s1 cL H1 ay gb al a2 a3 a4=> ?_);obtain⟨sh,z,g1,g2⟩:=Q6 (S:=S) (s:=s) (k:=fun x ao=>match x with| .normal=>kN cx c y ao k|x=>k x ao) al;obtain⟨q1,q2,cd⟩:=Q5 g1
    have gQ:im (fO sh++km a) ([]++il sh) s s1:=by
     have:=a4.gQ (W:=fO sh++km a) (M:=[]++il sh) R.lt (fun t ht=>pM _ (q1 t ht)) q2;exact⟨this.vs,this.aH,this.aB,this.mem,this.row⟩
    obtain⟨G',cH,bB,b4⟩:=K8 aT R a2 a3 gQ cd;exact snd (g2 h) bB b4 (abV R.lt)
   ·rename_i sl y
    split at h
    ·rename_i ops er
     unfold aa9 at h;split at h
     ·rename_i hw
      obtain⟨s1,p1,p2,p3⟩:=Q8 hw;refine qk (ab0 (S:=fun q:pD (bp J)=>q.val=some s1) (k:=fun s=>pD.leaf s) (s:={s with dE:=[],cA:=[]}) aT (apr s1) hT ae p1 R.ab3 fun ao aS H' G' cH al a2 a3 a4=> ?_);cases al
      have gQ:im (pG ops) [] s s1:=by
       have:=a4.gQ (W:=pG ops) (M:=[]) R.lt p2 (fun o j q=>by rw[p3]at q;cases q);exact⟨this.vs,this.aH,this.aB,this.mem,this.row⟩
      have hb:=abP R a2 a3 gQ;have sU:bW J b F fs {blank (pG ops) [] s with dE:=sl++(pG ops++s.dE)} aS H' G' ρ:=hb.ab3;obtain⟨ko,ab,aj,bC,cu,dv⟩:=abZ az a2 a3 gQ.aH p1 sU (dS) (by rw[R.aB];exact h)
      have w:im (sl++(pG ops++s.dE)) [] s ko:=by
       have aD:=(abM (s:=s) (W:=pG ops) (M:=[])).wide (W':=sl++(pG ops++s.dE)) (M':=[]) (fun t ht=>pM _ (w9 _ ht)) (fun _ q=>q);have bJ:=bC.wide (W':=sl++(pG ops++s.dE)) (M':=[]) (fun t ht=>w9 _ ht) (fun _ q=>q);exact im.trans (s1:={blank (pG ops) [] s with dE:=sl++(pG ops++s.dE)}) ⟨aD.vs,aD.aH,aD.aB,aD.mem,aD.row⟩ bJ
      refine snd (x:=.normal) ab aj dS ⟨fun t ht=>w.vs t fun q=>ht (by rw[cu];exact q),fun t ht=>by rw[cu];exact pM _ (pM _ ht),fun q bg=>by rw[dv];exact bg,w.aH,w.aB,fun o wr cs hm=> ?_,fun o aP hc hm=>.inl ((w.row o aP hc hm).resolve_right (by simp))⟩;obtain⟨cs',m1,m2,m3⟩:=w.mem o wr cs hm;exact⟨cs',m1,m2,fun j _=>m3 j (by simp)⟩
     ·exact absurd h az.bad
    ·exact absurd h az.bad
   ·exact qk (uO aT hT ae az h R fun x ao aS H' G' cH al a2 a3 a4=>snd al a2 a3 a4)
 | .cond x a c,an,A,_,S,az,s,k,σ,H,G,ρ,Q,h,R,cl=>by
   simp only[kN]at h;split at h
   ·exact absurd h az.bad
   ·rename_i v af
    obtain⟨β,s1,ab,aj,bC,cu⟩:=CX az h R.dK (cV (aW:=n3) R (fun t v q=>by cases q) af);rcases cu with⟨rfl,h⟩|⟨rfl,h⟩
    ·exact zJ ab rfl (uO aT hT ae az h (R.ek aj) fun x s2 jH H2 bl tE b1 ff iZ kz=>cl _ _ _ _ _ _ b1 ff iZ (aj.bQ.trans kz))
    ·exact zK ab rfl (uO aT hT ae az h (R.ek aj) fun x s2 jH H2 bl tE b1 ff iZ kz=>cl _ _ _ _ _ _ b1 ff iZ (aj.bQ.trans kz))
 | .block id a,an,A,_,S,az,s,k,σ,H,G,ρ,Q,h,R,cl=>by
   simp only[kN]at h;exact E8 (uO aT hT ae az h R fun x s2 jH H2 bl tE b1 ff iZ kz=>cl _ _ _ _ _ _ b1 ff iZ kz)
 | .loop a,an,A,_,S,az,s,k,σ,H,G,ρ,Q,h,R,cl=>by
   unfold kN at h;split at h
   ·exact ab6 aT (fun {_ _ _ _} az {_ _ _ _ _ _ _} h R cl=>uO aT hT ae az h R cl) az h R cl
   ·refine aqg (uO aT hT ae az h R fun x ao aS H' G' cH al a2 a3 a4=> ?_)
    cases x with
    |normal=>exact ab6 aT (fun {_ _ _ _} az {_ _ _ _ _ _ _} h R cl=>uO aT hT ae az h R cl) az al a2 fun x s2 jH H2 bl tE b1 ff iZ kz=>cl _ _ _ _ _ _ b1 ff (a3.trans iZ) (a4.trans kz)
    |exit i=>exact cl _ _ _ _ _ _ al a2 a3 a4
    |ret=>exact cl _ _ _ _ _ _ al a2 a3 a4
   ·exact absurd h az.bad
 | .yM ..,an,A,_,S,az,s,k,σ,H,G,ρ,Q,h,R,cl=>absurd h (by unfold kN;exact az.bad)
 | .rangeFunc ..,an,A,_,S,az,s,k,σ,H,G,ρ,Q,h,R,cl=>absurd h (by unfold kN;exact az.bad)
 | .fail,an,A,_,S,az,s,k,σ,H,G,ρ,Q,h,R,cl=>absurd h (by unfold kN;exact az.bad)
end
end Go.Abs.hq
namespace Go.Abs.hq
open Go Go.Abs
section
variable{J:iI}{b:Nat}{F:cy}{fs:List V}{s ao:bp J}{σ:bN}{H:Heap}{G:Nat->List (Nat × bU)}{ρ:List V}{aa:Nat->Option bV}
theorem Ri:∀(vs:List V) (i j:Nat) (v:V),vs[j]? =some v->wk i vs (i+j)=v
 |[],_,_,_,h=>by simp at h
 |u::r,i,0,v,h=>by simp at h;subst h;exact v8 _ _ _
 |u::r,i,j+1,v,h=>by
  simp at h;rw[wk,jG _ _ (by omega),show i+(j+1)=i+1+j by omega];exact Ri r (i+1) j v h
theorem Rj{F:cy}:∀{aQ:List l5} {a:oR J aQ} {ws:List V},tz aa F aQ a ws->ws.length=aQ.length
 |[],_,_,h=>by cases h;rfl
 | .v t::aQ,x,_,⟨eK,e,r⟩=>by subst e;simp[Rj r]
 | .f _ _::aQ,x,_,⟨w,eK,e,_,r⟩=>by subst e;simp[Rj r]
def C9:List l5->List V->List V
 | .v _::r,_::ws=>C9 r ws
 | .f _ _::r,w::ws=>w::C9 r ws
 | _,_=>[]
def ab9 (aa:Nat->Option bV)(F:cy)(fs:List V)(l:List (Gh J)):Prop:=∀j f,nth l j=some f->∃w,fs[j]? =some w/\og aa F f.dN f.rt f.f w
theorem Rk (aT:gj J):∀{aQ:List l5} {x:oR J aQ} {ws:List V} {j:Nat} {s:bp J} {l:List (Gh J)} {pre:List V},tz aa F aQ x ws->(∀i w,ws[i]? =some w->σ (j+i)=w)->fs=pre++C9 aQ ws->pre.length=l.length->ab9 aa F fs l->bW J b F fs s σ H G ρ->
  bW J b F fs (An aQ x j s l).1 σ H G ρ/\ab9 aa F fs (An aQ x j s l).2/\(An aQ x j s l).1.mem=s.mem/\(An aQ x j s l).1.aB=s.aB
 |[],x,ws,j,s,l,pre,hA,rj,ae,hp,hl,R=>⟨R,hl,rfl,rfl⟩
 | .v t::aQ,x,ws,j,s,l,pre,⟨eK,e,r⟩,rj,ae,hp,hl,R=>by
   subst e;have h0:=rj 0 _ rfl;have oE:=C5 (R.ek (KU (J.xY t x.1))) (l:=.s j) (w:=J.enc t x.1) h0.symm (aT.gZ t x.1 s.aH ρ fs);exact Rk (aQ:=aQ) (x:=x.2) (ws:=eK) (j:=j+1) (l:=l) aT r (fun i w h=>by have:=rj (i+1) w (by simpa using h);rwa [HI,qy]) ae hp hl oE
 | .f dN rt::aQ,x,ws,j,s,l,pre,⟨w,eK,e,q,r⟩,rj,ae,hp,hl,R=>by
   subst e;have h0:=rj 0 _ rfl
   have hj:fs[l.length]? =some w:=by
    rw[ae,<-hp,u0 (aF _)];simp[C9]
   have oE:=C5 R (l:=.s j) (w:=w) (v:=.fv l.length) h0.symm (.fv hj);refine Rk (aQ:=aQ) (x:=x.2) (ws:=eK) (j:=j+1) (l:=l++[⟨dN,rt,x.1⟩]) aT (pre:=pre++[w]) r (fun i w h=>by have:=rj (i+1) w (by simpa using h);rwa [HI,qy]) (by rw[ae];simp[C9]) (by simp[hp]) (fun k g hk=> ?_) oE;rw[wC]at hk;rcases fV k l.length with aK|hge
   ·rw[fB aK]at hk
    exact hl k g (by rw[wC];exact hk)
   ·rw[u0 hge]at hk
    cases hd:k-l.length with
    |zero=>
     rw[hd]at hk;cases hk;have:k=l.length:=by omega
     subst this;exact⟨w,hj,q⟩
    |succ n=>rw[hd]at hk;simp at hk
theorem aca (aT:gj J):∀{ts:List Nat} {c:ea J ts} {aQ:List Nat} {j:Nat} {s ao:bp J} {G:Nat->List (Nat × bU)} {ρ:List V},KP ts c j s=some ao->aQ.length=ts.length->(∀i a,aQ[i]? =some a->σ (j+i)=.ptr a 0)->Own H (s.mem.map (fun e=>G e.1)++(Ar ts c aQ++F))->bW J b F fs s σ H G ρ->
  ∃G' cH,bW J b F fs ao σ H G' cH
 |[],c,aQ,j,s,ao,G,ρ,h,hl,rj,aw,R=>by cases h;exact⟨G,ρ,R⟩
 |t::ts,c,[],j,s,ao,G,ρ,h,hl,rj,aw,R=>by cases hl
 |t::ts,c,a::aQ,j,s,ao,G,ρ,h,hl,rj,aw,R=>by
  simp only[KP]at h;split at h
  ·cases h
  ·rename_i cs hc
   have fq:=Ao (ρ:=ρ) (fs:=fs) hc (aT.gZ t (pE ts c) s.aH ρ fs);have h0:=rj 0 _ rfl;refine aca aT (G:=fun o=>if o=s.aB then[(a,.cells (aE (J.enc t (pE ts c))))]else G o) (ρ:=ρ++[.ptr a 0]) h (by simpa using hl) (fun i a8 hi=>by have:=rj (i+1) a8 (by simpa using hi);rwa [HI,qy]) ?_ ?_
   ·have e:(s.mem.map fun e=>if e.1=s.aB then[(a,bU.cells (aE (J.enc t (pE ts c))))]else G e.1)=s.mem.map fun e=>G e.1:=
     pN fun e he=>by rw[if_neg (qA (R.lt e he))]
    simp only[jP,e,de,iO,if_pos,kr,List.singleton_append];exact aw
   ·have acb:(ρ++[V.ptr a 0])[s.aB]? =some (.ptr a 0):=by rw[u0 (by rw[R.aB];exact aF _),R.aB];simp
    refine⟨by simp[R.aB],fun k v hk=> ?_,?_,?_,fun e he=> ?_,fun o aP ho=> ?_,fun i β hk=>lK (hB _ _) (R.dK i β hk)⟩
    ·have hk:bc ((j,.ptr s.aB 0)::s.vs) k=some v:=hk
     rw[fT]at hk;split at hk
     ·rename_i e;cases hk;subst e
      rw[show σ j=.ptr a 0 from h0];exact .ptr acb
     ·exact(R.vs k v hk).mono (hB _ _) (hB _ _)
    ·have e:(s.mem.map fun e=>if e.1=s.aB then[(a,bU.cells (aE (J.enc t (pE ts c))))]else G e.1)=s.mem.map fun e=>G e.1:=
      pN fun e he=>by rw[if_neg (qA (R.lt e he))]
     unfold dn;simp only[jP,e,de,iO,if_pos,kr,List.singleton_append];refine aw.sub (List.Sublist.append (HN _) ?_);simp only[Ar,lN];exact List.Sublist.cons_cons _ (DA _ _)
    ·simp only[jP,de,iO]
     refine tU.2 ⟨R.db,by simp,fun x hx y hy=> ?_⟩;obtain⟨e,he,q⟩:=dX.1 hx;simp only[yA]at hy;subst hy;rw[<-q];exact qA (R.lt e he)
    ·rcases jc.1 he with he|he
     ·exact Ml (R.lt e he)
     ·simp only[yA]at he;subst he;exact yC _
    ·have ho:bc (s.mem++[(s.aB,b8.cells false cs)]) o=some aP:=ho
     rw[CT]at ho;cases hm:bc s.mem o with
     |some c'=>
      rw[hm]at ho;cases ho;have:=(R.mem o aP hm).mono (hB s.aH (J.xY t (pE ts c))) (hB ρ [.ptr a 0]);simp only[qA (R.lt _ (jr hm)),if_false];exact this
     |none=>
      rw[hm]at ho;simp only at ho;rw[fT]at ho;split at ho
      ·rename_i e
       cases ho;subst e;exact⟨a,_,acb,by simp,fq.mono dS (hB _ _),fun q=>by cases q⟩
      ·cases ho
theorem acd (R:bW J b F fs s σ H G ρ):∀{rs:List mR} {vs:List (aL J.ax)},Gp s rs=some vs->∃us,tr σ H rs us/\bu J s.aH ρ fs vs us
 |[],_,h=>by cases h;exact⟨[],.nil,.nil⟩
 |r::rs,vs,h=>by
  simp only[Gp]at h;split at h
  ·cases h
  ·rename_i v af
   split at h
   ·cases h
   ·rename_i l hl
    cases h;obtain⟨us,h1,h2⟩:=acd R hl;cases r with
    |tmp t=>exact⟨_,.tmp rfl h1,.cons (R.vs t v af) h2⟩
    |cell a sh=>
     simp only at af;split at af
     ·rename_i o f ha
      split at af
      ·rename_i w cs hm
       have gw:=R.vs a _ ha;generalize hw:σ a=w at gw;cases gw with
       |ptr ho=>
        obtain⟨q,ws,q1,q2,cd,c2,-⟩:=R.cells hm;rw[q1]at ho;cases ho;obtain⟨u,dj,eG⟩:=Gu af c2;exact⟨_,.cell hw (cd H R.own) dj h1,.cons eG h2⟩
      ·cases af
     ·cases af
theorem ace (aT:gj J):∀(ts:List Nat) (x:ea J ts),cg (iB ts x)=true
 |[],_=>rfl
 |t::r,x=>by simp only[iB,cg,aT.bx,ace aT r,Bl]
theorem aqj (aT:gj J)(ts:List Nat)(x:ea J ts):bx (oe ts x)=true:=by
 unfold oe;have h:=ace aT ts x;generalize iB ts x=us at h
 match us with
 |[]=>rfl
 |[u]=>simpa[cg,one]using h
 | _::_::_=>exact h
theorem acf{f:List (Nat × b8 J)->aL J.ax->Option (aL J.ax × List (Nat × b8 J))}:∀{vs vs':List (aL J.ax)} {m m':List (Nat × b8 J)},uI f m vs=some (vs',m')->vs'.length=vs.length
 |[],_,_,_,h=>by cases h;rfl
 |v::r,_,_,_,h=>by
  simp only[uI]at h;split at h
  ·cases h
  ·split at h
   ·cases h
   ·rename_i e;cases h;simp[acf e]
theorem acg (aT:gj J){T:List (cq J)}(hT:∀e∈T,nr aa e)(e:cq J){f:jv}(cR:aa e.id=some (.code f))(ty:List (Nat × Nat))(q7:List (Nat × Nat × Nat))(mZ:∀q∈q7,x5 J aa q.1 q.2)(an:kM J)
  (eN:f.fresh=false) (hn:Nat.ble (e.args.length+e.caps.length) f.yN=true) (h:∀c a,e.fn c a=KQ T ty q7 f an e.caps e.args e.res c a):nr aa e:=by
 intro H F c a aQ ws r hlen aw hA hr;rw[h]at hr;unfold KQ at hr;have hl:=Rj hA;have rj:∀i w,ws[i]? =some w->wk 0 (ws++As aQ) (0+i)=w:=fun i w hi=>Ri _ 0 i w (by rw[fB (e0.1 hi).1];exact hi)
 have nt:bW J H.length F (C9 e.args ws) uK (wk 0 (ws++As aQ)) H (fun _=>[]) []:=
  ⟨rfl,fun _ _ q=>(by cases q),aw.sub (DA _ _),DK,fun _ q=>(by cases q),fun _ _ q=>(by cases q),fun _ _ q=>(by cases q)⟩
 obtain⟨bH,f1,m1,-⟩:=Rk (pre:=[]) (l:=[]) aT hA rj rfl rfl (fun j f q=>by simp[nth]at q) nt;split at hr;rename_i s1 fv aqk;rw[aqk]at bH f1 m1;split at hr
 ·cases hr
 ·rename_i s2 aql
  obtain⟨bl,tE,ep⟩:=aca aT (σ:=wk 0 (ws++As aQ)) aql hlen (fun i x hi=>by
   rw[<-hl];have:=Ri (ws++As aQ) 0 (ws.length+i) (.ptr x 0) (by rw[u0 (Mn _ _)];simp[hi]);rwa [dP]at this) (by rw[m1];exact aw) bH
  refine Z9 (caps:=As aQ) cR ?_ eN ?_ (aqj aT _ _)
  ·simp only[fD,ef,hl,hlen]
   exact ma hn
  ·refine uO aT (cx:=⟨T,fv,ty,q7⟩) ⟨hT,mZ⟩ f1 (Qz r) hr ep fun x ao aS H' G' cH al a2 a3 a4=> ?_
   have fin:(match Gp ao f.results with
     |some vs=>Qw ao e.res vs
     |none=>none)=some r->Jx f.results aS H' H.length (oe e.res r):=fun h=>by
    split at h
    ·rename_i vs cW
     obtain⟨us,jV,mW⟩:=acd a2 cW;unfold Qw at h;split at h
     ·rename_i v
      cases mW with
      |cons af hr=>
       cases hr;split at h
       ·rename_i v' m' aO
        obtain⟨w',bl,na,z2,-⟩:=C2 (F:=F) aT a2.Ax aO af;have:=KV aT h (.cons z2 .nil);have ab:oe e.res r=w':=by unfold oe;rw[<-this];rfl
        rw[ab];exact Z8 jV rfl a2.own na
       ·cases h
     ·rename_i aZ
      split at h
      ·rename_i vs' m' aO
       obtain⟨eK,bl,na,z2,-⟩:=C1 (F:=F) (C2 aT) a2.Ax aO mW;have:=KV aT h z2;have ch:=mW.length;have kX:=z2.length;have Lb:=acf aO
       have h3:∀{l:List V},l.length=vs.length->one l=.aU l:=fun {l} hl=>by
        match l,hl with
        |[],_=>rfl
        |[w],hl=>
         match vs,hl,aZ with
         |[v],_,aZ=>exact absurd rfl (aZ v)
        | _::_::_,_=>rfl
       have ab:oe e.res r=.aU eK:=by
        unfold oe;rw[<-this];exact h3 (by rw[<-kX,Lb])
       rw[ab];exact Z8 jV (h3 ch.symm) a2.own (abt na)
      ·cases h
    ·cases h
   cases x with
   |exit i=>cases al
   |normal=>exact⟨.inl rfl,fin al⟩
   |ret=>exact⟨.inr rfl,fin al⟩
variable{B:List Bool}{v:aL J.ax}{w:V}
theorem bS.ach{i:Nat}{c:Bool}(h:B[i]? =some c):bS J B ρ fs (.bo i false) (.bool c):=by
 have:bS J B ρ fs (.bo i false) (.bool (c != false)):=.bo h;simpa using this
theorem aci{l:List Bool}{c:Bool}{i:Nat}(h:l[i]? =some c):(B++l)[B.length+i]? =some c:=by
 rw[u0 (Mn _ _),Nat.add_sub_cancel_left];exact h
theorem bu.inv{v:aL J.ax}{vs:List (aL J.ax)}{ws:List V}:bu J B ρ fs (v::vs) ws->∃w eK,ws=w::eK/\bS J B ρ fs v w/\bu J B ρ fs vs eK
 | .cons h r=>⟨_,_,rfl,h,r⟩
theorem bu.qq{ws:List V}:bu J B ρ fs [] ws->ws=[]
 | .nil=>rfl
theorem oV{α:Type}(e:Nat)(f:α->V)(l:ad α):bM (aE (bb e f l))=true:=by simp[bM]
theorem oW{α:Type}(e:Nat)(f:α->V)(l:ad α):(aE (bb e f l)).length=1:=by simp
theorem iK{k:IntKind}{n:Int}(h:h7 k v=some n)(af:bS J B ρ fs v w):w=.int k n:=by
 unfold h7 at h;split at h
 ·split at h
  ·rename_i e
   cases h;cases af;rw[of_decide_eq_true e]
  ·cases h
 ·cases h
theorem acj{c:Bool}(h:KR B v=some c)(af:bS J B ρ fs v w):w=.bool c:=by
 unfold KR at h;split at h
 ·cases h;cases af;rfl
 ·split at h
  ·rename_i c' hc
   rw[wC]at hc;cases af with
   |bo hb=>
    rw[hc]at hb;cases hb;split at h<;>cases h<;>simp
  ·cases h
 ·cases h
theorem Rl{s:cf}(h:Gq v=some s)(af:bS J B ρ fs v w):w=.str s:=by
 unfold Gq at h;split at h
 ·cases h;cases af;rfl
 ·cases h
theorem fA{t:Nat}{l:ad (J.ax t)}(h:ev t v=some l)(af:bS J B ρ fs v w):w=bb (J.es t) (J.enc t) l:=C3 h af
theorem qs{R:Type}{f:List (aL J.ax)->Option R}{x:R}(h:oT f v=some x)(af:bS J B ρ fs v w):∃vs ws,w=.agg ws/\bu J B ρ fs vs ws/\f vs=some x:=by
 unfold oT at h;split at h
 ·cases af with
  |agg af=>exact⟨_,_,rfl,af,h⟩
 ·cases h
end
end Go.Abs.hq
namespace Go.Abs.hq
open Go Go.Abs
section
variable{J:iI}{aa:Nat->Option bV}{T:List (cq J)}
def AK (aa:Nat->Option bV)(i:Nat):jv:=match aa i with
 |some (.code f)=>f
 | _=>default
def Lc (aa:Nat->Option bV)(e:cq J):Bool:=match aa e.id with
 |some (.code f)=>!f.fresh&&Nat.ble (e.args.length+e.caps.length) f.yN
 | _=>false
abbrev cG (aa:Nat->Option bV)(T:List (cq J)):Prop:=∀e∈T,nr aa e
theorem AL{e:cq J}(h:Lc aa e=true):aa e.id=some (.code (AK aa e.id))/\(AK aa e.id).fresh=false/\Nat.ble (e.args.length+e.caps.length) (AK aa e.id).yN=true:=by
 unfold Lc at h;unfold AK;split at h
 ·rename_i f ae
  rw[ae];simp only[cn,mb]at h;exact⟨rfl,h.1,h.2⟩
 ·cases h
theorem cG.cons{e:cq J}(hT:cG aa T)(h:nr aa e):cG aa (e::T):=fun e' he=>by
 rcases dp.1 he with rfl|he
 ·exact h
 ·exact hT e' he
theorem c9 (aT:gj J){e:cq J}(hT:cG aa T)(ty:List (Nat × Nat))(an:kM J)(h1:Lc aa e=true)(h2:∀c a,e.fn c a=KQ T ty [] (AK aa e.id) an e.caps e.args e.res c a):cG aa (e::T):=
 hT.cons (acg aT hT e (AL h1).1 ty [] (fun _ q=>by cases q) an (AL h1).2.1 (AL h1).2.2 h2)
theorem ack (aT:gj J){e:cq J}(hT:cG aa T)(ty:List (Nat × Nat))(q7:List (Nat × Nat × Nat))(mZ:∀q∈q7,x5 J aa q.1 q.2)(an:kM J)(h1:Lc aa e=true)(h2:∀c a,e.fn c a=KQ T ty q7 (AK aa e.id) an e.caps e.args e.res c a):cG aa (e::T):=
 hT.cons (acg aT hT e (AL h1).1 ty q7 mZ an (AL h1).2.1 (AL h1).2.2 h2)
def Ld:(aQ:List l5)->oR J aQ->List V
 | .v t::r,x=>J.enc t x.1::Ld r x.2
 | _,_=>[]
theorem acm{F:cy}:∀{aQ:List l5} {a:oR J aQ} {ws:List V},Ai aQ=true->tz aa F aQ a ws->ws=Ld aQ a
 |[],_,_,_,h=>h
 | .v t::aQ,x,_,hn,⟨eK,e,r⟩=>by rw[e,acm (aQ:=aQ) hn r];rfl
 | .f _ _::_,_,_,hn,_=>by cases hn
theorem Da{i:Nat}{args:List l5}{res:List Nat}{fn:oR J args->Option (ea J res)}(hn:Ai args=true)(h:∀H a r,fn a=some r->bY aa (.fn i [] []) (Ld args a) H=some (oe res r,H,H.length)):nr aa ⟨i,[],args,res,fun _ a=>fn a⟩:=by
 intro H F c a aQ ws r h1 h2 ar aR;cases aQ with
 |nil=>rw[acm hn ar];exact h H a r aR
 |cons x xs=>cases h1
theorem cG.hd{e:cq J}(h:cG aa (e::T)):nr aa e:=h e (pO ..)
end
end Go.Abs.hq
namespace Go.Abs.bs
open Go Go.Abs Go.Abs.hq
noncomputable section
def acn (aa:Nat->Option bV):Prop:=∀(H0:Heap) (ah:Int) (r:Bool),zV ah=some r->bY aa (.fn 245 [] []) [.int .u8 ah] H0=some (.bool r,H0,H0.length)
def aco (aa:Nat->Option bV):Prop:=∀(H0:Heap) (ah:Int) (r:Bool),zW ah=some r->bY aa (.fn 248 [] []) [.int .u8 ah] H0=some (.bool r,H0,H0.length)
def acp (aa:Nat->Option bV):Prop:=∀(H0:Heap) (ah:Int) (r:Bool),Ft ah=some r->bY aa (.fn 247 [] []) [.int .u8 ah] H0=some (.bool r,H0,H0.length)
def acq (aa:Nat->Option bV):Prop:=∀(H0:Heap) (ah:Int) (r:Bool),CA ah=some r->bY aa (.fn 250 [] []) [.int .u8 ah] H0=some (.bool r,H0,H0.length)
def acr (aa:Nat->Option bV):Prop:=∀(H0:Heap) (ah:cf) (r:Bool),Fo ah=some r->bY aa (.fn 251 [] []) [.str ah] H0=some (.bool r,H0,H0.length)
def acs (aa:Nat->Option bV):Prop:=∀(H0:Heap) (ah:cf) (r:Int),Cy ah=some r->bY aa (.fn 249 [] []) [.str ah] H0=some (aI r,H0,H0.length)
def acu (aa:Nat->Option bV):Prop:=∀(H0:Heap) (GM:cy) (aqm:Own H0 GM) (ah:cf) (aJ:(Int->Option Bool)) (wP:V) (aqn:∀H low,fN H low wP=some (wP,H,low)) (aqo:∀H (z0:Int) (q:Bool),Own H GM->aJ z0=some q->bY aa wP [.int .u8 z0] H=some (.bool q,H,H.length)) (r:Int),Cz ah aJ=some r->bY aa (.fn 246 [] []) [.str ah,wP] H0=some (aI r,H0,H0.length)
def acv (aa:Nat->Option bV):Prop:=∀(H0:Heap) (ah:cf) (r:Int),Fs ah=some r->bY aa (.fn 244 [] []) [.str ah] H0=some (aI r,H0,H0.length)
def acw (aa:Nat->Option bV):Prop:=∀(H0:Heap) (ah:Int) (r:Bool),CB ah=some r->bY aa (.fn 369 [] []) [.int .u8 ah] H0=some (.bool r,H0,H0.length)
def Le (aa:Nat->Option bV):Prop:=∀(H0:Heap) (ah:Int) (aJ:Int) (r:Bool),nn ah aJ=some r->bY aa (.fn 82 [] []) [aI ah,aI aJ] H0=some (.bool r,H0,H0.length)
def AM (aa:Nat->Option bV):Prop:=∀(H0:Heap) (GM:cy) (aqm:Own H0 GM) (ah:(ad gi)) (aJ:(gi->Option Bool)) (wP:V) (aqn:∀H low,fN H low wP=some (wP,H,low)) (aqo:∀H (z0:gi) (q:Bool),Own H GM->aJ z0=some q->bY aa wP [.agg [aI z0.Table,aI z0.iF,aI z0.c5]] H=some (.bool q,H,H.length)) (r:Bool),Fl ah aJ=some r->bY aa (.fn 91 [] []) [bb 3 jn ah,wP] H0=some (.bool r,H0,H0.length)
def aqp (aa:Nat->Option bV):Prop:=∀(H0:Heap) (ah:(ad Range)) (aJ:Int) (r:(ad Range)),Fj ah aJ=some r->bY aa (.fn 81 [] []) [bb 2 q3 ah,aI aJ] H0=some (bb 2 q3 r,H0,H0.length)
variable{aa:Nat->Option bV}
theorem aqq (h:nr (J:=bt) aa ⟨245,[],[.v 3],[1],fun c a=>zV a.1⟩):acn aa:=fun H0 a0 r q=>h H0 [] () (a0,()) [] _ r rfl (.nil H0) ⟨_,rfl,rfl⟩ q
theorem aqr (h:nr (J:=bt) aa ⟨248,[],[.v 3],[1],fun c a=>zW a.1⟩):aco aa:=fun H0 a0 r q=>h H0 [] () (a0,()) [] _ r rfl (.nil H0) ⟨_,rfl,rfl⟩ q
theorem aqs (h:nr (J:=bt) aa ⟨247,[],[.v 3],[1],fun c a=>Ft a.1⟩):acp aa:=fun H0 a0 r q=>h H0 [] () (a0,()) [] _ r rfl (.nil H0) ⟨_,rfl,rfl⟩ q
theorem aqt (h:nr (J:=bt) aa ⟨250,[],[.v 3],[1],fun c a=>CA a.1⟩):acq aa:=fun H0 a0 r q=>h H0 [] () (a0,()) [] _ r rfl (.nil H0) ⟨_,rfl,rfl⟩ q
theorem aqu (h:nr (J:=bt) aa ⟨251,[],[.v 2],[1],fun c a=>Fo a.1⟩):acr aa:=fun H0 a0 r q=>h H0 [] () (a0,()) [] _ r rfl (.nil H0) ⟨_,rfl,rfl⟩ q
theorem aqv (h:nr (J:=bt) aa ⟨249,[],[.v 2],[0],fun c a=>Cy a.1⟩):acs aa:=fun H0 a0 r q=>h H0 [] () (a0,()) [] _ r rfl (.nil H0) ⟨_,rfl,rfl⟩ q
theorem aqw (h:nr (J:=bt) aa ⟨246,[],[.v 2,.f [3] 1],[0],fun c a=>Cz a.1 a.2.1⟩):acu aa:=fun H0 F aw a0 al b6 r7 gx r q=>h H0 F () (a0,al,()) [] _ r rfl aw ⟨_,rfl,⟨b6,_,rfl,⟨r7,gx⟩,rfl⟩⟩ q
theorem aqx (h:nr (J:=bt) aa ⟨244,[],[.v 2],[0],fun c a=>Fs a.1⟩):acv aa:=fun H0 a0 r q=>h H0 [] () (a0,()) [] _ r rfl (.nil H0) ⟨_,rfl,rfl⟩ q
theorem aqy (h:nr (J:=bt) aa ⟨369,[],[.v 3],[1],fun c a=>CB a.1⟩):acw aa:=fun H0 a0 r q=>h H0 [] () (a0,()) [] _ r rfl (.nil H0) ⟨_,rfl,rfl⟩ q
theorem aqz (h:nr (J:=bt) aa ⟨82,[],[.v 0,.v 0],[1],fun c a=>nn a.1 a.2.1⟩):Le aa:=fun H0 a0 al r q=>h H0 [] () (a0,al,()) [] _ r rfl (.nil H0) ⟨_,rfl,⟨_,rfl,rfl⟩⟩ q
theorem aqA (h:nr (J:=bt) aa ⟨91,[],[.v 5,.f [4] 1],[1],fun c a=>Fl a.1 a.2.1⟩):AM aa:=fun H0 F aw a0 al b6 r7 gx r q=>h H0 F () (a0,al,()) [] _ r rfl aw ⟨_,rfl,⟨b6,_,rfl,⟨r7,gx⟩,rfl⟩⟩ q
end
end Go.Abs.bs
