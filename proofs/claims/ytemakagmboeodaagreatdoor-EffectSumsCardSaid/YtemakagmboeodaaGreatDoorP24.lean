/- Texts of this claim, joined and written short by a program. -/
import Derived.Test.YtemakagmboeodaaGreatDoorP23
import Derived.Shelf.SlSortCmp.NoneTotal
import Derived.Shelf.SlicesG.Cmp
import Derived.Shelf.Small.Bits
import Derived.Ground.SlsfProg
import Derived.Ground.SlgcProg
import Derived.Ground.NamesProg
import Derived.Test.YtemakagmboeodaaGreatDoorProg
import Derived.Test.YtemakagmboeodaaGreatDoorP08
import Derived.Shelf.Strings.Builder1
import Derived.Test.YtemakagmboeodaaGreatDoorP20
import Derived.Shelf.SlSortCmp.WholeK
import Derived.Test.YtemakagmboeodaaGreatDoorP00
set_option linter.unusedVariables false
set_option linter.unusedSimpArgs false
set_option linter.unusedSectionVars false
namespace Go.Abs.fM
open Go Go.Abs
section
variable{U:fW}{b:Nat}{F:bV}{fs:List V}{s s1 s2 b6:a1 U}{σ cz:bt}{H H1:Heap}{G az:Nat->List (Nat × bd)}{ρ eK:List V}{ab:Nat->Option bQ}{cx:kc U}{W:List Nat}
theorem SJ (c:Bool)(x y:qU):(y5 c x y).val=bif c then x.val else y.val:=by
 unfold y5;split
 ·split<;>rfl
 all_goals first|rfl|(cases c<;>simp[qU.val])
theorem SK{c:Bool}{x y:qU}{i:Nat}{n:Bool}{d:Bool}(h:y5 c x y=.nm i n d):∃a e,x=.nm i n a/\y=.nm i n e:=by
 unfold y5 at h;split at h
 ·split at h
  ·rename_i e;cases h;exact⟨_,_,rfl,by rw[dm e]⟩
  ·rename_i e;cases h;exact⟨_,_,rfl,by rw[dm e]⟩
  ·cases h
 all_goals cases h
def Cv (fs:List V)(l:Loc)(s1:a1 U):RL U->Prop
 | .bad=>True
 | .v v=>∃v1,at_ s1 l=some v1/\∀(B:List Bool) (ρ:List V) (w:V),bp U B ρ fs v1 w->bp U B ρ fs v w
 | .b x=>∃v1,at_ s1 l=some v1/\sc s1 v1=some x.val/\∀i n d,x=.nm i n d->v1=.bo i n
theorem HL{l:Loc}:∀{p:lD (a1 U)},p.val=some s1->Cv fs l s1 (mx l p)
 | .bad,h=>by cases h
 | .leaf s,h=>by
   cases h;unfold mx;split
   ·trivial
   ·rename_i v ad
    split
    ·exact⟨_,ad,rfl,fun _ _ _ e=>by cases e⟩
    ·split
     ·rename_i hb;exact⟨_,ad,hb,fun _ _ _ e=>by cases e;rfl⟩
     ·trivial
    ·exact⟨_,ad,fun _ _ _ q=>q⟩
 | .br i c t e,h=>by
   have ht:c=true->Cv fs l s1 (mx l t):=fun hc=>HL (by subst hc;exact h);have he:c=false->Cv fs l s1 (mx l e):=fun hc=>HL (by subst hc;exact h);unfold mx;split
   ·rename_i x y h1 h2
    rw[h1]at ht;rw[h2]at he;cases c with
    |true=>
     obtain⟨v1,av,a2,a3⟩:=ht rfl;refine⟨v1,av,by rw[a2,SJ];rfl,fun j n d q=> ?_⟩;obtain⟨_,_,q1,q2⟩:=SK q;exact a3 _ _ _ q1
    |false=>
     obtain⟨v1,av,a2,a3⟩:=he rfl;refine⟨v1,av,by rw[a2,SJ];rfl,fun j n d q=> ?_⟩;obtain⟨_,_,q1,q2⟩:=SK q;exact a3 _ _ _ q2
   ·rename_i k a bJ bg h1 h2
    rw[h1]at ht;rw[h2]at he;split
    ·rename_i hk
     have hk:=of_decide_eq_true hk;subst hk;cases c
     ·exact he rfl
     ·exact ht rfl
    ·trivial
   ·rename_i a bg h1 h2
    rw[h1]at ht;rw[h2]at he;cases c
    ·exact he rfl
    ·exact ht rfl
   ·rename_i v w _ _ h1 h2
    rw[h1]at ht;rw[h2]at he;split
    ·rename_i hs
     cases c with
     |false=>exact he rfl
     |true=>
      obtain⟨v1,av,a2⟩:=ht rfl;exact⟨v1,av,fun B ρ u q=>Hz hs (a2 B ρ u q)⟩
    ·trivial
   ·trivial
theorem HM:∀{p:lD (a1 U)},wU W p=true->∃s1,p.val=some s1/\(∀t∈s1.c3,t∈W)/\s1.bU=[]
 | .bad,h=>by cases h
 | .leaf s,h=>by
   simp only[wU]at h;split at h
   ·rename_i ae ai;exact⟨s,rfl,HB ae,ai⟩
   ·cases h
 | .br i c t e,h=>by
   simp only[wU]at h;split at h
   ·rename_i h1
    cases c with
    |true=>obtain⟨s1,av,a2⟩:=HM h1;exact⟨s1,av,a2⟩
    |false=>obtain⟨s1,av,a2⟩:=HM h;exact⟨s1,av,a2⟩
   ·cases h
theorem SL{A:Type}[aF A]{S:A->Prop}(aw:jB S)(bH:bB U b F fs s1 cz H1 az eK)(aE:ρ <+: eK){B:List Bool}(nX:B <+: s1.aB){p:lD (a1 U)}(hp:p.val=some s1){k:a1 U->A}:
  ∀{sl:List Nat} {b6:a1 U},bB U b F fs b6 cz H1 az ρ->B <+: b6.aB->S (pI B.length ρ.length p sl b6 k)->∃hL,S (k hL)/\bB U b F fs hL cz H1 az ρ/\fY sl [] b6 hL/\hL.c3=b6.c3/\hL.bU=b6.bU
 |[],b6,R,_,h=>⟨b6,h,R,.rfl,rfl,rfl⟩
 |t::r,b6,R,cw,h=>by
  have hm:=HL (fs:=fs) (l:=.s t) hp;simp only[pI]at h
  have go:∀{v:aD U.ar} {l:List Bool},bp U (b6.aB++l) ρ fs v (cz t)->S (pI B.length ρ.length p r {b6 with vs:=(t,v)::b6.vs,aB:=b6.aB++l} k)->
    ∃hL,S (k hL)/\bB U b F fs hL cz H1 az ρ/\fY (t::r) [] b6 hL/\hL.c3=b6.c3/\hL.bU=b6.bU:=fun {v l} ad h=>by
   have kR:=w4 (R.eg (Cd l)) (l:=.s t) (w:=cz t) rfl ad;obtain⟨hL,av,a2,a3,a4,a5⟩:=SL aw bH aE nX hp kR (cw.trans (fl _ _)) h;exact⟨hL,av,a2,(Cu (s:=b6) (l:=.s t) (v:=v) (fl b6.aB l) (fun q e=>by cases e;exact k7 ..) (fun _ _ e=>by cases e)).trans (a3.wide (fun q a8=>ie _ a8) fun _ q=>q),a4,a5⟩
  have HN:∀{v:aD U.ar},bp U b6.aB ρ fs v (cz t)->S (pI B.length ρ.length p r {b6 with vs:=(t,v)::b6.vs} k)->∃hL,S (k hL)/\bB U b F fs hL cz H1 az ρ/\fY (t::r) [] b6 hL/\hL.c3=b6.c3/\hL.bU=b6.bU:=fun {v} ad h=>
   go (v:=v) (l:=[]) (by rw[lQ];exact ad) (by rw[lQ];exact h)
  have nm:∀{x:qU},Cv fs (.s t) s1 (.b x)->bp U (b6.aB++[x.val]) ρ fs (.bo b6.aB.length false) (cz t):=fun {x} ⟨v1,av,a2,a3⟩=>by
   obtain⟨w,aG,bs⟩:=uU bH av;cases aG;rw[wW a2 bs];have:bp U (b6.aB++[x.val]) ρ fs (.bo b6.aB.length false) (.bool (x.val != false)):=.bo (by simp);simpa using this
  split at h
  ·rename_i v ad
   rw[ad]at hm;split at h
   ·rename_i hw
    obtain⟨v1,av,a2⟩:=hm;obtain⟨w,aG,bs⟩:=uU bH av;cases aG;exact HN ((Cn nX aE hw (a2 _ _ _ bs)).mono cw db) h
   ·exact absurd h aw.bad
  ·rename_i x hx
   rw[hx]at hm;split at h
   ·rename_i d
    obtain⟨v1,av,a2,a3⟩:=hm;obtain⟨w,aG,bs⟩:=uU bH av;cases aG;exact HN (by rw[wW a2 bs];exact .eS) h
   ·rename_i i neg d
    split at h
    ·rename_i hi
     obtain⟨v1,av,a2,a3⟩:=hm;obtain⟨w,aG,bs⟩:=uU bH av;cases aG;have:=a3 _ _ _ rfl;subst this;exact HN ((Cn nX aE (by simpa only[wf]using hi) bs).mono cw db) h
    ·exact go (nm hm) h
   ·exact go (nm hm) h
  ·exact absurd h aw.bad
theorem SM{A:Type}[aF A]{S:A->Prop}(aK:eJ U)(aw:jB S)(hT:mR ab cx)(af:∀j f,nth cx.fv j=some f->∃w,fs[j]? =some w/\kC ab F f.c6 f.rt f.f w){ops:List bl}{dw:Option (List Nat)}{k:a1 U->A}{Q:X->bt->Heap->Prop}
  (h:S (so cx ops [] s [] fun s wr=>B6 dw ops wr (k s))) (R:bB U b F fs s σ H G ρ)
  (bE:∀ao bn H' G' b2,S (k ao)->bB U b F fs ao bn H' G' b2->ρ <+: b2->Fr s ao->Q .normal bn H'):e6 ab b (.region ops dw) σ H Q:=by
 cases dw with
 |none=>exact acm (uP aK aw hT af h .nil R (fun t v q=>by cases q) fun ao bn H' G' b2 ep uQ av a0 a2 a3 a4=>bE _ _ _ _ _ av a2 a3 a4)
 |some dw=>
  refine acn (uP aK aw hT af h .nil R (fun t v q=>by cases q) fun ao bn H' G' b2 ep uQ av a0 a2 a3 a4=> ?_);simp only[B6]at av;split at av
  ·rename_i e;exact⟨ad7 a0 e,bE _ _ _ _ _ av a2 a3 a4⟩
  ·exact absurd av aw.bad
theorem fY.SN{SP HO:List Nat}{SQ HP:List (Nat × Nat)}{pJ hL s2:a1 U}(h:fY SP SQ pJ hL)(_:True)(bD:Fr hL s2)(lt:∀e∈pJ.mem,e.1<pJ.aA)(hW:∀t∈SP,t∈HO)(ia:∀p∈SQ,p∈HP)(hd:∀t∈s2.c3,t∈HO)(hm:∀o j,(o,j)∈s2.bU->o<pJ.aA->(o,j)∈HP):fY HO HP pJ s2 where
 vs:=fun t ht=>(bD.vs t fun q=>ht (hd t q)).trans (h.vs t fun q=>ht (hW t q))
 aB:=h.aB.trans bD.aB
 aA:=cA h.aA bD.aA
 mem:=fun o w cs hc=>by
  obtain⟨lL,h1,h2,aq⟩:=h.mem o w cs hc;obtain⟨zf,bM,dC,iv⟩:=bD.mem o w lL h1;exact⟨zf,bM,dC.trans h2,fun j hj=>(iv j fun q=>hj (hm o j q (lt _ (gD hc)))).trans (aq j fun q=>hj (ia _ q))⟩
 row:=fun o aJ h0 hc=>(h.row o aJ h0 hc).elim (fun h1=>(bD.row o aJ h0 h1).imp id fun q=>hm o 0 q (lt _ (gD hc))) fun q=>.inr (ia _ q)
theorem bB.SR (R:bB U b F fs s σ H G ρ){c3:List Nat}{bU:List (Nat × Nat)}:bB U b F fs {s with c3:=c3,bU:=bU} σ H G ρ:=
 ⟨R.aA,R.vs,R.own,R.cI,R.lt,R.mem,R.dh⟩
theorem zo{A:Type}[aF A]{S:A->Prop}(aK:eJ U)(aw:jB S)(hT:mR ab cx)(af:∀j f,nth cx.fv j=some f->∃w,fs[j]? =some w/\kC ab F f.c6 f.rt f.f w){k:h6 U->a1 U->A}:
  ∀{ops:List bl} {aj:h6 U} {aM:bt} {s:a1 U} {σ:bt},S (qT cx ops aj s k)->bB U b F fs s σ H G ρ->(∀t v,aX aj t=some v->bp U s.aB ρ fs v (aM t))->
  ∃dA s1 fZ cz,jg (cp ab) (cK s G F) ops aM σ fZ cz/\S (k dA s1)/\bB U b F fs s1 cz H G ρ/\(∀t v,aX dA t=some v->bp U s1.aB ρ fs v (fZ t))/\Fr s s1/\s1.mem=s.mem/\s1.aA=s.aA
 |[],aj,aM,s,σ,h,R,bk=>⟨aj,s,aM,σ,.nil,h,R,bk,.rfl,rfl,rfl⟩
 |⟨d,op,g⟩::r,aj,aM,s,σ,h,R,bk=>by
  have fin:∀{s1:a1 U} {v:aD U.ar} {w:V},gN s s1->bp U s1.aB ρ fs v w->S (match put aj s1 v d with|(aj,s)=>qT cx r aj s k)->
    ∃dA s2 fZ cz,jg (cp ab) (cK s G F) r (fq aM d w) (fr σ d w) fZ cz/\S (k dA s2)/\bB U b F fs s2 cz H G ρ/\(∀t v,aX dA t=some v->bp U s2.aB ρ fs v (fZ t))/\Fr s s2/\s2.mem=s.mem/\s2.aA=s.aA:=by
   intro s1 v w hk ad h1;have lM:∀t v,aX aj t=some v->bp U s1.aB ρ fs v (aM t):=fun t v q=>(bk t v q).mono hk.aB db;have aT:cK s G F=cK s1 G F:=by unfold cK;rw[hk.mem]
   rw[aT,<-hk.mem,<-hk.aA]
   match d with
   |none=>
    obtain⟨dA,s2,a,c,ae,ai,bz,cn,dG,gW⟩:=zo aK aw hT af h1 (R.eg hk) lM;exact⟨dA,s2,a,c,ae,ai,bz,cn,hk.bD.trans dG,gW⟩
   |some (t,false)=>
    obtain⟨dA,s2,a,c,ae,ai,bz,cn,dG,gW⟩:=zo aK aw hT af h1 (R.eg hk) (Hx lM ad);exact⟨dA,s2,a,c,ae,ai,bz,cn,hk.bD.trans dG,gW⟩
   |some (t,true)=>
    obtain⟨dA,s2,a,c,ae,ai,bz,cn,dG,gW⟩:=zo aK aw hT af h1 ((R.eg hk).put ad) lM;exact⟨dA,s2,a,c,ae,ai,bz,cn,hk.bD.trans (Hp.trans dG),gW⟩
  have go:∀{s1:a1 U},gN s s1->eF aM σ g=some true->S (GZ cx aj s1 d (fun v s=>match put aj s v d with|(aj,s)=>qT cx r aj s k) op)->
    ∃dA s2 fZ cz,jg (cp ab) (cK s G F) (⟨d,op,g⟩::r) aM σ fZ cz/\S (k dA s2)/\bB U b F fs s2 cz H G ρ/\(∀t v,aX dA t=some v->bp U s2.aB ρ fs v (fZ t))/\Fr s s2/\s2.mem=s.mem/\s2.aA=s.aA:=by
   intro s1 hk hw h1;have bH:=R.eg hk;have lM:∀t v,aX aj t=some v->bp U s1.aB ρ fs v (aM t):=fun t v q=>(bk t v q).mono hk.aB db;have aT:cK s G F=cK s1 G F:=by unfold cK;rw[hk.mem]
   unfold GZ at h1;split at h1
   ·split at h1
    ·rename_i fv St uO pO
     obtain⟨v,ao,w,h1,h2,aq,bf⟩:=Sc aK aw bH hT af h1 (cf bH lM uO) (pL bH lM pO);obtain⟨dA,s2,a,c,ae,ai⟩:=fin (hk.trans h2) aq h1;exact⟨dA,s2,a,c,.step hw (fun H' hO=>by rw[aT]at hO;exact Q8 (bf H' hO).1 (bf H' hO).2 rfl rfl) ae,ai⟩
    ·exact absurd h1 aw.bad
   ·obtain⟨v,ao,w,h1,h2,aq,bf⟩:=Hh (call:=cp ab) aK aw bH lM h1
    obtain⟨dA,s2,a,c,ae,ai⟩:=fin (hk.trans h2) aq h1;exact⟨dA,s2,a,c,.step hw (fun H' hO=>by rw[aT]at hO;exact bf H' hO) ae,ai⟩
  have skip:∀{s1:a1 U},gN s s1->eF aM σ g=some false->S (match put aj s1 (.aR []) d with|(aj,s)=>qT cx r aj s k)->
    ∃dA s2 fZ cz,jg (cp ab) (cK s G F) (⟨d,op,g⟩::r) aM σ fZ cz/\S (k dA s2)/\bB U b F fs s2 cz H G ρ/\(∀t v,aX dA t=some v->bp U s2.aB ρ fs v (fZ t))/\Fr s s2/\s2.mem=s.mem/\s2.aA=s.aA:=by
   intro s1 hk hw h1;obtain⟨dA,s2,a,c,ae,ai⟩:=fin hk (.aR .nil) h1;exact⟨dA,s2,a,c,.skip hw ae,ai⟩
  simp only[qT]at h
  match g with
  |none=>exact go .rfl rfl h
  |some (x,w)=>
   simp only at h;split at h
   ·exact absurd h aw.bad
   ·rename_i v ad
    have kv:=cf R bk ad;split at h
    ·generalize uN:ba aM σ x=qZ at kv
     cases kv with
     |aR h3=>cases h3;exact skip .rfl (Q0 uN) h
    ·cases w with
     |true=>
      obtain⟨β,s1,ae,ai,bz,cn⟩:=wV aw h R.dh kv;rcases cn with⟨rfl,h⟩|⟨rfl,h⟩
      ·exact go ai (Bz ae rfl) h
      ·exact skip ai (BA ae rfl) h
     |false=>
      obtain⟨β,s1,ae,ai,bz,cn⟩:=wV aw h R.dh kv;rcases cn with⟨rfl,h⟩|⟨rfl,h⟩
      ·exact skip ai (BB ae rfl) h
      ·exact go ai (Bz ae rfl) h
theorem aex{dw:List Nat}{ops:List bl}{wr jT:List Bool}(h:fk wr jT)(ho:rl dw ops jT=true):rl dw ops wr=true:=by
 unfold rl at ho⊢;simp only[cH]at ho⊢;obtain⟨⟨h1,h2⟩,aq⟩:=ho;refine⟨⟨(h.take _).no h1,?_⟩,aq⟩;rw[eV]at h2⊢;rintro⟨w,i⟩ hw;cases w with
 |false=>rfl
 |true=>
  have hi:=h.get (hz.1 hw);exact h2 (true,i) (hz.2 hi)
theorem SS{n:Nat}:∀{m:List (Nat × bC U)},B7 n m=true->∀e∈m,n<=e.1
 |[],_,_,h=>by cases h
 |a::r,h,e,he=>by
  simp only[B7]at h;split at h
  ·rename_i q
   rcases cY.1 he with rfl|he
   ·exact mj q
   ·exact SS h e he
  ·cases h
theorem lJ.low{b dE:Nat}(hb:b<=dE){B:List Bool}{o:Nat}{m:List (Nat × bd)}:∀{aJ:bC U},lJ U dE B ρ fs o m aJ->lJ U b B ρ fs o m aJ
 | .cells w cs,⟨a,ws,h1,h2,aq,bf⟩=>⟨a,ws,h1,h2,aq,fun q=>cA hb (bf q)⟩
 | .row t s,⟨v,h1,h2⟩=>⟨v,h1,by
   unfold dS at h2⊢;generalize s.map (U.enc t)=x at h2;cases h2 with
   |nil=>exact .nil
   |emp=>exact .emp
   |row l ds h q=>exact .row l ds h (cA hb q)⟩
 | .fz t s,⟨v,m0,h1,h2,aq⟩=>⟨v,m0,h1,by
   unfold dS at h2⊢;generalize s.map (U.enc t)=x at h2;cases h2 with
   |nil=>exact .nil
   |emp=>exact .emp
   |row l ds h q=>exact .row l ds h (cA hb q),aq⟩
 | .mp k w x,⟨a,h1,h2,aq⟩=>⟨a,h1,h2,cA hb aq⟩
theorem aey{A:Type}[aF A]{S:A->Prop}(aK:eJ U)(aw:jB S)(hT:mR ab cx)(af:∀j f,nth cx.fv j=some f->∃w,fs[j]? =some w/\kC ab F f.c6 f.rt f.f w){ops:List bl}{dw:List Nat}{k:a1 U->A}{Q:X->bt->Heap->Prop}
  (h:S (qT cx (ops.take (im ops)) [] s fun aj s=>so cx (ops.drop (im ops)) aj {s with mem:=[]} (List.replicate (im ops) false) fun ao wr=>G1 dw ops wr s.aA ao.mem (k {ao with mem:=ao.mem++s.mem}))) (R:bB U b F fs s σ H G ρ)
  (bE:∀ao bn H' G' b2,S (k ao)->bB U b F fs ao bn H' G' b2->ρ <+: b2->Fr s ao->Q .normal bn H'):e6 ab b (.region ops (some dw)) σ H Q:=by
 obtain⟨dA,s1,fZ,cz,p1,cN,bH,nC,wX,ajg,ajh⟩:=zo aK aw hT af h R (fun t v q=>by cases q);refine acW (im ops) R.own rfl p1 fun hb=> ?_
 have D1:∀j f,nth cx.fv j=some f->∃w,fs[j]? =some w/\kC ab (cK s1 G F) f.c6 f.rt f.f w:=fun j f q=>by
  obtain⟨w,ae,ai,bz⟩:=af j f q;exact⟨w,ae,ai,fun H z q hO aP=>bz H z q (hO.sub (xi _ _)) aP⟩
 have kg:bB U H.length (cK s1 G F) fs {s1 with mem:=[]} cz H (fun _=>[]) ρ:=⟨bH.aA,bH.vs,bH.own,zZ,fun _ q=>(by cases q),fun _ _ q=>(by cases q),bH.dh⟩;refine uP aK aw hT D1 cN (fk.refl _) kg nC fun s2 lC cT a7 oT wr jT av a2 eZ a4 a5=> ?_;unfold G1 at av;split at av
 ·rename_i ae ai
  have hge:=SS ai
  have no:∀{q},q<s1.aA->aX s2.mem q=none:=fun {q} a8=>Ho fun hm=>by
   obtain⟨e,he,rfl⟩:=dn.1 hm;exact absurd (hge e he) (Nat.not_le.2 a8)
  refine⟨aex a2 ae,bE _ lC cT (fun q=>if q<s1.aA then G q else a7 q) oT av ⟨eZ.aA,eZ.vs,?_,?_,fun e he=> ?_,fun o aJ ho=> ?_,eZ.dh⟩ a4 (wX.trans ?_)⟩
  ·have:=eZ.own
   unfold cK at this⊢;simp only at this⊢;rw[hM,jl];have bz:s2.mem.map (fun e=>if e.1<s1.aA then G e.1 else a7 e.1)=s2.mem.map fun e=>a7 e.1:=mW fun e he=>if_neg (Nat.not_lt.2 (hge e he));have cn:s1.mem.map (fun e=>if e.1<s1.aA then G e.1 else a7 e.1)=s1.mem.map fun e=>G e.1:=mW fun e he=>if_pos (bH.lt e he);rw[bz,cn];exact this
  ·simp only[hM]
   refine ra.2 ⟨eZ.cI,bH.cI,fun x hx y hy e=> ?_⟩;obtain⟨p,hp,rfl⟩:=dn.1 hx;obtain⟨q,a8,rfl⟩:=dn.1 hy;have:=hge p hp;have:=bH.lt q a8;omega
  ·rcases hN.1 he with he|he
   ·exact eZ.lt e he
   ·exact mX (bH.lt e he) a5.aA
  ·have ho:aX (s2.mem++s1.mem) o=some aJ:=ho
   rw[wR]at ho;cases hm:aX s2.mem o with
   |some c=>
    rw[hm]at ho;cases ho;simp only[if_neg (Nat.not_lt.2 (hge _ (gD hm)))];exact(eZ.mem o aJ hm).low hb
   |none=>
    rw[hm]at ho;simp only[if_pos (bH.lt _ (gD ho))];exact(bH.mem o aJ ho).mono a5.aB a4
  ·exact⟨a5.vs,a5.c3,a5.bU,a5.aB,a5.aA,fun o w cs hm=>⟨cs,by
    show aX (s2.mem++s1.mem) o=_;rw[wR,no (bH.lt _ (gD hm))];exact hm,rfl,fun _ _=>rfl⟩,fun o aJ hc hm=>.inl (by
    show aX (s2.mem++s1.mem) o=_;rw[wR,no (bH.lt _ (gD hm))];exact hm)⟩
 ·exact absurd av aw.bad
theorem fk.pre:∀(l:List Bool) {r lS:List Bool},fk r lS->fk (l++r) (l++lS)
 |[],_,_,h=>h
 | _::l,_,_,h=>.cons id (fk.pre l h)
theorem SU{o n:Nat}{c d:bC U}:∀{p q:List (Nat × bC U)},aX p o=some d->hq o n c (p++q)=hq o n c p++q
 |[],_,h=>by cases h
 |(a,e)::r,q,h=>by
  simp only[aX]at h;simp only[kE,hq];split at h
  ·rename_i ae
   try rw[ae]
   rfl
  ·rename_i ae
   try rw[ae]
   simp only[SU h];rfl
section
variable{p:List (Nat × bC U)}
theorem bB.HQ (R:bB U b F fs {s with mem:=p++s.mem} σ H G ρ){o:Nat}{c:bC U}(h:aX s.mem o=some c):aX (p++s.mem) o=some c:=by
 have hn:((p++s.mem).map Prod.fst).Nodup:=R.cI;rw[hM,ra]at hn;rw[wR,Ho fun q=>hn.2.2 _ q _ (mm (f:=Prod.fst) (gD h)) rfl];exact h
theorem bB.aez (R:bB U b F fs {s with mem:=p++s.mem} σ H G ρ):bB U b F fs s σ H G ρ where
 aA:=R.aA
 vs:=R.vs
 own:=R.own.sub (by unfold cK;simp only[hM,jl];exact xi _ _)
 cI:=by
  have hn:((p++s.mem).map Prod.fst).Nodup:=R.cI;rw[hM,ra]at hn;exact hn.2.1
 lt:=fun e he=>R.lt e (lO _ he)
 mem:=fun o c h=>R.mem o c (R.HQ h)
 dh:=R.dh
theorem bB.aeA (R:bB U b F fs {s with mem:=p++s.mem} σ H G ρ)(bH:bB U b F fs s1 cz H G ρ)(hm:s1.mem=s.mem)(hn:s1.aA=s.aA)(hb:s.aB <+: s1.aB):bB U b F fs {s1 with mem:=p++s1.mem} cz H G ρ where
 aA:=bH.aA
 vs:=bH.vs
 own:=by have:=R.own;unfold cK at this⊢; simp only at this⊢; rw[hm];exact this
 cI:=by have:=R.cI;simp only at this⊢; rw[hm];exact this
 lt:=fun e he=>by
  have he:e∈p++s1.mem:=he;rw[hm]at he;show e.1<s1.aA;rw[hn];exact R.lt e he
 mem:=fun o c h=>by
  have h:aX (p++s1.mem) o=some c:=h;rw[hm]at h;exact(R.mem o c h).mono hb db
 dh:=bH.dh
end
theorem zp{A:Type}[aF A]{S:A->Prop}(aK:eJ U)(aw:jB S)(hT:mR ab cx)(af:∀j f,nth cx.fv j=some f->∃w,fs[j]? =some w/\kC ab F f.c6 f.rt f.f w){k:h6 U->a1 U->List (Nat × bC U)->List Bool->A}:
  ∀{ops:List bl} {aj:h6 U} {aM:bt} {s:a1 U} {σ:bt} {H:Heap} {G:Nat->List (Nat × bd)} {ρ:List V} {p:List (Nat × bC U)} {w:List Bool},S (qV cx ops aj s p w k)->bB U b F fs {s with mem:=p++s.mem} σ H G ρ->(∀t v,aX aj t=some v->bp U s.aB ρ fs v (aM t))->b<=H.length->
  ∃dA s1 p1 fZ cz H1 az eK aG,hg ab b (cK s G F) ops aM σ H fZ cz H1 aG/\S (k dA s1 p1 (w++aG))/\bB U b F fs {s1 with mem:=p1++s1.mem} cz H1 az eK/\(∀t v,aX dA t=some v->bp U s1.aB eK fs v (fZ t))/\ρ <+: eK/\Fr s s1/\s1.mem=s.mem
 |[],aj,aM,s,σ,H,G,ρ,p,w,h,R,bk,hb=>⟨aj,s,p,aM,σ,H,G,ρ,[],.nil,by rw[lQ];exact h,R,bk,db,.rfl,rfl⟩
 |o::r,aj,aM,s,σ,H,G,ρ,p,w,h,R,bk,hb=>by
  have kg:=R.aez
  have fin:∀{d:Option (Nat × Bool)} {op:b8} {p1:List (Nat × bC U)} {v':V} {H1:Heap} {bm:Nat} {m':List (Nat × bd)},bK (cp ab) (ba aM σ) H H.length op=some (v',H1,bm)->b<=bm->b<=H1.length->
    bB U b F fs {s with mem:=p1++s.mem,aA:=s.aA+1} σ H1 (fun q=>if q=s.aA then m' else G q) (ρ++[v'])->
    S (match put aj {s with aA:=s.aA+1} (.row s.aA) d with|(aj,s1)=>qV cx r aj s1 p1 (w++[true]) k)->
    ∃dA s1 p1 fZ cz H1 az eK aG,hg ab b (cK s G F) (⟨d,op,none⟩::r) aM σ H fZ cz H1 aG/\S (k dA s1 p1 (w++aG))/\bB U b F fs {s1 with mem:=p1++s1.mem} cz H1 az eK/\(∀t v,aX dA t=some v->bp U s1.aB eK fs v (fZ t))/\ρ <+: eK/\Fr s s1/\s1.mem=s.mem:=by
   intro d op p1 v' H1 bm m' c1 c2 ix bH h1
   have w6:cK s (fun q=>if q=s.aA then m' else G q) F=cK s G F:=by
    unfold cK;congr 1;exact mW fun e he=>if_neg (mo (kg.lt e he))
   have yU:Own H1 (cK s G F):=by
    rw[<-w6];exact bH.own.sub (by unfold cK;simp only[hM,jl];exact xi _ _)
   have lM:∀t v,aX aj t=some v->bp U s.aB (ρ++[v']) fs v (aM t):=fun t v q=>(bk t v q).mono db (fl _ _);have kv:bp U s.aB (ρ++[v']) fs (.row s.aA) v':=.row (kg.new v');have HR:Fr s {s with aA:=s.aA+1}:=⟨fun _ _=>rfl,fun _ h=>h,fun _ h=>h,db,xp _,fun o w cs hm=>⟨cs,hm,rfl,fun _ _=>rfl⟩,fun _ _ _ h=>.inl h⟩
   match d,h1 with
   |none,h1=>
    obtain⟨dA,s1,cN,fZ,cz,cT,az,eK,aG,ae,ai,bz,cn,dG,gW,oL⟩:=zp (s:={s with aA:=s.aA+1}) aK aw hT af h1 bH lM ix;have ae:hg ab b (cK s (fun q=>if q=s.aA then m' else G q) F) r aM σ H1 fZ cz cT aG:=ae;rw[w6]at ae;exact⟨dA,s1,cN,fZ,cz,cT,az,eK,true::aG,.make rfl c1 c2 ix yU ae,by simpa using ai,bz,cn,(fl _ _).trans dG,HR.trans gW,oL⟩
   |some (t,false),h1=>
    obtain⟨dA,s1,cN,fZ,cz,cT,az,eK,aG,ae,ai,bz,cn,dG,gW,oL⟩:=zp (s:={s with aA:=s.aA+1}) aK aw hT af h1 bH (Hx lM kv) ix;have ae:hg ab b (cK s (fun q=>if q=s.aA then m' else G q) F) r (up aM t v') σ H1 fZ cz cT aG:=ae;rw[w6]at ae;exact⟨dA,s1,cN,fZ,cz,cT,az,eK,true::aG,.make rfl c1 c2 ix yU ae,by simpa using ai,bz,cn,(fl _ _).trans dG,HR.trans gW,oL⟩
   |some (t,true),h1=>
    obtain⟨dA,s1,cN,fZ,cz,cT,az,eK,aG,ae,ai,bz,cn,dG,gW,oL⟩:=zp aK aw hT af h1 (bH.put kv) lM ix;have ae:hg ab b (cK s (fun q=>if q=s.aA then m' else G q) F) r aM (up σ t v') H1 fZ cz cT aG:=ae;rw[w6]at ae;exact⟨dA,s1,cN,fZ,cz,cT,az,eK,true::aG,.make rfl c1 c2 ix yU ae,by simpa using ai,bz,cn,(fl _ _).trans dG,HR.trans (Hp.trans gW),oL⟩
  simp only[qV]at h;split at h
  ·rename_i d f aC
   split at h
   ·rename_i i v tw pO
    split at h
    ·rename_i q a8
     split at h
     ·rename_i x hx aeB
      obtain⟨z,aP,h⟩:=aw.bL h;obtain⟨b5,aei,cy,hn⟩:=(hT.2.1 _ (gD a8)).clone aeB;have ha:=pL kg bk pO
      obtain⟨cQ,rfl⟩:∃cQ,aC=[cQ]:=by
       have:=ha.length
       match aC,this with
       |[cQ],_=>exact⟨cQ,rfl⟩
      cases ha with
      |cons ad _=>
       have fx:=cf kg bk tw;generalize sn:ba aM σ f=wf at fx;cases fx with
       |fn hl=>
        cases hl;obtain⟨v',H1,m',c1,c2,ix,l2⟩:=Rl (b:=b) cy hn aP R.own sn (w2 hx ad) (aK.bS q.1) (aK.ok q.1) hb;exact fin (p1:=(s.aA,.row q.1 z)::p) c1 hb (cA hb l2) (R.add ix ⟨v',R.new v',c2⟩) h
     ·exact absurd h aw.bad
    ·exact absurd h aw.bad
   ·exact absurd h aw.bad
  ·rename_i d es bytes cQ ez
   split at h
   ·rename_i x o cS hi kA mT
    split at h
    ·rename_i t y hm ai
     split at h
     ·rename_i ae
      obtain⟨q,a8,h0⟩:=aw.bL h;obtain⟨z,aP,h1⟩:=aw.bL h0;have dT:=dm ae;subst dT;have nt:=cf kg bk mT;generalize zh:ba aM σ ez=wb at nt;cases nt with
      |iG ho Hw=>
       obtain⟨v1,bq,cc⟩:=kg.mem o _ hm;obtain⟨bM,gJ,-⟩:=kg.at hm;rw[bq]at ho;cases ho;have w3:Go.Abs.elems H (U.es t) (ba aM σ ez)=some (q.l.map (U.enc t)):=by rw[zh];exact R7 bM gJ kg.own cc a8 Hw
       obtain⟨v',H1,bm,m',c1,c2,ix,l2,tV⟩:=adq (ab:=ab) (b:=b) hb 0 aP (R.own.ins 0) rfl dz.emp (si ai (cf kg bk kA)) w3 (aK.bS t) (aK.ok t);exact fin (p1:=(s.aA,.row t z)::p) ix c1 c2 (R.add tV ⟨v',R.new v',l2⟩) h1
     ·exact absurd h aw.bad
    ·exact absurd h aw.bad
   ·rename_i q y _ kA mT
    split at h
    ·rename_i t x hm
     split at h
     ·rename_i kO ae ai
      obtain⟨z,aP,h⟩:=aw.bL h;have gI:aX (p++s.mem) q=some (.row t x):=by rw[wR,hm]
      obtain⟨cR,fR,Fi⟩:∃v,ρ[q]? =some v/\dS b (U.es t) (U.enc t) v x (G q):=R.mem q _ gI
      have dY:ba aM σ cQ=cR:=by
       have:=cf kg bk kA;cases this with
       |row h1=>rw[fR]at h1;exact(xm h1).symm
      have dT:=dm ae;subst dT;obtain⟨aeC,bM,dC⟩:=R.rep gI;obtain⟨v',H1,bm,m',c1,c2,ix,l2,tV⟩:=RB (ab:=ab) (b:=b) hb aeC aP R.own bM Fi dY (w2 ai (cf kg bk mT)) (aK.bS t) (aK.ok t);have eZ:=dC (c:=.row t z) (bU:=s.bU) ⟨v',R.new v',l2⟩ tV;have bz:hq q s.aA (.row t z) (p++s.mem)=hq q s.aA (.row t z) p++s.mem:=SU hm;have py:bB U b F fs {s with mem:=hq q s.aA (.row t z) p++s.mem,aA:=s.aA+1} σ H1 (fun q=>if q=s.aA then m' else G q) (ρ++[v']):=by rw[<-bz];exact eZ
      exact fin ix c1 c2 py h
     ·exact absurd h aw.bad
    ·exact absurd h aw.bad
   ·rename_i x t y aji kA mT
    split at h
    ·rename_i ae ai
     obtain⟨z,aP,h⟩:=aw.bL h;have dT:=dm ae;subst dT
     have hy:ba aM σ ez=b4 (U.es t) (U.enc t) y:=by
      have:=cf kg bk mT;generalize ba aM σ ez=He at this;cases this;rfl
     obtain⟨v',H1,bm,m',c1,c2,ix,l2,tV⟩:=RB (ab:=ab) (b:=b) hb 0 aP (R.own.ins 0) rfl dz.emp (si ai (cf kg bk kA)) hy (aK.bS t) (aK.ok t);exact fin (p1:=(s.aA,.row t z)::p) ix c1 c2 (R.add tV ⟨v',R.new v',l2⟩) h
    ·exact absurd h aw.bad
   ·exact absurd h aw.bad
  ·rename_i cC yF qq
   obtain⟨dA,s1,fZ,cz,q1,q2,py,fC,mG,qx,yo⟩:=zo aK aw hT af h kg bk;have w6:cK s1 G F=cK s G F:=by unfold cK;rw[qx]
   obtain⟨BL,s2,cN,aeD,lC,cT,a7,oT,bs,ae,ai,bz,cn,dG,gW,oL⟩:=zp aK aw hT af q2 (R.aeA py qx yo mG.aB) fC hb;rw[w6]at ae;refine⟨BL,s2,cN,aeD,lC,cT,a7,oT,[false]++bs,hg.append (jg.adf q1) ae,by simpa using ai,bz,cn,dG,mG.trans gW,oL.trans qx⟩
theorem aeE{A:Type}[aF A]{S:A->Prop}(aK:eJ U)(aw:jB S)(hT:mR ab cx)(af:∀j f,nth cx.fv j=some f->∃w,fs[j]? =some w/\kC ab F f.c6 f.rt f.f w){ops:List bl}{dw:List Nat}{n:Nat}{k:a1 U->A}{Q:X->bt->Heap->Prop}
  (h:S (RM cx dw ops n s k)) (R:bB U b F fs s σ H G ρ) (bE:∀ao bn H' G' b2,S (k ao)->bB U b F fs ao bn H' G' b2->ρ <+: b2->Fr s ao->Q .normal bn H'):e6 ab b (.region ops (some dw)) σ H Q:=by
 refine adh (ms:=cK s G F) (CX n ops) R.own fun hb=> ?_;obtain⟨dA,s1,p1,fZ,cz,H1,az,eK,aG,ae,ai,bz,cn,dG,gW,oL⟩:=zp (aM:=pC) (p:=[]) aK aw hT af h R (fun t v q=>by cases q) hb;rw[ij]at ai;refine⟨fZ,cz,H1,aG,ae,fun w' hw=> ?_⟩;have f1:Fr s1 {s1 with mem:=p1++s1.mem}:=⟨fun _ _=>rfl,fun _ h=>h,fun _ h=>h,db,aI _,fun o w cs hm=>⟨cs,bz.HQ hm,rfl,fun _ _=>rfl⟩,fun o c hc hm=>.inl (bz.HQ hm)⟩;refine uP aK aw hT af ai hw.rev bz cn fun ao bn H' G' b2 wr jT av a2 aeF a4 a5=> ?_;split at av
 ·rename_i e
  exact⟨adg a2 e,bE _ _ _ _ _ av aeF (dG.trans a4) (gW.trans (f1.trans a5))⟩
 ·exact absurd av aw.bad
theorem aeG{c:bP}{Q:X->bt->Heap->Prop}(h:e6 ab b c σ H (andThen ab b (.loop c) Q)):e6 ab b (.loop c) σ H Q:=fun ax low h1 h2 aq=>by
 obtain⟨x,dQ,H',low',bn,ae,ai,bz,cn,dG⟩:=h ax low h1 h2 aq;rw[vk,ae];cases x with
 |normal=>exact dG dQ low' ai bz cn
 |exit i=>exact⟨_,_,_,_,bn,rfl,ai,bz,cn,dG⟩
 |ret=>exact⟨_,_,_,_,bn,rfl,ai,bz,cn,dG⟩
theorem SV (aK:eJ U){f:h8 U->{A:Type}->[aF A]->a1 U->(X->a1 U->A)->A}{a:bP}(ih:∀{an:h8 U} {A:Type} [aF A] {S:A->Prop},jB S->∀{s:a1 U} {k:X->a1 U->A} {σ:bt} {H:Heap} {G:Nat->List (Nat × bd)} {ρ:List V} {Q:X->bt->Heap->Prop},S (f an s k)->bB U b F fs s σ H G ρ->
   (∀x ao bn H' G' b2,S (k x ao)->bB U b F fs ao bn H' G' b2->ρ <+: b2->Fr s ao->Q x bn H')->e6 ab b a σ H Q) {hd:kd U} {os:sg U} {x:h8 U} {A:Type} [aF A] {S:A->Prop} (aw:jB S) {s:a1 U} {k:X->a1 U->A} {σ:bt} {H:Heap} {G:Nat->List (Nat × bd)} {ρ:List V} {Q:X->bt->Heap->Prop}
  (h:S (B8 f (hK a) hd os x s k)) (R:bB U b F fs s σ H G ρ) (bE:∀x ao bn H' G' b2,S (k x ao)->bB U b F fs ao bn H' G' b2->ρ <+: b2->Fr s ao->Q x bn H'):e6 ab b (.loop a) σ H Q:=by
 unfold B8 at h;split at h
 ·exact absurd h aw.bad
 ·rename_i aeH aeI
  obtain⟨o,ho,h⟩:=aw.bL h
  refine jz _ (fun st bn H'=>∃G' b2,bB U b F fs (fresh (enter (hK a) [] hd st s)) bn H' G' b2/\ρ <+: b2)
   (fun o x bn H'=>∃s2 G' b2,(S (leave (eC hd++hK a) (fX hd) s k os o)->S (k x s2))/\bB U b F fs s2 bn H' G' b2/\ρ <+: b2/\Fr s s2) ho ?_ ?_ ?_
  ·obtain⟨G',b2,bq,cc⟩:=Ct (W:=hK a) (M:=[]) aK R R db .rfl aeI
   exact⟨G',b2,bq.Cs,cc⟩
  ·rintro st cz H1 r ⟨az,eK,bH,SX⟩ hr
   refine ih (Ha r) hr bH fun fA s2 lC cT a7 oT av a2 a3 a4=> ?_
   have base:fY (eC hd++hK a) ([]++fX hd) s (fresh (enter (hK a) [] hd st s)):=by
    have:=SG (W:=hK a) (M:=[]) R.lt (x:=st);exact⟨this.vs,this.aB,this.aA,this.mem,this.row⟩
   have lq:s.aA<=(fresh (enter (hK a) [] hd st s)).aA:=base.aA
   have SY:∀{y:uw U (uz os)},uA s.aB.length s.aA (eC hd++hK a) (fX hd) fA s2 os=some y->∃kU G' b2,(S (leave (eC hd++hK a) (fX hd) s k os y)->S (k fA kU))/\bB U b F fs kU lC cT G' b2/\ρ <+: b2/\Fr s kU:=by
    intro y hy;obtain⟨sh,z,g1,g2⟩:=HK (S:=S) (s:=s) (k:=k) hy;obtain⟨q1,q2,dk⟩:=HJ g1
    have fi:fY (eC sh++(eC hd++hK a)) (fX hd++fX sh) s s2:=
     base.SN (by simp) a4 R.lt (fun t ht=>lO _ ht) (fun p hp=>sG _ (by simpa using hp)) (fun t ht=>lO _ (q1 t ht)) q2
    obtain⟨G',b2,bq,cc⟩:=Ct aK R a2 (SX.trans a3) fi dk;exact⟨_,G',b2,g2,bq,cc,SH R.lt⟩
   cases fA with
   |normal=>
    simp only at av;split at av
    ·rename_i y hy
     cases av;obtain⟨q1,q2,dk⟩:=HJ hy;have fi:fY (eC hd++hK a) ([]++fX hd) s s2:=base.SN (by simp) a4 R.lt (fun _ h=>h) (fun _ h=>h) (fun t ht=>lO _ (q1 t ht)) q2;obtain⟨G',b2,bq,cc⟩:=Ct aK R a2 (SX.trans a3) fi dk;exact⟨rfl,G',b2,bq.Cs,cc⟩
    ·cases av
   |exit i=>
    simp only at av;split at av
    ·rename_i y hy;cases av;exact⟨nofun,SY hy⟩
    ·cases av
   |ret=>
    simp only at av;split at av
    ·rename_i y hy;cases av;exact⟨nofun,SY hy⟩
    ·cases av
  ·rintro fA cz H1 ⟨s2,a7,oT,c1,c2,ix,l2⟩
   exact bE _ _ _ _ _ _ (c1 h) c2 ix l2
set_option maxHeartbeats 1000000 in
theorem pP (aK:eJ U)(hT:mR ab cx)(af:∀j f,nth cx.fv j=some f->∃w,fs[j]? =some w/\kC ab F f.c6 f.rt f.f w):
  ∀{c:bP} {an:h8 U} {A:Type} [aF A] {S:A->Prop},jB S->∀{s:a1 U} {k:X->a1 U->A} {σ:bt} {H:Heap} {G:Nat->List (Nat × bd)} {ρ:List V} {Q:X->bt->Heap->Prop},S (h9 cx c an s k)->bB U b F fs s σ H G ρ->
   (∀x ao bn H' G' b2,S (k x ao)->bB U b F fs ao bn H' G' b2->ρ <+: b2->Fr s ao->Q x bn H')->e6 ab b c σ H Q
 | .skip,an,A,_,S,aw,s,k,σ,H,G,ρ,Q,h,R,bE=>acf (bE _ _ _ _ _ _ h R db .rfl)
 | .ret,an,A,_,S,aw,s,k,σ,H,G,ρ,Q,h,R,bE=>acg (bE _ _ _ _ _ _ h R db .rfl)
 | .exit i,an,A,_,S,aw,s,k,σ,H,G,ρ,Q,h,R,bE=>ach (bE _ _ _ _ _ _ h R db .rfl)
 | .region ops dw,an,A,_,S,aw,s,k,σ,H,G,ρ,Q,h,R,bE=>by
   unfold h9 at h;split at h
   ·exact aey (k:=fun s=>k .normal s) aK aw hT af h R fun ao bn H' G' b2 av a2 a3 a4=>bE _ _ _ _ _ _ av a2 a3 a4
   ·exact aeE (k:=fun s=>k .normal s) aK aw hT af h R fun ao bn H' G' b2 av a2 a3 a4=>bE _ _ _ _ _ _ av a2 a3 a4
   ·exact SM (k:=fun s=>k .normal s) aK aw hT af h R fun ao bn H' G' b2 av a2 a3 a4=>bE _ _ _ _ _ _ av a2 a3 a4
 | .seq a c,an,A,_,S,aw,s,k,σ,H,G,ρ,Q,h,R,bE=>by
   have snd:∀{y:h8 U} {x:X} {ao:a1 U} {bn:bt} {H':Heap} {G':Nat->List (Nat × bd)} {b2:List V},S (match x with| .normal=>h9 cx c y ao k|x=>k x ao)->bB U b F fs ao bn H' G' b2->ρ <+: b2->Fr s ao->andThen ab b c Q x bn H':=by
    intro y x ao bn H' G' b2 av a2 a3 a4;cases x with
    |normal=>exact pP aK hT af aw av a2 fun x s2 lC cT a7 oT b1 fB lK l0=>bE _ _ _ _ _ _ b1 fB (a3.trans lK) (a4.trans l0)
    |exit i=>exact bE _ _ _ _ _ _ av a2 a3 a4
    |ret=>exact bE _ _ _ _ _ _ av a2 a3 a4
   unfold h9 at h;split at h
   ·rename_i os x y
    obtain⟨o,ho,h⟩:=aw.bL h;refine Gm (pP aK hT af (Ha o) ho R.Cs fun fA s1 cz H1 az eK av a2 a3 a4=> ?_);obtain⟨sh,z,g1,g2⟩:=HK (S:=S) (s:=s) (k:=fun x ao=>match x with| .normal=>h9 cx c y ao k|x=>k x ao) av;obtain⟨q1,q2,dk⟩:=HJ g1
    have fi:fY (eC sh++hK a) ([]++fX sh) s s1:=by
     have:=a4.fi (W:=eC sh++hK a) (M:=[]++fX sh) R.lt (fun t ht=>lO _ (q1 t ht)) q2;exact⟨this.vs,this.aB,this.aA,this.mem,this.row⟩
    obtain⟨G',b2,bq,cc⟩:=Ct aK R a2 a3 fi dk;exact snd (g2 h) bq cc (SH R.lt)
   ·rename_i sl y
    split at h
    ·rename_i ops dw
     unfold RN at h;split at h
     ·rename_i hw
      obtain⟨s1,p1,cN,ei⟩:=HM hw;refine Gm (SM (S:=fun q:lD (a1 U)=>q.val=some s1) (k:=fun s=>lD.leaf s) (s:={s with c3:=[],bU:=[]}) aK (adL s1) hT af p1 R.SR fun ao bn H' G' b2 av a2 a3 a4=> ?_);cases av
      have fi:fY (lG ops) [] s s1:=by
       have:=a4.fi (W:=lG ops) (M:=[]) R.lt cN (fun o j q=>by rw[ei]at q;cases q);exact⟨this.vs,this.aB,this.aA,this.mem,this.row⟩
      have hb:=SA R a2 a3 fi;have tD:bB U b F fs {blank (lG ops) [] s with c3:=sl++(lG ops++s.c3)} bn H' G' ρ:=hb.SR;obtain⟨hL,ae,ai,bz,cn,dG⟩:=SL aw a2 a3 fi.aB p1 tD (db) (by rw[R.aA];exact h)
      have w:fY (sl++(lG ops++s.c3)) [] s hL:=by
       have aG:=(Sy (s:=s) (W:=lG ops) (M:=[])).wide (W':=sl++(lG ops++s.c3)) (M':=[]) (fun t ht=>lO _ (sG _ ht)) (fun _ q=>q);have bs:=bz.wide (W':=sl++(lG ops++s.c3)) (M':=[]) (fun t ht=>sG _ ht) (fun _ q=>q);exact fY.trans (s1:={blank (lG ops) [] s with c3:=sl++(lG ops++s.c3)}) ⟨aG.vs,aG.aB,aG.aA,aG.mem,aG.row⟩ bs
      refine snd (x:=.normal) ae ai db ⟨fun t ht=>w.vs t fun q=>ht (by rw[cn];exact q),fun t ht=>by rw[cn];exact lO _ (lO _ ht),fun q a8=>by rw[dG];exact a8,w.aB,w.aA,fun o wr cs hm=> ?_,fun o aJ hc hm=>.inl ((w.row o aJ hc hm).resolve_right (by simp))⟩;obtain⟨ey,m1,m2,m3⟩:=w.mem o wr cs hm;exact⟨ey,m1,m2,fun j _=>m3 j (by simp)⟩
     ·exact absurd h aw.bad
    ·exact absurd h aw.bad
   ·exact Gm (pP aK hT af aw h R fun x ao bn H' G' b2 av a2 a3 a4=>snd av a2 a3 a4)
 | .cond x a c,an,A,_,S,aw,s,k,σ,H,G,ρ,Q,h,R,bE=>by
   simp only[h9]at h;split at h
   ·exact absurd h aw.bad
   ·rename_i v ad
    obtain⟨β,s1,ae,ai,bz,cn⟩:=wV aw h R.dh (cf (aM:=pC) R (fun t v q=>by cases q) ad);rcases cn with⟨rfl,h⟩|⟨rfl,h⟩
    ·exact aci ae rfl (pP aK hT af aw h (R.eg ai) fun x s2 lC cT a7 oT b1 fB lK l0=>bE _ _ _ _ _ _ b1 fB lK (ai.bD.trans l0))
    ·exact acj ae rfl (pP aK hT af aw h (R.eg ai) fun x s2 lC cT a7 oT b1 fB lK l0=>bE _ _ _ _ _ _ b1 fB lK (ai.bD.trans l0))
 | .block id a,an,A,_,S,aw,s,k,σ,H,G,ρ,Q,h,R,bE=>by
   simp only[h9]at h;exact ack (pP aK hT af aw h R fun x s2 lC cT a7 oT b1 fB lK l0=>bE _ _ _ _ _ _ b1 fB lK l0)
 | .loop a,an,A,_,S,aw,s,k,σ,H,G,ρ,Q,h,R,bE=>by
   unfold h9 at h;split at h
   ·exact SV aK (fun {_ _ _ _} aw {_ _ _ _ _ _ _} h R bE=>pP aK hT af aw h R bE) aw h R bE
   ·refine aeG (pP aK hT af aw h R fun x ao bn H' G' b2 av a2 a3 a4=> ?_)
    cases x with
    |normal=>exact SV aK (fun {_ _ _ _} aw {_ _ _ _ _ _ _} h R bE=>pP aK hT af aw h R bE) aw av a2 fun x s2 lC cT a7 oT b1 fB lK l0=>bE _ _ _ _ _ _ b1 fB (a3.trans lK) (a4.trans l0)
    |exit i=>exact bE _ _ _ _ _ _ av a2 a3 a4
    |ret=>exact bE _ _ _ _ _ _ av a2 a3 a4
   ·exact absurd h aw.bad
 | .sT ..,an,A,_,S,aw,s,k,σ,H,G,ρ,Q,h,R,bE=>absurd h (by unfold h9;exact aw.bad)
 | .rangeFunc ..,an,A,_,S,aw,s,k,σ,H,G,ρ,Q,h,R,bE=>absurd h (by unfold h9;exact aw.bad)
 | .fail,an,A,_,S,aw,s,k,σ,H,G,ρ,Q,h,R,bE=>absurd h (by unfold h9;exact aw.bad)
end
end Go.Abs.fM
namespace Go.Abs.fM
open Go Go.Abs
section
variable{U:fW}{b:Nat}{F:bV}{fs:List V}{s ao:a1 U}{σ:bt}{H:Heap}{G:Nat->List (Nat × bd)}{ρ:List V}{ab:Nat->Option bQ}
theorem HS:∀(vs:List V) (i j:Nat) (v:V),vs[j]? =some v->sb i vs (i+j)=v
 |[],_,_,_,h=>by simp at h
 |u::r,i,0,v,h=>by simp at h;subst h;exact wH _ _ _
 |u::r,i,j+1,v,h=>by
  simp at h;rw[sb,wI _ _ (by omega),show i+(j+1)=i+1+j by omega];exact HS r (i+1) j v h
theorem HT{F:bV}:∀{aC:List jA} {a:kB U aC} {ws:List V},nV ab F aC a ws->ws.length=aC.length
 |[],_,_,h=>by cases h;rfl
 | .v t::aC,x,_,⟨dD,e,r⟩=>by subst e;simp[HT r]
 | .f _ _::aC,x,_,⟨w,dD,e,_,r⟩=>by subst e;simp[HT r]
def w7:List jA->List V->List V
 | .v _::r,_::ws=>w7 r ws
 | .f _ _::r,w::ws=>w::w7 r ws
 | _,_=>[]
def SZ (ab:Nat->Option bQ)(F:bV)(fs:List V)(l:List (yZ U)):Prop:=∀j f,nth l j=some f->∃w,fs[j]? =some w/\kC ab F f.c6 f.rt f.f w
theorem HU (aK:eJ U):∀{aC:List jA} {x:kB U aC} {ws:List V} {j:Nat} {s:a1 U} {l:List (yZ U)} {pre:List V},nV ab F aC x ws->(∀i w,ws[i]? =some w->σ (j+i)=w)->fs=pre++w7 aC ws->pre.length=l.length->SZ ab F fs l->bB U b F fs s σ H G ρ->
  bB U b F fs (uB aC x j s l).1 σ H G ρ/\SZ ab F fs (uB aC x j s l).2/\(uB aC x j s l).1.mem=s.mem/\(uB aC x j s l).1.aA=s.aA
 |[],x,ws,j,s,l,pre,hA,mV,af,hp,hl,R=>⟨R,hl,rfl,rfl⟩
 | .v t::aC,x,ws,j,s,l,pre,⟨dD,e,r⟩,mV,af,hp,hl,R=>by
   subst e;have h0:=mV 0 _ rfl;have kR:=w4 (R.eg (Cd (U.oM t x.1))) (l:=.s j) (w:=U.enc t x.1) h0.symm (aK.e7 t x.1 s.aB ρ fs);exact HU (aC:=aC) (x:=x.2) (ws:=dD) (j:=j+1) (l:=l) aK r (fun i w h=>by have:=mV (i+1) w (by simpa using h);rwa [zR,n9]) af hp hl kR
 | .f c6 rt::aC,x,ws,j,s,l,pre,⟨w,dD,e,q,r⟩,mV,af,hp,hl,R=>by
   subst e;have h0:=mV 0 _ rfl
   have hj:fs[l.length]? =some w:=by
    rw[af,<-hp,sD (aI _)];simp[w7]
   have kR:=w4 R (l:=.s j) (w:=w) (v:=.fv l.length) h0.symm (.fv hj);refine HU (aC:=aC) (x:=x.2) (ws:=dD) (j:=j+1) (l:=l++[⟨c6,rt,x.1⟩]) aK (pre:=pre++[w]) r (fun i w h=>by have:=mV (i+1) w (by simpa using h);rwa [zR,n9]) (by rw[af];simp[w7]) (by simp[hp]) (fun k g hk=> ?_) kR;rw[qQ]at hk;rcases fF k l.length with aY|hge
   ·rw[ft aY]at hk
    exact hl k g (by rw[qQ];exact hk)
   ·rw[sD hge]at hk
    cases hd:k-l.length with
    |zero=>
     rw[hd]at hk;cases hk;have:k=l.length:=by omega
     subst this;exact⟨w,hj,q⟩
    |succ n=>rw[hd]at hk;simp at hk
theorem S0 (aK:eJ U):∀{bc:List Nat} {c:c4 U bc} {aC:List Nat} {j:Nat} {s ao:a1 U} {G:Nat->List (Nat × bd)} {ρ:List V},B9 bc c j s=some ao->aC.length=bc.length->(∀i a,aC[i]? =some a->σ (j+i)=.ptr a 0)->Own H (s.mem.map (fun e=>G e.1)++(uH bc c aC++F))->bB U b F fs s σ H G ρ->
  ∃G' b2,bB U b F fs ao σ H G' b2
 |[],c,aC,j,s,ao,G,ρ,h,hl,mV,hO,R=>by cases h;exact⟨G,ρ,R⟩
 |t::bc,c,[],j,s,ao,G,ρ,h,hl,mV,hO,R=>by cases hl
 |t::bc,c,a::aC,j,s,ao,G,ρ,h,hl,mV,hO,R=>by
  simp only[B9]at h;split at h
  ·cases h
  ·rename_i cs hc
   have en:=uD (ρ:=ρ) (fs:=fs) hc (aK.e7 t (lE bc c) s.aB ρ fs);have h0:=mV 0 _ rfl;refine S0 aK (G:=fun o=>if o=s.aA then[(a,.cells (aL (U.enc t (lE bc c))))]else G o) (ρ:=ρ++[.ptr a 0]) h (by simpa using hl) (fun i bg hi=>by have:=mV (i+1) bg (by simpa using hi);rwa [zR,n9]) ?_ ?_
   ·have e:(s.mem.map fun e=>if e.1=s.aA then[(a,bd.cells (aL (U.enc t (lE bc c))))]else G e.1)=s.mem.map fun e=>G e.1:=
     mW fun e he=>by rw[if_neg (mo (R.lt e he))]
    simp only[hM,e,cW,hP,if_pos,jl,List.singleton_append];exact hO
   ·have S1:(ρ++[V.ptr a 0])[s.aA]? =some (.ptr a 0):=by rw[sD (by rw[R.aA];exact aI _),R.aA];simp
    refine⟨by simp[R.aA],fun k v hk=> ?_,?_,?_,fun e he=> ?_,fun o aJ ho=> ?_,fun i β hk=>ji (fl _ _) (R.dh i β hk)⟩
    ·have hk:aX ((j,.ptr s.aA 0)::s.vs) k=some v:=hk
     rw[eG]at hk;split at hk
     ·rename_i e;cases hk;subst e
      rw[show σ j=.ptr a 0 from h0];exact .ptr S1
     ·exact(R.vs k v hk).mono (fl _ _) (fl _ _)
    ·have e:(s.mem.map fun e=>if e.1=s.aA then[(a,bd.cells (aL (U.enc t (lE bc c))))]else G e.1)=s.mem.map fun e=>G e.1:=
      mW fun e he=>by rw[if_neg (mo (R.lt e he))]
     unfold cK;simp only[hM,e,cW,hP,if_pos,jl,List.singleton_append];refine hO.sub (List.Sublist.append (C8 _) ?_);simp only[uH,kE];exact List.Sublist.cons_cons _ (xi _ _)
    ·simp only[hM,cW,hP]
     refine ra.2 ⟨R.cI,by simp,fun x hx y hy=> ?_⟩;obtain⟨e,he,q⟩:=dn.1 hx;simp only[oZ]at hy;subst hy;rw[<-q];exact mo (R.lt e he)
    ·rcases hN.1 he with he|he
     ·exact C6 (R.lt e he)
     ·simp only[oZ]at he;subst he;exact xk _
    ·have ho:aX (s.mem++[(s.aA,bC.cells false cs)]) o=some aJ:=ho
     rw[wR]at ho;cases hm:aX s.mem o with
     |some c'=>
      rw[hm]at ho;cases ho;have:=(R.mem o aJ hm).mono (fl s.aB (U.oM t (lE bc c))) (fl ρ [.ptr a 0]);simp only[mo (R.lt _ (gD hm)),if_false];exact this
     |none=>
      rw[hm]at ho;simp only at ho;rw[eG]at ho;split at ho
      ·rename_i e
       cases ho;subst e;exact⟨a,_,S1,by simp,en.mono db (fl _ _),fun q=>by cases q⟩
      ·cases ho
theorem S2 (R:bB U b F fs s σ H G ρ):∀{rs:List ki} {vs:List (aD U.ar)},y6 s rs=some vs->∃us,pD σ H rs us/\bT U s.aB ρ fs vs us
 |[],_,h=>by cases h;exact⟨[],.nil,.nil⟩
 |r::rs,vs,h=>by
  simp only[y6]at h;split at h
  ·cases h
  ·rename_i v ad
   split at h
   ·cases h
   ·rename_i l hl
    cases h;obtain⟨us,h1,h2⟩:=S2 R hl;cases r with
    |tmp t=>exact⟨_,.tmp rfl h1,.cons (R.vs t v ad) h2⟩
    |cell a sh=>
     simp only at ad;split at ad
     ·rename_i o f ha
      split at ad
      ·rename_i w cs hm
       have fR:=R.vs a _ ha;generalize hw:σ a=w at fR;cases fR with
       |ptr ho=>
        obtain⟨q,ws,q1,q2,dk,fC,-⟩:=R.cells hm;rw[q1]at ho;cases ho;obtain⟨u,c1,c2⟩:=zb ad fC;exact⟨_,.cell hw (dk H R.own) c1 h1,.cons c2 h2⟩
      ·cases ad
     ·cases ad
theorem S3 (aK:eJ U):∀(bc:List Nat) (x:c4 U bc),cB (gn bc x)=true
 |[],_=>rfl
 |t::r,x=>by simp only[gn,cB,aK.bS,S3 aK r,z1]
theorem aeJ (aK:eJ U)(bc:List Nat)(x:c4 U bc):bS (jW bc x)=true:=by
 unfold jW;have h:=S3 aK bc x;generalize gn bc x=us at h
 match us with
 |[]=>rfl
 |[u]=>simpa[cB,one]using h
 | _::_::_=>exact h
theorem S4{f:List (Nat × bC U)->aD U.ar->Option (aD U.ar × List (Nat × bC U))}:∀{vs vs':List (aD U.ar)} {m m':List (Nat × bC U)},pH f m vs=some (vs',m')->vs'.length=vs.length
 |[],_,_,_,h=>by cases h;rfl
 |v::r,_,_,_,h=>by
  simp only[pH]at h;split at h
  ·cases h
  ·split at h
   ·cases h
   ·rename_i e;cases h;simp[S4 e]
theorem S5 (aK:eJ U){T:List (eU U)}(hT:∀e∈T,uJ ab e)(e:eU U){f:gR}(cy:ab e.id=some (.code f))(ty:List (Nat × Nat))(cl:List (Nat × Nat × Nat))(nz:∀q∈cl,sj U ab q.1 q.2)(bD:List (eU U))(aeK:∀e∈bD,x5 ab e)(an:h8 U)
  (dL:f.fresh=false) (hn:Nat.ble (e.args.length+e.caps.length) f.sU=true) (h:∀c a,e.fn c a=Ca T ty cl bD f an e.caps e.args e.res c a):uJ ab e:=by
 intro H F c a aC ws r hlen hO hA hr;rw[h]at hr;unfold Ca at hr;have hl:=HT hA;have mV:∀i w,ws[i]? =some w->sb 0 (ws++uI aC) (0+i)=w:=fun i w hi=>HS _ 0 i w (by rw[ft (fu.1 hi).1];exact hi)
 have kg:bB U H.length F (w7 e.args ws) pJ (sb 0 (ws++uI aC)) H (fun _=>[]) []:=
  ⟨rfl,fun _ _ q=>(by cases q),hO.sub (xi _ _),zZ,fun _ q=>(by cases q),fun _ _ q=>(by cases q),fun _ _ q=>(by cases q)⟩
 obtain⟨bH,f1,m1,-⟩:=HU (pre:=[]) (l:=[]) aK hA mV rfl rfl (fun j f q=>by simp[nth]at q) kg;split at hr;rename_i s1 fv aeL;rw[aeL]at bH f1 m1;split at hr
 ·cases hr
 ·rename_i s2 aeM
  obtain⟨a7,oT,eZ⟩:=S0 aK (σ:=sb 0 (ws++uI aC)) aeM hlen (fun i x hi=>by
   rw[<-hl];have:=HS (ws++uI aC) 0 (ws.length+i) (.ptr x 0) (by rw[sD (Da _ _)];simp[hi]);rwa [dK]at this) (by rw[m1];exact hO) bH
  refine acJ (caps:=uI aC) cy ?_ dL ?_ (aeJ aK _ _)
  ·simp only[fO,eA,hl,hlen]
   exact mj hn
  ·refine pP aK (cx:=⟨T,fv,ty,cl,bD⟩) ⟨hT,nz,aeK⟩ f1 (Ha r) hr eZ fun x ao bn H' G' b2 av a2 a3 a4=> ?_
   have fin:(match y6 ao f.results with
     |some vs=>G2 ao e.res vs
     |none=>none)=some r->Gv f.results bn H' H.length (jW e.res r):=fun h=>by
    split at h
    ·rename_i vs cO
     obtain⟨us,gf,iu⟩:=S2 a2 cO;unfold G2 at h;split at h
     ·rename_i v
      cases iu with
      |cons ad hr=>
       cases hr;split at h
       ·rename_i v' m' aP
        obtain⟨w',a7,dI,z2,-⟩:=w1 (F:=F) aK a2.uM aP ad;have:=Cg aK h (.cons z2 .nil);have ae:jW e.res r=w':=by unfold jW;rw[<-this];rfl
        rw[ae];exact Re gf rfl a2.own dI
       ·cases h
     ·rename_i bb
      split at h
      ·rename_i vs' m' aP
       obtain⟨dD,a7,dI,z2,-⟩:=w0 (F:=F) (w1 aK) a2.uM aP iu;have:=Cg aK h z2;have dH:=iu.length;have rH:=z2.length;have aeN:=S4 aP
       have jS:∀{l:List V},l.length=vs.length->one l=.aR l:=fun {l} hl=>by
        match l,hl with
        |[],_=>rfl
        |[w],hl=>
         match vs,hl,bb with
         |[v],_,bb=>exact absurd rfl (bb v)
        | _::_::_,_=>rfl
       have ae:jW e.res r=.aR dD:=by
        unfold jW;rw[<-this];exact jS (by rw[<-rH,aeN])
       rw[ae];exact Re gf (jS dH.symm) a2.own (Se dI)
      ·cases h
    ·cases h
   cases x with
   |exit i=>cases av
   |normal=>exact⟨.inl rfl,fin av⟩
   |ret=>exact⟨.inr rfl,fin av⟩
variable{B:List Bool}{v:aD U.ar}{w:V}
theorem bp.aeO{i:Nat}{c:Bool}(h:B[i]? =some c):bp U B ρ fs (.bo i false) (.bool c):=by
 have:bp U B ρ fs (.bo i false) (.bool (c != false)):=.bo h;simpa using this
theorem aeP{l:List Bool}{c:Bool}{i:Nat}(h:l[i]? =some c):(B++l)[B.length+i]? =some c:=by
 rw[sD (Da _ _),Nat.add_sub_cancel_left];exact h
theorem bT.inv{v:aD U.ar}{vs:List (aD U.ar)}{ws:List V}:bT U B ρ fs (v::vs) ws->∃w dD,ws=w::dD/\bp U B ρ fs v w/\bT U B ρ fs vs dD
 | .cons h r=>⟨_,_,rfl,h,r⟩
theorem bT.HV{ws:List V}:bT U B ρ fs [] ws->ws=[]
 | .nil=>rfl
theorem HW{α:Type}(e:Nat)(f:α->V)(l:al α):b7 (aL (b4 e f l))=true:=by simp[b7]
theorem HX{α:Type}(e:Nat)(f:α->V)(l:al α):(aL (b4 e f l)).length=1:=by simp
theorem uV{k:IntKind}{n:Int}(h:qW k v=some n)(ad:bp U B ρ fs v w):w=.int k n:=by
 unfold qW at h;split at h
 ·split at h
  ·rename_i e
   cases h;cases ad;rw[of_decide_eq_true e]
  ·cases h
 ·cases h
theorem aeQ{c:Bool}(h:G3 B v=some c)(ad:bp U B ρ fs v w):w=.bool c:=by
 unfold G3 at h;split at h
 ·cases h;cases ad;rfl
 ·split at h
  ·rename_i c' hc
   rw[qQ]at hc;cases ad with
   |bo hb=>
    rw[hc]at hb;cases hb;split at h<;>cases h<;>simp
  ·cases h
 ·cases h
theorem aeR{s:mK}(h:G4 v=some s)(ad:bp U B ρ fs v w):w=.str s:=by
 unfold G4 at h;split at h
 ·cases h;cases ad;rfl
 ·cases h
theorem Cw{t:Nat}{l:al (U.ar t)}(h:kZ t v=some l)(ad:bp U B ρ fs v w):w=b4 (U.es t) (U.enc t) l:=w2 h ad
theorem HY{R:Type}{f:List (aD U.ar)->Option R}{x:R}(h:y7 f v=some x)(ad:bp U B ρ fs v w):∃vs ws,w=.agg ws/\bT U B ρ fs vs ws/\f vs=some x:=by
 unfold y7 at h;split at h
 ·cases ad with
  |agg ad=>exact⟨_,_,rfl,ad,h⟩
 ·cases h
end
end Go.Abs.fM
namespace Go.Abs.fM
open Go Go.Abs
section
variable{U:fW}{ab:Nat->Option bQ}{T:List (eU U)}
def uW (ab:Nat->Option bQ)(i:Nat):gR:=match ab i with
 |some (.code f)=>f
 | _=>default
def Cx (ab:Nat->Option bQ)(e:eU U):Bool:=match ab e.id with
 |some (.code f)=>!f.fresh&&Nat.ble (e.args.length+e.caps.length) f.sU
 | _=>false
abbrev ib (ab:Nat->Option bQ)(T:List (eU U)):Prop:=∀e∈T,uJ ab e
theorem uX{e:eU U}(h:Cx ab e=true):ab e.id=some (.code (uW ab e.id))/\(uW ab e.id).fresh=false/\Nat.ble (e.args.length+e.caps.length) (uW ab e.id).sU=true:=by
 unfold Cx at h;unfold uW;split at h
 ·rename_i f af
  rw[af];simp only[cH,o1]at h;exact⟨rfl,h.1,h.2⟩
 ·cases h
theorem ib.cons{e:eU U}(hT:ib ab T)(h:uJ ab e):ib ab (e::T):=fun e' he=>by
 rcases cY.1 he with rfl|he
 ·exact h
 ·exact hT e' he
theorem pQ (aK:eJ U){e:eU U}(hT:ib ab T)(ty:List (Nat × Nat))(an:h8 U)(h1:Cx ab e=true)(h2:∀c a,e.fn c a=Ca T ty [] [] (uW ab e.id) an e.caps e.args e.res c a):ib ab (e::T):=
 hT.cons (S5 aK hT e (uX h1).1 ty [] (fun _ q=>by cases q) [] (fun _ q=>by cases q) an (uX h1).2.1 (uX h1).2.2 h2)
theorem aeS (aK:eJ U){e:eU U}(hT:ib ab T)(ty:List (Nat × Nat))(cl:List (Nat × Nat × Nat))(nz:∀q∈cl,sj U ab q.1 q.2)(an:h8 U)(h1:Cx ab e=true)(h2:∀c a,e.fn c a=Ca T ty cl [] (uW ab e.id) an e.caps e.args e.res c a):ib ab (e::T):=
 hT.cons (S5 aK hT e (uX h1).1 ty cl nz [] (fun _ q=>by cases q) an (uX h1).2.1 (uX h1).2.2 h2)
def HZ:(aC:List jA)->kB U aC->List V
 | .v t::r,x=>U.enc t x.1::HZ r x.2
 | _,_=>[]
theorem S6{F:bV}:∀{aC:List jA} {a:kB U aC} {ws:List V},sf aC=true->nV ab F aC a ws->ws=HZ aC a
 |[],_,_,_,h=>h
 | .v t::aC,x,_,hn,⟨dD,e,r⟩=>by rw[e,S6 (aC:=aC) hn r];rfl
 | .f _ _::_,_,_,hn,_=>by cases hn
theorem S7{i:Nat}{args:List jA}{res:List Nat}{fn:kB U args->Option (c4 U res)}(hn:sf args=true)(h:∀H a r,fn a=some r->cp ab (.fn i [] []) (HZ args a) H=some (jW res r,H,H.length)):uJ ab ⟨i,[],args,res,fun _ a=>fn a⟩:=by
 intro H F c a aC ws r h1 h2 aq bf;cases aC with
 |nil=>rw[S6 hn aq];exact h H a r bf
 |cons x xs=>cases h1
theorem ib.hd{e:eU U}(h:ib ab (e::T)):uJ ab e:=h e (k7 ..)
end
end Go.Abs.fM
namespace Go.Proofs
open Go.Shelf
def Tryz.aeT:Go.Shelf.Ren:=⟨fun|6=>20|15=>35|14=>34|28=>69|29=>70|20=>61|21=>62|22=>63|23=>64|24=>65|25=>66|26=>67|27=>68|46=>140|47=>141|48=>142|49=>143|50=>144|57=>222|n=>n,fun|22=>22|24=>59|25=>65|3=>3|39=>94|0=>0|53=>143|55=>145|4=>4|46=>136|45=>135|50=>140|5=>5|9=>9|66=>211|70=>215|76=>276|77=>277|n=>n,fun|n=>n⟩
theorem Tryz.S8:Go.Proofs.SlLaysF0.n6 Tryz.prog Tryz.aeT:={
 mixed:=by kernel_rfl
 f6:=⟨Tryz.f20.name,by decide,Tryz.func20.trans (congrArg some (by kernel_rfl))⟩
 f14:=⟨Tryz.f34.name,by decide,Tryz.func34.trans (congrArg some (by kernel_rfl))⟩
 f15:=Tryz.func35.trans (congrArg some (by kernel_rfl))
 f20:=⟨Tryz.f61.name,by decide,Tryz.func61.trans (congrArg some (by kernel_rfl))⟩
 f21:=⟨Tryz.f62.name,by decide,Tryz.func62.trans (congrArg some (by kernel_rfl))⟩
 f22:=⟨Tryz.f63.name,by decide,Tryz.func63.trans (congrArg some (by kernel_rfl))⟩
 f23:=⟨Tryz.f64.name,by decide,Tryz.func64.trans (congrArg some (by kernel_rfl))⟩
 f24:=⟨Tryz.f65.name,by decide,Tryz.func65.trans (congrArg some (by kernel_rfl))⟩
 f25:=⟨Tryz.f66.name,by decide,Tryz.func66.trans (congrArg some (by kernel_rfl))⟩
 f26:=⟨Tryz.f67.name,by decide,Tryz.func67.trans (congrArg some (by kernel_rfl))⟩
 f27:=⟨Tryz.f68.name,by decide,Tryz.func68.trans (congrArg some (by kernel_rfl))⟩
 f28:=Tryz.func69.trans (congrArg some (by kernel_rfl))
 f29:=Tryz.func70.trans (congrArg some (by kernel_rfl))
 f46:=⟨Tryz.f140.name,by decide,Tryz.func140.trans (congrArg some (by kernel_rfl))⟩
 f47:=Tryz.func141.trans (congrArg some (by kernel_rfl))
 f48:=Tryz.func142.trans (congrArg some (by kernel_rfl))
 f49:=⟨Tryz.f143.name,by decide,Tryz.func143.trans (congrArg some (by kernel_rfl))⟩
 f50:=⟨Tryz.f144.name,by decide,Tryz.func144.trans (congrArg some (by kernel_rfl))⟩
 f57:=⟨Tryz.f222.name,by decide,Tryz.func222.trans (congrArg some (by kernel_rfl))⟩
 t0:=Tryz.underlying0
 a0:=Tryz.isAgg0
 z0:=Tryz.sizeOf0
 v0:=Tryz.zeroValue0
 t3:=Tryz.underlying3
 a3:=Tryz.isAgg3
 z3:=Tryz.sizeOf3
 v3:=Tryz.zeroValue3
 t4:=Tryz.underlying4
 a4:=Tryz.isAgg4
 z4:=Tryz.sizeOf4
 v4:=Tryz.zeroValue4
 t5:=Tryz.underlying5
 a5:=Tryz.isAgg5
 z5:=Tryz.sizeOf5
 v5:=Tryz.zeroValue5
 t9:=Tryz.underlying9
 a9:=Tryz.isAgg9
 z9:=Tryz.sizeOf9
 v9:=Tryz.zeroValue9
 t22:=Tryz.underlying22
 a22:=Tryz.isAgg22
 z22:=Tryz.sizeOf22
 v22:=Tryz.zeroValue22
 t25:=Tryz.underlying65
 a25:=Tryz.isAgg65
 z25:=Tryz.sizeOf65
 v25:=Tryz.zeroValue65
 t39:=Tryz.underlying94
 a39:=Tryz.isAgg94
 z39:=Tryz.sizeOf94
 v39:=Tryz.zeroValue94
 t45:=Tryz.underlying135
 a45:=Tryz.isAgg135
 z45:=Tryz.sizeOf135
 v45:=Tryz.zeroValue135
 t46:=Tryz.underlying136
 a46:=Tryz.isAgg136
 z46:=Tryz.sizeOf136
 v46:=Tryz.zeroValue136
 t50:=Tryz.underlying140
 a50:=Tryz.isAgg140
 z50:=Tryz.sizeOf140
 v50:=Tryz.zeroValue140
 t53:=Tryz.underlying143
 a53:=Tryz.isAgg143
 z53:=Tryz.sizeOf143
 v53:=Tryz.zeroValue143
 t55:=Tryz.underlying145
 a55:=Tryz.isAgg145
 z55:=Tryz.sizeOf145
 v55:=Tryz.zeroValue145
 t66:=Tryz.underlying211
 a66:=Tryz.isAgg211
 z66:=Tryz.sizeOf211
 v66:=Tryz.zeroValue211
 t70:=Tryz.underlying215
 a70:=Tryz.isAgg215
 z70:=Tryz.sizeOf215
 v70:=Tryz.zeroValue215
 t76:=Tryz.underlying276
 a76:=Tryz.isAgg276
 z76:=Tryz.sizeOf276
 v76:=Tryz.zeroValue276
 t77:=Tryz.underlying277
 a77:=Tryz.isAgg277
 z77:=Tryz.sizeOf277
 v77:=Tryz.zeroValue277}
def Tryz.aeU:Go.Shelf.Ren:=⟨fun|5=>22|7=>36|n=>n,fun|22=>3|3=>3|4=>4|n=>n,fun|n=>n⟩
theorem Tryz.aeV:Go.Proofs.SlLaysC2.n5 Tryz.prog Tryz.aeU:={
 mixed:=by kernel_rfl
 f5:=⟨Tryz.f22.name,by decide,Tryz.func22.trans (congrArg some (by kernel_rfl))⟩
 f7:=⟨Tryz.f36.name,by decide,Tryz.func36.trans (congrArg some (by kernel_rfl))⟩
 t3:=Tryz.underlying3
 a3:=Tryz.isAgg3
 z3:=Tryz.sizeOf3
 v3:=Tryz.zeroValue3
 t4:=Tryz.underlying4
 a4:=Tryz.isAgg4
 z4:=Tryz.sizeOf4
 v4:=Tryz.zeroValue4
 t22:=Tryz.underlying3
 a22:=Tryz.isAgg3
 z22:=Tryz.sizeOf3
 v22:=Tryz.zeroValue3}
end Go.Proofs
namespace Go.Abs
open Go Go.Proofs Go.Shelf
variable{C:Ctx}{fid:Nat->Nat}{ρ:Ren}
end Go.Abs
namespace Go.Abs
open Go Go.Proofs Go.Shelf Go.RowKit
section
variable{P:Program}{ρ:Ren}
end
variable{C:Ctx}{fid:Nat->Nat}{ρ:Ren}
end Go.Abs
namespace Go.Abs
open Go Go.Proofs Go.Sort
def e8 (x:Int × Int):V:=.agg [.int .i64 x.1,.int .i64 x.2]
def gO (x:Int × Int):List Value:=[.int .i64 x.1,.int .i64 x.2]
def H0:V->Option (Int × Int)
 | .agg [.int .i64 a,.int .i64 b]=>some (a,b)
 | _=>none
def ss:List V->Option (List (Int × Int))
 |[]=>some []
 |v::r=>match H0 v,ss r with
  |some x,some xs=>some (x::xs)
  | _,_=>none
theorem aeW{v:V}{x:Int × Int}(h:H0 v=some x):v=e8 x:=by
 unfold H0 at h;split at h
 ·cases h;rfl
 ·cases h
theorem H2:∀{ds:List V} {ps:List (Int × Int)},ss ds=some ps->ds=ps.map e8
 |[],ps,h=>by cases h;rfl
 |v::r,ps,h=>by
  simp only[ss]at h;split at h
  ·rename_i x xs h1 h2
   cases h;rw[cW,<-aeW h1,<-H2 h2]
  ·cases h
theorem H3:∀ps:List (Int × Int),ss (ps.map e8)=some ps
 |[]=>rfl
 |p::ps=>by
  rw[cW];simp only[ss];rw[H3 ps];rfl
theorem S9{fid:Nat->Nat}{G:bw}{w:World}:∀(ps:List (Int × Int)),aW fid G w ((ps.map e8).flatMap aL) (ps.flatMap gO)
 |[]=>.nil
 |p::ps=>.cons _ _ _ _ (.p _ _ (.int _ _)) (.cons _ _ _ _ (.p _ _ (.int _ _)) (S9 ps))
theorem Ta{fid:Nat->Nat}{G:bw}{w:World}:∀{ps:List (Int × Int)} {vals:List Value},aW fid G w ((ps.map e8).flatMap aL) vals->vals=ps.flatMap gO
 |[],_,h=>by cases h;rfl
 |p::ps,_,h=>by
  have h:aW fid G w (V.int .i64 p.1::V.int .i64 p.2::(ps.map e8).flatMap aL) _:=h;cases h with
  |cons _ x _ xs h1 h2=>
   cases h2 with
   |cons _ y _ bX aq bf=>
    rw[h1.gH,aq.gH,Ta bf];rfl
theorem Tb:∀(l:List (Int × Int)) (t:Nat),(l.flatMap gO)[t]? =l[t/2]?.map fun x=>(gO x)[t%2]!
 |[],t=>by simp
 |x::l,0=>rfl
 |x::l,1=>rfl
 |x::l,t+2=>by
  have ae:(t+2)/2=t/2+1:=by omega
  have ai:(t+2)%2=t%2:=by omega
  rw[ae,ai,sF,<-Tb l t];rfl
theorem Cy (l:List (Int × Int)):(l.flatMap gO).length=l.length*2:=by
 induction l with
 |nil=>rfl
 |cons x l ih=>rw[j0,fO,ih,iN];show 2+_=_;omega
theorem H4 (d:Array (Int × Int)):(flatK gO 2 d).toList=d.toList.flatMap gO:=by
 refine lP fun t=> ?_;rw[Tb,fN,fN];unfold flatK;rw[Array.getElem?_map];by_cases h:t<d.size*2
 ·have h2:t/2<d.size:=by omega
  rw[Array.getElem?_range,if_pos h,zN h2,lR,lR,getElem!_pos d (t/2) h2]
 ·have h2:¬t/2<d.size:=by omega
  rw[u6 (by simpa using h),u6 (by omega)];rfl
theorem aeX (f c:Array Value)(h:f.size<=c.size):(Sort.putCells id 0 f c).toList=f.toList++c.toList.drop f.size:=by
 refine lP fun t=> ?_;rw[fN];unfold Sort.putCells;rw[Array.getElem?_mapIdx,List.getElem?_append,e9];by_cases ht:t<f.size
 ·rw[if_pos ht,fN,zN (by omega),zN ht,lR,if_pos (by omega),getElem!_pos f (t-0) (by omega)]
  rfl
 ·rw[if_neg ht,C2,fN,show f.size+(t-f.size)=t by omega]
  cases c[t]? with
  |none=>rfl
  |some x=>rw[lR,if_neg (by omega)]
variable{C:Ctx}{fid:Nat->Nat}
def q4 (g:Nat):o8:=fun args H=>match args with
 |[.ak,.fn w8 [] []]=>if w8=g then some (.aR [],[],[])else none
 |[.aN l 2 0 n tag,.fn w8 [] []]=>match H[l]? with
  |some (.row 2 ds false)=>match ss ds with
   |some ps=>if w8=g/\ds.length=n/\n=tag/\n<=2^40/\(ps.map (·.1)).Nodup then some (.aR [],[(l,.row 2 ((jV ps).map e8) false)],[])else none
   |none=>none
  | _=>none
 | _=>none
theorem aeY{g:Nat}{args:List V}{H:Heap}{v:V}{H':Heap}{low:Nat}(h:o9 (q4 g) args H=some (v,H',low)):
  (args=[.ak,.fn g [] []]/\v=.aR []/\H'=H/\low=H.length)\/∃l ps,args=[.aN l 2 0 ps.length ps.length,.fn g [] []]/\H[l]? =some (.row 2 (ps.map e8) false)/\ps.length<=1099511627776/\(ps.map (·.1)).Nodup/\v=.aR []/\H'=H.set l (.row 2 ((jV ps).map e8) false)/\low=min H.length l:=by
 obtain⟨r,hr,he⟩:=bW.1 h;unfold q4 at hr;split at hr
 ·rename_i w8
  split at hr
  ·rename_i hc
   subst hc;cases hr;simp only[rm,sW,List.foldl_nil,lQ,a6]at he;exact .inl ⟨rfl,he.1.symm,he.2.1.symm,he.2.2.symm⟩
  ·cases hr
 ·rename_i l n tag w8
  refine .inr ?_;split at hr
  ·rename_i ds hl
   split at hr
   ·rename_i ps hp
    split at hr
    ·rename_i hc
     obtain⟨rfl,rfl,rfl,hm,hn⟩:=hc;have:=H2 hp;subst this;cases hr;simp only[rm,sW,xl,List.foldl_nil,lQ,a6]at he;rw[eA]at hm;exact⟨l,ps,by rw[eA],hl,hm,hn,he.1.symm,he.2.1.symm,he.2.2.symm⟩
    ·cases hr
   ·cases hr
  ·cases hr
 ·cases hr
theorem aeZ{fU g:Nat}(cP:∀xs w,(callFunc fU xs).run C.P w=.ok (.enter fU xs) w)
  (h0:∀(fv:Value) (w:World),Calls C.P fU #[.slice none 0 0,fv] w fun e w'=>e=.returned (.tuple #[])/\w'=w)
  (aw:∀(cL cap:Nat) (d:Array (Int × Int)) (w:World),HoldsK gO 2 w cL 0 d->cL<w.heap.size->d.size<4611686018427387904->
    Calls C.P fU #[.slice (some ⟨cL,0,none⟩) d.size cap,.func (.func g) #[] #[]] w fun e w'=>e=.returned (.tuple #[])/\∃d' n os,Sort.PermIn 0 d.size d d'/\Sort.SortedIn (ltOf fun x y:Int × Int=>Lib.compareInt x.1 y.1) 0 d.size d'/\w'=sortWorldK gO 2 w cL 0 n d' os):
  v8 C fid fU (q4 g):=by
 intro G H w args v H' low xs aa fR he;rcases aeY he with⟨rfl,rfl,rfl,rfl⟩|⟨l,ps,rfl,hl,hm,hn,rfl,rfl,rfl⟩
 ·obtain⟨x,y,rfl⟩:∃x y,xs=[x,y]:=by
   cases fR with|cons _ x _ xs _ hs=>cases hs with|cons _ y _ bX _ hs=>cases hs;exact⟨x,y,rfl⟩
  have hx:aZ fid G w .ak x:=by cases fR;assumption
  rw[hx.gz];refine⟨?_,_,_,cP _ _⟩;rw[cP];show Calls C.P fU ⟨[.slice none 0 0,y]⟩ w _;refine sP (h0 y w) ?_;rintro e' w' ⟨rfl,rfl⟩;exact⟨_,rfl,G,aa,fun m _=>.refl _ _ _ _,.aR _ _ .nil⟩
 obtain⟨x,y,rfl⟩:∃x y,xs=[x,y]:=by
  cases fR with|cons _ x _ xs _ hs=>cases hs with|cons _ y _ bX _ hs=>cases hs;exact⟨x,y,rfl⟩
 have hx:aZ fid G w (.aN l 2 0 ps.length ps.length) x:=by cases fR;assumption
 have hy:y=.func (.func g) #[] #[]:=by
  cases fR with
  |cons _ x _ xs _ hs=>
   cases hs with
   |cons _ y _ bX h _=>
    cases h with
    |p _ _ h=>cases h with|fn _ _ _ _ _ h1 h2=>cases h1;cases h2;rfl
    |fn _ _ _ _ _ h1 h2=>cases h1;cases h2;rfl
 subst hy;obtain⟨h0,dd,b5,cap,hb,l1,fQ,rfl⟩:=hx.kL;obtain⟨aJ,ho,hr⟩:=aa.obj l h0 hb;rw[hl]at ho;cases ho;obtain⟨ou,xX,hfz,dT,j7,c,e,vals,rest,hc,en,gd,dU⟩:=hr;rw[eA]at ou xX;obtain⟨rfl,rfl,kN,lj⟩:=fQ ou;rw[Nat.zero_mul];have EC:=Ta dU;subst EC;have hblk:h0.b<w.heap.size:=aa.cL l h0 hb
 have du:ps.length*2<=c.size:=by
  rw[<-e9,gd,fO,Cy];omega
 have hH:HoldsK gO 2 w h0.b 0 ps.toArray:=by
  intro j hj;have Gp:j<ps.length*2:=by simpa[flatK]using hj
  refine⟨?_,?_⟩
  ·rw[dK,Lib.cell_of_heap hc,<-fN,gd,ft (by rw[Cy];exact Gp)]
   have:(flatK gO 2 ps.toArray).toList[j]? =some ((flatK gO 2 ps.toArray)[j]!):=by
    rw[fN,getElem!_pos _ j hj,zN hj]
   rw[H4]at this;exact this
  ·rw[dK];exact Lib.frozen_of_heap hc j
 have bh:=aw h0.b cap ps.toArray w hH hblk (by simp;omega);refine⟨?_,_,_,cP _ _⟩;rw[cP];show Calls C.P fU ⟨[.slice (some ⟨h0.b,0,none⟩) ps.length cap,.func (.func g) #[] #[]]⟩ w _;refine sP (by simpa using bh) ?_;rintro e' w' ⟨rfl,d',Tc,ae0,n,os,rfl⟩;have vz:d'.size=ps.length:=by have:=Tc.1;simpa using this
 have H5:d'.toList=jV ps:=by
  refine RP hn ?_ ?_
  ·have aq:=Tc.2.2
   have ae:d'.extract 0 ps.length=d':=by
    rw[<-vz];simp
   have ai:ps.toArray.extract 0 ps.length=ps.toArray:=by simp
   rw[ae,ai]at aq;exact aq
  ·rw[IH]
   intro i j hi hj b9;rw[e9]at hi hj;have aq:=ae0 i j (ct _) b9 (by omega);rw[getElem!_pos d' j hj,getElem!_pos d' i hi]at aq;unfold pK;rw[decide_eq_true_eq,Array.getElem_toList,Array.getElem_toList];unfold ltOf Lib.compareInt at aq;simp only[decide_eq_false_iff_not]at aq;split at aq
   ·omega
   ·split at aq<;>omega
 have ae1:(putRowK gO 2 (Sort.ahead w n) h0.b 0 d').heap[h0.b]? =some (.cells (Sort.putCells id 0 (flatK gO 2 d') c) e (0,0)):=by
  unfold putRowK Sort.putRow Sort.mapBlock;simp only[II,if_true];show(w.heap[h0.b]?).map _=_;rw[hc];rfl
 have rG:∀b,b≠h0.b->(putRowK gO 2 (Sort.ahead w n) h0.b 0 d').heap[b]? =w.heap[b]? :=fun b bb=>by
  unfold putRowK Sort.putRow Sort.mapBlock;simp only[II];rw[if_neg fun q=>bb q.symm];rfl
 have nB:(putRowK gO 2 (Sort.ahead w n) h0.b 0 d').heap.size=w.heap.size:=by
  unfold putRowK Sort.putRow Sort.mapBlock;simp[Sort.ahead]
 have fI:=Ext.write (h':=h0) aa hb hfz rfl (aI _) id rfl nB rG rfl rfl
 have fg:aQ C fid ⟨b0 G.β l h0,G.I⟩ (H.set l (.row 2 ((jV ps).map e8) false)) (putRowK gO 2 (Sort.ahead w n) h0.b 0 d'):=by
  refine aQ.write aa hb hfz rfl hfz (aI _) id rfl nB rG _ ?_;refine⟨by rw[eA,<-H5,e9,vz];exact ou,by rw[eA,<-H5,e9,vz];exact xX,hfz,dT,fun d hd=> ?_,_,e,(jV ps).flatMap gO,rest,ae1,?_,?_,S9 _⟩
  ·obtain⟨x,-,rfl⟩:=dn.1 hd;rfl
  ·rw[en];simp[Sort.putCells]
  ·have Td:(flatK gO 2 d').size=ps.length*2:=by rw[<-e9,H4,Cy,e9,vz]
   rw[aeX _ _ (by rw[Td];exact du),H4,H5,Td,gd,List.drop_left' (by rw[Cy])]
 have nq:(putRowK gO 2 (Sort.ahead w n) h0.b 0 d').heap.size<=(Sort.grow (putRowK gO 2 (Sort.ahead w n) h0.b 0 d') os).heap.size:=by simp[Sort.grow]
 have vF:∀b,b<(putRowK gO 2 (Sort.ahead w n) h0.b 0 d').heap.size->(Sort.grow (putRowK gO 2 (Sort.ahead w n) h0.b 0 d') os).heap[b]? =(putRowK gO 2 (Sort.ahead w n) h0.b 0 d').heap[b]? :=fun b eN=>by
  simp only[Sort.grow];rw[IG eN]
 refine⟨_,rfl,⟨b0 G.β l h0,G.I⟩,fg.restore nq vF,fun m gI=>(fI.le (cA gI (mn _ _)) (aI _)).trans (.restore nq vF rfl rfl m _),.aR _ _ .nil⟩
end Go.Abs
