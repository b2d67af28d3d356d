/- Texts of this claim, joined and written short by a program. -/
import Derived.Test.YtonmjjfciemcoaaGreatDoorP22
import Derived.Test.YtonmjjfciemcoaaGreatDoorP00
set_option linter.unusedVariables false
set_option linter.unusedSimpArgs false
set_option linter.unusedSectionVars false
namespace Go.Abs.gB
open Go Go.Abs
section
variable{U:iQ}
def iM:(ts:List Nat)->ee U ts->List V
 |[],_=>[]
 |t::r,x=>U.enc t (pR r x)::iM r (yZ r x)
def om (ts:List Nat)(x:ee U ts):V:=one (iM ts x)
def BK:(ts:List Nat)->ee U ts->List Nat->cG
 |[],_,_=>[]
 | _::_,_,[]=>[]
 |t::r,x,a::ay=>[(a,.cells (aC (U.enc t (pR r x))))]::BK r (yZ r x) ay
def oo (aa:Nat->Option bU)(F:cG)(dU:List Nat)(rt:Nat)(f:ee U dU->Option (U.ax rt))(w:V):Prop:=
 (∀H low,fF H low w=some (w,H,low))/\∀H z q,Own H F->f z=some q->b0 aa w (iM dU z) H=some (U.enc rt q,H,H.length)
def uu (aa:Nat->Option bU)(F:cG):(ay:List ma)->o0 U ay->List V->Prop
 |[],_,ws=>ws=[]
 | .v t::r,x,ws=>∃eK,ws=U.enc t x.1::eK/\uu aa F r x.2 eK
 | .f dU rt::r,x,ws=>∃w eK,ws=w::eK/\oo aa F dU rt x.1 w/\uu aa F r x.2 eK
abbrev BL (ay:List Nat):List V:=ay.map fun a=>V.ptr a 0
def nD (aa:Nat->Option bU)(e:aX U):Prop:=∀(H:Heap) (F:cG) (c:ee U e.caps) (a:o0 U e.args) (ay:List Nat) (ws:List V) (r:ee U e.res),
 ay.length=e.caps.length->Own H (BK e.caps c ay++F)->uu aa F e.args a ws->e.fn c a=some r->b0 aa (.fn e.id [] (BL ay)) ws H=some (om e.res r,H,H.length)
def sY (U:iQ)(aa:Nat->Option bU)(i:Nat)(p:Nat × Nat):Prop:=match p.2 with
 |0=>LP aa i (U.es p.1)
 |1=>LQ aa i (U.es p.1)
 |gW=>∃n z,aa i=some (.code (sL n (U.es p.1) gW z))/\1<=n
theorem sY.clone{aa:Nat->Option bU}{i:Nat}{p:Nat × Nat}(h:sY U aa i p)(hp:Nat.blt 1 p.2=true):∃n z,aa i=some (.code (sL n (U.es p.1) p.2 z))/\1<=n:=by
 obtain⟨t,n⟩:=p
 match n,hp with
 |n+2,_=>exact h
def rL (aa:Nat->Option bU)(cx:oj U):Prop:=(∀e∈cx.T,nD aa e)/\∀q∈cx.rG,sY U aa q.1 q.2
theorem IA{a:Nat}:∀(r:List Nat) (x:U.ax a) (y:ee U r),pR r (yY r x y)=x
 |[],_,_=>rfl
 | _::_,_,_=>rfl
theorem IB{a:Nat}:∀(r:List Nat) (x:U.ax a) (y:ee U r),yZ r (yY r x y)=y
 |[],_,()=>rfl
 | _::_,_,_=>rfl
variable{b:Nat}{F:cG}{fs:List V}{s ao:bA U}{σ a1:bW}{H:Heap}{G:Nat->List (Nat × b5)}{ρ:List V}{aq:kO U}{A:Type}[aJ A]{S:A->Prop}{aa:Nat->Option bU}{cx:oj U}
theorem MU (aY:gp U){B:List Bool}:∀{ts:List Nat} {vs:List (aO U.ax)} {ws:List V} {x:ee U ts},rH B ts vs=some x->bD U B ρ fs vs ws->ws=iM ts x
 |[],_,_,_,h,.nil=>rfl
 |[],_,_,_,h,.cons _ _=>by cases h
 | _::_,_,_,_,h,.nil=>by cases h
 |t::ts,_,_,_,h,.cons ad r=>by
  simp only[rH]at h;split at h
  ·cases h
  ·rename_i x e
   split at h
   ·cases h
   ·rename_i l ak
    cases h;simp only[iM,IA,IB];rw[aY.jd _ _ _ _ _ _ _ ad e,MU aY ak r]
theorem afn (aY:gp U):∀{ts:List Nat} {x:ee U ts} {s:bA U} {k:List (aO U.ax)->bA U->A},S (elems ts x s k)->∃vs ao,S (k vs ao)/\jJ s ao/\bD U ao.aK ρ fs vs (iM ts x)
 |[],_,s,_,h=>⟨[],s,h,.rfl,.nil⟩
 |t::ts,x,s,k,h=>by
  obtain⟨v,s1,h1,bQ,v1⟩:=BI (ρ:=ρ) (fs:=fs) aY h;obtain⟨vs,s2,h2,c6,v2⟩:=afn aY h1;exact⟨_,s2,h2,bQ.trans c6,.cons (v1.mono c6.aK dW) v2⟩
theorem SP (aY:gp U){ts:List Nat}{x:ee U ts}{k:aO U.ax->bA U->A}(h:S (MC ts x s k)):∃v ao,S (k v ao)/\jJ s ao/\b3 U ao.aK ρ fs v (om ts x):=by
 obtain⟨vs,s1,h1,bQ,v1⟩:=afn (ρ:=ρ) (fs:=fs) aY h;split at h1
 ·rename_i v
  refine⟨_,s1,h1,bQ,?_⟩;unfold om;generalize iM ts x=ws at v1;cases v1 with
  |cons ad r=>cases r;exact ad
 ·rename_i bg
  refine⟨_,s1,h1,bQ,?_⟩;unfold om;generalize iM ts x=ws at v1
  have:one ws=.aU ws:=by
   match ws,v1 with
   |[],_=>rfl
   |[w],.cons (v:=v) ad .nil=>exact absurd rfl (bg v)
   | _::_::_,_=>rfl
  rw[this];exact .aU v1
theorem _root_.Go.Abs.Own.sub{ms gT:cG}(h:Own H ms)(hs:gT.Sublist ms):Own H gT:=⟨fun m hm=>h.1 m (hs.subset hm),h.2.sublist (hs.map _)⟩
theorem auP{B:List Bool}{c:aO U.ax}{w:V}{l:List (aO U.ax)}(h:sT c=some l)(hn:∀vs,c≠ .agg vs)(ad:b3 U B ρ fs c w):aC w=[w]:=by
 cases ad<;>simp only[sT]at h
 case agg=>exact absurd rfl (hn _)
 case aU=>rfl
 case k=>
  split at h
  ·cases h
  ·cases w<;>first|rfl|simp_all
 case sl=>exact ad2 _ _ _
 case row=>cases h
 case fv=>cases h
 case lq=>cases h
 case lp=>cases h
 all_goals rfl
theorem auQ (R:b7 U b F fs s σ H G ρ){v c:aO U.ax}{w:V}(h:Ss s.mem v=some c)(ad:b3 U s.aK ρ fs v w):
  ∃o a aV w',v=.ptr o 0/\w=.ptr a 0/\bj s.mem o=some aV/\b3 U s.aK ρ fs c w'/\G o=[(a,.cells (aC w'))]:=by
 unfold Ss at h;split at h
 ·rename_i o
  cases ad with
  |ptr ho=>
   split at h
   ·rename_i wr df hm
    obtain⟨a,ws,q1,q2,cn,c7,-⟩:=R.cells hm;rw[q1]at ho;cases ho;split at h
    ·cases h
    ·rename_i hn
     split at h
     ·rename_i l hl
      cases h;cases c7 with
      |cons h1 r=>
       cases r;exact⟨o,_,_,_,rfl,rfl,hm,h1,by rw[q2,auP hl hn h1]⟩
     ·cases h
   ·rename_i wr cs bg hm
    obtain⟨a,ws,q1,q2,cn,c7,-⟩:=R.cells hm;rw[q1]at ho;cases ho;cases h;exact⟨o,_,_,_,rfl,rfl,hm,.agg c7,q2⟩
   ·cases h
 ·cases h
theorem SQ (aY:gp U)(R:b7 U b F fs s σ H G ρ):∀{cs vs:List (aO U.ax)} {ws:List V} {ts:List Nat} {c:ee U ts} {l:List Nat},bD U s.aK ρ fs cs ws->Io s.mem cs=some vs->Im cs l=true->rH s.aK ts vs=some c->
  ∃(ay ks:List Nat),ws=BL ay/\ay.length=ts.length/\ks.map (fun k=>(dz s G F).getD k [])=BK ts c ay/\ks.Nodup/\∀k∈ks,∃e:Nat × ck U,s.mem[k]? =some e/\e.1∉l
 | _,_,_,ts,c,l,.nil,h1,h2,ar=>by
   cases h1;cases ts with
   |nil=>exact⟨[],[],rfl,rfl,rfl,Fs,fun k hk=>by cases hk⟩
   |cons t ts=>cases ar
 |v::cs,vs,_,ts,c,l,.cons ad r,h1,h2,ar=>by
  simp only[Io]at h1;split at h1
  ·cases h1
  ·rename_i df af
   split at h1
   ·cases h1
   ·rename_i cb ak
    cases h1;obtain⟨o,a,aV,w',rfl,rfl,hm,hc,DB⟩:=auQ R af ad;simp only[Im]at h2;split at h2
    ·cases h2
    ·rename_i me
     have me:o∉l:=fun q=>by rw[(mem_iff o l).2 q]at me;cases me
     cases ts with
     |nil=>cases ar
     |cons t ts=>
      simp only[rH]at ar;split at ar
      ·cases ar
      ·rename_i x ex
       split at ar
       ·cases ar
       ·rename_i y po
        cases ar;obtain⟨ay,ks,p1,p2,p3,k8,uv⟩:=SQ aY R r ak h2 po;obtain⟨k,hk,aT,Ey,hid⟩:=R.at hm;refine⟨a::ay,k::ks,by rw[p1];rfl,by simp[p2],?_,?_,?_⟩
        ·simp only[dv,BK,IA,IB,p3]
         congr 1;rw[kj,hk,DB,aY.jd _ _ _ _ _ _ _ hc ex];rfl
        ·refine tf.2 ⟨fun eG=> ?_,k8⟩
         obtain⟨e,q1,q2⟩:=uv k eG;rw[eg aT]at q1;cases q1;exact q2 (by rw[hid];simp)
        ·intro bF hk'
         rcases dx.1 hk' with rfl|hk'
         ·exact⟨_,eg aT,by rw[hid];exact me⟩
         ·obtain⟨e,q1,q2⟩:=uv bF hk'
          exact⟨e,q1,fun q=>q2 (kW _ q)⟩
theorem SR:∀(ts:List Nat) (c:ee U ts),BK ts c []=[]
 |[],_=>rfl
 | _::_,_=>rfl
theorem auR{i:Nat}{ws:List V}(H:Heap)(low:Nat):fF H low (.fn i [] ws)=some (.fn i [] ws,H,low):=by
 unfold fF;simp only[dR];split<;>rfl
theorem SS{F:cG}:∀(dU:List Nat) (z:ee U dU),uu aa F (dU.map ma.v) (MB dU z) (iM dU z)
 |[],_=>rfl
 |t::r,z=>⟨_,rfl,SS r _⟩
theorem auS (aY:gp U)(R:b7 U b F fs s σ H G ρ)(hT:rL aa cx)(ag:∀j f,nth cx.fv j=some f->∃w,fs[j]? =some w/\oo aa F f.dU f.rt f.f w)
  {dU:List Nat} {rt:Nat} {v:aO U.ax} {w:V} {f:ee U dU->Option (U.ax rt)} (h:St cx s dU rt v=some f) (ad:b3 U s.aK ρ fs v w):oo aa (dz s G F) dU rt f w:=by
 unfold St at h;split at h
 ·rename_i j
  split at h
  ·cases h
  ·rename_i g ba
   obtain⟨w',q1,q2⟩:=ag j g ba;cases ad with
   |fv hj=>
    rw[q1]at hj;cases hj;split at h
    ·rename_i e8
     obtain⟨g1,g2,g3⟩:=g;obtain⟨rfl,rfl⟩:=e8;cases h;exact⟨q2.1,fun H z q aw bf=>q2.2 H z q (aw.sub (Fj _ _)) bf⟩
    ·cases h
 ·rename_i i cs
  cases ad with
  |fn eV=>
   split at h
   ·cases h
   ·rename_i e he
    split at h
    ·rename_i vs c2 hnd
     split at h
     ·cases h
     ·rename_i c hc
      split at h
      ·rename_i e8
       have vB:e∈cx.T/\e.id=i:=by
        clear e8 hc h hT;generalize cx.T=T at he
        induction T with
        |nil=>cases he
        |cons e' T ih=>
         simp only[xn]at he;split at he
         ·rename_i hb;cases he;exact⟨by simp,eE hb⟩
         ·exact⟨kW _ (ih he).1,(ih he).2⟩
       have bc:=hT.1 e vB.1;obtain⟨ay,ks,p1,p2,p3,k8,uv⟩:=SQ aY R eV c2 hnd hc;have hid:=vB.2;clear vB he;obtain⟨aEb,FW,aEc,vC,Ez⟩:=e;obtain⟨h1,h2⟩:=e8;simp only at h1 h2 hid;subst h1;subst h2;subst hid;cases h;refine⟨auR,fun H z q aw bf=> ?_⟩;subst p1;exact bc H [] c (MB dU z) ay (iM dU z) q p2 (by rw[lR,<-p3];exact aw.ad1 ks k8) (SS dU z) bf
      ·cases h
    ·cases h
 ·cases h
theorem IC (aY:gp U)(R:b7 U b F fs s σ H G ρ)(hT:rL aa cx)(ag:∀j f,nth cx.fv j=some f->∃w,fs[j]? =some w/\oo aa F f.dU f.rt f.f w):
  ∀{ay:List ma} {vs:List (aO U.ax)} {ws:List V} {a:o0 U ay},y0 cx s ay vs=some a->bD U s.aK ρ fs vs ws->uu aa (dz s G F) ay a ws
 |[],_,_,_,h,.nil=>rfl
 |[],_,_,_,h,.cons _ _=>by cases h
 | .v _::_,_,_,_,h,.nil=>by cases h
 | .f _ _::_,_,_,_,h,.nil=>by cases h
 | .v t::ay,_,_,_,h,.cons ad r=>by
   simp only[y0]at h;split at h
   ·cases h
   ·rename_i x e
    split at h
    ·cases h
    ·rename_i l ak
     cases h;exact⟨_,by rw[aY.jd _ _ _ _ _ _ _ ad e],IC aY R hT ag ak r⟩
 | .f dU rt::ay,_,_,_,h,.cons ad r=>by
   simp only[y0]at h;split at h
   ·cases h
   ·rename_i x e
    split at h
    ·cases h
    ·rename_i l ak
     cases h;exact⟨_,_,rfl,auS aY R hT ag e ad,IC aY R hT ag ak r⟩
theorem MV (aY:gp U){F:cG}:∀{ay:List ma} {a:o0 U ay} {ws:List V},uu aa F ay a ws->∀H low,e0 H low ws=some (ws,H,low)
 |[],_,_,h,H,low=>by cases h;rfl
 | .v t::ay,x,_,⟨eK,e,r⟩,H,low=>by subst e;exact ad6 (aY.bI _ _) (MV aY r H low)
 | .f dU rt::ay,x,_,⟨w,eK,e,q,r⟩,H,low=>by subst e;exact ad7 q.1 (MV aY r H low)
theorem MW{F F':cG}:∀{ay:List ma} {a:o0 U ay} {ws:List V},BA ay=true->uu aa F ay a ws->uu aa F' ay a ws
 |[],_,_,_,h=>h
 | .v t::ay,x,_,hn,⟨eK,e,r⟩=>⟨eK,e,MW (ay:=ay) hn r⟩
 | .f _ _::_,_,_,hn,_=>by cases hn
theorem afo (aY:gp U)(aA:mb S)(R:b7 U b F fs s σ H G ρ)(hT:rL aa cx)(ag:∀j f,nth cx.fv j=some f->∃w,fs[j]? =some w/\oo aa F f.dU f.rt f.f w)
  {f:aO U.ax} {ay:List (aO U.ax)} {wf:V} {ws:List V} {k:aO U.ax->bA U->A} (h:S (MD cx s f ay k)) (ad:b3 U s.aK ρ fs f wf) (ha:bD U s.aK ρ fs ay ws):
  ∃v ao w,S (k v ao)/\jJ s ao/\b3 U ao.aK ρ fs v w/\∀H,Own H (dz s G F)->b0 aa wf ws H=some (w,H,H.length)/\e0 H H.length ws=some (ws,H,H.length):=by
 unfold MD at h;split at h
 ·rename_i j
  split at h
  ·exact absurd h aA.bad
  ·rename_i g ba
   obtain⟨w',q1,q2⟩:=ag j g ba;cases ad with
   |fv hj=>
    rw[q1]at hj;cases hj;split at h
    ·exact absurd h aA.bad
    ·rename_i a e
     obtain⟨r,vC,h⟩:=aA.cv h;obtain⟨v,ao,h1,h2,ar⟩:=BI (ρ:=ρ) (fs:=fs) aY h;have auT:=MU aY e ha;subst auT;exact⟨v,ao,_,h1,h2,ar,fun H aw=>⟨q2.2 H a r (aw.sub (Fj _ _)) vC,MV (aa:=aa) (F:=F) aY (SS _ a) H _⟩⟩
 ·rename_i i cs
  cases ad with
  |fn eV=>
   split at h
   ·exact absurd h aA.bad
   ·rename_i e he
    split at h
    ·rename_i vs c2 hnd me
     split at h
     ·exact absurd h aA.bad
     ·rename_i c hc
      split at h
      ·exact absurd h aA.bad
      ·rename_i a Gw
       obtain⟨r,vC,h⟩:=aA.cv h;obtain⟨v,ao,h1,h2,ar⟩:=SP (ρ:=ρ) (fs:=fs) aY h
       have vB:e∈cx.T/\e.id=i:=by
        clear hc Gw vC h hT me h1;generalize cx.T=T at he
        induction T with
        |nil=>cases he
        |cons e' T ih=>
         simp only[xn]at he;split at he
         ·rename_i hb;cases he;exact⟨by simp,eE hb⟩
         ·exact⟨kW _ (ih he).1,(ih he).2⟩
       have bc:=hT.1 e vB.1;obtain⟨tl,ks,p1,p2,p3,k8,uv⟩:=SQ aY R eV c2 hnd hc;have BM:=IC aY R hT ag Gw ha;have hid:=vB.2;subst hid;subst p1;refine⟨v,ao,_,h1,h2,ar,fun H aw=>⟨?_,MV aY BM H _⟩⟩;split at me
       ·have hl:=eV.length
        cases tl with
        |nil=>exact bc H (dz s G F) c a [] ws r p2 (by rw[SR];exact aw) BM vC
        |cons x xs=>simp at hl
       ·exact bc H [] c a tl ws r p2 (by rw[lR,<-p3];exact aw.ad1 ks k8) (MW me BM) vC
    ·exact absurd h aA.bad
 ·exact absurd h aA.bad
theorem xx{α:Type}:∀{l:List (Nat × α)} {o:Nat} {x:α},(l.map Prod.fst).Nodup->(o,x)∈l->bj l o=some x
 |(k,a)::r,o,x,hn,h=>by
  rw[fZ];have hn:=tf.1 hn;rcases dx.1 h with e|h
  ·cases e;rw[if_pos rfl]
  ·rw[if_neg fun e=>hn.1 (by subst e;exact dZ.2 ⟨_,h,rfl⟩)]
   exact xx hn.2 h
theorem afp{α:Type}{l fk:List (Nat × α)}{o:Nat}{x:α}(hs:fk.Sublist l)(hn:(l.map Prod.fst).Nodup)(h:bj fk o=some x):bj l o=some x:=xx hn (hs.subset (ju h))
theorem BN (o:Nat):∀m:List (Nat × ck U),(pS o m).Sublist m
 |[]=>J0 _
 |(k,c)::r=>by
  simp only[pS];split
  ·exact List.sublist_cons_self _ _
  ·exact(BN o r).cons_cons _
theorem SU{o:Nat}:∀{m:List (Nat × ck U)} {aV:ck U},bj m o=some aV->∃k,(m.map fun e=>G e.1)[k]? =some (G o)/\∀x,((pS o m).map fun e=>G e.1).Sublist ((m.map fun e=>G e.1).set k x)
 |(k,c)::r,aV,h=>by
  simp only[bj]at h;simp only[pS];split at h
  ·rename_i e
   try rw[e]
   refine⟨0,by simp[eE e],fun x=> ?_⟩;simp only[dv,Oh];exact List.sublist_cons_self _ _
  ·rename_i e
   try rw[e]
   obtain⟨i,h1,h2⟩:=SU h;refine⟨i+1,by simpa using h1,fun x=> ?_⟩;simp only[dv,Wr];exact(h2 x).cons_cons _
theorem G8{n low:Nat}:∀{vs:List V},cj vs=true->kY (dR n) H low vs=some (vs,H,low)
 |[],_=>rfl
 |v::r,h=>by
  simp only[cj,b6]at h;have:dR n H low v=some (v,H,low):=by cases n<;>simp[dR,h.1]
  simp only[kY,this,G8 h.2]
theorem auU{n:Nat}{ms gT:cG}{vs vs':List V}(h:pG b n ms vs vs' gT):lK b (n+1) ms (.agg vs) (.agg vs') gT:=fun H low aw hb=>by
 obtain⟨H1,bO,af,iP,b1⟩:=h H low aw hb;refine⟨H1,bO,?_,iP,b1⟩;simp only[dR,bI,af];split
 ·rename_i hp;rw[G8 hp]at af;cases af;rfl
 ·rfl
theorem afq{n:Nat}{ms gT:cG}{vs vs':List V}(h:pG b n ms vs vs' gT):lK b (n+1) ms (.aU vs) (.aU vs') gT:=fun H low aw hb=>by
 obtain⟨H1,bO,af,iP,b1⟩:=h H low aw hb;refine⟨H1,bO,?_,iP,b1⟩;simp only[dR,bI,af];split
 ·rename_i hp;rw[G8 hp]at af;cases af;rfl
 ·rfl
theorem vD (o:Nat)(c:ck U):∀l:List (Nat × ck U),(je o c l).map Prod.fst=l.map Prod.fst
 |[]=>rfl
 |(k,d)::r=>by
  simp only[je];split
  ·rfl
  ·simp[vD o c r]
theorem uw (o:Nat)(c:ck U):∀(l:List (Nat × ck U)) (t:Nat),bj (je o c l) t=if t=o then(bj l t).map fun _=>c else bj l t
 |[],t=>by simp[je,bj]
 |(k,d)::r,t=>by
  simp only[je];split
  ·rename_i e
   have e:=eE e;subst e;rw[fZ,fZ];by_cases q:k=t
   ·subst q;simp
   ·simp[q,ly q]
  ·rename_i e
   have e:k≠o:=fun q=>by rw[q,zM]at e;cases e
   rw[fZ,fZ,uw o c r t];by_cases q:k=t
   ·subst q;simp[e]
   ·simp[q]
theorem auV{G:Nat->List (Nat × b5)}{o:Nat}{c:ck U}{m:List (Nat × b5)}{l:List (Nat × ck U)}{k:Nat}(hk:k<l.length)(hid:l[k].1=o)(dk:(l.map Prod.fst).Nodup):
  (je o c l).map (fun e=>if e.1=o then m else G e.1)=(l.map fun e=>G e.1).set k m:=by
 have af:(je o c l).map (fun e=>if e.1=o then m else G e.1)=((je o c l).map Prod.fst).map (fun q=>if q=o then m else G q):=by rw[kX];rfl
 have ak:l.map (fun e=>G e.1)=(l.map Prod.fst).map G:=by rw[kX];rfl
 rw[af,ak,vD];have hk':k<(l.map Prod.fst).length:=by simpa using hk
 have BO:(l.map Prod.fst)[k]=o:=by simpa using hid
 generalize l.map Prod.fst=l at dk hk' BO;apply oA;intro i;rw[hL];by_cases e:k=i
 ·subst e
  rw[nI (by simpa using hk'),eg hk',BO];simp
 ·rw[jx e,hL]
  cases hi:l[i]? with
  |none=>rfl
  |some q=>
   have nZ:=(fj.1 hi);obtain⟨nZ,bf⟩:=nZ;have:q≠o:=fun h=>e ((List.getElem_inj (h₀:=hk') (h₁:=nZ) dk).1 (by rw[BO,bf,h]));simp[this]
def ux (b:Nat)(B:List Bool)(ρ fs:List V)(G:Nat->List (Nat × b5))(m:List (Nat × ck U)):Prop:=(m.map Prod.fst).Nodup/\∀o aV,bj m o=some aV->pU U b B ρ fs o (G o) aV
structure nE (b:Nat) (B:List Bool) (ρ fs:List V) (G G':Nat->List (Nat × b5)) (m m':List (Nat × ck U)):Prop where
 fst:m'.map Prod.fst=m.map Prod.fst
 mem:∀o aV,bj m o=some aV->(bj m' o=some aV/\G' o=G o)\/∃t x,(aV=.row t x\/aV=.fz t x)/\bj m' o=some (.fz t x)/\pU U b B ρ fs o (G' o) (.fz t x)/\pU U b B ρ fs o (G o) (.fz t x)
theorem nE.rfl'{B:List Bool}{G:Nat->List (Nat × b5)}{m:List (Nat × ck U)}:nE b B ρ fs G G m m:=⟨rfl,fun o aV h=>.inl ⟨h,rfl⟩⟩
theorem nE.trans{B:List Bool}{G az bu:Nat->List (Nat × b5)}{m m1 m2:List (Nat × ck U)}(h:nE b B ρ fs G az m m1)(k:nE b B ρ fs az bu m1 m2):nE b B ρ fs G bu m m2 where
 fst:=k.fst.trans h.fst
 mem:=fun o aV ho=>by
  rcases h.mem o aV ho with⟨al,a2⟩|⟨t,x,al,a2,a3,a4⟩
  ·rcases k.mem o aV al with⟨b1,e3⟩|⟨t,x,b1,e3,iC,kG⟩
   ·exact .inl ⟨b1,e3.trans a2⟩
   ·exact .inr ⟨t,x,b1,e3,iC,by rw[<-a2];exact kG⟩
  ·rcases k.mem o _ a2 with⟨b1,e3⟩|⟨ey,fQ,b1,e3,iC,kG⟩
   ·exact .inr ⟨t,x,al,b1,by rw[e3];exact a3,a4⟩
   ·rcases b1 with b1|b1
    ·cases b1
    ·cases b1
     exact .inr ⟨t,x,al,e3,iC,a4⟩
theorem afr{α:Type}:∀{l:List (Nat × α)} {o:Nat},o∈l.map Prod.fst->∃x,bj l o=some x
 |(k,a)::r,o,h=>by
  rw[fZ];by_cases e:k=o
  ·exact⟨a,by rw[if_pos e]⟩
  ·rw[if_neg e]
   refine afr ?_;rcases dx.1 h with q|q
   ·exact absurd q.symm e
   ·exact q
theorem nE.back{B:List Bool}{G G':Nat->List (Nat × b5)}{m m':List (Nat × ck U)}(h:nE b B ρ fs G G' m m'){o:Nat}{c:ck U}(hc:bj m' o=some c):∃aV,bj m o=some aV:=by
 refine afr ?_;rw[<-h.fst];exact dZ.2 ⟨_,ju hc,rfl⟩
theorem nE.ok{B:List Bool}{G G':Nat->List (Nat × b5)}{m m':List (Nat × ck U)}(h:nE b B ρ fs G G' m m')(hm:ux b B ρ fs G m):ux b B ρ fs G' m':=
 ⟨by rw[h.fst];exact hm.1,fun o aV ho=>by
  obtain⟨c,hc⟩:=h.back ho;rcases h.mem o c hc with⟨al,a2⟩|⟨t,x,al,a2,a3,a4⟩
  ·rw[al]at ho;cases ho;rw[a2];exact hm.2 o _ hc
  ·rw[a2]at ho;cases ho;exact a3⟩
theorem nE.same{B:List Bool}{G G':Nat->List (Nat × b5)}{m m':List (Nat × ck U)}(h:nE b B ρ fs G G' m m')(hm:ux b B ρ fs G m):ux b B ρ fs G m':=
 ⟨by rw[h.fst];exact hm.1,fun o aV ho=>by
  obtain⟨c,hc⟩:=h.back ho;rcases h.mem o c hc with⟨al,a2⟩|⟨t,x,al,a2,a3,a4⟩
  ·rw[al]at ho;cases ho;exact hm.2 o _ hc
  ·rw[a2]at ho;cases ho;exact a4⟩
theorem nE.dz{B:List Bool}{G G':Nat->List (Nat × b5)}{m m':List (Nat × ck U)}(h:nE b B ρ fs G G' m m'):m'.map (fun e=>G e.1)=m.map (fun e=>G e.1):=by
 have af:m'.map (fun e=>G e.1)=(m'.map Prod.fst).map G:=by rw[kX];rfl
 have ak:m.map (fun e=>G e.1)=(m.map Prod.fst).map G:=by rw[kX];rfl
 rw[af,ak,h.fst]
theorem auW{α:Type}{n es:Nat}{f:α->V}{s:ae α}{v:V}{m m0:List (Nat × b5)}{ms:cG}(k:Nat)(hk:ms[k]? =some m)(hr:fE b es f v s m0)(hm:m=m0\/m=Go.Abs.l7 m0)(hp:∀a,bI (f a)=true):lK b (n+1) ms v (bn es f s) (ms.set k (Go.Abs.l7 m0)):=by
 rcases hm with rfl|rfl
 ·exact lK.row k hk hr hp
 ·intro H low aw hb
  have oR:ms.set k (Go.Abs.l7 m0)=ms:=by
   apply oA;intro i;by_cases e:k=i
   ·subst e;rw[nI (fj.1 hk).1,hk]
   ·rw[jx e]
  rw[oR];rw[ad4];have dj:fe b es v (s.map f) m0:=hr;generalize oW:s.map f=hS at dj;clear hr;cases dj with
  |nil=>exact⟨H,low,rfl,aw,hb⟩
  |emp=>exact⟨H,low,rfl,aw,hb⟩
  |row l ds h hD=>
   have sd:cj ds=true:=by
    cases s<;>simp[ae.map]at oW;rw[<-oW];exact ua hp _
   refine⟨H,low,?_,aw,hb⟩;simp[dR,bI,aw.get k (by rw[hk];rfl),sd,bn]
theorem EA{n:Nat}{B:List Bool}{f:List (Nat × ck U)->aO U.ax->Option (aO U.ax × List (Nat × ck U))}
  (ag:∀{G:Nat->List (Nat × b5)} {m m':List (Nat × ck U)} {v v':aO U.ax} {w:V},ux b B ρ fs G m->f m v=some (v',m')->b3 U B ρ fs v w->∃w' G',lK b n (m.map (fun e=>G e.1)++F) w w' (m'.map (fun e=>G' e.1)++F)/\b3 U B ρ fs v' w'/\nE b B ρ fs G G' m m'):
  ∀{G:Nat->List (Nat × b5)} {vs vs':List (aO U.ax)} {ws:List V} {m m':List (Nat × ck U)},ux b B ρ fs G m->vy f m vs=some (vs',m')->bD U B ρ fs vs ws->∃eK G',pG b n (m.map (fun e=>G e.1)++F) ws eK (m'.map (fun e=>G' e.1)++F)/\bD U B ρ fs vs' eK/\nE b B ρ fs G G' m m'
 |G,_,_,_,m,m',hm,h,.nil=>by cases h;exact⟨[],G,.nil,.nil,.rfl'⟩
 |G,_,_,_,m,m',hm,h,.cons ad r=>by
  simp only[vy]at h;split at h
  ·cases h
  ·rename_i v' m1 af
   split at h
   ·cases h
   ·rename_i l m2 ak
    cases h;obtain⟨w',az,al,a2,a3⟩:=ag hm af ad;obtain⟨eK,bu,b1,e3,iC⟩:=EA ag (a3.ok hm) ak r;exact⟨w'::eK,bu,pG.cons al b1,.cons a2 e3,a3.trans iC⟩
theorem afs (aY:gp U){B:List Bool}{G:Nat->List (Nat × b5)}{n:Nat}{m:List (Nat × ck U)}{o t:Nat}{x:ae (U.ax t)}{w:V}{m0:List (Nat × b5)}{aV:ck U}(hm:ux b B ρ fs G m)(hx:bj m o=some aV)(ho:ρ[o]? =some w)(hr:fE b (U.es t) (U.enc t) w x m0)(h0:G o=m0\/G o=Go.Abs.l7 m0):
  lK b (n+1) (m.map (fun e=>G e.1)++F) w (bn (U.es t) (U.enc t) x) ((je o (.fz t x) m).map (fun e=>if e.1=o then Go.Abs.l7 m0 else G e.1)++F):=by
 obtain⟨k,hk,e⟩:=Wo.1 (ju hx);rw[auV hk (by rw[e]) hm.1];have aT:k<(m.map fun e=>G e.1).length:=by simpa using hk
 rw[<-JT _ _ aT];refine auW k ?_ hr h0 (aY.bI t);rw[e5 aT,hL,eg hk,e];rfl
theorem EB (aY:gp U){B:List Bool}:∀{n:Nat} {G:Nat->List (Nat × b5)} {m m':List (Nat × ck U)} {v v':aO U.ax} {w:V},ux b B ρ fs G m->l7 n m v=some (v',m')->b3 U B ρ fs v w->∃w' G',lK b n (m.map (fun e=>G e.1)++F) w w' (m'.map (fun e=>G' e.1)++F)/\b3 U B ρ fs v' w'/\nE b B ρ fs G G' m m'
 |0,_,_,_,_,_,_,_,h,_=>by cases h
 |n+1,G,m,m',v,v',w,hm,h,ad=>by
  simp only[l7]at h;split at h
  ·rename_i o
   split at h
   ·rename_i t x hx
    cases h;obtain⟨v0,q1,q2⟩:=hm.2 o _ hx;cases ad with
    |row ho=>
     rw[q1]at ho;cases ho;refine⟨_,fun q=>if q=o then Go.Abs.l7 (G o)else G q,afs aY hm hx q1 q2 (.inl rfl),.sl,vD _ _ _,fun p aV hp=> ?_⟩;rw[uw];by_cases e:p=o
     ·subst e
      rw[hx]at hp;cases hp;refine .inr ⟨t,x,.inl rfl,by rw[if_pos rfl,hx];rfl,⟨_,_,q1,q2,.inr (by rw[if_pos rfl])⟩,⟨_,_,q1,q2,.inl rfl⟩⟩
     ·exact .inl ⟨by rw[if_neg e];exact hp,by rw[if_neg e]⟩
   ·rename_i t x hx
    cases h;obtain⟨v0,m0,q1,q2,cn⟩:=hm.2 o _ hx;cases ad with
    |row ho=>
     rw[q1]at ho;cases ho;refine⟨_,fun q=>if q=o then Go.Abs.l7 m0 else G q,?_,.sl,rfl,fun p aV hp=> ?_⟩
     ·have:=afs (F:=F) (n:=n) aY hm hx q1 q2 cn
      have e:∀l:List (Nat × ck U),bj l o=some (.fz t x)->je o (.fz t x) l=l:=fun l hl=>by
       clear hm hx this
       induction l with
       |nil=>rfl
       |cons p r ih=>
        obtain⟨k,c⟩:=p;simp only[je];simp only[bj]at hl;split at hl
        ·rename_i e;cases hl;first|rfl|rw[e]
        ·rename_i e;first|rw[e]|skip
         simp only[ih hl]
      rw[e _ hx]at this;exact this
     ·by_cases e:p=o
      ·subst e
       rw[hx]at hp;cases hp;refine .inr ⟨t,x,.inr rfl,hx,⟨_,_,q1,q2,.inr (by rw[if_pos rfl])⟩,⟨_,_,q1,q2,cn⟩⟩
      ·exact .inl ⟨hp,by rw[if_neg e]⟩
   ·cases h
  ·split at h
   ·rename_i l m1 e
    cases h;cases ad with
    |agg ad=>
     obtain⟨eK,G',al,a2,a3⟩:=EA (EB aY) hm e ad;exact⟨_,G',auU al,.agg a2,a3⟩
   ·cases h
  ·split at h
   ·rename_i l m1 e
    cases h;cases ad with
    |aU ad=>
     obtain⟨eK,G',al,a2,a3⟩:=EA (EB aY) hm e ad;exact⟨_,G',afq al,.aU a2,a3⟩
   ·cases h
  ·cases h;exact⟨w,G,.plain (by cases ad;rfl),ad,.rfl'⟩
  ·cases h;exact⟨w,G,.plain (by cases ad;rfl),ad,.rfl'⟩
  ·cases h;exact⟨w,G,.plain (by cases ad;rfl),ad,.rfl'⟩
  ·cases h;exact⟨w,G,.plain (by cases ad;rfl),ad,.rfl'⟩
  ·cases h;exact⟨w,G,.plain (by cases ad;exact ob _ _ _),ad,.rfl'⟩
  ·split at h
   ·rename_i hp;cases h;exact⟨w,G,.plain (by cases ad;exact hp),ad,.rfl'⟩
   ·cases h
  ·cases h
theorem auX (aY:gp U){B:List Bool}{G:Nat->List (Nat × b5)}{n:Nat}{m:List (Nat × ck U)}{o t:Nat}{x:ae (U.ax t)}{w:V}(hm:ux b B ρ fs G m)(hx:bj m o=some (.row t x))(ad:b3 U B ρ fs (.row o) w):
  ∃w',lK b (n+1) (m.map (fun e=>G e.1)++F) w w' ((pS o m).map (fun e=>G e.1)++F)/\b3 U B ρ fs (.sl t x) w':=by
 obtain⟨v0,q1,q2⟩:=hm.2 o _ hx;cases ad with
 |row ho=>
  rw[q1]at ho;cases ho;obtain⟨k,bQ,c6⟩:=SU (G:=G) hx;have aT:=(fj.1 bQ).1;have:=lK.row (b:=b) (n:=n) (ms:=m.map (fun e=>G e.1)++F) k (by rw[e5 aT];exact bQ) q2 (aY.bI t);refine⟨_,fun H low aw hb=> ?_,.sl⟩;obtain⟨H1,bO,af,iP,b1⟩:=this H low aw hb;refine⟨H1,bO,af,iP.sub ?_,b1⟩;rw[JT _ _ aT];exact(c6 _).append (J0 _)
theorem b7.BP (R:b7 U b F fs s σ H G ρ):ux b s.aK ρ fs G s.mem:=⟨R.dk,R.mem⟩
theorem auY (aY:gp U){ts:List Nat}{x:ee U ts}(h:Ip (U:=U) ts=true):flat (om ts x)=true:=by
 have key:∀{ts:List Nat} {x:ee U ts},Ip (U:=U) ts=true->vV (iM ts x)=true:=by
  intro ts
  induction ts with
  |nil=>intro _ _;rfl
  |cons t r ih=>
   intro x h;simp only[Ip]at h;split at h
   ·rename_i e;simp only[iM,vV,aY.a7 t _ e,ih h,zK]
   ·cases h
 have:=key (x:=x) h;unfold om;generalize iM ts x=ws at this
 match ws,this with
 |[],_=>rfl
 |[w],q=>simpa[vV,one]using q
 | _::_::_,q=>exact q
theorem aft{T:List (aX U)}{i:Nat}{e:aX U}(he:xn T i=some e):e∈T/\e.id=i:=by
 induction T with
 |nil=>cases he
 |cons e' T ih=>
  simp only[xn]at he;split at he
  ·rename_i hb;cases he;exact⟨by simp,eE hb⟩
  ·exact⟨kW _ (ih he).1,(ih he).2⟩
theorem afu{B:List Bool}:∀{ts:List Nat} {x:ee U ts},rH B ts []=some x->ts=[]
 |[],_,_=>rfl
 | _::_,_,h=>by cases h
theorem auZ (aY:gp U)(aA:mb S)(R:b7 U b F fs s σ H G ρ)(hT:rL aa cx)(ag:∀j f,nth cx.fv j=some f->∃w,fs[j]? =some w/\oo aa F f.dU f.rt f.f w)
  {f:aO U.ax} {ay:List (aO U.ax)} {wf:V} {ws:List V} {k:aO U.ax->bA U->A} (h:S (Su cx s f ay k)) (ad:b3 U s.aK ρ fs f wf) (ha:bD U s.aK ρ fs ay ws):
  ∃v ao w eK gT,S (k v ao)/\jJ s ao/\b3 U ao.aK ρ fs v w/\pG b 16 (dz s G F) ws eK gT/\(∀H,b0 aa wf eK H=some (w,H,H.length))/\flat w=true:=by
 unfold Su at h;split at h
 ·rename_i i
  cases ad with
  |fn hn=>
   cases hn;split at h
   ·rename_i e tl m' he aR
    split at h
    ·rename_i c a hc gQ me
     obtain⟨r,vC,h⟩:=aA.cv h;obtain⟨v,ao,h1,h2,ar⟩:=SP (ρ:=ρ) (fs:=fs) aY h;obtain⟨eK,G',la,z2,-⟩:=EA (F:=F) (EB aY) R.BP aR ha;have SV:e.caps=[]:=afu hc;obtain⟨vB,hid⟩:=aft he;have BM:=MW (F':=[]) me (IC aY R hT ag gQ z2)
     have bb:∀H,b0 aa (.fn i [] []) eK H=some (om e.res r,H,H.length):=fun H=>by
      have:=hT.1 e vB H [] c a [] eK r (by rw[SV]) (by rw[SR];exact .nil H) BM vC;rwa [hid]at this
     split at h1
     ·rename_i km
      exact⟨v,ao,_,eK,_,h1,h2,ar,la,bb,auY aY km⟩
     ·split at h1
      ·rename_i t x
       generalize om e.res r=w at ar bb;cases ar;rcases aA.br h1 with⟨af,mA⟩|⟨af,mA⟩
       ·have hx:x=.nil:=by cases x<;>first|rfl|cases af
        subst hx;exact⟨_,ao,.aN,eK,_,mA,h2,.k,la,bb,rfl⟩
       ·exact absurd mA aA.bad
      ·exact absurd h1 aA.bad
    ·exact absurd h aA.bad
   ·exact absurd h aA.bad
 ·exact absurd h aA.bad
theorem au0 (aY:gp U)(aA:mb S)(R:b7 U b F fs s σ H G ρ)(hT:rL aa cx)(ag:∀j f,nth cx.fv j=some f->∃w,fs[j]? =some w/\oo aa F f.dU f.rt f.f w)
  {f:aO U.ax} {ay:List (aO U.ax)} {wf:V} {ws:List V} {k:aO U.ax->bA U->A} (h:S (Sv cx s f ay k)) (ad:b3 U s.aK ρ fs f wf) (ha:bD U s.aK ρ fs ay ws):
  ∃v ao w eK m' G',S (k v {ao with mem:=m',cI:=gone m' s.mem++ao.cI})/\jJ s ao/\b3 U ao.aK ρ fs v w/\pG b 16 (dz s G F) ws eK (m'.map (fun e=>G' e.1)++F)/\(∀H,b0 aa wf eK H=some (w,H,H.length))/\nE b s.aK ρ fs G G' s.mem m':=by
 unfold Sv at h;split at h
 ·rename_i i
  cases ad with
  |fn hn=>
   cases hn;split at h
   ·rename_i e tl m' he aR
    split at h
    ·rename_i c a hc gQ me
     obtain⟨r,vC,h⟩:=aA.cv h;obtain⟨v,ao,h1,h2,ar⟩:=SP (ρ:=ρ) (fs:=fs) aY h;obtain⟨eK,G',la,z2,z3⟩:=EA (F:=F) (EB aY) R.BP aR ha;have SV:e.caps=[]:=afu hc;obtain⟨vB,hid⟩:=aft he;have BM:=MW (F':=[]) me (IC aY R hT ag gQ z2)
     have bb:∀H,b0 aa (.fn i [] []) eK H=some (om e.res r,H,H.length):=fun H=>by
      have:=hT.1 e vB H [] c a [] eK r (by rw[SV]) (by rw[SR];exact .nil H) BM vC;rwa [hid]at this
     exact⟨v,ao,_,eK,m',G',h1,h2,ar,la,bb,z3⟩
    ·exact absurd h aA.bad
   ·exact absurd h aA.bad
 ·exact absurd h aA.bad
end
end Go.Abs.gB
