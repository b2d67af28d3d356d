/- Texts of this claim, joined and written short by a program. -/
import Derived.Test.YtemakagmboeodaaGreatDoorP27
import Derived.Test.YtemakagmboeodaaGreatDoorP00
set_option linter.unusedVariables false
set_option linter.unusedSimpArgs false
set_option linter.unusedSectionVars false
namespace Go.Abs.cb
open Go Go.Abs
noncomputable section
theorem T5{k v:Int}(ad:ck v=v):∀{es:List (Int × Int)},Fix es->Fix (jj k v es)
 |[],_=>fun p hp=>by
  rw[show jj k v []=[(k,v)]from rfl,oZ]at hp;rw[hp];exact ad
 |(j,u)::l,h=>fun p hp=>by
  unfold jj at hp;split at hp
  ·rcases cY.1 hp with rfl|hp
   ·exact ad
   ·exact h p (by simp[hp])
  ·rcases cY.1 hp with rfl|hp
   ·exact h _ (by simp)
   ·exact T5 ad (fun q a8=>h q (by simp[a8])) p hp
theorem T6:∀{l es:List (Int × Int)},Fix es->Fix (l.foldl k3 es)
 |[],_,h=>h
 |t::l,es,h=>T6 (l:=l) (es:=k3 es t) (T5 (TY _) h)
theorem ahc (l:List (Int × Int)):Fix (e0 l):=fun p hp=>by
 unfold e0 at hp;have:=(qX _).mem_iff.1 hp;exact T6 (l:=l) (es:=[]) (fun q a8=>by cases a8) p (De.1 this).1
theorem T7 (k:Int):∀(l es:List (Int × Int)),(es.map Prod.fst).Nodup->ck (di k (l.foldl k3 es))=ck (di k es+di k l)
 |[],es,hn=>by simp[di]
 |t::l,es,hn=>by
  rw[xl,T7 k l (k3 es t) (RR hn)]
  have ja:di k (k3 es t)=if k=t.1 then ck (di k es+t.2)else di k es:=by
   unfold k3;rw[TP hn,TN hn];by_cases e:k=t.1
   ·rw[if_pos e,if_pos e,e]
   ·rw[if_neg e,if_neg e]
  rw[ja];simp only[di];by_cases e:k=t.1
  ·rw[if_pos e,if_pos e.symm,zM,Int.add_assoc]
  ·rw[if_neg e,if_neg fun q=>e q.symm,z6]
theorem ahd (l:List (Int × Int))(k:Int):ck (di k (e0 l))=ck (di k l):=by
 unfold e0;rw[agX (qX _),Iv];have:=T7 k l [] (by simp);rw[show di k []=0 from rfl,z6]at this;exact this
theorem ahe (l:List Term):(l.filter fun t=>t.cV != 0).map gj=(l.map gj).filter fun p=>p.2 != 0:=by
 induction l with
 |nil=>rfl
 |cons t r ih=>
  rw[Dc,cW,Dc];show _=if(t.cV != 0)=true then _ else _
  split
  ·rw[cW,ih]
  ·exact ih
theorem T8 (a:al Term)(ha:a.l.length<=20000)(af:∀t∈a.l,ck t.cV=t.cV):∃z,xb a=some z/\z.l.map gj=e0 (a.l.map gj):=by
 obtain⟨z,ae,ai⟩:=ahb a ha;refine⟨z,ae,?_⟩;rw[ai];have hs:=T2 a.l [] List.Pairwise.nil
 have nq:((((n1 [] a.l).filter fun t=>t.cV != 0).map gj).Pairwise fun x y=>x.1<y.1):=by
  rw[C7];exact hs.filter _
 have ahf:Fix (((n1 [] a.l).filter fun t=>t.cV != 0).map gj):=fun p hp=>by
  obtain⟨t,ht,rfl⟩:=dn.1 hp;exact T4 (es:=[]) af (fun x hx=>absurd hx u7) t (De.1 ht).1
 refine ag2 nq (TQ _) (fun p hp=> ?_) (fun p hp=>ag1 hp) fun k=> ?_
 ·obtain⟨t,ht,rfl⟩:=dn.1 hp
  have:=(De.1 ht).2;show t.cV≠0;simpa using this
 ·rw[<-Iz nq ahf,<-Iz (TQ _) (ahc _),ahd,ahe,Iv,T1]
  show ck (0+_)=_;rw[z6]
end
end Go.Abs.cb
namespace Go.Abs.cb
open Go Go.Abs
noncomputable section
def ic (c:Change):Int × Int:=(c.Cell,c.Add)
theorem CQ{α β:Type}{hv:Nat}{f:(Int × al α)->Option (hf (Int × al α) (al α))}{xs:List β}{g:β->α}(x4:hv+1<=1000)(af:∀(k:Nat) acc x,xs[k]? =some x->f ((k:Int),acc)=(et hv acc (al.mk [g x])).bind fun s=>some (.next (ck ((k:Int)+1),s)))(he:∀acc,f ((xs.length:Int),acc)=some (.out acc)):
  ∀(d k:Nat) (acc:al α),k+d=xs.length->xs.length<=100000->acc.l.length+d<=100000->∃z,c0 f ((k:Int),acc)=some z/\z.l=acc.l++(xs.drop k).map g:=by
 intro d
 induction d with
 |zero=>
  intro k acc hk hx ha;have hk:k=xs.length:=by omega
  subst hk;exact⟨acc,by rw[fK,he],by simp⟩
 |succ d ih=>
  intro k acc hk hx ha;have aY:k<xs.length:=by omega
  have hs:=af k acc _ (gk aY);obtain⟨s,ae,ai⟩:=sA (hv:=hv) (x:=acc) (y:=al.mk [g xs[k]]) x4 (by show acc.l.length+1<=_;omega);rw[ae,dM]at hs;obtain⟨z,f1,f2⟩:=ih (k+1) s (by omega) hx (by rw[ai,fO];show acc.l.length+1+d<=_;omega);refine⟨z,?_,?_⟩
  ·rw[fK,hs,fV (by omega)];exact f1
  ·rw[f2,ai,xh aY,cW,jl];rfl
theorem CR (l:List (Int × Int)):(mQ l).l=l.map fun p=>Term.mk p.1 p.2:=by
 cases l<;>rfl
theorem ahg (x:al Change)(acc:al Term)(h:acc.l.length+x.l.length<=100000):∃z,c0 (zC x) (0,acc)=some z/\z.l=acc.l++x.l.map fun c=>Term.mk c.Cell c.Add:=by
 obtain⟨z,ae,ai⟩:=CQ (f:=zC x) (hv:=16) (xs:=x.l) (g:=fun c=>Term.mk c.Cell c.Add) (by omega) (fun k acc c hc=>by
  simp only[zC,iK (sB hc),cond_true,iJ,hc,dM]) (fun acc=>by simp only[zC,k5,cond_false]) x.l.length 0 acc (by omega) (by omega) h
 exact⟨z,ae,by rw[ai,o4]⟩
def gE (l:List (al Change)):List Change:=l.flatMap al.l
theorem ahh (x:al (al Change)):∀(d k:Nat) (acc:al Term),k+d=x.l.length->x.l.length<=100000->acc.l.length+(gE (x.l.drop k)).length<=100000->
  ∃z,c0 (zD x) ((k:Int),acc)=some z/\z.l=acc.l++(gE (x.l.drop k)).map fun c=>Term.mk c.Cell c.Add:=by
 intro d
 induction d with
 |zero=>
  intro k acc hk hx ha;have hk:k=x.l.length:=by omega
  subst hk;exact⟨acc,by rw[fK];simp only[zD,k5,cond_false],by simp[gE]⟩
 |succ d ih=>
  intro k acc hk hx ha;have aY:k<x.l.length:=by omega
  rw[xh aY]at ha⊢;have hB:∀r,gE (x.l[k]::r)=x.l[k].l++gE r:=fun r=>rfl;rw[hB,fO]at ha;obtain⟨s,ae,ai⟩:=ahg x.l[k] acc (by omega);obtain⟨z,f1,f2⟩:=ih (k+1) s (by omega) hx (by rw[ai,fO,eA];omega);refine⟨z,?_,?_⟩
  ·rw[fK]
   simp only[zD,iK aY,cond_true,iJ,gk aY,dM,ae,fV (show k<4611686018427387904 by omega)];exact f1
  ·rw[f2,ai,hB,hM,jl]
theorem IA (x:al (al Change))(h1:x.l.length<=100000)(h:(gE x.l).length<=100000):∃z,xd x=some z/\z.l.map ic=e0 ((gE x.l).map ic)/\z.l.length<=100000:=by
 obtain⟨v,hl,v2⟩:=ahh x x.l.length 0 .nil (by omega) h1 (by rw[o4];show 0+_<=_;omega);rw[o4]at v2;have v2:v.l=(gE x.l).map fun c=>Term.mk c.Cell c.Add:=v2;have hl:c0 (zD x) (0,.nil)=some v:=hl;have jH:v.l.length<=100000:=by rw[v2,eA];exact h
 have Ce:(v.l.map fun t=>(t.Cell,t.cV))=(gE x.l).map ic:=by rw[v2,jm];rfl
 have hc:qY v=some (mQ (e0 ((gE x.l).map ic))):=by
  unfold qY;rw[if_pos (by omega),Ce]
 have ew:=zK ((gE x.l).map ic);rw[eA]at ew;have hlen:(mQ (e0 ((gE x.l).map ic))).l.length<=100000:=by rw[CR,eA];omega
 obtain⟨z,dI,z2⟩:=CQ (f:=zE (mQ (e0 ((gE x.l).map ic)))) (hv:=16) (xs:=(mQ (e0 ((gE x.l).map ic))).l) (g:=fun t=>Change.mk t.Cell t.cV) (by omega) (fun k acc t ht=>by
  simp only[zE,iK (sB ht),cond_true,iJ,ht,dM]) (fun acc=>by simp only[zE,k5,cond_false]) (mQ (e0 ((gE x.l).map ic))).l.length 0 .nil (by omega) hlen (by show 0+_<=_;omega)
 have dI:c0 (zE (mQ (e0 ((gE x.l).map ic)))) (0,.nil)=some z:=dI;rw[o4]at z2;have z2:z.l=(mQ (e0 ((gE x.l).map ic))).l.map fun t=>Change.mk t.Cell t.cV:=z2;refine⟨z,?_,?_,by rw[z2,eA];exact hlen⟩
 ·unfold xd
  rw[hl,dM,hc,dM,dI,dM]
 ·rw[z2,CR,jm,jm]
  exact(mW fun p _=>rfl).trans (List.map_id _)
theorem T9 (a:al Change)(ha:a.l.length<=1000)(af:∀c∈a.l,ck c.Add=c.Add):∃z,zH a=some z/\z.l.map ic=e0 (a.l.map ic):=by
 obtain⟨u,gf,iu⟩:=CQ (f:=zF a) (hv:=16) (xs:=a.l) (g:=fun c=>Term.mk c.Cell c.Add) (by omega) (fun k acc c hc=>by
  simp only[zF,iK (sB hc),cond_true,iJ,hc,dM]) (fun acc=>by simp only[zF,k5,cond_false]) a.l.length 0 .emp (by omega) (by omega) (by show 0+_<=_;omega)
 have gf:c0 (zF a) (0,.emp)=some u:=gf;rw[o4]at iu;have iu:u.l=a.l.map fun c=>Term.mk c.Cell c.Add:=iu
 obtain⟨v,v1,v2⟩:=T8 u (by rw[iu,eA];omega) (fun t ht=>by
  rw[iu]at ht;obtain⟨c,hc,rfl⟩:=dn.1 ht;exact af c hc)
 have hu:u.l.map gj=a.l.map ic:=by rw[iu,jm];rfl
 rw[hu]at v2
 have jH:v.l.length<=1000:=by
  have h1:=congrArg List.length v2;have h2:=zK (a.l.map ic);rw[eA]at h1 h2;omega
 obtain⟨z,dI,z2⟩:=CQ (f:=zG v) (hv:=16) (xs:=v.l) (g:=fun t=>Change.mk t.Cell t.cV) (by omega) (fun k acc t ht=>by
  simp only[zG,iK (sB ht),cond_true,iJ,ht,dM]) (fun acc=>by simp only[zG,k5,cond_false]) v.l.length 0 .emp (by omega) (by omega) (by show 0+_<=_;omega)
 have dI:c0 (zG v) (0,.emp)=some z:=dI;rw[o4]at z2;have z2:z.l=v.l.map fun t=>Change.mk t.Cell t.cV:=z2;refine⟨z,?_,?_⟩
 ·unfold zH
  rw[gf,dM,v1,dM,dI,dM]
 ·rw[z2,jm,<-v2];rfl
theorem Ua{x y:List Change}(h:x.map ic=y.map ic):x=y:=by
 induction x generalizing y with
 |nil=>cases y with
  |nil=>rfl
  |cons=>cases h
 |cons a x ih=>cases y with
  |nil=>cases h
  |cons b y=>
   simp only[cW,Dd,ic,a6]at h;obtain⟨⟨h1,h2⟩,aq⟩:=h;rw[ih aq];cases a;cases b;simp_all
theorem ahi{x y:List Term}(h:x.map gj=y.map gj):x=y:=by
 induction x generalizing y with
 |nil=>cases y with
  |nil=>rfl
  |cons=>cases h
 |cons a x ih=>cases y with
  |nil=>cases h
  |cons b y=>
   simp only[cW,Dd,gj,a6]at h;obtain⟨⟨h1,h2⟩,aq⟩:=h;rw[ih aq];cases a;cases b;simp_all
theorem ahj (a b:al Term)(h:a.l=b.l)(gZ:a.l.length<=100000):∀(d k:Nat),k+d=a.l.length->c0 (zx a b) (k:Int)=some (.go ()):=by
 intro d
 induction d with
 |zero=>
  intro k hk;have hk:k=a.l.length:=by omega
  subst hk;rw[fK];simp only[zx,k5,cond_false]
 |succ d ih=>
  intro k hk;have aY:k<a.l.length:=by omega
  have aT:b.l[k]? =some a.l[k]:=by rw[<-h];exact gk aY
  rw[fK];simp only[zx,iK aY,cond_true,iJ,gk aY,aT,dM,beq_self_eq_true,xn,fV (show k<4611686018427387904 by omega)];exact ih (k+1) (by omega)
theorem ahk{a b:al Term}(h:a.l=b.l)(gZ:a.l.length<=100000):zz a b=some true:=by
 unfold zz;have e:(a.len != b.len)=false:=by rw[pV,pV,h];simp
 have this:c0 (zx a b) 0=some (.go ()):=ahj a b h gZ a.l.length 0 (by omega);rw[e,cond_false,this];rfl
theorem ahl (a b:al Change)(h:a.l=b.l)(gZ:a.l.length<=100000):∀(d k:Nat),k+d=a.l.length->c0 (zB a b) (k:Int)=some (.go ()):=by
 intro d
 induction d with
 |zero=>
  intro k hk;have hk:k=a.l.length:=by omega
  subst hk;rw[fK];simp only[zB,k5,cond_false]
 |succ d ih=>
  intro k hk;have aY:k<a.l.length:=by omega
  have aT:b.l[k]? =some a.l[k]:=by rw[<-h];exact gk aY
  rw[fK];simp only[zB,iK aY,cond_true,iJ,gk aY,aT,dM,beq_self_eq_true,xn,fV (show k<4611686018427387904 by omega)];exact ih (k+1) (by omega)
theorem Ub{a b:al Change}(h:a.l=b.l)(gZ:a.l.length<=100000):u1 a b=some true:=by
 unfold u1;have e:(a.len != b.len)=false:=by rw[pV,pV,h];simp
 have this:c0 (zB a b) 0=some (.go ()):=ahl a b h gZ a.l.length 0 (by omega);rw[e,cond_false,this];rfl
end
end Go.Abs.cb
namespace Go.Abs.cb
open Go Go.Abs
noncomputable section
def sC (n:Int):Bool:=decide (n>=(-1000000))&&decide (n<=1000000)
theorem ahm (a:al Term)(gZ:k4 a.l):∀(d k:Nat),k+d=a.l.length->(c0 (pS a) (k:Int)=some (.go ())/\∀j t,k<=j->a.l[j]? =some t->sC t.cV=true)\/c0 (pS a) (k:Int)=some (.ret ()):=by
 unfold k4 at gZ;intro d
 induction d with
 |zero=>
  intro k hk;have hk:k=a.l.length:=by omega
  subst hk;exact .inl ⟨by rw[fK];simp only[pS,k5,cond_false],fun j t h1 h2=>absurd (sB h2) (by omega)⟩
 |succ d ih=>
  intro k hk;have aY:k<a.l.length:=by omega
  have aT:=gk aY;have hw:zv a.l[k].cV=some (sC a.l[k].cV):=rfl;cases hc:sC a.l[k].cV with
  |false=>
   rw[hc]at hw;exact .inr (by rw[fK];simp only[pS,iK aY,cond_true,iJ,aT,dM,hw,cond_false])
  |true=>
   rw[hc]at hw
   have e:c0 (pS a) (k:Int)=c0 (pS a) ((k+1:Nat):Int):=by
    rw[fK];simp only[pS,iK aY,cond_true,iJ,aT,dM,hw,fV (show k<4611686018427387904 by omega)]
   rcases ih (k+1) (by omega)with⟨h1,h2⟩|h1
   ·refine .inl ⟨e.trans h1,fun j t q1 q2=> ?_⟩
    by_cases q:j=k
    ·subst q;rw[aT]at q2;cases q2;exact hc
    ·exact h2 j t (by omega) q2
   ·exact .inr (e.trans h1)
theorem ahn (a:al Term)(gZ:k4 a.l):∃b,CH a=some b/\(b=true->a.l.length<=100/\∀t∈a.l,ck t.cV=t.cV):=by
 unfold CH;rcases ahm a gZ a.l.length 0 (by omega)with⟨h1,h2⟩|h1
 ·have h1:c0 (pS a) 0=some (.go ()):=h1
  refine⟨_,by rw[h1];rfl,fun hb=>⟨?_,fun t ht=> ?_⟩⟩
  ·have:=of_decide_eq_true hb;rw[pV]at this;omega
  ·obtain⟨j,hj⟩:=C0 ht
   have:=h2 j t (ct _) hj;unfold sC at this;simp only[cH,decide_eq_true_eq]at this;exact CG (by omega) (by omega)
 ·have h1:c0 (pS a) 0=some (.ret ()):=h1
  exact⟨false,by rw[h1];rfl,fun q=>by cases q⟩
theorem aho (a:al Change)(gZ:k4 a.l):∀(d k:Nat),k+d=a.l.length->(c0 (pT a) (k:Int)=some (.go ())/\∀j t,k<=j->a.l[j]? =some t->sC t.Add=true)\/c0 (pT a) (k:Int)=some (.ret ()):=by
 unfold k4 at gZ;intro d
 induction d with
 |zero=>
  intro k hk;have hk:k=a.l.length:=by omega
  subst hk;exact .inl ⟨by rw[fK];simp only[pT,k5,cond_false],fun j t h1 h2=>absurd (sB h2) (by omega)⟩
 |succ d ih=>
  intro k hk;have aY:k<a.l.length:=by omega
  have aT:=gk aY;have hw:zv a.l[k].Add=some (sC a.l[k].Add):=rfl;cases hc:sC a.l[k].Add with
  |false=>
   rw[hc]at hw;exact .inr (by rw[fK];simp only[pT,iK aY,cond_true,iJ,aT,dM,hw,cond_false])
  |true=>
   rw[hc]at hw
   have e:c0 (pT a) (k:Int)=c0 (pT a) ((k+1:Nat):Int):=by
    rw[fK];simp only[pT,iK aY,cond_true,iJ,aT,dM,hw,fV (show k<4611686018427387904 by omega)]
   rcases ih (k+1) (by omega)with⟨h1,h2⟩|h1
   ·refine .inl ⟨e.trans h1,fun j t q1 q2=> ?_⟩
    by_cases q:j=k
    ·subst q;rw[aT]at q2;cases q2;exact hc
    ·exact h2 j t (by omega) q2
   ·exact .inr (e.trans h1)
theorem Uc (a:al Change)(gZ:k4 a.l):∃b,zw a=some b/\(b=true->a.l.length<=100/\∀t∈a.l,ck t.Add=t.Add):=by
 unfold zw;rcases aho a gZ a.l.length 0 (by omega)with⟨h1,h2⟩|h1
 ·have h1:c0 (pT a) 0=some (.go ()):=h1
  refine⟨_,by rw[h1];rfl,fun hb=>⟨?_,fun t ht=> ?_⟩⟩
  ·have:=of_decide_eq_true hb;rw[pV]at this;omega
  ·obtain⟨j,hj⟩:=C0 ht
   have:=h2 j t (ct _) hj;unfold sC at this;simp only[cH,decide_eq_true_eq]at this;exact CG (by omega) (by omega)
 ·have h1:c0 (pT a) 0=some (.ret ()):=h1
  exact⟨false,by rw[h1];rfl,fun q=>by cases q⟩
theorem ahp (r:Row)(d:al Change){i:Nat}{t:Term}(hi:r.lI.l[i]? =some t)(gZ:d.l.length<=100000):∀(n k:Nat) (s:Int),k+n=d.l.length->∃v,c0 (xe d t) (s,(k:Int))=some v/\c0 (xf r d (i:Int)) (s,(k:Int))=some v:=by
 intro n
 induction n with
 |zero=>
  intro k s hk;have hk:k=d.l.length:=by omega
  subst hk;exact⟨s,by rw[fK];simp only[xe,k5,cond_false],by rw[fK];simp only[xf,k5,cond_false]⟩
 |succ n ih=>
  intro k s hk;have aY:k<d.l.length:=by omega
  have aT:=gk aY;have hn:=fV (show k<4611686018427387904 by omega)
  have Ud:(t.Cell==d.l[k].Cell)=(d.l[k].Cell==t.Cell):=by
   by_cases h:t.Cell=d.l[k].Cell
   ·rw[h]
   ·rw[beq_false_of_ne h,beq_false_of_ne (jn h)]
  cases hc:(d.l[k].Cell==t.Cell)with
  |true=>
   obtain⟨v,v1,v2⟩:=ih (k+1) (ck (s+ck (t.cV*d.l[k].Add))) (by omega);refine⟨v,?_,?_⟩
   ·rw[fK];simp only[xe,iK aY,cond_true,iJ,aT,dM,hc,hn];exact v1
   ·rw[fK];simp only[xf,iK aY,cond_true,iJ,aT,hi,dM,Ud,hc,hn];exact v2
  |false=>
   obtain⟨v,v1,v2⟩:=ih (k+1) s (by omega);refine⟨v,?_,?_⟩
   ·rw[fK];simp only[xe,iK aY,cond_true,iJ,aT,dM,hc,cond_false,hn];exact v1
   ·rw[fK];simp only[xf,iK aY,cond_true,iJ,aT,hi,dM,Ud,hc,cond_false,hn];exact v2
theorem ahq (r:Row)(d:al Change)(gZ:d.l.length<=100000)(hT:r.lI.l.length<=100000):∀(n k:Nat) (s:Int),k+n=r.lI.l.length->∃v,c0 (zI r d) (s,(k:Int))=some v/\c0 (zJ r d) (s,(k:Int))=some v:=by
 intro n
 induction n with
 |zero=>
  intro k s hk;have hk:k=r.lI.l.length:=by omega
  subst hk;exact⟨s,by rw[fK];simp only[zI,k5,cond_false],by rw[fK];simp only[zJ,k5,cond_false]⟩
 |succ n ih=>
  intro k s hk;have aY:k<r.lI.l.length:=by omega
  have aT:=gk aY;have hn:=fV (show k<4611686018427387904 by omega);obtain⟨u,gf,iu⟩:=ahp r d aT gZ d.l.length 0 s (by omega);have gf:c0 (xe d r.lI.l[k]) (s,0)=some u:=gf;have iu:c0 (xf r d (k:Int)) (s,0)=some u:=iu;obtain⟨v,v1,v2⟩:=ih (k+1) u (by omega);refine⟨v,?_,?_⟩
  ·rw[fK];simp only[zI,iK aY,cond_true,iJ,aT,dM,gf,hn];exact v1
  ·rw[fK];simp only[zJ,iK aY,cond_true,dM,iu,hn];exact v2
theorem ahr (r:Row)(d:al Change)(gZ:d.l.length<=100000)(hT:r.lI.l.length<=100000):∃v,CL r d=some v/\CM r d=some v:=by
 obtain⟨v,v1,v2⟩:=ahq r d gZ hT r.lI.l.length 0 0 (by omega);have v1:c0 (zI r d) (0,0)=some v:=v1;have v2:c0 (zJ r d) (0,0)=some v:=v2;exact⟨v,by unfold CL;rw[v1];rfl,by unfold CM;rw[v2];rfl⟩
theorem ahs{α:Type}{hv:Nat}{x:al α}(hb:hv+1<=1000)(h:x.l.length<=100000):∃z,wO hv x=some z/\z.l=x.l:=by
 cases x with
 |nil=>exact⟨_,rfl,rfl⟩
 |emp=>exact⟨_,rfl,rfl⟩
 |mk l=>
  obtain⟨z,e,el⟩:=sA (x:=(al.emp:al α)) (y:=al.mk l) hb (by show 0+l.length<=_;have:l.length<=100000:=h;omega);exact⟨z,e,by rw[el];rfl⟩
theorem aht (l:al Term)(a b:al Change)(bound:Int)(hl:k4 l.l)(ha:k4 a.l)(hb:k4 b.l):CN l a b bound=some true:=by
 unfold CN;obtain⟨f1,eQ,az⟩:=ahn l hl;obtain⟨f2,nE,a7⟩:=Uc a ha;obtain⟨f3,wc,hF⟩:=Uc b hb;simp only[G9,dM,cond_true,eQ];cases f1 with
 |false=>rfl
 |true=>
 simp only[cond_true,nE,dM];cases f2 with
 |false=>rfl
 |true=>
 simp only[cond_true,wc,dM];cases f3 with
 |false=>rfl
 |true=>
 obtain⟨dH,rH⟩:=az rfl;obtain⟨av,a2⟩:=a7 rfl;obtain⟨b1,fB⟩:=hF rfl;simp only[oa,cond_false]
 have c1:qY l=some (mQ (e0 (l.l.map gj))):=by
  unfold qY;rw[if_pos (by omega)];rfl
 obtain⟨z,dI,z2⟩:=T8 l (by omega) rH;have ew:=zK (l.l.map gj);rw[eA]at ew
 have s1:zz (mQ (e0 (l.l.map gj))) z=some true:=by
  refine ahk (ahi ?_) (by rw[CR,eA];omega);rw[CR,z2,jm];exact(mW fun p _=>rfl).trans (List.map_id _)
 have aO:∀x y:al Change,gE (al.mk [x,y]).l=x.l++y.l:=fun x y=>by show gE [x,y]=_;simp[gE]
 have Ue:∀x:al Change,gE (al.mk [x]).l=x.l:=fun x=>by show gE [x]=_;simp[gE]
 obtain⟨IB,ahu,IC,-⟩:=IA (al.mk [a,b]) (by show 2<=_;omega) (by rw[aO,fO];omega);rw[aO]at IC;obtain⟨Is,ae,ai⟩:=ahs (hv:=16) (x:=a) (by omega) (by omega);obtain⟨It,bz,cn⟩:=sA (hv:=16) (x:=Is) (y:=b) (by omega) (by rw[ai];omega);rw[ai]at cn
 obtain⟨bq,bH,Uf⟩:=T9 It (by rw[cn,fO];omega) (fun c hc=>by
  rw[cn]at hc;rcases hN.1 hc with q|q
  ·exact a2 c q
  ·exact fB c q)
 rw[cn]at Uf
 have hj:∀(x:al Change) (m:List Change),x.l.map ic=e0 (m.map ic)->m.length<=200->x.l.length<=100000:=fun x m h q=>by
  have h1:=congrArg List.length h;have h2:=zK (m.map ic);rw[eA]at h1 h2;omega
 have s2:u1 IB bq=some true:=Ub (Ua (IC.trans Uf.symm)) (hj _ _ IC (by rw[fO];omega));obtain⟨ID,ahv,IE,-⟩:=IA (al.mk [a]) (by show 1<=_;omega) (by rw[Ue];omega);rw[Ue]at IE;obtain⟨cc,eZ,ahw⟩:=T9 a (by omega) a2;have kU:u1 ID cc=some true:=Ub (Ua (IE.trans ahw.symm)) (hj _ _ IE (by omega));obtain⟨Ug,ahx,ahy,-⟩:=IA (al.nil:al (al Change)) (ct _) (by show(gE []).length<=_;simp[gE])
 have aq:(Ug.len==0)=true:=by
  have h2:=zK ((gE (al.nil:al (al Change)).l).map ic);have h1:=congrArg List.length ahy;rw[eA]at h1;have:((gE (al.nil:al (al Change)).l).map ic).length=0:=rfl;rw[pV];have h0:Ug.l.length=0:=by omega
  rw[h0];rfl
 obtain⟨v,v1,v2⟩:=ahr (Row.mk l bound) a (by omega) (by show l.l.length<=_;omega);simp only[c1,dI,s1,ahu,ae,bz,bH,s2,ahv,eZ,kU,ahx,aq,v1,v2,dM,cond_true,beq_self_eq_true]
end
end Go.Abs.cb
