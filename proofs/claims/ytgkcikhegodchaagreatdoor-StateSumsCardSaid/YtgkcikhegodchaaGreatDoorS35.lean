/- Texts of this claim, joined and written short by a program. -/
import Derived.Test.YtgkcikhegodchaaGreatDoorS34
import Derived.Shelf.SlSortCmp.NoneTotal
import Derived.Shelf.SlicesG.Cmp
import Derived.Shelf.Small.Bits
import Derived.Ground.SlsfProg
import Derived.Ground.SlgcProg
import Derived.Ground.NamesProg
import Derived.Test.YtgkcikhegodchaaGreatDoorProg
import Derived.Test.YtgkcikhegodchaaGreatDoorS09
import Derived.Test.YtgkcikhegodchaaGreatDoorS08
import Derived.Test.YtgkcikhegodchaaGreatDoorS21
import Derived.Shelf.SlSortCmp.WholeK
import Derived.WalkKit
import Derived.Test.YtgkcikhegodchaaGreatDoorS29
import Derived.Test.YtgkcikhegodchaaGreatDoorS10
import Derived.Test.YtgkcikhegodchaaGreatDoorS00
set_option linter.unusedVariables false
set_option linter.unusedSimpArgs false
set_option linter.unusedSectionVars false
namespace Go.Abs.bs
open Go Go.Abs
noncomputable section
variable{m:Model}
theorem aeT (d:ad Change)(hd:b2 d.l):∃b,FY d=some b/\(b=true->d.l.length<=100/\∀c∈d.l,-1000000<=c.Add/\c.Add<=1000000):=by
 unfold FY
 rw[rp (f:=Kl d) d.l hd (fun c=>!(decide (c.Add>=-1000000)&&decide (c.Add<=1000000))) (fun k c hx=>by
  simp only[Kl,gF (fM hx),cond_true,dV,hx,bm,P8];cases(decide (c.Add>=-1000000)&&decide (c.Add<=1000000))<;>rfl) (by simp only[Kl,hv,cond_false])]
 cases ha:d.l.any fun c=>!(decide (c.Add>=-1000000)&&decide (c.Add<=1000000))with
 |true=>exact⟨false,rfl,fun h=>by cases h⟩
 |false=>
  refine⟨_,rfl,fun h=> ?_⟩;rw[decide_eq_true_eq,ew]at h;refine⟨by omega,fun c hc=> ?_⟩;have:=S5.1 ha c hc;simp only[mb,HM,cn,decide_eq_true_eq]at this;omega
theorem Hz{f a:Int}(F A:Nat)(h1:f.natAbs<=F)(h2:a.natAbs<=A):(f*a).natAbs<=F*A:=by
 rw[Int.natAbs_mul];exact HU h1 h2
def SB (l:List Term):Prop:=∀t∈l,-1000<=t.dA/\t.dA<=1000
theorem aw0{t:Term}(ae:-1000<=t.dA/\t.dA<=1000):∀(l:List Change) (s:Int),(∀c∈l,-1000000<=c.Add/\c.Add<=1000000)-> -(4000000000000000000:Int)+1000000000*(l.length:Int)<=s->s+1000000000*(l.length:Int)<=4000000000000000000->
  l.foldl (fun a (c:Change)=>bif c.Cell==t.Cell then aM (a+aM (t.dA*c.Add))else a) s=s+t.dA*dd t.Cell (l.map fU):=by
 intro l
 induction l with
 |nil=>
  intro s _ _ _;show s=s+t.dA*0;rw[Int.mul_zero,Int.add_zero]
 |cons c l ih=>
  intro s h h1 h2;simp only[fl]at h1 h2;have hc:=h c (by simp);have hm:=Hz 1000 1000000 (show t.dA.natAbs<=1000 by omega) (show c.Add.natAbs<=1000000 by omega);rw[ot,aeL];by_cases e:c.Cell=t.Cell
  ·have ab:(c.Cell==t.Cell)=true:=by simp[e]
   rw[ab,cond_true,if_pos e,eY (n:=t.dA*c.Add) (by omega) (by omega),eY (n:=s+t.dA*c.Add) (by omega) (by omega),ih _ (fun x hx=>h x (by simp[hx])) (by omega) (by omega),Int.mul_add];omega
  ·have ab:(c.Cell==t.Cell)=false:=by simp[e]
   rw[ab,cond_false,if_neg e,ih s (fun x hx=>h x (by simp[hx])) (by omega) (by omega),DM]
structure yu (d:ad Change):Prop where
 len:d.l.length<=100
 add:∀c∈d.l,-1000000<=c.Add/\c.Add<=1000000
theorem yu.SC{d:ad Change}(h:yu d):Dw (d.l.map fU):=fun t ht=>by
 obtain⟨c,hc,rfl⟩:=dX.1 ht;exact h.add c hc
theorem yu.dd{d:ad Change}(h:yu d)(k:Int):-100000000<=dd k (d.l.map fU)/\dd k (d.l.map fU)<=100000000:=by
 have:=aeI (k:=k) h.SC;rw[ef]at this;have:=h.len;omega
theorem aw1{d:ad Change}(hd:yu d){t:Term}(ae:-1000<=t.dA/\t.dA<=1000){s:Int}(h1:-1000000000000000<=s)(h2:s<=1000000000000000):bZ (F8 d t) (s,0)=some (s+t.dA*dd t.Cell (d.l.map fU)):=by
 have hl:=hd.len
 have h:=Dg (f:=F8 d t) (fun k (a:Int)=>(a,(k:Int))) (fun _ a (c:Change)=>.inl (bif c.Cell==t.Cell then aM (a+aM (t.dA*c.Add))else a)) (fun a=>a) (fun _ _=>True) d.l (fun k a c hc _=>by
  refine⟨?_,fun _ _=>trivial⟩;have hw:aM ((k:Int)+1)=((k+1:Nat):Int):=eT (by have:=fM hc;omega);simp only[F8,gF (fM hc),cond_true,dV,hc,bm,hw];cases c.Cell==t.Cell<;>rfl) (fun a _=>by simp only[F8,hv,cond_false]) (a:=s) trivial
 rw[GV fun _ _ _=>rfl,aw0 ae d.l s hd.add (by omega) (by omega)]at h;exact h
theorem SD (f:Int->Int):∀(l:List Term) (s:Int),l.foldl (fun a (t:Term)=>a+t.dA*f t.Cell) s=s+kc f l
 |[],s=>by simp[kc]
 |t::l,s=>by
  rw[ot,SD f l];simp only[kc];omega
theorem SE{f:Int->Int}{B:Nat}:∀{l:List Term},SB l->(∀t∈l,(f t.Cell).natAbs<=B)->(kc f l).natAbs<=1000*B*l.length
 |[],_,_=>by simp[kc]
 |t::l,h,hb=>by
  have ih:=SE (l:=l) (fun x hx=>h x (by simp[hx])) fun x hx=>hb x (by simp[hx]);have ht:=h t (by simp);have hm:=Hz 1000 B (show t.dA.natAbs<=1000 by omega) (hb t (by simp));simp only[kc,fl,Nat.mul_add,HW];omega
theorem aeU{r:Row}{d:ad Change}(hd:yu d)(hT:r.cC.l.length<=20)(ae:SB r.cC.l):Ga r d=some (kc (fun k=>dd k (d.l.map fU)) r.cC.l):=by
 have h:=Dg (f:=F9 r d) (fun k (a:Int)=>(a,(k:Int))) (fun _ a (t:Term)=>.inl (a+t.dA*dd t.Cell (d.l.map fU))) (fun a=>a) (fun k a=>-100000000000*(k:Int)<=a/\a<=100000000000*(k:Int)) r.cC.l (fun k a t ht bk=>by
  have aK:=fM ht;have aeV:=ae t (gV ht);have aBo:=hd.dd t.Cell;have hm:=Hz 1000 100000000 (show t.dA.natAbs<=1000 by omega) (show(dd t.Cell (d.l.map fU)).natAbs<=100000000 by omega);refine⟨?_,fun a8 ha=> ?_⟩
  ·have hw:aM ((k:Int)+1)=((k+1:Nat):Int):=eT (by omega)
   simp only[F9,gF aK,cond_true,dV,ht,bm,hw,aw1 hd aeV (s:=a) (by omega) (by omega)]
  ·cases ha
   push_cast
   omega) (fun a _=>by simp only[F9,hv,cond_false]) (a:=0) ⟨by simp,by simp⟩
 rw[GV fun _ _ _=>rfl,SD (fun k=>dd k (d.l.map fU)),DM]at h;unfold Ga;have h:bZ (F9 r d) (0,0)=some (kc (fun k=>dd k (d.l.map fU)) r.cC.l):=h;rw[h];rfl
theorem aeW (st:ad Int):∀l:List Term,nx st l=kc (eZ st) l
 |[]=>rfl
 |t::l=>by simp only[nx,kc,aeW st l]
theorem aw2 (hb:tN m=true)(af:tO m=true){c:Constraint}(hc:c∈m.dO.l)(hk:c.Kind=0):c.Row.cC.l.length<=20/\SB c.Row.cC.l/\∀t∈c.Row.cC.l,0<=t.Cell/\t.Cell<((gU m.bE.l m.Tables.l true).length:Int):=by
 have b:=yi hb;unfold tO at af;simp only[cn]at af;obtain⟨-,-,-,h,-⟩:=af;unfold G3 at h;simp only[cn]at h;obtain⟨i,hi⟩:=DE hc;have L2:=Lo.1 h.2.2 _ _ hi;unfold Dk at L2;have gx:(c.Kind==0)=true:=by simp[hk]
 rw[gx]at L2;simp only[cn,cond_true]at L2;have zm:=L2.2.1.2.2;unfold AY at zm;simp only[cn]at zm;have eP:=Lo.1 zm.1
 have kA:∀(k:Nat) t,c.Row.cC.l[k]? =some t->mK Term.Cell c.Row.cC.l k<t.Cell/\t.Cell<((gU m.bE.l m.Tables.l true).length:Int)/\ -1000<=t.dA/\t.dA<=1000:=fun k t hk=>by
  have:=eP k t hk;unfold Di uT at this;simp only[cn,mb,decide_eq_false_iff_not,decide_eq_true_eq]at this;omega
 refine⟨b.Hl c hc,fun t ht=> ?_,fun t ht=> ?_⟩
 ·obtain⟨k,hk⟩:=DE ht
  exact(kA k t hk).2.2
 ·obtain⟨k,hk⟩:=DE ht
  obtain⟨q1,q2⟩:=kA k t hk;have:=ac2 (f:=Term.Cell) (xs:=c.Row.cC.l) (k:=k) fun j y _ hy=>(kA j y hy).1;exact⟨by omega,q2.1⟩
theorem aw3{c:Constraint}(hk:c.Kind=0)(st:ad Int):qp c st=qp (Constraint.mk 0 0 c.Row 0 0) st:=by
 have h0:(c.Kind==0)=true:=by simp[hk]
 have h1:(c.Kind==1)=false:=by simp[hk]
 have e:tv (Constraint.mk 0 0 c.Row 0 0) st=tv c st:=by
  funext x;obtain⟨b0,dy,gA⟩:=x;simp only[tv]
 have ab:((Constraint.mk 0 0 c.Row 0 0).Kind==1)=false:=rfl;have eL:((Constraint.mk 0 0 c.Row 0 0).Kind==0)=true:=rfl;unfold qp;rw[h0,h1,eL,ab,e];simp only[cond_false]
theorem aeX{α β:Type}{jJ:Nat}{f:(Int × ad α)->Option (cU (Int × ad α) (ad α))}{xs:List β}{g:β->α}(Ep:jJ+1<=1000)(ae:∀(k:Nat) acc x,xs[k]? =some x->f ((k:Int),acc)=(gn jJ acc (ad.mk [g x])).bind fun s=>some (.next (aM ((k:Int)+1),s)))(he:∀acc,f ((xs.length:Int),acc)=some (.out acc)):
  ∀(d k:Nat) (acc:ad α),k+d=xs.length->xs.length<=100000->acc.l.length+d<=100000->∃z,bZ f ((k:Int),acc)=some z/\z.l=acc.l++(xs.drop k).map g:=by
 intro d
 induction d with
 |zero=>
  intro k acc hk hx ha;have hk:k=xs.length:=by omega
  subst hk;exact⟨acc,by rw[fK,he],by simp⟩
 |succ d ih=>
  intro k acc hk hx ha;have aK:k<xs.length:=by omega
  have hs:=ae k acc _ (gq aK);obtain⟨s,ab,aj⟩:=Dh (jJ:=jJ) (x:=acc) (y:=ad.mk [g xs[k]]) Ep (by show acc.l.length+1<=_;omega);rw[ab,bm]at hs;obtain⟨z,f1,f2⟩:=ih (k+1) s (by omega) hx (by rw[aj,fD];show acc.l.length+1+d<=_;omega);refine⟨z,?_,?_⟩
  ·rw[fK,hs,eT (by omega)];exact f1
  ·rw[f2,aj,pK aK,de,kr];rfl
theorem SF (l:List (Int × Int)):(wu l).l=l.map fun p=>Term.mk p.1 p.2:=by
 cases l<;>rfl
theorem aeY (x:ad Change)(acc:ad Term)(h:acc.l.length+x.l.length<=100000):∃z,bZ (F0 x) (0,acc)=some z/\z.l=acc.l++x.l.map fun c=>Term.mk c.Cell c.Add:=by
 obtain⟨z,ab,aj⟩:=aeX (f:=F0 x) (jJ:=16) (xs:=x.l) (g:=fun c=>Term.mk c.Cell c.Add) (by omega) (fun k acc c hc=>by
  simp only[F0,gF (fM hc),cond_true,dV,hc,bm]) (fun acc=>by simp only[F0,hv,cond_false]) x.l.length 0 acc (by omega) (by omega) h
 exact⟨z,ab,by rw[aj,HT]⟩
theorem aw4{a b:ad Change}(ha:a.l.length<=100)(hb:b.l.length<=100):∃z,Kn (ad.mk [a,b])=some z/\z.l.map fU=kI ((a.l++b.l).map fU):=by
 obtain⟨u,jV,mW⟩:=aeY a .nil (by show 0+_<=_;omega);have mW:u.l=a.l.map fun c=>Term.mk c.Cell c.Add:=by rw[mW];rfl
 obtain⟨v,v1,v2⟩:=aeY b u (by rw[mW,ef];omega);have v2:v.l=(a.l++b.l).map fun c=>Term.mk c.Cell c.Add:=by rw[v2,mW,jP]
 have hl:bZ (F1 (ad.mk [a,b])) (0,.nil)=some v:=by
  have d0:decide ((0:Int)<(ad.mk [a,b]).len)=true:=rfl;have d1:decide (aM (0+1)<(ad.mk [a,b]).len)=true:=rfl;have d2:decide (aM (aM (0+1)+1)<(ad.mk [a,b]).len)=false:=rfl;have cZ:bj (ad.mk [a,b]).l 0=some a:=rfl;have b0:bj (ad.mk [a,b]).l (aM (0+1))=some b:=rfl;rw[fK];simp only[F1,d0,cZ,cond_true,bm,jV];rw[fK];simp only[F1,d1,b0,cond_true,bm,v1];rw[fK];simp only[F1,d2,cond_false]
 have lv:v.l.length<=200:=by rw[v2,ef,fD];omega
 have zG:(v.l.map fun t=>(t.Cell,t.dA))=(a.l++b.l).map fU:=by rw[v2,kR];rfl
 have hc:Cx v=some (wu (kI ((a.l++b.l).map fU))):=by
  unfold Cx;rw[if_pos (by omega),zG]
 have fe:=aeK ((a.l++b.l).map fU);rw[ef,fD]at fe
 obtain⟨z,na,z2⟩:=aeX (f:=F2 (wu (kI ((a.l++b.l).map fU)))) (jJ:=16) (xs:=(wu (kI ((a.l++b.l).map fU))).l) (g:=fun t=>Change.mk t.Cell t.dA) (by omega) (fun k acc t ht=>by
  simp only[F2,gF (fM ht),cond_true,dV,ht,bm]) (fun acc=>by simp only[F2,hv,cond_false]) (wu (kI ((a.l++b.l).map fU))).l.length 0 .nil (by omega) (by rw[SF,ef];omega) (by rw[SF,ef];show 0+_<=_;omega)
 have na:bZ (F2 (wu (kI ((a.l++b.l).map fU)))) (0,.nil)=some z:=na;refine⟨z,?_,?_⟩
 ·unfold Kn
  rw[hl,bm,hc,bm,na,bm]
 ·rw[z2,HT,SF]
  show((([]:List Change)++_).map fU)=_;rw[iM,kR,kR];exact(pN fun p _=>rfl).trans (List.map_id _)
theorem SG{l:List Int}(h:l.all uZ=true)(i:Nat):-1000000<=l.getD i 0/\l.getD i 0<=1000000:=by
 rw[iL];cases hx:l[i]? with
 |none=>simp
 |some v=>
  have:=eU.1 h v (gV hx);unfold uZ at this;simp only[mb,yz,decide_eq_false_iff_not]at this;show -1000000<=v/\v<=1000000;omega
theorem aw5 (a:ad Int)(h:b2 a.l)(x:Int):Ac a x=some (a.l.any fun y=>x==y):=AX a h (f:=fun y=>some (x==y)) (fun _ _=>rfl)
theorem aw6 (hb:tN m=true){x:ad Int}(jk:x.l.length<=100000){c:Constraint}(hc:c∈m.dO.l):∃v,qp c x=some v:=awg c x jk ((awm (yi hb)).Hl c hc)
theorem aw7 (hb:tN m=true)(st:ad Int):∃v,J2 m st=some v/\(v=true↔tO m=true/\st.l.length=(gU m.bE.l m.Tables.l true).length):=by
 have b:=yi hb;have z:=aeQ hb;obtain⟨x,ab,aj⟩:=RM m.bE m.Tables true z.Hk z.tables z.hz;unfold J2;rw[R5 b];cases af:tO m with
 |false=>exact⟨false,rfl,by simp⟩
 |true=>
  rw[SA af]at aj;simp only[cond_true]at aj;unfold PU;simp only[bm,cond_true,ab,ew,aj]
  exact⟨_,rfl,by
   rw[beq_iff_eq];constructor
   ·intro h
    exact⟨trivial,by omega⟩
   ·rintro⟨-,h⟩
    omega⟩
theorem aw8 (hb:tN m=true)(af:tO m=true){x:ad Int}(hn:x.l.length=(gU m.bE.l m.Tables.l true).length):∃z,Kr m x=some z/\∀(i:Nat) c v,m.dO.l[i]? =some c->qp c x=some v->Ac z (i:Int)=some (!v):=by
 have b:=yi hb;have hlen:=adb (SA af) true;have jk:x.l.length<=100000:=by omega
 obtain⟨w,f1,f3⟩:=aw7 hb x;have aw9:w=true:=f3.2 ⟨af,hn⟩;subst aw9
 have hk:∀k,k<m.dO.l.length->∃c v,m.dO.l[k]? =some c/\qp c x=some v:=fun k hk=>by
  obtain⟨v,af⟩:=aw6 hb jk (Mq hk);exact⟨_,v,gq hk,af⟩
 have fe:m.dO.l.length<=100000:=by have:=b.cons;omega
 obtain⟨z,h1,h2⟩:=awY (f:=F7 m x) fe (o:=fun k=>if((m.dO.l[k]?.bind fun c=>qp c x).getD true)=true then none else some (k:Int)) (fun k acc aK=>by
  obtain⟨c,v,q1,q2⟩:=hk k aK;simp only[F7,gF aK,cond_true,dV,q1,q2,bm,tW];cases v<;>rfl) (fun acc=>by simp only[F7,hv,cond_false]) m.dO.l.length 0 .nil (by omega) (aF _)
 have h1:bZ (F7 m x) (0,.nil)=some z:=h1
 have qG:b2 z.l:=by
  rw[h2];have:=List.length_filterMap_le (fun k:Nat=>if((m.dO.l[k]?.bind fun c=>qp c x).getD true)=true then none else some (k:Int)) (List.range' 0 m.dO.l.length);rw[List.length_range']at this;show(([]:List Int)++_).length<_;simp only[iM];omega
 refine⟨z,?_,fun i c v hi hc=> ?_⟩
 ·unfold Kr
  rw[f1,bm,cond_true,h1,bm]
 ·rw[aw5 z qG]
  congr 1;have aK:=fM hi;rw[xb,rD,mb];constructor
  ·rintro⟨y,hy,e⟩
   have e:=eq_of_beq e;subst e;rw[h2]at hy;have hy:(i:Int)∈([]:List Int)++(List.range' 0 m.dO.l.length).filterMap _:=hy;rw[iM,HJ]at hy;obtain⟨k,-,hk⟩:=hy;split at hk
   ·cases hk
   ·rename_i aZ
    have axa:k=i:=by have:=u3 hk;omega
    subst axa;rw[hi,bm,hc,tW]at aZ;simpa using aZ
  ·intro vu
   subst vu;refine⟨(i:Int),?_,by simp⟩;rw[h2];show(i:Int)∈([]:List Int)++_;rw[iM,HJ];refine⟨i,by rw[List.mem_range'_1];omega,?_⟩;rw[hi,bm,hc];rfl
theorem axb (m:Model)(l:ad Int)(a b:ad Change)(hl:b2 l.l)(ha:b2 a.l)(fu:b2 b.l):Kt m l a b=some true:=by
 unfold Kt PA;simp only[bm,cond_true,atk,awE l hl];cases hb:tN m with
 |false=>rfl
 |true=>
 simp only[cond_true];cases L3:l.l.all uZ&&decide (l.l.length<=128)with
 |false=>rfl
 |true=>
 simp only[cn,decide_eq_true_eq]at L3;obtain⟨aeZ,Cv,dZ⟩:=aeT a ha;obtain⟨ug,eb,ae0⟩:=aeT b fu;simp only[cond_true,Cv,eb,bm];cases aeZ with
 |false=>rfl
 |true=>
 simp only[cond_true];cases ug with
 |false=>rfl
 |true=>
 simp only[cond_true,R5 (yi hb),bm];cases af:tO m with
 |false=>rfl
 |true=>
 obtain⟨x,s1,s2⟩:=awZ hb af;simp only[cond_true,s1,bm];cases hd:(l.len != x.len)with
 |true=>rfl
 |false=>
 have hn:l.l.length=(gU m.bE.l m.Tables.l true).length:=by
  have:l.len=x.len:=by simpa[bne]using hd
  rw[ew,ew,s2]at this;omega
 have hA:yu a:=⟨(dZ rfl).1,(dZ rfl).2⟩;have cQ:yu b:=⟨(ae0 rfl).1,(ae0 rfl).2⟩;have jk:l.l.length<=100000:=by omega
 obtain⟨xX,p1,p2⟩:=Hy l a jk ha;obtain⟨lk,p3,kj⟩:=Hy xX b (by rw[p2,w5];exact jk) fu;obtain⟨axc,rf,x9⟩:=Hy l b jk fu;obtain⟨ae1,C7,axd⟩:=Hy axc a (by rw[x9,w5];exact jk) ha;obtain⟨ae2,GS,L4⟩:=aw4 hA.len cQ.len
 have nP:ae2.l.length<=200:=by
  have h1:=congrArg List.length L4;have h2:=aeK ((a.l++b.l).map fU);rw[ef]at h1;rw[ef,fD]at h2;have:=hA.len;have:=cQ.len;omega
 obtain⟨ae3,axe,axf⟩:=Hy l ae2 jk (by unfold b2;omega)
 have aD:∀i,i<l.l.length->aM (l.l.getD i 0)=l.l.getD i 0:=fun i _=>by
  have:=SG L3.1 i;exact eY (by omega) (by omega)
 have axg:Dw ((a.l++b.l).map fU):=fun t ht=>by
  rw[jP,jc]at ht;rcases ht with ht|ht
  ·exact hA.SC t ht
  ·exact cQ.SC t ht
 have axh:ae1.l=lk.l:=by rw[axd,x9,kj,p2,awi]
 have axi:ae3.l=lk.l:=by
  rw[axf,kj,p2,awO];refine(awN aD fun k=> ?_).symm;rw[L4,awJ axg (by rw[ef,fD];have:=hA.len;have:=cQ.len;omega)]
 have SH:lk.l.length=l.l.length:=by rw[kj,w5,p2,w5]
 have hlen:(lk.len != l.len)=false:=by rw[ew,ew,SH];simp
 have axj:Ab lk ae1=some true:=aeR axh (by unfold b2;omega);have Rg:Ab lk ae3=some true:=aeR axi (by unfold b2;omega);obtain⟨z,na,z2⟩:=aw8 hb af (x:=lk) (by rw[SH,hn]);simp only[cond_false,p1,p3,rf,C7,GS,axe,axj,Rg,hlen,cond_true,na,bm]
 have hval:∀i:Nat,i<l.l.length->lk.l.getD i 0=dd (i:Int) (a.l.map fU)+dd (i:Int) (b.l.map fU)+l.l.getD i 0:=fun i hi=>by
  have h1:=SG L3.1 i;have h2:=hA.dd (i:Int);have ar:=cQ.dd (i:Int)
  have q1:(nw l.l a.l).getD i 0=l.l.getD i 0+dd (i:Int) (a.l.map fU):=by
   rw[Dx a.l l.l hi (aD i hi),eY (by omega) (by omega)]
  rw[kj,p2,Dx b.l _ (by rw[w5];exact hi) (by rw[q1,eY (by omega) (by omega)]),q1,eY (by omega) (by omega)];omega
 rw[rp (f:=Ks m l a b z) m.dO.l (by have:=(yi hb).cons;omega) (fun _=>false) (fun i c hi=>by
  have hm:=gV hi;simp only[Ks,gF (fM hi),cond_true,dV,hi,bm];cases hk:(c.Kind != 0)with
  |true=>rfl
  |false=>
   have rY:c.Kind=0:=by simpa[bne]using hk
   obtain⟨bB,b4,eI⟩:=aw2 hb af hm rY
   have hcell:∀t∈c.Row.cC.l,∃i:Nat,t.Cell=(i:Int)/\i<l.l.length:=fun t ht=>by
    have:=eI t ht;exact⟨t.Cell.toNat,by omega,by omega⟩
   have b7:∀t∈c.Row.cC.l,eZ lk t.Cell=dd t.Cell (a.l.map fU)+dd t.Cell (b.l.map fU)+eZ l t.Cell:=fun t ht=>by
    obtain⟨i,e,hi⟩:=hcell t ht;unfold eZ;rw[e,HL];exact hval i hi
   have hin:∀(s:ad Int),s.l.length=l.l.length->c.Row.cC.l.all (uY s.len)=true:=fun s hs=>eU.2 fun t ht=>by
    obtain⟨q1,q2⟩:=eI t ht;unfold uY;rw[decide_eq_false (show ¬t.Cell<0 by omega),decide_eq_false (show ¬t.Cell>=s.len by rw[ew,hs];omega)];rfl
   have dY:∀t:Term,-1000000<=eZ l t.Cell/\eZ l t.Cell<=1000000:=fun t=>SG L3.1 _
   have hold:=awQ c.Row lk (by omega) (fun t ht=>by
    have h1:=b7 t ht;have h2:=hA.dd t.Cell;have ar:=cQ.dd t.Cell;have aR:=dY t;have ae:=b4 t ht;have axk:=Hz 1000 1000000000 (show t.dA.natAbs<=1000 by omega) (show(eZ lk t.Cell).natAbs<=1000000000 by omega);exact⟨by omega,by omega,by omega,by omega⟩) (hin lk SH)
   rw[<-aw3 rY]at hold
   have axl:nx lk c.Row.cC.l=kc (fun k=>dd k (a.l.map fU)) c.Row.cC.l+kc (fun k=>dd k (b.l.map fU)) c.Row.cC.l+kc (eZ l) c.Row.cC.l:=by
    rw[aeW,<-Sy,<-Sy];exact aeM b7
   have aeZ:=SE (f:=fun k=>dd k (a.l.map fU)) (B:=100000000) b4 fun t _=>by have:=hA.dd t.Cell;omega
   have ug:=SE (f:=fun k=>dd k (b.l.map fU)) (B:=100000000) b4 fun t _=>by have:=cQ.dd t.Cell;omega
   have oB:bZ (Gb l c) (aM (kc (fun k=>dd k (a.l.map fU)) c.Row.cC.l+kc (fun k=>dd k (b.l.map fU)) c.Row.cC.l),0)=some (nx lk c.Row.cC.l):=by
    rw[eY (by omega) (by omega)]
    have h:=Dg (f:=Gb l c) (fun k (a:Int)=>(a,(k:Int))) (fun _ a (t:Term)=>.inl (a+t.dA*eZ l t.Cell)) (fun a=>a) (fun k a=>-10000000000000-1000000000*(k:Int)<=a/\a<=10000000000000+1000000000*(k:Int)) c.Row.cC.l (fun k a t ht bk=>by
     have aK:=fM ht;have ae4:=gV ht;have aeV:=b4 t ae4;have aR:=dY t;have axk:=Hz 1000 1000000 (show t.dA.natAbs<=1000 by omega) (show(eZ l t.Cell).natAbs<=1000000 by omega);have axm:bj l.l t.Cell=some (eZ l t.Cell):=aeC (eU.1 (hin l rfl) t ae4);refine⟨?_,fun a8 ha=> ?_⟩
     ·have hw:aM ((k:Int)+1)=((k+1:Nat):Int):=eT (by omega)
      simp only[Gb,gF aK,cond_true,dV,ht,axm,bm,hw];rw[eY (n:=t.dA*eZ l t.Cell) (by omega) (by omega),eY (n:=a+_) (by omega) (by omega)]
     ·cases ha
      push_cast
      omega) (fun a _=>by simp only[Gb,hv,cond_false]) (a:=kc (fun k=>dd k (a.l.map fU)) c.Row.cC.l+kc (fun k=>dd k (b.l.map fU)) c.Row.cC.l) ⟨by omega,by omega⟩
    rw[GV fun _ _ _=>rfl,SD (eZ l),<-axl]at h;exact h
   simp only[cond_false,aeU hA bB b4,aeU cQ bB b4,bm,oB,z2 i c _ hi hold]
   have:((!decide (nx lk c.Row.cC.l<=c.Row.ni))==decide (nx lk c.Row.cC.l>c.Row.ni))=true:=by
    by_cases q:nx lk c.Row.cC.l<=c.Row.ni
    ·rw[decide_eq_true q,decide_eq_false (by omega)];rfl
    ·rw[decide_eq_false q,decide_eq_true (by omega)];rfl
   rw[this];rfl) (by simp only[Ks,hv,cond_false])]
 have ae:m.dO.l.any (fun _=>false)=false:=by simp
 rw[ae];rfl
end
end Go.Abs.bs
namespace Go.Proofs
open Go.Shelf
def Tryz.axn:Go.Shelf.Ren:=⟨fun|6=>93|15=>166|14=>165|28=>276|29=>277|20=>268|21=>269|22=>270|23=>271|24=>272|25=>273|26=>274|27=>275|46=>375|47=>376|48=>377|49=>378|50=>379|57=>437|n=>n,fun|22=>53|24=>60|25=>168|3=>3|39=>250|0=>0|53=>320|55=>323|4=>4|46=>329|45=>328|50=>209|5=>5|9=>9|66=>400|70=>156|76=>450|77=>451|n=>n,fun|n=>n⟩
theorem Tryz.ae5:Go.Proofs.SlLaysF0.n6 Tryz.prog Tryz.axn:={
 mixed:=by kernel_rfl
 f6:=⟨Tryz.f93.name,by decide,Tryz.func93.trans (congrArg some (by kernel_rfl))⟩
 f14:=⟨Tryz.f165.name,by decide,Tryz.func165.trans (congrArg some (by kernel_rfl))⟩
 f15:=Tryz.func166.trans (congrArg some (by kernel_rfl))
 f20:=⟨Tryz.f268.name,by decide,Tryz.func268.trans (congrArg some (by kernel_rfl))⟩
 f21:=⟨Tryz.f269.name,by decide,Tryz.func269.trans (congrArg some (by kernel_rfl))⟩
 f22:=⟨Tryz.f270.name,by decide,Tryz.func270.trans (congrArg some (by kernel_rfl))⟩
 f23:=⟨Tryz.f271.name,by decide,Tryz.func271.trans (congrArg some (by kernel_rfl))⟩
 f24:=⟨Tryz.f272.name,by decide,Tryz.func272.trans (congrArg some (by kernel_rfl))⟩
 f25:=⟨Tryz.f273.name,by decide,Tryz.func273.trans (congrArg some (by kernel_rfl))⟩
 f26:=⟨Tryz.f274.name,by decide,Tryz.func274.trans (congrArg some (by kernel_rfl))⟩
 f27:=⟨Tryz.f275.name,by decide,Tryz.func275.trans (congrArg some (by kernel_rfl))⟩
 f28:=Tryz.func276.trans (congrArg some (by kernel_rfl))
 f29:=Tryz.func277.trans (congrArg some (by kernel_rfl))
 f46:=⟨Tryz.f375.name,by decide,Tryz.func375.trans (congrArg some (by kernel_rfl))⟩
 f47:=Tryz.func376.trans (congrArg some (by kernel_rfl))
 f48:=Tryz.func377.trans (congrArg some (by kernel_rfl))
 f49:=⟨Tryz.f378.name,by decide,Tryz.func378.trans (congrArg some (by kernel_rfl))⟩
 f50:=⟨Tryz.f379.name,by decide,Tryz.func379.trans (congrArg some (by kernel_rfl))⟩
 f57:=⟨Tryz.f437.name,by decide,Tryz.func437.trans (congrArg some (by kernel_rfl))⟩
 t0:=Tryz.underlying0
 a0:=Tryz.isAgg0
 z0:=Tryz.sizeOf0
 v0:=Tryz.zeroValue0
 t3:=Tryz.underlying3
 a3:=Tryz.isAgg3
 z3:=Tryz.sizeOf3
 v3:=Tryz.zeroValue3
 t4:=Tryz.underlying4
 a4:=Tryz.isAgg4
 z4:=Tryz.sizeOf4
 v4:=Tryz.zeroValue4
 t5:=Tryz.underlying5
 a5:=Tryz.isAgg5
 z5:=Tryz.sizeOf5
 v5:=Tryz.zeroValue5
 t9:=Tryz.underlying9
 a9:=Tryz.isAgg9
 z9:=Tryz.sizeOf9
 v9:=Tryz.zeroValue9
 t22:=Tryz.underlying53
 a22:=Tryz.isAgg53
 z22:=Tryz.sizeOf53
 v22:=Tryz.zeroValue53
 t25:=Tryz.underlying168
 a25:=Tryz.isAgg168
 z25:=Tryz.sizeOf168
 v25:=Tryz.zeroValue168
 t39:=Tryz.underlying250
 a39:=Tryz.isAgg250
 z39:=Tryz.sizeOf250
 v39:=Tryz.zeroValue250
 t45:=Tryz.underlying328
 a45:=Tryz.isAgg328
 z45:=Tryz.sizeOf328
 v45:=Tryz.zeroValue328
 t46:=Tryz.underlying329
 a46:=Tryz.isAgg329
 z46:=Tryz.sizeOf329
 v46:=Tryz.zeroValue329
 t50:=Tryz.underlying209
 a50:=Tryz.isAgg209
 z50:=Tryz.sizeOf209
 v50:=Tryz.zeroValue209
 t53:=Tryz.underlying320
 a53:=Tryz.isAgg320
 z53:=Tryz.sizeOf320
 v53:=Tryz.zeroValue320
 t55:=Tryz.underlying323
 a55:=Tryz.isAgg323
 z55:=Tryz.sizeOf323
 v55:=Tryz.zeroValue323
 t66:=Tryz.underlying400
 a66:=Tryz.isAgg400
 z66:=Tryz.sizeOf400
 v66:=Tryz.zeroValue400
 t70:=Tryz.underlying156
 a70:=Tryz.isAgg156
 z70:=Tryz.sizeOf156
 v70:=Tryz.zeroValue156
 t76:=Tryz.underlying450
 a76:=Tryz.isAgg450
 z76:=Tryz.sizeOf450
 v76:=Tryz.zeroValue450
 t77:=Tryz.underlying451
 a77:=Tryz.isAgg451
 z77:=Tryz.sizeOf451
 v77:=Tryz.zeroValue451}
def Tryz.axo:Go.Shelf.Ren:=⟨fun|5=>95|7=>167|n=>n,fun|22=>3|3=>3|4=>4|n=>n,fun|n=>n⟩
theorem Tryz.axp:Go.Proofs.SlLaysC2.n5 Tryz.prog Tryz.axo:={
 mixed:=by kernel_rfl
 f5:=⟨Tryz.f95.name,by decide,Tryz.func95.trans (congrArg some (by kernel_rfl))⟩
 f7:=⟨Tryz.f167.name,by decide,Tryz.func167.trans (congrArg some (by kernel_rfl))⟩
 t3:=Tryz.underlying3
 a3:=Tryz.isAgg3
 z3:=Tryz.sizeOf3
 v3:=Tryz.zeroValue3
 t4:=Tryz.underlying4
 a4:=Tryz.isAgg4
 z4:=Tryz.sizeOf4
 v4:=Tryz.zeroValue4
 t22:=Tryz.underlying3
 a22:=Tryz.isAgg3
 z22:=Tryz.sizeOf3
 v22:=Tryz.zeroValue3}
end Go.Proofs
namespace Go.Abs
open Go Go.Proofs Go.Sort
def gG (x:Int × Int):V:=.agg [.int .i64 x.1,.int .i64 x.2]
def jM (x:Int × Int):List Value:=[.int .i64 x.1,.int .i64 x.2]
def SI:V->Option (Int × Int)
 | .agg [.int .i64 a,.int .i64 b]=>some (a,b)
 | _=>none
def yv:List V->Option (List (Int × Int))
 |[]=>some []
 |v::r=>match SI v,yv r with
  |some x,some xs=>some (x::xs)
  | _,_=>none
theorem axq{v:V}{x:Int × Int}(h:SI v=some x):v=gG x:=by
 unfold SI at h;split at h
 ·cases h;rfl
 ·cases h
theorem SJ:∀{ds:List V} {ps:List (Int × Int)},yv ds=some ps->ds=ps.map gG
 |[],ps,h=>by cases h;rfl
 |v::r,ps,h=>by
  simp only[yv]at h;split at h
  ·rename_i x xs h1 h2
   cases h;rw[de,<-axq h1,<-SJ h2]
  ·cases h
theorem SK:∀ps:List (Int × Int),yv (ps.map gG)=some ps
 |[]=>rfl
 |p::ps=>by
  rw[de];simp only[yv];rw[SK ps];rfl
theorem ae6{fid:Nat->Nat}{G:bT}{w:World}:∀(ps:List (Int × Int)),a1 fid G w ((ps.map gG).flatMap aE) (ps.flatMap jM)
 |[]=>.nil
 |p::ps=>.cons _ _ _ _ (.p _ _ (.int _ _)) (.cons _ _ _ _ (.p _ _ (.int _ _)) (ae6 ps))
theorem ae7{fid:Nat->Nat}{G:bT}{w:World}:∀{ps:List (Int × Int)} {vals:List Value},a1 fid G w ((ps.map gG).flatMap aE) vals->vals=ps.flatMap jM
 |[],_,h=>by cases h;rfl
 |p::ps,_,h=>by
  have h:a1 fid G w (V.int .i64 p.1::V.int .i64 p.2::(ps.map gG).flatMap aE) _:=h;cases h with
  |cons _ x _ xs h1 h2=>
   cases h2 with
   |cons _ y _ cB ar aR=>
    rw[h1.jA,ar.jA,ae7 aR];rfl
theorem aBv:∀(l:List (Int × Int)) (t:Nat),(l.flatMap jM)[t]? =l[t/2]?.map fun x=>(jM x)[t%2]!
 |[],t=>by simp
 |x::l,0=>rfl
 |x::l,1=>rfl
 |x::l,t+2=>by
  have ab:(t+2)/2=t/2+1:=by omega
  have aj:(t+2)%2=t%2:=by omega
  rw[ab,aj,yy,<-aBv l t];rfl
theorem Ba (l:List (Int × Int)):(l.flatMap jM).length=l.length*2:=by
 induction l with
 |nil=>rfl
 |cons x l ih=>rw[kd,fD,ih,fl];show 2+_=_;omega
theorem SL (d:Array (Int × Int)):(flatK jM 2 d).toList=d.toList.flatMap jM:=by
 refine o0 fun t=> ?_;rw[aBv,gr,gr];unfold flatK;rw[Array.getElem?_map];by_cases h:t<d.size*2
 ·have h2:t/2<d.size:=by omega
  rw[Array.getElem?_range,if_pos h,HC h2,o1,o1,getElem!_pos d (t/2) h2]
 ·have h2:¬t/2<d.size:=by omega
  rw[Be (by simpa using h),Be (by omega)];rfl
theorem axr (f c:Array Value)(h:f.size<=c.size):(Sort.putCells id 0 f c).toList=f.toList++c.toList.drop f.size:=by
 refine o0 fun t=> ?_;rw[gr];unfold Sort.putCells;rw[Array.getElem?_mapIdx,List.getElem?_append,fC];by_cases ht:t<f.size
 ·rw[if_pos ht,gr,HC (by omega),HC ht,o1,if_pos (by omega),getElem!_pos f (t-0) (by omega)]
  rfl
 ·rw[if_neg ht,Mh,gr,show f.size+(t-f.size)=t by omega]
  cases c[t]? with
  |none=>rfl
  |some x=>rw[o1,if_neg (by omega)]
variable{C:Ctx}{fid:Nat->Nat}
def w6 (g:Nat):sK:=fun args H=>match args with
 |[.bX,.fn w3 [] []]=>if w3=g then some (.aU [],[],[])else none
 |[.ca l 2 0 n tag,.fn w3 [] []]=>match H[l]? with
  |some (.row 2 ds false)=>match yv ds with
   |some ps=>if w3=g/\ds.length=n/\n=tag/\n<=2^40/\(ps.map (·.1)).Nodup then some (.aU [],[(l,.row 2 ((mF ps).map gG) false)],[])else none
   |none=>none
  | _=>none
 | _=>none
theorem axs{g:Nat}{args:List V}{H:Heap}{v:V}{H':Heap}{low:Nat}(h:u9 (w6 g) args H=some (v,H',low)):
  (args=[.bX,.fn g [] []]/\v=.aU []/\H'=H/\low=H.length)\/∃l ps,args=[.ca l 2 0 ps.length ps.length,.fn g [] []]/\H[l]? =some (.row 2 (ps.map gG) false)/\ps.length<=1099511627776/\(ps.map (·.1)).Nodup/\v=.aU []/\H'=H.set l (.row 2 ((mF ps).map gG) false)/\low=min H.length l:=by
 obtain⟨r,hr,he⟩:=cj.1 h;unfold w6 at hr;split at hr
 ·rename_i w3
  split at hr
  ·rename_i hc
   subst hc;cases hr;simp only[xj,xk,DL,pP,bq]at he;exact .inl ⟨rfl,he.1.symm,he.2.1.symm,he.2.2.symm⟩
  ·cases hr
 ·rename_i l n tag w3
  refine .inr ?_;split at hr
  ·rename_i ds hl
   split at hr
   ·rename_i ps hp
    split at hr
    ·rename_i hc
     obtain⟨rfl,rfl,rfl,hm,hn⟩:=hc;have:=SJ hp;subst this;cases hr;simp only[xj,xk,ot,DL,pP,bq]at he;rw[ef]at hm;exact⟨l,ps,by rw[ef],hl,hm,hn,he.1.symm,he.2.1.symm,he.2.2.symm⟩
    ·cases hr
   ·cases hr
  ·cases hr
 ·cases hr
theorem axt{ib g:Nat}(c7:∀xs w,(callFunc ib xs).run C.P w=.ok (.enter ib xs) w)
  (h0:∀(fv:Value) (w:World),Calls C.P ib #[.slice none 0 0,fv] w fun e w'=>e=.returned (.tuple #[])/\w'=w)
  (az:∀(blk cap:Nat) (d:Array (Int × Int)) (w:World),HoldsK jM 2 w blk 0 d->blk<w.heap.size->d.size<4611686018427387904->
    Calls C.P ib #[.slice (some ⟨blk,0,none⟩) d.size cap,.func (.func g) #[] #[]] w fun e w'=>e=.returned (.tuple #[])/\∃d' n os,Sort.PermIn 0 d.size d d'/\Sort.SortedIn (ltOf fun x y:Int × Int=>Lib.compareInt x.1 y.1) 0 d.size d'/\w'=sortWorldK jM 2 w blk 0 n d' os):
  xG C fid ib (w6 g):=by
 intro G H w args v H' low xs U gw he;rcases axs he with⟨rfl,rfl,rfl,rfl⟩|⟨l,ps,rfl,hl,hm,hn,rfl,rfl,rfl⟩
 ·obtain⟨x,y,rfl⟩:∃x y,xs=[x,y]:=by
   cases gw with|cons _ x _ xs _ hs=>cases hs with|cons _ y _ cB _ hs=>cases hs;exact⟨x,y,rfl⟩
  have hx:bd fid G w .bX x:=by cases gw;assumption
  rw[hx.jh];refine⟨?_,_,_,c7 _ _⟩;rw[c7];show Calls C.P ib ⟨[.slice none 0 0,y]⟩ w _;refine xd (h0 y w) ?_;rintro e' w' ⟨rfl,rfl⟩;exact⟨_,rfl,G,U,fun m _=>.refl _ _ _ _,.aU _ _ .nil⟩
 obtain⟨x,y,rfl⟩:∃x y,xs=[x,y]:=by
  cases gw with|cons _ x _ xs _ hs=>cases hs with|cons _ y _ cB _ hs=>cases hs;exact⟨x,y,rfl⟩
 have hx:bd fid G w (.ca l 2 0 ps.length ps.length) x:=by cases gw;assumption
 have hy:y=.func (.func g) #[] #[]:=by
  cases gw with
  |cons _ x _ xs _ hs=>
   cases hs with
   |cons _ y _ cB h _=>
    cases h with
    |p _ _ h=>cases h with|fn _ _ _ _ _ h1 h2=>cases h1;cases h2;rfl
    |fn _ _ _ _ _ h1 h2=>cases h1;cases h2;rfl
 subst hy;obtain⟨h0,c4,cI,cap,hb,o9,hD,rfl⟩:=hx.nI;obtain⟨aP,ho,hr⟩:=U.obj l h0 hb;rw[hl]at ho;cases ho;obtain⟨p6,En,hfz,eM,mX,c,e,vals,rest,hc,fq,hM,e5⟩:=hr;rw[ef]at p6 En;obtain⟨rfl,rfl,nK,nO⟩:=hD p6;rw[HV];have Nz:=ae7 e5;subst Nz;have hblk:h0.b<w.heap.size:=U.blk l h0 hb
 have dk:ps.length*2<=c.size:=by
  rw[<-fC,hM,fD,Ba];omega
 have hH:HoldsK jM 2 w h0.b 0 ps.toArray:=by
  intro j hj;have O9:j<ps.length*2:=by simpa[flatK]using hj
  refine⟨?_,?_⟩
  ·rw[dP,Lib.cell_of_heap hc,<-gr,hM,fB (by rw[Ba];exact O9)]
   have:(flatK jM 2 ps.toArray).toList[j]? =some ((flatK jM 2 ps.toArray)[j]!):=by
    rw[gr,getElem!_pos _ j hj,HC hj]
   rw[SL]at this;exact this
  ·rw[dP];exact Lib.frozen_of_heap hc j
 have ba:=az h0.b cap ps.toArray w hH hblk (by simp;omega);refine⟨?_,_,_,c7 _ _⟩;rw[c7];show Calls C.P ib ⟨[.slice (some ⟨h0.b,0,none⟩) ps.length cap,.func (.func g) #[] #[]]⟩ w _;refine xd (by simpa using ba) ?_;rintro e' w' ⟨rfl,d',ae8,axu,n,os,rfl⟩;have BI:d'.size=ps.length:=by have:=ae8.1;simpa using this
 have SM:d'.toList=mF ps:=by
  refine aat hn ?_ ?_
  ·have ar:=ae8.2.2
   have ab:d'.extract 0 ps.length=d':=by
    rw[<-BI];simp
   have aj:ps.toArray.extract 0 ps.length=ps.toArray:=by simp
   rw[ab,aj]at ar;exact ar
  ·rw[Mb]
   intro i j hi hj cK;rw[fC]at hi hj;have ar:=axu i j (cD _) cK (by omega);rw[getElem!_pos d' j hj,getElem!_pos d' i hi]at ar;unfold xQ;rw[decide_eq_true_eq,Array.getElem_toList,Array.getElem_toList];unfold ltOf Lib.compareInt at ar;simp only[decide_eq_false_iff_not]at ar;split at ar
   ·omega
   ·split at ar<;>omega
 have Sf:(putRowK jM 2 (Sort.ahead w n) h0.b 0 d').heap[h0.b]? =some (.cells (Sort.putCells id 0 (flatK jM 2 d') c) e (0,0)):=by
  unfold putRowK Sort.putRow Sort.mapBlock;simp only[DB,if_true];show(w.heap[h0.b]?).map _=_;rw[hc];rfl
 have sO:∀b,b≠h0.b->(putRowK jM 2 (Sort.ahead w n) h0.b 0 d').heap[b]? =w.heap[b]? :=fun b aZ=>by
  unfold putRowK Sort.putRow Sort.mapBlock;simp only[DB];rw[if_neg fun q=>aZ q.symm];rfl
 have rZ:(putRowK jM 2 (Sort.ahead w n) h0.b 0 d').heap.size=w.heap.size:=by
  unfold putRowK Sort.putRow Sort.mapBlock;simp[Sort.ahead]
 have hQ:=Ext.write (h':=h0) U hb hfz rfl (aF _) id rfl rZ sO rfl rfl
 have fI:aX C fid ⟨ck G.β l h0,G.I⟩ (H.set l (.row 2 ((mF ps).map gG) false)) (putRowK jM 2 (Sort.ahead w n) h0.b 0 d'):=by
  refine aX.write U hb hfz rfl hfz (aF _) id rfl rZ sO _ ?_;refine⟨by rw[ef,<-SM,fC,BI];exact p6,by rw[ef,<-SM,fC,BI];exact En,hfz,eM,fun d hd=> ?_,_,e,(mF ps).flatMap jM,rest,Sf,?_,?_,ae6 _⟩
  ·obtain⟨x,-,rfl⟩:=dX.1 hd;rfl
  ·rw[fq];simp[Sort.putCells]
  ·have ae9:(flatK jM 2 d').size=ps.length*2:=by rw[<-fC,SL,Ba,fC,BI]
   rw[axr _ _ (by rw[ae9];exact dk),SL,SM,ae9,hM,List.drop_left' (by rw[Ba])]
 have nL:(putRowK jM 2 (Sort.ahead w n) h0.b 0 d').heap.size<=(Sort.grow (putRowK jM 2 (Sort.ahead w n) h0.b 0 d') os).heap.size:=by simp[Sort.grow]
 have xv:∀b,b<(putRowK jM 2 (Sort.ahead w n) h0.b 0 d').heap.size->(Sort.grow (putRowK jM 2 (Sort.ahead w n) h0.b 0 d') os).heap[b]? =(putRowK jM 2 (Sort.ahead w n) h0.b 0 d').heap[b]? :=fun b fu=>by
  simp only[Sort.grow];rw[SU fu]
 refine⟨_,rfl,⟨ck G.β l h0,G.I⟩,fI.restore nL xv,fun m jB=>(hQ.le (cM jB (nB _ _)) (aF _)).trans (.restore nL xv rfl rfl m _),.aU _ _ .nil⟩
end Go.Abs
set_option maxRecDepth 100000
namespace Go.Abs.bs
open Go Go.Abs Go.Proofs Go.Sort
section
variable{g:Nat->Option Obj}
set_option maxHeartbeats 1000000 in
theorem axv (x y:Int × Int)(W:World):Calls Tryz.prog 94 #[.agg #[.int .i64 x.1,.int .i64 x.2],.agg #[.int .i64 y.1,.int .i64 y.2]] W fun e w'=>e=.returned (.int .i64 (Lib.compareInt x.1 y.1))/\∃q os',w'=grow (W.drewN q) os':=by
 have SN:=fun W'=>AnyG.cmp_Compare_int Tryz.axp x.1 y.1 W';change ∀W',Calls Tryz.prog 95 _ _ _ at SN;generalize Lib.compareInt x.1 y.1=r at SN⊢
 go_enter Tryz.func94,Tryz.ntmps94
 go_wp2_with (go_at_call 95;refine(SN _).mono ?_;rintro e w' ⟨rfl,rfl⟩)
 go_ret
 exact⟨rfl,0,_,by rw[alloc_eq_grow,alloc_eq_grow,grow_grow];rfl⟩
theorem SP (x y:Int × Int):ltOf (fun x y:Int × Int=>Lib.compareInt x.1 y.1) x y=decide (x.1<y.1):=by
 unfold ltOf Lib.compareInt;by_cases h1:x.1<y.1
 ·simp[h1]
 ·by_cases h2:y.1<x.1<;>simp[h1,h2]
theorem axw:SWO (ltOf fun x y:Int × Int=>Lib.compareInt x.1 y.1) where
 irrefl x:=by rw[SP];simp
 trans x y z h1 h2:=by rw[SP]at *; simp at *; omega
 ntrans x y z h1 h2:=by rw[SP]at *; simp at *; omega
theorem axx:xG (C g) id 93 (w6 94):=
 axt (C:=C g) (fid:=id) (enters_of Tryz.func93 (by kernel_rfl) rfl) (fun fv w=>AnyF.slices_SortFunc_none Tryz.ae5 none 0 fv w) fun blk cap d w hH hblk dk=>
  AnyQ.slices_SortFunc Tryz.ae5 2 Tryz.isAgg60 Tryz.sizeOf60 jM (fun _=>rfl) (fun x v af=>by simp[jM]at af;rcases af with rfl|rfl<;>rfl) (fun x y=>Lib.compareInt x.1 y.1) axw 94 #[] blk 0 cap d w (enters_of Tryz.func94 (by kernel_rfl) rfl) (fun _ _ _ _ x y=>axv x y _) hH hblk dk
end
end Go.Abs.bs
namespace Go.Abs
open Go
variable{C:Ctx}{fid:Nat->Nat}{G:bT}{w:World}{aa:Nat->Option bV}{vars:List Nat}{N:Nat}
def L5 (aa:Nat->Option bV):List cm->av->av->Prop
 |[],st,aV=>aV=st
 |c::r,st,aV=>∃s,dq aa c st=some (.normal,s)/\L5 aa r s aV
theorem cS.afa (cw:C.P.follows .mixedOrders=true)(bw:eW C fid)(ba:gL C fid (bY aa)){d:Code}{Out:X->av->Prop}:∀{cs:List Code} {vX:List cm},dF (C.code vars N) cs=some vX->∀{st aV:av},L5 aa vX st aV->
  cS C fid vars N d aV Out->cS C fid vars N (I4 cs d) st Out
 |[],vX,hm,st,aV,he,h=>by
  simp only[dF,aA]at hm;subst hm;have he:aV=st:=he;subst he;exact h
 |c::cs,vX,hm,st,aV,he,h=>by
  simp only[dF]at hm;split at hm
  ·rename_i a ha
   split at hm
   ·rename_i aQ has
    cases hm;obtain⟨s,h1,h2⟩:=he;exact cS.seq (cS.dq cw bw ba ha h1) (fun ao hs=>by rw[hs.2];exact cS.afa cw bw ba has h2 h) fun x ao hx hs=>absurd hs.1 hx
   ·cases hm
  ·cases hm
theorem lV.axy (cw:C.P.follows .mixedOrders=true)(bw:eW C fid)(ba:gL C fid (bY aa)){n ib:Nat}{fn:Func}{B:lV}(ae:C.P.funcs[ib]? =some fn)(cQ:Ch C fn B){args:List V}{v:V}(hlen:args.length<=fn.ntmps)
  {iD st:av} {wr:List Bool} (axz:L5 aa B.pre {aC:=[],au:=fW 0 args,H:=[],low:=0} iD) (hex:cY (bY aa) B.R.t0 {iD with aC:=[]} []=some (st,wr))
  {l:Nat} {bf:List (V × V)} (qf:B.R.src.ag st.aC st.au=.map l) (nc:st.H[l]? =some (.map bf)) (Inv:List Nat->av->Prop) (Out:av->Prop)
  (tg:Inv [] (hF B.R.it st)) (qT:∀d s,Inv d s->bA s.au B.R.it=.ptr st.H.length 0)
  (oL:∀d s,Inv d s->∀i kv,i∉d->bf[i]? =some kv->∃ao,B.R.round (bY aa) n kv.1 kv.2 s=some ao/\st.H.length<ao.low/\Inv (d++[i]) ao)
  (iC:∀d s,Inv d s->d.Nodup->(∀i,i∈d↔i<bf.length)->∃ao,B.R.fin (bY aa) s=some ao/\st.H.length<ao.low/\Out ao)
  (O1:∀ao,Out ao->∃x s2 vs,dq aa B.post {ao with low:=min st.low st.H.length}=some (x,s2)/\OZ x=true/\gH s2.au s2.H B.pr=some vs/\finish false [] (iB vs) s2.H s2.low=some (v,[],0))
  {xs:List Value} (U:aX C fid G [] w) (af:a1 fid G w args xs):Calls C.P ib ⟨xs⟩ w (fun e w'=>∃x,e=.returned x/\k1 C fid G [] w v [] 0 x w'):=by
 obtain⟨cs,Ci,Cj,hb,xM,O0,axA,r0,-⟩:=cQ.ok;refine OX bw ae hb r0 (fresh:=false) hlen ?_ U af;refine cS.afa cw bw ba xM axz ?_;refine cS.seq (cS.range (n:=n) cw bw ba (OV O0) hex qf nc Inv Out tg qT oL iC) (fun s hs=> ?_) fun x s hx hs=>absurd hs.1 hx;obtain⟨-,ao,vY,rfl⟩:=hs;obtain⟨x,s2,vs,h1,h2,ar,aR⟩:=O1 ao vY;refine(cS.dq cw bw ba axA h1).mono fun y e6 hy=> ?_;obtain⟨rfl,rfl⟩:=hy;refine⟨?_,vs,ar,aR⟩;cases y with
 |normal=>exact .inl rfl
 |ret=>exact .inr rfl
 |exit i=>cases h2
end Go.Abs
namespace Go.Abs
open Go
section
open Go.Abs.S
def HA:cm:=q (R [r 14 (lE 2 v10 v12),r 15 (ls 2 t14),o 5 (.alloc [z,z]),n (st 2 v5 t15)]) (R [r 16 (m v3),r 17 (dZ 0 v5),r 18 (ch t17),r 19 (.lookup 0 (.int .i64 0) t16 t18 false),r 20 (dZ 1 v5),r 21 (ch t20),r 22 (c4 t19 t21),n (.pQ 0 t16 t18 t22)])
def L6:cm:=q (R [r 31 (m tk),o 32 (ne t31 (c 0))]) (jF v32 (R [r 33 (m v6),r 34 (m k7),r 35 (m tk),r 36 (.build [z,z] [(0,1,t34),(1,1,t35)]),r 37 (.lit 2 [z,z] 1 [(0,t36)] true),r 38 (ap 2 16 t33 t37),o 6 (m t38)]) k)
def L7 (F K:Nat):cm:=q (R [r 39 (m v6),r 40 (.call true (fn F) [t39,(fn K)])]) (q (R [r 41 (m v6),o 2 (m t41)]) rt)
def ja (F K:Nat):lV:=⟨[R [o 2 (m qj)],R [r 9 (.mkMap),o 3 (m t9)],q (R [o 10 (m v0),o 11 (ic 1 v10),o 12 (m (c 0))]) (cX 0 (.loop (tj 13 11 12 23 1 0 HA))),R [o 6 (m qj)]],⟨[r 24 (m v3)],t24,25,(26,false),[o 27 (ex t26 0)],We,3,(28,false),[r 29 (ex t28 0),r 30 (ex t28 1),o 7 (m t29),o 8 (m t30)],L6⟩,L7 F K,[.tmp 2]⟩
end
def ny (l:List (Int × Int)):V:=if l.isEmpty then .bX else .list 2 (l.map gG)
def mO (es:List (Int × Int)):List (V × V):=es.map fun p=>(aI p.1,aI p.2)
theorem afb (k:Int):∀es:List (Int × Int),hK 0 (.int .i64 k) (mO es)=some ((xR k es).map aI)
 |[]=>rfl
 |(j,v)::es=>by
  have ih:=afb k es;simp only[mO,de,hK,ix,xR,aI,if_true]at ih⊢;by_cases h:k=j
  ·simp[h]
  ·have hb:(k==j)=false:=by simpa using h
   rw[hb];simp only[h,if_false];exact ih
theorem SQ (k v:Int):∀es:List (Int × Int),kU 0 (.int .i64 k) (.int .i64 v) (mO es)=mO (nk k v es)
 |[]=>rfl
 |(j,u)::es=>by
  have ih:=SQ k v es;simp only[mO,de,kU,ix,nk,aI,if_true]at ih⊢;by_cases h:k=j
  ·subst h;simp
  ·have hb:(k==j)=false:=by simpa using h
   rw[hb];simp only[h,if_false,ih];simp
variable{aa:Nat->Option bV}
theorem HB (T:Heap)(x:bU):(T++[x])[T.length]? =some x:=by simp
theorem L8 (T:Heap)(x y:bU):(T++[x]).set T.length y=T++[y]:=by simp
theorem axB{call:cP}{ag:ai->V}{H:Heap}{low es:Nat}(x i:ai):b3 call ag H low (.indexAddr es x i)=step ag H low (.indexAddr es x i):=rfl
theorem axC{call:cP}{ag:ai->V}{H:Heap}{low k:Nat}(x:ai):b3 call ag H low (.len k x)=step ag H low (.len k x):=rfl
theorem axD{call:cP}{ag:ai->V}{H:Heap}{low:Nat}(c1:List V)(ps:List (Nat × Nat × ai)):b3 call ag H low (.build c1 ps)=step ag H low (.build c1 ps):=rfl
attribute [local simp] iy kW mg nD nE qF nF cY gu qU pt nf qh qi ng sa qV nY r9 vZ lW nZ E5 O6 n0 I6 axB axC axD O4 ai.ag bA gh av.put eg pS pR ku eV fN dQ bx cg uc jR jw iw setCells aE ez bM sH S.R S.q S.k S.rt S.jF S.cX S.e S.r S.o S.n S.rg S.m S.ch S.ls S.dZ S.eq S.ne S.lt S.gt S.c4 S.no S.j3 S.st S.jX S.ic S.lE S.ex S.c S.cs S.kk S.k8 S.z S.fn S.kg S.ap S.qj
set_option maxHeartbeats 1000000 in
theorem axE{es l:List (Int × Int)}{T:Heap}{aC au:Env}{ro:Option Nat}{j:Nat}{x:Int × Int}(hj:l[j]? =some x)(Bc:bA au 10=.list 2 (l.map gG))(tM:bA au 12=.int .i64 j)(ar:bA au 3=.map 0):
  dq aa HA ⟨aC,au,.map (mO es)::T,0,ro⟩=some (.normal,⟨[],dw au 5 (.ptr (T.length+1) 0),.map (mO (qn es x))::(T++[.cells [.int .i64 x.1,.int .i64 x.2]]),0,ro⟩):=by
 obtain⟨a,b⟩:=x;have ae:=afb a es;cases a6:xR a es with
 |none=>
  rw[a6]at ae;simp[HA,Bc,tM,ar,step,hj,gG,ae,SQ,qn,a6,HB,L8]
 |some u=>
  rw[a6]at ae;simp[HA,Bc,tM,ar,step,hj,gG,ae,SQ,qn,a6,HB,L8]
def afc (x:ad (Int × Int))(j:Nat)(st:av):Prop:=
 ∃T au,st=⟨st.aC,au,.map (mO (iG (x.l.take j)))::T,0,none⟩/\bA au 10=bb 2 gG x/\bA au 11=.int .i64 x.l.length/\bA au 12=.int .i64 j/\bA au 3=.map 0
def afd (x:ad (Int × Int))(y:X)(st:av):Prop:=
 y=.exit 0/\∃T au,st=⟨[],au,.map (mO (iG x.l))::T,0,none⟩/\bA au 3=.map 0
theorem axF (x:ad (Int × Int))(hx:x.l.length<4611686018427387904){st:av}(bk:afc x 0 st):∃y aV,dq aa (.loop (tj 13 11 12 23 1 0 HA)) st=some (y,aV)/\afd x y aV:=by
 refine Wb (aa:=aa) (I:=afc x) (Q:=afd x) hx (by decide) (by decide) ?_ ?_ ?_ x.l.length 0 st (by omega) bk
 ·rintro j st ⟨T,au,h,Bc,L9,tM,ar⟩
  rw[h];exact⟨tM,L9,cD _⟩
 ·rintro j st hj ⟨T,au,h,Bc,L9,tM,ar⟩
  obtain⟨l,rfl⟩:∃l,x=.mk l:=by
   cases x with
   |nil=>simp[ad.l]at hj
   |emp=>simp[ad.l]at hj
   |mk l=>exact⟨l,rfl⟩
  have hj:j<l.length:=hj;have hl:l[j]? =some l[j]:=gq hj;have hr:=axE (aa:=aa) (es:=iG (l.take j)) (T:=T) (aC:=[]) (au:=dw au 13 (.bool true)) (ro:=none) hl (by simpa[bb]using Bc) (by simpa using tM) (by simpa using ar);refine⟨.normal,⟨[],dw (dw au 13 (.bool true)) 5 (.ptr (T.length+1) 0),.map (mO (qn (iG (l.take j)) l[j]))::(T++[.cells [.int .i64 l[j].1,.int .i64 l[j].2]]),0,none⟩,?_,?_⟩
  ·rw[h];exact hr
  ·rw[if_pos (.inl rfl)]
   have e:iG (l.take (j+1))=qn (iG (l.take j)) l[j]:=by
    unfold iG;rw[List.take_succ_eq_append_getElem hj,S6];rfl
   refine⟨by simpa using tM,cD _,T++[.cells [.int .i64 l[j].1,.int .i64 l[j].2]],dw (dw (dw au 13 (.bool true)) 5 (.ptr (T.length+1) 0)) 12 (.int .i64 ((j+1:Nat):Int)),?_,by simpa using Bc,by simpa using L9,by simp,by simpa using ar⟩;show _=av.mk [] _ (.map (mO (iG (l.take (j+1))))::_) 0 none;rw[e]
 ·rintro st ⟨T,au,h,Bc,L9,tM,ar⟩
  rw[h];refine⟨rfl,T,dw au 13 (.bool false),?_,by simpa using ar⟩;rw[DJ]
theorem axG{F K:Nat}(x:ad (Int × Int))(hx:x.l.length<4611686018427387904):
  ∃au T,L5 aa (ja F K).pre {aC:=[],au:=fW 0 [bb 2 gG x],H:=[],low:=0} ⟨[],au,.map (mO (iG x.l))::T,0,none⟩/\bA au 3=.map 0/\bA au 6=.bX:=by
 have r4:dq aa (S.R [S.o 2 (S.m S.qj)]) {aC:=[],au:=fW 0 [bb 2 gG x],H:=[],low:=0}=some (.normal,⟨[],dw (fW 0 [bb 2 gG x]) 2 .bX,[],0,none⟩):=by
  simp
 have BC:dq aa (S.R [S.r 9 (.mkMap),S.o 3 (S.m S.t9)]) ⟨[],dw (fW 0 [bb 2 gG x]) 2 .bX,[],0,none⟩=some (.normal,⟨[],dw (dw (fW 0 [bb 2 gG x]) 2 .bX) 3 (.map 0),[.map []],0,none⟩):=by
  simp
 have axH:dq aa (S.R [S.o 10 (S.m S.v0),S.o 11 (S.ic 1 S.v10),S.o 12 (S.m (S.c 0))]) ⟨[],dw (dw (fW 0 [bb 2 gG x]) 2 .bX) 3 (.map 0),[.map []],0,none⟩=
   some (.normal,⟨[],dw (dw (dw (dw (dw (fW 0 [bb 2 gG x]) 2 .bX) 3 (.map 0)) 10 (bb 2 gG x)) 11 (.int .i64 x.l.length)) 12 (.int .i64 0),[.map []],0,none⟩):=by
  cases x<;>simp[step,bb,fW,ad.l]
 obtain⟨y,aV,h1,rfl,T,au,rfl,ar⟩:=axF (aa:=aa) x hx (st:=⟨[],dw (dw (dw (dw (dw (fW 0 [bb 2 gG x]) 2 .bX) 3 (.map 0)) 10 (bb 2 gG x)) 11 (.int .i64 x.l.length)) 12 (.int .i64 0),[.map []],0,none⟩)
  ⟨[],_,rfl,by simp,by simp,by simp,by simp⟩
 refine⟨dw au 6 .bX,T,⟨_,r4,_,BC,⟨[],au,.map (mO (iG x.l))::T,0,none⟩,?_,_,?_,rfl⟩,by simpa using ar,by simp⟩
 ·show dq aa (.seq (S.R _) (.block 0 _)) _=_
  rw[iy,axH];simp only[];rw[nF,h1];simp
 ·simp
def w7 (p:Nat)(row:List (Int × Int))(s:av):Prop:=
 bA s.au 25=.ptr p 0/\s.ro=none/\∃B:Heap,B.length=p+1/\((row=[]/\s.H=B/\bA s.au 6=.bX)\/(row≠[]/\s.H=B++[.row 2 (row.map gG) false]/\bA s.au 6=.ca B.length 2 0 row.length row.length))
theorem w7.lt{p:Nat}{row:List (Int × Int)}{s:av}(h:w7 p row s):p<s.H.length:=by
 obtain⟨-,-,B,cQ,h⟩:=h;rcases h with⟨-,h,-⟩|⟨-,h,-⟩
 ·rw[h];omega
 ·rw[h,fD];omega
set_option maxHeartbeats 1000000 in
theorem axI{F K n p:Nat}{call:cP}{a b:Int}{row:List (Int × Int)}{s:av}(h:w7 p row s)(hn:row.length<1073741824):
  ∃ao,(ja F K).R.round call n (.int .i64 a) (.int .i64 b) s=some ao/\p<ao.low/\w7 p (if b=0 then row else row++[(a,b)]) ao:=by
 have aK:=h.lt;obtain⟨aC,au,H,low,ro⟩:=s;obtain⟨sC,dU,B,cQ,h⟩:=h;simp only at sC dU h aK;subst dU;by_cases hb:b=0
 ·subst hb
  refine⟨_,by simp[eS.round,eS.step,ja,L6,exec,av.fo,sC,dL];rfl,by simpa using aK,by simpa using sC,rfl,B,cQ,?_⟩;rw[if_pos rfl];simpa using h
 ·have fu:(b==0)=false:=by simpa using hb
  rcases h with⟨rfl,rfl,eo⟩|⟨aZ,rfl,eo⟩
  ·refine⟨_,by simp[eS.round,eS.step,ja,L6,exec,av.fo,sC,dL,hb,fu,bne,step,sJ,pT,elems,lr,eo];rfl,by simp;omega,by simpa using sC,rfl,H,cQ,.inr ⟨by simp[hb],by simp[hb,gG],by simp[hb]⟩⟩
  ·have axJ:(row.length+1)*17<=1099511627776:=by omega
   refine⟨_,by simp[eS.round,eS.step,ja,L6,exec,av.fo,sC,dL,hb,fu,bne,step,sJ,pT,elems,lr,eo,HB,L8,axJ];rfl,by simp;omega,by simpa using sC,rfl,B,cQ,.inr ⟨by simp[hb],by simp[hb,gG],by simp[hb]⟩⟩
theorem axK{F K p:Nat}{call:cP}{row:List (Int × Int)}{s:av}(h:w7 p row s):∃ao,(ja F K).R.fin call s=some ao/\p<ao.low/\w7 p row ao:=by
 have aK:=h.lt;obtain⟨aC,au,H,low,ro⟩:=s;obtain⟨sC,dU,B,cQ,h⟩:=h;simp only at sC dU h aK;subst dU;refine⟨_,by simp[eS.fin,eS.step,ja];rfl,by simpa using aK,by simpa using sC,rfl,B,cQ,?_⟩;simpa using h
theorem afe:∀ps:List (Int × Int),cg (ps.map gG)=true
 |[]=>rfl
 |p::ps=>by
  have:=afe ps;rw[de];simp[gG,this]
set_option maxHeartbeats 1000000 in
theorem axL{F K p:Nat}{row:List (Int × Int)}{s:av}(cR:aa F=some (.o3 (w6 K)))(h:w7 p row s)(hnd:(row.map Prod.fst).Nodup)(hl:row.length<=1099511627776):
  ∃y s2 vs,dq aa (L7 F K) {s with low:=0}=some (y,s2)/\OZ y=true/\gH s2.au s2.H [.tmp 2]=some vs/\finish false [] (iB vs) s2.H s2.low=some (ny (mF row),[],0):=by
 obtain⟨aC,au,H,low,ro⟩:=s;obtain⟨sC,dU,B,cQ,h⟩:=h;simp only at sC dU h;subst dU;rcases h with⟨rfl,rfl,eo⟩|⟨aZ,rfl,eo⟩
 ·refine⟨_,_,_,by simp[L7,eo,ou,cR,u9,w6,xj,xk];exact⟨rfl,rfl⟩,rfl,by simp[gH,ke];rfl,?_⟩
  simp[iB,finish,ny,mF,old]
 ·have nG:=SK row
  refine⟨_,_,_,by simp[L7,eo,ou,cR,u9,w6,xj,xk,HB,L8,nG,hl,hnd];exact⟨rfl,rfl⟩,rfl,by simp[gH,ke];rfl,?_⟩
  have axM:(mF row).isEmpty=false:=by
   have:=Pz row;cases h:mF row with
   |nil=>rw[h]at this;cases row with
    |nil=>exact absurd rfl aZ
    |cons a r=>simp at this
   |cons a r=>rfl
  simp[iB,finish,HB,Pz,afe,ny,axM,old];exact HE (by rw[ef,Pz];exact aF _)
theorem aff{α:Type}:∀es:List α,(List.range es.length).filterMap (fun i=>es[i]?)=es
 |[]=>rfl
 |a::es=>by
  have ih:=aff es;rw[fl,List.range_succ_eq_map,Bh];simp only[nz,List.filterMap_map,Function.comp_def,yy,Nat.succ_eq_add_one];rw[ih]
theorem axN (es:List (Int × Int))(i:Nat):(mO es)[i]? =(es[i]?).map fun p=>(V.int .i64 p.1,V.int .i64 p.2):=by
 unfold mO;rw[h8]
def rowOf (es:List (Int × Int))(d:List Nat):List (Int × Int):=(d.filterMap fun i=>es[i]?).filter fun p=>p.2 != 0
theorem axO{es:List (Int × Int)}{d:List Nat}{i:Nat}{a b:Int}(h:es[i]? =some (a,b)):rowOf es (d++[i])=if b=0 then rowOf es d else rowOf es d++[(a,b)]:=by
 unfold rowOf;rw[List.filterMap_append,List.filter_append];by_cases hb:b=0<;>simp[h,hb]
theorem axP{es:List (Int × Int)}{d:List Nat}(hd:d.Nodup)(hm:∀i,i∈d↔i<es.length):(rowOf es d).Perm (es.filter fun p=>p.2 != 0):=by
 have hp:d.Perm (List.range es.length):=(List.perm_ext_iff_of_nodup hd List.nodup_range).2 fun i=>by rw[hm,Bj]
 have:=(hp.filterMap fun i=>es[i]?).filter fun p=>p.2 != 0;rw[aff]at this;exact this
theorem PB{n:Nat}{d:List Nat}(hd:d.Nodup)(h:∀i∈d,i<n):d.length<=n:=by
 have hp:(d++(List.range n).filter fun i=>!d.contains i).Perm (List.range n):=by
  refine(List.perm_ext_iff_of_nodup ?_ List.nodup_range).2 fun i=> ?_
  ·rw[tU]
   refine⟨hd,List.nodup_range.sublist List.filter_sublist,fun a ha b hb e=> ?_⟩;subst e;simp[ha]at hb
  ·rw[jc,List.mem_filter,Bj]
   constructor
   ·rintro(hi|⟨hi,-⟩)
    ·exact h i hi
    ·exact hi
   ·intro hi
    by_cases hm:i∈d
    ·exact .inl hm
    ·exact .inr ⟨hi,by simp[hm]⟩
 have:=hp.length_eq;rw[fD,List.length_range]at this;omega
def yw:List V->Option V
 |[.bX]=>some .bX
 |[.emp]=>some .bX
 |[.list 2 ds]=>match yv ds with
  |some ps=>if ps.length<1073741824 then some (ny (kI ps))else none
  |none=>none
 | _=>none
theorem axQ{args:List V}{v:V}(h:yw args=some v):∃x:ad (Int × Int),args=[bb 2 gG x]/\x.l.length<1073741824/\v=ny (kI x.l):=by
 unfold yw at h;split at h
 ·cases h;exact⟨.nil,rfl,by decide,by show V.bX=ny (kI []);simp[kI,iG,mF,ny]⟩
 ·cases h;exact⟨.emp,rfl,by decide,by show V.bX=ny (kI []);simp[kI,iG,mF,ny]⟩
 ·split at h
  ·rename_i ps hp
   split at h
   ·rename_i hl
    cases h;exact⟨.mk ps,by rw[SJ hp];rfl,hl,rfl⟩
   ·cases h
  ·cases h
 ·cases h
theorem axR (l:List (Int × Int)):bx (ny l)=true:=by
 unfold ny;split<;>rfl
variable{C:Ctx}{fid:Nat->Nat}
theorem axS (cw:C.P.follows .mixedOrders=true)(bw:eW C fid)(hT:du C fid aa){F K ib:Nat}{fn:Func}(ae:C.P.funcs[ib]? =some fn)(cQ:Ch C fn (ja F K))(cR:aa F=some (.o3 (w6 K)))(h1:1<=fn.ntmps):iS C fid ib yw:=by
 intro G H w args v xs U eC lU;obtain⟨cs,Ci,Cj,hb,-,-,-,-,zs⟩:=cQ.ok;rw[Cc ae hb zs];obtain⟨x,rfl,hx,rfl⟩:=axQ lU;obtain⟨au,T,xM,ar,eo⟩:=axG (aa:=aa) (F:=F) (K:=K) x (by omega);have eM:=aaz x.l;have hnd:=ann x.l
 have hc:=lV.axy (n:=0) cw bw (acD cw bw hT) ae cQ (args:=[bb 2 gG x]) (v:=ny (kI x.l)) h1 xM (st:=⟨[(24,.map 0)],au,.map (mO (iG x.l))::T,0,none⟩) (wr:=[false]) (by simp[ja,ar,ei])
  (l:=0) (bf:=mO (iG x.l)) rfl rfl (fun d s=>w7 (T.length+1) (rowOf (iG x.l) d) s/\d.Nodup/\∀i∈d,i<(iG x.l).length) (fun s=>∃row,w7 (T.length+1) row s/\row.Perm ((iG x.l).filter fun p=>p.2 != 0))
  ⟨⟨by simp[hF,ja],rfl,.map (mO (iG x.l))::T++[.gone],by simp,.inl ⟨rfl,rfl,by simpa[hF,ja]using eo⟩⟩,DK,fun i hi=>by cases hi⟩
  (fun d s h=>h.1.1)
  (fun d s h i kv hi jE=>by
    rw[axN]at jE;cases hp:(iG x.l)[i]? with
    |none=>rw[hp]at jE;cases jE
    |some p=>
     obtain⟨a,b⟩:=p;rw[hp]at jE;cases jE
     have hlen:(rowOf (iG x.l) d).length<1073741824:=by
      have h1:(rowOf (iG x.l) d).length<=d.length:=cM (Me _ _) (List.length_filterMap_le _ _);have h2:=PB h.2.1 h.2.2;omega
     obtain⟨ao,ab,aj,bC⟩:=axI (F:=F) (K:=K) (n:=0) (call:=bY aa) (a:=a) (b:=b) h.1 hlen;refine⟨ao,ab,by simpa using aj,?_,?_,?_⟩
     ·rw[axO hp];exact bC
     ·rw[tU]
      exact⟨h.2.1,by simp,fun j hj k hk=>by rw[yA]at hk;subst hk;exact fun e=>hi (e ▸ hj)⟩
     ·intro j hj
      rcases jc.1 hj with hj|hj
      ·exact h.2.2 j hj
      ·rw[yA]at hj;subst hj;exact(e0.1 hp).1)
  (fun d s h hd hm=>by
    obtain⟨ao,ab,aj,bC⟩:=axK (F:=F) (K:=K) (call:=bY aa) h.1;refine⟨ao,ab,by simpa using aj,_,bC,axP hd fun i=> ?_⟩;rw[hm];unfold mO;rw[ef])
  (fun ao ⟨row,h,hp⟩=>by
    have sY:=ano hnd fun p=>p.2 != 0;have axT:(row.map Prod.fst).Nodup:=(hp.map Prod.fst).nodup_iff.2 sY;have e:mF row=kI x.l:=aat sY ((Cw row).trans hp) (aas row);rw[<-e]
    have hl:row.length<=1099511627776:=by
     rw[hp.length_eq];have:=Me (fun p:Int × Int=>p.2 != 0) (iG x.l);omega
    exact axL cR h axT hl)
  U.apart (c8.ov eC)
 exact xd hc fun e w'=>fun⟨y,ab,aj⟩=>⟨y,ab,aj.beside U (axR _)⟩
end Go.Abs
namespace Go.Abs
open Go
variable{C:Ctx}{fid:Nat->Nat}
def Bd (aa:Nat->Option bV)(k:Nat)(spec:sK):Nat->Option bV:=fun i=>match Nat.beq i k with
 |true=>some (.o3 spec)
 |false=>aa i
theorem axU (aa:Nat->Option bV)(k:Nat)(spec:sK):Bd aa k spec k=some (.o3 spec):=by
 unfold Bd;rw[yI]
theorem axV{aa:Nat->Option bV}(hT:du C fid aa){k:Nat}{spec:sK}(hs:xG C fid k spec):du C fid (Bd aa k spec) where
 code:=fun i f h=>by
  unfold Bd at h;split at h
  ·cases h
  ·exact hT.code i f h
 ext:=fun i s h=>by
  unfold Bd at h;split at h
  ·cases h
  ·exact hT.ext i s h
 o3:=fun i s h=>by
  unfold Bd at h;split at h
  ·rename_i e
   cases h;rw[ey e];exact hs
  ·exact hT.o3 i s h
end Go.Abs
