/- Texts of this claim, joined and written short by a program. -/
import Derived.Test.YtonmjjfciemcoaaGreatDoorP28
import Derived.Test.YtonmjjfciemcoaaGreatDoorP00
set_option linter.unusedVariables false
set_option linter.unusedSimpArgs false
set_option linter.unusedSectionVars false
namespace Go.Abs.bz
open Go Go.Abs
noncomputable section
def xJ (s:List Int):List Int->Int->List Int
 |[],_=>[]
 |x::r,k=>(k%jh s x)::xJ s r (k/jh s x)
def uG (s:List Int):List Int->Int->Int
 |[],k=>k
 |x::r,k=>uG s r (k/jh s x)
def I9 (s:List Int)(iF:List Int)(k:Int):List Int:=(xJ s iF.reverse k).reverse
theorem ahi (s:List Int)(y:Int):∀(l:List Int) (k:Int),uG s (l++[y]) k=uG s l k/jh s y
 |[],k=>rfl
 |x::r,k=>ahi s y r _
theorem ahj (s:List Int)(y:Int):∀(l:List Int) (k:Int),xJ s (l++[y]) k=xJ s l k++[uG s l k%jh s y]
 |[],k=>rfl
 |x::r,k=>by simp only[mi,xJ,uG];rw[ahj s y r]
theorem ahk (s:List Int):∀(l:List Int) (k:Int),(xJ s l k).length=l.length
 |[],k=>rfl
 |x::r,k=>by simp only[xJ,gD,ahk s r]
theorem ahl{s:List Int}(hs:rU s=true):∀(l:List Int) (k:Int),(∀x∈l,0<=x/\x<s.length)->0<=k->0<=uG s l k/\uG s l k<=k
 |[],k,_,h=>⟨h,zN _⟩
 |x::r,k,hx,h=>by
  obtain⟨q1,q2⟩:=Nt hs (hx x (by simp)).1 (hx x (by simp)).2;have h1:0<=k/jh s x:=Int.ediv_nonneg h (by omega);have h2:k/jh s x<=k:=Int.ediv_le_self _ h;have:=ahl hs r (k/jh s x) (fun y hy=>hx y (by simp[hy])) h1;simp only[uG];omega
theorem ahm{a b:Int}(ha:0<=a)(hb:1<=b):tZ a b=some (a%b):=by
 unfold tZ;rw[if_neg (by omega),Wn ha]
theorem axm{a b:Int}(ha:0<=a)(hb:1<=b)(h:a<=1000000):G4 a b=some (a/b):=by
 unfold G4;have h1:0<=a/b:=Int.ediv_nonneg ha (by omega);have h2:a/b<=a:=Int.ediv_le_self _ ha;rw[if_neg (by omega),Int.tdiv_eq_ediv_of_nonneg ha,fi (by omega) (by omega)]
theorem axn{n j:Nat}(hj:j<n)(v:Int)(t:List Int):(List.replicate (n-j) 0++t).set (n-1-j) v=List.replicate (n-(j+1)) 0++(v::t):=by
 have e:n-j=(n-(j+1))+1:=by omega
 have ak:n-1-j=n-(j+1):=by omega
 rw[e,ak,List.replicate_succ',kA,List.set_append_right _ _ (by simp)];simp
theorem axo{s:ae Int}{iF:ae Int}{f:(Int × Int × ae Int)->Option (di (Int × Int × ae Int) (ae Int))}
  (xK:∀(k:Int) (i:Nat) (t:ae Int) (x:Int),iF.l[i]? =some x->0<=k->k<=1000000->i<t.l.length->1<=jh s.l x->f (k,(i:Int),t)=some (.next (k/jh s.l x,aM ((i:Int)-1),pE t (i:Int) (k%jh s.l x))))
  (nW:∀(k:Int) (t:ae Int),f (k,-1,t)=some (.out t)) (hs:rU s.l=true) (hc:jg s.l.length iF.l=true) {d:Int} (h0:0<=d) (h1:d<=1000000) {z:ae Int} (aR:z.l=List.replicate iF.l.length 0):
  ∃o,cd f (d,(iF.l.length:Int)-1,z)=some o/\o.l=I9 s.l iF.l d:=by
 obtain⟨q1,q2⟩:=I6 hc;have qp:iF.l.reverse.length=iF.l.length:=JV;refine ag7 (f:=f) (fun j st=>∃t:ae Int,st=(uG s.l (iF.l.reverse.take j) d,(iF.l.length:Int)-1-j,t)/\t.l=List.replicate (iF.l.length-j) 0++(xJ s.l (iF.l.reverse.take j) d).reverse) (fun o=>o.l=I9 s.l iF.l d) iF.l.reverse (fun j x st hx ab=> ?_) (fun st ab=> ?_) ⟨z,by simp[uG],by rw[aR];simp[xJ]⟩
 ·obtain⟨t,rfl,ht⟩:=ab
  have hj:=ik hx;rw[qp]at hj
  have xL:iF.l[iF.l.length-1-j]? =some x:=by
   rw[List.getElem?_reverse (by omega)]at hx;exact hx
  have Ja:=q2 x (gg xL);obtain⟨p1,p2⟩:=Nt hs Ja.1 Ja.2;have hb:=ahl hs (iF.l.reverse.take j) d (fun y hy=>q2 y (List.mem_reverse.1 (x3 hy))) h0
  have aEJ:t.l.length=iF.l.length:=by
   rw[ht,eZ,CE,JV,ahk,nc,qp];omega
  have axp:(iF.l.length:Int)-1-j=((iF.l.length-1-j:Nat):Int):=by omega
  have ahn:iF.l.reverse.take (j+1)=iF.l.reverse.take j++[x]:=by rw[Fp,hx];rfl
  rw[axp];refine⟨_,xK _ _ t x xL hb.1 (by omega) (by omega) p1,pE t ((iF.l.length-1-j:Nat):Int) (uG s.l (iF.l.reverse.take j) d%jh s.l x),?_,?_⟩
  ·rw[ahn,ahi]
   have:aM (((iF.l.length-1-j:Nat):Int)-1)=(iF.l.length:Int)-1-((j+1:Nat):Int):=by
    rw[fi (by omega) (by omega)];omega
   rw[this]
  ·show t.l.set _ _=_
   rw[ht,Oi,axn hj,ahn,ahj,List.reverse_append];rfl
 ·obtain⟨t,rfl,ht⟩:=ab
  rw[qp];have e:(iF.l.length:Int)-1-(iF.l.length:Nat)=-1:=by omega
  rw[e];refine⟨t,nW _ t,?_⟩;rw[ht,qp,<-qp,J4];simp[I9]
theorem axq (n:Nat)(h:n<=1000000):∃z,A6 8 (0:Int) (n:Int)=some z/\z.l=List.replicate n 0:=by
 unfold A6;rw[if_pos ⟨by omega,by omega⟩];by_cases hn:(n:Int)=0
 ·have:n=0:=by omega
  subst this;exact⟨_,rfl,rfl⟩
 ·rw[if_neg hn]
  exact⟨_,rfl,rfl⟩
def sZ (s:List Int)(b:Bool)(c:Int)(t:Table):Bool:=(qP t==b)&&(decide (aM (c-t.dK)>=0)&&decide (aM (c-t.dK)<wid s t.ch.l))
theorem axr{α:Type}{p:α->Bool}{xs:List α}(h:∀x∈xs,p x=false):xs.findIdx? p=none:=by
 rw[List.findIdx?_eq_none_iff];exact h
theorem aho{α:Type}{p:α->Bool}:∀{xs:List α} {k:Nat} {x:α},(∀j y,j<k->xs[j]? =some y->p y=false)->xs[k]? =some x->p x=true->xs.findIdx? p=some k
 |[],k,x,_,hx,_=>by cases hx
 |y::r,0,x,_,hx,hp=>by
  simp only[o8,aB]at hx;subst hx;rw[Wv,if_pos hp]
 |y::r,k+1,x,h,hx,hp=>by
  have h0:=h 0 y (by omega) rfl;rw[Wv,h0,if_neg (by simp),aho (k:=k) (x:=x) (fun j z hj aR=>h (j+1) z (by omega) (by simpa using aR)) (by simpa using hx) hp];rfl
structure axs (s:List Int) (ts:List Table) (b:Bool) (c:Int) (r:Int × ae Int × Bool):Prop where
 no:(ou s ts=false\/c<0\/ts.findIdx? (sZ s b c)=none)->r=(0,.nil,false)
 yes:∀i t,ou s ts=true->0<=c->ts.findIdx? (sZ s b c)=some i->ts[i]? =some t->r.1=(i:Int)/\r.2.2=true/\r.2.1.l=I9 s t.ch.l (aM (c-t.dK))
theorem axt (s:ae Int)(ts:ae Table)(b:Bool)(c:Int)(h1:b9 s.l)(h2:b9 ts.l)(hc:∀t∈ts.l,b9 t.ch.l):∃r,HH s ts b c=some r/\axs s.l ts.l b c r:=by
 unfold HH;rw[TN s ts h1 h2 hc];simp only[bs];cases ad:ou s.l ts.l with
 |false=>exact⟨_,rfl,⟨fun _=>rfl,fun i t h=>by rw[ad]at h;cases h⟩⟩
 |true=>
  simp only[cond_true,bs];by_cases h0:c<0
  ·have hd:decide (c<0)=true:=by simpa using h0
   rw[hd];exact⟨_,rfl,⟨fun _=>rfl,fun i t _ h=>by omega⟩⟩
  ·have hd:decide (c<0)=false:=by simpa using h0
   rw[hd];simp only[cond_false];obtain⟨q1,q2,cn,c7⟩:=EO ad
   obtain⟨o,af,ak⟩:=I4 (f:=HF s ts b c) (fun k st=>st=(k:Int)/\∀j y,j<k->ts.l[j]? =some y->sZ s.l b c y=false)
    (fun o=>match o with
      | .go _=>ts.l.findIdx? (sZ s.l b c)=none
      | .ret p=>∃(i:Nat) (t:Table),ts.l.findIdx? (sZ s.l b c)=some i/\ts.l[i]? =some t/\p.1=(i:Int)/\p.2.l=I9 s.l t.ch.l (aM (c-t.dK))) ts.l (fun k t st hx ab=>by
    obtain⟨rfl,me⟩:=ab;have aT:=ik hx;have eW:=gg hx;have qR:=Ny (c7 t eW);have hw:=Nu cn qR
    have et:(((Bj t).bind fun uk=>(bif (uk==b)then(bif (decide ((aM (c-t.dK))<0))then some true else((uj s t.ch).bind fun Bn=>some (decide ((aM (c-t.dK))>=Bn))))else some true)):Option Bool)=some (!sZ s.l b c t):=by
     rw[Nr,TL s t.ch cn qR];unfold sZ;simp only[bs];cases qP t==b with
     |false=>rfl
     |true=>
      simp only[cond_true,fU];by_cases g1:aM (c-t.dK)<0
      ·have a:decide (aM (c-t.dK)<0)=true:=by simpa using g1
       have a2:decide (aM (c-t.dK)>=0)=false:=by simp;omega
       rw[a,a2];rfl
      ·have a:decide (aM (c-t.dK)<0)=false:=by simpa using g1
       have a2:decide (aM (c-t.dK)>=0)=true:=by simp;omega
       rw[a,a2];by_cases g2:aM (c-t.dK)<wid s.l t.ch.l
       ·have b1:decide (aM (c-t.dK)<wid s.l t.ch.l)=true:=by simpa using g2
        have e3:decide (aM (c-t.dK)>=wid s.l t.ch.l)=false:=by simp;omega
        rw[b1,e3];rfl
       ·have b1:decide (aM (c-t.dK)<wid s.l t.ch.l)=false:=by simpa using g2
        have e3:decide (aM (c-t.dK)>=wid s.l t.ch.l)=true:=by simp;omega
        rw[b1,e3];rfl
    have ag:HF s ts b c (k:Int)=bif !sZ s.l b c t then some (.next (aM ((k:Int)+1)))else((A6 8 0 t.ch.len).bind fun HG=>((cd (Md s t) ((aM (c-t.dK)),(aM (HG.len-1)),HG):Option ((ae Int))).bind fun RU=>some (.out (.ret ((k:Int),RU))))):=by
     simp only[HF,gC aT,cond_true,ef,hx,bs];rw[et];rfl
    rw[ag];cases e8:sZ s.l b c t with
    |false=>
     left;refine⟨_,rfl,?_,fun j y hj hy=> ?_⟩
     ·exact eR (by omega)
     ·by_cases e:j=k
      ·subst e;rw[hx]at hy;cases hy;exact e8
      ·exact me j y (by omega) hy
    |true=>
     right;simp only[hX,cond_false];have TR:=e8;unfold sZ at TR;simp only[b6,decide_eq_true_eq]at TR;obtain⟨fr,ic⟩:=I6 qR;obtain⟨z,q9,ahp⟩:=axq t.ch.l.length (by omega);have axu:z.len=(t.ch.l.length:Int):=by rw[du,ahp,CE]
     obtain⟨o,g1,g2⟩:=axo (s:=s) (iF:=t.ch) (f:=Md s t) (fun k i TS x xL hk wu hit de=>by
      have Ja:=ic x (gg xL);have PA:decide ((i:Int)>=0)=true:=by simp
      have axv:TS.l[i]? =some TS.l[i]:=by simp[hit]
      simp only[Md,PA,cond_true,ef,xL,bs,Ns Ja.1 Ja.2,ahm hk de,axm hk de wu,axv]) (fun k TS=>rfl) cn qR TR.2.1 (by omega) ahp
     have axw:aM (z.len-1)=(t.ch.l.length:Int)-1:=by rw[axu,fi (by omega) (by omega)]
     refine⟨.ret ((k:Int),o),?_,k,t,aho me hx e8,hx,rfl,g2⟩;have:t.ch.len=((t.ch.l.length:Nat):Int):=rfl;rw[this,q9];simp only[bs];rw[axw,g1];rfl) (fun st ab=>by
    obtain⟨rfl,me⟩:=ab;refine⟨.go (),by simp only[HF,hJ,cond_false],axr fun x hx=> ?_⟩;obtain⟨j,hj⟩:=pY.1 hx;exact me j x (ik hj) hj) (s:=0) ⟨rfl,fun j y hj=>by omega⟩
   cases o with
   |go u=>
    refine⟨_,by rw[af];rfl,⟨fun _=>rfl,fun i t _ _ hi=> ?_⟩⟩;simp only at ak;rw[ak]at hi;cases hi
   |ret p=>
    obtain⟨i,t,al,a2,a3,a4⟩:=ak;refine⟨_,by rw[af];rfl,⟨fun h=> ?_,fun CL ey _ _ hi ht=> ?_⟩⟩
    ·rcases h with h|h|h
     ·rw[ad]at h;cases h
     ·omega
     ·rw[al]at h;cases h
    ·rw[al]at hi;cases hi;rw[a2]at ht;cases ht
     exact⟨a3,rfl,a4⟩
end
end Go.Abs.bz
namespace Go.Abs.bz
open Go Go.Abs
noncomputable section
def EU (n:Int)(xs:List Change)(k:Nat)(c:Change):Bool:=!(decide (c.Cell<=mf Change.Cell xs k))&&(!(decide (c.Cell>=n))&&(!(c.Add==0)&&uF c.Add 1000000000))
def ahq (t:Table):Bool:=(t.Kind==2)||(t.Kind==3)
def ahr (u:mN)(t:Table):Bool:=bif ahq t then((u.Kind==0)||(u.Kind==1))&&(u.Value==0)else(u.Kind==2)&&(decide (u.Value>=t.Range.jI)&&decide (u.Value<=t.Range.j7))
def NF (s:List Int)(ts:List Table)(u:mN):Bool:=bif decide (u.Cell<0)then false else match ts.findIdx? (sZ s false u.Cell)with
 |some i=>match ts[i]? with
  |some t=>ahr u t
  |none=>false
 |none=>false
def Jb (s:List Int)(ts:List Table)(us:List mN)(k:Nat)(u:mN):Bool:=!(decide (u.Cell<=mf mN.Cell us k))&&NF s ts u
def Ce (s:List Int)(ts:List Table)(n:Int)(x:b4):Bool:=
 allI (EU n x.Delta.l) x.Delta.l&&(allI (Jb s ts x.hg.l) x.hg.l&&(decide (x.dd.l.length<=8)&&(decide (x.hg.l.length<=32)&&x.dd.l.all (Cc n))))
theorem ahs{α:Type}{p:α->Bool}:∀{xs:List α} {i:Nat},xs.findIdx? p=some i->∃x,xs[i]? =some x
 |[],i,h=>by cases h
 |y::r,i,h=>by
  rw[Wv]at h;split at h
  ·cases h;exact⟨y,rfl⟩
  ·obtain⟨j,hj,rfl⟩:=cA.1 h
   obtain⟨x,hx⟩:=ahs hj;exact⟨x,by simpa using hx⟩
theorem axx (j:dV)(u:mN)(h1:b9 j.Model.bH.l)(h2:b9 j.Model.Tables.l)(hc:∀t∈j.Model.Tables.l,b9 t.ch.l)(ad:ou j.Model.bH.l j.Model.Tables.l=true):
  HI j u=some (NF j.Model.bH.l j.Model.Tables.l u):=by
 obtain⟨r,af,me,axy⟩:=axt j.Model.bH j.Model.Tables false u.Cell h1 h2 hc;unfold HI NF;rw[af];simp only[bs];by_cases h0:u.Cell<0
 ·have hd:decide (u.Cell<0)=true:=by simpa using h0
  rw[hd,me (.inr (.inl h0))];rfl
 ·have hd:decide (u.Cell<0)=false:=by simpa using h0
  rw[hd];simp only[cond_false];cases hi:j.Model.Tables.l.findIdx? (sZ j.Model.bH.l false u.Cell)with
  |none=>rw[me (.inr (.inr hi))];rfl
  |some i=>
   obtain⟨t,ht⟩:=ahs hi;obtain⟨al,a2,-⟩:=axy i t ad (by omega) hi ht;rw[al,a2];simp only[cond_true,ef,ht,bs];unfold ahr ahq;cases t.Kind==2 with
   |true=>
    simp only[cond_true,bs,Bool.true_or];cases u.Kind==0 with
    |true=>cases u.Kind==1<;>rfl
    |false=>rfl
   |false=>
    simp only[cond_false,bs,uX];cases t.Kind==3 with
    |true=>
     simp only[cond_true];cases u.Kind==0 with
     |true=>cases u.Kind==1<;>rfl
     |false=>rfl
    |false=>rfl
theorem axz (xs:ae Row)(h:b9 xs.l){f:Row->Option Bool}{p:Row->Bool}(ag:∀x∈xs.l,f x=some (p x)):Ef xs f=some (xs.l.any p):=rT xs h ag
theorem Jc{α:Type}(x:ae α)(n:Nat):decide (x.len<=(n:Int))=decide (x.l.length<=n):=decide_eq_decide.2 (by rw[du];omega)
theorem axA (j:dV)(x:b4)(h1:b9 j.Model.bH.l)(h2:b9 j.Model.Tables.l)(hc:∀t∈j.Model.Tables.l,b9 t.ch.l)(ad:ou j.Model.bH.l j.Model.Tables.l=true)
  (n1:b9 x.Delta.l) (aY:b9 x.hg.l) (hH:b9 x.dd.l) (ab:∀r∈x.dd.l,b9 r.dq.l):
  HN j x=some (Ce j.Model.bH.l j.Model.Tables.l j.strict.len x):=by
 unfold HN Ce
 rw[B9 (f:=HL j x) (fun k s=>s=(mf Change.Cell x.Delta.l k,(k:Int))) (EU j.strict.len x.Delta.l) x.Delta.l (fun k c s hx bq _=>by
  subst bq;have aT:=ik hx
  have ag:HL j x (mf Change.Cell x.Delta.l k,(k:Int))=bif EU j.strict.len x.Delta.l k c then some (.next (c.Cell,aM ((k:Int)+1)))else some (.out (.ret ())):=by
   simp only[HL,gC aT,cond_true,ef,hx,bs,NA c.Add 1000000000 (by omega)];unfold EU;cases decide (c.Cell<=mf Change.Cell x.Delta.l k)with
   |true=>rfl
   |false=>
    cases decide (c.Cell>=j.strict.len)with
    |true=>rfl
    |false=>
     cases c.Add==0 with
     |true=>rfl
     |false=>cases uF c.Add 1000000000<;>rfl
  rw[ag];constructor
  ·intro bc
   rw[bc,eR (by unfold b9 at n1;omega)];exact⟨_,rfl,by rw[Nq Change.Cell hx]⟩
  ·intro bc;rw[bc];rfl) (fun s bq=>by subst bq;simp only[HL,hJ,cond_false]) (s:=(-1,0)) rfl]
 cases allI (EU j.strict.len x.Delta.l) x.Delta.l with
 |false=>rfl
 |true=>
  simp only[cond_true,bs,fU]
  rw[B9 (f:=HM j x) (fun k s=>s=(mf mN.Cell x.hg.l k,(k:Int))) (Jb j.Model.bH.l j.Model.Tables.l x.hg.l) x.hg.l (fun k c s hx bq _=>by
   subst bq;have aT:=ik hx
   have ag:HM j x (mf mN.Cell x.hg.l k,(k:Int))=bif Jb j.Model.bH.l j.Model.Tables.l x.hg.l k c then some (.next (c.Cell,aM ((k:Int)+1)))else some (.out (.ret ())):=by
    simp only[HM,gC aT,cond_true,ef,hx,bs,axx j c h1 h2 hc ad];unfold Jb;cases decide (c.Cell<=mf mN.Cell x.hg.l k)with
    |true=>rfl
    |false=>cases NF j.Model.bH.l j.Model.Tables.l c<;>rfl
   rw[ag];constructor
   ·intro bc
    rw[bc,eR (by unfold b9 at aY;omega)];exact⟨_,rfl,by rw[Nq mN.Cell hx]⟩
   ·intro bc;rw[bc];rfl) (fun s bq=>by subst bq;simp only[HM,hJ,cond_false]) (s:=(-1,0)) rfl]
  cases allI (Jb j.Model.bH.l j.Model.Tables.l x.hg.l) x.hg.l with
  |false=>rfl
  |true=>
   simp only[cond_true,bs,fU]
   rw[axz x.dd hH (f:=fun z0=>HK j z0) (p:=fun r=>!Cc j.strict.len r) (fun r hr=>by
    unfold HK;rw[ahg j r (ab r hr)];rfl)]
   have af:decide (x.dd.len<=8)=decide (x.dd.l.length<=8):=Jc x.dd 8;have ak:decide (x.hg.len<=32)=decide (x.hg.l.length<=32):=Jc x.hg 32;rw[af,ak,uS];cases decide (x.dd.l.length<=8)with
   |false=>rfl
   |true=>cases decide (x.hg.l.length<=32)<;>rfl
end
end Go.Abs.bz
namespace Go.Abs.bz
open Go Go.Abs
noncomputable section
theorem aht (a b:Int):decide (a<b)=!decide (a>=b):=by
 by_cases q:a<b
 ·rw[decide_eq_true q,decide_eq_false (by omega)];rfl
 ·rw[decide_eq_false q,decide_eq_true (by omega)];rfl
theorem ahu (a b:Int):decide (a>b)=!decide (a<=b):=by
 by_cases q:a>b
 ·rw[decide_eq_true q,decide_eq_false (by omega)];rfl
 ·rw[decide_eq_false q,decide_eq_true (by omega)];rfl
theorem mY{α:Type}(x:ae α)(n:Nat):decide (x.len>(n:Int))=!decide (x.l.length<=n):=by
 rw[ahu];congr 1;exact decide_eq_decide.2 (by rw[du];omega)
def Jd (n:Nat)(s:Int):Bool:=decide (s>=-1)&&decide (s<n)
def uH (n:Nat)(o:eu):Bool:=decide (o.bH.l.length<=3)&&o.bH.l.all (Jd n)
def Je (n:Nat)(ops:List eu):Bool:=ops.all (uH n)&&(decide (ops.length<=8)&&I8 (ops.map eu.Name))
theorem axB (j:dV)(h:j.Model.Operations.l.length<=100000)(aA:∀o∈j.Model.Operations.l,b9 o.bH.l):HE j=some (Je j.Model.bH.l.length j.Model.Operations.l):=by
 unfold HE Je
 obtain⟨o,af,ak⟩:=I4 (f:=HC j) (fun k st=>∃a:ae dn,st=((k:Int),a)/\a.l=(j.Model.Operations.l.take k).map eu.Name/\(j.Model.Operations.l.take k).all (uH j.Model.bH.l.length)=true)
  (fun o=>match o with
    | .go a=>j.Model.Operations.l.all (uH j.Model.bH.l.length)=true/\a.l=j.Model.Operations.l.map eu.Name
    | .ret _=>j.Model.Operations.l.all (uH j.Model.bH.l.length)=false) j.Model.Operations.l (fun k o st hx ab=>by
    obtain⟨a,rfl,ha,eP⟩:=ab;have aT:=ik hx;have eW:=gg hx;have lY:a.l.length<=100000:=by rw[ha,eL,nc];omega
    obtain⟨y,po,BS⟩:=xH (gW:=16) (x:=a) (y:=ae.mk [o.Name]) (by omega) (by show a.l.length+1<=_;omega)
    have lZ:=TK o.bH (aA o eW) (f:=fun z0=>HB j z0) (p:=fun s=>!Jd j.Model.bH.l.length s) (fun s hs=>by
     unfold HB Jd;rw[du,aht,show decide (s>=(j.Model.bH.l.length:Int))=!decide (s<(j.Model.bH.l.length:Int))from by rw[aht];simp];cases decide (s>=-1)<;>cases decide (s<(j.Model.bH.l.length:Int))<;>rfl)
    have ag:HC j ((k:Int),a)=bif uH j.Model.bH.l.length o then some (.next ((aM ((k:Int)+1)),y))else some (.out (.ret ())):=by
     simp only[HC,gC aT,cond_true,ef,hx,bs,po,lZ];rw[show decide (o.bH.len>3)=!decide (o.bH.l.length<=3)from mY o.bH 3];unfold uH;rw[uS];cases decide (o.bH.l.length<=3)with
     |false=>rfl
     |true=>cases o.bH.l.any (fun s=>!Jd j.Model.bH.l.length s)<;>rfl
    rw[ag];cases dy:uH j.Model.bH.l.length o with
    |true=>
     left;refine⟨_,rfl,y,by rw[eR (by omega)],?_,?_⟩
     ·rw[BS,ha,Fp,hx];simp[ae.l]
     ·rw[Fp,hx];simp[List.all_append,dy];simpa using eP
    |false=>
     refine .inr ⟨.ret (),rfl,?_⟩;show List.all _ _=false;rw[List.all_eq_false];exact⟨o,eW,by rw[dy];simp⟩) (fun st ab=>by
    obtain⟨a,rfl,ha,eP⟩:=ab;rw[J4]at ha eP;exact⟨.go a,by simp only[HC,hJ,cond_false],eP,ha⟩) (s:=(0,.nil)) ⟨.nil,rfl,rfl,rfl⟩
 rw[af];simp only[bs];cases o with
 |ret u=>simp only at ak;rw[ak];rfl
 |go a=>
  obtain⟨q1,q2⟩:=ak;have lY:a.l.length=j.Model.Operations.l.length:=by rw[q2,eL]
  simp only[];rw[q1,ahh a (by unfold b9;omega),q2];simp only[bs,fU];rw[show decide (a.len<=8)=decide (a.l.length<=8)from Jc a 8,lY];cases decide (j.Model.Operations.l.length<=8)<;>rfl
def rV:List Int->List Int->Bool
 |[],[]=>false
 |[],_::_=>true
 | _::_,[]=>false
 |x::r,y::t=>bif x==y then rV r t else decide (x<y)
theorem axC (l:List Int):rV [] l=decide (0<l.length):=by cases l<;>simp[rV]
theorem axD (l:List Int):rV l []=false:=by cases l<;>rfl
theorem axE{a b:List Int}{k:Nat}{x y:Int}(hx:a[k]? =some x)(hy:b[k]? =some y):rV (a.drop k) (b.drop k)=bif x==y then rV (a.drop (k+1)) (b.drop (k+1))else decide (x<y):=by
 obtain⟨h1,af⟩:=fj.1 hx;obtain⟨h2,ak⟩:=fj.1 hy;rw[uQ h1,uQ h2,af,ak];rfl
theorem axF (x y:Int):cmp_Compare_int x y=some (if x<y then -1 else if x>y then 1 else 0):=by
 unfold cmp_Compare_int cmp_isNaN_int;simp only[bne_self_eq_false,bs,cond_false];by_cases h:x<y
 ·simp[h]
 ·by_cases h2:x>y<;>simp[h,h2]
theorem axG (a b:ae Int)(h:b9 a.l):∃c,Ee a b=some c/\decide (c>=0)=!rV a.l b.l:=by
 unfold Ee
 obtain⟨o,af,ak⟩:=I4 (f:=Ed a b) (fun k st=>st=(k:Int)/\k<=b.l.length/\rV a.l b.l=rV (a.l.drop k) (b.l.drop k))
  (fun o=>match o with
    | .go _=>rV a.l b.l=decide (a.len<b.len)
    | .ret c=>decide (c>=0)=!rV a.l b.l) a.l (fun k x st hx ab=>by
    obtain⟨rfl,hk,sD⟩:=ab;have aT:=ik hx;by_cases La:k<b.l.length
    ·have hy:b.l[k]? =some b.l[k]:=by simp[La]
     have hd:decide ((k:Int)>=b.len)=false:=by rw[du];simp;omega
     have ag:Ed a b (k:Int)=(bif ((if x<b.l[k]then -1 else if x>b.l[k]then 1 else 0:Int) != 0)then some (.out (.ret (if x<b.l[k]then -1 else if x>b.l[k]then 1 else 0)))else some (.next (aM ((k:Int)+1)))):=by
      simp only[Ed,gC aT,cond_true,ef,hx,bs,hd,cond_false,hy,axF]
     rw[ag];rw[axE hx hy]at sD;by_cases F9:x=b.l[k]
     ·left
      have q:(x==b.l[k])=true:=by simpa using F9
      rw[q]at sD;refine⟨((k+1:Nat):Int),?_,rfl,by omega,sD⟩;rw[<-F9];simp only[Int.lt_irrefl,if_false,gt_iff_lt];rw[eR (by unfold b9 at h;omega)];rfl
     ·right
      have q:(x==b.l[k])=false:=by simpa using F9
      rw[q]at sD;simp only[cond_false]at sD;by_cases hl:x<b.l[k]
      ·refine⟨.ret (-1),by rw[if_pos hl];rfl,?_⟩
       show decide ((-1:Int)>=0)=_;rw[sD,decide_eq_true hl];rfl
      ·have ba:x>b.l[k]:=by omega
       refine⟨.ret 1,by rw[if_neg hl,if_pos ba];rfl,?_⟩;show decide ((1:Int)>=0)=_;rw[sD,decide_eq_false hl];rfl
    ·right
     have hd:decide ((k:Int)>=b.len)=true:=by rw[du];simp;omega
     refine⟨.ret 1,by simp only[Ed,gC aT,cond_true,ef,hx,bs,hd],?_⟩;show decide ((1:Int)>=0)=_;rw[sD,zy (Nat.le_of_not_lt La),axD];rfl) (fun st ab=>by
    obtain⟨rfl,hk,sD⟩:=ab;refine⟨.go (),by simp only[Ed,hJ,cond_false],?_⟩;show _=_;rw[sD,zy (aH _),axC,nK];exact decide_eq_decide.2 (by rw[du,du];omega)) (s:=0) ⟨rfl,by omega,rfl⟩
 rw[af];simp only[bs];cases o with
 |ret c=>exact⟨c,rfl,ak⟩
 |go u=>
  simp only at ak⊢;rw[ak];cases decide (a.len<b.len)with
  |true=>exact⟨-1,rfl,rfl⟩
  |false=>exact⟨0,rfl,rfl⟩
end
end Go.Abs.bz
namespace Go.Abs.bz
open Go Go.Abs
noncomputable section
def Cf (s:List Int)(args:List Int)(k:Nat)(mZ:Int):Bool:=bif decide (mZ<0)then uF (args.getD k 0) 9999 else decide (args.getD k 0>=0)&&decide (args.getD k 0<jh s mZ)
def NG (ov:List Action)(k:Nat)(a:Action):Bool:=match k with
 |0=>true
 |k+1=>match ov[k]? with
  |some b=>!(decide (b.eu>a.eu))&&(bif b.eu==a.eu then rV b.gN.l a.gN.l else true)
  |none=>true
def EV (s:List Int)(ts:List Table)(n:Int)(ops:List eu)(ov:List Action)(k:Nat)(a:Action):Bool:=
 (decide (a.eu>=0)&&decide (a.eu<ops.length))&&match ops[a.eu.toNat]? with
   |some o=>(a.gN.l.length==o.bH.l.length)&&(allI (Cf s a.gN.l) o.bH.l&&(NG ov k a&&Ce s ts n a.b4))
   |none=>false
def Jf (s:List Int)(ts:List Table)(n:Int)(ops:List eu)(ov:List Action):Bool:=decide (ov.length<=256)&&allI (EV s ts n ops ov) ov
structure ahv (x:b4):Prop where
 d:b9 x.Delta.l
 u:b9 x.hg.l
 h:b9 x.dd.l
 r:∀r∈x.dd.l,b9 r.dq.l
theorem axH{α β:Type}(x:ae α)(y:ae β):(x.len != y.len)=!(x.l.length==y.l.length):=by
 unfold bne;congr 1;rw[du,du,zG];simp;omega
theorem Cg{α:Type}{l:List α}{i:Int}(h:0<=i):bE l i=l[i.toNat]? :=by simp[bE,h]
theorem axI{s:List Int}{o:eu}{a:Action}{f:Int->Option (di Int (cz Unit Unit))}(hl:b9 o.bH.l)
  (ag:∀(k:Nat) (mZ:Int),o.bH.l[k]? =some mZ->f (k:Int)=bif Cf s a.gN.l k mZ then some (.next (aM ((k:Int)+1)))else some (.out (.ret ()))) (he:f (o.bH.l.length:Int)=some (.out (.go ()))):
  cd f 0=some (bif allI (Cf s a.gN.l) o.bH.l then .go ()else .ret ()):=
 B9 (f:=f) (fun k s=>s=(k:Int)) (Cf s a.gN.l) o.bH.l (fun k mZ st hx bq _=>by
  subst bq;rw[ag k mZ hx];constructor
  ·intro bc
   rw[bc,eR (by have:=ik hx;unfold b9 at hl;omega)];exact⟨_,rfl,rfl⟩
  ·intro bc;rw[bc];rfl) (fun st bq=>by subst bq;exact he) (s:=0) rfl
theorem TT{l:List Int}{k:Nat}{x:Int}(h:l[k]? =some x):l.getD k 0=x:=by simp[kj,h]
theorem axJ{n:Nat}{o:eu}(h:uH n o=true){mZ:Int}(hs:mZ∈o.bH.l):-1<=mZ/\mZ<n:=by
 unfold uH at h;simp only[b6,ev]at h;have:=h.2 mZ hs;unfold Jd at this;simp only[b6,decide_eq_true_eq]at this;exact⟨by omega,this.2⟩
theorem axK{j:dV}{o:eu}{a:Action}(ho:uH j.Model.bH.l.length o=true)(hl:b9 o.bH.l)(hlen:a.gN.l.length=o.bH.l.length):
  cd (Me j a o) 0=some (bif allI (Cf j.Model.bH.l a.gN.l) o.bH.l then .go ()else .ret ()):=
 axI hl (fun k mZ hx=>by
  have aT:=ik hx;have hy:a.gN.l[k]? =some a.gN.l[k]:=by simp[hlen,aT]
  obtain⟨q1,q2⟩:=axJ ho (gg hx);simp only[Me,gC aT,cond_true,ef,hx,hy,bs,NA _ 9999 (by omega),mS];unfold Cf;rw[TT hy];by_cases h0:mZ<0
  ·have d0:decide (mZ<0)=true:=by simpa using h0
   have d1:decide (mZ>=0)=false:=by simp;omega
   rw[d0,d1];simp only[cond_true,cond_false];cases uF a.gN.l[k] 9999<;>rfl
  ·have d0:decide (mZ<0)=false:=by simpa using h0
   have d1:decide (mZ>=0)=true:=by simp;omega
   rw[d0,d1,Ns (by omega) q2];simp only[cond_true,cond_false,bs];cases(decide (a.gN.l[k]>=0)&&decide (a.gN.l[k]<jh j.Model.bH.l mZ))<;>rfl) (by simp only[Me,hJ,cond_false])
theorem axL (j:dV)(h1:b9 j.Model.bH.l)(h2:b9 j.Model.Tables.l)(hc:∀t∈j.Model.Tables.l,b9 t.ch.l)(ad:ou j.Model.bH.l j.Model.Tables.l=true)
  (ho:∀o∈j.Model.Operations.l,uH j.Model.bH.l.length o=true) (axM:∀o∈j.Model.Operations.l,b9 o.bH.l) (c5:∀a∈j.Model.Actions.l,ahv a.b4) (hA:∀a∈j.Model.Actions.l,b9 a.gN.l) (ei:b9 j.Model.Actions.l):
  HR j=some (Jf j.Model.bH.l j.Model.Tables.l j.strict.len j.Model.Operations.l j.Model.Actions.l):=by
 unfold HR Jf;rw[show decide (j.Model.Actions.len>256)=!decide (j.Model.Actions.l.length<=256)from mY j.Model.Actions 256];cases decide (j.Model.Actions.l.length<=256)with
 |false=>rfl
 |true=>
  simp only[hX,cond_false,fU]
  rw[B9 (f:=HQ j) (fun k s=>s=(k:Int)) (EV j.Model.bH.l j.Model.Tables.l j.strict.len j.Model.Operations.l j.Model.Actions.l) j.Model.Actions.l (fun k a st hx bq _=>by
   subst bq;have aT:=ik hx;have eW:=gg hx
   have ag:HQ j (k:Int)=bif EV j.Model.bH.l j.Model.Tables.l j.strict.len j.Model.Operations.l j.Model.Actions.l k a then some (.next (aM ((k:Int)+1)))else some (.out (.ret ())):=by
    simp only[HQ,gC aT,cond_true,ef,hx,bs,mS];unfold EV;have si:decide (a.eu<j.Model.Operations.len)=decide (a.eu<(j.Model.Operations.l.length:Int)):=rfl;rw[si];cases hin:(decide (a.eu>=0)&&decide (a.eu<(j.Model.Operations.l.length:Int)))with
    |false=>rfl
    |true=>
     simp only[b6,decide_eq_true_eq]at hin;have i1:a.eu.toNat<j.Model.Operations.l.length:=by omega
     have dy:j.Model.Operations.l[a.eu.toNat]? =some j.Model.Operations.l[a.eu.toNat]:=by simp[i1]
     have ahw:=gg dy;simp only[cond_true,Cg hin.1,dy,bs,axH,fU];cases hlen:a.gN.l.length==(j.Model.Operations.l[a.eu.toNat]).bH.l.length with
     |false=>rfl
     |true=>
      simp only[hX,cond_false,fU];rw[axK (ho _ ahw) (axM _ ahw) (by simpa using hlen)];simp only[bs];cases allI (Cf j.Model.bH.l a.gN.l) (j.Model.Operations.l[a.eu.toNat]).bH.l with
      |false=>rfl
      |true=>
       simp only[cond_true,fU];have qy:=c5 a eW;rw[axA j a.b4 h1 h2 hc ad qy.d qy.u qy.h qy.r]
       have oQ:((bif (decide ((k:Int)>0))then((bE j.Model.Actions.l (aM ((k:Int)-1))).bind fun yQ=>(((bif (decide (yQ.eu>a.eu))then some true else(bif (yQ.eu==a.eu)then((Ee yQ.gN a.gN).bind fun RZ=>some (decide (RZ>=0)))else some false)):Option (Bool)).bind fun R0=>(bif R0 then some (.ret ())else some (.go ()))))else some (.go ())):Option (cz (Unit) (Unit)))=some (bif NG j.Model.Actions.l k a then .go ()else .ret ()):=by
        cases k with
        |zero=>rfl
        |succ k=>
         have hk:k<j.Model.Actions.l.length:=by omega
         have aR:j.Model.Actions.l[k]? =some j.Model.Actions.l[k]:=by simp[hk]
         have axN:decide ((((k+1:Nat)):Int)>0)=true:=decide_eq_true (by omega);have hw:aM (((k+1:Nat):Int)-1)=(k:Int):=aw9 (by unfold b9 at ei;omega);obtain⟨c,FW,axO⟩:=axG j.Model.Actions.l[k].gN a.gN (hA _ (vP hk));rw[axN,hw];unfold NG;simp only[cond_true,ef,aR,bs,FW,axO];cases decide (j.Model.Actions.l[k].eu>a.eu)with
         |true=>rfl
         |false=>
          cases j.Model.Actions.l[k].eu==a.eu with
          |false=>rfl
          |true=>cases rV j.Model.Actions.l[k].gN.l a.gN.l<;>rfl
       rw[oQ];simp only[bs];cases NG j.Model.Actions.l k a with
       |false=>rfl
       |true=>cases Ce j.Model.bH.l j.Model.Tables.l j.strict.len a.b4<;>rfl
   rw[ag];constructor
   ·intro bc
    rw[bc,eR (by unfold b9 at ei;omega)];exact⟨_,rfl,rfl⟩
   ·intro bc;rw[bc];rfl) (fun st bq=>by subst bq;simp only[HQ,hJ,cond_false]) (s:=0) rfl]
  cases allI (EV j.Model.bH.l j.Model.Tables.l j.strict.len j.Model.Operations.l j.Model.Actions.l) j.Model.Actions.l<;>rfl
end
end Go.Abs.bz
namespace Go.Abs.bz
open Go Go.Abs
noncomputable section
end
end Go.Abs.bz
namespace Go.Abs.bz
open Go Go.Abs
noncomputable section
theorem axP{ts:ae Table}{h:gM}:(((mS h.Table ts.len).bind fun uo=>(bif uo then((mS h.dp ts.len).bind fun j9=>(bif j9 then some (h.Table==h.dp)else some true))else some true)):Option Bool)=some (!((decide (h.Table>=0)&&decide (h.Table<ts.l.length))&&((decide (h.dp>=0)&&decide (h.dp<ts.l.length))&&!(h.Table==h.dp)))):=by
 unfold mS;rw[du];cases(decide (h.Table>=0)&&decide (h.Table<(ts.l.length:Int)))with
 |false=>rfl
 |true=>
  cases(decide (h.dp>=0)&&decide (h.dp<(ts.l.length:Int)))with
  |false=>rfl
  |true=>cases h.Table==h.dp<;>rfl
theorem axQ (j:dV){k:Nat}{h:gM}(hx:j.Model.cf.l[k]? =some h):B6 j (k:Int)=some (bif !xd j.Model.Tables.l h then .out (.ret ())else .next (aM ((k:Int)+1))):=by
 simp only[B6,gC (ik hx),cond_true,ef,hx,bs];rw[axP];unfold xd;cases a:(decide (h.Table>=0)&&decide (h.Table<(j.Model.Tables.l.length:Int)))with
 |false=>rfl
 |true=>
  cases b:(decide (h.dp>=0)&&decide (h.dp<(j.Model.Tables.l.length:Int)))with
  |false=>rfl
  |true=>
   cases h.Table==h.dp with
   |true=>rfl
   |false=>
    simp only[b6,decide_eq_true_eq]at a b;have df:h.Table.toNat<j.Model.Tables.l.length:=by omega
    have er:h.dp.toNat<j.Model.Tables.l.length:=by omega
    have g1:j.Model.Tables.l[h.Table.toNat]? =some j.Model.Tables.l[h.Table.toNat]:=by simp[df]
    have g2:j.Model.Tables.l[h.dp.toNat]? =some j.Model.Tables.l[h.dp.toNat]:=by simp[er]
    simp only[vQ,zK,fU,hX,bs,cond_false,Cg a.1,Cg b.1,g1,g2,bne,mS];cases j.Model.Tables.l[h.Table.toNat].Kind==0 with
    |false=>rfl
    |true=>
     cases j.Model.Tables.l[h.dp.toNat].Kind==0 with
     |false=>rfl
     |true=>
      rw[du j.Model.Tables.l[h.Table.toNat].ch,show(j.Model.Tables.l[h.dp.toNat].ch.len==1)=(j.Model.Tables.l[h.dp.toNat].ch.l.length==1)from TP _ 1];cases d:(decide (h.j6>=0)&&decide (h.j6<(j.Model.Tables.l[h.Table.toNat].ch.l.length:Int)))with
      |false=>rfl
      |true=>
       cases d3:j.Model.Tables.l[h.dp.toNat].ch.l.length==1 with
       |false=>rfl
       |true=>
        simp only[b6,decide_eq_true_eq]at d;have bK:j.Model.Tables.l[h.dp.toNat].ch.l.length=1:=by simpa using d3
        have f1:h.j6.toNat<j.Model.Tables.l[h.Table.toNat].ch.l.length:=by omega
        have bQ:j.Model.Tables.l[h.Table.toNat].ch.l[h.j6.toNat]? =some j.Model.Tables.l[h.Table.toNat].ch.l[h.j6.toNat]:=by simp[f1]
        have f2:0<j.Model.Tables.l[h.dp.toNat].ch.l.length:=by omega
        have c6:j.Model.Tables.l[h.dp.toNat].ch.l[0]? =some j.Model.Tables.l[h.dp.toNat].ch.l[0]:=by simp[f2]
        simp only[hX,vQ,cond_true,cond_false,Cg d.1,ag5,bQ,c6,bs,fU,TT bQ,TT c6];cases j.Model.Tables.l[h.dp.toNat].ch.l[0]==j.Model.Tables.l[h.Table.toNat].ch.l[h.j6.toNat]<;>rfl
theorem axR (j:dV):Nn j=some (decide (j.Model.cf.l.length<=12)&&j.Model.cf.l.all (xd j.Model.Tables.l)):=by
 unfold Nn;rw[show decide (j.Model.cf.len>12)=!decide (j.Model.cf.l.length<=12)from mY j.Model.cf 12];cases h:decide (j.Model.cf.l.length<=12)with
 |false=>rfl
 |true=>
  have hl:j.Model.cf.l.length<=12:=by simpa using h
  simp only[hX,cond_false,fU];rw[xG (f:=B6 j) j.Model.cf.l (by omega) (fun h=>!xd j.Model.Tables.l h) (fun k h hx=>axQ j hx) (by simp only[B6,hJ,cond_false])];rw[uS];cases j.Model.cf.l.any (fun h=>!xd j.Model.Tables.l h)<;>rfl
def cl (ks:List Int):List (Int × Bool):=ks.map fun t=>(t,true)
def ze (ks:List Int)(t:Int):List Int:=if t∈ks then ks else ks++[t]
theorem ahx (t:Int):∀ks,mM (cl ks) t true=cl (ze ks t)
 |[]=>rfl
 |k::ks=>by
  have ih:=ahx t ks;unfold cl ze at*;simp only[dv,mM];by_cases e:t=k
  ·subst e;simp
  ·have af:(t==k)=false:=by simp[e]
   rw[af];simp only[gq,if_false,ih,dx,e,false_or];by_cases h:t∈ks<;>simp[h]
theorem ahy (t:Int):∀ks,(jq (cl ks) t).getD false=decide (t∈ks)
 |[]=>rfl
 |k::ks=>by
  have ih:=ahy t ks;unfold cl jq at*;simp only[dv,J6];by_cases e:t=k
  ·subst e;simp
  ·have af:(t==k)=false:=by simp[e]
   rw[af];simp only[ih,dx,e,false_or]
theorem TU (t:Int):∀ks,jj 0 (aI t) (gK aI V.bool (cl ks))=gK aI V.bool (cl (ks.erase t))
 |[]=>rfl
 |k::ks=>by
  have ih:=TU t ks;simp only[cl,gK]at ih⊢;simp only[dv,jj,G5,aB,beq_iff_eq,List.erase_cons];by_cases e:t=k
  ·subst e;simp
  ·rw[if_neg e,if_neg (fun h=>e h.symm),ih];rfl
theorem axS{ks:List Int}(h:ks.Nodup)(t:Int):(ze ks t).Nodup:=by
 unfold ze;split
 ·exact h
 ·rename_i hn
  exact uT.2 ⟨h,by simp,fun x hx y hy=>by
   simp only[dx,r4,or_false]at hy;subst hy;exact fun q=>hn (q ▸ hx)⟩
theorem axT{ks:List Int}{t x:Int}:x∈ze ks t↔x∈ks\/x=t:=by
 unfold ze;split
 ·rename_i h;exact⟨.inl,fun q=>q.elim id fun e=>e ▸ h⟩
 ·simp
def zf (hs:List gM)(ks:List Int):List Int:=hs.foldl (fun ks h=>ze ks h.Table) ks
theorem ahz:∀(hs:List gM) {ks:List Int},ks.Nodup->(zf hs ks).Nodup
 |[],_,h=>h
 | _::hs,_,h=>ahz hs (axS h _)
theorem ahA:∀(hs:List gM) {ks:List Int} {t:Int},t∈zf hs ks↔t∈ks\/∃h∈hs,h.Table=t
 |[],ks,t=>by simp[zf]
 |h::hs,ks,t=>by
  have:=ahA hs (ks:=ze ks h.Table) (t:=t);unfold zf at this⊢;rw[p6,this,axT];simp only[dx,exists_eq_or_imp,or_assoc,eq_comm (a:=t)]
theorem axU (j:dV)(hl:j.Model.cf.l.length<=12):cd (B7 j) (0,[])=some (cl (zf j.Model.cf.l [])):=by
 have key:∀(n k:Nat) (ks:List Int),k+n=j.Model.cf.l.length->cd (B7 j) ((k:Int),cl ks)=some (cl (zf (j.Model.cf.l.drop k) ks)):=by
  intro n
  induction n with
  |zero=>
   intro k ks hk;have e:k=j.Model.cf.l.length:=by omega
   rw[fp];subst e;simp only[B7,hJ,cond_false,List.drop_length];rfl
  |succ n ih=>
   intro k ks hk;have aT:k<j.Model.cf.l.length:=by omega
   have hx:j.Model.cf.l[k]? =some j.Model.cf.l[k]:=by simp[aT]
   rw[fp];simp only[B7,gC aT,cond_true,ef,hx,bs,ahx];rw[eR (by omega),ih (k+1) _ (by omega),uQ aT];rfl
 exact key j.Model.cf.l.length 0 [] (by omega)
theorem axV (j:dV)(hl:j.Model.cf.l.length<=12)(t:Int)(ks:List Int):
  Hf j.Model.cf (fun h=>some ((h.Table==t)&&(jq (cl ks) h.dp).getD false))=some (j.Model.cf.l.any fun h=>(h.Table==t)&&decide (h.dp∈ks)):=by
 exact rT j.Model.cf (by omega) (fun h _=>by rw[ahy])
end
end Go.Abs.bz
namespace Go.Abs.bz
open Go Go.Abs
noncomputable section
structure rW (hs:List gM) (ks:List Int) (d:List V) (k:List Int):Prop where
 dk:k.Nodup
 sub:∀t∈k,t∈ks
 next:∀t∈k,aI t∈d->∃h∈hs,h.Table=t/\h.dp∈ks
 keep:∀K:Int->Prop,(∀t,K t->t∈ks)->(∀t,K t->∃h∈hs,h.Table=t/\K h.dp)->∀t,K t->t∈k
theorem rW.start{hs:List gM}{ks:List Int}(h:ks.Nodup):rW hs ks [] ks:=⟨h,fun _ h=>h,fun t _ h=>(by cases h),fun _ h _=>h⟩
theorem rW.stay{hs:List gM}{ks k:List Int}{d:List V}(h:rW hs ks d k){t:Int}(bf:(hs.any fun h=>(h.Table==t)&&decide (h.dp∈k))=true):rW hs ks (d++[aI t]) k:=by
 refine⟨h.dk,h.sub,fun u hu hd=> ?_,h.keep⟩;rcases iq.1 hd with hd|hd
 ·exact h.next u hu hd
 ·simp only[dx,r4,or_false,V.int.injEq,true_and]at hd
  subst hd;obtain⟨x,hx,h1⟩:=tc.1 bf;simp only[b6,beq_iff_eq,decide_eq_true_eq]at h1;exact⟨x,hx,h1.1,h.sub _ h1.2⟩
theorem rW.gone{hs:List gM}{ks k:List Int}{d:List V}(h:rW hs ks d k){t:Int}(bf:(hs.any fun h=>(h.Table==t)&&decide (h.dp∈k))=false):rW hs ks (d++[aI t]) (k.erase t):=by
 refine⟨h.dk.erase t,fun u hu=>h.sub u (List.mem_of_mem_erase hu),fun u hu hd=> ?_,fun K h1 h2 u hu=> ?_⟩
 ·have TV:u≠t:=fun e=>by subst e;exact(List.Nodup.not_mem_erase h.dk) hu
  rcases iq.1 hd with hd|hd
  ·exact h.next u (List.mem_of_mem_erase hu) hd
  ·simp only[dx,r4,or_false,V.int.injEq,true_and]at hd
   exact absurd hd TV
 ·have hk:=h.keep K h1 h2
  have TV:u≠t:=fun e=>by
   subst e;obtain⟨x,hx,af,ak⟩:=h2 u hu;have:=zD.1 bf x hx;simp[af,hk _ ak]at this
  exact(List.mem_erase_of_ne TV).2 (hk u hu)
theorem rW.fin{hs:List gM}{ks k:List Int}{d:List V}(h:rW hs ks d k)(ha:∀t∈k,aI t∈d):Rd hs ks k:=⟨h.sub,h.dk,fun t ht=>h.next t ht (ha t ht),h.keep⟩
variable{C:Ctx}{fid:Nat->Nat}{vars:List Nat}{N:Nat}{aa:Nat->Option bU}
structure uI (j:dV) (al e4 l:Nat) (ts:List Nat) (vs:List V) (ks:List Int) (b:Nat) (s:av):Prop where
 aF:s.aF=[]
 ro:s.ro=none
 ok:∃σ,Fits s.au σ/\At σ (1::7::ts) (.ptr al 0::.ptr e4 0::vs)
 own:Own s.H [[(e4,.cells [.map l])],[(l,.map (gK aI V.bool (cl ks)))],[(al,.cells (ke j))]]
 len:b<=s.H.length
theorem EW{s:av}(h1:s.aF=[])(h2:s.ro=none):s=⟨[],s.au,s.H,s.low,none⟩:=by cases s;simp_all
theorem axW (uE:aa 233=some (.code EJ))(lZ:B2 aa){j:dV}(hl:j.Model.cf.l.length<=12){al e4 l li:Nat}{ts:List Nat}{vs:List V}{ks k:List Int}{d:List V}{s:av}(ht:∀t∈ts,t≠10/\t≠122/\t≠130)(aEK:l<li)
  (hs:uI j al e4 l (120::ts) (.ptr li 0::vs) k (li+1) s) (hp:rW j.Model.cf.l ks d k) {kv:V × V} (jE:kv∈gK aI V.bool (cl k)):
  Tt ab n1 aa l li (gK aI V.bool (cl k)) kv s fun bN ao=>∃bF,bN=gK aI V.bool (cl bF)/\uI j al e4 l (120::ts) (.ptr li 0::vs) bF (li+1) ao/\rW j.Model.cf.l ks (d++[kv.1]) bF:=by
 obtain⟨t,Ch,rfl⟩:∃t∈k,kv=(aI t,.bool true):=by
  unfold gK cl at jE;rw[kX]at jE;obtain⟨t,h1,h2⟩:=dZ.1 jE;exact⟨t,h1,h2.symm⟩
 obtain⟨Jg,Jh,⟨σ,ag,iU⟩,aw,hlen⟩:=hs;rw[EW Jg Jh];have g1:σ 1=.ptr al 0:=(eU iU).1;have g7:σ 7=.ptr e4 0:=(eU (eU iU).2).1;have TW:σ 120=.ptr li 0:=(eU (eU (eU iU).2).2).1;have TX:ts.map σ=vs:=(eU (eU (eU iU).2).2).2
 obtain⟨DU,H2,dH,jG,q1,q2,cn,c7,oq,fr,ic,mH⟩:=awl (aa:=aa) (R:=ab) (b:=li+1) (kv:=(aI t,.bool true)) (σ:=σ) (H:=s.H) (li:=li) (low:=s.low)
  (Q:=fun aW H'=>∃oq,aW 10=.ptr oq 0/\(∀x,x≠10->x≠122->aW x=σ x)/\Own H' [[(oq,.cells [aI t])],[(e4,.cells [.map l])],[(l,.map (gK aI V.bool (cl k)))],[(al,.cells (ke j))]])
  TW (pp (.bool true) <| gJ ⟨rfl,by
   show up σ 122 (.bool true) 120=_
   rw[jF _ _ (by decide)];exact TW,pp (aI t) <| A7 rfl aw fun H' oq hb lM=>A8 (vs:=[aI t]) (cs':=[aI t]) rfl lM 0 rfl hb rfl rfl ⟨rfl,aH _⟩ (by simp[bL]) rfl fun J8 axX=>gJ ⟨oq,rfl,fun x hx agL=>by
    show up (up σ 122 (.bool true)) 10 (.ptr oq 0) x=_;rw[jF _ _ hx,jF _ _ agL],axX⟩⟩) ag hlen
 have axY:=axV j hl t k
 obtain⟨hQ,zg,uC,NH,uJ,bB,ca,ez,fC,rfl,rfl,rfl⟩:=awU (aa:=aa) (b:=li+1) (σ:=jG) (H:=H2) uE lZ (ts:=[]) (vs:=[]) mH (by
  show[jG 1,jG 7,jG 10]=_;rw[ic 1 (by decide) (by decide),ic 7 (by decide) (by decide),fr,g1,g7]) axY DU dH q2 cn c7
 refine⟨_,_,q1,bB,ez,?_⟩
 have xM:∀(aW:bW),(∀x,x≠10->x≠122->x≠130->aW x=σ x)->At aW (1::7::120::ts) (.ptr al 0::.ptr e4 0::.ptr li 0::vs):=fun aW h=>by
  show _::_::_::List.map aW ts=_;rw[h 1 (by decide) (by decide) (by decide),h 7 (by decide) (by decide) (by decide),h 120 (by decide) (by decide) (by decide),g1,g7,TW,<-TX];congr 3;exact p4 fun x hx=>h x (ht x hx).1 (ht x hx).2.1 (ht x hx).2.2
 have Ds:(bG zg 130)=.bool (!(j.Model.cf.l.any fun h=>(h.Table==t)&&decide (h.dp∈k))):=by rw[ca,w5]
 cases hc:(j.Model.cf.l.any fun h=>(h.Table==t)&&decide (h.dp∈k))with
 |true=>
  refine .inl ⟨?_,k,rfl,⟨rfl,rfl,⟨_,ca,xM _ fun x h1 h2 ar=> ?_⟩,mH.drop 0,c7⟩,hp.stay hc⟩
  ·show bG zg 130=_
   rw[Ds,hc];rfl
  ·rw[jF _ _ ar,ic x h1 h2]
 |false=>
  have od:bG zg 7=.ptr e4 0:=by rw[ca,jF _ _ (by decide),ic 7 (by decide) (by decide),g7]
  have axZ:bG zg 10=.ptr oq 0:=by rw[ca,jF _ _ (by decide),fr]
  have f7:=mH.get 1 rfl;have f10:=mH.get 0 rfl;have a7:=mH.get 2 rfl
  have hex:c3 (b0 aa) qO ⟨[],zg,uC,NH,none⟩ []=some (⟨[(132,aI t),(131,.map l)],zg,uC,min (min NH uC.length) uC.length,none⟩,[false,false]):=by
   simp[qO,c3,gE,n2,jQ,iJ,aj.ah,od,axZ,f7,f10,av.put,lJ]
  refine .inr ⟨?_,_,_,_,hex,by show li<min (min NH uC.length) uC.length;omega,rfl,G6 (gL:=V.bool) G5 t (cl k),k.erase t,TU t k,⟨rfl,rfl,⟨_,ca,xM _ fun x h1 h2 ar=> ?_⟩,?_,?_⟩,hp.gone hc⟩
  ·show bG zg 130=_
   rw[Ds,hc];rfl
  ·rw[jF _ _ ar,ic x h1 h2]
  ·have:=mH.put 2 (a:=l) (o:=.map (gK aI V.bool (cl k))) (o':=.map (gK aI V.bool (cl (k.erase t)))) rfl
   have h2:=this.drop 0;show Own (uC.set l (.map (jj 0 (aI t) (gK aI V.bool (cl k))))) _;rw[TU];exact h2
  ·show li+1<=(uC.set l _).length
   rw[x7];exact c7
theorem ax0 (cD:C.P.follows .mixedOrders=true)(bC:e7 C fid)(bb:gS C fid (b0 aa)){s0:Code}(hr:AP C vars N s0=some ab)(hd:EN C vars N (Nl s0)=some n1)(uE:aa 233=some (.code EJ))(lZ:B2 aa)
  {j:dV} (hl:j.Model.cf.l.length<=12) {al e4 l:Nat} {ts:List Nat} {vs:List V} {ks:List Int} {s:av} (hnd:ks.Nodup) (ht:∀t∈ts,t≠10/\t≠122/\t≠130/\t≠120) (hs:uI j al e4 l ts vs ks 0 s):
  cZ C fid vars N s0 s fun x ao=>x=.normal/\∃bF,Rd j.Model.cf.l ks bF/\uI j al e4 l ts vs bF 0 ao:=by
 obtain⟨Jg,Jh,⟨σ,ag,iU⟩,aw,hlen⟩:=hs;have g1:σ 1=.ptr al 0:=(eU iU).1;have g7:σ 7=.ptr e4 0:=(eU (eU iU).2).1;have TX:ts.map σ=vs:=(eU (eU iU).2).2;have f7:=aw.get 0 rfl;have a7:=aw.get 1 rfl;have jZ:=sI a7;rw[EW Jg Jh];have od:bG s.au 7=.ptr e4 0:=by rw[ag];exact g7
 have hex:c3 (b0 aa) ab.t0 ⟨[],s.au,s.H,s.low,none⟩ []=some (⟨[(119,.map l)],s.au,s.H,min s.low s.H.length,none⟩,[false]):=by
  simp[ab,c3,gE,n2,jQ,iJ,aj.ah,od,f7,av.put,lJ]
 refine(cZ.awj cD bC bb hr hd (iN:=⟨[],s.au,s.H,s.low,none⟩) hex (l:=l) (bp:=gK aI V.bool (cl ks)) rfl a7
  (fun d es ao=>∃bF,es=gK aI V.bool (cl bF)/\uI j al e4 l (120::ts) (.ptr s.H.length 0::vs) bF (s.H.length+1) ao/\rW j.Model.cf.l ks d bF)
  (fun es ao=>∃bF,Rd j.Model.cf.l ks bF/\uI j al e4 l ts vs bF 0 ao) ⟨ks,rfl,⟨rfl,rfl,⟨_,adW ag 120 (.ptr s.H.length 0),?_⟩,⟨fun m hm p hp=> ?_,aw.2⟩,?_⟩,.start hnd⟩ ?_ ?_ ?_).mono ?_
 ·show up σ 120 (.ptr s.H.length 0) 1::up σ 120 (.ptr s.H.length 0) 7::up σ 120 (.ptr s.H.length 0) 120::List.map (up σ 120 (.ptr s.H.length 0)) ts=_
  rw[jF _ _ (by decide),jF _ _ (by decide),w5,g1,g7,<-TX];congr 3;exact p4 fun x hx=>jF _ _ (ht x hx).2.2.2
 ·show(s.H++[b5.gone])[p.1]? =_
  rw[e5 (aw.lt hm hp)];exact aw.1 m hm p hp
 ·show s.H.length+1<=(s.H++[b5.gone]).length
  simp
 ·rintro d es ao ⟨bF,-,h,-⟩
  obtain⟨aW,h1,h2⟩:=h.ok;show bG ao.au 120=_;rw[h1];exact(eU (eU (eU h2).2).2).1
 ·rintro d es ao ⟨bF,rfl,h,hp⟩ kv jE
  exact axW uE lZ hl (fun t q=>⟨(ht t q).1,(ht t q).2.1,(ht t q).2.2.1⟩) jZ h hp jE
 ·rintro d es ao ⟨bF,rfl,⟨c5,ax1,⟨aW,h1,h2⟩,lM,lS⟩,hp⟩ eP
  rw[EW c5 ax1];obtain⟨dt,H',low',jG,q1,q2,cn,c7,fr,rfl⟩:=awk (aa:=aa) (R:=ab) (b:=s.H.length+1) (σ:=aW) (H:=ao.H) (low:=ao.low) (Q:=fun jG H2=>jG=up aW 122 (.bool false)/\H2=ao.H) (pp (.bool false) <| gJ ⟨rfl,rfl,rfl⟩) h1 lS;subst fr;refine⟨_,q1,cn,bF,hp.fin fun t Ch=>eP (aI t,.bool true) ?_,rfl,rfl,⟨_,q2,?_⟩,lM,cJ _⟩
  ·unfold gK cl
   rw[kX];exact dZ.2 ⟨t,Ch,rfl⟩
  ·show up aW 122 (.bool false) 1::up aW 122 (.bool false) 7::List.map (up aW 122 (.bool false)) ts=_
   have b1:=(eU h2).1;have Ci:=(eU (eU h2).2).1;have ax2:=(eU (eU (eU h2).2).2).2;rw[jF _ _ (by decide),jF _ _ (by decide),b1,Ci,<-ax2];congr 2;exact p4 fun x hx=>jF _ _ (ht x hx).2.1
 ·rintro x ao ⟨rfl,es,s2,⟨bF,h1,h2⟩,rfl⟩
  exact⟨rfl,bF,h1,h2.aF,h2.ro,h2.ok,h2.own,h2.len⟩
end
end Go.Abs.bz
namespace Go.Abs.bz
open Go Go.Abs
noncomputable section
variable{C:Ctx}{fid:Nat->Nat}{vars:List Nat}{N:Nat}{aa:Nat->Option bU}
theorem EX{c:bZ}{σ:bW}{H:Heap}{Q:X->bW->Heap->Prop}{au:Env}(h:fc aa 0 c σ H Q)(ag:Fits au σ)(low:Nat):
  ∃x dt H' low' aW,c4 aa c ⟨[],au,H,low,none⟩=some (x,⟨[],dt,H',low',none⟩)/\Fits dt aW/\Q x aW H':=by
 obtain⟨x,dt,H',low',aW,h1,h2,-,-,ar⟩:=h au low ag (cJ _) (cJ _);exact⟨x,dt,H',low',aW,h1,h2,ar⟩
theorem ahB{σ:bW}{a b c d:Nat}{x y z w:V}(h:At σ [a,b,c,d] [x,y,z,w]):At σ [a,b] [x,y]:=by
 simp only[At,dv,iT,x6]at h⊢;exact⟨h.1,h.2.1,trivial⟩
theorem ax3{σ:bW}{a b:Nat}{x y:V}(h:At σ [a,b] [x,y]):At σ [b] [y]:=by
 simp only[At,dv,iT,x6]at h⊢;exact⟨h.2.1,trivial⟩
def TY:bZ:=.region [⟨some (118,true),.bin .lss (.var 117) (.var 116),none⟩] none
def TZ:bZ:=.cond (.var 118) .skip (.exit 4)
def T0:bZ:=.region [⟨some (133,false),.bin .add (.var 117) (.const (.int .i64 1)),none⟩,⟨some (117,true),.mv (.tmp 133),none⟩] none
section
variable{b:Nat}{σ:bW}{H:Heap}
theorem ax4{ai:dV}{al e4 l:Nat}{m:List (Int × Bool)}(j:At σ [1,7] [.ptr al 0,.ptr e4 0])(aw:Own H [[(e4,.cells [.map l])],[(l,.map (gK aI V.bool m))],[(al,.cells (ke ai))]]):
  fc aa b (za (hA 6)) σ H fun x aW H'=>x=.normal/\H'=H/\At aW [1,7,116,117] [.ptr al 0,.ptr e4 0,aI ai.Model.cf.len,aI 0]:=by
 rw[<-G7 j];refine vj <| pp (.ptr al 0) <| pp (.ptr al 6) <| ph (bn 3 jH ai.Model.cf) (iz rfl (aw.get 2 rfl) rfl) <| ph (aI ai.Model.cf.len) (w7 rfl _) <| pp (aI 0) <| gJ ⟨rfl,rfl,rfl⟩
theorem ax5{i n:Int}(h1:σ 116=aI n)(h2:σ 117=aI i):fc aa b (.seq TY TZ) σ H fun x aW H'=>x=(if i<n then .normal else .exit 4)/\H'=H/\aW=up σ 118 (.bool (decide (i<n))):=by
 refine qF <| vj <| ph (.bool (decide (i<n))) ?_ <| gJ ?_
 ·rw[nv]
  show(en .lss (σ 117) (σ 116)).map _=_;rw[h1,h2];rfl
 ·by_cases h:i<n
  ·refine A1 (β:=decide (i<n)) rfl (by simpa using h) (AZ ⟨by rw[if_pos h],rfl,rfl⟩)
  ·refine A2 (β:=decide (i<n)) rfl (by simpa using h) (LG ⟨by rw[if_neg h],rfl,rfl⟩)
theorem ax6{i:Int}(h2:σ 117=aI i):fc aa b T0 σ H fun x aW H'=>x=.normal/\H'=H/\aW=up σ 117 (aI (aM (i+1))):=by
 refine vj <| ph (aI (aM (i+1))) ?_ <| pp (aI (aM (i+1))) <| gJ ⟨rfl,rfl,rfl⟩
 rw[nv];show(en .add (σ 117) (aI 1)).map _=_;rw[h2];rfl
end
theorem ax7 (cD:C.P.follows .mixedOrders=true)(bC:e7 C fid)(bb:gS C fid (b0 aa)){hd qD s0 inc:Code}(df:C.code vars N hd=some TY)(er:C.code vars N qD=some TZ)(e2:C.code vars N inc=some T0)
  (hr:AP C vars N s0=some ab) (lA:EN C vars N (Nl s0)=some n1) (uE:aa 233=some (.code EJ)) (lZ:B2 aa) {j:dV} (hl:j.Model.cf.l.length<=12) {al e4 l:Nat} {ks:List Int} {s:av} (hnd:ks.Nodup)
  (hs:uI j al e4 l [116,117] [aI j.Model.cf.len,aI 0] ks 0 s):
  cZ C fid vars N (.block 4 (.loop (.seq hd (.seq qD (.seq (.block 5 s0) inc))))) s fun x ao=>x=.normal/\∃bF,rB j.Model.cf.l ks j.Model.cf.l.length bF/\uI j al e4 l [] [] bF 0 ao:=by
 refine cZ.block (cZ.loop (fun k ao=>∃(i:Nat) (bF:List Int),i+k=j.Model.cf.l.length/\bF.Nodup/\rB j.Model.cf.l ks i bF/\uI j al e4 l [116,117] [aI j.Model.cf.len,aI i] bF 0 ao) j.Model.cf.l.length ⟨0,ks,by omega,hnd,.zero,hs⟩ ?_);rintro k s1 ⟨i,bQ,NI,ax8,F1,Jg,Jh,⟨σ,ag,iU⟩,aw,hlen⟩;have g1:σ 1=.ptr al 0:=(eU iU).1;have g7:σ 7=.ptr e4 0:=(eU (eU iU).2).1;have ahC:σ 116=aI j.Model.cf.len:=(eU (eU (eU iU).2).2).1;have ahD:σ 117=aI i:=(eU (eU (eU (eU iU).2).2).2).1;rw[EW Jg Jh];obtain⟨x,dt,H',low',aW,q1,q2,cn,rfl,fr⟩:=EX (aa:=aa) (ax5 (H:=s1.H) ahC ahD) ag s1.low;have ahE:j.Model.cf.len=(j.Model.cf.l.length:Int):=rfl
 have T1:At aW [1,7,116,117] [.ptr al 0,.ptr e4 0,aI j.Model.cf.len,aI i]:=by
  rw[fr];show[up σ 118 (.bool (decide ((i:Int)<j.Model.cf.len))) 1,up σ 118 (.bool (decide ((i:Int)<j.Model.cf.len))) 7,up σ 118 (.bool (decide ((i:Int)<j.Model.cf.len))) 116,up σ 118 (.bool (decide ((i:Int)<j.Model.cf.len))) 117]=_;rw[jF _ _ (by decide),jF _ _ (by decide),jF _ _ (by decide),jF _ _ (by decide),g1,g7,ahC,ahD]
 by_cases hi:i<j.Model.cf.l.length
 ·have hx:x=.normal:=by rw[cn,if_pos (by rw[ahE];omega)]
  subst hx;refine cZ.B5 cD bC bb df q1 (fun s2 my=>cZ.seq (cZ.c4 cD bC bb er my) (fun e9 ar=> ?_) fun y e9 hy ar=>absurd ar.1 hy) (fun h=>absurd rfl h);obtain⟨-,rfl⟩:=ar;refine cZ.seq (Lm:=fun y e9=>y=.normal/\∃bF,Rd j.Model.cf.l bQ bF/\uI j al e4 l [116,117] [aI j.Model.cf.len,aI i] bF 0 e9) (cZ.block ((ax0 (s:=⟨[],dt,s1.H,low',none⟩) cD bC bb hr lA uE lZ hl ax8 (ts:=[116,117]) (vs:=[aI j.Model.cf.len,aI i]) (by decide) ⟨rfl,rfl,⟨aW,q2,T1⟩,aw,cJ _⟩).mono fun y e9 hy=>⟨by rw[hy.1];rfl,hy.2⟩)) (fun e9 ar=> ?_) fun y e9 hy ar=>absurd ar.1 hy;obtain⟨-,c6,ahF,Qq,DC,⟨uJ,ax9,xM⟩,B8,YW⟩:=ar;have b1:uJ 1=.ptr al 0:=(eU xM).1;have Ci:uJ 7=.ptr e4 0:=(eU (eU xM).2).1;have aya:uJ 116=aI j.Model.cf.len:=(eU (eU (eU xM).2).2).1;have bi:uJ 117=aI i:=(eU (eU (eU (eU xM).2).2).2).1;rw[EW Qq DC];obtain⟨y,Sl,Sm,aEL,Sn,bB,ca,rfl,rfl,hG⟩:=EX (aa:=aa) (ax6 (H:=e9.H) bi) ax9 e9.low;refine(cZ.c4 cD bC bb e2 bB).mono fun y kz hy=> ?_;obtain⟨rfl,rfl⟩:=hy;refine .inl ⟨rfl,k-1,by omega,i+1,c6,by omega,ahF.dk,.succ F1 ahF,rfl,rfl,⟨Sn,ca,?_⟩,B8,cJ _⟩;rw[hG];show[up uJ 117 (aI (aM ((i:Int)+1))) 1,up uJ 117 (aI (aM ((i:Int)+1))) 7,up uJ 117 (aI (aM ((i:Int)+1))) 116,up uJ 117 (aI (aM ((i:Int)+1))) 117]=_;rw[jF _ _ (by decide),jF _ _ (by decide),jF _ _ (by decide),w5,b1,Ci,aya,eR (by omega)]
 ·have hx:x=.exit 4:=by rw[cn,if_neg (by rw[ahE];omega)]
  subst hx;refine cZ.B5 cD bC bb df q1 (fun s2 my=>cZ.seq (cZ.c4 cD bC bb er my) (fun e9 ar=>absurd ar.1 (by simp)) fun y e9 hy ar=> ?_) (fun _=> ?_)
  ·obtain⟨rfl,rfl⟩:=ar
   have:i=j.Model.cf.l.length:=by omega
   subst this;exact .inr ⟨by simp,rfl,bQ,F1,rfl,rfl,⟨aW,q2,ahB T1⟩,aw,cJ _⟩
  ·have:i=j.Model.cf.l.length:=by omega
   subst this;exact .inr ⟨by simp,rfl,bQ,F1,rfl,rfl,⟨aW,q2,ahB T1⟩,aw,cJ _⟩
theorem ayb (cD:C.P.follows .mixedOrders=true)(bC:e7 C fid)(bb:gS C fid (b0 aa)){p1 p2 p3 k8 uv IQ Nb hd qD s0 inc:Code}(af:C.code vars N p1=some (hA 1))(ak:C.code vars N p2=some (hA 2))(bK:C.code vars N p3=some (hA 3))(cL:C.code vars N k8=some (hA 4))(dF:C.code vars N uv=some (hA 5))
  (hE:C.code vars N IQ=some (za (hA 6))) (od:C.code vars N Nb=some (hA 7)) (df:C.code vars N hd=some TY) (er:C.code vars N qD=some TZ) (e2:C.code vars N inc=some T0)
  (hr:AP C vars N s0=some ab) (lA:EN C vars N (Nl s0)=some n1) (uE:aa 233=some (.code EJ)) (lZ:B2 aa) (T2:Nd aa) (j:dV):
  cZ C fid vars N (.seq p1 (.seq p2 (.seq p3 (.seq k8 (.seq uv (.seq (.seq IQ (.block 4 (.loop (.seq hd (.seq qD (.seq (.block 5 s0) inc)))))) Nb)))))) ⟨[],fl 0 [.agg (ke j)],[],0,none⟩
   fun x s=>x=.ret/\bG s.au 2=.bool (He j.Model.Tables.l j.Model.cf.l):=by
 obtain⟨x,lh,H1,bO,cU,q1,q2,cn⟩:=EX (aa:=aa) (awm (H0:=[]) T2 j (axR j)) (Rj 0 [.agg (ke j)]) 0;unfold He;cases bc:(decide (j.Model.cf.l.length<=12)&&j.Model.cf.l.all (xd j.Model.Tables.l))with
 |false=>
  rw[bc]at cn;obtain⟨rfl,iU⟩:=cn;have ad:bG lh 2=.bool false:=(q2 2).trans (eU iU).1
  have aR:(decide (j.Model.cf.l.length<=12)&&(j.Model.cf.l.all (xd j.Model.Tables.l)&&LV j.Model.cf.l j.Model.Tables.l.length))=false:=by
   rw[<-zI,bc];rfl
  rw[aR];refine cZ.B5 cD bC bb af q1 (fun s2 h2=>cZ.B5 cD bC bb ak h2 (fun e9 ar=>cZ.seq (cZ.c4 cD bC bb bK ar) (fun kz aS=>absurd aS.1 (by simp)) fun y kz hy aS=> ?_) fun _=>⟨rfl,ad⟩) fun _=>⟨rfl,ad⟩;obtain⟨rfl,rfl⟩:=aS;exact⟨rfl,ad⟩
 |true=>
  rw[bc]at cn;obtain⟨rfl,al,-,iU,aw⟩:=cn;obtain⟨uK,eP⟩:=Bool.and_eq_true_iff.1 bc;have hl:j.Model.cf.l.length<=12:=by simpa using uK
  rw[uK,eP,fU,fU];refine cZ.B5 cD bC bb af q1 (fun s2 h2=>cZ.B5 cD bC bb ak h2 (fun e9 ar=>cZ.seq (cZ.c4 cD bC bb bK ar) (fun kz aS=> ?_) fun y kz hy aS=>absurd aS.1 hy) fun h=>absurd rfl h) fun h=>absurd rfl h;obtain⟨-,rfl⟩:=aS;obtain⟨x,DU,H2,dH,jG,bB,ca,rfl,e4,l,-,-,ayc,ahG⟩:=EX (aa:=aa) (awG (b:=0) j iU aw (axU j hl)) q2 bO;refine cZ.B5 cD bC bb cL bB (fun s2 h2=>cZ.seq (cZ.c4 cD bC bb dF h2) (fun kz aS=> ?_) fun y kz hy aS=>absurd aS.1 hy) fun h=>absurd rfl h;obtain⟨-,rfl⟩:=aS;obtain⟨x,zg,uC,NH,uJ,t1,t2,rfl,rfl,xM⟩:=EX (aa:=aa) (ax4 (b:=0) ayc ahG) ca dH;have hnd:(zf j.Model.cf.l []).Nodup:=ahz _ Fs;refine cZ.seq (cZ.seq (cZ.c4 cD bC bb hE t1) (fun kz aS=> ?_) fun y kz hy aS=>absurd aS.1 hy) (fun T3 h5=> ?_) fun y T3 hy (h5:y=.normal/\∃bF,rB j.Model.cf.l (zf j.Model.cf.l []) j.Model.cf.l.length bF/\uI j al e4 l [] [] bF 0 T3)=>absurd h5.1 hy
  ·obtain⟨-,rfl⟩:=aS
   exact ax7 cD bC bb df er e2 hr lA uE lZ hl hnd ⟨rfl,rfl,⟨uJ,t2,xM⟩,ahG,cJ _⟩
  ·obtain⟨-,bF,ayd,aye,Qk,⟨ayf,ayg,ayh⟩,ayi,-⟩:=h5
   rw[EW aye Qk];have Ci:At ayf [7] [.ptr e4 0]:=ax3 ayh;obtain⟨x,ayj,aEM,aEN,aEO,jV,oF,rfl,ayk⟩:=EX (aa:=aa) (awS (b:=0) Ci ayi) ayg T3.low;refine(cZ.c4 cD bC bb od jV).mono fun y aEP hy=> ?_;obtain⟨rfl,rfl⟩:=hy;refine⟨rfl,?_⟩;show bG ayj 2=_;rw[oF 2,(eU ayk).1]
   have dG:∀h∈j.Model.cf.l,0<=h.Table/\h.Table<(j.Model.Tables.l.length:Int):=fun h e8=>by
    have:=ev.1 eP h e8;unfold xd at this;simp only[b6,decide_eq_true_eq]at this;exact⟨this.1.1,this.1.2⟩
   rw[<-asu (N:=j.Model.Tables.l.length) hnd (fun t=>by rw[ahA];simp) dG ayd];unfold cl;rw[eL]
end
end Go.Abs.bz
namespace Go.Abs.bz
open Go Go.Abs
noncomputable section
theorem T4 (x:dn)(n:Nat):decide ((x.length:Int)>(n:Int))=!decide (x.length<=n):=by
 rw[ahu];congr 1;exact decide_eq_decide.2 (by omega)
def Ji (t:Table):Bool:=decide (t.Name.length<=40)&&decide (t.ch.l.length<=12)
def EY (s:List Int)(ts:List Table):Bool:=ts.all Ji&&(decide (s.length<=12)&&decide (ts.length<=20))
theorem ayl (s:ae Int)(ts:ae Table)(h:b9 ts.l):Hk s ts=some (EY s.l ts.l):=by
 unfold Hk
 rw[xG (f:=LX ts) ts.l h (fun t=>!Ji t) (fun k t ht=>by
  simp only[LX,gC (ik ht),cond_true,ef,ht,bs];rw[show decide ((t.Name.length:Int)>40)=!decide (t.Name.length<=40)from T4 t.Name 40,show decide (t.ch.len>12)=!decide (t.ch.l.length<=12)from mY t.ch 12];unfold Ji;cases decide (t.Name.length<=40)<;>cases decide (t.ch.l.length<=12)<;>rfl) (by simp only[LX,hJ,cond_false])]
 unfold EY;rw[uS,show decide (s.len<=12)=decide (s.l.length<=12)from Jc s 12,show decide (ts.len<=20)=decide (ts.l.length<=20)from Jc ts 20];cases ts.l.any fun t=>!Ji t<;>rfl
def Jj (o:eu):Bool:=decide (o.Name.length<=40)&&decide (o.bH.l.length<=6)
def Jk (x:b4):Bool:=decide (x.Delta.l.length<=20)&&(decide (x.dd.l.length<=10)&&decide (x.hg.l.length<=40))
def T5 (x:b4):Bool:=x.dd.l.all fun r=>decide (r.dq.l.length<=20)
def Cj (a:Action):Bool:=(decide (a.gN.l.length<=6)&&Jk a.b4)&&T5 a.b4
def il (m:Model):Bool:=
 (decide (m.bH.l.length<=8)&&(decide (m.Tables.l.length<=6)&&(decide (m.ff.l.length<=20)&&(decide (m.cN.l.length<=60)&&(decide (m.Operations.l.length<=8)&&(decide (m.Actions.l.length<=30)&&(decide (m.cf.l.length<=12)&&EY m.bH.l m.Tables.l)))))))&&
 ((m.ff.l.all fun x=>decide (x.length<=40))&&((m.cN.l.all fun c=>decide (c.Row.dq.l.length<=20))&&(m.Operations.l.all Jj&&m.Actions.l.all Cj)))
theorem ahH (m:Model):D6 m=some (il m):=by
 unfold D6 il
 rw[show decide (m.bH.len>8)=!decide (m.bH.l.length<=8)from mY m.bH 8,show decide (m.Tables.len>6)=!decide (m.Tables.l.length<=6)from mY m.Tables 6,
  show decide (m.ff.len>20)=!decide (m.ff.l.length<=20)from mY m.ff 20,show decide (m.cN.len>60)=!decide (m.cN.l.length<=60)from mY m.cN 60,
  show decide (m.Operations.len>8)=!decide (m.Operations.l.length<=8)from mY m.Operations 8,show decide (m.Actions.len>30)=!decide (m.Actions.l.length<=30)from mY m.Actions 30,
  show decide (m.cf.len>12)=!decide (m.cf.l.length<=12)from mY m.cf 12]
 cases h1:decide (m.bH.l.length<=8)with
 |false=>rfl
 |true=>
 cases h2:decide (m.Tables.l.length<=6)with
 |false=>rfl
 |true=>
 cases ar:decide (m.ff.l.length<=20)with
 |false=>rfl
 |true=>
 cases aS:decide (m.cN.l.length<=60)with
 |false=>rfl
 |true=>
 cases h5:decide (m.Operations.l.length<=8)with
 |false=>rfl
 |true=>
 cases eA:decide (m.Actions.l.length<=30)with
 |false=>rfl
 |true=>
 cases lI:decide (m.cf.l.length<=12)with
 |false=>rfl
 |true=>
 have q2:m.Tables.l.length<=6:=by simpa using h2
 have cn:m.ff.l.length<=20:=by simpa using ar
 have c7:m.cN.l.length<=60:=by simpa using aS
 have fr:m.Operations.l.length<=8:=by simpa using h5
 have ic:m.Actions.l.length<=30:=by simpa using eA
 simp only[hX,cond_false,fU];rw[ayl m.bH m.Tables (by unfold b9;omega)];cases EY m.bH.l m.Tables.l with
 |false=>rfl
 |true=>
 simp only[bs,hX,cond_false,fU]
 rw[xG (f:=LY m) m.ff.l (by omega) (fun x=>!decide (x.length<=40)) (fun k x hx=>by
  simp only[LY,gC (ik hx),cond_true,ef,hx,bs];rw[show decide ((x.length:Int)>40)=!decide (x.length<=40)from T4 x 40];cases decide (x.length<=40)<;>rfl) (by simp only[LY,hJ,cond_false])]
 rw[uS];cases m.ff.l.any fun x=>!decide (x.length<=40)with
 |true=>rfl
 |false=>
 simp only[bs,vQ,cond_false,fU]
 rw[xG (f:=LZ m) m.cN.l (by omega) (fun c=>!decide (c.Row.dq.l.length<=20)) (fun k c hx=>by
  simp only[LZ,gC (ik hx),cond_true,ef,hx,bs];rw[show decide (c.Row.dq.len>20)=!decide (c.Row.dq.l.length<=20)from mY c.Row.dq 20];cases decide (c.Row.dq.l.length<=20)<;>rfl) (by simp only[LZ,hJ,cond_false])]
 rw[uS (l:=m.cN.l)];cases m.cN.l.any fun c=>!decide (c.Row.dq.l.length<=20)with
 |true=>rfl
 |false=>
 simp only[bs,vQ,cond_false,fU]
 rw[xG (f:=L0 m) m.Operations.l (by omega) (fun o=>!Jj o) (fun k o hx=>by
  simp only[L0,gC (ik hx),cond_true,ef,hx,bs];rw[show decide ((o.Name.length:Int)>40)=!decide (o.Name.length<=40)from T4 o.Name 40,show decide (o.bH.len>6)=!decide (o.bH.l.length<=6)from mY o.bH 6];unfold Jj;cases decide (o.Name.length<=40)<;>cases decide (o.bH.l.length<=6)<;>rfl) (by simp only[L0,hJ,cond_false])]
 rw[uS (l:=m.Operations.l)];cases m.Operations.l.any fun o=>!Jj o with
 |true=>rfl
 |false=>
 simp only[bs,vQ,cond_false,fU]
 rw[xG (f:=L2 m) m.Actions.l (by omega) (fun a=>!Cj a) (fun k a hx=>by
  simp only[L2,gC (ik hx),cond_true,ef,hx,bs]
  rw[show decide (a.gN.len>6)=!decide (a.gN.l.length<=6)from mY a.gN 6,show decide (a.b4.Delta.len>20)=!decide (a.b4.Delta.l.length<=20)from mY a.b4.Delta 20,
   show decide (a.b4.dd.len>10)=!decide (a.b4.dd.l.length<=10)from mY a.b4.dd 10,show decide (a.b4.hg.len>40)=!decide (a.b4.hg.l.length<=40)from mY a.b4.hg 40]
  unfold Cj Jk;cases decide (a.gN.l.length<=6)with
  |false=>rfl
  |true=>
   cases decide (a.b4.Delta.l.length<=20)with
   |false=>rfl
   |true=>
    cases e8:decide (a.b4.dd.l.length<=10)with
    |false=>rfl
    |true=>
     cases decide (a.b4.hg.l.length<=40)with
     |false=>rfl
     |true=>
      have hl:a.b4.dd.l.length<=10:=by simpa using e8
      simp only[hX,cond_false,bs,zK,fU]
      rw[xG (f:=L1 a) a.b4.dd.l (by omega) (fun r=>!decide (r.dq.l.length<=20)) (fun k r hx=>by
       simp only[L1,gC (ik hx),cond_true,ef,hx,bs];rw[show decide (r.dq.len>20)=!decide (r.dq.l.length<=20)from mY r.dq 20];cases decide (r.dq.l.length<=20)<;>rfl) (by simp only[L1,hJ,cond_false])]
      unfold T5;rw[uS];cases a.b4.dd.l.any fun r=>!decide (r.dq.l.length<=20)<;>rfl) (by simp only[L2,hJ,cond_false])]
 rw[uS (l:=m.Actions.l)];cases m.Actions.l.any fun a=>!Cj a<;>rfl
structure T6 (m:Model):Prop where
 ahI:m.bH.l.length<=8
 tables:m.Tables.l.length<=6
 aym:m.ff.l.length<=21
 cons:m.cN.l.length<=60
 ops:m.Operations.l.length<=8
 ov:m.Actions.l.length<=31
 aEQ:m.cf.l.length<=13
 aa:∀t∈m.Tables.l,t.Name.length<=40/\t.ch.l.length<=12
 aER:∀x∈m.ff.l,x.length<=40
 rX:∀c∈m.cN.l,c.Row.dq.l.length<=20
 op:∀o∈m.Operations.l,o.Name.length<=40/\o.bH.l.length<=6
 act:∀a∈m.Actions.l,a.gN.l.length<=6/\ahv a.b4
theorem Ck{m:Model}(h:il m=true):T6 m:=by
 unfold il EY at h;simp only[b6,decide_eq_true_eq,ev]at h;obtain⟨⟨al,a2,a3,a4,a5,Jl,e4,ayn,-,-⟩,b1,e3,iC,kG⟩:=h;refine⟨al,a2,by omega,a4,a5,by omega,by omega,fun t ht=> ?_,b1,e3,fun o ho=> ?_,fun a ha=> ?_⟩
 ·have:=ayn t ht
  unfold Ji at this;simpa using this
 ·have:=iC o ho
  unfold Jj at this;simpa using this
 ·have:=kG a ha
  unfold Cj Jk T5 at this;simp only[b6,decide_eq_true_eq,ev]at this;obtain⟨⟨df,er,e2,h6⟩,ie⟩:=this;exact⟨df,by unfold b9;omega,by unfold b9;omega,by unfold b9;omega,fun r hr=>by have:=ie r hr;unfold b9;omega⟩
def iS (m:Model):Bool:=
 ou m.bH.l m.Tables.l&&(decide (m.ff.l.length<=24)&&(I8 m.ff.l&&(ES m.bH.l m.Tables.l (hU m.bH.l m.Tables.l true) m.ff.len m.cN.l&&(Je m.bH.l.length m.Operations.l&&
  (Jf m.bH.l m.Tables.l (hU m.bH.l m.Tables.l true).length m.Operations.l m.Actions.l&&He m.Tables.l m.cf.l)))))
theorem ayo{m:Model}(b:T6 m):HS m=some (iS m):=by
 have hs:b9 m.bH.l:=by have:=b.ahI;unfold b9;omega
 have ht:b9 m.Tables.l:=by have:=b.tables;unfold b9;omega
 have hc:∀t∈m.Tables.l,b9 t.ch.l:=fun t h=>by have:=b.aa t h;unfold b9;omega
 unfold HS iS;rw[TN m.bH m.Tables hs ht hc];simp only[bs];cases ad:ou m.bH.l m.Tables.l with
 |false=>rfl
 |true=>
  simp only[cond_true,fU];rw[show decide (m.ff.len>24)=!decide (m.ff.l.length<=24)from mY m.ff 24];cases decide (m.ff.l.length<=24)with
  |false=>rfl
  |true=>
   simp only[hX,cond_false,fU];rw[ahh m.ff (by have:=b.aym;unfold b9;omega)];simp only[bs];cases I8 m.ff.l with
   |false=>rfl
   |true=>
    obtain⟨x,ex,el⟩:=ahf m.bH m.Tables true hs ht hc;rw[ad]at el;simp only[cond_true]at el;have qR:∀t∈m.Tables.l,jg m.bH.l.length t.ch.l=true:=fun t h=>Ny ((EO ad).2.2.2 t h);simp only[hX,cond_false,fU];rw[ex];simp only[bs];have af:=axj (dV.mk m x) (by have:=b.cons;show m.cN.l.length<_;omega) (by show x.l.length<=_;rw[el];have:=axl ad true;omega) ht qR (fun c h=>by have:=b.rX c h;unfold b9;omega);have ak:=axB (dV.mk m x) (by have:=b.ops;show m.Operations.l.length<=_;omega) (fun o h=>by have:=(b.op o h).2;unfold b9;omega);rw[af,ak];simp only[bs];rw[show(dV.mk m x).strict.l=hU m.bH.l m.Tables.l true from el];cases ES m.bH.l m.Tables.l (hU m.bH.l m.Tables.l true) m.ff.len m.cN.l with
    |false=>rfl
    |true=>
     simp only[cond_true,fU];cases dy:Je m.bH.l.length m.Operations.l with
     |false=>rfl
     |true=>
      have T7:=dy;unfold Je at T7;simp only[b6,ev]at T7;have bK:=axL (dV.mk m x) hs ht hc ad T7.1 (fun o h=>by have:=(b.op o h).2;unfold b9;omega) (fun a h=>(b.act a h).2) (fun a h=>by have:=(b.act a h).1;unfold b9;omega) (by have:=b.ov;unfold b9;show m.Actions.l.length<_;omega);rw[bK];simp only[bs,cond_true,fU];rw[show(dV.mk m x).strict.len=((hU m.bH.l m.Tables.l true).length:Int)from by rw[du];show((x.l.length:Nat):Int)=_;rw[el]];cases Jf m.bH.l m.Tables.l ((hU m.bH.l m.Tables.l true).length:Int) m.Operations.l m.Actions.l<;>rfl
end
end Go.Abs.bz
