/- Texts of this claim, joined and written short by a program. -/
import Derived.Test.YtgkcikhegodchaaGreatDoorS30
import Derived.Test.YtgkcikhegodchaaGreatDoorS00
set_option linter.unusedVariables false
set_option linter.unusedSimpArgs false
set_option linter.unusedSectionVars false
namespace Go.Abs.bs
open Go Go.Abs
noncomputable section
def wU (s:List Int):List Int->Int->List Int
 |[],_=>[]
 |x::r,k=>(k%jb s x)::wU s r (k/jb s x)
def tI (s:List Int):List Int->Int->Int
 |[],k=>k
 |x::r,k=>tI s r (k/jb s x)
def G4 (s:List Int)(hz:List Int)(k:Int):List Int:=(wU s hz.reverse k).reverse
theorem ade (s:List Int)(y:Int):∀(l:List Int) (k:Int),tI s (l++[y]) k=tI s l k/jb s y
 |[],k=>rfl
 |x::r,k=>ade s y r _
theorem adf (s:List Int)(y:Int):∀(l:List Int) (k:Int),wU s (l++[y]) k=wU s l k++[tI s l k%jb s y]
 |[],k=>rfl
 |x::r,k=>by simp only[lN,wU,tI];rw[adf s y r]
theorem adg (s:List Int):∀(l:List Int) (k:Int),(wU s l k).length=l.length
 |[],k=>rfl
 |x::r,k=>by simp only[wU,fl,adg s r]
theorem adh{s:List Int}(hs:qt s=true):∀(l:List Int) (k:Int),(∀x∈l,0<=x/\x<s.length)->0<=k->0<=tI s l k/\tI s l k<=k
 |[],k,_,h=>⟨h,yJ _⟩
 |x::r,k,hx,h=>by
  obtain⟨q1,q2⟩:=Lu hs (hx x (by simp)).1 (hx x (by simp)).2;have h1:0<=k/jb s x:=Int.ediv_nonneg h (by omega);have h2:k/jb s x<=k:=Int.ediv_le_self _ h;have:=adh hs r (k/jb s x) (fun y hy=>hx y (by simp[hy])) h1;simp only[tI];omega
theorem asi{a b:Int}(ha:0<=a)(hb:1<=b):Fa a b=some (a%b):=by
 unfold Fa;rw[if_neg (by omega),Int.tmod_eq_emod_of_nonneg ha]
theorem asj{a b:Int}(ha:0<=a)(hb:1<=b)(h:a<=1000000):E9 a b=some (a/b):=by
 unfold E9;have h1:0<=a/b:=Int.ediv_nonneg ha (by omega);have h2:a/b<=a:=Int.ediv_le_self _ ha;rw[if_neg (by omega),Int.tdiv_eq_ediv_of_nonneg ha,eY (by omega) (by omega)]
theorem asl{n j:Nat}(hj:j<n)(v:Int)(t:List Int):(List.replicate (n-j) 0++t).set (n-1-j) v=List.replicate (n-(j+1)) 0++(v::t):=by
 have e:n-j=(n-(j+1))+1:=by omega
 have aj:n-1-j=n-(j+1):=by omega
 rw[e,aj,List.replicate_succ',kr,List.set_append_right _ _ (by simp)];simp
theorem asm{s:ad Int}{hz:ad Int}{f:(Int × Int × ad Int)->Option (cU (Int × Int × ad Int) (ad Int))}
  (wV:∀(k:Int) (i:Nat) (t:ad Int) (x:Int),hz.l[i]? =some x->0<=k->k<=1000000->i<t.l.length->1<=jb s.l x->f (k,(i:Int),t)=some (.next (k/jb s.l x,aM ((i:Int)-1),px t (i:Int) (k%jb s.l x))))
  (oH:∀(k:Int) (t:ad Int),f (k,-1,t)=some (.out t)) (hs:qt s.l=true) (hc:ja s.l.length hz.l=true) {d:Int} (h0:0<=d) (h1:d<=1000000) {z:ad Int} (aO:z.l=List.replicate hz.l.length 0):
  ∃o,bZ f (d,(hz.l.length:Int)-1,z)=some o/\o.l=G4 s.l hz.l d:=by
 obtain⟨q1,q2⟩:=GW hc;have p7:hz.l.reverse.length=hz.l.length:=List.length_reverse;refine ac1 (f:=f) (fun j st=>∃t:ad Int,st=(tI s.l (hz.l.reverse.take j) d,(hz.l.length:Int)-1-j,t)/\t.l=List.replicate (hz.l.length-j) 0++(wU s.l (hz.l.reverse.take j) d).reverse) (fun o=>o.l=G4 s.l hz.l d) hz.l.reverse (fun j x st hx U=> ?_) (fun st U=> ?_) ⟨z,by simp[tI],by rw[aO];simp[wU]⟩
 ·obtain⟨t,rfl,ht⟩:=U
  have hj:=fM hx;rw[p7]at hj
  have wW:hz.l[hz.l.length-1-j]? =some x:=by
   rw[List.getElem?_reverse (by omega)]at hx;exact hx
  have G5:=q2 x (gV wW);obtain⟨p1,p2⟩:=Lu hs G5.1 G5.2;have hb:=adh hs (hz.l.reverse.take j) d (fun y hy=>q2 y (List.mem_reverse.1 (DC hy))) h0
  have aA3:t.l.length=hz.l.length:=by
   rw[ht,fD,Bf,List.length_reverse,adg,tV,p7];omega
  have asn:(hz.l.length:Int)-1-j=((hz.l.length-1-j:Nat):Int):=by omega
  have adi:hz.l.reverse.take (j+1)=hz.l.reverse.take j++[x]:=by rw[Bi,hx];rfl
  rw[asn];refine⟨_,wV _ _ t x wW hb.1 (by omega) (by omega) p1,px t ((hz.l.length-1-j:Nat):Int) (tI s.l (hz.l.reverse.take j) d%jb s.l x),?_,?_⟩
  ·rw[adi,ade]
   have:aM (((hz.l.length-1-j:Nat):Int)-1)=(hz.l.length:Int)-1-((j+1:Nat):Int):=by
    rw[eY (by omega) (by omega)];omega
   rw[this]
  ·show t.l.set _ _=_
   rw[ht,HL,asl hj,adi,adf,List.reverse_append];rfl
 ·obtain⟨t,rfl,ht⟩:=U
  rw[p7];have e:(hz.l.length:Int)-1-(hz.l.length:Nat)=-1:=by omega
  rw[e];refine⟨t,oH _ t,?_⟩;rw[ht,p7,<-p7,DJ];simp[G4]
theorem aso (n:Nat)(h:n<=1000000):∃z,zO 8 (0:Int) (n:Int)=some z/\z.l=List.replicate n 0:=by
 unfold zO;rw[if_pos ⟨by omega,by omega⟩];by_cases hn:(n:Int)=0
 ·have:n=0:=by omega
  subst this;exact⟨_,rfl,rfl⟩
 ·rw[if_neg hn]
  exact⟨_,rfl,rfl⟩
def sy (s:List Int)(b:Bool)(c:Int)(t:Table):Bool:=(kq t==b)&&(decide (aM (c-t.dc)>=0)&&decide (aM (c-t.dc)<wid s t.bR.l))
theorem asp{α:Type}{p:α->Bool}{xs:List α}(h:∀x∈xs,p x=false):xs.findIdx? p=none:=by
 rw[List.findIdx?_eq_none_iff];exact h
theorem adj{α:Type}{p:α->Bool}:∀{xs:List α} {k:Nat} {x:α},(∀j y,j<k->xs[j]? =some y->p y=false)->xs[k]? =some x->p x=true->xs.findIdx? p=some k
 |[],k,x,_,hx,_=>by cases hx
 |y::r,0,x,_,hx,hp=>by
  simp only[nz,aA]at hx;subst hx;rw[S3,if_pos hp]
 |y::r,k+1,x,h,hx,hp=>by
  have h0:=h 0 y (by omega) rfl;rw[S3,h0,if_neg (by simp),adj (k:=k) (x:=x) (fun j z hj aO=>h (j+1) z (by omega) (by simpa using aO)) (by simpa using hx) hp];rfl
structure asq (s:List Int) (ts:List Table) (b:Bool) (c:Int) (r:Int × ad Int × Bool):Prop where
 no:(l9 s ts=false\/c<0\/ts.findIdx? (sy s b c)=none)->r=(0,.nil,false)
 yes:∀i t,l9 s ts=true->0<=c->ts.findIdx? (sy s b c)=some i->ts[i]? =some t->r.1=(i:Int)/\r.2.2=true/\r.2.1.l=G4 s t.bR.l (aM (c-t.dc))
theorem asr (s:ad Int)(ts:ad Table)(b:Bool)(c:Int)(h1:b2 s.l)(h2:b2 ts.l)(hc:∀t∈ts.l,b2 t.bR.l):∃r,FJ s ts b c=some r/\asq s.l ts.l b c r:=by
 unfold FJ;rw[RJ s ts h1 h2 hc];simp only[bm];cases af:l9 s.l ts.l with
 |false=>exact⟨_,rfl,⟨fun _=>rfl,fun i t h=>by rw[af]at h;cases h⟩⟩
 |true=>
  simp only[cond_true,bm];by_cases h0:c<0
  ·have hd:decide (c<0)=true:=by simpa using h0
   rw[hd];exact⟨_,rfl,⟨fun _=>rfl,fun i t _ h=>by omega⟩⟩
  ·have hd:decide (c<0)=false:=by simpa using h0
   rw[hd];simp only[cond_false];obtain⟨q1,q2,cd,c2⟩:=GZ af
   obtain⟨o,ab,aj⟩:=GU (f:=FH s ts b c) (fun k st=>st=(k:Int)/\∀j y,j<k->ts.l[j]? =some y->sy s.l b c y=false)
    (fun o=>match o with
      | .go _=>ts.l.findIdx? (sy s.l b c)=none
      | .ret p=>∃(i:Nat) (t:Table),ts.l.findIdx? (sy s.l b c)=some i/\ts.l[i]? =some t/\p.1=(i:Int)/\p.2.l=G4 s.l t.bR.l (aM (c-t.dc))) ts.l (fun k t st hx U=>by
    obtain⟨rfl,l8⟩:=U;have aK:=fM hx;have eQ:=gV hx;have sx:=G0 (c2 t eQ);have hw:=GX cd sx
    have eh:(((CD t).bind fun pC=>(bif (pC==b)then(bif (decide ((aM (c-t.dc))<0))then some true else((uA s t.bR).bind fun wA=>some (decide ((aM (c-t.dc))>=wA))))else some true)):Option Bool)=some (!sy s.l b c t):=by
     rw[Ls,RH s t.bR cd sx];unfold sy;simp only[bm];cases kq t==b with
     |false=>rfl
     |true=>
      simp only[cond_true,fF];by_cases g1:aM (c-t.dc)<0
      ·have a:decide (aM (c-t.dc)<0)=true:=by simpa using g1
       have a2:decide (aM (c-t.dc)>=0)=false:=by simp;omega
       rw[a,a2];rfl
      ·have a:decide (aM (c-t.dc)<0)=false:=by simpa using g1
       have a2:decide (aM (c-t.dc)>=0)=true:=by simp;omega
       rw[a,a2];by_cases g2:aM (c-t.dc)<wid s.l t.bR.l
       ·have b1:decide (aM (c-t.dc)<wid s.l t.bR.l)=true:=by simpa using g2
        have ff:decide (aM (c-t.dc)>=wid s.l t.bR.l)=false:=by simp;omega
        rw[b1,ff];rfl
       ·have b1:decide (aM (c-t.dc)<wid s.l t.bR.l)=false:=by simpa using g2
        have ff:decide (aM (c-t.dc)>=wid s.l t.bR.l)=true:=by simp;omega
        rw[b1,ff];rfl
    have ae:FH s ts b c (k:Int)=bif !sy s.l b c t then some (.next (aM ((k:Int)+1)))else((zO 8 0 t.bR.len).bind fun FI=>((bZ (JT s t) ((aM (c-t.dc)),(aM (FI.len-1)),FI):Option ((ad Int))).bind fun PO=>some (.out (.ret ((k:Int),PO))))):=by
     simp only[FH,gF aK,cond_true,dV,hx,bm];rw[eh];rfl
    rw[ae];cases fY:sy s.l b c t with
    |false=>
     left;refine⟨_,rfl,?_,fun j y hj hy=> ?_⟩
     ·exact eT (by omega)
     ·by_cases e:j=k
      ·subst e;rw[hx]at hy;cases hy;exact fY
      ·exact l8 j y (by omega) hy
    |true=>
     right;simp only[iN,cond_false];have RO:=fY;unfold sy at RO;simp only[cn,decide_eq_true_eq]at RO;obtain⟨fi,hU⟩:=GW sx;obtain⟨z,nN,AZ⟩:=aso t.bR.l.length (by omega);have ass:z.len=(t.bR.l.length:Int):=by rw[ew,AZ,Bf]
     obtain⟨o,g1,g2⟩:=asm (s:=s) (hz:=t.bR) (f:=JT s t) (fun k i RP x wW hk xv hit dk=>by
      have G5:=hU x (gV wW);have Nt:decide ((i:Int)>=0)=true:=by simp
      have ast:RP.l[i]? =some RP.l[i]:=by simp[hit]
      simp only[JT,Nt,cond_true,dV,wW,bm,Lt G5.1 G5.2,asi hk dk,asj hk dk xv,ast]) (fun k RP=>rfl) cd sx RO.2.1 (by omega) AZ
     have asu:aM (z.len-1)=(t.bR.l.length:Int)-1:=by rw[ass,eY (by omega) (by omega)]
     refine⟨.ret ((k:Int),o),?_,k,t,adj l8 hx fY,hx,rfl,g2⟩;have:t.bR.len=((t.bR.l.length:Nat):Int):=rfl;rw[this,nN];simp only[bm];rw[asu,g1];rfl) (fun st U=>by
    obtain⟨rfl,l8⟩:=U;refine⟨.go (),by simp only[FH,hv,cond_false],asp fun x hx=> ?_⟩;obtain⟨j,hj⟩:=pL.1 hx;exact l8 j x (fM hj) hj) (s:=0) ⟨rfl,fun j y hj=>by omega⟩
   cases o with
   |go u=>
    refine⟨_,by rw[ab];rfl,⟨fun _=>rfl,fun i t _ _ hi=> ?_⟩⟩;simp only at aj;rw[aj]at hi;cases hi
   |ret p=>
    obtain⟨i,t,al,a2,a3,a4⟩:=aj;refine⟨_,by rw[ab];rfl,⟨fun h=> ?_,fun Bn ej _ _ hi ht=> ?_⟩⟩
    ·rcases h with h|h|h
     ·rw[af]at h;cases h
     ·omega
     ·rw[al]at h;cases h
    ·rw[al]at hi;cases hi;rw[a2]at ht;cases ht
     exact⟨a3,rfl,a4⟩
end
end Go.Abs.bs
namespace Go.Abs.bs
open Go Go.Abs
noncomputable section
def G6 (n:Int)(xs:List Change)(k:Nat)(c:Change):Bool:=!(decide (c.Cell<=mK Change.Cell xs k))&&(!(decide (c.Cell>=n))&&(!(c.Add==0)&&uT c.Add 1000000000))
def adk (t:Table):Bool:=(t.Kind==2)||(t.Kind==3)
def adl (u:mD)(t:Table):Bool:=bif adk t then((u.Kind==0)||(u.Kind==1))&&(u.Value==0)else(u.Kind==2)&&(decide (u.Value>=t.Range.lb)&&decide (u.Value<=t.Range.lf))
def LF (s:List Int)(ts:List Table)(u:mD):Bool:=bif decide (u.Cell<0)then false else match ts.findIdx? (sy s false u.Cell)with
 |some i=>match ts[i]? with
  |some t=>adl u t
  |none=>false
 |none=>false
def G7 (s:List Int)(ts:List Table)(us:List mD)(k:Nat)(u:mD):Bool:=!(decide (u.Cell<=mK mD.Cell us k))&&LF s ts u
def LG (s:List Int)(ts:List Table)(n:Int)(x:eJ):Bool:=
 allI (G6 n x.Delta.l) x.Delta.l&&(allI (G7 s ts x.ik.l) x.ik.l&&(decide (x.h4.l.length<=8)&&(decide (x.ik.l.length<=32)&&x.h4.l.all (AY n))))
theorem adm{α:Type}{p:α->Bool}:∀{xs:List α} {i:Nat},xs.findIdx? p=some i->∃x,xs[i]? =some x
 |[],i,h=>by cases h
 |y::r,i,h=>by
  rw[S3]at h;split at h
  ·cases h;exact⟨y,rfl⟩
  ·obtain⟨j,hj,rfl⟩:=cj.1 h
   obtain⟨x,hx⟩:=adm hj;exact⟨x,by simpa using hx⟩
theorem asv (j:dR)(u:mD)(h1:b2 j.Model.bE.l)(h2:b2 j.Model.Tables.l)(hc:∀t∈j.Model.Tables.l,b2 t.bR.l)(af:l9 j.Model.bE.l j.Model.Tables.l=true):
  JV j u=some (LF j.Model.bE.l j.Model.Tables.l u):=by
 obtain⟨r,ab,l8,asw⟩:=asr j.Model.bE j.Model.Tables false u.Cell h1 h2 hc;unfold JV LF;rw[ab];simp only[bm];by_cases h0:u.Cell<0
 ·have hd:decide (u.Cell<0)=true:=by simpa using h0
  rw[hd,l8 (.inr (.inl h0))];rfl
 ·have hd:decide (u.Cell<0)=false:=by simpa using h0
  rw[hd];simp only[cond_false];cases hi:j.Model.Tables.l.findIdx? (sy j.Model.bE.l false u.Cell)with
  |none=>rw[l8 (.inr (.inr hi))];rfl
  |some i=>
   obtain⟨t,ht⟩:=adm hi;obtain⟨al,a2,-⟩:=asw i t af (by omega) hi ht;rw[al,a2];simp only[cond_true,dV,ht,bm];unfold adl adk;cases t.Kind==2 with
   |true=>
    simp only[cond_true,bm,Bool.true_or];cases u.Kind==0 with
    |true=>cases u.Kind==1<;>rfl
    |false=>rfl
   |false=>
    simp only[cond_false,bm,tZ];cases t.Kind==3 with
    |true=>
     simp only[cond_true];cases u.Kind==0 with
     |true=>cases u.Kind==1<;>rfl
     |false=>rfl
    |false=>rfl
theorem asx (xs:ad Row)(h:b2 xs.l){f:Row->Option Bool}{p:Row->Bool}(ae:∀x∈xs.l,f x=some (p x)):PQ xs f=some (xs.l.any p):=AX xs h ae
theorem G8{α:Type}(x:ad α)(n:Nat):decide (x.len<=(n:Int))=decide (x.l.length<=n):=decide_eq_decide.2 (by rw[ew];omega)
theorem asy (j:dR)(x:eJ)(h1:b2 j.Model.bE.l)(h2:b2 j.Model.Tables.l)(hc:∀t∈j.Model.Tables.l,b2 t.bR.l)(af:l9 j.Model.bE.l j.Model.Tables.l=true)
  (n2:b2 x.Delta.l) (aT:b2 x.ik.l) (hH:b2 x.h4.l) (U:∀r∈x.h4.l,b2 r.cC.l):
  JX j x=some (LG j.Model.bE.l j.Model.Tables.l j.strict.len x):=by
 unfold JX LG
 rw[AW (f:=FL j x) (fun k s=>s=(mK Change.Cell x.Delta.l k,(k:Int))) (G6 j.strict.len x.Delta.l) x.Delta.l (fun k c s hx bk _=>by
  subst bk;have aK:=fM hx
  have ae:FL j x (mK Change.Cell x.Delta.l k,(k:Int))=bif G6 j.strict.len x.Delta.l k c then some (.next (c.Cell,aM ((k:Int)+1)))else some (.out (.ret ())):=by
   simp only[FL,gF aK,cond_true,dV,hx,bm,Ly c.Add 1000000000 (by omega)];unfold G6;cases decide (c.Cell<=mK Change.Cell x.Delta.l k)with
   |true=>rfl
   |false=>
    cases decide (c.Cell>=j.strict.len)with
    |true=>rfl
    |false=>
     cases c.Add==0 with
     |true=>rfl
     |false=>cases uT c.Add 1000000000<;>rfl
  rw[ae];constructor
  ·intro bh
   rw[bh,eT (by unfold b2 at n2;omega)];exact⟨_,rfl,by rw[Lp Change.Cell hx]⟩
  ·intro bh;rw[bh];rfl) (fun s bk=>by subst bk;simp only[FL,hv,cond_false]) (s:=(-1,0)) rfl]
 cases allI (G6 j.strict.len x.Delta.l) x.Delta.l with
 |false=>rfl
 |true=>
  simp only[cond_true,bm,fF]
  rw[AW (f:=FM j x) (fun k s=>s=(mK mD.Cell x.ik.l k,(k:Int))) (G7 j.Model.bE.l j.Model.Tables.l x.ik.l) x.ik.l (fun k c s hx bk _=>by
   subst bk;have aK:=fM hx
   have ae:FM j x (mK mD.Cell x.ik.l k,(k:Int))=bif G7 j.Model.bE.l j.Model.Tables.l x.ik.l k c then some (.next (c.Cell,aM ((k:Int)+1)))else some (.out (.ret ())):=by
    simp only[FM,gF aK,cond_true,dV,hx,bm,asv j c h1 h2 hc af];unfold G7;cases decide (c.Cell<=mK mD.Cell x.ik.l k)with
    |true=>rfl
    |false=>cases LF j.Model.bE.l j.Model.Tables.l c<;>rfl
   rw[ae];constructor
   ·intro bh
    rw[bh,eT (by unfold b2 at aT;omega)];exact⟨_,rfl,by rw[Lp mD.Cell hx]⟩
   ·intro bh;rw[bh];rfl) (fun s bk=>by subst bk;simp only[FM,hv,cond_false]) (s:=(-1,0)) rfl]
  cases allI (G7 j.Model.bE.l j.Model.Tables.l x.ik.l) x.ik.l with
  |false=>rfl
  |true=>
   simp only[cond_true,bm,fF]
   rw[asx x.h4 hH (f:=fun z0=>JW j z0) (p:=fun r=>!AY j.strict.len r) (fun r hr=>by
    unfold JW;rw[ac8 j r (U r hr)];rfl)]
   have ab:decide (x.h4.len<=8)=decide (x.h4.l.length<=8):=G8 x.h4 8;have aj:decide (x.ik.len<=32)=decide (x.ik.l.length<=32):=G8 x.ik 32;rw[ab,aj,tT];cases decide (x.h4.l.length<=8)with
   |false=>rfl
   |true=>cases decide (x.ik.l.length<=32)<;>rfl
end
end Go.Abs.bs
namespace Go.Abs.bs
open Go Go.Abs
noncomputable section
theorem adn (a b:Int):decide (a<b)=!decide (a>=b):=by
 by_cases q:a<b
 ·rw[decide_eq_true q,decide_eq_false (by omega)];rfl
 ·rw[decide_eq_false q,decide_eq_true (by omega)];rfl
theorem ado (a b:Int):decide (a>b)=!decide (a<=b):=by
 by_cases q:a>b
 ·rw[decide_eq_true q,decide_eq_false (by omega)];rfl
 ·rw[decide_eq_false q,decide_eq_true (by omega)];rfl
theorem mL{α:Type}(x:ad α)(n:Nat):decide (x.len>(n:Int))=!decide (x.l.length<=n):=by
 rw[ado];congr 1;exact decide_eq_decide.2 (by rw[ew];omega)
def G9 (n:Nat)(s:Int):Bool:=decide (s>=-1)&&decide (s<n)
def tJ (n:Nat)(o:et):Bool:=decide (o.bE.l.length<=3)&&o.bE.l.all (G9 n)
def Ha (n:Nat)(ops:List et):Bool:=ops.all (tJ n)&&(decide (ops.length<=8)&&G2 (ops.map et.Name))
theorem asz (j:dR)(h:j.Model.Operations.l.length<=100000)(az:∀o∈j.Model.Operations.l,b2 o.bE.l):JS j=some (Ha j.Model.bE.l.length j.Model.Operations.l):=by
 unfold JS Ha
 obtain⟨o,ab,aj⟩:=GU (f:=FD j) (fun k st=>∃a:ad cf,st=((k:Int),a)/\a.l=(j.Model.Operations.l.take k).map et.Name/\(j.Model.Operations.l.take k).all (tJ j.Model.bE.l.length)=true)
  (fun o=>match o with
    | .go a=>j.Model.Operations.l.all (tJ j.Model.bE.l.length)=true/\a.l=j.Model.Operations.l.map et.Name
    | .ret _=>j.Model.Operations.l.all (tJ j.Model.bE.l.length)=false) j.Model.Operations.l (fun k o st hx U=>by
    obtain⟨a,rfl,ha,eP⟩:=U;have aK:=fM hx;have eQ:=gV hx;have lS:a.l.length<=100000:=by rw[ha,ef,tV];omega
    obtain⟨y,pe,AA⟩:=Dh (jJ:=16) (x:=a) (y:=ad.mk [o.Name]) (by omega) (by show a.l.length+1<=_;omega)
    have oI:=RG o.bE (az o eQ) (f:=fun z0=>JR j z0) (p:=fun s=>!G9 j.Model.bE.l.length s) (fun s hs=>by
     unfold JR G9;rw[ew,adn,show decide (s>=(j.Model.bE.l.length:Int))=!decide (s<(j.Model.bE.l.length:Int))from by rw[adn];simp];cases decide (s>=-1)<;>cases decide (s<(j.Model.bE.l.length:Int))<;>rfl)
    have ae:FD j ((k:Int),a)=bif tJ j.Model.bE.l.length o then some (.next ((aM ((k:Int)+1)),y))else some (.out (.ret ())):=by
     simp only[FD,gF aK,cond_true,dV,hx,bm,pe,oI];rw[show decide (o.bE.len>3)=!decide (o.bE.l.length<=3)from mL o.bE 3];unfold tJ;rw[tT];cases decide (o.bE.l.length<=3)with
     |false=>rfl
     |true=>cases o.bE.l.any (fun s=>!G9 j.Model.bE.l.length s)<;>rfl
    rw[ae];cases dm:tJ j.Model.bE.l.length o with
    |true=>
     left;refine⟨_,rfl,y,by rw[eT (by omega)],?_,?_⟩
     ·rw[AA,ha,Bi,hx];simp[ad.l]
     ·rw[Bi,hx];simp[List.all_append,dm];simpa using eP
    |false=>
     refine .inr ⟨.ret (),rfl,?_⟩;show List.all _ _=false;rw[List.all_eq_false];exact⟨o,eQ,by rw[dm];simp⟩) (fun st U=>by
    obtain⟨a,rfl,ha,eP⟩:=U;rw[DJ]at ha eP;exact⟨.go a,by simp only[FD,hv,cond_false],eP,ha⟩) (s:=(0,.nil)) ⟨.nil,rfl,rfl,rfl⟩
 rw[ab];simp only[bm];cases o with
 |ret u=>simp only at aj;rw[aj];rfl
 |go a=>
  obtain⟨q1,q2⟩:=aj;have lS:a.l.length=j.Model.Operations.l.length:=by rw[q2,ef]
  simp only[];rw[q1,ac9 a (by unfold b2;omega),q2];simp only[bm,fF];rw[show decide (a.len<=8)=decide (a.l.length<=8)from G8 a 8,lS];cases decide (j.Model.Operations.l.length<=8)<;>rfl
def rr:List Int->List Int->Bool
 |[],[]=>false
 |[],_::_=>true
 | _::_,[]=>false
 |x::r,y::t=>bif x==y then rr r t else decide (x<y)
theorem asA (l:List Int):rr [] l=decide (0<l.length):=by cases l<;>simp[rr]
theorem asB (l:List Int):rr l []=false:=by cases l<;>rfl
theorem asC{a b:List Int}{k:Nat}{x y:Int}(hx:a[k]? =some x)(hy:b[k]? =some y):rr (a.drop k) (b.drop k)=bif x==y then rr (a.drop (k+1)) (b.drop (k+1))else decide (x<y):=by
 obtain⟨h1,ab⟩:=e0.1 hx;obtain⟨h2,aj⟩:=e0.1 hy;rw[pK h1,pK h2,ab,aj];rfl
theorem asD (x y:Int):cmp_Compare_int x y=some (if x<y then -1 else if x>y then 1 else 0):=by
 unfold cmp_Compare_int cmp_isNaN_int;simp only[bne_self_eq_false,bm,cond_false];by_cases h:x<y
 ·simp[h]
 ·by_cases h2:x>y<;>simp[h,h2]
theorem asE (a b:ad Int)(h:b2 a.l):∃c,FG a b=some c/\decide (c>=0)=!rr a.l b.l:=by
 unfold FG
 obtain⟨o,ab,aj⟩:=GU (f:=CK a b) (fun k st=>st=(k:Int)/\k<=b.l.length/\rr a.l b.l=rr (a.l.drop k) (b.l.drop k))
  (fun o=>match o with
    | .go _=>rr a.l b.l=decide (a.len<b.len)
    | .ret c=>decide (c>=0)=!rr a.l b.l) a.l (fun k x st hx U=>by
    obtain⟨rfl,hk,r8⟩:=U;have aK:=fM hx;by_cases IQ:k<b.l.length
    ·have hy:b.l[k]? =some b.l[k]:=by simp[IQ]
     have hd:decide ((k:Int)>=b.len)=false:=by rw[ew];simp;omega
     have ae:CK a b (k:Int)=(bif ((if x<b.l[k]then -1 else if x>b.l[k]then 1 else 0:Int) != 0)then some (.out (.ret (if x<b.l[k]then -1 else if x>b.l[k]then 1 else 0)))else some (.next (aM ((k:Int)+1)))):=by
      simp only[CK,gF aK,cond_true,dV,hx,bm,hd,cond_false,hy,asD]
     rw[ae];rw[asC hx hy]at r8;by_cases Eh:x=b.l[k]
     ·left
      have q:(x==b.l[k])=true:=by simpa using Eh
      rw[q]at r8;refine⟨((k+1:Nat):Int),?_,rfl,by omega,r8⟩;rw[<-Eh];simp only[Int.lt_irrefl,if_false,gt_iff_lt];rw[eT (by unfold b2 at h;omega)];rfl
     ·right
      have q:(x==b.l[k])=false:=by simpa using Eh
      rw[q]at r8;simp only[cond_false]at r8;by_cases hl:x<b.l[k]
      ·refine⟨.ret (-1),by rw[if_pos hl];rfl,?_⟩
       show decide ((-1:Int)>=0)=_;rw[r8,decide_eq_true hl];rfl
      ·have a6:x>b.l[k]:=by omega
       refine⟨.ret 1,by rw[if_neg hl,if_pos a6];rfl,?_⟩;show decide ((1:Int)>=0)=_;rw[r8,decide_eq_false hl];rfl
    ·right
     have hd:decide ((k:Int)>=b.len)=true:=by rw[ew];simp;omega
     refine⟨.ret 1,by simp only[CK,gF aK,cond_true,dV,hx,bm,hd],?_⟩;show decide ((1:Int)>=0)=_;rw[r8,u1 (Nat.le_of_not_lt IQ),asB];rfl) (fun st U=>by
    obtain⟨rfl,hk,r8⟩:=U;refine⟨.go (),by simp only[CK,hv,cond_false],?_⟩;show _=_;rw[r8,u1 (aF _),asA,qv];exact decide_eq_decide.2 (by rw[ew,ew];omega)) (s:=0) ⟨rfl,by omega,rfl⟩
 rw[ab];simp only[bm];cases o with
 |ret c=>exact⟨c,rfl,aj⟩
 |go u=>
  simp only at aj⊢;rw[aj];cases decide (a.len<b.len)with
  |true=>exact⟨-1,rfl,rfl⟩
  |false=>exact⟨0,rfl,rfl⟩
end
end Go.Abs.bs
namespace Go.Abs.bs
open Go Go.Abs
noncomputable section
def A0 (s:List Int)(args:List Int)(k:Nat)(mM:Int):Bool:=bif decide (mM<0)then uT (args.getD k 0) 9999 else decide (args.getD k 0>=0)&&decide (args.getD k 0<jb s mM)
def LH (wX:List Action)(k:Nat)(a:Action):Bool:=match k with
 |0=>true
 |k+1=>match wX[k]? with
  |some b=>!(decide (b.et>a.et))&&(bif b.et==a.et then rr b.gE.l a.gE.l else true)
  |none=>true
def Hb (s:List Int)(ts:List Table)(n:Int)(ops:List et)(wX:List Action)(k:Nat)(a:Action):Bool:=
 (decide (a.et>=0)&&decide (a.et<ops.length))&&match ops[a.et.toNat]? with
   |some o=>(a.gE.l.length==o.bE.l.length)&&(allI (A0 s a.gE.l) o.bE.l&&(LH wX k a&&LG s ts n a.eJ))
   |none=>false
def LI (s:List Int)(ts:List Table)(n:Int)(ops:List et)(wX:List Action):Bool:=decide (wX.length<=256)&&allI (Hb s ts n ops wX) wX
structure adp (x:eJ):Prop where
 d:b2 x.Delta.l
 u:b2 x.ik.l
 h:b2 x.h4.l
 r:∀r∈x.h4.l,b2 r.cC.l
theorem asF{α β:Type}(x:ad α)(y:ad β):(x.len != y.len)=!(x.l.length==y.l.length):=by
 unfold bne;congr 1;rw[ew,ew,xb];simp;omega
theorem A1{α:Type}{l:List α}{i:Int}(h:0<=i):bj l i=l[i.toNat]? :=by simp[bj,h]
theorem asG{s:List Int}{o:et}{a:Action}{f:Int->Option (cU Int (cz Unit Unit))}(hl:b2 o.bE.l)
  (ae:∀(k:Nat) (mM:Int),o.bE.l[k]? =some mM->f (k:Int)=bif A0 s a.gE.l k mM then some (.next (aM ((k:Int)+1)))else some (.out (.ret ()))) (he:f (o.bE.l.length:Int)=some (.out (.go ()))):
  bZ f 0=some (bif allI (A0 s a.gE.l) o.bE.l then .go ()else .ret ()):=
 AW (f:=f) (fun k s=>s=(k:Int)) (A0 s a.gE.l) o.bE.l (fun k mM st hx bk _=>by
  subst bk;rw[ae k mM hx];constructor
  ·intro bh
   rw[bh,eT (by have:=fM hx;unfold b2 at hl;omega)];exact⟨_,rfl,rfl⟩
  ·intro bh;rw[bh];rfl) (fun st bk=>by subst bk;exact he) (s:=0) rfl
theorem RQ{l:List Int}{k:Nat}{x:Int}(h:l[k]? =some x):l.getD k 0=x:=by simp[iL,h]
theorem asH{n:Nat}{o:et}(h:tJ n o=true){mM:Int}(hs:mM∈o.bE.l):-1<=mM/\mM<n:=by
 unfold tJ at h;simp only[cn,eU]at h;have:=h.2 mM hs;unfold G9 at this;simp only[cn,decide_eq_true_eq]at this;exact⟨by omega,this.2⟩
theorem asI{j:dR}{o:et}{a:Action}(ho:tJ j.Model.bE.l.length o=true)(hl:b2 o.bE.l)(hlen:a.gE.l.length=o.bE.l.length):
  bZ (JZ j a o) 0=some (bif allI (A0 j.Model.bE.l a.gE.l) o.bE.l then .go ()else .ret ()):=
 asG hl (fun k mM hx=>by
  have aK:=fM hx;have hy:a.gE.l[k]? =some a.gE.l[k]:=by simp[hlen,aK]
  obtain⟨q1,q2⟩:=asH ho (gV hx);simp only[JZ,gF aK,cond_true,dV,hx,hy,bm,Ly _ 9999 (by omega),nn];unfold A0;rw[RQ hy];by_cases h0:mM<0
  ·have d0:decide (mM<0)=true:=by simpa using h0
   have d1:decide (mM>=0)=false:=by simp;omega
   rw[d0,d1];simp only[cond_true,cond_false];cases uT a.gE.l[k] 9999<;>rfl
  ·have d0:decide (mM<0)=false:=by simpa using h0
   have d1:decide (mM>=0)=true:=by simp;omega
   rw[d0,d1,Lt (by omega) q2];simp only[cond_true,cond_false,bm];cases(decide (a.gE.l[k]>=0)&&decide (a.gE.l[k]<jb j.Model.bE.l mM))<;>rfl) (by simp only[JZ,hv,cond_false])
theorem asJ (j:dR)(h1:b2 j.Model.bE.l)(h2:b2 j.Model.Tables.l)(hc:∀t∈j.Model.Tables.l,b2 t.bR.l)(af:l9 j.Model.bE.l j.Model.Tables.l=true)
  (ho:∀o∈j.Model.Operations.l,tJ j.Model.bE.l.length o=true) (asK:∀o∈j.Model.Operations.l,b2 o.bE.l) (c7:∀a∈j.Model.Actions.l,adp a.eJ) (hA:∀a∈j.Model.Actions.l,b2 a.gE.l) (ee:b2 j.Model.Actions.l):
  J1 j=some (LI j.Model.bE.l j.Model.Tables.l j.strict.len j.Model.Operations.l j.Model.Actions.l):=by
 unfold J1 LI;rw[show decide (j.Model.Actions.len>256)=!decide (j.Model.Actions.l.length<=256)from mL j.Model.Actions 256];cases decide (j.Model.Actions.l.length<=256)with
 |false=>rfl
 |true=>
  simp only[iN,cond_false,fF]
  rw[AW (f:=FR j) (fun k s=>s=(k:Int)) (Hb j.Model.bE.l j.Model.Tables.l j.strict.len j.Model.Operations.l j.Model.Actions.l) j.Model.Actions.l (fun k a st hx bk _=>by
   subst bk;have aK:=fM hx;have eQ:=gV hx
   have ae:FR j (k:Int)=bif Hb j.Model.bE.l j.Model.Tables.l j.strict.len j.Model.Operations.l j.Model.Actions.l k a then some (.next (aM ((k:Int)+1)))else some (.out (.ret ())):=by
    simp only[FR,gF aK,cond_true,dV,hx,bm,nn];unfold Hb;have rR:decide (a.et<j.Model.Operations.len)=decide (a.et<(j.Model.Operations.l.length:Int)):=rfl;rw[rR];cases hin:(decide (a.et>=0)&&decide (a.et<(j.Model.Operations.l.length:Int)))with
    |false=>rfl
    |true=>
     simp only[cn,decide_eq_true_eq]at hin;have iQ:a.et.toNat<j.Model.Operations.l.length:=by omega
     have dm:j.Model.Operations.l[a.et.toNat]? =some j.Model.Operations.l[a.et.toNat]:=by simp[iQ]
     have adq:=gV dm;simp only[cond_true,A1 hin.1,dm,bm,asF,fF];cases hlen:a.gE.l.length==(j.Model.Operations.l[a.et.toNat]).bE.l.length with
     |false=>rfl
     |true=>
      simp only[iN,cond_false,fF];rw[asI (ho _ adq) (asK _ adq) (by simpa using hlen)];simp only[bm];cases allI (A0 j.Model.bE.l a.gE.l) (j.Model.Operations.l[a.et.toNat]).bE.l with
      |false=>rfl
      |true=>
       simp only[cond_true,fF];have qe:=c7 a eQ;rw[asy j a.eJ h1 h2 hc af qe.d qe.u qe.h qe.r]
       have oG:((bif (decide ((k:Int)>0))then((bj j.Model.Actions.l (aM ((k:Int)-1))).bind fun xU=>(((bif (decide (xU.et>a.et))then some true else(bif (xU.et==a.et)then((FG xU.gE a.gE).bind fun FT=>some (decide (FT>=0)))else some false)):Option (Bool)).bind fun PS=>(bif PS then some (.ret ())else some (.go ()))))else some (.go ())):Option (cz (Unit) (Unit)))=some (bif LH j.Model.Actions.l k a then .go ()else .ret ()):=by
        cases k with
        |zero=>rfl
        |succ k=>
         have hk:k<j.Model.Actions.l.length:=by omega
         have aO:j.Model.Actions.l[k]? =some j.Model.Actions.l[k]:=by simp[hk]
         have asL:decide ((((k+1:Nat)):Int)>0)=true:=decide_eq_true (by omega);have hw:aM (((k+1:Nat):Int)-1)=(k:Int):=ar5 (by unfold b2 at ee;omega);obtain⟨c,D4,asM⟩:=asE j.Model.Actions.l[k].gE a.gE (hA _ (Mq hk));rw[asL,hw];unfold LH;simp only[cond_true,dV,aO,bm,D4,asM];cases decide (j.Model.Actions.l[k].et>a.et)with
         |true=>rfl
         |false=>
          cases j.Model.Actions.l[k].et==a.et with
          |false=>rfl
          |true=>cases rr j.Model.Actions.l[k].gE.l a.gE.l<;>rfl
       rw[oG];simp only[bm];cases LH j.Model.Actions.l k a with
       |false=>rfl
       |true=>cases LG j.Model.bE.l j.Model.Tables.l j.strict.len a.eJ<;>rfl
   rw[ae];constructor
   ·intro bh
    rw[bh,eT (by unfold b2 at ee;omega)];exact⟨_,rfl,rfl⟩
   ·intro bh;rw[bh];rfl) (fun st bk=>by subst bk;simp only[FR,hv,cond_false]) (s:=0) rfl]
  cases allI (Hb j.Model.bE.l j.Model.Tables.l j.strict.len j.Model.Operations.l j.Model.Actions.l) j.Model.Actions.l<;>rfl
end
end Go.Abs.bs
namespace Go.Abs.bs
open Go Go.Abs
noncomputable section
end
end Go.Abs.bs
namespace Go.Abs.bs
open Go Go.Abs
noncomputable section
theorem asN{ts:ad Table}{h:gi}:(((nn h.Table ts.len).bind fun oQ=>(bif oQ then((nn h.c5 ts.len).bind fun j5=>(bif j5 then some (h.Table==h.c5)else some true))else some true)):Option Bool)=some (!((decide (h.Table>=0)&&decide (h.Table<ts.l.length))&&((decide (h.c5>=0)&&decide (h.c5<ts.l.length))&&!(h.Table==h.c5)))):=by
 unfold nn;rw[ew];cases(decide (h.Table>=0)&&decide (h.Table<(ts.l.length:Int)))with
 |false=>rfl
 |true=>
  cases(decide (h.c5>=0)&&decide (h.c5<(ts.l.length:Int)))with
  |false=>rfl
  |true=>cases h.Table==h.c5<;>rfl
theorem asO (j:dR){k:Nat}{h:gi}(hx:j.Model.b9.l[k]? =some h):AR j (k:Int)=some (bif !wq j.Model.Tables.l h then .out (.ret ())else .next (aM ((k:Int)+1))):=by
 simp only[AR,gF (fM hx),cond_true,dV,hx,bm];rw[asN];unfold wq;cases a:(decide (h.Table>=0)&&decide (h.Table<(j.Model.Tables.l.length:Int)))with
 |false=>rfl
 |true=>
  cases b:(decide (h.c5>=0)&&decide (h.c5<(j.Model.Tables.l.length:Int)))with
  |false=>rfl
  |true=>
   cases h.Table==h.c5 with
   |true=>rfl
   |false=>
    simp only[cn,decide_eq_true_eq]at a b;have dj:h.Table.toNat<j.Model.Tables.l.length:=by omega
    have eG:h.c5.toNat<j.Model.Tables.l.length:=by omega
    have g1:j.Model.Tables.l[h.Table.toNat]? =some j.Model.Tables.l[h.Table.toNat]:=by simp[dj]
    have g2:j.Model.Tables.l[h.c5.toNat]? =some j.Model.Tables.l[h.c5.toNat]:=by simp[eG]
    simp only[xc,Bl,fF,iN,bm,cond_false,A1 a.1,A1 b.1,g1,g2,bne,nn];cases j.Model.Tables.l[h.Table.toNat].Kind==0 with
    |false=>rfl
    |true=>
     cases j.Model.Tables.l[h.c5.toNat].Kind==0 with
     |false=>rfl
     |true=>
      rw[ew j.Model.Tables.l[h.Table.toNat].bR,show(j.Model.Tables.l[h.c5.toNat].bR.len==1)=(j.Model.Tables.l[h.c5.toNat].bR.l.length==1)from LC _ 1];cases d:(decide (h.iF>=0)&&decide (h.iF<(j.Model.Tables.l[h.Table.toNat].bR.l.length:Int)))with
      |false=>rfl
      |true=>
       cases d3:j.Model.Tables.l[h.c5.toNat].bR.l.length==1 with
       |false=>rfl
       |true=>
        simp only[cn,decide_eq_true_eq]at d;have bC:j.Model.Tables.l[h.c5.toNat].bR.l.length=1:=by simpa using d3
        have f1:h.iF.toNat<j.Model.Tables.l[h.Table.toNat].bR.l.length:=by omega
        have b6:j.Model.Tables.l[h.Table.toNat].bR.l[h.iF.toNat]? =some j.Model.Tables.l[h.Table.toNat].bR.l[h.iF.toNat]:=by simp[f1]
        have f2:0<j.Model.Tables.l[h.c5.toNat].bR.l.length:=by omega
        have dI:j.Model.Tables.l[h.c5.toNat].bR.l[0]? =some j.Model.Tables.l[h.c5.toNat].bR.l[0]:=by simp[f2]
        simp only[iN,xc,cond_true,cond_false,A1 d.1,RE,b6,dI,bm,fF,RQ b6,RQ dI];cases j.Model.Tables.l[h.c5.toNat].bR.l[0]==j.Model.Tables.l[h.Table.toNat].bR.l[h.iF.toNat]<;>rfl
theorem asP (j:dR):Lm j=some (decide (j.Model.b9.l.length<=12)&&j.Model.b9.l.all (wq j.Model.Tables.l)):=by
 unfold Lm;rw[show decide (j.Model.b9.len>12)=!decide (j.Model.b9.l.length<=12)from mL j.Model.b9 12];cases h:decide (j.Model.b9.l.length<=12)with
 |false=>rfl
 |true=>
  have hl:j.Model.b9.l.length<=12:=by simpa using h
  simp only[iN,cond_false,fF];rw[rp (f:=AR j) j.Model.b9.l (by omega) (fun h=>!wq j.Model.Tables.l h) (fun k h hx=>asO j hx) (by simp only[AR,hv,cond_false])];rw[tT];cases j.Model.b9.l.any (fun h=>!wq j.Model.Tables.l h)<;>rfl
def cb (ks:List Int):List (Int × Bool):=ks.map fun t=>(t,true)
def yf (ks:List Int)(t:Int):List Int:=if t∈ks then ks else ks++[t]
theorem adr (t:Int):∀ks,lF (cb ks) t true=cb (yf ks t)
 |[]=>rfl
 |k::ks=>by
  have ih:=adr t ks;unfold cb yf at*;simp only[de,lF];by_cases e:t=k
  ·subst e;simp
  ·have ab:(t==k)=false:=by simp[e]
   rw[ab];simp only[fE,if_false,ih,dp,e,false_or];by_cases h:t∈ks<;>simp[h]
theorem ads (t:Int):∀ks,(ie (cb ks) t).getD false=decide (t∈ks)
 |[]=>rfl
 |k::ks=>by
  have ih:=ads t ks;unfold cb ie at*;simp only[de,HS];by_cases e:t=k
  ·subst e;simp
  ·have ab:(t==k)=false:=by simp[e]
   rw[ab];simp only[ih,dp,e,false_or]
theorem RR (t:Int):∀ks,je 0 (aI t) (gC aI V.bool (cb ks))=gC aI V.bool (cb (ks.erase t))
 |[]=>rfl
 |k::ks=>by
  have ih:=RR t ks;simp only[cb,gC]at ih⊢;simp only[de,je,Fb,aA,beq_iff_eq,List.erase_cons];by_cases e:t=k
  ·subst e;simp
  ·rw[if_neg e,if_neg (fun h=>e h.symm),ih];rfl
theorem asQ{ks:List Int}(h:ks.Nodup)(t:Int):(yf ks t).Nodup:=by
 unfold yf;split
 ·exact h
 ·rename_i hn
  exact tU.2 ⟨h,by simp,fun x hx y hy=>by
   simp only[dp,rE,or_false]at hy;subst hy;exact fun q=>hn (q ▸ hx)⟩
theorem asR{ks:List Int}{t x:Int}:x∈yf ks t↔x∈ks\/x=t:=by
 unfold yf;split
 ·rename_i h;exact⟨.inl,fun q=>q.elim id fun e=>e ▸ h⟩
 ·simp
def yg (hs:List gi)(ks:List Int):List Int:=hs.foldl (fun ks h=>yf ks h.Table) ks
theorem adt:∀(hs:List gi) {ks:List Int},ks.Nodup->(yg hs ks).Nodup
 |[],_,h=>h
 | _::hs,_,h=>adt hs (asQ h _)
theorem adu:∀(hs:List gi) {ks:List Int} {t:Int},t∈yg hs ks↔t∈ks\/∃h∈hs,h.Table=t
 |[],ks,t=>by simp[yg]
 |h::hs,ks,t=>by
  have:=adu hs (ks:=yf ks h.Table) (t:=t);unfold yg at this⊢;rw[ot,this,asR];simp only[dp,exists_eq_or_imp,or_assoc,eq_comm (a:=t)]
theorem asS (j:dR)(hl:j.Model.b9.l.length<=12):bZ (AU j) (0,[])=some (cb (yg j.Model.b9.l [])):=by
 have key:∀(n k:Nat) (ks:List Int),k+n=j.Model.b9.l.length->bZ (AU j) ((k:Int),cb ks)=some (cb (yg (j.Model.b9.l.drop k) ks)):=by
  intro n
  induction n with
  |zero=>
   intro k ks hk;have e:k=j.Model.b9.l.length:=by omega
   rw[fK];subst e;simp only[AU,hv,cond_false,List.drop_length];rfl
  |succ n ih=>
   intro k ks hk;have aK:k<j.Model.b9.l.length:=by omega
   have hx:j.Model.b9.l[k]? =some j.Model.b9.l[k]:=by simp[aK]
   rw[fK];simp only[AU,gF aK,cond_true,dV,hx,bm,adr];rw[eT (by omega),ih (k+1) _ (by omega),pK aK];rfl
 exact key j.Model.b9.l.length 0 [] (by omega)
theorem asT (j:dR)(hl:j.Model.b9.l.length<=12)(t:Int)(ks:List Int):
  Fl j.Model.b9 (fun h=>some ((h.Table==t)&&(ie (cb ks) h.c5).getD false))=some (j.Model.b9.l.any fun h=>(h.Table==t)&&decide (h.c5∈ks)):=by
 exact AX j.Model.b9 (by omega) (fun h _=>by rw[ads])
end
end Go.Abs.bs
namespace Go.Abs.bs
open Go Go.Abs
noncomputable section
structure ru (hs:List gi) (ks:List Int) (d:List V) (k:List Int):Prop where
 db:k.Nodup
 sub:∀t∈k,t∈ks
 next:∀t∈k,aI t∈d->∃h∈hs,h.Table=t/\h.c5∈ks
 ek:∀K:Int->Prop,(∀t,K t->t∈ks)->(∀t,K t->∃h∈hs,h.Table=t/\K h.c5)->∀t,K t->t∈k
theorem ru.start{hs:List gi}{ks:List Int}(h:ks.Nodup):ru hs ks [] ks:=⟨h,fun _ h=>h,fun t _ h=>(by cases h),fun _ h _=>h⟩
theorem ru.stay{hs:List gi}{ks k:List Int}{d:List V}(h:ru hs ks d k){t:Int}(bg:(hs.any fun h=>(h.Table==t)&&decide (h.c5∈k))=true):ru hs ks (d++[aI t]) k:=by
 refine⟨h.db,h.sub,fun u hu hd=> ?_,h.ek⟩;rcases jc.1 hd with hd|hd
 ·exact h.next u hu hd
 ·simp only[dp,rE,or_false,V.int.injEq,true_and]at hd
  subst hd;obtain⟨x,hx,h1⟩:=rD.1 bg;simp only[cn,beq_iff_eq,decide_eq_true_eq]at h1;exact⟨x,hx,h1.1,h.sub _ h1.2⟩
theorem ru.gone{hs:List gi}{ks k:List Int}{d:List V}(h:ru hs ks d k){t:Int}(bg:(hs.any fun h=>(h.Table==t)&&decide (h.c5∈k))=false):ru hs ks (d++[aI t]) (k.erase t):=by
 refine⟨h.db.erase t,fun u hu=>h.sub u (List.mem_of_mem_erase hu),fun u hu hd=> ?_,fun K h1 h2 u hu=> ?_⟩
 ·have RS:u≠t:=fun e=>by subst e;exact(List.Nodup.not_mem_erase h.db) hu
  rcases jc.1 hd with hd|hd
  ·exact h.next u (List.mem_of_mem_erase hu) hd
  ·simp only[dp,rE,or_false,V.int.injEq,true_and]at hd
   exact absurd hd RS
 ·have hk:=h.ek K h1 h2
  have RS:u≠t:=fun e=>by
   subst e;obtain⟨x,hx,ab,aj⟩:=h2 u hu;have:=S5.1 bg x hx;simp[ab,hk _ aj]at this
  exact(List.mem_erase_of_ne RS).2 (hk u hu)
theorem ru.fin{hs:List gi}{ks k:List Int}{d:List V}(h:ru hs ks d k)(ha:∀t∈k,aI t∈d):Rd hs ks k:=⟨h.sub,h.db,fun t ht=>h.next t ht (ha t ht),h.ek⟩
variable{C:Ctx}{fid:Nat->Nat}{vars:List Nat}{N:Nat}{aa:Nat->Option bV}
structure tK (j:dR) (al eX l:Nat) (ts:List Nat) (vs:List V) (ks:List Int) (b:Nat) (s:av):Prop where
 aC:s.aC=[]
 ro:s.ro=none
 ok:∃σ,Fits s.au σ/\At σ (1::7::ts) (.ptr al 0::.ptr eX 0::vs)
 own:Own s.H [[(eX,.cells [.map l])],[(l,.map (gC aI V.bool (cb ks)))],[(al,.cells (j9 j))]]
 len:b<=s.H.length
theorem Dl{s:av}(h1:s.aC=[])(h2:s.ro=none):s=⟨[],s.au,s.H,s.low,none⟩:=by cases s;simp_all
theorem asU (tH:aa 92=some (.code Db))(oI:AM aa){j:dR}(hl:j.Model.b9.l.length<=12){al eX l li:Nat}{ts:List Nat}{vs:List V}{ks k:List Int}{d:List V}{s:av}(ht:∀t∈ts,t≠10/\t≠122/\t≠130)(aA4:l<li)
  (hs:tK j al eX l (120::ts) (.ptr li 0::vs) k (li+1) s) (hp:ru j.Model.b9.l ks d k) {kv:V × V} (jE:kv∈gC aI V.bool (cb k)):
  Rn U n2 aa l li (gC aI V.bool (cb k)) kv s fun bK ao=>∃bz,bK=gC aI V.bool (cb bz)/\tK j al eX l (120::ts) (.ptr li 0::vs) bz (li+1) ao/\ru j.Model.b9.l ks (d++[kv.1]) bz:=by
 obtain⟨t,Hd,rfl⟩:∃t∈k,kv=(aI t,.bool true):=by
  unfold gC cb at jE;rw[kR]at jE;obtain⟨t,h1,h2⟩:=dX.1 jE;exact⟨t,h1,h2.symm⟩
 obtain⟨He,Hf,⟨σ,ae,iA⟩,aw,hlen⟩:=hs;rw[Dl He Hf];have g1:σ 1=.ptr al 0:=(eO iA).1;have g7:σ 7=.ptr eX 0:=(eO (eO iA).2).1;have RT:σ 120=.ptr li 0:=(eO (eO (eO iA).2).2).1;have RU:ts.map σ=vs:=(eO (eO (eO iA).2).2).2
 obtain⟨Cs,H2,dB,jH,q1,q2,cd,c2,oi,fi,hU,nU⟩:=ard (aa:=aa) (R:=U) (b:=li+1) (kv:=(aI t,.bool true)) (σ:=σ) (H:=s.H) (li:=li) (low:=s.low)
  (Q:=fun aS H'=>∃oi,aS 10=.ptr oi 0/\(∀x,x≠10->x≠122->aS x=σ x)/\Own H' [[(oi,.cells [aI t])],[(eX,.cells [.map l])],[(l,.map (gC aI V.bool (cb k)))],[(al,.cells (j9 j))]])
  RT (pp (.bool true) <| gB ⟨rfl,by
   show up σ 122 (.bool true) 120=_
   rw[jG _ _ (by decide)];exact RT,pp (aI t) <| zP rfl aw fun H' oi hb lI=>zQ (vs:=[aI t]) (cs':=[aI t]) rfl lI 0 rfl hb rfl rfl ⟨rfl,aF _⟩ (by simp[bM]) rfl fun HX asV=>gB ⟨oi,rfl,fun x hx acH=>by
    show up (up σ 122 (.bool true)) 10 (.ptr oi 0) x=_;rw[jG _ _ hx,jG _ _ acH],asV⟩⟩) ae hlen
 have asW:=asT j hl t k
 obtain⟨gA,yh,tF,LJ,tL,bB,b4,eI,gM,rfl,rfl,rfl⟩:=arQ (aa:=aa) (b:=li+1) (σ:=jH) (H:=H2) tH oI (ts:=[]) (vs:=[]) nU (by
  show[jH 1,jH 7,jH 10]=_;rw[hU 1 (by decide) (by decide),hU 7 (by decide) (by decide),fi,g1,g7]) asW Cs dB q2 cd c2
 refine⟨_,_,q1,bB,eI,?_⟩
 have wY:∀(aS:bN),(∀x,x≠10->x≠122->x≠130->aS x=σ x)->At aS (1::7::120::ts) (.ptr al 0::.ptr eX 0::.ptr li 0::vs):=fun aS h=>by
  show _::_::_::List.map aS ts=_;rw[h 1 (by decide) (by decide) (by decide),h 7 (by decide) (by decide) (by decide),h 120 (by decide) (by decide) (by decide),g1,g7,RT,<-RU];congr 3;exact pN fun x hx=>h x (ht x hx).1 (ht x hx).2.1 (ht x hx).2.2
 have BZ:(bA yh 130)=.bool (!(j.Model.b9.l.any fun h=>(h.Table==t)&&decide (h.c5∈k))):=by rw[b4,v8]
 cases hc:(j.Model.b9.l.any fun h=>(h.Table==t)&&decide (h.c5∈k))with
 |true=>
  refine .inl ⟨?_,k,rfl,⟨rfl,rfl,⟨_,b4,wY _ fun x h1 h2 ar=> ?_⟩,nU.drop 0,c2⟩,hp.stay hc⟩
  ·show bA yh 130=_
   rw[BZ,hc];rfl
  ·rw[jG _ _ ar,hU x h1 h2]
 |false=>
  have oa:bA yh 7=.ptr eX 0:=by rw[b4,jG _ _ (by decide),hU 7 (by decide) (by decide),g7]
  have asX:bA yh 10=.ptr oi 0:=by rw[b4,jG _ _ (by decide),fi]
  have f7:=nU.get 1 rfl;have f10:=nU.get 0 rfl;have aY:=nU.get 2 rfl
  have hex:cY (bY aa) Ln ⟨[],yh,tF,LJ,none⟩ []=some (⟨[(132,aI t),(131,.map l)],yh,tF,min (min LJ tF.length) tF.length,none⟩,[false,false]):=by
   simp[Ln,cY,gu,nY,jR,iw,ai.ag,oa,asX,f7,f10,av.put,lD]
  refine .inr ⟨?_,_,_,_,hex,by show li<min (min LJ tF.length) tF.length;omega,rfl,Fc (gD:=V.bool) Fb t (cb k),k.erase t,RR t k,⟨rfl,rfl,⟨_,b4,wY _ fun x h1 h2 ar=> ?_⟩,?_,?_⟩,hp.gone hc⟩
  ·show bA yh 130=_
   rw[BZ,hc];rfl
  ·rw[jG _ _ ar,hU x h1 h2]
  ·have:=nU.put 2 (a:=l) (o:=.map (gC aI V.bool (cb k))) (o':=.map (gC aI V.bool (cb (k.erase t)))) rfl
   have h2:=this.drop 0;show Own (tF.set l (.map (je 0 (aI t) (gC aI V.bool (cb k))))) _;rw[RR];exact h2
  ·show li+1<=(tF.set l _).length
   rw[yD];exact c2
theorem asY (cw:C.P.follows .mixedOrders=true)(bw:eW C fid)(ba:gL C fid (bY aa)){sz:Code}(hr:zD C vars N sz=some U)(hd:Df C vars N (Ll sz)=some n2)(tH:aa 92=some (.code Db))(oI:AM aa)
  {j:dR} (hl:j.Model.b9.l.length<=12) {al eX l:Nat} {ts:List Nat} {vs:List V} {ks:List Int} {s:av} (hnd:ks.Nodup) (ht:∀t∈ts,t≠10/\t≠122/\t≠130/\t≠120) (hs:tK j al eX l ts vs ks 0 s):
  cS C fid vars N sz s fun x ao=>x=.normal/\∃bz,Rd j.Model.b9.l ks bz/\tK j al eX l ts vs bz 0 ao:=by
 obtain⟨He,Hf,⟨σ,ae,iA⟩,aw,hlen⟩:=hs;have g1:σ 1=.ptr al 0:=(eO iA).1;have g7:σ 7=.ptr eX 0:=(eO (eO iA).2).1;have RU:ts.map σ=vs:=(eO (eO iA).2).2;have f7:=aw.get 0 rfl;have aY:=aw.get 1 rfl;have jZ:=sc aY;rw[Dl He Hf];have oa:bA s.au 7=.ptr eX 0:=by rw[ae];exact g7
 have hex:cY (bY aa) U.t0 ⟨[],s.au,s.H,s.low,none⟩ []=some (⟨[(119,.map l)],s.au,s.H,min s.low s.H.length,none⟩,[false]):=by
  simp[U,cY,gu,nY,jR,iw,ai.ag,oa,f7,av.put,lD]
 refine(cS.arb cw bw ba hr hd (iD:=⟨[],s.au,s.H,s.low,none⟩) hex (l:=l) (bf:=gC aI V.bool (cb ks)) rfl aY
  (fun d es ao=>∃bz,es=gC aI V.bool (cb bz)/\tK j al eX l (120::ts) (.ptr s.H.length 0::vs) bz (s.H.length+1) ao/\ru j.Model.b9.l ks d bz)
  (fun es ao=>∃bz,Rd j.Model.b9.l ks bz/\tK j al eX l ts vs bz 0 ao) ⟨ks,rfl,⟨rfl,rfl,⟨_,ZS ae 120 (.ptr s.H.length 0),?_⟩,⟨fun m hm p hp=> ?_,aw.2⟩,?_⟩,.start hnd⟩ ?_ ?_ ?_).mono ?_
 ·show up σ 120 (.ptr s.H.length 0) 1::up σ 120 (.ptr s.H.length 0) 7::up σ 120 (.ptr s.H.length 0) 120::List.map (up σ 120 (.ptr s.H.length 0)) ts=_
  rw[jG _ _ (by decide),jG _ _ (by decide),v8,g1,g7,<-RU];congr 3;exact pN fun x hx=>jG _ _ (ht x hx).2.2.2
 ·show(s.H++[bU.gone])[p.1]? =_
  rw[fB (aw.lt hm hp)];exact aw.1 m hm p hp
 ·show s.H.length+1<=(s.H++[bU.gone]).length
  simp
 ·rintro d es ao ⟨bz,-,h,-⟩
  obtain⟨aS,h1,h2⟩:=h.ok;show bA ao.au 120=_;rw[h1];exact(eO (eO (eO h2).2).2).1
 ·rintro d es ao ⟨bz,rfl,h,hp⟩ kv jE
  exact asU tH oI hl (fun t q=>⟨(ht t q).1,(ht t q).2.1,(ht t q).2.2.1⟩) jZ h hp jE
 ·rintro d es ao ⟨bz,rfl,⟨c7,asZ,⟨aS,h1,h2⟩,lI,mj⟩,hp⟩ eP
  rw[Dl c7 asZ];obtain⟨di,H',low',jH,q1,q2,cd,c2,fi,rfl⟩:=arc (aa:=aa) (R:=U) (b:=s.H.length+1) (σ:=aS) (H:=ao.H) (low:=ao.low) (Q:=fun jH H2=>jH=up aS 122 (.bool false)/\H2=ao.H) (pp (.bool false) <| gB ⟨rfl,rfl,rfl⟩) h1 mj;subst fi;refine⟨_,q1,cd,bz,hp.fin fun t Hd=>eP (aI t,.bool true) ?_,rfl,rfl,⟨_,q2,?_⟩,lI,cD _⟩
  ·unfold gC cb
   rw[kR];exact dX.2 ⟨t,Hd,rfl⟩
  ·show up aS 122 (.bool false) 1::up aS 122 (.bool false) 7::List.map (up aS 122 (.bool false)) ts=_
   have b1:=(eO h2).1;have A2:=(eO (eO h2).2).1;have as0:=(eO (eO (eO h2).2).2).2;rw[jG _ _ (by decide),jG _ _ (by decide),b1,A2,<-as0];congr 2;exact pN fun x hx=>jG _ _ (ht x hx).2.1
 ·rintro x ao ⟨rfl,es,s2,⟨bz,h1,h2⟩,rfl⟩
  exact⟨rfl,bz,h1,h2.aC,h2.ro,h2.ok,h2.own,h2.len⟩
end
end Go.Abs.bs
namespace Go.Abs.bs
open Go Go.Abs
noncomputable section
variable{C:Ctx}{fid:Nat->Nat}{vars:List Nat}{N:Nat}{aa:Nat->Option bV}
theorem Dm{c:cm}{σ:bN}{H:Heap}{Q:X->bN->Heap->Prop}{au:Env}(h:e8 aa 0 c σ H Q)(ae:Fits au σ)(low:Nat):
  ∃x di H' low' aS,dq aa c ⟨[],au,H,low,none⟩=some (x,⟨[],di,H',low',none⟩)/\Fits di aS/\Q x aS H':=by
 obtain⟨x,di,H',low',aS,h1,h2,-,-,ar⟩:=h au low ae (cD _) (cD _);exact⟨x,di,H',low',aS,h1,h2,ar⟩
theorem adv{σ:bN}{a b c d:Nat}{x y z w:V}(h:At σ [a,b,c,d] [x,y,z,w]):At σ [a,b] [x,y]:=by
 simp only[At,de,iO,xa]at h⊢;exact⟨h.1,h.2.1,trivial⟩
theorem as1{σ:bN}{a b:Nat}{x y:V}(h:At σ [a,b] [x,y]):At σ [b] [y]:=by
 simp only[At,de,iO,xa]at h⊢;exact⟨h.2.1,trivial⟩
def RV:cm:=.region [⟨some (118,true),.bin .lss (.var 117) (.var 116),none⟩] none
def RW:cm:=.cond (.var 118) .skip (.exit 4)
def RX:cm:=.region [⟨some (133,false),.bin .add (.var 117) (.const (.int .i64 1)),none⟩,⟨some (117,true),.mv (.tmp 133),none⟩] none
section
variable{b:Nat}{σ:bN}{H:Heap}
theorem as2{ah:dR}{al eX l:Nat}{m:List (Int × Bool)}(j:At σ [1,7] [.ptr al 0,.ptr eX 0])(aw:Own H [[(eX,.cells [.map l])],[(l,.map (gC aI V.bool m))],[(al,.cells (j9 ah))]]):
  e8 aa b (yb (hA 6)) σ H fun x aS H'=>x=.normal/\H'=H/\At aS [1,7,116,117] [.ptr al 0,.ptr eX 0,aI ah.Model.b9.len,aI 0]:=by
 rw[<-Fe j];refine uv <| pp (.ptr al 0) <| pp (.ptr al 6) <| ph (bb 3 jn ah.Model.b9) (ig rfl (aw.get 2 rfl) rfl) <| ph (aI ah.Model.b9.len) (we rfl _) <| pp (aI 0) <| gB ⟨rfl,rfl,rfl⟩
theorem as3{i n:Int}(h1:σ 116=aI n)(h2:σ 117=aI i):e8 aa b (.seq RV RW) σ H fun x aS H'=>x=(if i<n then .normal else .exit 4)/\H'=H/\aS=up σ 118 (.bool (decide (i<n))):=by
 refine qk <| uv <| ph (.bool (decide (i<n))) ?_ <| gB ?_
 ·rw[nf]
  show(eg .lss (σ 117) (σ 116)).map _=_;rw[h1,h2];rfl
 ·by_cases h:i<n
  ·refine zJ (β:=decide (i<n)) rfl (by simpa using h) (zH ⟨by rw[if_pos h],rfl,rfl⟩)
  ·refine zK (β:=decide (i<n)) rfl (by simpa using h) (Jr ⟨by rw[if_neg h],rfl,rfl⟩)
theorem as4{i:Int}(h2:σ 117=aI i):e8 aa b RX σ H fun x aS H'=>x=.normal/\H'=H/\aS=up σ 117 (aI (aM (i+1))):=by
 refine uv <| ph (aI (aM (i+1))) ?_ <| pp (aI (aM (i+1))) <| gB ⟨rfl,rfl,rfl⟩
 rw[nf];show(eg .add (σ 117) (aI 1)).map _=_;rw[h2];rfl
end
theorem as5 (cw:C.P.follows .mixedOrders=true)(bw:eW C fid)(ba:gL C fid (bY aa)){hd qj sz inc:Code}(dj:C.code vars N hd=some RV)(eG:C.code vars N qj=some RW)(e3:C.code vars N inc=some RX)
  (hr:zD C vars N sz=some U) (lP:Df C vars N (Ll sz)=some n2) (tH:aa 92=some (.code Db)) (oI:AM aa) {j:dR} (hl:j.Model.b9.l.length<=12) {al eX l:Nat} {ks:List Int} {s:av} (hnd:ks.Nodup)
  (hs:tK j al eX l [116,117] [aI j.Model.b9.len,aI 0] ks 0 s):
  cS C fid vars N (.block 4 (.loop (.seq hd (.seq qj (.seq (.block 5 sz) inc))))) s fun x ao=>x=.normal/\∃bz,q4 j.Model.b9.l ks j.Model.b9.l.length bz/\tK j al eX l [] [] bz 0 ao:=by
 refine cS.block (cS.loop (fun k ao=>∃(i:Nat) (bz:List Int),i+k=j.Model.b9.l.length/\bz.Nodup/\q4 j.Model.b9.l ks i bz/\tK j al eX l [116,117] [aI j.Model.b9.len,aI i] bz 0 ao) j.Model.b9.l.length ⟨0,ks,by omega,hnd,.zero,hs⟩ ?_);rintro k s1 ⟨i,b6,aA5,as6,D8,He,Hf,⟨σ,ae,iA⟩,aw,hlen⟩;have g1:σ 1=.ptr al 0:=(eO iA).1;have g7:σ 7=.ptr eX 0:=(eO (eO iA).2).1;have adw:σ 116=aI j.Model.b9.len:=(eO (eO (eO iA).2).2).1;have adx:σ 117=aI i:=(eO (eO (eO (eO iA).2).2).2).1;rw[Dl He Hf];obtain⟨x,di,H',low',aS,q1,q2,cd,rfl,fi⟩:=Dm (aa:=aa) (as3 (H:=s1.H) adw adx) ae s1.low;have ady:j.Model.b9.len=(j.Model.b9.l.length:Int):=rfl
 have RY:At aS [1,7,116,117] [.ptr al 0,.ptr eX 0,aI j.Model.b9.len,aI i]:=by
  rw[fi];show[up σ 118 (.bool (decide ((i:Int)<j.Model.b9.len))) 1,up σ 118 (.bool (decide ((i:Int)<j.Model.b9.len))) 7,up σ 118 (.bool (decide ((i:Int)<j.Model.b9.len))) 116,up σ 118 (.bool (decide ((i:Int)<j.Model.b9.len))) 117]=_;rw[jG _ _ (by decide),jG _ _ (by decide),jG _ _ (by decide),jG _ _ (by decide),g1,g7,adw,adx]
 by_cases hi:i<j.Model.b9.l.length
 ·have hx:x=.normal:=by rw[cd,if_pos (by rw[ady];omega)]
  subst hx;refine cS.AQ cw bw ba dj q1 (fun s2 nL=>cS.seq (cS.dq cw bw ba eG nL) (fun e6 ar=> ?_) fun y e6 hy ar=>absurd ar.1 hy) (fun h=>absurd rfl h);obtain⟨-,rfl⟩:=ar;refine cS.seq (I3:=fun y e6=>y=.normal/\∃bz,Rd j.Model.b9.l b6 bz/\tK j al eX l [116,117] [aI j.Model.b9.len,aI i] bz 0 e6) (cS.block ((asY (s:=⟨[],di,s1.H,low',none⟩) cw bw ba hr lP tH oI hl as6 (ts:=[116,117]) (vs:=[aI j.Model.b9.len,aI i]) (by decide) ⟨rfl,rfl,⟨aS,q2,RY⟩,aw,cD _⟩).mono fun y e6 hy=>⟨by rw[hy.1];rfl,hy.2⟩)) (fun e6 ar=> ?_) fun y e6 hy ar=>absurd ar.1 hy;obtain⟨-,dI,adz,Om,B9,⟨tL,as7,wY⟩,AV,Vw⟩:=ar;have b1:tL 1=.ptr al 0:=(eO wY).1;have A2:tL 7=.ptr eX 0:=(eO (eO wY).2).1;have as8:tL 116=aI j.Model.b9.len:=(eO (eO (eO wY).2).2).1;have bi:tL 117=aI i:=(eO (eO (eO (eO wY).2).2).2).1;rw[Dl Om B9];obtain⟨y,Qf,Qg,aA6,Qh,bB,b4,rfl,rfl,jj⟩:=Dm (aa:=aa) (as4 (H:=e6.H) bi) as7 e6.low;refine(cS.dq cw bw ba e3 bB).mono fun y kp hy=> ?_;obtain⟨rfl,rfl⟩:=hy;refine .inl ⟨rfl,k-1,by omega,i+1,dI,by omega,adz.db,.succ D8 adz,rfl,rfl,⟨Qh,b4,?_⟩,AV,cD _⟩;rw[jj];show[up tL 117 (aI (aM ((i:Int)+1))) 1,up tL 117 (aI (aM ((i:Int)+1))) 7,up tL 117 (aI (aM ((i:Int)+1))) 116,up tL 117 (aI (aM ((i:Int)+1))) 117]=_;rw[jG _ _ (by decide),jG _ _ (by decide),jG _ _ (by decide),v8,b1,A2,as8,eT (by omega)]
 ·have hx:x=.exit 4:=by rw[cd,if_neg (by rw[ady];omega)]
  subst hx;refine cS.AQ cw bw ba dj q1 (fun s2 nL=>cS.seq (cS.dq cw bw ba eG nL) (fun e6 ar=>absurd ar.1 (by simp)) fun y e6 hy ar=> ?_) (fun _=> ?_)
  ·obtain⟨rfl,rfl⟩:=ar
   have:i=j.Model.b9.l.length:=by omega
   subst this;exact .inr ⟨by simp,rfl,b6,D8,rfl,rfl,⟨aS,q2,adv RY⟩,aw,cD _⟩
  ·have:i=j.Model.b9.l.length:=by omega
   subst this;exact .inr ⟨by simp,rfl,b6,D8,rfl,rfl,⟨aS,q2,adv RY⟩,aw,cD _⟩
theorem as9 (cw:C.P.follows .mixedOrders=true)(bw:eW C fid)(ba:gL C fid (bY aa)){p1 p2 p3 kj rf x9 C7 hd qj sz inc:Code}(ab:C.code vars N p1=some (hA 1))(aj:C.code vars N p2=some (hA 2))(bC:C.code vars N p3=some (hA 3))(cu:C.code vars N kj=some (hA 4))(dv:C.code vars N rf=some (hA 5))
  (gY:C.code vars N x9=some (yb (hA 6))) (oa:C.code vars N C7=some (hA 7)) (dj:C.code vars N hd=some RV) (eG:C.code vars N qj=some RW) (e3:C.code vars N inc=some RX)
  (hr:zD C vars N sz=some U) (lP:Df C vars N (Ll sz)=some n2) (tH:aa 92=some (.code Db)) (oI:AM aa) (RZ:Le aa) (j:dR):
  cS C fid vars N (.seq p1 (.seq p2 (.seq p3 (.seq kj (.seq rf (.seq (.seq x9 (.block 4 (.loop (.seq hd (.seq qj (.seq (.block 5 sz) inc)))))) C7)))))) ⟨[],fW 0 [.agg (j9 j)],[],0,none⟩
   fun x s=>x=.ret/\bA s.au 2=.bool (Fk j.Model.Tables.l j.Model.b9.l):=by
 obtain⟨x,k9,H1,bG,cL,q1,q2,cd⟩:=Dm (aa:=aa) (arf (H0:=[]) RZ j (asP j)) (Pk 0 [.agg (j9 j)]) 0;unfold Fk;cases bh:(decide (j.Model.b9.l.length<=12)&&j.Model.b9.l.all (wq j.Model.Tables.l))with
 |false=>
  rw[bh]at cd;obtain⟨rfl,iA⟩:=cd;have af:bA k9 2=.bool false:=(q2 2).trans (eO iA).1
  have aO:(decide (j.Model.b9.l.length<=12)&&(j.Model.b9.l.all (wq j.Model.Tables.l)&&JD j.Model.b9.l j.Model.Tables.l.length))=false:=by
   rw[<-yF,bh];rfl
  rw[aO];refine cS.AQ cw bw ba ab q1 (fun s2 h2=>cS.AQ cw bw ba aj h2 (fun e6 ar=>cS.seq (cS.dq cw bw ba bC ar) (fun kp aR=>absurd aR.1 (by simp)) fun y kp hy aR=> ?_) fun _=>⟨rfl,af⟩) fun _=>⟨rfl,af⟩;obtain⟨rfl,rfl⟩:=aR;exact⟨rfl,af⟩
 |true=>
  rw[bh]at cd;obtain⟨rfl,al,-,iA,aw⟩:=cd;obtain⟨tM,eP⟩:=Bool.and_eq_true_iff.1 bh;have hl:j.Model.b9.l.length<=12:=by simpa using tM
  rw[tM,eP,fF,fF];refine cS.AQ cw bw ba ab q1 (fun s2 h2=>cS.AQ cw bw ba aj h2 (fun e6 ar=>cS.seq (cS.dq cw bw ba bC ar) (fun kp aR=> ?_) fun y kp hy aR=>absurd aR.1 hy) fun h=>absurd rfl h) fun h=>absurd rfl h;obtain⟨-,rfl⟩:=aR;obtain⟨x,Cs,H2,dB,jH,bB,b4,rfl,eX,l,-,-,ata,adA⟩:=Dm (aa:=aa) (arC (b:=0) j iA aw (asS j hl)) q2 bG;refine cS.AQ cw bw ba cu bB (fun s2 h2=>cS.seq (cS.dq cw bw ba dv h2) (fun kp aR=> ?_) fun y kp hy aR=>absurd aR.1 hy) fun h=>absurd rfl h;obtain⟨-,rfl⟩:=aR;obtain⟨x,yh,tF,LJ,tL,t1,t2,rfl,rfl,wY⟩:=Dm (aa:=aa) (as2 (b:=0) ata adA) b4 dB;have hnd:(yg j.Model.b9.l []).Nodup:=adt _ DK;refine cS.seq (cS.seq (cS.dq cw bw ba gY t1) (fun kp aR=> ?_) fun y kp hy aR=>absurd aR.1 hy) (fun R0 h5=> ?_) fun y R0 hy (h5:y=.normal/\∃bz,q4 j.Model.b9.l (yg j.Model.b9.l []) j.Model.b9.l.length bz/\tK j al eX l [] [] bz 0 R0)=>absurd h5.1 hy
  ·obtain⟨-,rfl⟩:=aR
   exact as5 cw bw ba dj eG e3 hr lP tH oI hl hnd ⟨rfl,rfl,⟨tL,t2,wY⟩,adA,cD _⟩
  ·obtain⟨-,bz,atb,atc,Of,⟨atd,ate,atf⟩,atg,-⟩:=h5
   rw[Dl atc Of];have A2:At atd [7] [.ptr eX 0]:=as1 atf;obtain⟨x,ath,aA7,aA8,aA9,jV,mW,rfl,ati⟩:=Dm (aa:=aa) (arO (b:=0) A2 atg) ate R0.low;refine(cS.dq cw bw ba oa jV).mono fun y aBa hy=> ?_;obtain⟨rfl,rfl⟩:=hy;refine⟨rfl,?_⟩;show bA ath 2=_;rw[mW 2,(eO ati).1]
   have jk:∀h∈j.Model.b9.l,0<=h.Table/\h.Table<(j.Model.Tables.l.length:Int):=fun h fY=>by
    have:=eU.1 eP h fY;unfold wq at this;simp only[cn,decide_eq_true_eq]at this;exact⟨this.1.1,this.1.2⟩
   rw[<-ans (N:=j.Model.Tables.l.length) hnd (fun t=>by rw[adu];simp) jk atb];unfold cb;rw[ef]
end
end Go.Abs.bs
namespace Go.Abs.bs
open Go Go.Abs
noncomputable section
theorem R1 (x:cf)(n:Nat):decide ((x.length:Int)>(n:Int))=!decide (x.length<=n):=by
 rw[ado];congr 1;exact decide_eq_decide.2 (by omega)
def Hg (t:Table):Bool:=decide (t.Name.length<=40)&&decide (t.bR.l.length<=12)
def Hh (s:List Int)(ts:List Table):Bool:=ts.all Hg&&(decide (s.length<=12)&&decide (ts.length<=20))
theorem atj (s:ad Int)(ts:ad Table)(h:b2 ts.l):J4 s ts=some (Hh s.l ts.l):=by
 unfold J4
 rw[rp (f:=J3 ts) ts.l h (fun t=>!Hg t) (fun k t ht=>by
  simp only[J3,gF (fM ht),cond_true,dV,ht,bm];rw[show decide ((t.Name.length:Int)>40)=!decide (t.Name.length<=40)from R1 t.Name 40,show decide (t.bR.len>12)=!decide (t.bR.l.length<=12)from mL t.bR 12];unfold Hg;cases decide (t.Name.length<=40)<;>cases decide (t.bR.l.length<=12)<;>rfl) (by simp only[J3,hv,cond_false])]
 unfold Hh;rw[tT,show decide (s.len<=12)=decide (s.l.length<=12)from G8 s 12,show decide (ts.len<=20)=decide (ts.l.length<=20)from G8 ts 20];cases ts.l.any fun t=>!Hg t<;>rfl
def Hi (o:et):Bool:=decide (o.Name.length<=40)&&decide (o.bE.l.length<=6)
def R2 (x:eJ):Bool:=decide (x.Delta.l.length<=20)&&(decide (x.h4.l.length<=10)&&decide (x.ik.l.length<=40))
def R3 (x:eJ):Bool:=x.h4.l.all fun r=>decide (r.cC.l.length<=20)
def Hj (a:Action):Bool:=(decide (a.gE.l.length<=6)&&R2 a.eJ)&&R3 a.eJ
def tN (m:Model):Bool:=
 (decide (m.bE.l.length<=8)&&(decide (m.Tables.l.length<=6)&&(decide (m.fR.l.length<=20)&&(decide (m.dO.l.length<=60)&&(decide (m.Operations.l.length<=8)&&(decide (m.Actions.l.length<=30)&&(decide (m.b9.l.length<=12)&&Hh m.bE.l m.Tables.l)))))))&&
 ((m.fR.l.all fun x=>decide (x.length<=40))&&((m.dO.l.all fun c=>decide (c.Row.cC.l.length<=20))&&(m.Operations.l.all Hi&&m.Actions.l.all Hj)))
theorem atk (m:Model):Kb m=some (tN m):=by
 unfold Kb tN
 rw[show decide (m.bE.len>8)=!decide (m.bE.l.length<=8)from mL m.bE 8,show decide (m.Tables.len>6)=!decide (m.Tables.l.length<=6)from mL m.Tables 6,
  show decide (m.fR.len>20)=!decide (m.fR.l.length<=20)from mL m.fR 20,show decide (m.dO.len>60)=!decide (m.dO.l.length<=60)from mL m.dO 60,
  show decide (m.Operations.len>8)=!decide (m.Operations.l.length<=8)from mL m.Operations 8,show decide (m.Actions.len>30)=!decide (m.Actions.l.length<=30)from mL m.Actions 30,
  show decide (m.b9.len>12)=!decide (m.b9.l.length<=12)from mL m.b9 12]
 cases h1:decide (m.bE.l.length<=8)with
 |false=>rfl
 |true=>
 cases h2:decide (m.Tables.l.length<=6)with
 |false=>rfl
 |true=>
 cases ar:decide (m.fR.l.length<=20)with
 |false=>rfl
 |true=>
 cases aR:decide (m.dO.l.length<=60)with
 |false=>rfl
 |true=>
 cases h5:decide (m.Operations.l.length<=8)with
 |false=>rfl
 |true=>
 cases eo:decide (m.Actions.l.length<=30)with
 |false=>rfl
 |true=>
 cases lC:decide (m.b9.l.length<=12)with
 |false=>rfl
 |true=>
 have q2:m.Tables.l.length<=6:=by simpa using h2
 have cd:m.fR.l.length<=20:=by simpa using ar
 have c2:m.dO.l.length<=60:=by simpa using aR
 have fi:m.Operations.l.length<=8:=by simpa using h5
 have hU:m.Actions.l.length<=30:=by simpa using eo
 simp only[iN,cond_false,fF];rw[atj m.bE m.Tables (by unfold b2;omega)];cases Hh m.bE.l m.Tables.l with
 |false=>rfl
 |true=>
 simp only[bm,iN,cond_false,fF]
 rw[rp (f:=J5 m) m.fR.l (by omega) (fun x=>!decide (x.length<=40)) (fun k x hx=>by
  simp only[J5,gF (fM hx),cond_true,dV,hx,bm];rw[show decide ((x.length:Int)>40)=!decide (x.length<=40)from R1 x 40];cases decide (x.length<=40)<;>rfl) (by simp only[J5,hv,cond_false])]
 rw[tT];cases m.fR.l.any fun x=>!decide (x.length<=40)with
 |true=>rfl
 |false=>
 simp only[bm,xc,cond_false,fF]
 rw[rp (f:=J6 m) m.dO.l (by omega) (fun c=>!decide (c.Row.cC.l.length<=20)) (fun k c hx=>by
  simp only[J6,gF (fM hx),cond_true,dV,hx,bm];rw[show decide (c.Row.cC.len>20)=!decide (c.Row.cC.l.length<=20)from mL c.Row.cC 20];cases decide (c.Row.cC.l.length<=20)<;>rfl) (by simp only[J6,hv,cond_false])]
 rw[tT (l:=m.dO.l)];cases m.dO.l.any fun c=>!decide (c.Row.cC.l.length<=20)with
 |true=>rfl
 |false=>
 simp only[bm,xc,cond_false,fF]
 rw[rp (f:=J7 m) m.Operations.l (by omega) (fun o=>!Hi o) (fun k o hx=>by
  simp only[J7,gF (fM hx),cond_true,dV,hx,bm];rw[show decide ((o.Name.length:Int)>40)=!decide (o.Name.length<=40)from R1 o.Name 40,show decide (o.bE.len>6)=!decide (o.bE.l.length<=6)from mL o.bE 6];unfold Hi;cases decide (o.Name.length<=40)<;>cases decide (o.bE.l.length<=6)<;>rfl) (by simp only[J7,hv,cond_false])]
 rw[tT (l:=m.Operations.l)];cases m.Operations.l.any fun o=>!Hi o with
 |true=>rfl
 |false=>
 simp only[bm,xc,cond_false,fF]
 rw[rp (f:=Ka m) m.Actions.l (by omega) (fun a=>!Hj a) (fun k a hx=>by
  simp only[Ka,gF (fM hx),cond_true,dV,hx,bm]
  rw[show decide (a.gE.len>6)=!decide (a.gE.l.length<=6)from mL a.gE 6,show decide (a.eJ.Delta.len>20)=!decide (a.eJ.Delta.l.length<=20)from mL a.eJ.Delta 20,
   show decide (a.eJ.h4.len>10)=!decide (a.eJ.h4.l.length<=10)from mL a.eJ.h4 10,show decide (a.eJ.ik.len>40)=!decide (a.eJ.ik.l.length<=40)from mL a.eJ.ik 40]
  unfold Hj R2;cases decide (a.gE.l.length<=6)with
  |false=>rfl
  |true=>
   cases decide (a.eJ.Delta.l.length<=20)with
   |false=>rfl
   |true=>
    cases fY:decide (a.eJ.h4.l.length<=10)with
    |false=>rfl
    |true=>
     cases decide (a.eJ.ik.l.length<=40)with
     |false=>rfl
     |true=>
      have hl:a.eJ.h4.l.length<=10:=by simpa using fY
      simp only[iN,cond_false,bm,Bl,fF]
      rw[rp (f:=J9 a) a.eJ.h4.l (by omega) (fun r=>!decide (r.cC.l.length<=20)) (fun k r hx=>by
       simp only[J9,gF (fM hx),cond_true,dV,hx,bm];rw[show decide (r.cC.len>20)=!decide (r.cC.l.length<=20)from mL r.cC 20];cases decide (r.cC.l.length<=20)<;>rfl) (by simp only[J9,hv,cond_false])]
      unfold R3;rw[tT];cases a.eJ.h4.l.any fun r=>!decide (r.cC.l.length<=20)<;>rfl) (by simp only[Ka,hv,cond_false])]
 rw[tT (l:=m.Actions.l)];cases m.Actions.l.any fun a=>!Hj a<;>rfl
structure R4 (m:Model):Prop where
 Hk:m.bE.l.length<=8
 tables:m.Tables.l.length<=6
 atl:m.fR.l.length<=21
 cons:m.dO.l.length<=60
 ops:m.Operations.l.length<=8
 wX:m.Actions.l.length<=31
 aBb:m.b9.l.length<=13
 aa:∀t∈m.Tables.l,t.Name.length<=40/\t.bR.l.length<=12
 aBc:∀x∈m.fR.l,x.length<=40
 Hl:∀c∈m.dO.l,c.Row.cC.l.length<=20
 op:∀o∈m.Operations.l,o.Name.length<=40/\o.bE.l.length<=6
 act:∀a∈m.Actions.l,a.gE.l.length<=6/\adp a.eJ
theorem yi{m:Model}(h:tN m=true):R4 m:=by
 unfold tN Hh at h;simp only[cn,decide_eq_true_eq,eU]at h;obtain⟨⟨al,a2,a3,a4,a5,Hm,eX,atm,-,-⟩,b1,ff,iZ,kz⟩:=h;refine⟨al,a2,by omega,a4,a5,by omega,by omega,fun t ht=> ?_,b1,ff,fun o ho=> ?_,fun a ha=> ?_⟩
 ·have:=atm t ht
  unfold Hg at this;simpa using this
 ·have:=iZ o ho
  unfold Hi at this;simpa using this
 ·have:=kz a ha
  unfold Hj R2 R3 at this;simp only[cn,decide_eq_true_eq,eU]at this;obtain⟨⟨dj,eG,e3,hO⟩,hX⟩:=this;exact⟨dj,by unfold b2;omega,by unfold b2;omega,by unfold b2;omega,fun r hr=>by have:=hX r hr;unfold b2;omega⟩
def tO (m:Model):Bool:=
 l9 m.bE.l m.Tables.l&&(decide (m.fR.l.length<=24)&&(G2 m.fR.l&&(G3 m.bE.l m.Tables.l (gU m.bE.l m.Tables.l true) m.fR.len m.dO.l&&(Ha m.bE.l.length m.Operations.l&&
  (LI m.bE.l m.Tables.l (gU m.bE.l m.Tables.l true).length m.Operations.l m.Actions.l&&Fk m.Tables.l m.b9.l)))))
theorem R5{m:Model}(b:R4 m):CL m=some (tO m):=by
 have hs:b2 m.bE.l:=by have:=b.Hk;unfold b2;omega
 have ht:b2 m.Tables.l:=by have:=b.tables;unfold b2;omega
 have hc:∀t∈m.Tables.l,b2 t.bR.l:=fun t h=>by have:=b.aa t h;unfold b2;omega
 unfold CL tO;rw[RJ m.bE m.Tables hs ht hc];simp only[bm];cases af:l9 m.bE.l m.Tables.l with
 |false=>rfl
 |true=>
  simp only[cond_true,fF];rw[show decide (m.fR.len>24)=!decide (m.fR.l.length<=24)from mL m.fR 24];cases decide (m.fR.l.length<=24)with
  |false=>rfl
  |true=>
   simp only[iN,cond_false,fF];rw[ac9 m.fR (by have:=b.atl;unfold b2;omega)];simp only[bm];cases G2 m.fR.l with
   |false=>rfl
   |true=>
    obtain⟨x,ex,el⟩:=RM m.bE m.Tables true hs ht hc;rw[af]at el;simp only[cond_true]at el;have sx:∀t∈m.Tables.l,ja m.bE.l.length t.bR.l=true:=fun t h=>G0 ((GZ af).2.2.2 t h);simp only[iN,cond_false,fF];rw[ex];simp only[bm];have ab:=asg (dR.mk m x) (by have:=b.cons;show m.dO.l.length<_;omega) (by show x.l.length<=_;rw[el];have:=adb af true;omega) ht sx (fun c h=>by have:=b.Hl c h;unfold b2;omega);have aj:=asz (dR.mk m x) (by have:=b.ops;show m.Operations.l.length<=_;omega) (fun o h=>by have:=(b.op o h).2;unfold b2;omega);rw[ab,aj];simp only[bm];rw[show(dR.mk m x).strict.l=gU m.bE.l m.Tables.l true from el];cases G3 m.bE.l m.Tables.l (gU m.bE.l m.Tables.l true) m.fR.len m.dO.l with
    |false=>rfl
    |true=>
     simp only[cond_true,fF];cases dm:Ha m.bE.l.length m.Operations.l with
     |false=>rfl
     |true=>
      have R6:=dm;unfold Ha at R6;simp only[cn,eU]at R6;have bC:=asJ (dR.mk m x) hs ht hc af R6.1 (fun o h=>by have:=(b.op o h).2;unfold b2;omega) (fun a h=>(b.act a h).2) (fun a h=>by have:=(b.act a h).1;unfold b2;omega) (by have:=b.wX;unfold b2;show m.Actions.l.length<_;omega);rw[bC];simp only[bm,cond_true,fF];rw[show(dR.mk m x).strict.len=((gU m.bE.l m.Tables.l true).length:Int)from by rw[ew];show((x.l.length:Nat):Int)=_;rw[el]];cases LI m.bE.l m.Tables.l ((gU m.bE.l m.Tables.l true).length:Int) m.Operations.l m.Actions.l<;>rfl
end
end Go.Abs.bs
