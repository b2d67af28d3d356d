/- Texts of this claim, joined and written short by a program. -/
import Derived.Test.YtgkcikhegodchaaGreatDoorP31
import Derived.Test.YtgkcikhegodchaaGreatDoorP30
import Derived.Test.YtgkcikhegodchaaGreatDoorP00
set_option linter.unusedVariables false
set_option linter.unusedSimpArgs false
set_option linter.unusedSectionVars false
namespace Go.Abs.bA
open Go Go.Abs
noncomputable section
def vx (s:List Int)(args:List Int)(k:Nat)(jh:Int):Bool:=bif decide (jh<0)then pq (args.getD k 0) 9999 else decide (args.getD k 0>=0)&&decide (args.getD k 0<et s jh)
def B3 (vy:List Action)(k:Nat)(a:Action):Bool:=match k with
 |0=>true
 |k+1=>match vy[k]? with
  |some b=>!(decide (b.c0>a.c0))&&(bif b.c0==a.c0 then nn b.dQ.l a.dQ.l else true)
  |none=>true
def xB (s:List Int)(ts:List Table)(n:Int)(ops:List c0)(vy:List Action)(k:Nat)(a:Action):Bool:=
 (decide (a.c0>=0)&&decide (a.c0<ops.length))&&match ops[a.c0.toNat]? with
   |some o=>(a.dQ.l.length==o.aA.l.length)&&(allI (vx s a.dQ.l) o.aA.l&&(B3 vy k a&&B1 s ts n a.dV))
   |none=>false
def B4 (s:List Int)(ts:List Table)(n:Int)(ops:List c0)(vy:List Action):Bool:=decide (vy.length<=256)&&allI (xB s ts n ops vy) vy
structure To (x:dV):Prop where
 d:bk x.Delta.l
 u:bk x.e4.l
 h:bk x.fX.l
 r:∀r∈x.fX.l,bk r.da.l
theorem afN{α β:Type}(x:ae α)(y:ae β):(x.len != y.len)=!(x.l.length==y.l.length):=by
 unfold bne;congr 1;rw[dn,dn,EA];simp;omega
theorem ta{α:Type}{l:List α}{i:Int}(h:0<=i):aO l i=l[i.toNat]? :=by simp[aO,h]
theorem afO{s:List Int}{o:c0}{a:Action}{f:Int->Option (cH Int (bO Unit Unit))}(hl:bk o.aA.l)
  (ag:∀(k:Nat) (jh:Int),o.aA.l[k]? =some jh->f (k:Int)=bif vx s a.dQ.l k jh then some (.next (aL ((k:Int)+1)))else some (.out (.ret ()))) (he:f (o.aA.l.length:Int)=some (.out (.go ()))):
  bW f 0=some (bif allI (vx s a.dQ.l) o.aA.l then .go ()else .ret ()):=
 q0 (f:=f) (fun k s=>s=(k:Int)) (vx s a.dQ.l) o.aA.l (fun k jh st hx bp _=>by
  subst bp;rw[ag k jh hx];constructor
  ·intro a1
   rw[a1,eS (by have:=en hx;unfold bk at hl;omega)];exact⟨_,rfl,rfl⟩
  ·intro a1;rw[a1];rfl) (fun st bp=>by subst bp;exact he) (s:=0) rfl
theorem Eh{l:List Int}{k:Nat}{x:Int}(h:l[k]? =some x):l.getD k 0=x:=by simp[nq,h]
theorem afP{n:Nat}{o:c0}(h:nk n o=true){jh:Int}(hs:jh∈o.aA.l):-1<=jh/\jh<n:=by
 unfold nk at h;simp only[cm,eE]at h;have:=h.2 jh hs;unfold y8 at this;simp only[cm,decide_eq_true_eq]at this;exact⟨by omega,this.2⟩
theorem auM{j:eh}{o:c0}{a:Action}(ho:nk j.Model.aA.l.length o=true)(hl:bk o.aA.l)(hlen:a.dQ.l.length=o.aA.l.length):
  bW (K9 j a o) 0=some (bif allI (vx j.Model.aA.l a.dQ.l) o.aA.l then .go ()else .ret ()):=
 afO hl (fun k jh hx=>by
  have aG:=en hx;have hy:a.dQ.l[k]? =some a.dQ.l[k]:=by simp[hlen,aG]
  obtain⟨q1,q2⟩:=afP ho (eZ hx);simp only[K9,fk aG,cond_true,dc,hx,hy,aS,MU _ 9999 (by omega),nc];unfold vx;rw[Eh hy];by_cases h0:jh<0
  ·have d0:decide (jh<0)=true:=by simpa using h0
   have d1:decide (jh>=0)=false:=by simp;omega
   rw[d0,d1];simp only[cond_true,cond_false];cases pq a.dQ.l[k] 9999<;>rfl
  ·have d0:decide (jh<0)=false:=by simpa using h0
   have d1:decide (jh>=0)=true:=by simp;omega
   rw[d0,d1,y3 (by omega) q2];simp only[cond_true,cond_false,aS];cases(decide (a.dQ.l[k]>=0)&&decide (a.dQ.l[k]<et j.Model.aA.l jh))<;>rfl) (by simp only[K9,fQ,cond_false])
theorem auN{m:Model}{o:c0}{a:Action}(ho:nk m.aA.l.length o=true)(hl:bk o.aA.l)(hlen:a.dQ.l.length=o.aA.l.length)(h0:0<=a.c0)(db:m.Operations.l[a.c0.toNat]? =some o):
  bW (LG m a) 0=some (bif allI (vx m.aA.l a.dQ.l) o.aA.l then .go ()else .ret ()):=
 afO hl (fun k jh hx=>by
  have aG:=en hx;have hy:a.dQ.l[k]? =some a.dQ.l[k]:=by simp[hlen,aG]
  obtain⟨q1,q2⟩:=afP ho (eZ hx);have hd:decide ((k:Int)<a.dQ.len)=true:=fk (by omega);simp only[LG,hd,cond_true,ta h0,db,dc,hx,hy,aS,MV _ 9999 (by omega)];unfold vx;rw[Eh hy];by_cases h0:jh<0
  ·have d0:decide (jh<0)=true:=by simpa using h0
   have d1:decide (jh>=0)=false:=by simp;omega
   rw[d0,d1];simp only[cond_true,cond_false];cases pq a.dQ.l[k] 9999<;>rfl
  ·have d0:decide (jh<0)=false:=by simpa using h0
   have d1:decide (jh>=0)=true:=by simp;omega
   rw[d0,d1,y3 (by omega) q2];simp only[cond_true,cond_false,aS];rw[q4,show decide (a.dQ.l[k]>=et m.aA.l jh)=!decide (a.dQ.l[k]<et m.aA.l jh)from by rw[q4];simp];cases decide (a.dQ.l[k]>=0)<;>cases decide (a.dQ.l[k]<et m.aA.l jh)<;>rfl) (by
  have hd:decide ((o.aA.l.length:Int)<a.dQ.len)=false:=by rw[<-hlen];exact fQ
  simp only[LG,hd,cond_false])
theorem auO (j:eh)(h1:bk j.Model.aA.l)(h2:bk j.Model.Tables.l)(hc:∀t∈j.Model.Tables.l,bk t.aZ.l)(af:gQ j.Model.aA.l j.Model.Tables.l=true)
  (ho:∀o∈j.Model.Operations.l,nk j.Model.aA.l.length o=true) (M0:∀o∈j.Model.Operations.l,bk o.aA.l) (de:∀a∈j.Model.Actions.l,To a.dV) (hA:∀a∈j.Model.Actions.l,bk a.dQ.l) (dP:bk j.Model.Actions.l):
  GP j=some (B4 j.Model.aA.l j.Model.Tables.l j.strict.len j.Model.Operations.l j.Model.Actions.l):=by
 unfold GP B4;rw[show decide (j.Model.Actions.len>256)=!decide (j.Model.Actions.l.length<=256)from kQ j.Model.Actions 256];cases decide (j.Model.Actions.l.length<=256)with
 |false=>rfl
 |true=>
  simp only[fZ,cond_false,dy]
  rw[q0 (f:=GM j) (fun k s=>s=(k:Int)) (xB j.Model.aA.l j.Model.Tables.l j.strict.len j.Model.Operations.l j.Model.Actions.l) j.Model.Actions.l (fun k a st hx bp _=>by
   subst bp;have aG:=en hx;have dD:=eZ hx
   have ag:GM j (k:Int)=bif xB j.Model.aA.l j.Model.Tables.l j.strict.len j.Model.Operations.l j.Model.Actions.l k a then some (.next (aL ((k:Int)+1)))else some (.out (.ret ())):=by
    simp only[GM,fk aG,cond_true,dc,hx,aS,nc];unfold xB;have qE:decide (a.c0<j.Model.Operations.len)=decide (a.c0<(j.Model.Operations.l.length:Int)):=rfl;rw[qE];cases hin:(decide (a.c0>=0)&&decide (a.c0<(j.Model.Operations.l.length:Int)))with
    |false=>rfl
    |true=>
     simp only[cm,decide_eq_true_eq]at hin;have hR:a.c0.toNat<j.Model.Operations.l.length:=by omega
     have db:j.Model.Operations.l[a.c0.toNat]? =some j.Model.Operations.l[a.c0.toNat]:=by simp[hR]
     have Im:=eZ db;simp only[cond_true,ta hin.1,db,aS,afN,dy];cases hlen:a.dQ.l.length==(j.Model.Operations.l[a.c0.toNat]).aA.l.length with
     |false=>rfl
     |true=>
      simp only[fZ,cond_false,dy];rw[auM (ho _ Im) (M0 _ Im) (by simpa using hlen)];simp only[aS];cases allI (vx j.Model.aA.l a.dQ.l) (j.Model.Operations.l[a.c0.toNat]).aA.l with
      |false=>rfl
      |true=>
       simp only[cond_true,dy];have mV:=de a dD;rw[auF j a.dV h1 h2 hc af mV.d mV.u mV.h mV.r]
       have ny:((bif (decide ((k:Int)>0))then((aO j.Model.Actions.l (aL ((k:Int)-1))).bind fun yG=>(((bif (decide (yG.c0>a.c0))then some true else(bif (yG.c0==a.c0)then((DF yG.dQ a.dQ).bind fun GN=>some (decide (GN>=0)))else some false)):Option (Bool)).bind fun Rf=>(bif Rf then some (.ret ())else some (.go ()))))else some (.go ())):Option (bO (Unit) (Unit)))=some (bif B3 j.Model.Actions.l k a then .go ()else .ret ()):=by
        cases k with
        |zero=>rfl
        |succ k=>
         have hk:k<j.Model.Actions.l.length:=by omega
         have aJ:j.Model.Actions.l[k]? =some j.Model.Actions.l[k]:=by simp[hk]
         have uz:decide ((((k+1:Nat)):Int)>0)=true:=decide_eq_true (by omega);have hw:aL (((k+1:Nat):Int)-1)=(k:Int):=Ef (by unfold bk at dP;omega);obtain⟨c,EV,auP⟩:=auK j.Model.Actions.l[k].dQ a.dQ (hA _ (Jg hk));rw[uz,hw];unfold B3;simp only[cond_true,dc,aJ,aS,EV,auP];cases decide (j.Model.Actions.l[k].c0>a.c0)with
         |true=>rfl
         |false=>
          cases j.Model.Actions.l[k].c0==a.c0 with
          |false=>rfl
          |true=>cases nn j.Model.Actions.l[k].dQ.l a.dQ.l<;>rfl
       rw[ny];simp only[aS];cases B3 j.Model.Actions.l k a with
       |false=>rfl
       |true=>cases B1 j.Model.aA.l j.Model.Tables.l j.strict.len a.dV<;>rfl
   rw[ag];constructor
   ·intro a1
    rw[a1,eS (by unfold bk at dP;omega)];exact⟨_,rfl,rfl⟩
   ·intro a1;rw[a1];rfl) (fun st bp=>by subst bp;simp only[GM,fQ,cond_false]) (s:=0) rfl]
  cases allI (xB j.Model.aA.l j.Model.Tables.l j.strict.len j.Model.Operations.l j.Model.Actions.l) j.Model.Actions.l<;>rfl
theorem auQ (m:Model)(h1:bk m.aA.l)(h2:bk m.Tables.l)(hc:∀t∈m.Tables.l,bk t.aZ.l)(fM:∀t∈m.Tables.l,nH t.Name=some (kO t.Name))(af:gQ m.aA.l m.Tables.l=true)
  (av:m.Operations.l.length<=100000) (M0:∀o∈m.Operations.l,bk o.aA.l) (auR:∀o∈m.Operations.l,nH o.Name=some (kO o.Name)) (de:∀a∈m.Actions.l,To a.dV) (hA:∀a∈m.Actions.l,bk a.dQ.l) (dP:bk m.Actions.l):
  LH m=some (y9 m.aA.l.length m.Operations.l&&B4 m.aA.l m.Tables.l (eD m.aA.l m.Tables.l true).length m.Operations.l m.Actions.l):=by
 unfold LH y9
 obtain⟨o,ad,e2⟩:=y2 (f:=Hi m) (fun k st=>∃a:ae ck,st=((k:Int),a)/\a.l=(m.Operations.l.take k).map c0.Name/\(m.Operations.l.take k).all (nk m.aA.l.length)=true)
  (fun o=>match o with
    | .go a=>m.Operations.l.all (nk m.aA.l.length)=true/\a.l=m.Operations.l.map c0.Name
    | .ret _=>m.Operations.l.all (nk m.aA.l.length)=false) m.Operations.l (fun k o st hx U=>by
    obtain⟨a,rfl,al,eC⟩:=U;have aG:=en hx;have dD:=eZ hx;have kF:a.l.length<=100000:=by rw[al,gR,q9];omega
    obtain⟨y,jr,rY⟩:=BT (ni:=16) (x:=a) (y:=ae.mk [o.Name]) (by omega) (by show a.l.length+1<=_;omega)
    have hin:=mw (f:=LF m o) o.aA.l (M0 o dD) (fun s=>!y8 m.aA.l.length s) (fun k s hs=>by
     simp only[LF,fk (en hs),cond_true,dc,hs,aS];unfold y8;have ew:decide (s>=m.aA.len)=!decide (s<(m.aA.l.length:Int)):=by rw[q4,dn];simp
     rw[ew,q4];cases decide (s>=-1)<;>cases decide (s<(m.aA.l.length:Int))<;>rfl) (by simp only[LF,fQ,cond_false])
    have ag:Hi m ((k:Int),a)=bif nk m.aA.l.length o then some (.next ((aL ((k:Int)+1)),y))else some (.out (.ret ())):=by
     simp only[Hi,fk aG,cond_true,dc,hx,aS,jr];rw[hin];rw[show decide (o.aA.len>3)=!decide (o.aA.l.length<=3)from kQ o.aA 3];unfold nk;rw[px];cases o.aA.l.any (fun s=>!y8 m.aA.l.length s)with
     |true=>cases decide (o.aA.l.length<=3)<;>rfl
     |false=>cases decide (o.aA.l.length<=3)<;>rfl
    rw[ag];cases db:nk m.aA.l.length o with
    |true=>
     left;refine⟨_,rfl,y,by rw[eS (by omega)],?_,?_⟩
     ·rw[rY,al,xN,hx];simp[ae.l]
     ·rw[xN,hx];simp[List.all_append,db];simpa using eC
    |false=>
     refine .inr ⟨.ret (),rfl,?_⟩;show List.all _ _=false;rw[List.all_eq_false];exact⟨o,dD,by rw[db];simp⟩) (fun st U=>by
    obtain⟨a,rfl,al,eC⟩:=U;rw[Ci]at al eC;exact⟨.go a,by simp only[Hi,fQ,cond_false],eC,al⟩) (s:=(0,.emp)) ⟨.emp,rfl,rfl,rfl⟩
 rw[ad];simp only[aS];cases o with
 |ret u=>simp only at e2⊢; rw[e2];rfl
 |go a=>
  obtain⟨q1,q2⟩:=e2;have kF:a.l.length=m.Operations.l.length:=by rw[q2,gR]
  simp only[]
  rw[q1,afr a (by unfold bk;omega) (fun x hx=>by
   rw[q2]at hx;obtain⟨o,ho,rfl⟩:=eA.1 hx;exact auR o ho),q2]
  rw[show decide (m.Operations.len>8)=!decide (m.Operations.l.length<=8)from kQ m.Operations 8,show decide (m.Actions.len>256)=!decide (m.Actions.l.length<=256)from kQ m.Actions 256];unfold B4;cases decide (m.Operations.l.length<=8)with
  |false=>simp
  |true=>
   cases xy (m.Operations.l.map c0.Name)with
   |false=>simp
   |true=>
    cases decide (m.Actions.l.length<=256)with
    |false=>rfl
    |true=>
     simp only[fZ,cond_false,aS,cond_true,dy];have ho:∀o∈m.Operations.l,nk m.aA.l.length o=true:=eE.1 q1
     rw[q0 (f:=Hk m) (fun k s=>s=(k:Int)) (xB m.aA.l m.Tables.l (eD m.aA.l m.Tables.l true).length m.Operations.l m.Actions.l) m.Actions.l (fun k a st hx bp _=>by
      subst bp;have aG:=en hx;have dD:=eZ hx
      have ag:Hk m (k:Int)=bif xB m.aA.l m.Tables.l (eD m.aA.l m.Tables.l true).length m.Operations.l m.Actions.l k a then some (.next (aL ((k:Int)+1)))else some (.out (.ret ())):=by
       simp only[Hk,fk aG,cond_true,dc,hx,aS];unfold xB;have qE:decide (a.c0>=m.Operations.len)=!decide (a.c0<(m.Operations.l.length:Int)):=by rw[q4,dn];simp
       rw[qE,q4];cases auS:decide (a.c0>=0)with
       |false=>rfl
       |true=>
        cases auT:decide (a.c0<(m.Operations.l.length:Int))with
        |false=>rfl
        |true=>
         have hin:0<=a.c0:=by simpa using auS
         have Pp:a.c0<(m.Operations.l.length:Int):=by simpa using auT
         have hR:a.c0.toNat<m.Operations.l.length:=by omega
         have db:m.Operations.l[a.c0.toNat]? =some m.Operations.l[a.c0.toNat]:=by simp[hR]
         have Im:=eZ db;simp only[fZ,cond_false,ta hin,db,aS,afN,dy];cases hlen:a.dQ.l.length==(m.Operations.l[a.c0.toNat]).aA.l.length with
         |false=>rfl
         |true=>
          simp only[fZ,cond_false,dy];rw[auN (ho _ Im) (M0 _ Im) (by simpa using hlen) hin db];simp only[aS];cases allI (vx m.aA.l a.dQ.l) (m.Operations.l[a.c0.toNat]).aA.l with
          |false=>rfl
          |true=>
           simp only[cond_true,dy];have mV:=de a dD;rw[auG m a.dV h1 h2 hc fM af mV.d mV.u mV.h mV.r]
           have ny:((bif (decide ((k:Int)>0))then((aO m.Actions.l (aL ((k:Int)-1))).bind fun Bc=>(((bif (decide (Bc.c0>a.c0))then some true else(bif (Bc.c0==a.c0)then((Hd Bc.dQ a.dQ).bind fun Rx=>some (!Rx))else some false)):Option (Bool)).bind fun Ry=>(bif Ry then some (.ret ())else some (.go ()))))else some (.go ())):Option (bO (Unit) (Unit)))=some (bif B3 m.Actions.l k a then .go ()else .ret ()):=by
            cases k with
            |zero=>rfl
            |succ k=>
             have hk:k<m.Actions.l.length:=by omega
             have aJ:m.Actions.l[k]? =some m.Actions.l[k]:=by simp[hk]
             have uz:decide ((((k+1:Nat)):Int)>0)=true:=decide_eq_true (by omega);have hw:aL (((k+1:Nat):Int)-1)=(k:Int):=Ef (by unfold bk at dP;omega);rw[uz,hw];unfold B3;simp only[cond_true,dc,aJ,aS,auL _ _ (hA _ (Jg hk))];cases decide (m.Actions.l[k].c0>a.c0)with
             |true=>rfl
             |false=>
              cases m.Actions.l[k].c0==a.c0 with
              |false=>rfl
              |true=>cases nn m.Actions.l[k].dQ.l a.dQ.l<;>rfl
           rw[ny];simp only[aS];cases B3 m.Actions.l k a with
           |false=>rfl
           |true=>cases B1 m.aA.l m.Tables.l ((eD m.aA.l m.Tables.l true).length:Int) a.dV<;>rfl
      rw[ag];constructor
      ·intro a1
       rw[a1,eS (by unfold bk at dP;omega)];exact⟨_,rfl,rfl⟩
      ·intro a1;rw[a1];rfl) (fun st bp=>by subst bp;simp only[Hk,fQ,cond_false]) (s:=0) rfl]
     cases allI (xB m.aA.l m.Tables.l ((eD m.aA.l m.Tables.l true).length:Int) m.Operations.l m.Actions.l) m.Actions.l<;>rfl
end
end Go.Abs.bA
namespace Go.Abs.bA
open Go Go.Abs
noncomputable section
theorem Tp (m:Model)(aC:bk m.aW.l)(a b:Int)(k:Nat)(hk:k<1000000)(g:Model->Int->Int->Int->Option Bool)(bb:∀c,0<k->g m c b ((k-1:Nat):Int)=some (gj m.aW.l (k-1) c b)):
  rQ g m a b (k:Int)=some (gj m.aW.l k a b):=by
 unfold rQ;cases kA:a==b with
 |true=>cases k<;>simp[gj,kA]
 |false=>
  simp only[cond_false];cases k with
  |zero=>
   have:bW (qW m a b ((0:Nat):Int) g) 0=some (.go ()):=by
    rw[hG]
    have:qW m a b ((0:Nat):Int) g 0=some (.out (.go ())):=by
     have hd:(decide ((0:Int)<m.aW.len)&&decide (((0:Nat):Int)>0))=false:=by simp
     simp only[qW,hd,cond_false]
    rw[this]
   rw[this];simp[gj,kA]
  |succ k=>
   have uz:decide (((k+1:Nat):Int)>0)=true:=decide_eq_true (by omega);have hw:aL (((k+1:Nat):Int)-1)=(k:Int):=Ef (by omega)
   rw[mw (f:=qW m a b ((k+1:Nat):Int) g) m.aW.l aC (fun h=>(h.Table==a)&&gj m.aW.l k h.bS b) (fun i h hx=>by
    have e:=bb h.bS (by omega);have e2:k+1-1=k:=by omega
    rw[e2]at e;simp only[qW,fk (en hx),uz,xR,cond_true,dc,hx,aS,hw,e];cases h.Table==a with
    |false=>rfl
    |true=>cases gj m.aW.l k h.bS b<;>rfl) (by
    simp only[qW,fQ,EB,cond_false])]
   simp only[gj,kA,tj,aS];cases m.aW.l.any fun h=>(h.Table==a)&&gj m.aW.l k h.bS b<;>rfl
theorem auU (m:Model)(aC:bk m.aW.l)(a b:Int)(k:Nat)(hk:k<1000000):LI m a b (k:Int)=some (gj m.aW.l k a b):=by
 unfold LI
 have hit:∀(k:Nat),k<1000000->∀(a:Int) (n:Nat),k<n->fS (A:=Model × Int × Int × Int) (fun g p=>rQ (fun cb bs cr dA=>g (cb,bs,cr,dA)) p.1 p.2.1 p.2.2.1 p.2.2.2) n (m,a,b,(k:Int))=some (gj m.aW.l k a b):=by
  intro k
  induction k with
  |zero=>
   intro hk a n hn;cases n with
   |zero=>omega
   |succ n=>exact Tp m aC a b 0 hk _ (fun c h=>by omega)
  |succ k ih=>
   intro hk a n hn;cases n with
   |zero=>omega
   |succ n=>exact Tp m aC a b (k+1) hk _ (fun c _=>ih (by omega) c n (by omega))
 refine QM (n:=k+1) (hit k hk a (k+1) (by omega)) fun n r hr=> ?_;rcases gD k n with h|h
 ·rw[hit k hk a n h]at hr;cases hr;rfl
 ·
  have auV:∀(n k:Nat),k<1000000->∀(a:Int) (r:Bool),fS (A:=Model × Int × Int × Int) (fun g p=>rQ (fun cb bs cr dA=>g (cb,bs,cr,dA)) p.1 p.2.1 p.2.2.1 p.2.2.2) n (m,a,b,(k:Int))=some r->r=gj m.aW.l k a b:=by
   intro n
   induction n with
   |zero=>intro k _ a r hr;cases hr
   |succ n ih=>
    intro k hk a r hr;have dd:rQ (fun cb bs cr dA=>fS (A:=Model × Int × Int × Int) (fun g p=>rQ (fun cb bs cr dA=>g (cb,bs,cr,dA)) p.1 p.2.1 p.2.2.1 p.2.2.2) n (cb,bs,cr,dA)) m a b (k:Int)=some r:=hr;have full:=Tp m aC a b k hk (fun cb bs cr dA=>some (gj m.aW.l (k-1) bs b)) (fun c _=>rfl);unfold rQ at dd full;cases kA:a==b with
    |true=>rw[kA]at dd full;simp only[cond_true]at dd full;rw[dd]at full;cases full;rfl
    |false=>
     rw[kA]at dd full;simp only[cond_false]at dd full;obtain⟨o,ho,o1⟩:=dW.1 dd
     have tC:bW (qW m a b (k:Int) (fun cb bs cr dA=>some (gj m.aW.l (k-1) bs b))) 0=some o:=by
      obtain⟨q,bu⟩:=tX.1 ho;refine tX.2 ⟨q,?_⟩
      have mono:∀(q:Nat) (i:Int) (o:bO Unit Unit),o7 (qW m a b (k:Int) (fun cb bs cr dA=>fS (A:=Model × Int × Int × Int) (fun g p=>rQ (fun cb bs cr dA=>g (cb,bs,cr,dA)) p.1 p.2.1 p.2.2.1 p.2.2.2) n (cb,bs,cr,dA))) q i=some o->
        o7 (qW m a b (k:Int) (fun cb bs cr dA=>some (gj m.aW.l (k-1) bs b))) q i=some o:=by
       intro q
       induction q with
       |zero=>intro i o h;cases h
       |succ q auW=>
        intro i o h;simp only[o7]at h⊢
        have ca:∀z,qW m a b (k:Int) (fun cb bs cr dA=>fS (A:=Model × Int × Int × Int) (fun g p=>rQ (fun cb bs cr dA=>g (cb,bs,cr,dA)) p.1 p.2.1 p.2.2.1 p.2.2.2) n (cb,bs,cr,dA)) i=some z->
          qW m a b (k:Int) (fun cb bs cr dA=>some (gj m.aW.l (k-1) bs b)) i=some z:=by
         intro z aJ;unfold qW at aJ⊢;cases hc:(decide (i<m.aW.len)&&decide ((k:Int)>0))with
         |false=>rw[hc]at aJ;exact aJ
         |true=>
          rw[hc]at aJ;simp only[cond_true]at aJ⊢
          have rv:0<k:=by
           simp only[cm,decide_eq_true_eq]at hc;omega
          have hw:aL ((k:Int)-1)=((k-1:Nat):Int):=by rw[fF (by omega) (by omega)];omega
          rw[hw]at aJ;cases hx:aO m.aW.l i with
          |none=>rw[hx]at aJ;cases aJ
          |some h=>
           rw[hx]at aJ;simp only[aS]at aJ⊢;cases ht:h.Table==a with
           |false=>rw[ht]at aJ;exact aJ
           |true=>
            rw[ht]at aJ;simp only[cond_true]at aJ⊢;cases Fl:fS (A:=Model × Int × Int × Int) (fun g p=>rQ (fun cb bs cr dA=>g (cb,bs,cr,dA)) p.1 p.2.1 p.2.2.1 p.2.2.2) n (m,h.bS,b,((k-1:Nat):Int))with
            |none=>rw[Fl]at aJ;cases aJ
            |some y=>
             rw[Fl]at aJ;have:=ih (k-1) (by omega) h.bS y Fl;rw[this]at aJ;exact aJ
        cases aJ:qW m a b (k:Int) (fun cb bs cr dA=>fS (A:=Model × Int × Int × Int) (fun g p=>rQ (fun cb bs cr dA=>g (cb,bs,cr,dA)) p.1 p.2.1 p.2.2.1 p.2.2.2) n (cb,bs,cr,dA)) i with
        |none=>rw[aJ]at h;cases h
        |some z=>
         rw[ca z aJ];rw[aJ]at h;cases z with
         |next j=>exact auW j o h
         |out u=>exact h
      exact mono q 0 o bu
     rw[tC]at full;rw[aS,o1]at full;cases full;rfl
  exact auV n k hk a r hr
theorem auX{ts:ae Table}{h:fp}:(bif ((decide (h.Table<0))||((decide (h.Table>=ts.len))||((decide (h.bS<0))||((decide (h.bS>=ts.len))||(h.Table==h.bS)))))then some true else((aO ts.l h.Table).bind fun jz=>((aO ts.l h.bS).bind fun qd=>(((bif (jz.Kind != 0)then some true else(bif (qd.Kind != 0)then some true else(bif (decide (h.dK<0))then some true else(bif (decide (h.dK>=jz.aZ.len))then some true else(bif (qd.aZ.len != 1)then some true else((aO qd.aZ.l 0).bind fun sW=>((aO jz.aZ.l h.dK).bind fun A8=>some (sW != A8)))))))):Option (Bool))))):Option Bool)=some (!oh ts.l h):=by
 unfold oh;rw[q4 h.Table,q4 h.bS,show decide (h.Table>=ts.len)=!decide (h.Table<(ts.l.length:Int))from by rw[q4,dn];simp,show decide (h.bS>=ts.len)=!decide (h.bS<(ts.l.length:Int))from by rw[q4,dn];simp];cases ak:decide (h.Table>=0)with
 |false=>rfl
 |true=>
  cases a2:decide (h.Table<(ts.l.length:Int))with
  |false=>rfl
  |true=>
   cases a3:decide (h.bS>=0)with
   |false=>rfl
   |true=>
    cases a4:decide (h.bS<(ts.l.length:Int))with
    |false=>rfl
    |true=>
     cases h.Table==h.bS with
     |true=>rfl
     |false=>
      have b1:0<=h.Table:=by simpa using ak
      have e8:h.Table<(ts.l.length:Int):=by simpa using a2
      have h7:0<=h.bS:=by simpa using a3
      have j9:h.bS<(ts.l.length:Int):=by simpa using a4
      have cT:h.Table.toNat<ts.l.length:=by omega
      have dI:h.bS.toNat<ts.l.length:=by omega
      have g1:ts.l[h.Table.toNat]? =some ts.l[h.Table.toNat]:=by simp[cT]
      have g2:ts.l[h.bS.toNat]? =some ts.l[h.bS.toNat]:=by simp[dI]
      simp only[fZ,zx,cond_false,ta b1,ta h7,g1,g2,aS,pA,dy,bne];cases ts.l[h.Table.toNat].Kind==0 with
      |false=>rfl
      |true=>
       cases ts.l[h.bS.toNat].Kind==0 with
       |false=>rfl
       |true=>
        rw[q4 h.dK,show decide (h.dK>=ts.l[h.Table.toNat].aZ.len)=!decide (h.dK<(ts.l[h.Table.toNat].aZ.l.length:Int))from by rw[q4,dn];simp];cases d1:decide (h.dK>=0)with
        |false=>rfl
        |true=>
         cases d2:decide (h.dK<(ts.l[h.Table.toNat].aZ.l.length:Int))with
         |false=>rfl
         |true=>
          rw[show(ts.l[h.bS.toNat].aZ.len==1)=(ts.l[h.bS.toNat].aZ.l.length==1)from Ii _ 1];cases d3:ts.l[h.bS.toNat].aZ.l.length==1 with
          |false=>rfl
          |true=>
           have ad:0<=h.dK:=by simpa using d1
           have e2:h.dK<(ts.l[h.Table.toNat].aZ.l.length:Int):=by simpa using d2
           have bK:ts.l[h.bS.toNat].aZ.l.length=1:=by simpa using d3
           have f1:h.dK.toNat<ts.l[h.Table.toNat].aZ.l.length:=by omega
           have b4:ts.l[h.Table.toNat].aZ.l[h.dK.toNat]? =some ts.l[h.Table.toNat].aZ.l[h.dK.toNat]:=by simp[f1]
           have f2:0<ts.l[h.bS.toNat].aZ.l.length:=by omega
           have dq:ts.l[h.bS.toNat].aZ.l[0]? =some ts.l[h.bS.toNat].aZ.l[0]:=by simp[f2]
           simp only[fZ,cond_false,ta ad,S7,b4,dq,aS,dy,Eh b4,Eh dq]
theorem auY (m:Model)(h2:bk m.Tables.l)(aC:bk m.aW.l)(hT:m.Tables.l.length<1000000):LL m=some (yx m.Tables.l m.aW.l):=by
 unfold LL yx;rw[show decide (m.aW.len>12)=!decide (m.aW.l.length<=12)from kQ m.aW 12];cases decide (m.aW.l.length<=12)with
 |false=>rfl
 |true=>
  simp only[fZ,cond_false,dy]
  rw[mw (f:=LJ m) m.aW.l aC (fun h=>!oh m.Tables.l h) (fun k h hx=>by
   have e:=auX (ts:=m.Tables) (h:=h);simp only[LJ,fk (en hx),cond_true,dc,hx,aS];cases hc:((decide (h.Table<0))||((decide (h.Table>=m.Tables.len))||((decide (h.bS<0))||((decide (h.bS>=m.Tables.len))||(h.Table==h.bS)))))with
   |true=>
    rw[hc]at e;simp only[cond_true,aD]at e;rw[<-e];rfl
   |false=>
    rw[hc]at e;simp only[cond_false]at e⊢;obtain⟨t,ad,e⟩:=dW.1 e;obtain⟨u,e2,e⟩:=dW.1 e;rw[ad,e2];simp only[aS];rw[e];cases oh m.Tables.l h<;>rfl) (by simp only[LJ,fQ,cond_false])]
  rw[px];cases m.aW.l.any (fun h=>!oh m.Tables.l h)with
  |true=>rfl
  |false=>
   simp only[cond_false,aS,pA,dy]
   rw[mw (f:=LK m) m.aW.l aC (fun h=>gj m.aW.l m.Tables.l.length h.bS h.Table) (fun k h hx=>by
    have hl:m.Tables.len=((m.Tables.l.length:Nat):Int):=rfl;simp only[LK,fk (en hx),cond_true,dc,hx,aS,hl,auU m aC h.bS h.Table m.Tables.l.length hT];cases gj m.aW.l m.Tables.l.length h.bS h.Table<;>rfl) (by simp only[LK,fQ,cond_false])]
   unfold sV
   have:(m.aW.l.all fun h=>!gj m.aW.l m.Tables.l.length h.bS h.Table)=!(m.aW.l.any fun h=>gj m.aW.l m.Tables.l.length h.bS h.Table):=by
    rw[px];simp
   rw[this];cases m.aW.l.any fun h=>gj m.aW.l m.Tables.l.length h.bS h.Table<;>rfl
end
end Go.Abs.bA
namespace Go.Abs.bA
open Go Go.Abs
noncomputable section
theorem auZ{ts:ae Table}{h:fp}:(((nc h.Table ts.len).bind fun mm=>(bif mm then((nc h.bS ts.len).bind fun nG=>(bif nG then some (h.Table==h.bS)else some true))else some true)):Option Bool)=some (!((decide (h.Table>=0)&&decide (h.Table<ts.l.length))&&((decide (h.bS>=0)&&decide (h.bS<ts.l.length))&&!(h.Table==h.bS)))):=by
 unfold nc;rw[dn];cases(decide (h.Table>=0)&&decide (h.Table<(ts.l.length:Int)))with
 |false=>rfl
 |true=>
  cases(decide (h.bS>=0)&&decide (h.bS<(ts.l.length:Int)))with
  |false=>rfl
  |true=>cases h.Table==h.bS<;>rfl
theorem au0 (j:eh){k:Nat}{h:fp}(hx:j.Model.aW.l[k]? =some h):BO j (k:Int)=some (bif !oh j.Model.Tables.l h then .out (.ret ())else .next (aL ((k:Int)+1))):=by
 simp only[BO,fk (en hx),cond_true,dc,hx,aS];rw[auZ];unfold oh;cases a:(decide (h.Table>=0)&&decide (h.Table<(j.Model.Tables.l.length:Int)))with
 |false=>rfl
 |true=>
  cases b:(decide (h.bS>=0)&&decide (h.bS<(j.Model.Tables.l.length:Int)))with
  |false=>rfl
  |true=>
   cases h.Table==h.bS with
   |true=>rfl
   |false=>
    simp only[cm,decide_eq_true_eq]at a b;have cT:h.Table.toNat<j.Model.Tables.l.length:=by omega
    have dI:h.bS.toNat<j.Model.Tables.l.length:=by omega
    have g1:j.Model.Tables.l[h.Table.toNat]? =some j.Model.Tables.l[h.Table.toNat]:=by simp[cT]
    have g2:j.Model.Tables.l[h.bS.toNat]? =some j.Model.Tables.l[h.bS.toNat]:=by simp[dI]
    simp only[pA,xR,dy,fZ,aS,cond_false,ta a.1,ta b.1,g1,g2,bne,nc];cases j.Model.Tables.l[h.Table.toNat].Kind==0 with
    |false=>rfl
    |true=>
     cases j.Model.Tables.l[h.bS.toNat].Kind==0 with
     |false=>rfl
     |true=>
      rw[dn j.Model.Tables.l[h.Table.toNat].aZ,show(j.Model.Tables.l[h.bS.toNat].aZ.len==1)=(j.Model.Tables.l[h.bS.toNat].aZ.l.length==1)from Ii _ 1];cases d:(decide (h.dK>=0)&&decide (h.dK<(j.Model.Tables.l[h.Table.toNat].aZ.l.length:Int)))with
      |false=>rfl
      |true=>
       cases d3:j.Model.Tables.l[h.bS.toNat].aZ.l.length==1 with
       |false=>rfl
       |true=>
        simp only[cm,decide_eq_true_eq]at d;have bK:j.Model.Tables.l[h.bS.toNat].aZ.l.length=1:=by simpa using d3
        have f1:h.dK.toNat<j.Model.Tables.l[h.Table.toNat].aZ.l.length:=by omega
        have b4:j.Model.Tables.l[h.Table.toNat].aZ.l[h.dK.toNat]? =some j.Model.Tables.l[h.Table.toNat].aZ.l[h.dK.toNat]:=by simp[f1]
        have f2:0<j.Model.Tables.l[h.bS.toNat].aZ.l.length:=by omega
        have dq:j.Model.Tables.l[h.bS.toNat].aZ.l[0]? =some j.Model.Tables.l[h.bS.toNat].aZ.l[0]:=by simp[f2]
        simp only[fZ,pA,cond_true,cond_false,ta d.1,S7,b4,dq,aS,dy,Eh b4,Eh dq];cases j.Model.Tables.l[h.bS.toNat].aZ.l[0]==j.Model.Tables.l[h.Table.toNat].aZ.l[h.dK.toNat]<;>rfl
theorem au1 (j:eh):MG j=some (decide (j.Model.aW.l.length<=12)&&j.Model.aW.l.all (oh j.Model.Tables.l)):=by
 unfold MG;rw[show decide (j.Model.aW.len>12)=!decide (j.Model.aW.l.length<=12)from kQ j.Model.aW 12];cases h:decide (j.Model.aW.l.length<=12)with
 |false=>rfl
 |true=>
  have hl:j.Model.aW.l.length<=12:=by simpa using h
  simp only[fZ,cond_false,dy];rw[mw (f:=BO j) j.Model.aW.l (by omega) (fun h=>!oh j.Model.Tables.l h) (fun k h hx=>au0 j hx) (by simp only[BO,fQ,cond_false])];rw[px];cases j.Model.aW.l.any (fun h=>!oh j.Model.Tables.l h)<;>rfl
def cv (ks:List Int):List (Int × Bool):=ks.map fun t=>(t,true)
def za (ks:List Int)(t:Int):List Int:=if t∈ks then ks else ks++[t]
theorem afQ (t:Int):∀ks,ly (cv ks) t true=cv (za ks t)
 |[]=>rfl
 |k::ks=>by
  have ih:=afQ t ks;unfold cv za at*;simp only[dX,ly];by_cases e:t=k
  ·subst e;simp
  ·have ad:(t==k)=false:=by simp[e]
   rw[ad];simp only[fV,if_false,ih,dG,e,false_or];by_cases h:t∈ks<;>simp[h]
theorem afR (t:Int):∀ks,(hI (cv ks) t).getD false=decide (t∈ks)
 |[]=>rfl
 |k::ks=>by
  have ih:=afR t ks;unfold cv hI at*;simp only[dX,NN];by_cases e:t=k
  ·subst e;simp
  ·have ad:(t==k)=false:=by simp[e]
   rw[ad];simp only[ih,dG,e,false_or]
theorem Tq (t:Int):∀ks,jm 0 (ao t) (gr ao V.bool (cv ks))=gr ao V.bool (cv (ks.erase t))
 |[]=>rfl
 |k::ks=>by
  have ih:=Tq t ks;simp only[cv,gr]at ih⊢;simp only[dX,jm,yv,aD,beq_iff_eq,List.erase_cons];by_cases e:t=k
  ·subst e;simp
  ·rw[if_neg e,if_neg (fun h=>e h.symm),ih];rfl
theorem au2{ks:List Int}(h:ks.Nodup)(t:Int):(za ks t).Nodup:=by
 unfold za;split
 ·exact h
 ·rename_i hn
  exact zs.2 ⟨h,by simp,fun x hx y hy=>by
   simp only[dG,th,or_false]at hy;subst hy;exact fun q=>hn (q ▸ hx)⟩
theorem au3{ks:List Int}{t x:Int}:x∈za ks t↔x∈ks\/x=t:=by
 unfold za;split
 ·rename_i h;exact⟨.inl,fun q=>q.elim id fun e=>e ▸ h⟩
 ·simp
def zb (hs:List fp)(ks:List Int):List Int:=hs.foldl (fun ks h=>za ks h.Table) ks
theorem afS:∀(hs:List fp) {ks:List Int},ks.Nodup->(zb hs ks).Nodup
 |[],_,h=>h
 | _::hs,_,h=>afS hs (au2 h _)
theorem afT:∀(hs:List fp) {ks:List Int} {t:Int},t∈zb hs ks↔t∈ks\/∃h∈hs,h.Table=t
 |[],ks,t=>by simp[zb]
 |h::hs,ks,t=>by
  have:=afT hs (ks:=za ks h.Table) (t:=t);unfold zb at this⊢;rw[ti,this,au3];simp only[dG,exists_eq_or_imp,or_assoc,eq_comm (a:=t)]
theorem au4 (j:eh)(hl:j.Model.aW.l.length<=12):bW (BP j) (0,[])=some (cv (zb j.Model.aW.l [])):=by
 have key:∀(n k:Nat) (ks:List Int),k+n=j.Model.aW.l.length->bW (BP j) ((k:Int),cv ks)=some (cv (zb (j.Model.aW.l.drop k) ks)):=by
  intro n
  induction n with
  |zero=>
   intro k ks hk;have e:k=j.Model.aW.l.length:=by omega
   rw[hG];subst e;simp only[BP,fQ,cond_false,List.drop_length];rfl
  |succ n ih=>
   intro k ks hk;have aG:k<j.Model.aW.l.length:=by omega
   have hx:j.Model.aW.l[k]? =some j.Model.aW.l[k]:=by simp[aG]
   rw[hG];simp only[BP,fk aG,cond_true,dc,hx,aS,afQ];rw[eS (by omega),ih (k+1) _ (by omega),qo aG];rfl
 exact key j.Model.aW.l.length 0 [] (by omega)
theorem au5 (j:eh)(hl:j.Model.aW.l.length<=12)(t:Int)(ks:List Int):
  Ge j.Model.aW (fun h=>some ((h.Table==t)&&(hI (cv ks) h.bS).getD false))=some (j.Model.aW.l.any fun h=>(h.Table==t)&&decide (h.bS∈ks)):=by
 exact Ia j.Model.aW (by omega) (fun h _=>by rw[afR])
end
end Go.Abs.bA
namespace Go.Abs.bA
open Go Go.Abs
noncomputable section
structure r9 (hs:List fp) (ks:List Int) (d:List V) (k:List Int):Prop where
 dt:k.Nodup
 sub:∀t∈k,t∈ks
 next:∀t∈k,ao t∈d->∃h∈hs,h.Table=t/\h.bS∈ks
 eH:∀K:Int->Prop,(∀t,K t->t∈ks)->(∀t,K t->∃h∈hs,h.Table=t/\K h.bS)->∀t,K t->t∈k
theorem r9.start{hs:List fp}{ks:List Int}(h:ks.Nodup):r9 hs ks [] ks:=⟨h,fun _ h=>h,fun t _ h=>(by cases h),fun _ h _=>h⟩
theorem r9.stay{hs:List fp}{ks k:List Int}{d:List V}(h:r9 hs ks d k){t:Int}(bu:(hs.any fun h=>(h.Table==t)&&decide (h.bS∈k))=true):r9 hs ks (d++[ao t]) k:=by
 refine⟨h.dt,h.sub,fun u hu hd=> ?_,h.eH⟩;rcases kq.1 hd with hd|hd
 ·exact h.next u hu hd
 ·simp only[dG,th,or_false,V.int.injEq,true_and]at hd
  subst hd;obtain⟨x,hx,h1⟩:=uL.1 bu;simp only[cm,beq_iff_eq,decide_eq_true_eq]at h1;exact⟨x,hx,h1.1,h.sub _ h1.2⟩
theorem r9.gone{hs:List fp}{ks k:List Int}{d:List V}(h:r9 hs ks d k){t:Int}(bu:(hs.any fun h=>(h.Table==t)&&decide (h.bS∈k))=false):r9 hs ks (d++[ao t]) (k.erase t):=by
 refine⟨h.dt.erase t,fun u hu=>h.sub u (List.mem_of_mem_erase hu),fun u hu hd=> ?_,fun K h1 h2 u hu=> ?_⟩
 ·have Tr:u≠t:=fun e=>by subst e;exact(List.Nodup.not_mem_erase h.dt) hu
  rcases kq.1 hd with hd|hd
  ·exact h.next u (List.mem_of_mem_erase hu) hd
  ·simp only[dG,th,or_false,V.int.injEq,true_and]at hd
   exact absurd hd Tr
 ·have hk:=h.eH K h1 h2
  have Tr:u≠t:=fun e=>by
   subst e;obtain⟨x,hx,ad,e2⟩:=h2 u hu;have:=List.any_eq_false.1 bu x hx;simp[ad,hk _ e2]at this
  exact(List.mem_erase_of_ne Tr).2 (hk u hu)
theorem r9.fin{hs:List fp}{ks k:List Int}{d:List V}(h:r9 hs ks d k)(al:∀t∈k,ao t∈d):Rd hs ks k:=⟨h.sub,h.dt,fun t ht=>h.next t ht (al t ht),h.eH⟩
variable{C:Ctx}{fid:Nat->Nat}{vars:List Nat}{N:Nat}{aa:Nat->Option cc}
structure uC (j:eh) (ak fa l:Nat) (ts:List Nat) (vs:List V) (ks:List Int) (b:Nat) (s:aw):Prop where
 aM:s.aM=[]
 ro:s.ro=none
 ok:∃σ,Fits s.ay σ/\At σ (1::7::ts) (.ptr ak 0::.ptr fa 0::vs)
 own:Own s.H [[(fa,.cells [.map l])],[(l,.map (gr ao V.bool (cv ks)))],[(ak,.cells (kn j))]]
 len:b<=s.H.length
theorem Ei{s:aw}(h1:s.aM=[])(h2:s.ro=none):s=⟨[],s.ay,s.H,s.low,none⟩:=by cases s;simp_all
theorem au6 (uy:aa 92=some (.code D9))(oW:BK aa){j:eh}(hl:j.Model.aW.l.length<=12){ak fa l li:Nat}{ts:List Nat}{vs:List V}{ks k:List Int}{d:List V}{s:aw}(ht:∀t∈ts,t≠10/\t≠122/\t≠130)(aBO:l<li)
  (hs:uC j ak fa l (120::ts) (.ptr li 0::vs) k (li+1) s) (hp:r9 j.Model.aW.l ks d k) {kv:V × V} (mc:kv∈gr ao V.bool (cv k)):
  SR U me aa l li (gr ao V.bool (cv k)) kv s fun bV ar=>∃bJ,bV=gr ao V.bool (cv bJ)/\uC j ak fa l (120::ts) (.ptr li 0::vs) bJ (li+1) ar/\r9 j.Model.aW.l ks (d++[kv.1]) bJ:=by
 obtain⟨t,Io,rfl⟩:∃t∈k,kv=(ao t,.bool true):=by
  unfold gr cv at mc;rw[pC]at mc;obtain⟨t,h1,h2⟩:=eA.1 mc;exact⟨t,h1,h2.symm⟩
 obtain⟨Ip,Iq,⟨σ,ag,iN⟩,av,hlen⟩:=hs;rw[Ei Ip Iq];have g1:σ 1=.ptr ak 0:=(e5 iN).1;have g7:σ 7=.ptr fa 0:=(e5 (e5 iN).2).1;have Ts:σ 120=.ptr li 0:=(e5 (e5 (e5 iN).2).2).1;have Tt:ts.map σ=vs:=(e5 (e5 (e5 iN).2).2).2
 obtain⟨Dp,H2,dL,iZ,q1,q2,b3,cS,ou,fw,gV,mT⟩:=atm (aa:=aa) (R:=U) (b:=li+1) (kv:=(ao t,.bool true)) (σ:=σ) (H:=s.H) (li:=li) (low:=s.low)
  (Q:=fun aT H'=>∃ou,aT 10=.ptr ou 0/\(∀x,x≠10->x≠122->aT x=σ x)/\Own H' [[(ou,.cells [ao t])],[(fa,.cells [.map l])],[(l,.map (gr ao V.bool (cv k)))],[(ak,.cells (kn j))]])
  Ts (pp (.bool true) <| cZ ⟨rfl,by
   show up σ 122 (.bool true) 120=_
   rw[jU _ _ (by decide)];exact Ts,pp (ao t) <| u7 rfl av fun H' ou hb lW=>u9 (vs:=[ao t]) (cs':=[ao t]) rfl lW 0 rfl hb rfl rfl ⟨rfl,aN _⟩ (by simp[bM]) rfl fun Jl au7=>cZ ⟨ou,rfl,fun x hx aeZ=>by
    show up (up σ 122 (.bool true)) 10 (.ptr ou 0) x=_;rw[jU _ _ hx,jU _ _ aeZ],au7⟩⟩) ag hlen
 have au8:=au5 j hl t k
 obtain⟨dA,zc,oq,M1,sa,bI,cq,e6,gU,rfl,rfl,rfl⟩:=atW (aa:=aa) (b:=li+1) (σ:=iZ) (H:=H2) uy oW (ts:=[]) (vs:=[]) mT (by
  show[iZ 1,iZ 7,iZ 10]=_;rw[gV 1 (by decide) (by decide),gV 7 (by decide) (by decide),fw,g1,g7]) au8 Dp dL q2 b3 cS
 refine⟨_,_,q1,bI,e6,?_⟩
 have xC:∀(aT:bY),(∀x,x≠10->x≠122->x≠130->aT x=σ x)->At aT (1::7::120::ts) (.ptr ak 0::.ptr fa 0::.ptr li 0::vs):=fun aT h=>by
  show _::_::_::List.map aT ts=_;rw[h 1 (by decide) (by decide) (by decide),h 7 (by decide) (by decide) (by decide),h 120 (by decide) (by decide) (by decide),g1,g7,Ts,<-Tt];congr 3;exact q6 fun x hx=>h x (ht x hx).1 (ht x hx).2.1 (ht x hx).2.2
 have CV:(bZ zc 130)=.bool (!(j.Model.aW.l.any fun h=>(h.Table==t)&&decide (h.bS∈k))):=by rw[cq,wW]
 cases hc:(j.Model.aW.l.any fun h=>(h.Table==t)&&decide (h.bS∈k))with
 |true=>
  refine .inl ⟨?_,k,rfl,⟨rfl,rfl,⟨_,cq,xC _ fun x h1 h2 au=> ?_⟩,mT.drop 0,cS⟩,hp.stay hc⟩
  ·show bZ zc 130=_
   rw[CV,hc];rfl
  ·rw[jU _ _ au,gV x h1 h2]
 |false=>
  have mZ:bZ zc 7=.ptr fa 0:=by rw[cq,jU _ _ (by decide),gV 7 (by decide) (by decide),g7]
  have au9:bZ zc 10=.ptr ou 0:=by rw[cq,jU _ _ (by decide),fw]
  have f7:=mT.get 1 rfl;have f10:=mT.get 0 rfl;have bc:=mT.get 2 rfl
  have hex:c8 (b9 aa) MH ⟨[],zc,oq,M1,none⟩ []=some (⟨[(132,ao t),(131,.map l)],zc,oq,min (min M1 oq.length) oq.length,none⟩,[false,false]):=by
   simp[MH,c8,gS,o3,kt,iV,ai.ah,mZ,au9,f7,f10,aw.put,lv]
  refine .inr ⟨?_,_,_,_,hex,by show li<min (min M1 oq.length) oq.length;omega,rfl,F7 (gu:=V.bool) yv t (cv k),k.erase t,Tq t k,⟨rfl,rfl,⟨_,cq,xC _ fun x h1 h2 au=> ?_⟩,?_,?_⟩,hp.gone hc⟩
  ·show bZ zc 130=_
   rw[CV,hc];rfl
  ·rw[jU _ _ au,gV x h1 h2]
  ·have:=mT.put 2 (a:=l) (o:=.map (gr ao V.bool (cv k))) (o':=.map (gr ao V.bool (cv (k.erase t)))) rfl
   have h2:=this.drop 0;show Own (oq.set l (.map (jm 0 (ao t) (gr ao V.bool (cv k))))) _;rw[Tq];exact h2
  ·show li+1<=(oq.set l _).length
   rw[zu];exact cS
theorem ava (cW:C.P.follows .mixedOrders=true)(bP:fl C fid)(bm:hD C fid (b9 aa)){tb:Code}(hr:Ax C vars N tb=some U)(hd:Ed C vars N (MF tb)=some me)(uy:aa 92=some (.code D9))(oW:BK aa)
  {j:eh} (hl:j.Model.aW.l.length<=12) {ak fa l:Nat} {ts:List Nat} {vs:List V} {ks:List Int} {s:aw} (hnd:ks.Nodup) (ht:∀t∈ts,t≠10/\t≠122/\t≠130/\t≠120) (hs:uC j ak fa l ts vs ks 0 s):
  dj C fid vars N tb s fun x ar=>x=.normal/\∃bJ,Rd j.Model.aW.l ks bJ/\uC j ak fa l ts vs bJ 0 ar:=by
 obtain⟨Ip,Iq,⟨σ,ag,iN⟩,av,hlen⟩:=hs;have g1:σ 1=.ptr ak 0:=(e5 iN).1;have g7:σ 7=.ptr fa 0:=(e5 (e5 iN).2).1;have Tt:ts.map σ=vs:=(e5 (e5 iN).2).2;have f7:=av.get 0 rfl;have bc:=av.get 1 rfl;have kf:=qT bc;rw[Ei Ip Iq];have mZ:bZ s.ay 7=.ptr fa 0:=by rw[ag];exact g7
 have hex:c8 (b9 aa) U.t0 ⟨[],s.ay,s.H,s.low,none⟩ []=some (⟨[(119,.map l)],s.ay,s.H,min s.low s.H.length,none⟩,[false]):=by
  simp[U,c8,gS,o3,kt,iV,ai.ah,mZ,f7,aw.put,lv]
 refine(dj.atk cW bP bm hr hd (jR:=⟨[],s.ay,s.H,s.low,none⟩) hex (l:=l) (bz:=gr ao V.bool (cv ks)) rfl bc
  (fun d es ar=>∃bJ,es=gr ao V.bool (cv bJ)/\uC j ak fa l (120::ts) (.ptr s.H.length 0::vs) bJ (s.H.length+1) ar/\r9 j.Model.aW.l ks d bJ)
  (fun es ar=>∃bJ,Rd j.Model.aW.l ks bJ/\uC j ak fa l ts vs bJ 0 ar) ⟨ks,rfl,⟨rfl,rfl,⟨_,acj ag 120 (.ptr s.H.length 0),?_⟩,⟨fun m hm p hp=> ?_,av.2⟩,?_⟩,.start hnd⟩ ?_ ?_ ?_).mono ?_
 ·show up σ 120 (.ptr s.H.length 0) 1::up σ 120 (.ptr s.H.length 0) 7::up σ 120 (.ptr s.H.length 0) 120::List.map (up σ 120 (.ptr s.H.length 0)) ts=_
  rw[jU _ _ (by decide),jU _ _ (by decide),wW,g1,g7,<-Tt];congr 3;exact q6 fun x hx=>jU _ _ (ht x hx).2.2.2
 ·show(s.H++[cf.gone])[p.1]? =_
  rw[fY (av.lt hm hp)];exact av.1 m hm p hp
 ·show s.H.length+1<=(s.H++[cf.gone]).length
  simp
 ·rintro d es ar ⟨bJ,-,h,-⟩
  obtain⟨aT,h1,h2⟩:=h.ok;show bZ ar.ay 120=_;rw[h1];exact(e5 (e5 (e5 h2).2).2).1
 ·rintro d es ar ⟨bJ,rfl,h,hp⟩ kv mc
  exact au6 uy oW hl (fun t q=>⟨(ht t q).1,(ht t q).2.1,(ht t q).2.2.1⟩) kf h hp mc
 ·rintro d es ar ⟨bJ,rfl,⟨de,avb,⟨aT,h1,h2⟩,lW,nR⟩,hp⟩ eC
  rw[Ei de avb];obtain⟨dm,H',low',iZ,q1,q2,b3,cS,fw,rfl⟩:=atl (aa:=aa) (R:=U) (b:=s.H.length+1) (σ:=aT) (H:=ar.H) (low:=ar.low) (Q:=fun iZ H2=>iZ=up aT 122 (.bool false)/\H2=ar.H) (pp (.bool false) <| cZ ⟨rfl,rfl,rfl⟩) h1 nR;subst fw;refine⟨_,q1,b3,bJ,hp.fin fun t Io=>eC (ao t,.bool true) ?_,rfl,rfl,⟨_,q2,?_⟩,lW,cN _⟩
  ·unfold gr cv
   rw[pC];exact eA.2 ⟨t,Io,rfl⟩
  ·show up aT 122 (.bool false) 1::up aT 122 (.bool false) 7::List.map (up aT 122 (.bool false)) ts=_
   have b1:=(e5 h2).1;have B5:=(e5 (e5 h2).2).1;have avc:=(e5 (e5 (e5 h2).2).2).2;rw[jU _ _ (by decide),jU _ _ (by decide),b1,B5,<-avc];congr 2;exact q6 fun x hx=>jU _ _ (ht x hx).2.1
 ·rintro x ar ⟨rfl,es,s2,⟨bJ,h1,h2⟩,rfl⟩
  exact⟨rfl,bJ,h1,h2.aM,h2.ro,h2.ok,h2.own,h2.len⟩
end
end Go.Abs.bA
namespace Go.Abs.bA
open Go Go.Abs
noncomputable section
variable{C:Ctx}{fid:Nat->Nat}{vars:List Nat}{N:Nat}{aa:Nat->Option cc}
theorem Ej{c:cF}{σ:bY}{H:Heap}{Q:X->bY->Heap->Prop}{ay:Env}(h:fj aa 0 c σ H Q)(ag:Fits ay σ)(low:Nat):
  ∃x dm H' low' aT,er aa c ⟨[],ay,H,low,none⟩=some (x,⟨[],dm,H',low',none⟩)/\Fits dm aT/\Q x aT H':=by
 obtain⟨x,dm,H',low',aT,h1,h2,-,-,au⟩:=h ay low ag (cN _) (cN _);exact⟨x,dm,H',low',aT,h1,h2,au⟩
theorem afU{σ:bY}{a b c d:Nat}{x y z w:V}(h:At σ [a,b,c,d] [x,y,z,w]):At σ [a,b] [x,y]:=by
 simp only[At,dX,jF,xP]at h⊢;exact⟨h.1,h.2.1,trivial⟩
theorem avd{σ:bY}{a b:Nat}{x y:V}(h:At σ [a,b] [x,y]):At σ [b] [y]:=by
 simp only[At,dX,jF,xP]at h⊢;exact⟨h.2.1,trivial⟩
def Tu:cF:=.region [⟨some (118,true),.bin .lss (.var 117) (.var 116),none⟩] none
def Tv:cF:=.cond (.var 118) .skip (.exit 4)
def Tw:cF:=.region [⟨some (133,false),.bin .add (.var 117) (.const (.int .i64 1)),none⟩,⟨some (117,true),.mv (.tmp 133),none⟩] none
section
variable{b:Nat}{σ:bY}{H:Heap}
theorem ave{ab:eh}{ak fa l:Nat}{m:List (Int × Bool)}(j:At σ [1,7] [.ptr ak 0,.ptr fa 0])(av:Own H [[(fa,.cells [.map l])],[(l,.map (gr ao V.bool m))],[(ak,.cells (kn ab))]]):
  fj aa b (yZ (hA 6)) σ H fun x aT H'=>x=.normal/\H'=H/\At aT [1,7,116,117] [.ptr ak 0,.ptr fa 0,ao ab.Model.aW.len,ao 0]:=by
 rw[<-F8 j];refine lR <| pp (.ptr ak 0) <| pp (.ptr ak 6) <| ph (aV 3 iv ab.Model.aW) (fo rfl (av.get 2 rfl) rfl) <| ph (ao ab.Model.aW.len) (od rfl _) <| pp (ao 0) <| cZ ⟨rfl,rfl,rfl⟩
theorem avf{i n:Int}(h1:σ 116=ao n)(h2:σ 117=ao i):fj aa b (.seq Tu Tv) σ H fun x aT H'=>x=(if i<n then .normal else .exit 4)/\H'=H/\aT=up σ 118 (.bool (decide (i<n))):=by
 refine gW <| lR <| ph (.bool (decide (i<n))) ?_ <| cZ ?_
 ·rw[n9]
  show(eF .lss (σ 117) (σ 116)).map _=_;rw[h1,h2];rfl
 ·by_cases h:i<n
  ·refine p4 (β:=decide (i<n)) rfl (by simpa using h) (nA ⟨by rw[if_pos h],rfl,rfl⟩)
  ·refine nB (β:=decide (i<n)) rfl (by simpa using h) (wX ⟨by rw[if_neg h],rfl,rfl⟩)
theorem avg{i:Int}(h2:σ 117=ao i):fj aa b Tw σ H fun x aT H'=>x=.normal/\H'=H/\aT=up σ 117 (ao (aL (i+1))):=by
 refine lR <| ph (ao (aL (i+1))) ?_ <| pp (ao (aL (i+1))) <| cZ ⟨rfl,rfl,rfl⟩
 rw[n9];show(eF .add (σ 117) (ao 1)).map _=_;rw[h2];rfl
end
theorem avh (cW:C.P.follows .mixedOrders=true)(bP:fl C fid)(bm:hD C fid (b9 aa)){hd o6 tb inc:Code}(cT:C.code vars N hd=some Tu)(dI:C.code vars N o6=some Tv)(fg:C.code vars N inc=some Tw)
  (hr:Ax C vars N tb=some U) (l7:Ed C vars N (MF tb)=some me) (uy:aa 92=some (.code D9)) (oW:BK aa) {j:eh} (hl:j.Model.aW.l.length<=12) {ak fa l:Nat} {ks:List Int} {s:aw} (hnd:ks.Nodup)
  (hs:uC j ak fa l [116,117] [ao j.Model.aW.len,ao 0] ks 0 s):
  dj C fid vars N (.block 4 (.loop (.seq hd (.seq o6 (.seq (.block 5 tb) inc))))) s fun x ar=>x=.normal/\∃bJ,rO j.Model.aW.l ks j.Model.aW.l.length bJ/\uC j ak fa l [] [] bJ 0 ar:=by
 refine dj.block (dj.loop (fun k ar=>∃(i:Nat) (bJ:List Int),i+k=j.Model.aW.l.length/\bJ.Nodup/\rO j.Model.aW.l ks i bJ/\uC j ak fa l [116,117] [ao j.Model.aW.len,ao i] bJ 0 ar) j.Model.aW.l.length ⟨0,ks,by omega,hnd,.zero,hs⟩ ?_);rintro k s1 ⟨i,b4,aBP,avi,EZ,Ip,Iq,⟨σ,ag,iN⟩,av,hlen⟩;have g1:σ 1=.ptr ak 0:=(e5 iN).1;have g7:σ 7=.ptr fa 0:=(e5 (e5 iN).2).1;have afV:σ 116=ao j.Model.aW.len:=(e5 (e5 (e5 iN).2).2).1;have afW:σ 117=ao i:=(e5 (e5 (e5 (e5 iN).2).2).2).1;rw[Ei Ip Iq];obtain⟨x,dm,H',low',aT,q1,q2,b3,rfl,fw⟩:=Ej (aa:=aa) (avf (H:=s1.H) afV afW) ag s1.low;have afX:j.Model.aW.len=(j.Model.aW.l.length:Int):=rfl
 have Tx:At aT [1,7,116,117] [.ptr ak 0,.ptr fa 0,ao j.Model.aW.len,ao i]:=by
  rw[fw];show[up σ 118 (.bool (decide ((i:Int)<j.Model.aW.len))) 1,up σ 118 (.bool (decide ((i:Int)<j.Model.aW.len))) 7,up σ 118 (.bool (decide ((i:Int)<j.Model.aW.len))) 116,up σ 118 (.bool (decide ((i:Int)<j.Model.aW.len))) 117]=_;rw[jU _ _ (by decide),jU _ _ (by decide),jU _ _ (by decide),jU _ _ (by decide),g1,g7,afV,afW]
 by_cases hi:i<j.Model.aW.l.length
 ·have hx:x=.normal:=by rw[b3,if_pos (by rw[afX];omega)]
  subst hx;refine dj.BN cW bP bm cT q1 (fun s2 qC=>dj.seq (dj.er cW bP bm dI qC) (fun fy au=> ?_) fun y fy hy au=>absurd au.1 hy) (fun h=>absurd rfl h);obtain⟨-,rfl⟩:=au;refine dj.seq (Kj:=fun y fy=>y=.normal/\∃bJ,Rd j.Model.aW.l b4 bJ/\uC j ak fa l [116,117] [ao j.Model.aW.len,ao i] bJ 0 fy) (dj.block ((ava (s:=⟨[],dm,s1.H,low',none⟩) cW bP bm hr l7 uy oW hl avi (ts:=[116,117]) (vs:=[ao j.Model.aW.len,ao i]) (by decide) ⟨rfl,rfl,⟨aT,q2,Tx⟩,av,cN _⟩).mono fun y fy hy=>⟨by rw[hy.1];rfl,hy.2⟩)) (fun fy au=> ?_) fun y fy hy au=>absurd au.1 hy;obtain⟨-,dq,afY,FF,C6,⟨sa,avj,xC⟩,l1,XV⟩:=au;have b1:sa 1=.ptr ak 0:=(e5 xC).1;have B5:sa 7=.ptr fa 0:=(e5 (e5 xC).2).1;have avk:sa 116=ao j.Model.aW.len:=(e5 (e5 (e5 xC).2).2).1;have bi:sa 117=ao i:=(e5 (e5 (e5 (e5 xC).2).2).2).1;rw[Ei FF C6];obtain⟨y,RG,DR,avl,RH,bI,cq,rfl,rfl,ju⟩:=Ej (aa:=aa) (avg (H:=fy.H) bi) avj fy.low;refine(dj.er cW bP bm fg bI).mono fun y kL hy=> ?_;obtain⟨rfl,rfl⟩:=hy;refine .inl ⟨rfl,k-1,by omega,i+1,dq,by omega,afY.dt,.succ EZ afY,rfl,rfl,⟨RH,cq,?_⟩,l1,cN _⟩;rw[ju];show[up sa 117 (ao (aL ((i:Int)+1))) 1,up sa 117 (ao (aL ((i:Int)+1))) 7,up sa 117 (ao (aL ((i:Int)+1))) 116,up sa 117 (ao (aL ((i:Int)+1))) 117]=_;rw[jU _ _ (by decide),jU _ _ (by decide),jU _ _ (by decide),wW,b1,B5,avk,eS (by omega)]
 ·have hx:x=.exit 4:=by rw[b3,if_neg (by rw[afX];omega)]
  subst hx;refine dj.BN cW bP bm cT q1 (fun s2 qC=>dj.seq (dj.er cW bP bm dI qC) (fun fy au=>absurd au.1 (by simp)) fun y fy hy au=> ?_) (fun _=> ?_)
  ·obtain⟨rfl,rfl⟩:=au
   have:i=j.Model.aW.l.length:=by omega
   subst this;exact .inr ⟨by simp,rfl,b4,EZ,rfl,rfl,⟨aT,q2,afU Tx⟩,av,cN _⟩
  ·have:i=j.Model.aW.l.length:=by omega
   subst this;exact .inr ⟨by simp,rfl,b4,EZ,rfl,rfl,⟨aT,q2,afU Tx⟩,av,cN _⟩
theorem avm (cW:C.P.follows .mixedOrders=true)(bP:fl C fid)(bm:hD C fid (b9 aa)){p1 p2 p3 mR uo HU Mv hd o6 tb inc:Code}(ad:C.code vars N p1=some (hA 1))(e2:C.code vars N p2=some (hA 2))(bK:C.code vars N p3=some (hA 3))(cw:C.code vars N mR=some (hA 4))(dC:C.code vars N uo=some (hA 5))
  (gp:C.code vars N HU=some (yZ (hA 6))) (mZ:C.code vars N Mv=some (hA 7)) (cT:C.code vars N hd=some Tu) (dI:C.code vars N o6=some Tv) (fg:C.code vars N inc=some Tw)
  (hr:Ax C vars N tb=some U) (l7:Ed C vars N (MF tb)=some me) (uy:aa 92=some (.code D9)) (oW:BK aa) (Ty:My aa) (j:eh):
  dj C fid vars N (.seq p1 (.seq p2 (.seq p3 (.seq mR (.seq uo (.seq (.seq HU (.block 4 (.loop (.seq hd (.seq o6 (.seq (.block 5 tb) inc)))))) Mv)))))) ⟨[],iK 0 [.agg (kn j)],[],0,none⟩
   fun x s=>x=.ret/\bZ s.ay 2=.bool (yx j.Model.Tables.l j.Model.aW.l):=by
 obtain⟨x,lx,H1,bL,cM,q1,q2,b3⟩:=Ej (aa:=aa) (atn (H0:=[]) Ty j (au1 j)) (KQ 0 [.agg (kn j)]) 0;unfold yx;cases a1:(decide (j.Model.aW.l.length<=12)&&j.Model.aW.l.all (oh j.Model.Tables.l))with
 |false=>
  rw[a1]at b3;obtain⟨rfl,iN⟩:=b3;have af:bZ lx 2=.bool false:=(q2 2).trans (e5 iN).1
  have aJ:(decide (j.Model.aW.l.length<=12)&&(j.Model.aW.l.all (oh j.Model.Tables.l)&&sV j.Model.aW.l j.Model.Tables.l.length))=false:=by
   rw[<-Cj,a1];rfl
  rw[aJ];refine dj.BN cW bP bm ad q1 (fun s2 h2=>dj.BN cW bP bm e2 h2 (fun fy au=>dj.seq (dj.er cW bP bm bK au) (fun kL a7=>absurd a7.1 (by simp)) fun y kL hy a7=> ?_) fun _=>⟨rfl,af⟩) fun _=>⟨rfl,af⟩;obtain⟨rfl,rfl⟩:=a7;exact⟨rfl,af⟩
 |true=>
  rw[a1]at b3;obtain⟨rfl,ak,-,iN,av⟩:=b3;obtain⟨afZ,eC⟩:=Bool.and_eq_true_iff.1 a1;have hl:j.Model.aW.l.length<=12:=by simpa using afZ
  rw[afZ,eC,dy,dy];refine dj.BN cW bP bm ad q1 (fun s2 h2=>dj.BN cW bP bm e2 h2 (fun fy au=>dj.seq (dj.er cW bP bm bK au) (fun kL a7=> ?_) fun y kL hy a7=>absurd a7.1 hy) fun h=>absurd rfl h) fun h=>absurd rfl h;obtain⟨-,rfl⟩:=a7;obtain⟨x,Dp,H2,dL,iZ,bI,cq,rfl,fa,l,-,-,avn,vz⟩:=Ej (aa:=aa) (atH (b:=0) j iN av (au4 j hl)) q2 bL;refine dj.BN cW bP bm cw bI (fun s2 h2=>dj.seq (dj.er cW bP bm dC h2) (fun kL a7=> ?_) fun y kL hy a7=>absurd a7.1 hy) fun h=>absurd rfl h;obtain⟨-,rfl⟩:=a7;obtain⟨x,zc,oq,M1,sa,t1,t2,rfl,rfl,xC⟩:=Ej (aa:=aa) (ave (b:=0) avn vz) cq dL;have hnd:(zb j.Model.aW.l []).Nodup:=afS _ Ji;refine dj.seq (dj.seq (dj.er cW bP bm gp t1) (fun kL a7=> ?_) fun y kL hy a7=>absurd a7.1 hy) (fun Tz h5=> ?_) fun y Tz hy (h5:y=.normal/\∃bJ,rO j.Model.aW.l (zb j.Model.aW.l []) j.Model.aW.l.length bJ/\uC j ak fa l [] [] bJ 0 Tz)=>absurd h5.1 hy
  ·obtain⟨-,rfl⟩:=a7
   exact avh cW bP bm cT dI fg hr l7 uy oW hl hnd ⟨rfl,rfl,⟨sa,t2,xC⟩,vz,cN _⟩
  ·obtain⟨-,bJ,avo,avp,PC,⟨avq,avr,avs⟩,Ir,-⟩:=h5
   rw[Ei avp PC];have B5:At avq [7] [.ptr fa 0]:=avd avs;obtain⟨x,avt,af0,aBQ,aBR,kW,rm,rfl,avu⟩:=Ej (aa:=aa) (atU (b:=0) B5 Ir) avr Tz.low;refine(dj.er cW bP bm mZ kW).mono fun y aBS hy=> ?_;obtain⟨rfl,rfl⟩:=hy;refine⟨rfl,?_⟩;show bZ avt 2=_;rw[rm 2,(e5 avu).1]
   have fM:∀h∈j.Model.aW.l,0<=h.Table/\h.Table<(j.Model.Tables.l.length:Int):=fun h c7=>by
    have:=eE.1 eC h c7;unfold oh at this;simp only[cm,decide_eq_true_eq]at this;exact⟨this.1.1,this.1.2⟩
   rw[<-apw (N:=j.Model.Tables.l.length) hnd (fun t=>by rw[afT];simp) fM avo];unfold cv;rw[gR]
end
end Go.Abs.bA
namespace Go.Abs.bA
open Go Go.Abs
noncomputable section
theorem TA (x:ck)(n:Nat):decide ((x.length:Int)>(n:Int))=!decide (x.length<=n):=by
 rw[afI];congr 1;exact decide_eq_decide.2 (by omega)
def Is (t:Table):Bool:=decide (t.Name.length<=40)&&decide (t.aZ.l.length<=12)
def It (s:List Int)(ts:List Table):Bool:=ts.all Is&&(decide (s.length<=12)&&decide (ts.length<=20))
theorem avv (s:ae Int)(ts:ae Table)(h:bk ts.l):GR s ts=some (It s.l ts.l):=by
 unfold GR
 rw[mw (f:=Lc ts) ts.l h (fun t=>!Is t) (fun k t ht=>by
  simp only[Lc,fk (en ht),cond_true,dc,ht,aS];rw[show decide ((t.Name.length:Int)>40)=!decide (t.Name.length<=40)from TA t.Name 40,show decide (t.aZ.len>12)=!decide (t.aZ.l.length<=12)from kQ t.aZ 12];unfold Is;cases decide (t.Name.length<=40)<;>cases decide (t.aZ.l.length<=12)<;>rfl) (by simp only[Lc,fQ,cond_false])]
 unfold It;rw[px,show decide (s.len<=12)=decide (s.l.length<=12)from B2 s 12,show decide (ts.len<=20)=decide (ts.l.length<=20)from B2 ts 20];cases ts.l.any fun t=>!Is t<;>rfl
def Iu (o:c0):Bool:=decide (o.Name.length<=40)&&decide (o.aA.l.length<=6)
def TB (x:dV):Bool:=decide (x.Delta.l.length<=20)&&(decide (x.fX.l.length<=10)&&decide (x.e4.l.length<=40))
def TC (x:dV):Bool:=x.fX.l.all fun r=>decide (r.da.l.length<=20)
def Iv (a:Action):Bool:=(decide (a.dQ.l.length<=6)&&TB a.dV)&&TC a.dV
def tc (m:Model):Bool:=
 (decide (m.aA.l.length<=8)&&(decide (m.Tables.l.length<=6)&&(decide (m.eg.l.length<=20)&&(decide (m.di.l.length<=60)&&(decide (m.Operations.l.length<=8)&&(decide (m.Actions.l.length<=30)&&(decide (m.aW.l.length<=12)&&It m.aA.l m.Tables.l)))))))&&
 ((m.eg.l.all fun x=>decide (x.length<=40))&&((m.di.l.all fun c=>decide (c.Row.da.l.length<=20))&&(m.Operations.l.all Iu&&m.Actions.l.all Iv)))
theorem af1 (m:Model):DH m=some (tc m):=by
 unfold DH tc
 rw[show decide (m.aA.len>8)=!decide (m.aA.l.length<=8)from kQ m.aA 8,show decide (m.Tables.len>6)=!decide (m.Tables.l.length<=6)from kQ m.Tables 6,
  show decide (m.eg.len>20)=!decide (m.eg.l.length<=20)from kQ m.eg 20,show decide (m.di.len>60)=!decide (m.di.l.length<=60)from kQ m.di 60,
  show decide (m.Operations.len>8)=!decide (m.Operations.l.length<=8)from kQ m.Operations 8,show decide (m.Actions.len>30)=!decide (m.Actions.l.length<=30)from kQ m.Actions 30,
  show decide (m.aW.len>12)=!decide (m.aW.l.length<=12)from kQ m.aW 12]
 cases h1:decide (m.aA.l.length<=8)with
 |false=>rfl
 |true=>
 cases h2:decide (m.Tables.l.length<=6)with
 |false=>rfl
 |true=>
 cases au:decide (m.eg.l.length<=20)with
 |false=>rfl
 |true=>
 cases a7:decide (m.di.l.length<=60)with
 |false=>rfl
 |true=>
 cases h5:decide (m.Operations.l.length<=8)with
 |false=>rfl
 |true=>
 cases fL:decide (m.Actions.l.length<=30)with
 |false=>rfl
 |true=>
 cases mS:decide (m.aW.l.length<=12)with
 |false=>rfl
 |true=>
 have q2:m.Tables.l.length<=6:=by simpa using h2
 have b3:m.eg.l.length<=20:=by simpa using au
 have cS:m.di.l.length<=60:=by simpa using a7
 have fw:m.Operations.l.length<=8:=by simpa using h5
 have gV:m.Actions.l.length<=30:=by simpa using fL
 simp only[fZ,cond_false,dy];rw[avv m.aA m.Tables (by unfold bk;omega)];cases It m.aA.l m.Tables.l with
 |false=>rfl
 |true=>
 simp only[aS,fZ,cond_false,dy]
 rw[mw (f:=Ld m) m.eg.l (by omega) (fun x=>!decide (x.length<=40)) (fun k x hx=>by
  simp only[Ld,fk (en hx),cond_true,dc,hx,aS];rw[show decide ((x.length:Int)>40)=!decide (x.length<=40)from TA x 40];cases decide (x.length<=40)<;>rfl) (by simp only[Ld,fQ,cond_false])]
 rw[px];cases m.eg.l.any fun x=>!decide (x.length<=40)with
 |true=>rfl
 |false=>
 simp only[aS,pA,cond_false,dy]
 rw[mw (f:=Le m) m.di.l (by omega) (fun c=>!decide (c.Row.da.l.length<=20)) (fun k c hx=>by
  simp only[Le,fk (en hx),cond_true,dc,hx,aS];rw[show decide (c.Row.da.len>20)=!decide (c.Row.da.l.length<=20)from kQ c.Row.da 20];cases decide (c.Row.da.l.length<=20)<;>rfl) (by simp only[Le,fQ,cond_false])]
 rw[px (l:=m.di.l)];cases m.di.l.any fun c=>!decide (c.Row.da.l.length<=20)with
 |true=>rfl
 |false=>
 simp only[aS,pA,cond_false,dy]
 rw[mw (f:=Lf m) m.Operations.l (by omega) (fun o=>!Iu o) (fun k o hx=>by
  simp only[Lf,fk (en hx),cond_true,dc,hx,aS];rw[show decide ((o.Name.length:Int)>40)=!decide (o.Name.length<=40)from TA o.Name 40,show decide (o.aA.len>6)=!decide (o.aA.l.length<=6)from kQ o.aA 6];unfold Iu;cases decide (o.Name.length<=40)<;>cases decide (o.aA.l.length<=6)<;>rfl) (by simp only[Lf,fQ,cond_false])]
 rw[px (l:=m.Operations.l)];cases m.Operations.l.any fun o=>!Iu o with
 |true=>rfl
 |false=>
 simp only[aS,pA,cond_false,dy]
 rw[mw (f:=Lh m) m.Actions.l (by omega) (fun a=>!Iv a) (fun k a hx=>by
  simp only[Lh,fk (en hx),cond_true,dc,hx,aS]
  rw[show decide (a.dQ.len>6)=!decide (a.dQ.l.length<=6)from kQ a.dQ 6,show decide (a.dV.Delta.len>20)=!decide (a.dV.Delta.l.length<=20)from kQ a.dV.Delta 20,
   show decide (a.dV.fX.len>10)=!decide (a.dV.fX.l.length<=10)from kQ a.dV.fX 10,show decide (a.dV.e4.len>40)=!decide (a.dV.e4.l.length<=40)from kQ a.dV.e4 40]
  unfold Iv TB;cases decide (a.dQ.l.length<=6)with
  |false=>rfl
  |true=>
   cases decide (a.dV.Delta.l.length<=20)with
   |false=>rfl
   |true=>
    cases c7:decide (a.dV.fX.l.length<=10)with
    |false=>rfl
    |true=>
     cases decide (a.dV.e4.l.length<=40)with
     |false=>rfl
     |true=>
      have hl:a.dV.fX.l.length<=10:=by simpa using c7
      simp only[fZ,cond_false,aS,xR,dy]
      rw[mw (f:=Lg a) a.dV.fX.l (by omega) (fun r=>!decide (r.da.l.length<=20)) (fun k r hx=>by
       simp only[Lg,fk (en hx),cond_true,dc,hx,aS];rw[show decide (r.da.len>20)=!decide (r.da.l.length<=20)from kQ r.da 20];cases decide (r.da.l.length<=20)<;>rfl) (by simp only[Lg,fQ,cond_false])]
      unfold TC;rw[px];cases a.dV.fX.l.any fun r=>!decide (r.da.l.length<=20)<;>rfl) (by simp only[Lh,fQ,cond_false])]
 rw[px (l:=m.Actions.l)];cases m.Actions.l.any fun a=>!Iv a<;>rfl
structure TD (m:Model):Prop where
 uD:m.aA.l.length<=8
 tables:m.Tables.l.length<=6
 af2:m.eg.l.length<=21
 cons:m.di.l.length<=60
 ops:m.Operations.l.length<=8
 vy:m.Actions.l.length<=31
 avw:m.aW.l.length<=13
 aa:∀t∈m.Tables.l,t.Name.length<=40/\t.aZ.l.length<=12
 avx:∀x∈m.eg.l,x.length<=40
 TE:∀c∈m.di.l,c.Row.da.l.length<=20
 op:∀o∈m.Operations.l,o.Name.length<=40/\o.aA.l.length<=6
 act:∀a∈m.Actions.l,a.dQ.l.length<=6/\To a.dV
theorem Ek{m:Model}(h:tc m=true):TD m:=by
 unfold tc It at h;simp only[cm,decide_eq_true_eq,eE]at h;obtain⟨⟨ak,a2,a3,a4,a5,Iw,fa,avy,-,-⟩,b1,e8,h7,j9⟩:=h;refine⟨ak,a2,by omega,a4,a5,by omega,by omega,fun t ht=> ?_,b1,e8,fun o ho=> ?_,fun a al=> ?_⟩
 ·have:=avy t ht
  unfold Is at this;simpa using this
 ·have:=h7 o ho
  unfold Iu at this;simpa using this
 ·have:=j9 a al
  unfold Iv TB TC at this;simp only[cm,decide_eq_true_eq,eE]at this;obtain⟨⟨cT,dI,fg,ic⟩,il⟩:=this;exact⟨cT,by unfold bk;omega,by unfold bk;omega,by unfold bk;omega,fun r hr=>by have:=il r hr;unfold bk;omega⟩
def ov (m:Model):Bool:=
 gQ m.aA.l m.Tables.l&&(decide (m.eg.l.length<=24)&&(xy m.eg.l&&(BV m.aA.l m.Tables.l (eD m.aA.l m.Tables.l true) m.eg.len m.di.l&&(y9 m.aA.l.length m.Operations.l&&
  (B4 m.aA.l m.Tables.l (eD m.aA.l m.Tables.l true).length m.Operations.l m.Actions.l&&yx m.Tables.l m.aW.l)))))
theorem TF{m:Model}(b:TD m):yI m=some (ov m):=by
 have hs:bk m.aA.l:=by have:=b.uD;unfold bk;omega
 have ht:bk m.Tables.l:=by have:=b.tables;unfold bk;omega
 have hc:∀t∈m.Tables.l,bk t.aZ.l:=fun t h=>by have:=b.aa t h;unfold bk;omega
 unfold yI ov;rw[MO m.aA m.Tables hs ht hc];simp only[aS];cases af:gQ m.aA.l m.Tables.l with
 |false=>rfl
 |true=>
  simp only[cond_true,dy];rw[show decide (m.eg.len>24)=!decide (m.eg.l.length<=24)from kQ m.eg 24];cases decide (m.eg.l.length<=24)with
  |false=>rfl
  |true=>
   simp only[fZ,cond_false,dy];rw[afp m.eg (by have:=b.af2;unfold bk;omega)];simp only[aS];cases xy m.eg.l with
   |false=>rfl
   |true=>
    obtain⟨x,ex,el⟩:=Th m.aA m.Tables true hs ht hc;rw[af]at el;simp only[cond_true]at el;have jB:∀t∈m.Tables.l,kN m.aA.l.length t.aZ.l=true:=fun t h=>q3 ((r7 af).2.2.2 t h);simp only[fZ,cond_false,dy];rw[ex];simp only[aS];have ad:=aus (eh.mk m x) (by have:=b.cons;show m.di.l.length<_;omega) (by show x.l.length<=_;rw[el];have:=Tj af true;omega) ht jB (fun c h=>by have:=b.TE c h;unfold bk;omega);have e2:=auI (eh.mk m x) (by have:=b.ops;show m.Operations.l.length<=_;omega) (fun o h=>by have:=(b.op o h).2;unfold bk;omega);rw[ad,e2];simp only[aS];rw[show(eh.mk m x).strict.l=eD m.aA.l m.Tables.l true from el];cases BV m.aA.l m.Tables.l (eD m.aA.l m.Tables.l true) m.eg.len m.di.l with
    |false=>rfl
    |true=>
     simp only[cond_true,dy];cases db:y9 m.aA.l.length m.Operations.l with
     |false=>rfl
     |true=>
      have TG:=db;unfold y9 at TG;simp only[cm,eE]at TG;have bK:=auO (eh.mk m x) hs ht hc af TG.1 (fun o h=>by have:=(b.op o h).2;unfold bk;omega) (fun a h=>(b.act a h).2) (fun a h=>by have:=(b.act a h).1;unfold bk;omega) (by have:=b.vy;unfold bk;show m.Actions.l.length<_;omega);rw[bK];simp only[aS,cond_true,dy];rw[show(eh.mk m x).strict.len=((eD m.aA.l m.Tables.l true).length:Int)from by rw[dn];show((x.l.length:Nat):Int)=_;rw[el]];cases B4 m.aA.l m.Tables.l ((eD m.aA.l m.Tables.l true).length:Int) m.Operations.l m.Actions.l<;>rfl
theorem avz{m:Model}(b:TD m)(fM:∀w:ck,w.length<=40->nH w=some (kO w)):DM m=some (ov m):=by
 have hs:bk m.aA.l:=by have:=b.uD;unfold bk;omega
 have ht:bk m.Tables.l:=by have:=b.tables;unfold bk;omega
 have hc:∀t∈m.Tables.l,bk t.aZ.l:=fun t h=>by have:=b.aa t h;unfold bk;omega
 have hn:∀t∈m.Tables.l,nH t.Name=some (kO t.Name):=fun t h=>fM _ (b.aa t h).1;unfold DM ov;rw[MQ m.aA m.Tables hs ht hc hn];simp only[aS];cases af:gQ m.aA.l m.Tables.l with
 |false=>rfl
 |true=>
  simp only[cond_true,dy];rw[show decide (m.eg.len>24)=!decide (m.eg.l.length<=24)from kQ m.eg 24];cases decide (m.eg.l.length<=24)with
  |false=>rfl
  |true=>
   simp only[fZ,cond_false,dy];rw[afr m.eg (by have:=b.af2;unfold bk;omega) (fun x h=>fM x (b.avx x h))];simp only[aS];cases xy m.eg.l with
   |false=>rfl
   |true=>
    simp only[fZ,cond_false,dy];rw[auv m hs ht hc hn af (by have:=b.cons;unfold bk;omega) (fun c h=>by have:=b.TE c h;unfold bk;omega)];simp only[aS];cases BV m.aA.l m.Tables.l (eD m.aA.l m.Tables.l true) m.eg.len m.di.l with
    |false=>rfl
    |true=>
     simp only[cond_true,dy]
     rw[auQ m hs ht hc hn af (by have:=b.ops;omega) (fun o h=>by have:=(b.op o h).2;unfold bk;omega) (fun o h=>fM _ (b.op o h).1) (fun a h=>(b.act a h).2) (fun a h=>by have:=(b.act a h).1;unfold bk;omega) (by have:=b.vy;unfold bk;omega),
      auY m ht (by have:=b.avw;unfold bk;omega) (by have:=b.tables;omega)]
     simp only[aS];cases y9 m.aA.l.length m.Operations.l with
     |false=>rfl
     |true=>cases B4 m.aA.l m.Tables.l ((eD m.aA.l m.Tables.l true).length:Int) m.Operations.l m.Actions.l<;>rfl
end
end Go.Abs.bA
