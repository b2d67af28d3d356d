/- Texts of this claim, joined and written short by a program. -/
import Derived.Test.YtoimeckpnnkbpaaGreatDoorP31
import Derived.Test.YtoimeckpnnkbpaaGreatDoorP30
import Derived.Test.YtoimeckpnnkbpaaGreatDoorP00
set_option linter.unusedVariables false
set_option linter.unusedSimpArgs false
set_option linter.unusedSectionVars false
namespace Go.Abs.hk
open Go Go.Abs
noncomputable section
def tO (s:List Int)(args:List Int)(k:Nat)(mz:Int):Bool:=bif decide (mz<0)then tN (args.getD k 0) 9999 else decide (args.getD k 0>=0)&&decide (args.getD k 0<hP s mz)
def tP (gV:List Action)(k:Nat)(a:Action):Bool:=match k with
 |0=>true
 |k+1=>match gV[k]? with
  |some b=>!(decide (b.cl>a.cl))&&(bif b.cl==a.cl then lM b.bL.l a.bL.l else true)
  |none=>true
def xp (s:List Int)(ts:List Table)(n:Int)(ops:List cl)(gV:List Action)(k:Nat)(a:Action):Bool:=
 (decide (a.cl>=0)&&decide (a.cl<ops.length))&&match ops[a.cl.toNat]? with
   |some o=>(a.bL.l.length==o.bC.l.length)&&(allI (tO s a.bL.l) o.bC.l&&(tP gV k a&&JN s ts n a.eK))
   |none=>false
def zA (s:List Int)(ts:List Table)(n:Int)(ops:List cl)(gV:List Action):Bool:=decide (gV.length<=256)&&allI (xp s ts n ops gV) gV
structure Y9 (x:eK):Prop where
 d:cm x.Delta.l
 u:cm x.hL.l
 h:cm x.ia.l
 r:∀r∈x.ia.l,cm r.eT.l
theorem Za{α β:Type}(x:ak α)(y:ak β):(x.len != y.len)=!(x.l.length==y.l.length):=by
 unfold bne;congr 1;rw[gL,gL,zU];simp;omega
theorem JO{α:Type}{l:List α}{i:Int}(h:0<=i):bQ l i=l[i.toNat]? :=by simp[bQ,h]
theorem amK{s:List Int}{o:cl}{a:Action}{f:Int->Option (dM Int (cP Unit Unit))}(hl:cm o.bC.l)
  (ab:∀(k:Nat) (mz:Int),o.bC.l[k]? =some mz->f (k:Int)=bif tO s a.bL.l k mz then some (.next (bJ ((k:Int)+1)))else some (.out (.ret ()))) (he:f (o.bC.l.length:Int)=some (.out (.go ()))):
  c0 f 0=some (bif allI (tO s a.bL.l) o.bC.l then .go ()else .ret ()):=
 zy (f:=f) (fun k s=>s=(k:Int)) (tO s a.bL.l) o.bC.l (fun k mz st hx aW _=>by
  subst aW;rw[ab k mz hx];constructor
  ·intro bx
   rw[bx,fN (by have:=kl hx;unfold cm at hl;omega)];exact⟨_,rfl,rfl⟩
  ·intro bx;rw[bx];rfl) (fun st aW=>by subst aW;exact he) (s:=0) rfl
theorem JP{l:List Int}{k:Nat}{x:Int}(h:l[k]? =some x):l.getD k 0=x:=by simp[tY,h]
theorem amL{n:Nat}{o:cl}(h:sA n o=true){mz:Int}(hs:mz∈o.bC.l):-1<=mz/\mz<n:=by
 unfold sA at h;simp only[b8,eV]at h;have:=h.2 mz hs;unfold Fh at this;simp only[b8,decide_eq_true_eq]at this;exact⟨by omega,this.2⟩
theorem amM{j:dN}{o:cl}{a:Action}(ho:sA j.Model.bC.l.length o=true)(hl:cm o.bC.l)(hlen:a.bL.l.length=o.bC.l.length):
  c0 (Im j a o) 0=some (bif allI (tO j.Model.bC.l a.bL.l) o.bC.l then .go ()else .ret ()):=
 amK hl (fun k mz hx=>by
  have aX:=kl hx;have hy:a.bL.l[k]? =some a.bL.l[k]:=by simp[hlen,aX]
  obtain⟨q1,aS⟩:=amL ho (hz hx);simp only[Im,k8 aX,cond_true,fP,hx,hy,cg,JG _ 9999 (by omega),kg];unfold tO;rw[JP hy];by_cases h0:mz<0
  ·have d0:decide (mz<0)=true:=by simpa using h0
   have d1:decide (mz>=0)=false:=by simp;omega
   rw[d0,d1];simp only[cond_true,cond_false];cases tN a.bL.l[k] 9999<;>rfl
  ·have d0:decide (mz<0)=false:=by simpa using h0
   have d1:decide (mz>=0)=true:=by simp;omega
   rw[d0,d1,Jz (by omega) aS];simp only[cond_true,cond_false,cg];cases(decide (a.bL.l[k]>=0)&&decide (a.bL.l[k]<hP j.Model.bC.l mz))<;>rfl) (by simp only[Im,mw,cond_false])
theorem aJN{m:Model}{o:cl}{a:Action}(ho:sA m.bC.l.length o=true)(hl:cm o.bC.l)(hlen:a.bL.l.length=o.bC.l.length)(h0:0<=a.cl)(c4:m.Operations.l[a.cl.toNat]? =some o):
  c0 (axR m a) 0=some (bif allI (tO m.bC.l a.bL.l) o.bC.l then .go ()else .ret ()):=
 amK hl (fun k mz hx=>by
  have aX:=kl hx;have hy:a.bL.l[k]? =some a.bL.l[k]:=by simp[hlen,aX]
  obtain⟨q1,aS⟩:=amL ho (hz hx);have hd:decide ((k:Int)<a.bL.len)=true:=k8 (by omega);simp only[axR,hd,cond_true,JO h0,c4,fP,hx,hy,cg,ayj _ 9999 (by omega)];unfold tO;rw[JP hy];by_cases h0:mz<0
  ·have d0:decide (mz<0)=true:=by simpa using h0
   have d1:decide (mz>=0)=false:=by simp;omega
   rw[d0,d1];simp only[cond_true,cond_false];cases tN a.bL.l[k] 9999<;>rfl
  ·have d0:decide (mz<0)=false:=by simpa using h0
   have d1:decide (mz>=0)=true:=by simp;omega
   rw[d0,d1,Jz (by omega) aS];simp only[cond_true,cond_false,cg];rw[Y7,show decide (a.bL.l[k]>=hP m.bC.l mz)=!decide (a.bL.l[k]<hP m.bC.l mz)from by rw[Y7];simp];cases decide (a.bL.l[k]>=0)<;>cases decide (a.bL.l[k]<hP m.bC.l mz)<;>rfl) (by
  have hd:decide ((o.bC.l.length:Int)<a.bL.len)=false:=by rw[<-hlen];exact mw
  simp only[axR,hd,cond_false])
theorem amN (j:dN)(h1:cm j.Model.bC.l)(h2:cm j.Model.Tables.l)(hc:∀t∈j.Model.Tables.l,cm t.bP.l)(ad:mu j.Model.bC.l j.Model.Tables.l=true)
  (ho:∀o∈j.Model.Operations.l,sA j.Model.bC.l.length o=true) (amO:∀o∈j.Model.Operations.l,cm o.bC.l) (du:∀a∈j.Model.Actions.l,Y9 a.eK) (hA:∀a∈j.Model.Actions.l,cm a.bL.l) (df:cm j.Model.Actions.l):
  Iq j=some (zA j.Model.bC.l j.Model.Tables.l j.strict.len j.Model.Operations.l j.Model.Actions.l):=by
 unfold Iq zA;rw[show decide (j.Model.Actions.len>256)=!decide (j.Model.Actions.l.length<=256)from my j.Model.Actions 256];cases decide (j.Model.Actions.l.length<=256)with
 |false=>rfl
 |true=>
  simp only[hZ,cond_false,fI]
  rw[zy (f:=Ef j) (fun k s=>s=(k:Int)) (xp j.Model.bC.l j.Model.Tables.l j.strict.len j.Model.Operations.l j.Model.Actions.l) j.Model.Actions.l (fun k a st hx aW _=>by
   subst aW;have aX:=kl hx;have eB:=hz hx
   have ab:Ef j (k:Int)=bif xp j.Model.bC.l j.Model.Tables.l j.strict.len j.Model.Operations.l j.Model.Actions.l k a then some (.next (bJ ((k:Int)+1)))else some (.out (.ret ())):=by
    simp only[Ef,k8 aX,cond_true,fP,hx,cg,kg];unfold xp;have qH:decide (a.cl<j.Model.Operations.len)=decide (a.cl<(j.Model.Operations.l.length:Int)):=rfl;rw[qH];cases hin:(decide (a.cl>=0)&&decide (a.cl<(j.Model.Operations.l.length:Int)))with
    |false=>rfl
    |true=>
     simp only[b8,decide_eq_true_eq]at hin;have ik:a.cl.toNat<j.Model.Operations.l.length:=by omega
     have c4:j.Model.Operations.l[a.cl.toNat]? =some j.Model.Operations.l[a.cl.toNat]:=by simp[ik]
     have Zb:=hz c4;simp only[cond_true,JO hin.1,c4,cg,Za,fI];cases hlen:a.bL.l.length==(j.Model.Operations.l[a.cl.toNat]).bC.l.length with
     |false=>rfl
     |true=>
      simp only[hZ,cond_false,fI];rw[amM (ho _ Zb) (amO _ Zb) (by simpa using hlen)];simp only[cg];cases allI (tO j.Model.bC.l a.bL.l) (j.Model.Operations.l[a.cl.toNat]).bC.l with
      |false=>rfl
      |true=>
       simp only[cond_true,fI];have o3:=du a eB;rw[amE j a.eK h1 h2 hc ad o3.d o3.u o3.h o3.r]
       have mH:((bif (decide ((k:Int)>0))then((bQ j.Model.Actions.l (bJ ((k:Int)-1))).bind fun w4=>(((bif (decide (w4.cl>a.cl))then some true else(bif (w4.cl==a.cl)then((D7 w4.bL a.bL).bind fun NG=>some (decide (NG>=0)))else some false)):Option (Bool)).bind fun NH=>(bif NH then some (.ret ())else some (.go ()))))else some (.go ())):Option (cP (Unit) (Unit)))=some (bif tP j.Model.Actions.l k a then .go ()else .ret ()):=by
        cases k with
        |zero=>rfl
        |succ k=>
         have cW:k<j.Model.Actions.l.length:=by omega
         have aT:j.Model.Actions.l[k]? =some j.Model.Actions.l[k]:=by simp[cW]
         have amP:decide ((((k+1:Nat)):Int)>0)=true:=decide_eq_true (by omega);have hw:bJ (((k+1:Nat):Int)-1)=(k:Int):=ame (by unfold cm at df;omega);obtain⟨c,Cv,amQ⟩:=amJ j.Model.Actions.l[k].bL a.bL (hA _ (Kp cW));rw[amP,hw];unfold tP;simp only[cond_true,fP,aT,cg,Cv,amQ];cases decide (j.Model.Actions.l[k].cl>a.cl)with
         |true=>rfl
         |false=>
          cases j.Model.Actions.l[k].cl==a.cl with
          |false=>rfl
          |true=>cases lM j.Model.Actions.l[k].bL.l a.bL.l<;>rfl
       rw[mH];simp only[cg];cases tP j.Model.Actions.l k a with
       |false=>rfl
       |true=>cases JN j.Model.bC.l j.Model.Tables.l j.strict.len a.eK<;>rfl
   rw[ab];constructor
   ·intro bx
    rw[bx,fN (by unfold cm at df;omega)];exact⟨_,rfl,rfl⟩
   ·intro bx;rw[bx];rfl) (fun st aW=>by subst aW;simp only[Ef,mw,cond_false]) (s:=0) rfl]
  cases allI (xp j.Model.bC.l j.Model.Tables.l j.strict.len j.Model.Operations.l j.Model.Actions.l) j.Model.Actions.l<;>rfl
theorem aJO (m:Model)(h1:cm m.bC.l)(h2:cm m.Tables.l)(hc:∀t∈m.Tables.l,cm t.bP.l)(wN:∀t∈m.Tables.l,ajb t.Name=some (tM t.Name))(ad:mu m.bC.l m.Tables.l=true)
  (aA:m.Operations.l.length<=100000) (amO:∀o∈m.Operations.l,cm o.bC.l) (aJP:∀o∈m.Operations.l,ajb o.Name=some (tM o.Name)) (du:∀a∈m.Actions.l,Y9 a.eK) (hA:∀a∈m.Actions.l,cm a.bL.l) (df:cm m.Actions.l):
  axS m=some (zz m.bC.l.length m.Operations.l&&zA m.bC.l m.Tables.l (hQ m.bC.l m.Tables.l true).length m.Operations.l m.Actions.l):=by
 unfold axS zz
 obtain⟨o,af,e2⟩:=E3 (f:=awQ m) (fun k st=>∃a:ak bH,st=((k:Int),a)/\a.l=(m.Operations.l.take k).map cl.Name/\(m.Operations.l.take k).all (sA m.bC.l.length)=true)
  (fun o=>match o with
    | .go a=>m.Operations.l.all (sA m.bC.l.length)=true/\a.l=m.Operations.l.map cl.Name
    | .ret _=>m.Operations.l.all (sA m.bC.l.length)=false) m.Operations.l (fun k o st hx U=>by
    obtain⟨a,rfl,ao,eA⟩:=U;have aX:=kl hx;have eB:=hz hx;have lq:a.l.length<=100000:=by rw[ao,oG,sM];omega
    obtain⟨y,rM,EO⟩:=YP (BN:=16) (x:=a) (y:=ak.mk [o.Name]) (by omega) (by show a.l.length+1<=_;omega)
    have hin:=xn (f:=axQ m o) o.bC.l (amO o eB) (fun s=>!Fh m.bC.l.length s) (fun k s hs=>by
     simp only[axQ,k8 (kl hs),cond_true,fP,hs,cg];unfold Fh;have gY:decide (s>=m.bC.len)=!decide (s<(m.bC.l.length:Int)):=by rw[Y7,gL];simp
     rw[gY,Y7];cases decide (s>=-1)<;>cases decide (s<(m.bC.l.length:Int))<;>rfl) (by simp only[axQ,mw,cond_false])
    have ab:awQ m ((k:Int),a)=bif sA m.bC.l.length o then some (.next ((bJ ((k:Int)+1)),y))else some (.out (.ret ())):=by
     simp only[awQ,k8 aX,cond_true,fP,hx,cg,rM];rw[hin];rw[show decide (o.bC.len>3)=!decide (o.bC.l.length<=3)from my o.bC 3];unfold sA;rw[sK];cases o.bC.l.any (fun s=>!Fh m.bC.l.length s)with
     |true=>cases decide (o.bC.l.length<=3)<;>rfl
     |false=>cases decide (o.bC.l.length<=3)<;>rfl
    rw[ab];cases c4:sA m.bC.l.length o with
    |true=>
     left;refine⟨_,rfl,y,by rw[fN (by omega)],?_,?_⟩
     ·rw[EO,ao,zS,hx];simp[ak.l]
     ·rw[zS,hx];simp[List.all_append,c4];simpa using eA
    |false=>
     refine .inr ⟨.ret (),rfl,?_⟩;show List.all _ _=false;rw[List.all_eq_false];exact⟨o,eB,by rw[c4];simp⟩) (fun st U=>by
    obtain⟨a,rfl,ao,eA⟩:=U;rw[Kq]at ao eA;exact⟨.go a,by simp only[awQ,mw,cond_false],eA,ao⟩) (s:=(0,.emp)) ⟨.emp,rfl,rfl,rfl⟩
 rw[af];simp only[cg];cases o with
 |ret u=>simp only at e2⊢; rw[e2];rfl
 |go a=>
  obtain⟨q1,aS⟩:=e2;have lq:a.l.length=m.Operations.l.length:=by rw[aS,oG]
  simp only[]
  rw[q1,aD5 a (by unfold cm;omega) (fun x hx=>by
   rw[aS]at hx;obtain⟨o,ho,rfl⟩:=ey.1 hx;exact aJP o ho),aS]
  rw[show decide (m.Operations.len>8)=!decide (m.Operations.l.length<=8)from my m.Operations 8,show decide (m.Actions.len>256)=!decide (m.Actions.l.length<=256)from my m.Actions 256];unfold zA;cases decide (m.Operations.l.length<=8)with
  |false=>simp
  |true=>
   cases BQ (m.Operations.l.map cl.Name)with
   |false=>simp
   |true=>
    cases decide (m.Actions.l.length<=256)with
    |false=>rfl
    |true=>
     simp only[hZ,cond_false,cg,cond_true,fI];have ho:∀o∈m.Operations.l,sA m.bC.l.length o=true:=eV.1 q1
     rw[zy (f:=awS m) (fun k s=>s=(k:Int)) (xp m.bC.l m.Tables.l (hQ m.bC.l m.Tables.l true).length m.Operations.l m.Actions.l) m.Actions.l (fun k a st hx aW _=>by
      subst aW;have aX:=kl hx;have eB:=hz hx
      have ab:awS m (k:Int)=bif xp m.bC.l m.Tables.l (hQ m.bC.l m.Tables.l true).length m.Operations.l m.Actions.l k a then some (.next (bJ ((k:Int)+1)))else some (.out (.ret ())):=by
       simp only[awS,k8 aX,cond_true,fP,hx,cg];unfold xp;have qH:decide (a.cl>=m.Operations.len)=!decide (a.cl<(m.Operations.l.length:Int)):=by rw[Y7,gL];simp
       rw[qH,Y7];cases aJQ:decide (a.cl>=0)with
       |false=>rfl
       |true=>
        cases aJR:decide (a.cl<(m.Operations.l.length:Int))with
        |false=>rfl
        |true=>
         have hin:0<=a.cl:=by simpa using aJQ
         have SC:a.cl<(m.Operations.l.length:Int):=by simpa using aJR
         have ik:a.cl.toNat<m.Operations.l.length:=by omega
         have c4:m.Operations.l[a.cl.toNat]? =some m.Operations.l[a.cl.toNat]:=by simp[ik]
         have Zb:=hz c4;simp only[hZ,cond_false,JO hin,c4,cg,Za,fI];cases hlen:a.bL.l.length==(m.Operations.l[a.cl.toNat]).bC.l.length with
         |false=>rfl
         |true=>
          simp only[hZ,cond_false,fI];rw[aJN (ho _ Zb) (amO _ Zb) (by simpa using hlen) hin c4];simp only[cg];cases allI (tO m.bC.l a.bL.l) (m.Operations.l[a.cl.toNat]).bC.l with
          |false=>rfl
          |true=>
           simp only[cond_true,fI];have o3:=du a eB;rw[aJK m a.eK h1 h2 hc wN ad o3.d o3.u o3.h o3.r]
           have mH:((bif (decide ((k:Int)>0))then((bQ m.Actions.l (bJ ((k:Int)-1))).bind fun avA=>(((bif (decide (avA.cl>a.cl))then some true else(bif (avA.cl==a.cl)then((awL avA.bL a.bL).bind fun ayW=>some (!ayW))else some false)):Option (Bool)).bind fun ayX=>(bif ayX then some (.ret ())else some (.go ()))))else some (.go ())):Option (cP (Unit) (Unit)))=some (bif tP m.Actions.l k a then .go ()else .ret ()):=by
            cases k with
            |zero=>rfl
            |succ k=>
             have cW:k<m.Actions.l.length:=by omega
             have aT:m.Actions.l[k]? =some m.Actions.l[k]:=by simp[cW]
             have amP:decide ((((k+1:Nat)):Int)>0)=true:=decide_eq_true (by omega);have hw:bJ (((k+1:Nat):Int)-1)=(k:Int):=ame (by unfold cm at df;omega);rw[amP,hw];unfold tP;simp only[cond_true,fP,aT,cg,aJM _ _ (hA _ (Kp cW))];cases decide (m.Actions.l[k].cl>a.cl)with
             |true=>rfl
             |false=>
              cases m.Actions.l[k].cl==a.cl with
              |false=>rfl
              |true=>cases lM m.Actions.l[k].bL.l a.bL.l<;>rfl
           rw[mH];simp only[cg];cases tP m.Actions.l k a with
           |false=>rfl
           |true=>cases JN m.bC.l m.Tables.l ((hQ m.bC.l m.Tables.l true).length:Int) a.eK<;>rfl
      rw[ab];constructor
      ·intro bx
       rw[bx,fN (by unfold cm at df;omega)];exact⟨_,rfl,rfl⟩
      ·intro bx;rw[bx];rfl) (fun st aW=>by subst aW;simp only[awS,mw,cond_false]) (s:=0) rfl]
     cases allI (xp m.bC.l m.Tables.l ((hQ m.bC.l m.Tables.l true).length:Int) m.Operations.l m.Actions.l) m.Actions.l<;>rfl
end
end Go.Abs.hk
namespace Go.Abs.hk
open Go Go.Abs
noncomputable section
theorem ay8 (m:Model)(aC:cm m.b7.l)(a b:Int)(k:Nat)(cW:k<1000000)(g:Model->Int->Int->Int->Option Bool)(bj:∀c,0<k->g m c b ((k-1:Nat):Int)=some (lI m.b7.l (k-1) c b)):
  auQ g m a b (k:Int)=some (lI m.b7.l k a b):=by
 unfold auQ;cases pE:a==b with
 |true=>cases k<;>simp[lI,pE]
 |false=>
  simp only[cond_false];cases k with
  |zero=>
   have:c0 (auL m a b ((0:Nat):Int) g) 0=some (.go ()):=by
    rw[k4]
    have:auL m a b ((0:Nat):Int) g 0=some (.out (.go ())):=by
     have hd:(decide ((0:Int)<m.b7.len)&&decide (((0:Nat):Int)>0))=false:=by simp
     simp only[auL,hd,cond_false]
    rw[this]
   rw[this];simp[lI,pE]
  |succ k=>
   have amP:decide (((k+1:Nat):Int)>0)=true:=decide_eq_true (by omega);have hw:bJ (((k+1:Nat):Int)-1)=(k:Int):=ame (by omega)
   rw[xn (f:=auL m a b ((k+1:Nat):Int) g) m.b7.l aC (fun h=>(h.Table==a)&&lI m.b7.l k h.da b) (fun i h hx=>by
    have e:=bj h.da (by omega);have e2:k+1-1=k:=by omega
    rw[e2]at e;simp only[auL,k8 (kl hx),amP,zV,cond_true,fP,hx,cg,hw,e];cases h.Table==a with
    |false=>rfl
    |true=>cases lI m.b7.l k h.da b<;>rfl) (by
    simp only[auL,mw,FT,cond_false])]
   simp only[lI,pE,qv,cg];cases m.b7.l.any fun h=>(h.Table==a)&&lI m.b7.l k h.da b<;>rfl
theorem aJS (m:Model)(aC:cm m.b7.l)(a b:Int)(k:Nat)(cW:k<1000000):axT m a b (k:Int)=some (lI m.b7.l k a b):=by
 unfold axT
 have hit:∀(k:Nat),k<1000000->∀(a:Int) (n:Nat),k<n->H4 (A:=Model × Int × Int × Int) (fun g p=>auQ (fun c6 cb dR gR=>g (c6,cb,dR,gR)) p.1 p.2.1 p.2.2.1 p.2.2.2) n (m,a,b,(k:Int))=some (lI m.b7.l k a b):=by
  intro k
  induction k with
  |zero=>
   intro cW a n hn;cases n with
   |zero=>omega
   |succ n=>exact ay8 m aC a b 0 cW _ (fun c h=>by omega)
  |succ k ih=>
   intro cW a n hn;cases n with
   |zero=>omega
   |succ n=>exact ay8 m aC a b (k+1) cW _ (fun c _=>ih (by omega) c n (by omega))
 refine aDG (n:=k+1) (hit k cW a (k+1) (by omega)) fun n r hr=> ?_;rcases fX k n with h|h
 ·rw[hit k cW a n h]at hr;cases hr;rfl
 ·
  have aJT:∀(n k:Nat),k<1000000->∀(a:Int) (r:Bool),H4 (A:=Model × Int × Int × Int) (fun g p=>auQ (fun c6 cb dR gR=>g (c6,cb,dR,gR)) p.1 p.2.1 p.2.2.1 p.2.2.2) n (m,a,b,(k:Int))=some r->r=lI m.b7.l k a b:=by
   intro n
   induction n with
   |zero=>intro k _ a r hr;cases hr
   |succ n ih=>
    intro k cW a r hr;have gu:auQ (fun c6 cb dR gR=>H4 (A:=Model × Int × Int × Int) (fun g p=>auQ (fun c6 cb dR gR=>g (c6,cb,dR,gR)) p.1 p.2.1 p.2.2.1 p.2.2.2) n (c6,cb,dR,gR)) m a b (k:Int)=some r:=hr;have full:=ay8 m aC a b k cW (fun c6 cb dR gR=>some (lI m.b7.l (k-1) cb b)) (fun c _=>rfl);unfold auQ at gu full;cases pE:a==b with
    |true=>rw[pE]at gu full;simp only[cond_true]at gu full;rw[gu]at full;cases full;rfl
    |false=>
     rw[pE]at gu full;simp only[cond_false]at gu full;obtain⟨o,ho,Ms⟩:=dZ.1 gu
     have uT:c0 (auL m a b (k:Int) (fun c6 cb dR gR=>some (lI m.b7.l (k-1) cb b))) 0=some o:=by
      obtain⟨q,bc⟩:=yH.1 ho;refine yH.2 ⟨q,?_⟩
      have mono:∀(q:Nat) (i:Int) (o:cP Unit Unit),qY (auL m a b (k:Int) (fun c6 cb dR gR=>H4 (A:=Model × Int × Int × Int) (fun g p=>auQ (fun c6 cb dR gR=>g (c6,cb,dR,gR)) p.1 p.2.1 p.2.2.1 p.2.2.2) n (c6,cb,dR,gR))) q i=some o->
        qY (auL m a b (k:Int) (fun c6 cb dR gR=>some (lI m.b7.l (k-1) cb b))) q i=some o:=by
       intro q
       induction q with
       |zero=>intro i o h;cases h
       |succ q aJU=>
        intro i o h;simp only[qY]at h⊢
        have cd:∀z,auL m a b (k:Int) (fun c6 cb dR gR=>H4 (A:=Model × Int × Int × Int) (fun g p=>auQ (fun c6 cb dR gR=>g (c6,cb,dR,gR)) p.1 p.2.1 p.2.2.1 p.2.2.2) n (c6,cb,dR,gR)) i=some z->
          auL m a b (k:Int) (fun c6 cb dR gR=>some (lI m.b7.l (k-1) cb b)) i=some z:=by
         intro z aT;unfold auL at aT⊢;cases hc:(decide (i<m.b7.len)&&decide ((k:Int)>0))with
         |false=>rw[hc]at aT;exact aT
         |true=>
          rw[hc]at aT;simp only[cond_true]at aT⊢
          have AG:0<k:=by
           simp only[b8,decide_eq_true_eq]at hc;omega
          have hw:bJ ((k:Int)-1)=((k-1:Nat):Int):=by rw[iN (by omega) (by omega)];omega
          rw[hw]at aT;cases hx:bQ m.b7.l i with
          |none=>rw[hx]at aT;cases aT
          |some h=>
           rw[hx]at aT;simp only[cg]at aT⊢;cases ht:h.Table==a with
           |false=>rw[ht]at aT;exact aT
           |true=>
            rw[ht]at aT;simp only[cond_true]at aT⊢;cases adA:H4 (A:=Model × Int × Int × Int) (fun g p=>auQ (fun c6 cb dR gR=>g (c6,cb,dR,gR)) p.1 p.2.1 p.2.2.1 p.2.2.2) n (m,h.da,b,((k-1:Nat):Int))with
            |none=>rw[adA]at aT;cases aT
            |some y=>
             rw[adA]at aT;have:=ih (k-1) (by omega) h.da y adA;rw[this]at aT;exact aT
        cases aT:auL m a b (k:Int) (fun c6 cb dR gR=>H4 (A:=Model × Int × Int × Int) (fun g p=>auQ (fun c6 cb dR gR=>g (c6,cb,dR,gR)) p.1 p.2.1 p.2.2.1 p.2.2.2) n (c6,cb,dR,gR)) i with
        |none=>rw[aT]at h;cases h
        |some z=>
         rw[cd z aT];rw[aT]at h;cases z with
         |next j=>exact aJU j o h
         |out u=>exact h
      exact mono q 0 o bc
     rw[uT]at full;rw[cg,Ms]at full;cases full;rfl
  exact aJT n k cW a r hr
theorem aJV{ts:ak Table}{h:gk}:(bif ((decide (h.Table<0))||((decide (h.Table>=ts.len))||((decide (h.da<0))||((decide (h.da>=ts.len))||(h.Table==h.da)))))then some true else((bQ ts.l h.Table).bind fun y0=>((bQ ts.l h.da).bind fun Bh=>(((bif (y0.Kind != 0)then some true else(bif (Bh.Kind != 0)then some true else(bif (decide (h.jt<0))then some true else(bif (decide (h.jt>=y0.bP.len))then some true else(bif (Bh.bP.len != 1)then some true else((bQ Bh.bP.l 0).bind fun tv=>((bQ y0.bP.l h.jt).bind fun au8=>some (tv != au8)))))))):Option (Bool))))):Option Bool)=some (!vq ts.l h):=by
 unfold vq;rw[Y7 h.Table,Y7 h.da,show decide (h.Table>=ts.len)=!decide (h.Table<(ts.l.length:Int))from by rw[Y7,gL];simp,show decide (h.da>=ts.len)=!decide (h.da<(ts.l.length:Int))from by rw[Y7,gL];simp];cases ai:decide (h.Table>=0)with
 |false=>rfl
 |true=>
  cases a2:decide (h.Table<(ts.l.length:Int))with
  |false=>rfl
  |true=>
   cases a3:decide (h.da>=0)with
   |false=>rfl
   |true=>
    cases a4:decide (h.da<(ts.l.length:Int))with
    |false=>rfl
    |true=>
     cases h.Table==h.da with
     |true=>rfl
     |false=>
      have dm:0<=h.Table:=by simpa using ai
      have gy:h.Table<(ts.l.length:Int):=by simpa using a2
      have jO:0<=h.da:=by simpa using a3
      have lg:h.da<(ts.l.length:Int):=by simpa using a4
      have dq:h.Table.toNat<ts.l.length:=by omega
      have fb:h.da.toNat<ts.l.length:=by omega
      have g1:ts.l[h.Table.toNat]? =some ts.l[h.Table.toNat]:=by simp[dq]
      have g2:ts.l[h.da.toNat]? =some ts.l[h.da.toNat]:=by simp[fb]
      simp only[hZ,FU,cond_false,JO dm,JO jO,g1,g2,cg,ue,fI,bne];cases ts.l[h.Table.toNat].Kind==0 with
      |false=>rfl
      |true=>
       cases ts.l[h.da.toNat].Kind==0 with
       |false=>rfl
       |true=>
        rw[Y7 h.jt,show decide (h.jt>=ts.l[h.Table.toNat].bP.len)=!decide (h.jt<(ts.l[h.Table.toNat].bP.l.length:Int))from by rw[Y7,gL];simp];cases d1:decide (h.jt>=0)with
        |false=>rfl
        |true=>
         cases d2:decide (h.jt<(ts.l[h.Table.toNat].bP.l.length:Int))with
         |false=>rfl
         |true=>
          rw[show(ts.l[h.da.toNat].bP.len==1)=(ts.l[h.da.toNat].bP.l.length==1)from Pw _ 1];cases d3:ts.l[h.da.toNat].bP.l.length==1 with
          |false=>rfl
          |true=>
           have af:0<=h.jt:=by simpa using d1
           have e2:h.jt<(ts.l[h.Table.toNat].bP.l.length:Int):=by simpa using d2
           have bT:ts.l[h.da.toNat].bP.l.length=1:=by simpa using d3
           have f1:h.jt.toNat<ts.l[h.Table.toNat].bP.l.length:=by omega
           have cq:ts.l[h.Table.toNat].bP.l[h.jt.toNat]? =some ts.l[h.Table.toNat].bP.l[h.jt.toNat]:=by simp[f1]
           have f2:0<ts.l[h.da.toNat].bP.l.length:=by omega
           have ee:ts.l[h.da.toNat].bP.l[0]? =some ts.l[h.da.toNat].bP.l[0]:=by simp[f2]
           simp only[hZ,cond_false,JO af,al3,cq,ee,cg,fI,JP cq,JP ee]
theorem aJW (m:Model)(h2:cm m.Tables.l)(aC:cm m.b7.l)(hT:m.Tables.l.length<1000000):axW m=some (DK m.Tables.l m.b7.l):=by
 unfold axW DK;rw[show decide (m.b7.len>12)=!decide (m.b7.l.length<=12)from my m.b7 12];cases decide (m.b7.l.length<=12)with
 |false=>rfl
 |true=>
  simp only[hZ,cond_false,fI]
  rw[xn (f:=axU m) m.b7.l aC (fun h=>!vq m.Tables.l h) (fun k h hx=>by
   have e:=aJV (ts:=m.Tables) (h:=h);simp only[axU,k8 (kl hx),cond_true,fP,hx,cg];cases hc:((decide (h.Table<0))||((decide (h.Table>=m.Tables.len))||((decide (h.da<0))||((decide (h.da>=m.Tables.len))||(h.Table==h.da)))))with
   |true=>
    rw[hc]at e;simp only[cond_true,az]at e;rw[<-e];rfl
   |false=>
    rw[hc]at e;simp only[cond_false]at e⊢;obtain⟨t,af,e⟩:=dZ.1 e;obtain⟨u,e2,e⟩:=dZ.1 e;rw[af,e2];simp only[cg];rw[e];cases vq m.Tables.l h<;>rfl) (by simp only[axU,mw,cond_false])]
  rw[sK];cases m.b7.l.any (fun h=>!vq m.Tables.l h)with
  |true=>rfl
  |false=>
   simp only[cond_false,cg,ue,fI]
   rw[xn (f:=axV m) m.b7.l aC (fun h=>lI m.b7.l m.Tables.l.length h.da h.Table) (fun k h hx=>by
    have hl:m.Tables.len=((m.Tables.l.length:Nat):Int):=rfl;simp only[axV,k8 (kl hx),cond_true,fP,hx,cg,hl,aJS m aC h.da h.Table m.Tables.l.length hT];cases lI m.b7.l m.Tables.l.length h.da h.Table<;>rfl) (by simp only[axV,mw,cond_false])]
   unfold HJ
   have:(m.b7.l.all fun h=>!lI m.b7.l m.Tables.l.length h.da h.Table)=!(m.b7.l.any fun h=>lI m.b7.l m.Tables.l.length h.da h.Table):=by
    rw[sK];simp
   rw[this];cases m.b7.l.any fun h=>lI m.b7.l m.Tables.l.length h.da h.Table<;>rfl
end
end Go.Abs.hk
namespace Go.Abs.hk
open Go Go.Abs
noncomputable section
theorem amR{ts:ak Table}{h:gk}:(((kg h.Table ts.len).bind fun sj=>(bif sj then((kg h.da ts.len).bind fun pd=>(bif pd then some (h.Table==h.da)else some true))else some true)):Option Bool)=some (!((decide (h.Table>=0)&&decide (h.Table<ts.l.length))&&((decide (h.da>=0)&&decide (h.da<ts.l.length))&&!(h.Table==h.da)))):=by
 unfold kg;rw[gL];cases(decide (h.Table>=0)&&decide (h.Table<(ts.l.length:Int)))with
 |false=>rfl
 |true=>
  cases(decide (h.da>=0)&&decide (h.da<(ts.l.length:Int)))with
  |false=>rfl
  |true=>cases h.Table==h.da<;>rfl
theorem amS (j:dN){k:Nat}{h:gk}(hx:j.Model.b7.l[k]? =some h):zu j (k:Int)=some (bif !vq j.Model.Tables.l h then .out (.ret ())else .next (bJ ((k:Int)+1))):=by
 simp only[zu,k8 (kl hx),cond_true,fP,hx,cg];rw[amR];unfold vq;cases a:(decide (h.Table>=0)&&decide (h.Table<(j.Model.Tables.l.length:Int)))with
 |false=>rfl
 |true=>
  cases b:(decide (h.da>=0)&&decide (h.da<(j.Model.Tables.l.length:Int)))with
  |false=>rfl
  |true=>
   cases h.Table==h.da with
   |true=>rfl
   |false=>
    simp only[b8,decide_eq_true_eq]at a b;have dq:h.Table.toNat<j.Model.Tables.l.length:=by omega
    have fb:h.da.toNat<j.Model.Tables.l.length:=by omega
    have g1:j.Model.Tables.l[h.Table.toNat]? =some j.Model.Tables.l[h.Table.toNat]:=by simp[dq]
    have g2:j.Model.Tables.l[h.da.toNat]? =some j.Model.Tables.l[h.da.toNat]:=by simp[fb]
    simp only[ue,zV,fI,hZ,cg,cond_false,JO a.1,JO b.1,g1,g2,bne,kg];cases j.Model.Tables.l[h.Table.toNat].Kind==0 with
    |false=>rfl
    |true=>
     cases j.Model.Tables.l[h.da.toNat].Kind==0 with
     |false=>rfl
     |true=>
      rw[gL j.Model.Tables.l[h.Table.toNat].bP,show(j.Model.Tables.l[h.da.toNat].bP.len==1)=(j.Model.Tables.l[h.da.toNat].bP.l.length==1)from Pw _ 1];cases d:(decide (h.jt>=0)&&decide (h.jt<(j.Model.Tables.l[h.Table.toNat].bP.l.length:Int)))with
      |false=>rfl
      |true=>
       cases d3:j.Model.Tables.l[h.da.toNat].bP.l.length==1 with
       |false=>rfl
       |true=>
        simp only[b8,decide_eq_true_eq]at d;have bT:j.Model.Tables.l[h.da.toNat].bP.l.length=1:=by simpa using d3
        have f1:h.jt.toNat<j.Model.Tables.l[h.Table.toNat].bP.l.length:=by omega
        have cq:j.Model.Tables.l[h.Table.toNat].bP.l[h.jt.toNat]? =some j.Model.Tables.l[h.Table.toNat].bP.l[h.jt.toNat]:=by simp[f1]
        have f2:0<j.Model.Tables.l[h.da.toNat].bP.l.length:=by omega
        have ee:j.Model.Tables.l[h.da.toNat].bP.l[0]? =some j.Model.Tables.l[h.da.toNat].bP.l[0]:=by simp[f2]
        simp only[hZ,ue,cond_true,cond_false,JO d.1,al3,cq,ee,cg,fI,JP cq,JP ee];cases j.Model.Tables.l[h.da.toNat].bP.l[0]==j.Model.Tables.l[h.Table.toNat].bP.l[h.jt.toNat]<;>rfl
theorem amT (j:dN):Jv j=some (decide (j.Model.b7.l.length<=12)&&j.Model.b7.l.all (vq j.Model.Tables.l)):=by
 unfold Jv;rw[show decide (j.Model.b7.len>12)=!decide (j.Model.b7.l.length<=12)from my j.Model.b7 12];cases h:decide (j.Model.b7.l.length<=12)with
 |false=>rfl
 |true=>
  have hl:j.Model.b7.l.length<=12:=by simpa using h
  simp only[hZ,cond_false,fI];rw[xn (f:=zu j) j.Model.b7.l (by omega) (fun h=>!vq j.Model.Tables.l h) (fun k h hx=>amS j hx) (by simp only[zu,mw,cond_false])];rw[sK];cases j.Model.b7.l.any (fun h=>!vq j.Model.Tables.l h)<;>rfl
def cf (ks:List Int):List (Int × Bool):=ks.map fun t=>(t,true)
def xq (ks:List Int)(t:Int):List Int:=if t∈ks then ks else ks++[t]
theorem Zc (t:Int):∀ks,mg (cf ks) t true=cf (xq ks t)
 |[]=>rfl
 |k::ks=>by
  have ih:=Zc t ks;unfold cf xq at*;simp only[eo,mg];by_cases e:t=k
  ·subst e;simp
  ·have af:(t==k)=false:=by simp[e]
   rw[af];simp only[hY,if_false,ih,dA,e,false_or];by_cases h:t∈ks<;>simp[h]
theorem Zd (t:Int):∀ks,(iH (cf ks) t).getD false=decide (t∈ks)
 |[]=>rfl
 |k::ks=>by
  have ih:=Zd t ks;unfold cf iH at*;simp only[eo,Kr];by_cases e:t=k
  ·subst e;simp
  ·have af:(t==k)=false:=by simp[e]
   rw[af];simp only[ih,dA,e,false_or]
theorem PB (t:Int):∀ks,iy 0 (aD t) (gi aD V.bool (cf ks))=gi aD V.bool (cf (ks.erase t))
 |[]=>rfl
 |k::ks=>by
  have ih:=PB t ks;simp only[cf,gi]at ih⊢;simp only[eo,iy,DD,az,beq_iff_eq,List.erase_cons];by_cases e:t=k
  ·subst e;simp
  ·rw[if_neg e,if_neg (fun h=>e h.symm),ih];rfl
theorem amU{ks:List Int}(h:ks.Nodup)(t:Int):(xq ks t).Nodup:=by
 unfold xq;split
 ·exact h
 ·rename_i hn
  exact FM.2 ⟨h,by simp,fun x hx y hy=>by
   simp only[dA,sP,or_false]at hy;subst hy;exact fun q=>hn (q ▸ hx)⟩
theorem amV{ks:List Int}{t x:Int}:x∈xq ks t↔x∈ks\/x=t:=by
 unfold xq;split
 ·rename_i h;exact⟨.inl,fun q=>q.elim id fun e=>e ▸ h⟩
 ·simp
def xr (hs:List gk)(ks:List Int):List Int:=hs.foldl (fun ks h=>xq ks h.Table) ks
theorem Ze:∀(hs:List gk) {ks:List Int},ks.Nodup->(xr hs ks).Nodup
 |[],_,h=>h
 | _::hs,_,h=>Ze hs (amU h _)
theorem Zf:∀(hs:List gk) {ks:List Int} {t:Int},t∈xr hs ks↔t∈ks\/∃h∈hs,h.Table=t
 |[],ks,t=>by simp[xr]
 |h::hs,ks,t=>by
  have:=Zf hs (ks:=xq ks h.Table) (t:=t);unfold xr at this⊢;rw[qu,this,amV];simp only[dA,exists_eq_or_imp,or_assoc,eq_comm (a:=t)]
theorem amW (j:dN)(hl:j.Model.b7.l.length<=12):c0 (zv j) (0,[])=some (cf (xr j.Model.b7.l [])):=by
 have key:∀(n k:Nat) (ks:List Int),k+n=j.Model.b7.l.length->c0 (zv j) ((k:Int),cf ks)=some (cf (xr (j.Model.b7.l.drop k) ks)):=by
  intro n
  induction n with
  |zero=>
   intro k ks cW;have e:k=j.Model.b7.l.length:=by omega
   rw[k4];subst e;simp only[zv,mw,cond_false,List.drop_length];rfl
  |succ n ih=>
   intro k ks cW;have aX:k<j.Model.b7.l.length:=by omega
   have hx:j.Model.b7.l[k]? =some j.Model.b7.l[k]:=by simp[aX]
   rw[k4];simp only[zv,k8 aX,cond_true,fP,hx,cg,Zc];rw[fN (by omega),ih (k+1) _ (by omega),wc aX];rfl
 exact key j.Model.b7.l.length 0 [] (by omega)
theorem amX (j:dN)(hl:j.Model.b7.l.length<=12)(t:Int)(ks:List Int):
  DM j.Model.b7 (fun h=>some ((h.Table==t)&&(iH (cf ks) h.da).getD false))=some (j.Model.b7.l.any fun h=>(h.Table==t)&&decide (h.da∈ks)):=by
 exact E5 j.Model.b7 (by omega) (fun h _=>by rw[Zd])
end
end Go.Abs.hk
namespace Go.Abs.hk
open Go Go.Abs
noncomputable section
structure ql (hs:List gk) (ks:List Int) (d:List V) (k:List Int):Prop where
 dk:k.Nodup
 sub:∀t∈k,t∈ks
 next:∀t∈k,aD t∈d->∃h∈hs,h.Table=t/\h.da∈ks
 dQ:∀K:Int->Prop,(∀t,K t->t∈ks)->(∀t,K t->∃h∈hs,h.Table=t/\K h.da)->∀t,K t->t∈k
theorem ql.start{hs:List gk}{ks:List Int}(h:ks.Nodup):ql hs ks [] ks:=⟨h,fun _ h=>h,fun t _ h=>(by cases h),fun _ h _=>h⟩
theorem ql.stay{hs:List gk}{ks k:List Int}{d:List V}(h:ql hs ks d k){t:Int}(bc:(hs.any fun h=>(h.Table==t)&&decide (h.da∈k))=true):ql hs ks (d++[aD t]) k:=by
 refine⟨h.dk,h.sub,fun u hu hd=> ?_,h.dQ⟩;rcases jA.1 hd with hd|hd
 ·exact h.next u hu hd
 ·simp only[dA,sP,or_false,V.int.injEq,true_and]at hd
  subst hd;obtain⟨x,hx,h1⟩:=ry.1 bc;simp only[b8,beq_iff_eq,decide_eq_true_eq]at h1;exact⟨x,hx,h1.1,h.sub _ h1.2⟩
theorem ql.gone{hs:List gk}{ks k:List Int}{d:List V}(h:ql hs ks d k){t:Int}(bc:(hs.any fun h=>(h.Table==t)&&decide (h.da∈k))=false):ql hs ks (d++[aD t]) (k.erase t):=by
 refine⟨h.dk.erase t,fun u hu=>h.sub u (List.mem_of_mem_erase hu),fun u hu hd=> ?_,fun K h1 h2 u hu=> ?_⟩
 ·have PC:u≠t:=fun e=>by subst e;exact(List.Nodup.not_mem_erase h.dk) hu
  rcases jA.1 hd with hd|hd
  ·exact h.next u (List.mem_of_mem_erase hu) hd
  ·simp only[dA,sP,or_false,V.int.injEq,true_and]at hd
   exact absurd hd PC
 ·have cW:=h.dQ K h1 h2
  have PC:u≠t:=fun e=>by
   subst e;obtain⟨x,hx,af,e2⟩:=h2 u hu;have:=QR.1 bc x hx;simp[af,cW _ e2]at this
  exact(List.mem_erase_of_ne PC).2 (cW u hu)
theorem ql.fin{hs:List gk}{ks k:List Int}{d:List V}(h:ql hs ks d k)(ao:∀t∈k,aD t∈d):DL hs ks k:=⟨h.sub,h.dk,fun t ht=>h.next t ht (ao t ht),h.dQ⟩
variable{C:Ctx}{fid:Nat->Nat}{vars:List Nat}{N:Nat}{aa:Nat->Option bY}
structure sB (j:dN) (ai eu l:Nat) (ts:List Nat) (vs:List V) (ks:List Int) (b:Nat) (s:aq):Prop where
 aG:s.aG=[]
 ro:s.ro=none
 ok:∃σ,Fits s.av σ/\At σ (1::7::ts) (.ptr ai 0::.ptr eu 0::vs)
 own:Own s.H [[(eu,.cells [.map l])],[(l,.map (gi aD V.bool (cf ks)))],[(ai,.cells (iM j))]]
 len:b<=s.H.length
theorem BS{s:aq}(h1:s.aG=[])(h2:s.ro=none):s=⟨[],s.av,s.H,s.low,none⟩:=by cases s;simp_all
theorem amY (Qw:aa 224=some (.code au0))(nC:zq aa){j:dN}(hl:j.Model.b7.l.length<=12){ai eu l li:Nat}{ts:List Nat}{vs:List V}{ks k:List Int}{d:List V}{s:aq}(ht:∀t∈ts,t≠10/\t≠122/\t≠130)(aua:l<li)
  (hs:sB j ai eu l (120::ts) (.ptr li 0::vs) k (li+1) s) (hp:ql j.Model.b7.l ks d k) {kv:V × V} (lv:kv∈gi aD V.bool (cf k)):
  O3 U lx aa l li (gi aD V.bool (cf k)) kv s fun bD al=>∃bp,bD=gi aD V.bool (cf bp)/\sB j ai eu l (120::ts) (.ptr li 0::vs) bp (li+1) al/\ql j.Model.b7.l ks (d++[kv.1]) bp:=by
 obtain⟨t,zB,rfl⟩:∃t∈k,kv=(aD t,.bool true):=by
  unfold gi cf at lv;rw[rB]at lv;obtain⟨t,h1,h2⟩:=ey.1 lv;exact⟨t,h1,h2.symm⟩
 obtain⟨Fi,Fj,⟨σ,ab,fT⟩,aA,hlen⟩:=hs;rw[BS Fi Fj];have g1:σ 1=.ptr ai 0:=(ew fT).1;have g7:σ 7=.ptr eu 0:=(ew (ew fT).2).1;have PD:σ 120=.ptr li 0:=(ew (ew (ew fT).2).2).1;have PE:ts.map σ=vs:=(ew (ew (ew fT).2).2).2
 obtain⟨wZ,H2,c5,js,q1,aS,b1,cL,nn,et,gz,jI⟩:=alp (aa:=aa) (R:=U) (b:=li+1) (kv:=(aD t,.bool true)) (σ:=σ) (H:=s.H) (li:=li) (low:=s.low)
  (Q:=fun aN H'=>∃nn,aN 10=.ptr nn 0/\(∀x,x≠10->x≠122->aN x=σ x)/\Own H' [[(nn,.cells [aD t])],[(eu,.cells [.map l])],[(l,.map (gi aD V.bool (cf k)))],[(ai,.cells (iM j))]])
  PD (pp (.bool true) <| dV ⟨rfl,by
   show up σ 122 (.bool true) 120=_
   rw[iU _ _ (by decide)];exact PD,pp (aD t) <| yJ rfl aA fun H' nn hb tk=>yK (vs:=[aD t]) (cs':=[aD t]) rfl tk 0 rfl hb rfl rfl ⟨rfl,aK _⟩ (by simp[bS]) rfl fun FV amZ=>dV ⟨nn,rfl,fun x hx Ym=>by
    show up (up σ 122 (.bool true)) 10 (.ptr nn 0) x=_;rw[iU _ _ hx,iU _ _ Ym],amZ⟩⟩) ab hlen
 have am0:=amX j hl t k
 obtain⟨gR,tl,sw,JQ,gS,bA,b9,eD,gx,rfl,rfl,rfl⟩:=alZ (aa:=aa) (b:=li+1) (σ:=js) (H:=H2) Qw nC (ts:=[]) (vs:=[]) jI (by
  show[js 1,js 7,js 10]=_;rw[gz 1 (by decide) (by decide),gz 7 (by decide) (by decide),et,g1,g7]) am0 wZ c5 aS b1 cL
 refine⟨_,_,q1,bA,eD,?_⟩
 have vS:∀(aN:bV),(∀x,x≠10->x≠122->x≠130->aN x=σ x)->At aN (1::7::120::ts) (.ptr ai 0::.ptr eu 0::.ptr li 0::vs):=fun aN h=>by
  show _::_::_::List.map aN ts=_;rw[h 1 (by decide) (by decide) (by decide),h 7 (by decide) (by decide) (by decide),h 120 (by decide) (by decide) (by decide),g1,g7,PD,<-PE];congr 3;exact pn fun x hx=>h x (ht x hx).1 (ht x hx).2.1 (ht x hx).2.2
 have AD:(bk tl 130)=.bool (!(j.Model.b7.l.any fun h=>(h.Table==t)&&decide (h.da∈k))):=by rw[b9,ve]
 cases hc:(j.Model.b7.l.any fun h=>(h.Table==t)&&decide (h.da∈k))with
 |true=>
  refine .inl ⟨?_,k,rfl,⟨rfl,rfl,⟨_,b9,vS _ fun x h1 h2 ar=> ?_⟩,jI.drop 0,cL⟩,hp.stay hc⟩
  ·show bk tl 130=_
   rw[AD,hc];rfl
  ·rw[iU _ _ ar,gz x h1 h2]
 |false=>
  have wX:bk tl 7=.ptr eu 0:=by rw[b9,iU _ _ (by decide),gz 7 (by decide) (by decide),g7]
  have am1:bk tl 10=.ptr nn 0:=by rw[b9,iU _ _ (by decide),et]
  have f7:=jI.get 1 rfl;have f10:=jI.get 0 rfl;have aR:=jI.get 2 rfl
  have hex:cQ (bZ aa) Jw ⟨[],tl,sw,JQ,none⟩ []=some (⟨[(132,aD t),(131,.map l)],tl,sw,min (min JQ sw.length) sw.length,none⟩,[false,false]):=by
   simp[Jw,cQ,e3,jK,gN,fY,ag.ae,wX,am1,f7,f10,aq.put,iT]
  refine .inr ⟨?_,_,_,_,hex,by show li<min (min JQ sw.length) sw.length;omega,rfl,DE (gj:=V.bool) DD t (cf k),k.erase t,PB t k,⟨rfl,rfl,⟨_,b9,vS _ fun x h1 h2 ar=> ?_⟩,?_,?_⟩,hp.gone hc⟩
  ·show bk tl 130=_
   rw[AD,hc];rfl
  ·rw[iU _ _ ar,gz x h1 h2]
  ·have:=jI.put 2 (a:=l) (o:=.map (gi aD V.bool (cf k))) (o':=.map (gi aD V.bool (cf (k.erase t)))) rfl
   have h2:=this.drop 0;show Own (sw.set l (.map (iy 0 (aD t) (gi aD V.bool (cf k))))) _;rw[PB];exact h2
  ·show li+1<=(sw.set l _).length
   rw[zT];exact cL
theorem am2 (cD:C.P.follows .mixedOrders=true)(bu:eZ C fid)(a6:gH C fid (bZ aa)){ri:Code}(hr:yA C vars N ri=some U)(hd:BK C vars N (Ju ri)=some lx)(Qw:aa 224=some (.code au0))(nC:zq aa)
  {j:dN} (hl:j.Model.b7.l.length<=12) {ai eu l:Nat} {ts:List Nat} {vs:List V} {ks:List Int} {s:aq} (hnd:ks.Nodup) (ht:∀t∈ts,t≠10/\t≠122/\t≠130/\t≠120) (hs:sB j ai eu l ts vs ks 0 s):
  c3 C fid vars N ri s fun x al=>x=.normal/\∃bp,DL j.Model.b7.l ks bp/\sB j ai eu l ts vs bp 0 al:=by
 obtain⟨Fi,Fj,⟨σ,ab,fT⟩,aA,hlen⟩:=hs;have g1:σ 1=.ptr ai 0:=(ew fT).1;have g7:σ 7=.ptr eu 0:=(ew (ew fT).2).1;have PE:ts.map σ=vs:=(ew (ew fT).2).2;have f7:=aA.get 0 rfl;have aR:=aA.get 1 rfl;have jl:=wT aR;rw[BS Fi Fj];have wX:bk s.av 7=.ptr eu 0:=by rw[ab];exact g7
 have hex:cQ (bZ aa) U.t0 ⟨[],s.av,s.H,s.low,none⟩ []=some (⟨[(119,.map l)],s.av,s.H,min s.low s.H.length,none⟩,[false]):=by
  simp[U,cQ,e3,jK,gN,fY,ag.ae,wX,f7,aq.put,iT]
 refine(c3.aln cD bu a6 hr hd (iS:=⟨[],s.av,s.H,s.low,none⟩) hex (l:=l) (bb:=gi aD V.bool (cf ks)) rfl aR
  (fun d es al=>∃bp,es=gi aD V.bool (cf bp)/\sB j ai eu l (120::ts) (.ptr s.H.length 0::vs) bp (s.H.length+1) al/\ql j.Model.b7.l ks d bp)
  (fun es al=>∃bp,DL j.Model.b7.l ks bp/\sB j ai eu l ts vs bp 0 al) ⟨ks,rfl,⟨rfl,rfl,⟨_,VO ab 120 (.ptr s.H.length 0),?_⟩,⟨fun m hm p hp=> ?_,aA.2⟩,?_⟩,.start hnd⟩ ?_ ?_ ?_).mono ?_
 ·show up σ 120 (.ptr s.H.length 0) 1::up σ 120 (.ptr s.H.length 0) 7::up σ 120 (.ptr s.H.length 0) 120::List.map (up σ 120 (.ptr s.H.length 0)) ts=_
  rw[iU _ _ (by decide),iU _ _ (by decide),ve,g1,g7,<-PE];congr 3;exact pn fun x hx=>iU _ _ (ht x hx).2.2.2
 ·show(s.H++[cc.gone])[p.1]? =_
  rw[gE (aA.lt hm hp)];exact aA.1 m hm p hp
 ·show s.H.length+1<=(s.H++[cc.gone]).length
  simp
 ·rintro d es al ⟨bp,-,h,-⟩
  obtain⟨aN,h1,h2⟩:=h.ok;show bk al.av 120=_;rw[h1];exact(ew (ew (ew h2).2).2).1
 ·rintro d es al ⟨bp,rfl,h,hp⟩ kv lv
  exact amY Qw nC hl (fun t q=>⟨(ht t q).1,(ht t q).2.1,(ht t q).2.2.1⟩) jl h hp lv
 ·rintro d es al ⟨bp,rfl,⟨du,am3,⟨aN,h1,h2⟩,tk,nu⟩,hp⟩ eA
  rw[BS du am3];obtain⟨dD,H',low',js,q1,aS,b1,cL,et,rfl⟩:=alo (aa:=aa) (R:=U) (b:=s.H.length+1) (σ:=aN) (H:=al.H) (low:=al.low) (Q:=fun js H2=>js=up aN 122 (.bool false)/\H2=al.H) (pp (.bool false) <| dV ⟨rfl,rfl,rfl⟩) h1 nu;subst et;refine⟨_,q1,b1,bp,hp.fin fun t zB=>eA (aD t,.bool true) ?_,rfl,rfl,⟨_,aS,?_⟩,tk,cx _⟩
  ·unfold gi cf
   rw[rB];exact ey.2 ⟨t,zB,rfl⟩
  ·show up aN 122 (.bool false) 1::up aN 122 (.bool false) 7::List.map (up aN 122 (.bool false)) ts=_
   have dm:=(ew h2).1;have zC:=(ew (ew h2).2).1;have am4:=(ew (ew (ew h2).2).2).2;rw[iU _ _ (by decide),iU _ _ (by decide),dm,zC,<-am4];congr 2;exact pn fun x hx=>iU _ _ (ht x hx).2.1
 ·rintro x al ⟨rfl,es,s2,⟨bp,h1,h2⟩,rfl⟩
  exact⟨rfl,bp,h1,h2.aG,h2.ro,h2.ok,h2.own,h2.len⟩
end
end Go.Abs.hk
namespace Go.Abs.hk
open Go Go.Abs
noncomputable section
variable{C:Ctx}{fid:Nat->Nat}{vars:List Nat}{N:Nat}{aa:Nat->Option bY}
theorem BT{c:cj}{σ:bV}{H:Heap}{Q:X->bV->Heap->Prop}{av:Env}(h:eS aa 0 c σ H Q)(ab:Fits av σ)(low:Nat):
  ∃x dD H' low' aN,dx aa c ⟨[],av,H,low,none⟩=some (x,⟨[],dD,H',low',none⟩)/\Fits dD aN/\Q x aN H':=by
 obtain⟨x,dD,H',low',aN,h1,h2,-,-,ar⟩:=h av low ab (cx _) (cx _);exact⟨x,dD,H',low',aN,h1,h2,ar⟩
theorem Zg{σ:bV}{a b c d:Nat}{x y z w:V}(h:At σ [a,b,c,d] [x,y,z,w]):At σ [a,b] [x,y]:=by
 simp only[At,eo,mT,Ce]at h⊢;exact⟨h.1,h.2.1,trivial⟩
theorem am5{σ:bV}{a b:Nat}{x y:V}(h:At σ [a,b] [x,y]):At σ [b] [y]:=by
 simp only[At,eo,mT,Ce]at h⊢;exact⟨h.2.1,trivial⟩
def PF:cj:=.region [⟨some (118,true),.bin .lss (.var 117) (.var 116),none⟩] none
def PG:cj:=.cond (.var 118) .skip (.exit 4)
def PH:cj:=.region [⟨some (133,false),.bin .add (.var 117) (.const (.int .i64 1)),none⟩,⟨some (117,true),.mv (.tmp 133),none⟩] none
section
variable{b:Nat}{σ:bV}{H:Heap}
theorem am6{ah:dN}{ai eu l:Nat}{m:List (Int × Bool)}(j:At σ [1,7] [.ptr ai 0,.ptr eu 0])(aA:Own H [[(eu,.cells [.map l])],[(l,.map (gi aD V.bool m))],[(ai,.cells (iM ah))]]):
  eS aa b (xk (hA 6)) σ H fun x aN H'=>x=.normal/\H'=H/\At aN [1,7,116,117] [.ptr ai 0,.ptr eu 0,aD ah.Model.b7.len,aD 0]:=by
 rw[<-wY j];refine o6 <| pp (.ptr ai 0) <| pp (.ptr ai 6) <| ph (bg 3 iX ah.Model.b7) (hK rfl (aA.get 2 rfl) rfl) <| ph (aD ah.Model.b7.len) (qZ rfl _) <| pp (aD 0) <| dV ⟨rfl,rfl,rfl⟩
theorem am7{i n:Int}(h1:σ 116=aD n)(h2:σ 117=aD i):eS aa b (.seq PF PG) σ H fun x aN H'=>x=(if i<n then .normal else .exit 4)/\H'=H/\aN=up σ 118 (.bool (decide (i<n))):=by
 refine kc <| o6 <| ph (.bool (decide (i<n))) ?_ <| dV ?_
 ·rw[jq]
  show(dB .lss (σ 117) (σ 116)).map _=_;rw[h1,h2];rfl
 ·by_cases h:i<n
  ·refine qW (β:=decide (i<n)) rfl (by simpa using h) (qV ⟨by rw[if_pos h],rfl,rfl⟩)
  ·refine qX (β:=decide (i<n)) rfl (by simpa using h) (Dz ⟨by rw[if_neg h],rfl,rfl⟩)
theorem am8{i:Int}(h2:σ 117=aD i):eS aa b PH σ H fun x aN H'=>x=.normal/\H'=H/\aN=up σ 117 (aD (bJ (i+1))):=by
 refine o6 <| ph (aD (bJ (i+1))) ?_ <| pp (aD (bJ (i+1))) <| dV ⟨rfl,rfl,rfl⟩
 rw[jq];show(dB .add (σ 117) (aD 1)).map _=_;rw[h2];rfl
end
theorem am9 (cD:C.P.follows .mixedOrders=true)(bu:eZ C fid)(a6:gH C fid (bZ aa)){hd nc ri inc:Code}(dq:C.code vars N hd=some PF)(fb:C.code vars N nc=some PG)(gG:C.code vars N inc=some PH)
  (hr:yA C vars N ri=some U) (kW:BK C vars N (Ju ri)=some lx) (Qw:aa 224=some (.code au0)) (nC:zq aa) {j:dN} (hl:j.Model.b7.l.length<=12) {ai eu l:Nat} {ks:List Int} {s:aq} (hnd:ks.Nodup)
  (hs:sB j ai eu l [116,117] [aD j.Model.b7.len,aD 0] ks 0 s):
  c3 C fid vars N (.block 4 (.loop (.seq hd (.seq nc (.seq (.block 5 ri) inc))))) s fun x al=>x=.normal/\∃bp,pV j.Model.b7.l ks j.Model.b7.l.length bp/\sB j ai eu l [] [] bp 0 al:=by
 refine c3.block (c3.loop (fun k al=>∃(i:Nat) (bp:List Int),i+k=j.Model.b7.l.length/\bp.Nodup/\pV j.Model.b7.l ks i bp/\sB j ai eu l [116,117] [aD j.Model.b7.len,aD i] bp 0 al) j.Model.b7.l.length ⟨0,ks,by omega,hnd,.zero,hs⟩ ?_);rintro k s1 ⟨i,cq,aub,ana,Cy,Fi,Fj,⟨σ,ab,fT⟩,aA,hlen⟩;have g1:σ 1=.ptr ai 0:=(ew fT).1;have g7:σ 7=.ptr eu 0:=(ew (ew fT).2).1;have Zh:σ 116=aD j.Model.b7.len:=(ew (ew (ew fT).2).2).1;have Zi:σ 117=aD i:=(ew (ew (ew (ew fT).2).2).2).1;rw[BS Fi Fj];obtain⟨x,dD,H',low',aN,q1,aS,b1,rfl,et⟩:=BT (aa:=aa) (am7 (H:=s1.H) Zh Zi) ab s1.low;have Zj:j.Model.b7.len=(j.Model.b7.l.length:Int):=rfl
 have PI:At aN [1,7,116,117] [.ptr ai 0,.ptr eu 0,aD j.Model.b7.len,aD i]:=by
  rw[et];show[up σ 118 (.bool (decide ((i:Int)<j.Model.b7.len))) 1,up σ 118 (.bool (decide ((i:Int)<j.Model.b7.len))) 7,up σ 118 (.bool (decide ((i:Int)<j.Model.b7.len))) 116,up σ 118 (.bool (decide ((i:Int)<j.Model.b7.len))) 117]=_;rw[iU _ _ (by decide),iU _ _ (by decide),iU _ _ (by decide),iU _ _ (by decide),g1,g7,Zh,Zi]
 by_cases hi:i<j.Model.b7.l.length
 ·have hx:x=.normal:=by rw[b1,if_pos (by rw[Zj];omega)]
  subst hx;refine c3.zt cD bu a6 dq q1 (fun s2 oT=>c3.seq (c3.dx cD bu a6 fb oT) (fun dL ar=> ?_) fun y dL hy ar=>absurd ar.1 hy) (fun h=>absurd rfl h);obtain⟨-,rfl⟩:=ar;refine c3.seq (G4:=fun y dL=>y=.normal/\∃bp,DL j.Model.b7.l cq bp/\sB j ai eu l [116,117] [aD j.Model.b7.len,aD i] bp 0 dL) (c3.block ((am2 (s:=⟨[],dD,s1.H,low',none⟩) cD bu a6 hr kW Qw nC hl ana (ts:=[116,117]) (vs:=[aD j.Model.b7.len,aD i]) (by decide) ⟨rfl,rfl,⟨aN,aS,PI⟩,aA,cx _⟩).mono fun y dL hy=>⟨by rw[hy.1];rfl,hy.2⟩)) (fun dL ar=> ?_) fun y dL hy ar=>absurd ar.1 hy;obtain⟨-,ee,Zk,L7,AQ,⟨gS,anb,vS⟩,zx,Te⟩:=ar;have dm:gS 1=.ptr ai 0:=(ew vS).1;have zC:gS 7=.ptr eu 0:=(ew (ew vS).2).1;have anc:gS 116=aD j.Model.b7.len:=(ew (ew (ew vS).2).2).1;have bi:gS 117=aD i:=(ew (ew (ew (ew vS).2).2).2).1;rw[BS L7 AQ];obtain⟨y,Nb,Nc,auc,Nd,bA,b9,rfl,rfl,iR⟩:=BT (aa:=aa) (am8 (H:=dL.H) bi) anb dL.low;refine(c3.dx cD bu a6 gG bA).mono fun y jR hy=> ?_;obtain⟨rfl,rfl⟩:=hy;refine .inl ⟨rfl,k-1,by omega,i+1,ee,by omega,Zk.dk,.succ Cy Zk,rfl,rfl,⟨Nd,b9,?_⟩,zx,cx _⟩;rw[iR];show[up gS 117 (aD (bJ ((i:Int)+1))) 1,up gS 117 (aD (bJ ((i:Int)+1))) 7,up gS 117 (aD (bJ ((i:Int)+1))) 116,up gS 117 (aD (bJ ((i:Int)+1))) 117]=_;rw[iU _ _ (by decide),iU _ _ (by decide),iU _ _ (by decide),ve,dm,zC,anc,fN (by omega)]
 ·have hx:x=.exit 4:=by rw[b1,if_neg (by rw[Zj];omega)]
  subst hx;refine c3.zt cD bu a6 dq q1 (fun s2 oT=>c3.seq (c3.dx cD bu a6 fb oT) (fun dL ar=>absurd ar.1 (by simp)) fun y dL hy ar=> ?_) (fun _=> ?_)
  ·obtain⟨rfl,rfl⟩:=ar
   have:i=j.Model.b7.l.length:=by omega
   subst this;exact .inr ⟨by simp,rfl,cq,Cy,rfl,rfl,⟨aN,aS,Zg PI⟩,aA,cx _⟩
  ·have:i=j.Model.b7.l.length:=by omega
   subst this;exact .inr ⟨by simp,rfl,cq,Cy,rfl,rfl,⟨aN,aS,Zg PI⟩,aA,cx _⟩
theorem ane (cD:C.P.follows .mixedOrders=true)(bu:eZ C fid)(a6:gH C fid (bZ aa)){p1 p2 p3 j6 qa xi EU hd nc ri inc:Code}(af:C.code vars N p1=some (hA 1))(e2:C.code vars N p2=some (hA 2))(bT:C.code vars N p3=some (hA 3))(cF:C.code vars N j6=some (hA 4))(ej:C.code vars N qa=some (hA 5))
  (j2:C.code vars N xi=some (xk (hA 6))) (wX:C.code vars N EU=some (hA 7)) (dq:C.code vars N hd=some PF) (fb:C.code vars N nc=some PG) (gG:C.code vars N inc=some PH)
  (hr:yA C vars N ri=some U) (kW:BK C vars N (Ju ri)=some lx) (Qw:aa 224=some (.code au0)) (nC:zq aa) (PJ:Jn aa) (j:dN):
  c3 C fid vars N (.seq p1 (.seq p2 (.seq p3 (.seq j6 (.seq qa (.seq (.seq xi (.block 4 (.loop (.seq hd (.seq nc (.seq (.block 5 ri) inc)))))) EU)))))) ⟨[],fQ 0 [.agg (iM j)],[],0,none⟩
   fun x s=>x=.ret/\bk s.av 2=.bool (DK j.Model.Tables.l j.Model.b7.l):=by
 obtain⟨x,lC,H1,bI,c1,q1,aS,b1⟩:=BT (aa:=aa) (alq (H0:=[]) PJ j (amT j)) (MW 0 [.agg (iM j)]) 0;unfold DK;cases bx:(decide (j.Model.b7.l.length<=12)&&j.Model.b7.l.all (vq j.Model.Tables.l))with
 |false=>
  rw[bx]at b1;obtain⟨rfl,fT⟩:=b1;have ad:bk lC 2=.bool false:=(aS 2).trans (ew fT).1
  have aT:(decide (j.Model.b7.l.length<=12)&&(j.Model.b7.l.all (vq j.Model.Tables.l)&&HJ j.Model.b7.l j.Model.Tables.l.length))=false:=by
   rw[<-Cf,bx];rfl
  rw[aT];refine c3.zt cD bu a6 af q1 (fun s2 h2=>c3.zt cD bu a6 e2 h2 (fun dL ar=>c3.seq (c3.dx cD bu a6 bT ar) (fun jR aQ=>absurd aQ.1 (by simp)) fun y jR hy aQ=> ?_) fun _=>⟨rfl,ad⟩) fun _=>⟨rfl,ad⟩;obtain⟨rfl,rfl⟩:=aQ;exact⟨rfl,ad⟩
 |true=>
  rw[bx]at b1;obtain⟨rfl,ai,-,fT,aA⟩:=b1;obtain⟨Zl,eA⟩:=axe.1 bx;have hl:j.Model.b7.l.length<=12:=by simpa using Zl
  rw[Zl,eA,fI,fI];refine c3.zt cD bu a6 af q1 (fun s2 h2=>c3.zt cD bu a6 e2 h2 (fun dL ar=>c3.seq (c3.dx cD bu a6 bT ar) (fun jR aQ=> ?_) fun y jR hy aQ=>absurd aQ.1 hy) fun h=>absurd rfl h) fun h=>absurd rfl h;obtain⟨-,rfl⟩:=aQ;obtain⟨x,wZ,H2,c5,js,bA,b9,rfl,eu,l,-,-,anf,Zm⟩:=BT (aa:=aa) (alK (b:=0) j fT aA (amW j hl)) aS bI;refine c3.zt cD bu a6 cF bA (fun s2 h2=>c3.seq (c3.dx cD bu a6 ej h2) (fun jR aQ=> ?_) fun y jR hy aQ=>absurd aQ.1 hy) fun h=>absurd rfl h;obtain⟨-,rfl⟩:=aQ;obtain⟨x,tl,sw,JQ,gS,t1,t2,rfl,rfl,vS⟩:=BT (aa:=aa) (am6 (b:=0) anf Zm) b9 c5;have hnd:(xr j.Model.b7.l []).Nodup:=Ze _ FR;refine c3.seq (c3.seq (c3.dx cD bu a6 j2 t1) (fun jR aQ=> ?_) fun y jR hy aQ=>absurd aQ.1 hy) (fun PK h5=> ?_) fun y PK hy (h5:y=.normal/\∃bp,pV j.Model.b7.l (xr j.Model.b7.l []) j.Model.b7.l.length bp/\sB j ai eu l [] [] bp 0 PK)=>absurd h5.1 hy
  ·obtain⟨-,rfl⟩:=aQ
   exact am9 cD bu a6 dq fb gG hr kW Qw nC hl hnd ⟨rfl,rfl,⟨gS,t2,vS⟩,Zm,cx _⟩
  ·obtain⟨-,bp,ang,anh,L0,⟨ani,anj,ank⟩,anl,-⟩:=h5
   rw[BS anh L0];have zC:At ani [7] [.ptr eu 0]:=am5 ank;obtain⟨x,anm,aud,aue,auf,ky,oR,rfl,ann⟩:=BT (aa:=aa) (alX (b:=0) zC anl) anj PK.low;refine(c3.dx cD bu a6 wX ky).mono fun y aug hy=> ?_;obtain⟨rfl,rfl⟩:=hy;refine⟨rfl,?_⟩;show bk anm 2=_;rw[oR 2,(ew ann).1]
   have wN:∀h∈j.Model.b7.l,0<=h.Table/\h.Table<(j.Model.Tables.l.length:Int):=fun h fj=>by
    have:=eV.1 eA h fj;unfold vq at this;simp only[b8,decide_eq_true_eq]at this;exact⟨this.1.1,this.1.2⟩
   rw[<-aiu (N:=j.Model.Tables.l.length) hnd (fun t=>by rw[Zf];simp) wN ang];unfold cf;rw[oG]
end
end Go.Abs.hk
namespace Go.Abs.hk
open Go Go.Abs
noncomputable section
theorem PL (x:bH)(n:Nat):decide ((x.length:Int)>(n:Int))=!decide (x.length<=n):=by
 rw[Y8];congr 1;exact decide_eq_decide.2 (by omega)
def Fk (t:Table):Bool:=decide (t.Name.length<=40)&&decide (t.bP.l.length<=12)
def Fl (s:List Int)(ts:List Table):Bool:=ts.all Fk&&(decide (s.length<=12)&&decide (ts.length<=20))
theorem ano (s:ak Int)(ts:ak Table)(h:cm ts.l):HN s ts=some (Fl s.l ts.l):=by
 unfold HN
 rw[xn (f:=HM ts) ts.l h (fun t=>!Fk t) (fun k t ht=>by
  simp only[HM,k8 (kl ht),cond_true,fP,ht,cg];rw[show decide ((t.Name.length:Int)>40)=!decide (t.Name.length<=40)from PL t.Name 40,show decide (t.bP.len>12)=!decide (t.bP.l.length<=12)from my t.bP 12];unfold Fk;cases decide (t.Name.length<=40)<;>cases decide (t.bP.l.length<=12)<;>rfl) (by simp only[HM,mw,cond_false])]
 unfold Fl;rw[sK,show decide (s.len<=12)=decide (s.l.length<=12)from Fg s 12,show decide (ts.len<=20)=decide (ts.l.length<=20)from Fg ts 20];cases ts.l.any fun t=>!Fk t<;>rfl
def Fm (o:cl):Bool:=decide (o.Name.length<=40)&&decide (o.bC.l.length<=6)
def PM (x:eK):Bool:=decide (x.Delta.l.length<=20)&&(decide (x.ia.l.length<=10)&&decide (x.hL.l.length<=40))
def PN (x:eK):Bool:=x.ia.l.all fun r=>decide (r.eT.l.length<=20)
def Fo (a:Action):Bool:=(decide (a.bL.l.length<=6)&&PM a.eK)&&PN a.eK
def Fp (m:Model):Bool:=
 (decide (m.bC.l.length<=8)&&(decide (m.Tables.l.length<=6)&&(decide (m.fE.l.length<=20)&&(decide (m.fu.l.length<=60)&&(decide (m.Operations.l.length<=8)&&(decide (m.Actions.l.length<=30)&&(decide (m.b7.l.length<=12)&&Fl m.bC.l m.Tables.l)))))))&&
 ((m.fE.l.all fun x=>decide (x.length<=40))&&((m.fu.l.all fun c=>decide (c.Row.eT.l.length<=20))&&(m.Operations.l.all Fm&&m.Actions.l.all Fo)))
theorem anp (m:Model):HU m=some (Fp m):=by
 unfold HU Fp
 rw[show decide (m.bC.len>8)=!decide (m.bC.l.length<=8)from my m.bC 8,show decide (m.Tables.len>6)=!decide (m.Tables.l.length<=6)from my m.Tables 6,
  show decide (m.fE.len>20)=!decide (m.fE.l.length<=20)from my m.fE 20,show decide (m.fu.len>60)=!decide (m.fu.l.length<=60)from my m.fu 60,
  show decide (m.Operations.len>8)=!decide (m.Operations.l.length<=8)from my m.Operations 8,show decide (m.Actions.len>30)=!decide (m.Actions.l.length<=30)from my m.Actions 30,
  show decide (m.b7.len>12)=!decide (m.b7.l.length<=12)from my m.b7 12]
 cases h1:decide (m.bC.l.length<=8)with
 |false=>rfl
 |true=>
 cases h2:decide (m.Tables.l.length<=6)with
 |false=>rfl
 |true=>
 cases ar:decide (m.fE.l.length<=20)with
 |false=>rfl
 |true=>
 cases aQ:decide (m.fu.l.length<=60)with
 |false=>rfl
 |true=>
 cases h5:decide (m.Operations.l.length<=8)with
 |false=>rfl
 |true=>
 cases ft:decide (m.Actions.l.length<=30)with
 |false=>rfl
 |true=>
 cases kZ:decide (m.b7.l.length<=12)with
 |false=>rfl
 |true=>
 have aS:m.Tables.l.length<=6:=by simpa using h2
 have b1:m.fE.l.length<=20:=by simpa using ar
 have cL:m.fu.l.length<=60:=by simpa using aQ
 have et:m.Operations.l.length<=8:=by simpa using h5
 have gz:m.Actions.l.length<=30:=by simpa using ft
 simp only[hZ,cond_false,fI];rw[ano m.bC m.Tables (by unfold cm;omega)];cases Fl m.bC.l m.Tables.l with
 |false=>rfl
 |true=>
 simp only[cg,hZ,cond_false,fI]
 rw[xn (f:=HO m) m.fE.l (by omega) (fun x=>!decide (x.length<=40)) (fun k x hx=>by
  simp only[HO,k8 (kl hx),cond_true,fP,hx,cg];rw[show decide ((x.length:Int)>40)=!decide (x.length<=40)from PL x 40];cases decide (x.length<=40)<;>rfl) (by simp only[HO,mw,cond_false])]
 rw[sK];cases m.fE.l.any fun x=>!decide (x.length<=40)with
 |true=>rfl
 |false=>
 simp only[cg,ue,cond_false,fI]
 rw[xn (f:=HP m) m.fu.l (by omega) (fun c=>!decide (c.Row.eT.l.length<=20)) (fun k c hx=>by
  simp only[HP,k8 (kl hx),cond_true,fP,hx,cg];rw[show decide (c.Row.eT.len>20)=!decide (c.Row.eT.l.length<=20)from my c.Row.eT 20];cases decide (c.Row.eT.l.length<=20)<;>rfl) (by simp only[HP,mw,cond_false])]
 rw[sK (l:=m.fu.l)];cases m.fu.l.any fun c=>!decide (c.Row.eT.l.length<=20)with
 |true=>rfl
 |false=>
 simp only[cg,ue,cond_false,fI]
 rw[xn (f:=HQ m) m.Operations.l (by omega) (fun o=>!Fm o) (fun k o hx=>by
  simp only[HQ,k8 (kl hx),cond_true,fP,hx,cg];rw[show decide ((o.Name.length:Int)>40)=!decide (o.Name.length<=40)from PL o.Name 40,show decide (o.bC.len>6)=!decide (o.bC.l.length<=6)from my o.bC 6];unfold Fm;cases decide (o.Name.length<=40)<;>cases decide (o.bC.l.length<=6)<;>rfl) (by simp only[HQ,mw,cond_false])]
 rw[sK (l:=m.Operations.l)];cases m.Operations.l.any fun o=>!Fm o with
 |true=>rfl
 |false=>
 simp only[cg,ue,cond_false,fI]
 rw[xn (f:=HS m) m.Actions.l (by omega) (fun a=>!Fo a) (fun k a hx=>by
  simp only[HS,k8 (kl hx),cond_true,fP,hx,cg]
  rw[show decide (a.bL.len>6)=!decide (a.bL.l.length<=6)from my a.bL 6,show decide (a.eK.Delta.len>20)=!decide (a.eK.Delta.l.length<=20)from my a.eK.Delta 20,
   show decide (a.eK.ia.len>10)=!decide (a.eK.ia.l.length<=10)from my a.eK.ia 10,show decide (a.eK.hL.len>40)=!decide (a.eK.hL.l.length<=40)from my a.eK.hL 40]
  unfold Fo PM;cases decide (a.bL.l.length<=6)with
  |false=>rfl
  |true=>
   cases decide (a.eK.Delta.l.length<=20)with
   |false=>rfl
   |true=>
    cases fj:decide (a.eK.ia.l.length<=10)with
    |false=>rfl
    |true=>
     cases decide (a.eK.hL.l.length<=40)with
     |false=>rfl
     |true=>
      have hl:a.eK.ia.l.length<=10:=by simpa using fj
      simp only[hZ,cond_false,cg,zV,fI]
      rw[xn (f:=HR a) a.eK.ia.l (by omega) (fun r=>!decide (r.eT.l.length<=20)) (fun k r hx=>by
       simp only[HR,k8 (kl hx),cond_true,fP,hx,cg];rw[show decide (r.eT.len>20)=!decide (r.eT.l.length<=20)from my r.eT 20];cases decide (r.eT.l.length<=20)<;>rfl) (by simp only[HR,mw,cond_false])]
      unfold PN;rw[sK];cases a.eK.ia.l.any fun r=>!decide (r.eT.l.length<=20)<;>rfl) (by simp only[HS,mw,cond_false])]
 rw[sK (l:=m.Actions.l)];cases m.Actions.l.any fun a=>!Fo a<;>rfl
structure BU (m:Model):Prop where
 PO:m.bC.l.length<=8
 tables:m.Tables.l.length<=6
 anq:m.fE.l.length<=21
 cons:m.fu.l.length<=60
 ops:m.Operations.l.length<=8
 gV:m.Actions.l.length<=31
 auh:m.b7.l.length<=13
 aa:∀t∈m.Tables.l,t.Name.length<=40/\t.bP.l.length<=12
 aui:∀x∈m.fE.l,x.length<=40
 anr:∀c∈m.fu.l,c.Row.eT.l.length<=20
 op:∀o∈m.Operations.l,o.Name.length<=40/\o.bC.l.length<=6
 act:∀a∈m.Actions.l,a.bL.l.length<=6/\Y9 a.eK
theorem ans{m:Model}(h:Fp m=true):BU m:=by
 unfold Fp Fl at h;simp only[b8,decide_eq_true_eq,eV]at h;obtain⟨⟨ai,a2,a3,a4,a5,zD,eu,ant,-,-⟩,dm,gy,jO,lg⟩:=h;refine⟨ai,a2,by omega,a4,a5,by omega,by omega,fun t ht=> ?_,dm,gy,fun o ho=> ?_,fun a ao=> ?_⟩
 ·have:=ant t ht
  unfold Fk at this;simpa using this
 ·have:=jO o ho
  unfold Fm at this;simpa using this
 ·have:=lg a ao
  unfold Fo PM PN at this;simp only[b8,decide_eq_true_eq,eV]at this;obtain⟨⟨dq,fb,gG,iC⟩,jj⟩:=this;exact⟨dq,by unfold cm;omega,by unfold cm;omega,by unfold cm;omega,fun r hr=>by have:=jj r hr;unfold cm;omega⟩
def vT (m:Model):Bool:=
 mu m.bC.l m.Tables.l&&(decide (m.fE.l.length<=24)&&(BQ m.fE.l&&(JL m.bC.l m.Tables.l (hQ m.bC.l m.Tables.l true) m.fE.len m.fu.l&&(zz m.bC.l.length m.Operations.l&&
  (zA m.bC.l m.Tables.l (hQ m.bC.l m.Tables.l true).length m.Operations.l m.Actions.l&&DK m.Tables.l m.b7.l)))))
theorem Fq{m:Model}(b:BU m):ou m=some (vT m):=by
 have hs:cm m.bC.l:=by have:=b.PO;unfold cm;omega
 have ht:cm m.Tables.l:=by have:=b.tables;unfold cm;omega
 have hc:∀t∈m.Tables.l,cm t.bP.l:=fun t h=>by have:=b.aa t h;unfold cm;omega
 unfold ou vT;rw[Pu m.bC m.Tables hs ht hc];simp only[cg];cases ad:mu m.bC.l m.Tables.l with
 |false=>rfl
 |true=>
  simp only[cond_true,fI];rw[show decide (m.fE.len>24)=!decide (m.fE.l.length<=24)from my m.fE 24];cases decide (m.fE.l.length<=24)with
  |false=>rfl
  |true=>
   simp only[hZ,cond_false,fI];rw[YT m.fE (by have:=b.anq;unfold cm;omega)];simp only[cg];cases BQ m.fE.l with
   |false=>rfl
   |true=>
    obtain⟨x,ex,el⟩:=YR m.bC m.Tables true hs ht hc;rw[ad]at el;simp only[cond_true]at el;have rh:∀t∈m.Tables.l,oE m.bC.l.length t.bP.l=true:=fun t h=>JF ((BM ad).2.2.2 t h);simp only[hZ,cond_false,fI];rw[ex];simp only[cg];have af:=amo (dN.mk m x) (by have:=b.cons;show m.fu.l.length<_;omega) (by show x.l.length<=_;rw[el];have:=amq ad true;omega) ht rh (fun c h=>by have:=b.anr c h;unfold cm;omega);have e2:=amF (dN.mk m x) (by have:=b.ops;show m.Operations.l.length<=_;omega) (fun o h=>by have:=(b.op o h).2;unfold cm;omega);rw[af,e2];simp only[cg];rw[show(dN.mk m x).strict.l=hQ m.bC.l m.Tables.l true from el];cases JL m.bC.l m.Tables.l (hQ m.bC.l m.Tables.l true) m.fE.len m.fu.l with
    |false=>rfl
    |true=>
     simp only[cond_true,fI];cases c4:zz m.bC.l.length m.Operations.l with
     |false=>rfl
     |true=>
      have PQ:=c4;unfold zz at PQ;simp only[b8,eV]at PQ;have bT:=amN (dN.mk m x) hs ht hc ad PQ.1 (fun o h=>by have:=(b.op o h).2;unfold cm;omega) (fun a h=>(b.act a h).2) (fun a h=>by have:=(b.act a h).1;unfold cm;omega) (by have:=b.gV;unfold cm;show m.Actions.l.length<_;omega);rw[bT];simp only[cg,cond_true,fI];rw[show(dN.mk m x).strict.len=((hQ m.bC.l m.Tables.l true).length:Int)from by rw[gL];show((x.l.length:Nat):Int)=_;rw[el]];cases zA m.bC.l m.Tables.l ((hQ m.bC.l m.Tables.l true).length:Int) m.Operations.l m.Actions.l<;>rfl
theorem aJX{m:Model}(b:BU m)(wN:∀w:bH,w.length<=40->ajb w=some (tM w)):avV m=some (vT m):=by
 have hs:cm m.bC.l:=by have:=b.PO;unfold cm;omega
 have ht:cm m.Tables.l:=by have:=b.tables;unfold cm;omega
 have hc:∀t∈m.Tables.l,cm t.bP.l:=fun t h=>by have:=b.aa t h;unfold cm;omega
 have hn:∀t∈m.Tables.l,ajb t.Name=some (tM t.Name):=fun t h=>wN _ (b.aa t h).1;unfold avV vT;rw[ay7 m.bC m.Tables hs ht hc hn];simp only[cg];cases ad:mu m.bC.l m.Tables.l with
 |false=>rfl
 |true=>
  simp only[cond_true,fI];rw[show decide (m.fE.len>24)=!decide (m.fE.l.length<=24)from my m.fE 24];cases decide (m.fE.l.length<=24)with
  |false=>rfl
  |true=>
   simp only[hZ,cond_false,fI];rw[aD5 m.fE (by have:=b.anq;unfold cm;omega) (fun x h=>wN x (b.aui x h))];simp only[cg];cases BQ m.fE.l with
   |false=>rfl
   |true=>
    simp only[hZ,cond_false,fI];rw[aJF m hs ht hc hn ad (by have:=b.cons;unfold cm;omega) (fun c h=>by have:=b.anr c h;unfold cm;omega)];simp only[cg];cases JL m.bC.l m.Tables.l (hQ m.bC.l m.Tables.l true) m.fE.len m.fu.l with
    |false=>rfl
    |true=>
     simp only[cond_true,fI]
     rw[aJO m hs ht hc hn ad (by have:=b.ops;omega) (fun o h=>by have:=(b.op o h).2;unfold cm;omega) (fun o h=>wN _ (b.op o h).1) (fun a h=>(b.act a h).2) (fun a h=>by have:=(b.act a h).1;unfold cm;omega) (by have:=b.gV;unfold cm;omega),
      aJW m ht (by have:=b.auh;unfold cm;omega) (by have:=b.tables;omega)]
     simp only[cg];cases zz m.bC.l.length m.Operations.l with
     |false=>rfl
     |true=>cases zA m.bC.l m.Tables.l ((hQ m.bC.l m.Tables.l true).length:Int) m.Operations.l m.Actions.l<;>rfl
end
end Go.Abs.hk
