/- Texts of this claim, joined and written short by a program. -/
import Derived.Test.YtdoflpjbdlgciaaGreatDoorP29
import Derived.Test.YtdoflpjbdlgciaaGreatDoorP28
import Derived.Test.YtdoflpjbdlgciaaGreatDoorP00
set_option linter.unusedVariables false
set_option linter.unusedSimpArgs false
set_option linter.unusedSectionVars false
namespace Go.Abs.bZ
open Go Go.Abs
noncomputable section
def uK (s:List Int)(args:List Int)(k:Nat)(iW:Int):Bool:=bif decide (iW<0)then nr (args.getD k 0) 9999 else decide (args.getD k 0>=0)&&decide (args.getD k 0<gg s iW)
def A1 (uL:List Action)(k:Nat)(a:Action):Bool:=match k with
 |0=>true
 |k+1=>match uL[k]? with
  |some b=>!(decide (b.cV>a.cV))&&(bif b.cV==a.cV then mS b.dR.l a.dR.l else true)
  |none=>true
def wX (s:List Int)(ts:List Table)(n:Int)(ops:List cV)(uL:List Action)(k:Nat)(a:Action):Bool:=
 (decide (a.cV>=0)&&decide (a.cV<ops.length))&&match ops[a.cV.toNat]? with
   |some o=>(a.dR.l.length==o.aL.l.length)&&(allI (uK s a.dR.l) o.aL.l&&(A1 uL k a&&AZ s ts n a.c7))
   |none=>false
def A2 (s:List Int)(ts:List Table)(n:Int)(ops:List cV)(uL:List Action):Bool:=decide (uL.length<=256)&&allI (wX s ts n ops uL) uL
structure SS (x:c7):Prop where
 d:bg x.Delta.l
 u:bg x.eQ.l
 h:bg x.de.l
 r:∀r∈x.de.l,bg r.cd.l
theorem aeH{α β:Type}(x:ak α)(y:ak β):(x.len != y.len)=!(x.l.length==y.l.length):=by
 unfold bne;congr 1;rw[dy,dy,Bi];simp;omega
theorem uM{α:Type}{l:List α}{i:Int}(h:0<=i):aP l i=l[i.toNat]? :=by simp[aP,h]
theorem aeI{s:List Int}{o:cV}{a:Action}{f:Int->Option (cE Int (bJ Unit Unit))}(hl:bg o.aL.l)
  (ae:∀(k:Nat) (iW:Int),o.aL.l[k]? =some iW->f (k:Int)=bif uK s a.dR.l k iW then some (.next (aN ((k:Int)+1)))else some (.out (.ret ()))) (he:f (o.aL.l.length:Int)=some (.out (.go ()))):
  bO f 0=some (bif allI (uK s a.dR.l) o.aL.l then .go ()else .ret ()):=
 qh (f:=f) (fun k s=>s=(k:Int)) (uK s a.dR.l) o.aL.l (fun k iW st hx a7 _=>by
  subst a7;rw[ae k iW hx];constructor
  ·intro aZ
   rw[aZ,ef (by have:=ep hx;unfold bg at hl;omega)];exact⟨_,rfl,rfl⟩
  ·intro aZ;rw[aZ];rfl) (fun st a7=>by subst a7;exact he) (s:=0) rfl
theorem Dv{l:List Int}{k:Nat}{x:Int}(h:l[k]? =some x):l.getD k 0=x:=by simp[yn,h]
theorem aeJ{n:Nat}{o:cV}(h:mR n o=true){iW:Int}(hs:iW∈o.aL.l):-1<=iW/\iW<n:=by
 unfold mR at h;simp only[ca,eV]at h;have:=h.2 iW hs;unfold yc at this;simp only[ca,decide_eq_true_eq]at this;exact⟨by omega,this.2⟩
theorem aub{j:eg}{o:cV}{a:Action}(ho:mR j.Model.aL.l.length o=true)(hl:bg o.aL.l)(hlen:a.dR.l.length=o.aL.l.length):
  bO (KN j a o) 0=some (bif allI (uK j.Model.aL.l a.dR.l) o.aL.l then .go ()else .ret ()):=
 aeI hl (fun k iW hx=>by
  have aH:=ep hx;have hy:a.dR.l[k]? =some a.dR.l[k]:=by simp[hlen,aH]
  obtain⟨q1,aT⟩:=aeJ ho (e0 hx);simp only[KN,eL aH,cond_true,cX,hx,hy,aK,Mv _ 9999 (by omega),np];unfold uK;rw[Dv hy];by_cases h0:iW<0
  ·have d0:decide (iW<0)=true:=by simpa using h0
   have d1:decide (iW>=0)=false:=by simp;omega
   rw[d0,d1];simp only[cond_true,cond_false];cases nr a.dR.l[k] 9999<;>rfl
  ·have d0:decide (iW<0)=false:=by simpa using h0
   have d1:decide (iW>=0)=true:=by simp;omega
   rw[d0,d1,AQ (by omega) aT];simp only[cond_true,cond_false,aK];cases(decide (a.dR.l[k]>=0)&&decide (a.dR.l[k]<gg j.Model.aL.l iW))<;>rfl) (by simp only[KN,fj,cond_false])
theorem auc{m:Model}{o:cV}{a:Action}(ho:mR m.aL.l.length o=true)(hl:bg o.aL.l)(hlen:a.dR.l.length=o.aL.l.length)(h0:0<=a.cV)(c9:m.Operations.l[a.cV.toNat]? =some o):
  bO (Lc m a) 0=some (bif allI (uK m.aL.l a.dR.l) o.aL.l then .go ()else .ret ()):=
 aeI hl (fun k iW hx=>by
  have aH:=ep hx;have hy:a.dR.l[k]? =some a.dR.l[k]:=by simp[hlen,aH]
  obtain⟨q1,aT⟩:=aeJ ho (e0 hx);have hd:decide ((k:Int)<a.dR.len)=true:=eL (by omega);simp only[Lc,hd,cond_true,uM h0,c9,cX,hx,hy,aK,Mw _ 9999 (by omega)];unfold uK;rw[Dv hy];by_cases h0:iW<0
  ·have d0:decide (iW<0)=true:=by simpa using h0
   have d1:decide (iW>=0)=false:=by simp;omega
   rw[d0,d1];simp only[cond_true,cond_false];cases nr a.dR.l[k] 9999<;>rfl
  ·have d0:decide (iW<0)=false:=by simpa using h0
   have d1:decide (iW>=0)=true:=by simp;omega
   rw[d0,d1,AQ (by omega) aT];simp only[cond_true,cond_false,aK];rw[qj,show decide (a.dR.l[k]>=gg m.aL.l iW)=!decide (a.dR.l[k]<gg m.aL.l iW)from by rw[qj];simp];cases decide (a.dR.l[k]>=0)<;>cases decide (a.dR.l[k]<gg m.aL.l iW)<;>rfl) (by
  have hd:decide ((o.aL.l.length:Int)<a.dR.len)=false:=by rw[<-hlen];exact fj
  simp only[Lc,hd,cond_false])
theorem aud (j:eg)(h1:bg j.Model.aL.l)(h2:bg j.Model.Tables.l)(hc:∀t∈j.Model.Tables.l,bg t.ba.l)(af:il j.Model.aL.l j.Model.Tables.l=true)
  (ho:∀o∈j.Model.Operations.l,mR j.Model.aL.l.length o=true) (MB:∀o∈j.Model.Operations.l,bg o.aL.l) (dw:∀a∈j.Model.Actions.l,SS a.c7) (hA:∀a∈j.Model.Actions.l,bg a.dR.l) (dY:bg j.Model.Actions.l):
  KO j=some (A2 j.Model.aL.l j.Model.Tables.l j.strict.len j.Model.Operations.l j.Model.Actions.l):=by
 unfold KO A2;rw[show decide (j.Model.Actions.len>256)=!decide (j.Model.Actions.l.length<=256)from kx j.Model.Actions 256];cases decide (j.Model.Actions.l.length<=256)with
 |false=>rfl
 |true=>
  simp only[fQ,cond_false,dC]
  rw[qh (f:=F4 j) (fun k s=>s=(k:Int)) (wX j.Model.aL.l j.Model.Tables.l j.strict.len j.Model.Operations.l j.Model.Actions.l) j.Model.Actions.l (fun k a st hx a7 _=>by
   subst a7;have aH:=ep hx;have dG:=e0 hx
   have ae:F4 j (k:Int)=bif wX j.Model.aL.l j.Model.Tables.l j.strict.len j.Model.Operations.l j.Model.Actions.l k a then some (.next (aN ((k:Int)+1)))else some (.out (.ret ())):=by
    simp only[F4,eL aH,cond_true,cX,hx,aK,np];unfold wX;have pP:decide (a.cV<j.Model.Operations.len)=decide (a.cV<(j.Model.Operations.l.length:Int)):=rfl;rw[pP];cases hin:(decide (a.cV>=0)&&decide (a.cV<(j.Model.Operations.l.length:Int)))with
    |false=>rfl
    |true=>
     simp only[ca,decide_eq_true_eq]at hin;have iH:a.cV.toNat<j.Model.Operations.l.length:=by omega
     have c9:j.Model.Operations.l[a.cV.toNat]? =some j.Model.Operations.l[a.cV.toNat]:=by simp[iH]
     have Hz:=e0 c9;simp only[cond_true,uM hin.1,c9,aK,aeH,dC];cases hlen:a.dR.l.length==(j.Model.Operations.l[a.cV.toNat]).aL.l.length with
     |false=>rfl
     |true=>
      simp only[fQ,cond_false,dC];rw[aub (ho _ Hz) (MB _ Hz) (by simpa using hlen)];simp only[aK];cases allI (uK j.Model.aL.l a.dR.l) (j.Model.Operations.l[a.cV.toNat]).aL.l with
      |false=>rfl
      |true=>
       simp only[cond_true,dC];have mE:=dw a dG;rw[at2 j a.c7 h1 h2 hc af mE.d mE.u mE.h mE.r]
       have nd:((bif (decide ((k:Int)>0))then((aP j.Model.Actions.l (aN ((k:Int)-1))).bind fun xQ=>(((bif (decide (xQ.cV>a.cV))then some true else(bif (xQ.cV==a.cV)then((FW xQ.dR a.dR).bind fun F5=>some (decide (F5>=0)))else some false)):Option (Bool)).bind fun QH=>(bif QH then some (.ret ())else some (.go ()))))else some (.go ())):Option (bJ (Unit) (Unit)))=some (bif A1 j.Model.Actions.l k a then .go ()else .ret ()):=by
        cases k with
        |zero=>rfl
        |succ k=>
         have ah:k<j.Model.Actions.l.length:=by omega
         have aI:j.Model.Actions.l[k]? =some j.Model.Actions.l[k]:=by simp[ah]
         have th:decide ((((k+1:Nat)):Int)>0)=true:=decide_eq_true (by omega);have hw:aN (((k+1:Nat):Int)-1)=(k:Int):=Du (by unfold bg at dY;omega);obtain⟨c,Eg,aue⟩:=at7 j.Model.Actions.l[k].dR a.dR (hA _ (w9 ah));rw[th,hw];unfold A1;simp only[cond_true,cX,aI,aK,Eg,aue];cases decide (j.Model.Actions.l[k].cV>a.cV)with
         |true=>rfl
         |false=>
          cases j.Model.Actions.l[k].cV==a.cV with
          |false=>rfl
          |true=>cases mS j.Model.Actions.l[k].dR.l a.dR.l<;>rfl
       rw[nd];simp only[aK];cases A1 j.Model.Actions.l k a with
       |false=>rfl
       |true=>cases AZ j.Model.aL.l j.Model.Tables.l j.strict.len a.c7<;>rfl
   rw[ae];constructor
   ·intro aZ
    rw[aZ,ef (by unfold bg at dY;omega)];exact⟨_,rfl,rfl⟩
   ·intro aZ;rw[aZ];rfl) (fun st a7=>by subst a7;simp only[F4,fj,cond_false]) (s:=0) rfl]
  cases allI (wX j.Model.aL.l j.Model.Tables.l j.strict.len j.Model.Operations.l j.Model.Actions.l) j.Model.Actions.l<;>rfl
theorem auf (m:Model)(h1:bg m.aL.l)(h2:bg m.Tables.l)(hc:∀t∈m.Tables.l,bg t.ba.l)(hZ:∀t∈m.Tables.l,nR t.Name=some (kP t.Name))(af:il m.aL.l m.Tables.l=true)
  (aB:m.Operations.l.length<=100000) (MB:∀o∈m.Operations.l,bg o.aL.l) (aug:∀o∈m.Operations.l,nR o.Name=some (kP o.Name)) (dw:∀a∈m.Actions.l,SS a.c7) (hA:∀a∈m.Actions.l,bg a.dR.l) (dY:bg m.Actions.l):
  Ld m=some (yd m.aL.l.length m.Operations.l&&A2 m.aL.l m.Tables.l (im m.aL.l m.Tables.l true).length m.Operations.l m.Actions.l):=by
 unfold Ld yd
 obtain⟨o,ag,e2⟩:=x7 (f:=GG m) (fun k st=>∃a:ak aW,st=((k:Int),a)/\a.l=(m.Operations.l.take k).map cV.Name/\(m.Operations.l.take k).all (mR m.aL.l.length)=true)
  (fun o=>match o with
    | .go a=>m.Operations.l.all (mR m.aL.l.length)=true/\a.l=m.Operations.l.map cV.Name
    | .ret _=>m.Operations.l.all (mR m.aL.l.length)=false) m.Operations.l (fun k o st hx aa=>by
    obtain⟨a,rfl,ao,eD⟩:=aa;have aH:=ep hx;have dG:=e0 hx;have kl:a.l.length<=100000:=by rw[ao,jn,mc];omega
    obtain⟨y,mq,ta⟩:=Dt (uE:=16) (x:=a) (y:=ak.mk [o.Name]) (by omega) (by show a.l.length+1<=_;omega)
    have hin:=lE (f:=Lb m o) o.aL.l (MB o dG) (fun s=>!yc m.aL.l.length s) (fun k s hs=>by
     simp only[Lb,eL (ep hs),cond_true,cX,hs,aK];unfold yc;have gh:decide (s>=m.aL.len)=!decide (s<(m.aL.l.length:Int)):=by rw[qj,dy];simp
     rw[gh,qj];cases decide (s>=-1)<;>cases decide (s<(m.aL.l.length:Int))<;>rfl) (by simp only[Lb,fj,cond_false])
    have ae:GG m ((k:Int),a)=bif mR m.aL.l.length o then some (.next ((aN ((k:Int)+1)),y))else some (.out (.ret ())):=by
     simp only[GG,eL aH,cond_true,cX,hx,aK,mq];rw[hin];rw[show decide (o.aL.len>3)=!decide (o.aL.l.length<=3)from kx o.aL 3];unfold mR;rw[oM];cases o.aL.l.any (fun s=>!yc m.aL.l.length s)with
     |true=>cases decide (o.aL.l.length<=3)<;>rfl
     |false=>cases decide (o.aL.l.length<=3)<;>rfl
    rw[ae];cases c9:mR m.aL.l.length o with
    |true=>
     left;refine⟨_,rfl,y,by rw[ef (by omega)],?_,?_⟩
     ·rw[ta,ao,tv,hx];simp[ak.l]
     ·rw[tv,hx];simp[List.all_append,c9];simpa using eD
    |false=>
     refine .inr ⟨.ret (),rfl,?_⟩;show List.all _ _=false;rw[List.all_eq_false];exact⟨o,dG,by rw[c9];simp⟩) (fun st aa=>by
    obtain⟨a,rfl,ao,eD⟩:=aa;rw[Bh]at ao eD;exact⟨.go a,by simp only[GG,fj,cond_false],eD,ao⟩) (s:=(0,.emp)) ⟨.emp,rfl,rfl,rfl⟩
 rw[ag];simp only[aK];cases o with
 |ret u=>simp only at e2⊢; rw[e2];rfl
 |go a=>
  obtain⟨q1,aT⟩:=e2;have kl:a.l.length=m.Operations.l.length:=by rw[aT,jn]
  simp only[]
  rw[q1,aek a (by unfold bg;omega) (fun x hx=>by
   rw[aT]at hx;obtain⟨o,ho,rfl⟩:=eM.1 hx;exact aug o ho),aT]
  rw[show decide (m.Operations.len>8)=!decide (m.Operations.l.length<=8)from kx m.Operations 8,show decide (m.Actions.len>256)=!decide (m.Actions.l.length<=256)from kx m.Actions 256];unfold A2;cases decide (m.Operations.l.length<=8)with
  |false=>simp
  |true=>
   cases wV (m.Operations.l.map cV.Name)with
   |false=>simp
   |true=>
    cases decide (m.Actions.l.length<=256)with
    |false=>rfl
    |true=>
     simp only[fQ,cond_false,aK,cond_true,dC];have ho:∀o∈m.Operations.l,mR m.aL.l.length o=true:=eV.1 q1
     rw[qh (f:=GI m) (fun k s=>s=(k:Int)) (wX m.aL.l m.Tables.l (im m.aL.l m.Tables.l true).length m.Operations.l m.Actions.l) m.Actions.l (fun k a st hx a7 _=>by
      subst a7;have aH:=ep hx;have dG:=e0 hx
      have ae:GI m (k:Int)=bif wX m.aL.l m.Tables.l (im m.aL.l m.Tables.l true).length m.Operations.l m.Actions.l k a then some (.next (aN ((k:Int)+1)))else some (.out (.ret ())):=by
       simp only[GI,eL aH,cond_true,cX,hx,aK];unfold wX;have pP:decide (a.cV>=m.Operations.len)=!decide (a.cV<(m.Operations.l.length:Int)):=by rw[qj,dy];simp
       rw[pP,qj];cases auh:decide (a.cV>=0)with
       |false=>rfl
       |true=>
        cases aui:decide (a.cV<(m.Operations.l.length:Int))with
        |false=>rfl
        |true=>
         have hin:0<=a.cV:=by simpa using auh
         have OT:a.cV<(m.Operations.l.length:Int):=by simpa using aui
         have iH:a.cV.toNat<m.Operations.l.length:=by omega
         have c9:m.Operations.l[a.cV.toNat]? =some m.Operations.l[a.cV.toNat]:=by simp[iH]
         have Hz:=e0 c9;simp only[fQ,cond_false,uM hin,c9,aK,aeH,dC];cases hlen:a.dR.l.length==(m.Operations.l[a.cV.toNat]).aL.l.length with
         |false=>rfl
         |true=>
          simp only[fQ,cond_false,dC];rw[auc (ho _ Hz) (MB _ Hz) (by simpa using hlen) hin c9];simp only[aK];cases allI (uK m.aL.l a.dR.l) (m.Operations.l[a.cV.toNat]).aL.l with
          |false=>rfl
          |true=>
           simp only[cond_true,dC];have mE:=dw a dG;rw[at3 m a.c7 h1 h2 hc hZ af mE.d mE.u mE.h mE.r]
           have nd:((bif (decide ((k:Int)>0))then((aP m.Actions.l (aN ((k:Int)-1))).bind fun Aa=>(((bif (decide (Aa.cV>a.cV))then some true else(bif (Aa.cV==a.cV)then((Gy Aa.dR a.dR).bind fun Q1=>some (!Q1))else some false)):Option (Bool)).bind fun Q2=>(bif Q2 then some (.ret ())else some (.go ()))))else some (.go ())):Option (bJ (Unit) (Unit)))=some (bif A1 m.Actions.l k a then .go ()else .ret ()):=by
            cases k with
            |zero=>rfl
            |succ k=>
             have ah:k<m.Actions.l.length:=by omega
             have aI:m.Actions.l[k]? =some m.Actions.l[k]:=by simp[ah]
             have th:decide ((((k+1:Nat)):Int)>0)=true:=decide_eq_true (by omega);have hw:aN (((k+1:Nat):Int)-1)=(k:Int):=Du (by unfold bg at dY;omega);rw[th,hw];unfold A1;simp only[cond_true,cX,aI,aK,aua _ _ (hA _ (w9 ah))];cases decide (m.Actions.l[k].cV>a.cV)with
             |true=>rfl
             |false=>
              cases m.Actions.l[k].cV==a.cV with
              |false=>rfl
              |true=>cases mS m.Actions.l[k].dR.l a.dR.l<;>rfl
           rw[nd];simp only[aK];cases A1 m.Actions.l k a with
           |false=>rfl
           |true=>cases AZ m.aL.l m.Tables.l ((im m.aL.l m.Tables.l true).length:Int) a.c7<;>rfl
      rw[ae];constructor
      ·intro aZ
       rw[aZ,ef (by unfold bg at dY;omega)];exact⟨_,rfl,rfl⟩
      ·intro aZ;rw[aZ];rfl) (fun st a7=>by subst a7;simp only[GI,fj,cond_false]) (s:=0) rfl]
     cases allI (wX m.aL.l m.Tables.l ((im m.aL.l m.Tables.l true).length:Int) m.Operations.l m.Actions.l) m.Actions.l<;>rfl
end
end Go.Abs.bZ
namespace Go.Abs.bZ
open Go Go.Abs
noncomputable section
theorem SU (m:Model)(aD:bg m.bA.l)(a b:Int)(k:Nat)(ah:k<1000000)(g:Model->Int->Int->Int->Option Bool)(bx:∀c,0<k->g m c b ((k-1:Nat):Int)=some (fZ m.bA.l (k-1) c b)):
  qY g m a b (k:Int)=some (fZ m.bA.l k a b):=by
 unfold qY;cases lP:a==b with
 |true=>cases k<;>simp[fZ,lP]
 |false=>
  simp only[cond_false];cases k with
  |zero=>
   have:bO (qe m a b ((0:Nat):Int) g) 0=some (.go ()):=by
    rw[hD]
    have:qe m a b ((0:Nat):Int) g 0=some (.out (.go ())):=by
     have hd:(decide ((0:Int)<m.bA.len)&&decide (((0:Nat):Int)>0))=false:=by simp
     simp only[qe,hd,cond_false]
    rw[this]
   rw[this];simp[fZ,lP]
  |succ k=>
   have th:decide (((k+1:Nat):Int)>0)=true:=decide_eq_true (by omega);have hw:aN (((k+1:Nat):Int)-1)=(k:Int):=Du (by omega)
   rw[lE (f:=qe m a b ((k+1:Nat):Int) g) m.bA.l aD (fun h=>(h.Table==a)&&fZ m.bA.l k h.cj b) (fun i h hx=>by
    have e:=bx h.cj (by omega);have e2:k+1-1=k:=by omega
    rw[e2]at e;simp only[qe,eL (ep hx),th,xd,cond_true,cX,hx,aK,hw,e];cases h.Table==a with
    |false=>rfl
    |true=>cases fZ m.bA.l k h.cj b<;>rfl) (by
    simp only[qe,fj,yw,cond_false])]
   simp only[fZ,lP,qp,aK];cases m.bA.l.any fun h=>(h.Table==a)&&fZ m.bA.l k h.cj b<;>rfl
theorem auj (m:Model)(aD:bg m.bA.l)(a b:Int)(k:Nat)(ah:k<1000000):Le m a b (k:Int)=some (fZ m.bA.l k a b):=by
 unfold Le
 have hit:∀(k:Nat),k<1000000->∀(a:Int) (n:Nat),k<n->oz (A:=Model × Int × Int × Int) (fun g p=>qY (fun cu bt cH dp=>g (cu,bt,cH,dp)) p.1 p.2.1 p.2.2.1 p.2.2.2) n (m,a,b,(k:Int))=some (fZ m.bA.l k a b):=by
  intro k
  induction k with
  |zero=>
   intro ah a n hn;cases n with
   |zero=>omega
   |succ n=>exact SU m aD a b 0 ah _ (fun c h=>by omega)
  |succ k ih=>
   intro ah a n hn;cases n with
   |zero=>omega
   |succ n=>exact SU m aD a b (k+1) ah _ (fun c _=>ih (by omega) c n (by omega))
 refine an2 (n:=k+1) (hit k ah a (k+1) (by omega)) fun n r hr=> ?_;rcases gq k n with h|h
 ·rw[hit k ah a n h]at hr;cases hr;rfl
 ·
  have auk:∀(n k:Nat),k<1000000->∀(a:Int) (r:Bool),oz (A:=Model × Int × Int × Int) (fun g p=>qY (fun cu bt cH dp=>g (cu,bt,cH,dp)) p.1 p.2.1 p.2.2.1 p.2.2.2) n (m,a,b,(k:Int))=some r->r=fZ m.bA.l k a b:=by
   intro n
   induction n with
   |zero=>intro k _ a r hr;cases hr
   |succ n ih=>
    intro k ah a r hr;have fH:qY (fun cu bt cH dp=>oz (A:=Model × Int × Int × Int) (fun g p=>qY (fun cu bt cH dp=>g (cu,bt,cH,dp)) p.1 p.2.1 p.2.2.1 p.2.2.2) n (cu,bt,cH,dp)) m a b (k:Int)=some r:=hr;have full:=SU m aD a b k ah (fun cu bt cH dp=>some (fZ m.bA.l (k-1) bt b)) (fun c _=>rfl);unfold qY at fH full;cases lP:a==b with
    |true=>rw[lP]at fH full;simp only[cond_true]at fH full;rw[fH]at full;cases full;rfl
    |false=>
     rw[lP]at fH full;simp only[cond_false]at fH full;obtain⟨o,ho,E7⟩:=dT.1 fH
     have sC:bO (qe m a b (k:Int) (fun cu bt cH dp=>some (fZ m.bA.l (k-1) bt b))) 0=some o:=by
      obtain⟨q,bj⟩:=v7.1 ho;refine v7.2 ⟨q,?_⟩
      have mono:∀(q:Nat) (i:Int) (o:bJ Unit Unit),pd (qe m a b (k:Int) (fun cu bt cH dp=>oz (A:=Model × Int × Int × Int) (fun g p=>qY (fun cu bt cH dp=>g (cu,bt,cH,dp)) p.1 p.2.1 p.2.2.1 p.2.2.2) n (cu,bt,cH,dp))) q i=some o->
        pd (qe m a b (k:Int) (fun cu bt cH dp=>some (fZ m.bA.l (k-1) bt b))) q i=some o:=by
       intro q
       induction q with
       |zero=>intro i o h;cases h
       |succ q aul=>
        intro i o h;simp only[pd]at h⊢
        have cg:∀z,qe m a b (k:Int) (fun cu bt cH dp=>oz (A:=Model × Int × Int × Int) (fun g p=>qY (fun cu bt cH dp=>g (cu,bt,cH,dp)) p.1 p.2.1 p.2.2.1 p.2.2.2) n (cu,bt,cH,dp)) i=some z->
          qe m a b (k:Int) (fun cu bt cH dp=>some (fZ m.bA.l (k-1) bt b)) i=some z:=by
         intro z aI;unfold qe at aI⊢;cases hc:(decide (i<m.bA.len)&&decide ((k:Int)>0))with
         |false=>rw[hc]at aI;exact aI
         |true=>
          rw[hc]at aI;simp only[cond_true]at aI⊢
          have pV:0<k:=by
           simp only[ca,decide_eq_true_eq]at hc;omega
          have hw:aN ((k:Int)-1)=((k-1:Nat):Int):=by rw[gp (by omega) (by omega)];omega
          rw[hw]at aI;cases hx:aP m.bA.l i with
          |none=>rw[hx]at aI;cases aI
          |some h=>
           rw[hx]at aI;simp only[aK]at aI⊢;cases ht:h.Table==a with
           |false=>rw[ht]at aI;exact aI
           |true=>
            rw[ht]at aI;simp only[cond_true]at aI⊢;cases y1:oz (A:=Model × Int × Int × Int) (fun g p=>qY (fun cu bt cH dp=>g (cu,bt,cH,dp)) p.1 p.2.1 p.2.2.1 p.2.2.2) n (m,h.cj,b,((k-1:Nat):Int))with
            |none=>rw[y1]at aI;cases aI
            |some y=>
             rw[y1]at aI;have:=ih (k-1) (by omega) h.cj y y1;rw[this]at aI;exact aI
        cases aI:qe m a b (k:Int) (fun cu bt cH dp=>oz (A:=Model × Int × Int × Int) (fun g p=>qY (fun cu bt cH dp=>g (cu,bt,cH,dp)) p.1 p.2.1 p.2.2.1 p.2.2.2) n (cu,bt,cH,dp)) i with
        |none=>rw[aI]at h;cases h
        |some z=>
         rw[cg z aI];rw[aI]at h;cases z with
         |next j=>exact aul j o h
         |out u=>exact h
      exact mono q 0 o bj
     rw[sC]at full;rw[aK,E7]at full;cases full;rfl
  exact auk n k ah a r hr
theorem aum{ts:ak Table}{h:gz}:(bif ((decide (h.Table<0))||((decide (h.Table>=ts.len))||((decide (h.cj<0))||((decide (h.cj>=ts.len))||(h.Table==h.cj)))))then some true else((aP ts.l h.Table).bind fun l3=>((aP ts.l h.cj).bind fun pn=>(((bif (l3.Kind != 0)then some true else(bif (pn.Kind != 0)then some true else(bif (decide (h.fP<0))then some true else(bif (decide (h.fP>=l3.ba.len))then some true else(bif (pn.ba.len != 1)then some true else((aP pn.ba.l 0).bind fun oC=>((aP l3.ba.l h.fP).bind fun z7=>some (oC != z7)))))))):Option (Bool))))):Option Bool)=some (!qc ts.l h):=by
 unfold qc;rw[qj h.Table,qj h.cj,show decide (h.Table>=ts.len)=!decide (h.Table<(ts.l.length:Int))from by rw[qj,dy];simp,show decide (h.cj>=ts.len)=!decide (h.cj<(ts.l.length:Int))from by rw[qj,dy];simp];cases al:decide (h.Table>=0)with
 |false=>rfl
 |true=>
  cases a2:decide (h.Table<(ts.l.length:Int))with
  |false=>rfl
  |true=>
   cases a3:decide (h.cj>=0)with
   |false=>rfl
   |true=>
    cases a4:decide (h.cj<(ts.l.length:Int))with
    |false=>rfl
    |true=>
     cases h.Table==h.cj with
     |true=>rfl
     |false=>
      have dQ:0<=h.Table:=by simpa using al
      have fY:h.Table<(ts.l.length:Int):=by simpa using a2
      have jG:0<=h.cj:=by simpa using a3
      have lk:h.cj<(ts.l.length:Int):=by simpa using a4
      have dk:h.Table.toNat<ts.l.length:=by omega
      have eu:h.cj.toNat<ts.l.length:=by omega
      have g1:ts.l[h.Table.toNat]? =some ts.l[h.Table.toNat]:=by simp[dk]
      have g2:ts.l[h.cj.toNat]? =some ts.l[h.cj.toNat]:=by simp[eu]
      simp only[fQ,Bj,cond_false,uM dQ,uM jG,g1,g2,aK,mU,dC,bne];cases ts.l[h.Table.toNat].Kind==0 with
      |false=>rfl
      |true=>
       cases ts.l[h.cj.toNat].Kind==0 with
       |false=>rfl
       |true=>
        rw[qj h.fP,show decide (h.fP>=ts.l[h.Table.toNat].ba.len)=!decide (h.fP<(ts.l[h.Table.toNat].ba.l.length:Int))from by rw[qj,dy];simp];cases d1:decide (h.fP>=0)with
        |false=>rfl
        |true=>
         cases d2:decide (h.fP<(ts.l[h.Table.toNat].ba.l.length:Int))with
         |false=>rfl
         |true=>
          rw[show(ts.l[h.cj.toNat].ba.len==1)=(ts.l[h.cj.toNat].ba.l.length==1)from Hw _ 1];cases d3:ts.l[h.cj.toNat].ba.l.length==1 with
          |false=>rfl
          |true=>
           have ag:0<=h.fP:=by simpa using d1
           have e2:h.fP<(ts.l[h.Table.toNat].ba.l.length:Int):=by simpa using d2
           have bI:ts.l[h.cj.toNat].ba.l.length=1:=by simpa using d3
           have f1:h.fP.toNat<ts.l[h.Table.toNat].ba.l.length:=by omega
           have ct:ts.l[h.Table.toNat].ba.l[h.fP.toNat]? =some ts.l[h.Table.toNat].ba.l[h.fP.toNat]:=by simp[f1]
           have f2:0<ts.l[h.cj.toNat].ba.l.length:=by omega
           have dN:ts.l[h.cj.toNat].ba.l[0]? =some ts.l[h.cj.toNat].ba.l[0]:=by simp[f2]
           simp only[fQ,cond_false,uM ag,SA,ct,dN,aK,dC,Dv ct,Dv dN]
theorem aun (m:Model)(h2:bg m.Tables.l)(aD:bg m.bA.l)(hT:m.Tables.l.length<1000000):Lh m=some (zJ m.Tables.l m.bA.l):=by
 unfold Lh zJ;rw[show decide (m.bA.len>12)=!decide (m.bA.l.length<=12)from kx m.bA 12];cases decide (m.bA.l.length<=12)with
 |false=>rfl
 |true=>
  simp only[fQ,cond_false,dC]
  rw[lE (f:=Lf m) m.bA.l aD (fun h=>!qc m.Tables.l h) (fun k h hx=>by
   have e:=aum (ts:=m.Tables) (h:=h);simp only[Lf,eL (ep hx),cond_true,cX,hx,aK];cases hc:((decide (h.Table<0))||((decide (h.Table>=m.Tables.len))||((decide (h.cj<0))||((decide (h.cj>=m.Tables.len))||(h.Table==h.cj)))))with
   |true=>
    rw[hc]at e;simp only[cond_true,aA]at e;rw[<-e];rfl
   |false=>
    rw[hc]at e;simp only[cond_false]at e⊢;obtain⟨t,ag,e⟩:=dT.1 e;obtain⟨u,e2,e⟩:=dT.1 e;rw[ag,e2];simp only[aK];rw[e];cases qc m.Tables.l h<;>rfl) (by simp only[Lf,fj,cond_false])]
  rw[oM];cases m.bA.l.any (fun h=>!qc m.Tables.l h)with
  |true=>rfl
  |false=>
   simp only[cond_false,aK,mU,dC]
   rw[lE (f:=Lg m) m.bA.l aD (fun h=>fZ m.bA.l m.Tables.l.length h.cj h.Table) (fun k h hx=>by
    have hl:m.Tables.len=((m.Tables.l.length:Nat):Int):=rfl;simp only[Lg,eL (ep hx),cond_true,cX,hx,aK,hl,auj m aD h.cj h.Table m.Tables.l.length hT];cases fZ m.bA.l m.Tables.l.length h.cj h.Table<;>rfl) (by simp only[Lg,fj,cond_false])]
   unfold FB
   have:(m.bA.l.all fun h=>!fZ m.bA.l m.Tables.l.length h.cj h.Table)=!(m.bA.l.any fun h=>fZ m.bA.l m.Tables.l.length h.cj h.Table):=by
    rw[oM];simp
   rw[this];cases m.bA.l.any fun h=>fZ m.bA.l m.Tables.l.length h.cj h.Table<;>rfl
end
end Go.Abs.bZ
namespace Go.Abs.bZ
open Go Go.Abs
noncomputable section
theorem auo{ts:ak Table}{h:gz}:(((np h.Table ts.len).bind fun j4=>(bif j4 then((np h.cj ts.len).bind fun oB=>(bif oB then some (h.Table==h.cj)else some true))else some true)):Option Bool)=some (!((decide (h.Table>=0)&&decide (h.Table<ts.l.length))&&((decide (h.cj>=0)&&decide (h.cj<ts.l.length))&&!(h.Table==h.cj)))):=by
 unfold np;rw[dy];cases(decide (h.Table>=0)&&decide (h.Table<(ts.l.length:Int)))with
 |false=>rfl
 |true=>
  cases(decide (h.cj>=0)&&decide (h.cj<(ts.l.length:Int)))with
  |false=>rfl
  |true=>cases h.Table==h.cj<;>rfl
theorem aup (j:eg){k:Nat}{h:gz}(hx:j.Model.bA.l[k]? =some h):AK j (k:Int)=some (bif !qc j.Model.Tables.l h then .out (.ret ())else .next (aN ((k:Int)+1))):=by
 simp only[AK,eL (ep hx),cond_true,cX,hx,aK];rw[auo];unfold qc;cases a:(decide (h.Table>=0)&&decide (h.Table<(j.Model.Tables.l.length:Int)))with
 |false=>rfl
 |true=>
  cases b:(decide (h.cj>=0)&&decide (h.cj<(j.Model.Tables.l.length:Int)))with
  |false=>rfl
  |true=>
   cases h.Table==h.cj with
   |true=>rfl
   |false=>
    simp only[ca,decide_eq_true_eq]at a b;have dk:h.Table.toNat<j.Model.Tables.l.length:=by omega
    have eu:h.cj.toNat<j.Model.Tables.l.length:=by omega
    have g1:j.Model.Tables.l[h.Table.toNat]? =some j.Model.Tables.l[h.Table.toNat]:=by simp[dk]
    have g2:j.Model.Tables.l[h.cj.toNat]? =some j.Model.Tables.l[h.cj.toNat]:=by simp[eu]
    simp only[mU,xd,dC,fQ,aK,cond_false,uM a.1,uM b.1,g1,g2,bne,np];cases j.Model.Tables.l[h.Table.toNat].Kind==0 with
    |false=>rfl
    |true=>
     cases j.Model.Tables.l[h.cj.toNat].Kind==0 with
     |false=>rfl
     |true=>
      rw[dy j.Model.Tables.l[h.Table.toNat].ba,show(j.Model.Tables.l[h.cj.toNat].ba.len==1)=(j.Model.Tables.l[h.cj.toNat].ba.l.length==1)from Hw _ 1];cases d:(decide (h.fP>=0)&&decide (h.fP<(j.Model.Tables.l[h.Table.toNat].ba.l.length:Int)))with
      |false=>rfl
      |true=>
       cases d3:j.Model.Tables.l[h.cj.toNat].ba.l.length==1 with
       |false=>rfl
       |true=>
        simp only[ca,decide_eq_true_eq]at d;have bI:j.Model.Tables.l[h.cj.toNat].ba.l.length=1:=by simpa using d3
        have f1:h.fP.toNat<j.Model.Tables.l[h.Table.toNat].ba.l.length:=by omega
        have ct:j.Model.Tables.l[h.Table.toNat].ba.l[h.fP.toNat]? =some j.Model.Tables.l[h.Table.toNat].ba.l[h.fP.toNat]:=by simp[f1]
        have f2:0<j.Model.Tables.l[h.cj.toNat].ba.l.length:=by omega
        have dN:j.Model.Tables.l[h.cj.toNat].ba.l[0]? =some j.Model.Tables.l[h.cj.toNat].ba.l[0]:=by simp[f2]
        simp only[fQ,mU,cond_true,cond_false,uM d.1,SA,ct,dN,aK,dC,Dv ct,Dv dN];cases j.Model.Tables.l[h.cj.toNat].ba.l[0]==j.Model.Tables.l[h.Table.toNat].ba.l[h.fP.toNat]<;>rfl
theorem auq (j:eg):Mk j=some (decide (j.Model.bA.l.length<=12)&&j.Model.bA.l.all (qc j.Model.Tables.l)):=by
 unfold Mk;rw[show decide (j.Model.bA.len>12)=!decide (j.Model.bA.l.length<=12)from kx j.Model.bA 12];cases h:decide (j.Model.bA.l.length<=12)with
 |false=>rfl
 |true=>
  have hl:j.Model.bA.l.length<=12:=by simpa using h
  simp only[fQ,cond_false,dC];rw[lE (f:=AK j) j.Model.bA.l (by omega) (fun h=>!qc j.Model.Tables.l h) (fun k h hx=>aup j hx) (by simp only[AK,fj,cond_false])];rw[oM];cases j.Model.bA.l.any (fun h=>!qc j.Model.Tables.l h)<;>rfl
def cq (ks:List Int):List (Int × Bool):=ks.map fun t=>(t,true)
def ye (ks:List Int)(t:Int):List Int:=if t∈ks then ks else ks++[t]
theorem aeK (t:Int):∀ks,mI (cq ks) t true=cq (ye ks t)
 |[]=>rfl
 |k::ks=>by
  have ih:=aeK t ks;unfold cq ye at*;simp only[eG,mI];by_cases e:t=k
  ·subst e;simp
  ·have ag:(t==k)=false:=by simp[e]
   rw[ag];simp only[gN,if_false,ih,dL,e,false_or];by_cases h:t∈ks<;>simp[h]
theorem aeL (t:Int):∀ks,(jg (cq ks) t).getD false=decide (t∈ks)
 |[]=>rfl
 |k::ks=>by
  have ih:=aeL t ks;unfold cq jg at*;simp only[eG,M8];by_cases e:t=k
  ·subst e;simp
  ·have ag:(t==k)=false:=by simp[e]
   rw[ag];simp only[ih,dL,e,false_or]
theorem SV (t:Int):∀ks,ja 0 (aQ t) (gK aQ V.bool (cq ks))=gK aQ V.bool (cq (ks.erase t))
 |[]=>rfl
 |k::ks=>by
  have ih:=SV t ks;simp only[cq,gK]at ih⊢;simp only[eG,ja,Ft,aA,beq_iff_eq,List.erase_cons];by_cases e:t=k
  ·subst e;simp
  ·rw[if_neg e,if_neg (fun h=>e h.symm),ih];rfl
theorem aur{ks:List Int}(h:ks.Nodup)(t:Int):(ye ks t).Nodup:=by
 unfold ye;split
 ·exact h
 ·rename_i hn
  exact Bg.2 ⟨h,by simp,fun x hx y hy=>by
   simp only[dL,ys,or_false]at hy;subst hy;exact fun q=>hn (q ▸ hx)⟩
theorem aus{ks:List Int}{t x:Int}:x∈ye ks t↔x∈ks\/x=t:=by
 unfold ye;split
 ·rename_i h;exact⟨.inl,fun q=>q.elim id fun e=>e ▸ h⟩
 ·simp
def yf (hs:List gz)(ks:List Int):List Int:=hs.foldl (fun ks h=>ye ks h.Table) ks
theorem aeM:∀(hs:List gz) {ks:List Int},ks.Nodup->(yf hs ks).Nodup
 |[],_,h=>h
 | _::hs,_,h=>aeM hs (aur h _)
theorem aeN:∀(hs:List gz) {ks:List Int} {t:Int},t∈yf hs ks↔t∈ks\/∃h∈hs,h.Table=t
 |[],ks,t=>by simp[yf]
 |h::hs,ks,t=>by
  have:=aeN hs (ks:=ye ks h.Table) (t:=t);unfold yf at this⊢;rw[xb,this,aus];simp only[dL,exists_eq_or_imp,or_assoc,eq_comm (a:=t)]
theorem aut (j:eg)(hl:j.Model.bA.l.length<=12):bO (AL j) (0,[])=some (cq (yf j.Model.bA.l [])):=by
 have key:∀(n k:Nat) (ks:List Int),k+n=j.Model.bA.l.length->bO (AL j) ((k:Int),cq ks)=some (cq (yf (j.Model.bA.l.drop k) ks)):=by
  intro n
  induction n with
  |zero=>
   intro k ks ah;have e:k=j.Model.bA.l.length:=by omega
   rw[hD];subst e;simp only[AL,fj,cond_false,List.drop_length];rfl
  |succ n ih=>
   intro k ks ah;have aH:k<j.Model.bA.l.length:=by omega
   have hx:j.Model.bA.l[k]? =some j.Model.bA.l[k]:=by simp[aH]
   rw[hD];simp only[AL,eL aH,cond_true,cX,hx,aK,aeK];rw[ef (by omega),ih (k+1) _ (by omega),qm aH];rfl
 exact key j.Model.bA.l.length 0 [] (by omega)
theorem auu (j:eg)(hl:j.Model.bA.l.length<=12)(t:Int)(ks:List Int):
  FD j.Model.bA (fun h=>some ((h.Table==t)&&(jg (cq ks) h.cj).getD false))=some (j.Model.bA.l.any fun h=>(h.Table==t)&&decide (h.cj∈ks)):=by
 exact Dp j.Model.bA (by omega) (fun h _=>by rw[aeL])
end
end Go.Abs.bZ
namespace Go.Abs.bZ
open Go Go.Abs
noncomputable section
structure rh (hs:List gz) (ks:List Int) (d:List V) (k:List Int):Prop where
 dx:k.Nodup
 sub:∀t∈k,t∈ks
 next:∀t∈k,aQ t∈d->∃h∈hs,h.Table=t/\h.cj∈ks
 ey:∀K:Int->Prop,(∀t,K t->t∈ks)->(∀t,K t->∃h∈hs,h.Table=t/\K h.cj)->∀t,K t->t∈k
theorem rh.start{hs:List gz}{ks:List Int}(h:ks.Nodup):rh hs ks [] ks:=⟨h,fun _ h=>h,fun t _ h=>(by cases h),fun _ h _=>h⟩
theorem rh.stay{hs:List gz}{ks k:List Int}{d:List V}(h:rh hs ks d k){t:Int}(bj:(hs.any fun h=>(h.Table==t)&&decide (h.cj∈k))=true):rh hs ks (d++[aQ t]) k:=by
 refine⟨h.dx,h.sub,fun u hu hd=> ?_,h.ey⟩;rcases kS.1 hd with hd|hd
 ·exact h.next u hu hd
 ·simp only[dL,ys,or_false,V.int.injEq,true_and]at hd
  subst hd;obtain⟨x,hx,h1⟩:=sd.1 bj;simp only[ca,beq_iff_eq,decide_eq_true_eq]at h1;exact⟨x,hx,h1.1,h.sub _ h1.2⟩
theorem rh.gone{hs:List gz}{ks k:List Int}{d:List V}(h:rh hs ks d k){t:Int}(bj:(hs.any fun h=>(h.Table==t)&&decide (h.cj∈k))=false):rh hs ks (d++[aQ t]) (k.erase t):=by
 refine⟨h.dx.erase t,fun u hu=>h.sub u (List.mem_of_mem_erase hu),fun u hu hd=> ?_,fun K h1 h2 u hu=> ?_⟩
 ·have SW:u≠t:=fun e=>by subst e;exact(List.Nodup.not_mem_erase h.dx) hu
  rcases kS.1 hd with hd|hd
  ·exact h.next u (List.mem_of_mem_erase hu) hd
  ·simp only[dL,ys,or_false,V.int.injEq,true_and]at hd
   exact absurd hd SW
 ·have ah:=h.ey K h1 h2
  have SW:u≠t:=fun e=>by
   subst e;obtain⟨x,hx,ag,e2⟩:=h2 u hu;have:=TY.1 bj x hx;simp[ag,ah _ e2]at this
  exact(List.mem_erase_of_ne SW).2 (ah u hu)
theorem rh.fin{hs:List gz}{ks k:List Int}{d:List V}(h:rh hs ks d k)(ao:∀t∈k,aQ t∈d):FC hs ks k:=⟨h.sub,h.dx,fun t ht=>h.next t ht (ao t ht),h.ey⟩
variable{C:Ctx}{fid:Nat->Nat}{vars:List Nat}{N:Nat}{ad:Nat->Option cb}
structure tk (j:eg) (al eZ l:Nat) (ts:List Nat) (vs:List V) (ks:List Int) (b:Nat) (s:au):Prop where
 aG:s.aG=[]
 ro:s.ro=none
 ok:∃σ,Fits s.aw σ/\At σ (1::7::ts) (.ptr al 0::.ptr eZ 0::vs)
 own:Own s.H [[(eZ,.cells [.map l])],[(l,.map (gK aQ V.bool (cq ks)))],[(al,.cells (j8 j))]]
 len:b<=s.H.length
theorem Dw{s:au}(h1:s.aG=[])(h2:s.ro=none):s=⟨[],s.aw,s.H,s.low,none⟩:=by cases s;simp_all
theorem auv (tf:ad 129=some (.code Dj))(oq:AF ad){j:eg}(hl:j.Model.bA.l.length<=12){al eZ l li:Nat}{ts:List Nat}{vs:List V}{ks k:List Int}{d:List V}{s:au}(ht:∀t∈ts,t≠10/\t≠122/\t≠130)(aB6:l<li)
  (hs:tk j al eZ l (120::ts) (.ptr li 0::vs) k (li+1) s) (hp:rh j.Model.bA.l ks d k) {kv:V × V} (lV:kv∈gK aQ V.bool (cq k)):
  Sj aa lW ad l li (gK aQ V.bool (cq k)) kv s fun bN ar=>∃bE,bN=gK aQ V.bool (cq bE)/\tk j al eZ l (120::ts) (.ptr li 0::vs) bE (li+1) ar/\rh j.Model.bA.l ks (d++[kv.1]) bE:=by
 obtain⟨t,HA,rfl⟩:∃t∈k,kv=(aQ t,.bool true):=by
  unfold gK cq at lV;rw[sf]at lV;obtain⟨t,h1,h2⟩:=eM.1 lV;exact⟨t,h1,h2.symm⟩
 obtain⟨HB,HC,⟨σ,ae,iw⟩,aB,hlen⟩:=hs;rw[Dw HB HC];have g1:σ 1=.ptr al 0:=(eR iw).1;have g7:σ 7=.ptr eZ 0:=(eR (eR iw).2).1;have SX:σ 120=.ptr li 0:=(eR (eR (eR iw).2).2).1;have SY:ts.map σ=vs:=(eR (eR (eR iw).2).2).2
 obtain⟨Ct,H2,dM,jA,q1,aT,b3,cZ,nY,fq,hC,nH⟩:=asJ (ad:=ad) (R:=aa) (b:=li+1) (kv:=(aQ t,.bool true)) (σ:=σ) (H:=s.H) (li:=li) (low:=s.low)
  (Q:=fun aV H'=>∃nY,aV 10=.ptr nY 0/\(∀x,x≠10->x≠122->aV x=σ x)/\Own H' [[(nY,.cells [aQ t])],[(eZ,.cells [.map l])],[(l,.map (gK aQ V.bool (cq k)))],[(al,.cells (j8 j))]])
  SX (pp (.bool true) <| gJ ⟨rfl,by
   show up σ 122 (.bool true) 120=_
   rw[jx _ _ (by decide)];exact SX,pp (aQ t) <| zC rfl aB fun H' nY hb mJ=>zD (vs:=[aQ t]) (cs':=[aQ t]) rfl mJ 0 rfl hb rfl rfl ⟨rfl,aM _⟩ (by simp[bX]) rfl fun Ig auw=>gJ ⟨nY,rfl,fun x hx adM=>by
    show up (up σ 122 (.bool true)) 10 (.ptr nY 0) x=_;rw[jx _ _ hx,jx _ _ adM],auw⟩⟩) ae hlen
 have auy:=auu j hl t k
 obtain⟨dp,yg,td,MC,tl,bH,cw,ff,gW,rfl,rfl,rfl⟩:=ati (ad:=ad) (b:=li+1) (σ:=jA) (H:=H2) tf oq (ts:=[]) (vs:=[]) nH (by
  show[jA 1,jA 7,jA 10]=_;rw[hC 1 (by decide) (by decide),hC 7 (by decide) (by decide),fq,g1,g7]) auy Ct dM aT b3 cZ
 refine⟨_,_,q1,bH,ff,?_⟩
 have wY:∀(aV:bY),(∀x,x≠10->x≠122->x≠130->aV x=σ x)->At aV (1::7::120::ts) (.ptr al 0::.ptr eZ 0::.ptr li 0::vs):=fun aV h=>by
  show _::_::_::List.map aV ts=_;rw[h 1 (by decide) (by decide) (by decide),h 7 (by decide) (by decide) (by decide),h 120 (by decide) (by decide) (by decide),g1,g7,SX,<-SY];congr 3;exact qn fun x hx=>h x (ht x hx).1 (ht x hx).2.1 (ht x hx).2.2
 have B3:(bR yg 130)=.bool (!(j.Model.bA.l.any fun h=>(h.Table==t)&&decide (h.cj∈k))):=by rw[cw,vY]
 cases hc:(j.Model.bA.l.any fun h=>(h.Table==t)&&decide (h.cj∈k))with
 |true=>
  refine .inl ⟨?_,k,rfl,⟨rfl,rfl,⟨_,cw,wY _ fun x h1 h2 av=> ?_⟩,nH.drop 0,cZ⟩,hp.stay hc⟩
  ·show bR yg 130=_
   rw[B3,hc];rfl
  ·rw[jx _ _ av,hC x h1 h2]
 |false=>
  have nM:bR yg 7=.ptr eZ 0:=by rw[cw,jx _ _ (by decide),hC 7 (by decide) (by decide),g7]
  have auz:bR yg 10=.ptr nY 0:=by rw[cw,jx _ _ (by decide),fq]
  have f7:=nH.get 1 rfl;have f10:=nH.get 0 rfl;have bb:=nH.get 2 rfl
  have hex:c5 (cl ad) Ml ⟨[],yg,td,MC,none⟩ []=some (⟨[(132,aQ t),(131,.map l)],yg,td,min (min MC td.length) td.length,none⟩,[false,false]):=by
   simp[Ml,c5,gE,nJ,jN,iq,aj.ai,nM,auz,f7,f10,au.put,lx]
  refine .inr ⟨?_,_,_,_,hex,by show li<min (min MC td.length) td.length;omega,rfl,Fu (gL:=V.bool) Ft t (cq k),k.erase t,SV t k,⟨rfl,rfl,⟨_,cw,wY _ fun x h1 h2 av=> ?_⟩,?_,?_⟩,hp.gone hc⟩
  ·show bR yg 130=_
   rw[B3,hc];rfl
  ·rw[jx _ _ av,hC x h1 h2]
  ·have:=nH.put 2 (a:=l) (o:=.map (gK aQ V.bool (cq k))) (o':=.map (gK aQ V.bool (cq (k.erase t)))) rfl
   have h2:=this.drop 0;show Own (td.set l (.map (ja 0 (aQ t) (gK aQ V.bool (cq k))))) _;rw[SV];exact h2
  ·show li+1<=(td.set l _).length
   rw[yt];exact cZ
theorem auA (cR:C.P.follows .mixedOrders=true)(bF:fp C fid)(bn:hB C fid (cl ad)){r6:Code}(hr:zq C vars N r6=some aa)(hd:Dn C vars N (Mj r6)=some lW)(tf:ad 129=some (.code Dj))(oq:AF ad)
  {j:eg} (hl:j.Model.bA.l.length<=12) {al eZ l:Nat} {ts:List Nat} {vs:List V} {ks:List Int} {s:au} (hnd:ks.Nodup) (ht:∀t∈ts,t≠10/\t≠122/\t≠130/\t≠120) (hs:tk j al eZ l ts vs ks 0 s):
  di C fid vars N r6 s fun x ar=>x=.normal/\∃bE,FC j.Model.bA.l ks bE/\tk j al eZ l ts vs bE 0 ar:=by
 obtain⟨HB,HC,⟨σ,ae,iw⟩,aB,hlen⟩:=hs;have g1:σ 1=.ptr al 0:=(eR iw).1;have g7:σ 7=.ptr eZ 0:=(eR (eR iw).2).1;have SY:ts.map σ=vs:=(eR (eR iw).2).2;have f7:=aB.get 0 rfl;have bb:=aB.get 1 rfl;have jX:=xM bb;rw[Dw HB HC];have nM:bR s.aw 7=.ptr eZ 0:=by rw[ae];exact g7
 have hex:c5 (cl ad) aa.t0 ⟨[],s.aw,s.H,s.low,none⟩ []=some (⟨[(119,.map l)],s.aw,s.H,min s.low s.H.length,none⟩,[false]):=by
  simp[aa,c5,gE,nJ,jN,iq,aj.ai,nM,f7,au.put,lx]
 refine(di.asH cR bF bn hr hd (jw:=⟨[],s.aw,s.H,s.low,none⟩) hex (l:=l) (bs:=gK aQ V.bool (cq ks)) rfl bb
  (fun d es ar=>∃bE,es=gK aQ V.bool (cq bE)/\tk j al eZ l (120::ts) (.ptr s.H.length 0::vs) bE (s.H.length+1) ar/\rh j.Model.bA.l ks d bE)
  (fun es ar=>∃bE,FC j.Model.bA.l ks bE/\tk j al eZ l ts vs bE 0 ar) ⟨ks,rfl,⟨rfl,rfl,⟨_,abn ae 120 (.ptr s.H.length 0),?_⟩,⟨fun m hm p hp=> ?_,aB.2⟩,?_⟩,.start hnd⟩ ?_ ?_ ?_).mono ?_
 ·show up σ 120 (.ptr s.H.length 0) 1::up σ 120 (.ptr s.H.length 0) 7::up σ 120 (.ptr s.H.length 0) 120::List.map (up σ 120 (.ptr s.H.length 0)) ts=_
  rw[jx _ _ (by decide),jx _ _ (by decide),vY,g1,g7,<-SY];congr 3;exact qn fun x hx=>jx _ _ (ht x hx).2.2.2
 ·show(s.H++[cD.gone])[p.1]? =_
  rw[gM (aB.lt hm hp)];exact aB.1 m hm p hp
 ·show s.H.length+1<=(s.H++[cD.gone]).length
  simp
 ·rintro d es ar ⟨bE,-,h,-⟩
  obtain⟨aV,h1,h2⟩:=h.ok;show bR ar.aw 120=_;rw[h1];exact(eR (eR (eR h2).2).2).1
 ·rintro d es ar ⟨bE,rfl,h,hp⟩ kv lV
  exact auv tf oq hl (fun t q=>⟨(ht t q).1,(ht t q).2.1,(ht t q).2.2.1⟩) jX h hp lV
 ·rintro d es ar ⟨bE,rfl,⟨dw,auB,⟨aV,h1,h2⟩,mJ,nb⟩,hp⟩ eD
  rw[Dw dw auB];obtain⟨dv,H',low',jA,q1,aT,b3,cZ,fq,rfl⟩:=asI (ad:=ad) (R:=aa) (b:=s.H.length+1) (σ:=aV) (H:=ar.H) (low:=ar.low) (Q:=fun jA H2=>jA=up aV 122 (.bool false)/\H2=ar.H) (pp (.bool false) <| gJ ⟨rfl,rfl,rfl⟩) h1 nb;subst fq;refine⟨_,q1,b3,bE,hp.fin fun t HA=>eD (aQ t,.bool true) ?_,rfl,rfl,⟨_,aT,?_⟩,mJ,cI _⟩
  ·unfold gK cq
   rw[sf];exact eM.2 ⟨t,HA,rfl⟩
  ·show up aV 122 (.bool false) 1::up aV 122 (.bool false) 7::List.map (up aV 122 (.bool false)) ts=_
   have dQ:=(eR h2).1;have A3:=(eR (eR h2).2).1;have auC:=(eR (eR (eR h2).2).2).2;rw[jx _ _ (by decide),jx _ _ (by decide),dQ,A3,<-auC];congr 2;exact qn fun x hx=>jx _ _ (ht x hx).2.1
 ·rintro x ar ⟨rfl,es,s2,⟨bE,h1,h2⟩,rfl⟩
  exact⟨rfl,bE,h1,h2.aG,h2.ro,h2.ok,h2.own,h2.len⟩
end
end Go.Abs.bZ
namespace Go.Abs.bZ
open Go Go.Abs
noncomputable section
variable{C:Ctx}{fid:Nat->Nat}{vars:List Nat}{N:Nat}{ad:Nat->Option cb}
theorem Dx{c:b8}{σ:bY}{H:Heap}{Q:X->bY->Heap->Prop}{aw:Env}(h:fg ad 0 c σ H Q)(ae:Fits aw σ)(low:Nat):
  ∃x dv H' low' aV,dz ad c ⟨[],aw,H,low,none⟩=some (x,⟨[],dv,H',low',none⟩)/\Fits dv aV/\Q x aV H':=by
 obtain⟨x,dv,H',low',aV,h1,h2,-,-,av⟩:=h aw low ae (cI _) (cI _);exact⟨x,dv,H',low',aV,h1,h2,av⟩
theorem aeO{σ:bY}{a b c d:Nat}{x y z w:V}(h:At σ [a,b,c,d] [x,y,z,w]):At σ [a,b] [x,y]:=by
 simp only[At,eG,me,xa]at h⊢;exact⟨h.1,h.2.1,trivial⟩
theorem auD{σ:bY}{a b:Nat}{x y:V}(h:At σ [a,b] [x,y]):At σ [b] [y]:=by
 simp only[At,eG,me,xa]at h⊢;exact⟨h.2.1,trivial⟩
def SZ:b8:=.region [⟨some (118,true),.bin .lss (.var 117) (.var 116),none⟩] none
def S0:b8:=.cond (.var 118) .skip (.exit 4)
def S1:b8:=.region [⟨some (133,false),.bin .add (.var 117) (.const (.int .i64 1)),none⟩,⟨some (117,true),.mv (.tmp 133),none⟩] none
section
variable{b:Nat}{σ:bY}{H:Heap}
theorem auE{ab:eg}{al eZ l:Nat}{m:List (Int × Bool)}(j:At σ [1,7] [.ptr al 0,.ptr eZ 0])(aB:Own H [[(eZ,.cells [.map l])],[(l,.map (gK aQ V.bool m))],[(al,.cells (j8 ab))]]):
  fg ad b (x4 (hA 6)) σ H fun x aV H'=>x=.normal/\H'=H/\At aV [1,7,116,117] [.ptr al 0,.ptr eZ 0,aQ ab.Model.bA.len,aQ 0]:=by
 rw[<-Fv j];refine tZ <| pp (.ptr al 0) <| pp (.ptr al 6) <| ph (bU 3 jB ab.Model.bA) (ib rfl (aB.get 2 rfl) rfl) <| ph (aQ ab.Model.bA.len) (v8 rfl _) <| pp (aQ 0) <| gJ ⟨rfl,rfl,rfl⟩
theorem auF{i n:Int}(h1:σ 116=aQ n)(h2:σ 117=aQ i):fg ad b (.seq SZ S0) σ H fun x aV H'=>x=(if i<n then .normal else .exit 4)/\H'=H/\aV=up σ 118 (.bool (decide (i<n))):=by
 refine p8 <| tZ <| ph (.bool (decide (i<n))) ?_ <| gJ ?_
 ·rw[nj]
  show(et .lss (σ 117) (σ 116)).map _=_;rw[h1,h2];rfl
 ·by_cases h:i<n
  ·refine zy (β:=decide (i<n)) rfl (by simpa using h) (zw ⟨by rw[if_pos h],rfl,rfl⟩)
  ·refine zz (β:=decide (i<n)) rfl (by simpa using h) (J5 ⟨by rw[if_neg h],rfl,rfl⟩)
theorem auG{i:Int}(h2:σ 117=aQ i):fg ad b S1 σ H fun x aV H'=>x=.normal/\H'=H/\aV=up σ 117 (aQ (aN (i+1))):=by
 refine tZ <| ph (aQ (aN (i+1))) ?_ <| pp (aQ (aN (i+1))) <| gJ ⟨rfl,rfl,rfl⟩
 rw[nj];show(et .add (σ 117) (aQ 1)).map _=_;rw[h2];rfl
end
theorem auH (cR:C.P.follows .mixedOrders=true)(bF:fp C fid)(bn:hB C fid (cl ad)){hd tY r6 inc:Code}(dk:C.code vars N hd=some SZ)(eu:C.code vars N tY=some S0)(fe:C.code vars N inc=some S1)
  (hr:zq C vars N r6=some aa) (lL:Dn C vars N (Mj r6)=some lW) (tf:ad 129=some (.code Dj)) (oq:AF ad) {j:eg} (hl:j.Model.bA.l.length<=12) {al eZ l:Nat} {ks:List Int} {s:au} (hnd:ks.Nodup)
  (hs:tk j al eZ l [116,117] [aQ j.Model.bA.len,aQ 0] ks 0 s):
  di C fid vars N (.block 4 (.loop (.seq hd (.seq tY (.seq (.block 5 r6) inc))))) s fun x ar=>x=.normal/\∃bE,qW j.Model.bA.l ks j.Model.bA.l.length bE/\tk j al eZ l [] [] bE 0 ar:=by
 refine di.block (di.loop (fun k ar=>∃(i:Nat) (bE:List Int),i+k=j.Model.bA.l.length/\bE.Nodup/\qW j.Model.bA.l ks i bE/\tk j al eZ l [116,117] [aQ j.Model.bA.len,aQ i] bE 0 ar) j.Model.bA.l.length ⟨0,ks,by omega,hnd,.zero,hs⟩ ?_);rintro k s1 ⟨i,ct,aB7,auI,Ek,HB,HC,⟨σ,ae,iw⟩,aB,hlen⟩;have g1:σ 1=.ptr al 0:=(eR iw).1;have g7:σ 7=.ptr eZ 0:=(eR (eR iw).2).1;have aeP:σ 116=aQ j.Model.bA.len:=(eR (eR (eR iw).2).2).1;have aeQ:σ 117=aQ i:=(eR (eR (eR (eR iw).2).2).2).1;rw[Dw HB HC];obtain⟨x,dv,H',low',aV,q1,aT,b3,rfl,fq⟩:=Dx (ad:=ad) (auF (H:=s1.H) aeP aeQ) ae s1.low;have aeR:j.Model.bA.len=(j.Model.bA.l.length:Int):=rfl
 have S2:At aV [1,7,116,117] [.ptr al 0,.ptr eZ 0,aQ j.Model.bA.len,aQ i]:=by
  rw[fq];show[up σ 118 (.bool (decide ((i:Int)<j.Model.bA.len))) 1,up σ 118 (.bool (decide ((i:Int)<j.Model.bA.len))) 7,up σ 118 (.bool (decide ((i:Int)<j.Model.bA.len))) 116,up σ 118 (.bool (decide ((i:Int)<j.Model.bA.len))) 117]=_;rw[jx _ _ (by decide),jx _ _ (by decide),jx _ _ (by decide),jx _ _ (by decide),g1,g7,aeP,aeQ]
 by_cases hi:i<j.Model.bA.l.length
 ·have hx:x=.normal:=by rw[b3,if_pos (by rw[aeR];omega)]
  subst hx;refine di.AJ cR bF bn dk q1 (fun s2 lN=>di.seq (di.dz cR bF bn eu lN) (fun fu av=> ?_) fun y fu hy av=>absurd av.1 hy) (fun h=>absurd rfl h);obtain⟨-,rfl⟩:=av;refine di.seq (JI:=fun y fu=>y=.normal/\∃bE,FC j.Model.bA.l ct bE/\tk j al eZ l [116,117] [aQ j.Model.bA.len,aQ i] bE 0 fu) (di.block ((auA (s:=⟨[],dv,s1.H,low',none⟩) cR bF bn hr lL tf oq hl auI (ts:=[116,117]) (vs:=[aQ j.Model.bA.len,aQ i]) (by decide) ⟨rfl,rfl,⟨aV,aT,S2⟩,aB,cI _⟩).mono fun y fu hy=>⟨by rw[hy.1];rfl,hy.2⟩)) (fun fu av=> ?_) fun y fu hy av=>absurd av.1 hy;obtain⟨-,dN,aeS,Pg,Cd,⟨tl,auJ,wY⟩,AM,Wq⟩:=av;have dQ:tl 1=.ptr al 0:=(eR wY).1;have A3:tl 7=.ptr eZ 0:=(eR (eR wY).2).1;have auK:tl 116=aQ j.Model.bA.len:=(eR (eR (eR wY).2).2).1;have bi:tl 117=aQ i:=(eR (eR (eR (eR wY).2).2).2).1;rw[Dw Pg Cd];obtain⟨y,Ra,Rb,aB8,Rc,bH,cw,rfl,rfl,jv⟩:=Dx (ad:=ad) (auG (H:=fu.H) bi) auJ fu.low;refine(di.dz cR bF bn fe bH).mono fun y kt hy=> ?_;obtain⟨rfl,rfl⟩:=hy;refine .inl ⟨rfl,k-1,by omega,i+1,dN,by omega,aeS.dx,.succ Ek aeS,rfl,rfl,⟨Rc,cw,?_⟩,AM,cI _⟩;rw[jv];show[up tl 117 (aQ (aN ((i:Int)+1))) 1,up tl 117 (aQ (aN ((i:Int)+1))) 7,up tl 117 (aQ (aN ((i:Int)+1))) 116,up tl 117 (aQ (aN ((i:Int)+1))) 117]=_;rw[jx _ _ (by decide),jx _ _ (by decide),jx _ _ (by decide),vY,dQ,A3,auK,ef (by omega)]
 ·have hx:x=.exit 4:=by rw[b3,if_neg (by rw[aeR];omega)]
  subst hx;refine di.AJ cR bF bn dk q1 (fun s2 lN=>di.seq (di.dz cR bF bn eu lN) (fun fu av=>absurd av.1 (by simp)) fun y fu hy av=> ?_) (fun _=> ?_)
  ·obtain⟨rfl,rfl⟩:=av
   have:i=j.Model.bA.l.length:=by omega
   subst this;exact .inr ⟨by simp,rfl,ct,Ek,rfl,rfl,⟨aV,aT,aeO S2⟩,aB,cI _⟩
  ·have:i=j.Model.bA.l.length:=by omega
   subst this;exact .inr ⟨by simp,rfl,ct,Ek,rfl,rfl,⟨aV,aT,aeO S2⟩,aB,cI _⟩
theorem auL (cR:C.P.follows .mixedOrders=true)(bF:fp C fid)(bn:hB C fid (cl ad)){p1 p2 p3 mC s8 Hj L8 hd tY r6 inc:Code}(ag:C.code vars N p1=some (hA 1))(e2:C.code vars N p2=some (hA 2))(bI:C.code vars N p3=some (hA 3))(cz:C.code vars N mC=some (hA 4))(dF:C.code vars N s8=some (hA 5))
  (hz:C.code vars N Hj=some (x4 (hA 6))) (nM:C.code vars N L8=some (hA 7)) (dk:C.code vars N hd=some SZ) (eu:C.code vars N tY=some S0) (fe:C.code vars N inc=some S1)
  (hr:zq C vars N r6=some aa) (lL:Dn C vars N (Mj r6)=some lW) (tf:ad 129=some (.code Dj)) (oq:AF ad) (S3:Mc ad) (j:eg):
  di C fid vars N (.seq p1 (.seq p2 (.seq p3 (.seq mC (.seq s8 (.seq (.seq Hj (.block 4 (.loop (.seq hd (.seq tY (.seq (.block 5 r6) inc)))))) L8)))))) ⟨[],gF 0 [.agg (j8 j)],[],0,none⟩
   fun x s=>x=.ret/\bR s.aw 2=.bool (zJ j.Model.Tables.l j.Model.bA.l):=by
 obtain⟨x,k8,H1,bS,cU,q1,aT,b3⟩:=Dx (ad:=ad) (asK (H0:=[]) S3 j (auq j)) (P7 0 [.agg (j8 j)]) 0;unfold zJ;cases aZ:(decide (j.Model.bA.l.length<=12)&&j.Model.bA.l.all (qc j.Model.Tables.l))with
 |false=>
  rw[aZ]at b3;obtain⟨rfl,iw⟩:=b3;have af:bR k8 2=.bool false:=(aT 2).trans (eR iw).1
  have aI:(decide (j.Model.bA.l.length<=12)&&(j.Model.bA.l.all (qc j.Model.Tables.l)&&FB j.Model.bA.l j.Model.Tables.l.length))=false:=by
   rw[<-DK,aZ];rfl
  rw[aI];refine di.AJ cR bF bn ag q1 (fun s2 h2=>di.AJ cR bF bn e2 h2 (fun fu av=>di.seq (di.dz cR bF bn bI av) (fun kt bc=>absurd bc.1 (by simp)) fun y kt hy bc=> ?_) fun _=>⟨rfl,af⟩) fun _=>⟨rfl,af⟩;obtain⟨rfl,rfl⟩:=bc;exact⟨rfl,af⟩
 |true=>
  rw[aZ]at b3;obtain⟨rfl,al,-,iw,aB⟩:=b3;obtain⟨aeT,eD⟩:=Bool.and_eq_true_iff.1 aZ;have hl:j.Model.bA.l.length<=12:=by simpa using aeT
  rw[aeT,eD,dC,dC];refine di.AJ cR bF bn ag q1 (fun s2 h2=>di.AJ cR bF bn e2 h2 (fun fu av=>di.seq (di.dz cR bF bn bI av) (fun kt bc=> ?_) fun y kt hy bc=>absurd bc.1 hy) fun h=>absurd rfl h) fun h=>absurd rfl h;obtain⟨-,rfl⟩:=bc;obtain⟨x,Ct,H2,dM,jA,bH,cw,rfl,eZ,l,-,-,auM,aeU⟩:=Dx (ad:=ad) (as4 (b:=0) j iw aB (aut j hl)) aT bS;refine di.AJ cR bF bn cz bH (fun s2 h2=>di.seq (di.dz cR bF bn dF h2) (fun kt bc=> ?_) fun y kt hy bc=>absurd bc.1 hy) fun h=>absurd rfl h;obtain⟨-,rfl⟩:=bc;obtain⟨x,yg,td,MC,tl,t1,t2,rfl,rfl,wY⟩:=Dx (ad:=ad) (auE (b:=0) auM aeU) cw dM;have hnd:(yf j.Model.bA.l []).Nodup:=aeM _ H9;refine di.seq (di.seq (di.dz cR bF bn hz t1) (fun kt bc=> ?_) fun y kt hy bc=>absurd bc.1 hy) (fun S4 h5=> ?_) fun y S4 hy (h5:y=.normal/\∃bE,qW j.Model.bA.l (yf j.Model.bA.l []) j.Model.bA.l.length bE/\tk j al eZ l [] [] bE 0 S4)=>absurd h5.1 hy
  ·obtain⟨-,rfl⟩:=bc
   exact auH cR bF bn dk eu fe hr lL tf oq hl hnd ⟨rfl,rfl,⟨tl,t2,wY⟩,aeU,cI _⟩
  ·obtain⟨-,bE,auN,auO,O7,⟨auP,auQ,auR⟩,auS,-⟩:=h5
   rw[Dw auO O7];have A3:At auP [7] [.ptr eZ 0]:=auD auR;obtain⟨x,auT,aB9,aCa,aCb,kD,qA,rfl,auU⟩:=Dx (ad:=ad) (atg (b:=0) A3 auS) auQ S4.low;refine(di.dz cR bF bn nM kD).mono fun y aCc hy=> ?_;obtain⟨rfl,rfl⟩:=hy;refine⟨rfl,?_⟩;show bR auT 2=_;rw[qA 2,(eR auU).1]
   have hZ:∀h∈j.Model.bA.l,0<=h.Table/\h.Table<(j.Model.Tables.l.length:Int):=fun h eS=>by
    have:=eV.1 eD h eS;unfold qc at this;simp only[ca,decide_eq_true_eq]at this;exact⟨this.1.1,this.1.2⟩
   rw[<-aoN (N:=j.Model.Tables.l.length) hnd (fun t=>by rw[aeN];simp) hZ auN];unfold cq;rw[jn]
end
end Go.Abs.bZ
namespace Go.Abs.bZ
open Go Go.Abs
noncomputable section
theorem S5 (x:aW)(n:Nat):decide ((x.length:Int)>(n:Int))=!decide (x.length<=n):=by
 rw[aeC];congr 1;exact decide_eq_decide.2 (by omega)
def HD (t:Table):Bool:=decide (t.Name.length<=40)&&decide (t.ba.l.length<=12)
def HE (s:List Int)(ts:List Table):Bool:=ts.all HD&&(decide (s.length<=12)&&decide (ts.length<=20))
theorem auV (s:ak Int)(ts:ak Table)(h:bg ts.l):Km s ts=some (HE s.l ts.l):=by
 unfold Km
 rw[lE (f:=Kl ts) ts.l h (fun t=>!HD t) (fun k t ht=>by
  simp only[Kl,eL (ep ht),cond_true,cX,ht,aK];rw[show decide ((t.Name.length:Int)>40)=!decide (t.Name.length<=40)from S5 t.Name 40,show decide (t.ba.len>12)=!decide (t.ba.l.length<=12)from kx t.ba 12];unfold HD;cases decide (t.Name.length<=40)<;>cases decide (t.ba.l.length<=12)<;>rfl) (by simp only[Kl,fj,cond_false])]
 unfold HE;rw[oM,show decide (s.len<=12)=decide (s.l.length<=12)from A0 s 12,show decide (ts.len<=20)=decide (ts.l.length<=20)from A0 ts 20];cases ts.l.any fun t=>!HD t<;>rfl
def HF (o:cV):Bool:=decide (o.Name.length<=40)&&decide (o.aL.l.length<=6)
def S6 (x:c7):Bool:=decide (x.Delta.l.length<=20)&&(decide (x.de.l.length<=10)&&decide (x.eQ.l.length<=40))
def S7 (x:c7):Bool:=x.de.l.all fun r=>decide (r.cd.l.length<=20)
def HG (a:Action):Bool:=(decide (a.dR.l.length<=6)&&S6 a.c7)&&S7 a.c7
def qk (m:Model):Bool:=
 (decide (m.aL.l.length<=8)&&(decide (m.Tables.l.length<=6)&&(decide (m.dI.l.length<=20)&&(decide (m.c4.l.length<=60)&&(decide (m.Operations.l.length<=8)&&(decide (m.Actions.l.length<=30)&&(decide (m.bA.l.length<=12)&&HE m.aL.l m.Tables.l)))))))&&
 ((m.dI.l.all fun x=>decide (x.length<=40))&&((m.c4.l.all fun c=>decide (c.Row.cd.l.length<=20))&&(m.Operations.l.all HF&&m.Actions.l.all HG)))
theorem auW (m:Model):Ks m=some (qk m):=by
 unfold Ks qk
 rw[show decide (m.aL.len>8)=!decide (m.aL.l.length<=8)from kx m.aL 8,show decide (m.Tables.len>6)=!decide (m.Tables.l.length<=6)from kx m.Tables 6,
  show decide (m.dI.len>20)=!decide (m.dI.l.length<=20)from kx m.dI 20,show decide (m.c4.len>60)=!decide (m.c4.l.length<=60)from kx m.c4 60,
  show decide (m.Operations.len>8)=!decide (m.Operations.l.length<=8)from kx m.Operations 8,show decide (m.Actions.len>30)=!decide (m.Actions.l.length<=30)from kx m.Actions 30,
  show decide (m.bA.len>12)=!decide (m.bA.l.length<=12)from kx m.bA 12]
 cases h1:decide (m.aL.l.length<=8)with
 |false=>rfl
 |true=>
 cases h2:decide (m.Tables.l.length<=6)with
 |false=>rfl
 |true=>
 cases av:decide (m.dI.l.length<=20)with
 |false=>rfl
 |true=>
 cases bc:decide (m.c4.l.length<=60)with
 |false=>rfl
 |true=>
 cases h5:decide (m.Operations.l.length<=8)with
 |false=>rfl
 |true=>
 cases gb:decide (m.Actions.l.length<=30)with
 |false=>rfl
 |true=>
 cases lu:decide (m.bA.l.length<=12)with
 |false=>rfl
 |true=>
 have aT:m.Tables.l.length<=6:=by simpa using h2
 have b3:m.dI.l.length<=20:=by simpa using av
 have cZ:m.c4.l.length<=60:=by simpa using bc
 have fq:m.Operations.l.length<=8:=by simpa using h5
 have hC:m.Actions.l.length<=30:=by simpa using gb
 simp only[fQ,cond_false,dC];rw[auV m.aL m.Tables (by unfold bg;omega)];cases HE m.aL.l m.Tables.l with
 |false=>rfl
 |true=>
 simp only[aK,fQ,cond_false,dC]
 rw[lE (f:=Kn m) m.dI.l (by omega) (fun x=>!decide (x.length<=40)) (fun k x hx=>by
  simp only[Kn,eL (ep hx),cond_true,cX,hx,aK];rw[show decide ((x.length:Int)>40)=!decide (x.length<=40)from S5 x 40];cases decide (x.length<=40)<;>rfl) (by simp only[Kn,fj,cond_false])]
 rw[oM];cases m.dI.l.any fun x=>!decide (x.length<=40)with
 |true=>rfl
 |false=>
 simp only[aK,mU,cond_false,dC]
 rw[lE (f:=Ko m) m.c4.l (by omega) (fun c=>!decide (c.Row.cd.l.length<=20)) (fun k c hx=>by
  simp only[Ko,eL (ep hx),cond_true,cX,hx,aK];rw[show decide (c.Row.cd.len>20)=!decide (c.Row.cd.l.length<=20)from kx c.Row.cd 20];cases decide (c.Row.cd.l.length<=20)<;>rfl) (by simp only[Ko,fj,cond_false])]
 rw[oM (l:=m.c4.l)];cases m.c4.l.any fun c=>!decide (c.Row.cd.l.length<=20)with
 |true=>rfl
 |false=>
 simp only[aK,mU,cond_false,dC]
 rw[lE (f:=Kp m) m.Operations.l (by omega) (fun o=>!HF o) (fun k o hx=>by
  simp only[Kp,eL (ep hx),cond_true,cX,hx,aK];rw[show decide ((o.Name.length:Int)>40)=!decide (o.Name.length<=40)from S5 o.Name 40,show decide (o.aL.len>6)=!decide (o.aL.l.length<=6)from kx o.aL 6];unfold HF;cases decide (o.Name.length<=40)<;>cases decide (o.aL.l.length<=6)<;>rfl) (by simp only[Kp,fj,cond_false])]
 rw[oM (l:=m.Operations.l)];cases m.Operations.l.any fun o=>!HF o with
 |true=>rfl
 |false=>
 simp only[aK,mU,cond_false,dC]
 rw[lE (f:=Kr m) m.Actions.l (by omega) (fun a=>!HG a) (fun k a hx=>by
  simp only[Kr,eL (ep hx),cond_true,cX,hx,aK]
  rw[show decide (a.dR.len>6)=!decide (a.dR.l.length<=6)from kx a.dR 6,show decide (a.c7.Delta.len>20)=!decide (a.c7.Delta.l.length<=20)from kx a.c7.Delta 20,
   show decide (a.c7.de.len>10)=!decide (a.c7.de.l.length<=10)from kx a.c7.de 10,show decide (a.c7.eQ.len>40)=!decide (a.c7.eQ.l.length<=40)from kx a.c7.eQ 40]
  unfold HG S6;cases decide (a.dR.l.length<=6)with
  |false=>rfl
  |true=>
   cases decide (a.c7.Delta.l.length<=20)with
   |false=>rfl
   |true=>
    cases eS:decide (a.c7.de.l.length<=10)with
    |false=>rfl
    |true=>
     cases decide (a.c7.eQ.l.length<=40)with
     |false=>rfl
     |true=>
      have hl:a.c7.de.l.length<=10:=by simpa using eS
      simp only[fQ,cond_false,aK,xd,dC]
      rw[lE (f:=Kq a) a.c7.de.l (by omega) (fun r=>!decide (r.cd.l.length<=20)) (fun k r hx=>by
       simp only[Kq,eL (ep hx),cond_true,cX,hx,aK];rw[show decide (r.cd.len>20)=!decide (r.cd.l.length<=20)from kx r.cd 20];cases decide (r.cd.l.length<=20)<;>rfl) (by simp only[Kq,fj,cond_false])]
      unfold S7;rw[oM];cases a.c7.de.l.any fun r=>!decide (r.cd.l.length<=20)<;>rfl) (by simp only[Kr,fj,cond_false])]
 rw[oM (l:=m.Actions.l)];cases m.Actions.l.any fun a=>!HG a<;>rfl
structure S8 (m:Model):Prop where
 MD:m.aL.l.length<=8
 tables:m.Tables.l.length<=6
 aeV:m.dI.l.length<=21
 cons:m.c4.l.length<=60
 ops:m.Operations.l.length<=8
 uL:m.Actions.l.length<=31
 auX:m.bA.l.length<=13
 ad:∀t∈m.Tables.l,t.Name.length<=40/\t.ba.l.length<=12
 aeW:∀x∈m.dI.l,x.length<=40
 S9:∀c∈m.c4.l,c.Row.cd.l.length<=20
 op:∀o∈m.Operations.l,o.Name.length<=40/\o.aL.l.length<=6
 act:∀a∈m.Actions.l,a.dR.l.length<=6/\SS a.c7
theorem Dy{m:Model}(h:qk m=true):S8 m:=by
 unfold qk HE at h;simp only[ca,decide_eq_true_eq,eV]at h;obtain⟨⟨al,a2,a3,a4,a5,HH,eZ,auY,-,-⟩,dQ,fY,jG,lk⟩:=h;refine⟨al,a2,by omega,a4,a5,by omega,by omega,fun t ht=> ?_,dQ,fY,fun o ho=> ?_,fun a ao=> ?_⟩
 ·have:=auY t ht
  unfold HD at this;simpa using this
 ·have:=jG o ho
  unfold HF at this;simpa using this
 ·have:=lk a ao
  unfold HG S6 S7 at this;simp only[ca,decide_eq_true_eq,eV]at this;obtain⟨⟨dk,eu,fe,ix⟩,iz⟩:=this;exact⟨dk,by unfold bg;omega,by unfold bg;omega,by unfold bg;omega,fun r hr=>by have:=iz r hr;unfold bg;omega⟩
def mT (m:Model):Bool:=
 il m.aL.l m.Tables.l&&(decide (m.dI.l.length<=24)&&(wV m.dI.l&&(ya m.aL.l m.Tables.l (im m.aL.l m.Tables.l true) m.dI.len m.c4.l&&(yd m.aL.l.length m.Operations.l&&
  (A2 m.aL.l m.Tables.l (im m.aL.l m.Tables.l true).length m.Operations.l m.Actions.l&&zJ m.Tables.l m.bA.l)))))
theorem auZ{m:Model}(b:S8 m):zV m=some (mT m):=by
 have hs:bg m.aL.l:=by have:=b.MD;unfold bg;omega
 have ht:bg m.Tables.l:=by have:=b.tables;unfold bg;omega
 have hc:∀t∈m.Tables.l,bg t.ba.l:=fun t h=>by have:=b.ad t h;unfold bg;omega
 unfold zV mT;rw[SG m.aL m.Tables hs ht hc];simp only[aK];cases af:il m.aL.l m.Tables.l with
 |false=>rfl
 |true=>
  simp only[cond_true,dC];rw[show decide (m.dI.len>24)=!decide (m.dI.l.length<=24)from kx m.dI 24];cases decide (m.dI.l.length<=24)with
  |false=>rfl
  |true=>
   simp only[fQ,cond_false,dC];rw[aei m.dI (by have:=b.aeV;unfold bg;omega)];simp only[aK];cases wV m.dI.l with
   |false=>rfl
   |true=>
    obtain⟨x,ex,el⟩:=aee m.aL m.Tables true hs ht hc;rw[af]at el;simp only[cond_true]at el;have hI:∀t∈m.Tables.l,kb m.aL.l.length t.ba.l=true:=fun t h=>uD ((uC af).2.2.2 t h);simp only[fQ,cond_false,dC];rw[ex];simp only[aK];have ag:=atN (eg.mk m x) (by have:=b.cons;show m.c4.l.length<_;omega) (by show x.l.length<=_;rw[el];have:=aep af true;omega) ht hI (fun c h=>by have:=b.S9 c h;unfold bg;omega);have e2:=at5 (eg.mk m x) (by have:=b.ops;show m.Operations.l.length<=_;omega) (fun o h=>by have:=(b.op o h).2;unfold bg;omega);rw[ag,e2];simp only[aK];rw[show(eg.mk m x).strict.l=im m.aL.l m.Tables.l true from el];cases ya m.aL.l m.Tables.l (im m.aL.l m.Tables.l true) m.dI.len m.c4.l with
    |false=>rfl
    |true=>
     simp only[cond_true,dC];cases c9:yd m.aL.l.length m.Operations.l with
     |false=>rfl
     |true=>
      have Ta:=c9;unfold yd at Ta;simp only[ca,eV]at Ta;have bI:=aud (eg.mk m x) hs ht hc af Ta.1 (fun o h=>by have:=(b.op o h).2;unfold bg;omega) (fun a h=>(b.act a h).2) (fun a h=>by have:=(b.act a h).1;unfold bg;omega) (by have:=b.uL;unfold bg;show m.Actions.l.length<_;omega);rw[bI];simp only[aK,cond_true,dC];rw[show(eg.mk m x).strict.len=((im m.aL.l m.Tables.l true).length:Int)from by rw[dy];show((x.l.length:Nat):Int)=_;rw[el]];cases A2 m.aL.l m.Tables.l ((im m.aL.l m.Tables.l true).length:Int) m.Operations.l m.Actions.l<;>rfl
theorem au0{m:Model}(b:S8 m)(hZ:∀w:aW,w.length<=40->nR w=some (kP w)):CU m=some (mT m):=by
 have hs:bg m.aL.l:=by have:=b.MD;unfold bg;omega
 have ht:bg m.Tables.l:=by have:=b.tables;unfold bg;omega
 have hc:∀t∈m.Tables.l,bg t.ba.l:=fun t h=>by have:=b.ad t h;unfold bg;omega
 have hn:∀t∈m.Tables.l,nR t.Name=some (kP t.Name):=fun t h=>hZ _ (b.ad t h).1;unfold CU mT;rw[SI m.aL m.Tables hs ht hc hn];simp only[aK];cases af:il m.aL.l m.Tables.l with
 |false=>rfl
 |true=>
  simp only[cond_true,dC];rw[show decide (m.dI.len>24)=!decide (m.dI.l.length<=24)from kx m.dI 24];cases decide (m.dI.l.length<=24)with
  |false=>rfl
  |true=>
   simp only[fQ,cond_false,dC];rw[aek m.dI (by have:=b.aeV;unfold bg;omega) (fun x h=>hZ x (b.aeW x h))];simp only[aK];cases wV m.dI.l with
   |false=>rfl
   |true=>
    simp only[fQ,cond_false,dC];rw[atQ m hs ht hc hn af (by have:=b.cons;unfold bg;omega) (fun c h=>by have:=b.S9 c h;unfold bg;omega)];simp only[aK];cases ya m.aL.l m.Tables.l (im m.aL.l m.Tables.l true) m.dI.len m.c4.l with
    |false=>rfl
    |true=>
     simp only[cond_true,dC]
     rw[auf m hs ht hc hn af (by have:=b.ops;omega) (fun o h=>by have:=(b.op o h).2;unfold bg;omega) (fun o h=>hZ _ (b.op o h).1) (fun a h=>(b.act a h).2) (fun a h=>by have:=(b.act a h).1;unfold bg;omega) (by have:=b.uL;unfold bg;omega),
      aun m ht (by have:=b.auX;unfold bg;omega) (by have:=b.tables;omega)]
     simp only[aK];cases yd m.aL.l.length m.Operations.l with
     |false=>rfl
     |true=>cases A2 m.aL.l m.Tables.l ((im m.aL.l m.Tables.l true).length:Int) m.Operations.l m.Actions.l<;>rfl
end
end Go.Abs.bZ
