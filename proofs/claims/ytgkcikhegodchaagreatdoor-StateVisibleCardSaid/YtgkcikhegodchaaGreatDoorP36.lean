/- Texts of this claim, joined and written short by a program. -/
import Derived.Test.YtgkcikhegodchaaGreatDoorP35
import Derived.Test.YtgkcikhegodchaaGreatDoorP28
import Derived.Test.YtgkcikhegodchaaGreatDoorP34
import Derived.Test.YtgkcikhegodchaaGreatDoorP30
import Derived.Test.YtgkcikhegodchaaGreatDoorP21
import Derived.Test.YtgkcikhegodchaaGreatDoorP00
set_option linter.unusedVariables false
set_option linter.unusedSimpArgs false
set_option linter.unusedSectionVars false
namespace Go.Abs.bA
open Go Go.Abs
noncomputable section
variable{m:Model}
theorem ahr{α:Type}{ni:Nat}{f:(Int × ae α)->Option (cH (Int × ae α) (ae α))}{n:Nat}(Fh:ni+1<=1000)(hn:n<=100000){o:Nat->α}(ag:∀(k:Nat) acc,k<n->f ((k:Int),acc)=(hh ni acc (ae.mk [o k])).bind fun s=>some (.next (aL ((k:Int)+1),s)))(he:∀acc,f ((n:Int),acc)=some (.out acc)):
  ∀(d k:Nat) (acc:ae α),k+d=n->acc.l.length<=k->∃z,bW f ((k:Int),acc)=some z/\z.l=acc.l++(List.range' k d).map o:=by
 intro d
 induction d with
 |zero=>
  intro k acc hk al;have hk:k=n:=by omega
  subst hk;exact⟨acc,by rw[hG,he],by simp⟩
 |succ d ih=>
  intro k acc hk al;have hs:=ag k acc (by omega);obtain⟨s,ad,e2⟩:=BT (ni:=ni) (x:=acc) (y:=ae.mk [o k]) Fh (by show acc.l.length+1<=_;omega);rw[ad,aS]at hs;obtain⟨z,f1,f2⟩:=ih (k+1) s (by omega) (by rw[e2,hO];show acc.l.length+1<=_;omega);refine⟨z,?_,?_⟩
  ·rw[hG,hs,eS (by omega)];exact f1
  ·rw[f2,e2,uM,dX,kR];rfl
theorem ahs{a b:ae Bool}(h:b.l=a.l)(hs:bk a.l):Ln a b=some true:=by
 unfold Ln;have:(a.len != b.len)=false:=by rw[dn,dn,h];simp
 rw[this]
 have:=mw (f:=Lm a b) a.l hs (fun _=>false) (fun k x hx=>by
  simp only[Lm,fk (en hx),cond_true,dc,hx,h,aS,beq_self_eq_true,cond_false]) (by simp only[Lm,fQ,cond_false])
 have ag:a.l.any (fun _=>false)=false:=by simp
 rw[cond_false,this,ag];rfl
theorem aht (hb:tc m=true)(st:ae Int):∃v,AX m st=some v/\LM m st=some v/\(v=true↔ov m=true/\st.l.length=(eD m.aA.l m.Tables.l true).length):=by
 have b:=Ek hb;have z:=Ua hb;obtain⟨v1,v2⟩:=ayS hb;obtain⟨x,ad,e2⟩:=Th m.aA m.Tables true z.uD z.tables z.eu;obtain⟨y,bK,cw⟩:=afm m.aA m.Tables true z.uD z.tables z.eu z.names;unfold AX LM Rz;rw[v1,v2];cases af:ov m with
 |false=>exact⟨false,rfl,rfl,by simp⟩
 |true=>
  rw[Np af]at e2 cw;simp only[cond_true]at e2 cw;unfold La A9;simp only[aS,cond_true,ad,bK,dn,e2,cw]
  exact⟨_,rfl,rfl,by
   rw[beq_iff_eq];constructor
   ·intro h
    exact⟨trivial,by omega⟩
   ·rintro⟨-,h⟩
    omega⟩
theorem aza (hb:tc m=true)(af:ov m=true):∃x,Li m=some x/\x.l=eD m.aA.l m.Tables.l true:=by
 have b:=Ek hb;have z:=Ua hb;obtain⟨x,ad,e2⟩:=Th m.aA m.Tables true z.uD z.tables z.eu;rw[Np af]at e2;unfold Li Ri;rw[TF b,af];simp only[aS,cond_true,ad];exact⟨x,rfl,e2⟩
variable{l:ae Int}
theorem ahu (hb:tc m=true)(af:ov m=true)(hn:l.l.length=(eD m.aA.l m.Tables.l true).length):
  (∃z,vf m l=some z/\z.l=(List.range' 0 l.l.length).map fun(k:Nat)=>ib m l (k:Int))/\∃z,DP m l=some z/\z.l=(List.range' 0 l.l.length).map fun(k:Nat)=>ib m l (k:Int):=by
 have G:=ahk hb af;have hid:=Nl af;have c7:m.aW.l.length<=100000:=by omega
 have hlen:=Tj (Np af) true;obtain⟨v,f1,f2,f3⟩:=aht hb l;have IJ:v=true:=f3.2 ⟨af,hn⟩;subst IJ;constructor
 ·obtain⟨z,ad,e2⟩:=ahr (f:=A1 m l) (ni:=1) (n:=l.l.length) (by omega) (by omega) (o:=fun k=>ib m l (k:Int)) (fun k acc hk=>by
   obtain⟨t,aF,q,-⟩:=G.Uc k (by omega);simp only[A1,fk hk,cond_true,(Ue G hn c7 hid.2.2 (Ud af) (by omega) q).1,aS]) (fun acc=>by simp only[A1,fQ,cond_false]) l.l.length 0 .nil (by omega) (aN _)
  have ad:bW (A1 m l) (0,.nil)=some z:=ad;refine⟨z,?_,by rw[e2];rfl⟩;unfold vf;rw[f1,aS,cond_true,ad]
 ·obtain⟨z,ad,e2⟩:=ahr (f:=Hn m l) (ni:=1) (n:=l.l.length) (by omega) (by omega) (o:=fun k=>ib m l (k:Int)) (fun k acc hk=>by
   simp only[Hn,fk hk,cond_true,ay9 G hn c7 hid.2.2 (Ud af) (c:=k) (by omega),aS]) (fun acc=>by simp only[Hn,fQ,cond_false]) l.l.length 0 .emp (by omega) (aN _)
  have ad:bW (Hn m l) (0,.emp)=some z:=ad;refine⟨z,?_,by rw[e2];rfl⟩;unfold DP;rw[f2,aS,cond_true,ad,aS]
theorem azb (m:Model)(l:ae Int):LO m l=some true:=by
 unfold LO Dt;simp only[aS,cond_true,af1];cases hb:tc m with
 |false=>rfl
 |true=>
  simp only[cond_true];cases hd:decide (l.len>128)with
  |true=>rfl
  |false=>
   have nR:l.l.length<=128:=by have:=of_decide_eq_false hd;rw[dn]at this;omega
   obtain⟨v,f1,f2,f3⟩:=aht hb l;simp only[cond_false];cases v with
   |false=>
    have h1:vf m l=some .nil:=by unfold vf;rw[f1];rfl
    have h2:DP m l=some .emp:=by unfold DP;rw[f2];rfl
    simp only[h1,h2,aS,ahs (a:=.nil) (b:=.emp) rfl (by unfold bk;decide)]
   |true=>
    obtain⟨af,hn⟩:=f3.1 rfl;obtain⟨⟨x,bs,cr⟩,y,pf,qX⟩:=ahu hb af hn;simp only[bs,pf,aS,ahs (a:=x) (b:=y) (by rw[qX,cr]) (by rw[cr];unfold bk;rw[gR,List.length_range'];omega)]
theorem azc (m:Model)(l:ae Int)(hl:bk l.l):Lk m l=some true:=by
 unfold Lk Dt;simp only[aS,cond_true,af1];cases hb:tc m with
 |false=>rfl
 |true=>
  simp only[cond_true,TF (Ek hb)];cases af:ov m with
  |false=>rfl
  |true=>
   obtain⟨x,s1,s2⟩:=aza hb af;simp only[cond_true,s1,aS];cases hd:(l.len != x.len)with
   |true=>rfl
   |false=>
    have hn:l.l.length=(eD m.aA.l m.Tables.l true).length:=by
     have:l.len=x.len:=by simpa[bne]using hd
     rw[dn,dn,s2]at this;omega
    have G:=ahk hb af;have hid:=Nl af;have c7:m.aW.l.length<=100000:=by omega
    obtain⟨⟨z,qN,z2⟩,-⟩:=ahu hb af hn;have rn:z.l.length=l.l.length:=by rw[z2,gR,List.length_range']
    have aJ:∀c:Nat,c<l.l.length->z.l[c]? =some (ib m l (c:Int)):=fun c hc=>by
     rw[z2,iH,List.getElem?_range' (by omega)];simp
    have bq:(z.len != l.len)=false:=by rw[dn,dn,rn];simp
    simp only[cond_false,qN,aS,bq]
    rw[mw (f:=Lj m l z) l.l hl (fun _=>false) (fun c v hx=>by
     have hc:=en hx;obtain⟨t,aF,sc,ad,-,-,cw⟩:=G c (by omega);obtain⟨-,heq⟩:=Ue G hn c7 hid.2.2 (Ud af) (by omega) ad;have Nq:l.l.getD c 0=v:=by rw[nq,hx];rfl
     rw[Nq]at heq
     have hin:bW (GS m z (c:Int) (t,aF,true)) (true,0)=some (.go (m.aW.l.foldl (fun a h=>a&&!(h.Table==t)) true)):=by
      have h:=S8 (f:=GS m z (c:Int) (t,aF,true)) (fun k (a:Bool)=>(a,(k:Int))) (fun _ a h=>.inl (a&&!(h.Table==t))) (fun a=>(.go a:bO Bool Unit)) (fun _ _=>True) m.aW.l (fun k a h hk _=>by
       refine⟨?_,fun _ _=>trivial⟩;have hm:=eZ hk;have hw:aL ((k:Int)+1)=((k+1:Nat):Int):=eS (by have:=en hk;omega);simp only[GS,fk (en hk),cond_true,dc,hk,aS,hw];by_cases hit:h.Table=t
       ·obtain⟨fi,cT,y,p,q1,q2,-,cS,-⟩:=cw h hm hit
        have h1:(h.Table != t)=false:=by simp[bne,hit]
        have h2:(h.Table==t)=true:=by simp[hit]
        have au:decide (h.dK>=aF.len)=false:=decide_eq_false (by rw[dn];omega);have a7:decide ((p:Int)>=z.len)=false:=decide_eq_false (by rw[dn];omega);have h5:kB m l aF h=ib m l (p:Int):=by unfold kB;simp only[q1,q2]
        have fL:ib m l (c:Int)=true->ib m l (p:Int)=true:=fun q=>by
         rw[heq,cm,eE]at q;have:=q.2 h hm;rw[h2,h5]at this;simpa using this
        simp only[h1,h2,au,zx,cond_false,q1,q2,aS,bne_self_eq_false,a7,aJ c hc,dc,aJ p (by omega)];cases bu:ib m l (c:Int)with
        |false=>simp
        |true=>rw[fL bu];simp
       ·have h1:(h.Table != t)=true:=by simp[bne,hit]
        have h2:(h.Table==t)=false:=by simp[hit]
        simp only[h1,h2,Bool.true_or,cond_true,pA,sj]) (fun a _=>by simp only[GS,fQ,cond_false]) (a:=true) trivial
      rw[S9 fun _ _ _=>rfl]at h;exact h
     have PD:∀(hs:List fp) (a:Bool),hs.foldl (fun a h=>a&&!(h.Table==t)) a=(a&&hs.all fun h=>!(h.Table==t)):=by
      intro hs
      induction hs with
      |nil=>intro a;simp
      |cons h r ih=>intro a;rw[ti,ih,Ck,Cj]
     rw[PD,dy]at hin
     have hge:ib m l (c:Int)=true->decide (v<1)=false:=fun q=>by
      rw[heq,cm,decide_eq_true_eq]at q;exact decide_eq_false (by omega)
     simp only[Lj,fk hc,cond_true,ad,aS,dc,aJ c hc,hx]
     have rr:((bif ib m l (c:Int)then some (decide (v<1))else some false):Option Bool)=some false:=by
      cases bu:ib m l (c:Int)with
      |false=>rfl
      |true=>rw[hge bu];rfl
     rw[rr];simp only[aS,cond_false,hin];cases Fy:m.aW.l.all fun h=>!(h.Table==t)with
     |false=>rfl
     |true=>
      have eC:(m.aW.l.all fun h=>!(h.Table==t)||kB m l aF h)=true:=by
       rw[eE]at Fy⊢;intro h hm;rw[Fy h hm];rfl
      rw[eC,sj]at heq;simp only[cond_true,heq,beq_self_eq_true,fZ,aS,cond_false]) (by simp only[Lj,fQ,cond_false])]
    have ag:l.l.any (fun _=>false)=false:=by simp
    rw[ag];rfl
end
end Go.Abs.bA
set_option maxHeartbeats 2000000
namespace Go.Abs.bA
open Go Go.Abs
noncomputable section
theorem ahv{call:c5}{ah:ai->V}{H:Heap}{l:Nat}{op:cX}{β Me:Bool}(h:ch call ah H l op=some (.bool β,H,l))(c:β=Me):ch call ah H l op=some (.bool Me,H,l):=c ▸ h
def zo (k:Nat):ae Int:=ae.mk [(k:Int)]
def uH (k:Nat):ae (ae Int):=match k with
 |0=>.emp
 |k+1=>.mk ((List.range (k+1)).map zo)
theorem ahw (k:Nat):(uH k).l=(List.range k).map zo:=by cases k<;>rfl
theorem azd{k:Nat}(h:k<1000):hh 24 (uH k) (ae.mk [zo k])=some (uH (k+1)):=by
 unfold hh;rw[if_neg (show ¬(ae.mk [zo k]).l=[] by simp[ae.l]),if_pos (by rw[ahw,gR,Vw];show(k+1)*(24+1)<=_;omega),ahw];show some (ae.mk ((List.range k).map zo++[zo k]))=some (.mk ((List.range (k+1)).map zo));rw[List.range_succ,kS];rfl
theorem aze (k:Int):hh 8 ae.emp (ae.mk [k])=some (ae.mk [k]):=by
 unfold hh;rw[if_neg (show ¬(ae.mk [k]).l=[] by simp[ae.l]),if_pos (by show(0+1)*(8+1)<=_;omega)];rfl
def azf (aa:Nat->Option cc):Prop:=∀(H0:Heap) (ab ax:ae Int) (r:ae (ae Int)),Du ab ax=some r->b9 aa (.fn 152 [] []) [aV 1 ao ab,aV 1 ao ax] H0=some (aV 1 (aV 1 ao) r,H0,H0.length)
def Ns:Bool->Option (cH Bool Unit):=fun b=>bif b then some (.next false)else some (.out ())
theorem ahx:bW Ns true=some ():=by
 rw[hG];show(match some (cH.next false)with|some (.next s)=>bW Ns s|some (.out o)=>some o|none=>none)=_;simp only[];rw[hG];rfl
def goN (n:Nat):Nat->Option (cH Nat Unit):=fun k=>bif decide ((k:Int)<n)then some (.next (k+1))else some (.out ())
theorem ahy{n:Nat}:∀d k,k+d=n->bW (goN n) k=some ()
 |0,k,h=>by
  rw[hG];have:decide ((k:Int)<n)=false:=decide_eq_false (by omega);simp only[goN,this,cond_false]
 |d+1,k,h=>by
  rw[hG];have:decide ((k:Int)<n)=true:=decide_eq_true (by omega);simp only[goN,this,cond_true];exact ahy d (k+1) (by omega)
variable{aa:Nat->Option cc}
theorem azg (azh:aeD aa)(h1:aa 152=some (.code ayc)):azf aa:=by
 intro H s c r h;unfold Du at h;split at h
 ·rename_i x hx
  split at h
  ·rename_i hc
   obtain⟨q1,q2,b3,cS⟩:=hc;cases h
   have azi:c=.mk [x]:=by
    cases c with
    |nil=>cases hx
    |emp=>cases hx
    |mk l=>exact congrArg ae.mk hx
   subst azi
   have oK:s.l[x.toNat]? =some (s.l.getD x.toNat 0):=by
    rw[nq,jD (show x.toNat<s.l.length by omega)];rfl
   have af:=eE.1 q2 _ (eZ oK);simp only[cm,decide_eq_true_eq]at af;generalize Nq:s.l.getD x.toNat 0=v at oK af;obtain⟨n,rfl⟩:=Eu (show 0<=v by omega);have Ce:aO s.l x=some (n:Int):=by unfold aO;rw[if_pos b3];exact oK
   have azj:yJ s=some true:=by
    rw[Te s (by unfold bk;omega)];exact congrArg some q2
   have nx:decide (x<0)=false:=decide_eq_false (by omega);have ig:decide (x>=s.len)=false:=decide_eq_false (by rw[dn];omega);have hn:1<=n/\n<=6:=by omega
   rw[zq]
   have hr:aV 1 (aV 1 ao) (ae.mk ((List.range n).map fun(k:Nat)=>ae.mk [(k:Int)]))=aV 1 (aV 1 ao) (uH n):=by
    match n,hn with
    |n+1,_=>rfl
   rw[hr];refine KT (caps:=[]) h1 (j1 rfl) rfl ?_ (lU _ _ _);refine eL <| pp .cu <| cZ <| ?_
   refine gW <| eL <| pp (aV 1 ao (.mk [x])) <| ph (ao 1) (od (f:=ao) (s:=ae.mk [x]) rfl _) <| pp (.bool false) <| pp (.bool false) <| iu (aV 1 ao s) rfl <| hF (v:=.bool true) (h3 rfl rfl) (va (azh _ _ _ azj) (o9 (by simp[cj])) rfl rfl) <| iu (.bool false) rfl <| ph (.bool false) (wZ rfl rfl) <| cZ <| nB rfl rfl <| nA <| ?_
   refine eL <| ph .emp (KN rfl) <| ph (.list 1 [.emp]) (F5 (vs:=[.emp]) rfl rfl rfl (by simp) (by simp[cj,bx]) (by simp[bM,dY])) <| pp (.list 1 [.emp]) <| cZ <| ?_
   refine gW <| eL <| pp (ao 0) <| cZ <| p6 <| ?_
   refine cy Ns (fun b aT H'=>∃cn fE,At aT [0,1,4,5,6] [aV 1 ao s,aV 1 ao (.mk [x]),.cu,cn,ao (bif b then 0 else 1)]/\(b=true->cn=.list 1 [.emp])/\(b=false->e3 H.length 1 (aV 1 ao) cn (uH n) fE/\Own H' [fE]))
    (fun _ e1 aT H'=>e1=.exit 0/\∃cn fE,At aT [5] [cn]/\e3 H.length 1 (aV 1 ao) cn (uH n) fE/\Own H' [fE]) ahx ⟨.list 1 [.emp],[],rfl,fun _=>rfl,nofun⟩ ?_ ?_
   ·rintro Uf cM H1 bI ⟨cn,fE,j,BR,IK⟩ uT
    cases Uf with
    |false=>
     obtain⟨b4,dq⟩:=IK rfl;cases uT;refine du j <| gW <| eL <| pp (ao 1) <| pp (aV 1 ao (.mk [x])) <| ph (ao 1) (od (f:=ao) (s:=ae.mk [x]) rfl _) <| pp (.bool false) <| cZ <| nB rfl rfl <| wX <| ?_
     exact⟨nofun,rfl,cn,fE,rfl,b4,dq⟩
    |true=>
     have hQ:=BR rfl;subst hQ;cases uT;refine du j <| gW <| eL <| pp (ao 0) <| pp (aV 1 ao (.mk [x])) <| ph (ao 1) (od (f:=ao) (s:=ae.mk [x]) rfl _) <| pp (.bool true) <| cZ <| p4 rfl rfl <| nA <| ?_
     refine gW <| p6 <| gW <| eL <| pp (aV 1 ao (.mk [x])) <| pp (ao 0) <| ph (.dz (aI (ao x)) 0) (p7 (f:=ao) (s:=ae.mk [x]) (n:=0) rfl rfl rfl _) <| pp (ao x) <| ph (.bool false) (ahv rfl nx) <| pp (.bool false) <| iu (aV 1 ao (.mk [x])) rfl <| iu (ao 0) rfl <| hF (v:=.dz (aI (ao x)) 0) (h3 rfl rfl) (p7 (f:=ao) (s:=ae.mk [x]) (n:=0) rfl rfl rfl _) <| iu (ao x) rfl <| iu (aV 1 ao s) rfl <| hF (v:=ao s.len) (h3 rfl rfl) (od rfl _) <| hF (v:=.bool false) (h3 rfl rfl) (ahv rfl ig) <| ph (.bool false) (wZ rfl rfl) <| cZ <| nB rfl rfl <| nA <| ?_
     refine eL <| ph .emp (KN rfl) <| pp .emp <| cZ <| ?_
     refine gW <| eL <| pp (ao 0) <| cZ <| p6 <| ?_
     refine cy Ns (fun b aT H'=>∃cn fE,At aT [0,1,4,5,6,7,8] [aV 1 ao s,aV 1 ao (.mk [x]),.cu,.list 1 [.emp],ao 0,cn,ao (bif b then 0 else 1)]/\e3 H.length 1 (aV 1 ao) cn (uH (bif b then 0 else n)) fE/\Own H' [fE])
      (fun _ e1 aT H'=>e1=.exit 2/\∃cn fE,At aT [0,1,4,6,7] [aV 1 ao s,aV 1 ao (.mk [x]),.cu,ao 0,cn]/\e3 H.length 1 (aV 1 ao) cn (uH n) fE/\Own H' [fE]) ahx ⟨.emp,[],rfl,.emp,(Own.nil _).ins 0⟩ ?_ ?_
     ·rintro Uf iZ H2 cq ⟨cn,fE,j,b4,dq⟩ o1
      cases Uf with
      |false=>
       cases o1;refine du j <| gW <| eL <| pp (ao 1) <| pp (.list 1 [.emp]) <| ph (ao 1) (od (f:=aV 1 ao) (s:=ae.mk [(ae.emp:ae Int)]) rfl _) <| pp (.bool false) <| cZ <| nB rfl rfl <| wX <| ?_
       exact⟨nofun,rfl,cn,fE,rfl,b4,dq⟩
      |true=>
       cases o1;refine du j <| gW <| eL <| pp (ao 0) <| pp (.list 1 [.emp]) <| ph (ao 1) (od (f:=aV 1 ao) (s:=ae.mk [(ae.emp:ae Int)]) rfl _) <| pp (.bool true) <| cZ <| p4 rfl rfl <| nA <| ?_
       refine gW <| p6 <| eL <| pp (ao 0) <| cZ <| p6 <| ?_
       refine cy (goN n) (fun k aT H'=>k<=n/\∃cn fE,At aT [0,1,4,5,6,7,8,9] [aV 1 ao s,aV 1 ao (.mk [x]),.cu,.list 1 [.emp],ao 0,cn,ao 0,ao (k:Int)]/\e3 H.length 1 (aV 1 ao) cn (uH k) fE/\Own H' [fE])
        (fun _ e1 aT H'=>e1=.exit 4/\∃cn fE,At aT [0,1,4,5,6,7,8] [aV 1 ao s,aV 1 ao (.mk [x]),.cu,.list 1 [.emp],ao 0,cn,ao 0]/\e3 H.length 1 (aV 1 ao) cn (uH n) fE/\Own H' [fE]) (ahy n 0 (by omega)) ⟨cN _,cn,fE,rfl,b4,dq⟩ ?_ ?_
       ·rintro k sa oq e6 ⟨hk,cn,fE,j,jK,Bg⟩ Es
        unfold goN at Es;refine du j <| gW <| eL <| pp (ao (k:Int)) <| pp (aV 1 ao s) <| pp (aV 1 ao (.mk [x])) <| pp (ao 0) <| ph (.dz (aI (ao x)) 0) (p7 (f:=ao) (s:=ae.mk [x]) (n:=0) rfl rfl rfl _) <| pp (ao x) <| ph (.dz (aI (ao (n:Int))) 0) (p7 rfl rfl Ce _) <| pp (ao (n:Int)) <| pp (.bool (decide ((k:Int)<(n:Int)))) <| cZ <| ?_
        rcases nD Es with⟨cT,Es⟩|⟨cT,Es⟩
        ·have JX:=of_decide_eq_true cT
         cases Es;refine p4 rfl cT <| nA <| gW <| p6 <| lR <| pp cn <| ph .emp (KN rfl) <| pp (.list 1 [.emp]) <| pp (ao 0) <| ph (.dz (aI (aV 1 ao (ae.emp:ae Int))) 0) (p7 (f:=aV 1 ao) (s:=ae.mk [(ae.emp:ae Int)]) (n:=0) rfl rfl rfl _) <| pp .emp <| pp .emp <| pp (ao (k:Int)) <| ph (aV 1 ao (.mk [(k:Int)])) (F5 (vs:=[ao (k:Int)]) rfl rfl rfl (by simp) (by simp[cj,bx]) (by simp[bM,dY])) <| ?_
         refine F6 (f:=ao) (s:=ae.emp) (y:=ae.mk [(k:Int)]) (ms:=[]::[fE]) rfl 0 (aze _) (Bg.ins 0) rfl .emp rfl rfl (by simp[bx]) (by simp[bM,dY]) fun DR v4 m4 aB9 azk xr=> ?_;refine acH (ms:=m4::[fE]) rfl xr (jV.row 0 rfl azk (by simp[bx])) rfl (lU _ _ _) ⟨by rw[F3];rfl,by rw[F3];rfl⟩ fun ag2 aCa Ir=> ?_;refine F6 (f:=aV 1 ao) (s:=uH k) (y:=ae.mk [zo k]) rfl 1 (azd (by omega)) Ir rfl jK rfl rfl (fun _=>lU _ _ _) (fun x=>by rw[F3];cases x<;>rfl) fun af0 v6 m6 aCb azl T6=> ?_;refine pp v6 <| cZ <| lR <| pp (ao (k:Int)) <| ph (ao ((k+1:Nat):Int)) ?_ <| pp (ao ((k+1:Nat):Int)) <| cZ <| ?_
         ·show some (ao (aL ((k:Int)+1)),_,_)=_
          rw[show aL ((k:Int)+1)=((k+1:Nat):Int)from by unfold aL;rw[wrap_small]<;>omega]
         ·exact⟨rfl,by omega,v6,m6,rfl,azl,T6.drop 0⟩
        ·cases Es
         have:k=n:=by have:=of_decide_eq_false cT;omega
         subst this;refine nB rfl cT <| wX <| ?_
         exact⟨nofun,rfl,cn,fE,rfl,jK,Bg⟩
       ·rintro bs sa oq ⟨rfl,cn,fE,j,b4,dq⟩
        refine du j <| lR <| pp (ao 0) <| pp (ao 1) <| pp (ao 1) <| cZ <| ?_
        exact⟨rfl,cn,fE,rfl,b4,dq⟩
     ·rintro bs iZ H2 ⟨rfl,cn,fE,j,b4,dq⟩
      refine du j <| lR <| pp cn <| pp cn <| cZ <| lR <| pp (ao 0) <| pp (ao 1) <| pp (ao 1) <| cZ <| ?_
      exact⟨rfl,cn,fE,rfl,nofun,fun _=>⟨b4,dq⟩⟩
   ·rintro bs cM H1 ⟨rfl,cn,fE,j,b4,dq⟩
    refine du j <| eL <| pp cn <| pp cn <| cZ <| sT <| ?_
    exact⟨.inr rfl,KS (.tmp rfl .nil) rfl dq (jV.row 0 rfl b4 (fun _=>lU _ _ _))⟩
  ·cases h
 ·cases h
end
end Go.Abs.bA
