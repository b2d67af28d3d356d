/- Texts of this claim, joined and written short by a program. -/
import Derived.Test.YtonmjjfciemcoaaGreatDoorP31
import Derived.Test.YtonmjjfciemcoaaGreatDoorP00
set_option linter.unusedVariables false
set_option linter.unusedSimpArgs false
set_option linter.unusedSectionVars false
namespace Go.Abs.hk
open Go Go.Abs Go.Abs.auR
noncomputable section
def au0 (v:Int):Bool:=!(decide (v< -1000000)||decide (v>1000000))
theorem aLk (l:ak Int)(h:cm l.l):axo l=some (l.l.all au0&&decide (l.l.length<=128)):=by
 unfold axo
 rw[xn (f:=axn l) l.l h (fun v=>!au0 v) (fun k x hx=>by
  simp only[axn,k8 (kl hx),cond_true,fP,hx,cg];have:(!au0 x)=(decide (x< -1000000)||decide (x>1000000)):=by unfold au0;simp
  rw[this];cases decide (x< -1000000)<;>cases decide (x>1000000)<;>rfl) (by simp only[axn,mw,cond_false])]
 have:(l.l.any fun v=>!au0 v)=!(l.l.all au0):=by rw[List.not_all_eq_any_not]
 rw[this];cases l.l.all au0 with
 |false=>rfl
 |true=>
  have e:decide (l.len<=128)=decide (l.l.length<=128):=by rw[zU,decide_eq_true_iff,decide_eq_true_iff,gL];omega
  simp only[cg,hZ,cond_false,fI,e]
theorem aLl (a:ak Int)(d:ak Change)(ao:a.l.length<=100000)(hd:cm d.l):∃z,ax9 a d=some z/\z.l=av6 a.l d.l:=by
 unfold ax9;obtain⟨s,e,el⟩:=YP (BN:=8) (x:=(ak.emp:ak Int)) (y:=a) (by omega) (by show 0+a.l.length<=_;omega);have el:s.l=a.l:=by rw[el];rfl
 rw[e];simp only[cg]
 have key:∀(r:List Change) (k:Nat) (s:ak Int),d.l.drop k=r->s.l.length=a.l.length->∃z,c0 (awZ d) ((k:Int),s)=some z/\z.l=av6 s.l r:=by
  intro r
  induction r with
  |nil=>
   intro k s hr hs;have cW:d.l.length<=k:=vp.1 hr;refine⟨s,?_,rfl⟩;rw[k4];simp only[awZ,aEs cW,cond_false]
  |cons c r ih=>
   intro k s hr hs
   have aX:k<d.l.length:=by
    rcases fX k d.l.length with q|q
    ·exact q
    ·rw[B6 q]at hr;cases hr
   have azi:d.l[k]? =some c:=by
    have:=congrArg (·[0]?) hr;simpa using this
   have gu:d.l.drop (k+1)=r:=by
    have:=congrArg List.tail hr;simpa using this
   have hn:∃al,awZ d ((k:Int),s)=some (.next (((k+1:Nat):Int),al))/\al.l=avp s.l c:=by
    unfold cm at hd;simp only[awZ,k8 aX,cond_true,fP,azi,cg];rw[fN (by omega)];unfold avp;rw[show decide (c.Cell<(s.l.length:Int))=decide (c.Cell<s.len)from rfl];cases hc:decide (c.Cell>=0)&&decide (c.Cell<s.len)with
    |false=>exact⟨s,rfl,rfl⟩
    |true=>
     have ao4:=of_decide_eq_true (ayu.1 hc).1;have GX:=of_decide_eq_true (ayu.1 hc).2;rw[gL]at GX
     have:bQ s.l c.Cell=some (s.l.getD c.Cell.toNat 0):=by
      rw[JO (by omega),hX (by omega),tY,hX (by omega)];rfl
     simp only[cond_true,this,cg];exact⟨_,rfl,rfl⟩
   obtain⟨al,h1,h2⟩:=hn;obtain⟨z,af,e2⟩:=ih (k+1) al gu (by rw[h2,azh,hs]);exact⟨z,by rw[k4,h1];exact af,by rw[e2,h2];rfl⟩
 obtain⟨z,af,e2⟩:=key d.l 0 s rfl (by rw[el]);rw[show((0:Nat):Int)=0 from rfl]at af;rw[af];exact⟨z,rfl,by rw[e2,el]⟩
theorem aEN (c:Constraint)(st:ak Int):H3 c st=H3 c (.mk st.l):=by cases st<;>rfl
theorem aLm{c:Constraint}{a b:ak Int}(h:a.l=b.l):H3 c a=H3 c b:=by rw[aEN c a,aEN c b,h]
theorem aLn{m:Model}(hb:Fp m=true)(st:ak Int)(wN:st.l.length<=100000):∃v,axu m st=some v/\ax4 m st=some v/\(v=true->vT m=true/\(∃x y,D0 m.bC m.Tables true=some x/\avW m=some y/\x.l=hQ m.bC.l m.Tables.l true/\y.l=x.l/\st.l.length=x.l.length)/\∀c∈m.fu.l,H3 c st=some true):=by
 have b:=ans hb;obtain⟨v1,v2⟩:=aLj hb;have rh:∀t∈m.Tables.l,cm t.bP.l:=fun t ht=>by have:=b.aa t ht;unfold cm;omega
 have fJ:cm m.bC.l:=by have:=b.PO;unfold cm;omega
 have oT:cm m.Tables.l:=by have:=b.tables;unfold cm;omega
 obtain⟨x,af,e2⟩:=YR m.bC m.Tables true fJ oT rh;obtain⟨y,bT,cF⟩:=aD2 m.bC m.Tables true fJ oT rh fun t ht=>aEM _ (by have:=b.aa t ht;omega);unfold axu ayH ax4 ayY avW;rw[v1,v2];cases ad:vT m with
 |false=>exact⟨false,rfl,rfl,fun h=>by cases h⟩
 |true=>
  have aLo:mu m.bC.l m.Tables.l=true:=by
   cases h:mu m.bC.l m.Tables.l with
   |true=>rfl
   |false=>unfold vT at ad;rw[h]at ad;simp at ad
  rw[aLo]at e2 cF;simp only[cond_true]at e2 cF;unfold ayG avz;simp only[cg,cond_true,af,bT,gL,e2,cF];cases hl:(((st.l.length:Nat):Int)==((hQ m.bC.l m.Tables.l true).length:Int))with
  |false=>exact⟨false,rfl,rfl,fun h=>by cases h⟩
  |true=>
   have eA:∀c∈m.fu.l,∃v,H3 c st=some v:=fun c hc=>aw9 c st wN ((av7 b).anr c hc)
   have h1:ayI m.fu (fun z0=>axt st z0)=some (m.fu.l.any fun c=>!((H3 c st).getD false)):=
    E5 m.fu (by have:=b.cons;omega) fun c hc=>by
     obtain⟨v,ad⟩:=eA c hc;simp only[axt,ad,cg,sO]
   have h2:ax3 m st=some (!(m.fu.l.any fun c=>!((H3 c st).getD false))):=by
    unfold ax3
    rw[xn (f:=ax2 m st) m.fu.l (by have:=b.cons;omega) (fun c=>!((H3 c st).getD false)) (fun k c hc=>by
     obtain⟨v,ad⟩:=eA c (hz hc);simp only[ax2,k8 (kl hc),cond_true,fP,hc,cg,avZ,aEK c st wN ((av7 b).anr c (hz hc)),ad,sO];cases v<;>rfl) (by simp only[ax2,mw,cond_false])]
    cases m.fu.l.any fun c=>!((H3 c st).getD false)<;>rfl
   simp only[cond_true,h1,h2,cg];refine⟨_,rfl,rfl,fun h=>⟨by trivial,⟨x,y,rfl,rfl,e2,by rw[cF,e2],by rw[e2];have:=eq_of_beq hl;omega⟩,fun c hc=> ?_⟩⟩;obtain⟨v,ad⟩:=eA c hc;rw[nV,QR]at h;have:=h c hc;rw[ad]at this⊢;simpa using this
theorem aLp{m:Model}(hb:Fp m=true){x:eK}(hd:cm x.Delta.l)(fj:cm x.ia.l)(st:ak Int)(wN:st.l.length<=100000)(S:Row->Int)(aC:∀r∈x.ia.l,H3 (Constraint.mk 0 0 r 0 0) st=some (decide (S r<=r.q3))/\awY r st=some (S r)):
  aya m x st=avP m x st:=by
 have b:=ans hb
 have bF:c0 (avi x st) 0=some (kO (fun k (_:Unit) r=>bif decide (S r<=r.q3)then Sum.inl ()else .inr (.ret (k:Int))) (fun _=>.go ()) 0 () x.ia.l):=
  YG (f:=avi x st) (fun k _=>(k:Int)) _ _ (fun _ _=>True) x.ia.l (fun k _ r hr _=>by
   refine⟨?_,fun _ _=>trivial⟩;have hw:bJ ((k:Int)+1)=((k+1:Nat):Int):=fN (by have:=kl hr;unfold cm at fj;omega);simp only[avi,k8 (kl hr),cond_true,fP,hr,cg,(aC r (hz hr)).1,hw];cases decide (S r<=r.q3)<;>rfl) (fun _ _=>by simp only[avi,mw,cond_false]) trivial
 have iB:c0 (aw0 x st) 0=some (kO (fun k (_:Unit) r=>bif decide (S r<=r.q3)then Sum.inl ()else .inr (.ret (k:Int))) (fun _=>.go ()) 0 () x.ia.l):=
  YG (f:=aw0 x st) (fun k _=>(k:Int)) _ _ (fun _ _=>True) x.ia.l (fun k _ r hr _=>by
   refine⟨?_,fun _ _=>trivial⟩;have hw:bJ ((k:Int)+1)=((k+1:Nat):Int):=fN (by have:=kl hr;unfold cm at fj;omega);simp only[aw0,k8 (kl hr),cond_true,fP,hr,cg,(aC r (hz hr)).2,hw]
   have:decide (S r>r.q3)=!decide (S r<=r.q3):=by
    rw[<-decide_not,decide_eq_decide];omega
   rw[this];cases decide (S r<=r.q3)<;>rfl) (fun _ _=>by simp only[aw0,mw,cond_false]) trivial
 obtain⟨z,af,e2⟩:=aEt st x.Delta wN hd;obtain⟨y,bT,cF⟩:=aLl st x.Delta wN hd;have aEO:z.l.length<=100000:=by rw[e2,ayq];exact wN
 have aLq:y.l.length<=100000:=by rw[cF,ayq];exact wN
 have vm:c0 (avj m z) 0=some (kO (fun k (_:Unit) c=>bif (H3 c z).getD false then Sum.inl ()else .inr (.ret (k:Int))) (fun _=>.go ()) 0 () m.fu.l):=
  YG (f:=avj m z) (fun k _=>(k:Int)) _ _ (fun _ _=>True) m.fu.l (fun k _ c hc _=>by
   refine⟨?_,fun _ _=>trivial⟩;have hw:bJ ((k:Int)+1)=((k+1:Nat):Int):=fN (by have:=kl hc;have:=b.cons;omega);obtain⟨v,ad⟩:=aw9 c z aEO ((av7 b).anr c (hz hc));simp only[avj,k8 (kl hc),cond_true,fP,hc,cg,ad,sO,hw];cases v<;>rfl) (fun _ _=>by simp only[avj,mw,cond_false]) trivial
 have pb:c0 (aw1 m y) 0=some (kO (fun k (_:Unit) c=>bif (H3 c z).getD false then Sum.inl ()else .inr (.ret (k:Int))) (fun _=>.go ()) 0 () m.fu.l):=
  YG (f:=aw1 m y) (fun k _=>(k:Int)) _ _ (fun _ _=>True) m.fu.l (fun k _ c hc _=>by
   refine⟨?_,fun _ _=>trivial⟩;have hw:bJ ((k:Int)+1)=((k+1:Nat):Int):=fN (by have:=kl hc;have:=b.cons;omega);obtain⟨v,ad⟩:=aw9 c z aEO ((av7 b).anr c (hz hc))
   have To:avZ c y=some v:=by
    unfold avZ;rw[aEK c y aLq ((av7 b).anr c (hz hc)),aLm (a:=y) (b:=z) (by rw[e2,cF]),ad];rfl
   simp only[aw1,k8 (kl hc),cond_true,fP,hc,cg,To,ad,sO,hw];cases v<;>rfl) (fun _ _=>by simp only[aw1,mw,cond_false]) trivial
 unfold aya avP;rw[bF,iB];simp only[cg];cases kO (fun k (_:Unit) r=>bif decide (S r<=r.q3)then Sum.inl ()else .inr (cP.ret (k:Int))) (fun _=>cP.go ()) 0 () x.ia.l with
 |ret k=>rfl
 |go _=>
  simp only[af,bT,cg,vm,pb]
end
end Go.Abs.hk
namespace Go.Abs.hk
open Go Go.Abs Go.Abs.auR
noncomputable section
structure ayt (x:eK):Prop where
 d:cm x.Delta.l
 h:cm x.ia.l
 r:∀r∈x.ia.l,cm r.eT.l
end
end Go.Abs.hk
namespace Go.Abs.hk
open Go Go.Abs Go.Abs.auR
noncomputable section
def qo (v:Int):Prop:=-9223372036854775808<=v/\v<=9223372036854775807
theorem v7{h l:Int}(b:Int)(h1:-4294967296<=h)(h2:h<=4294967296)(bF:-8589934592<=l)(iB:l<=8589934592):axs h l b=some (decide (h*4294967296+l<=b)):=by
 unfold axs;rw[aEL,aEL,show((2:Int)^32)=4294967296 from rfl,iN (n:=h+l/4294967296) (by omega) (by omega)];congr 1;rw[zU];simp only[ko,b8,decide_eq_true_eq,beq_iff_eq];omega
theorem Ei (v:Int)(h:qo v):(v.tdiv 4294967296)*4294967296+v.tmod 4294967296=v/\ -4294967296<v.tmod 4294967296/\v.tmod 4294967296<4294967296/\ -2147483648<=v.tdiv 4294967296/\v.tdiv 4294967296<=2147483648:=by
 obtain⟨h1,h2⟩:=h;have e:=Int.mul_tdiv_add_tmod v 4294967296
 have hb:-4294967296<v.tmod 4294967296/\v.tmod 4294967296<4294967296:=by
  rcases Int.lt_or_le v 0 with q|q
  ·have ad:v=-(-v):=by omega
   rw[ad,Int.neg_tmod,tX (by omega)];omega
  ·rw[tX q];omega
 exact⟨by omega,hb.1,hb.2,by omega,by omega⟩
theorem w6{c:Constraint}{st:ak Int}{i:Nat}{f v:Int}(cW:(c.Kind==0)=true)(ht:c.Row.eT.l=[Term.mk i f])(hi:st.l[i]? =some v)(ad:qo v)(ab:f=1\/f=-1):H3 c st=some (decide (f*v<=c.Row.q3)):=by
 have il:(c.Kind==1)=false:=by have:=eq_of_beq cW;rw[this];rfl
 have aX:=kl hi
 have hin:Ih st.len (Term.mk i f)=true:=by
  unfold Ih;have h1:decide ((i:Int)<0)=false:=by rw[decide_eq_false_iff_not];omega
  have h2:decide ((i:Int)>=st.len)=false:=by rw[decide_eq_false_iff_not,gL];omega
  simp only[h1,h2,FU,ue]
 have hs:HT st (i:Int)=v:=by
  unfold HT;rw[show((i:Int)).toNat=i from rfl,tY,hi];rfl
 have h:=aEJ c st (by rw[ht];show(1:Nat)<_;omega);rw[ht]at h;simp only[xG,List.all_nil,hin,zV,cond_true,qu,List.foldl_nil]at h;unfold avG at h;simp only[hs]at h;obtain⟨e,m1,m2,d1,d2⟩:=Ei v ad;unfold H3;rw[il];simp only[cond_false,h,cg,cW,cond_true];generalize v.tdiv 4294967296=d at*;generalize v.tmod 4294967296=k at*;have hd:bJ d=d:=iN (by omega) (by omega);rw[hd];rcases ab with rfl|rfl
 ·rw[Int.one_mul,Int.one_mul,hd,iN (n:=k) (by omega) (by omega),iN (n:=0+d) (by omega) (by omega),iN (n:=0+k) (by omega) (by omega),v7 _ (by omega) (by omega) (by omega) (by omega)]
  simp only[cg];congr 2;rw[eq_iff_iff];omega
 ·rw[iN (n:=-1*d) (by omega) (by omega),iN (n:=-1*k) (by omega) (by omega),iN (n:=0+-1*d) (by omega) (by omega),iN (n:=0+-1*k) (by omega) (by omega),v7 _ (by omega) (by omega) (by omega) (by omega)]
  simp only[cg];congr 2;rw[eq_iff_iff];omega
theorem xj{x:ak Term}{t:Term}(h:JH x (ak.mk [t])=true):x.l=[t]:=by
 unfold JH Bi at h;cases hl:x.len != (ak.mk [t]).len with
 |true=>rw[hl]at h;cases h
 |false=>
  rw[hl]at h
  have nu:x.l.length=1:=by
   have:=eq_of_beq (by simpa[bne]using hl:(x.len==(ak.mk [t]).len)=true);rw[gL,gL]at this;have e:((ak.mk [t]).l.length:Int)=1:=rfl;omega
  obtain⟨y,hy⟩:=List.length_eq_one_iff.1 nu;rw[k4]at h;have h0:decide ((0:Int)<x.len)=true:=by rw[gL,nu];rfl
  have af:bQ x.l 0=some y:=by rw[hy];rfl
  have e2:bQ (ak.mk [t]).l 0=some t:=rfl;simp only[H7,h0,cond_true,cond_false,af,e2,cg]at h;cases bc:((y.Cell==t.Cell)&&((y.pT==t.pT)&&true))with
  |false=>rw[bc]at h;cases h
  |true=>
   simp only[b8,beq_iff_eq]at bc;rw[hy];cases y;cases t;simp only[Term.mk.injEq,Ce,and_true]at bc⊢;exact bc
theorem Ej{s:List Int}{ts:List Table}{r:Range}(h:r∈hQ s ts true)(bx:∀t∈ts,np s t=true):-9999<=r.kI/\r.kI<=r.kJ/\r.kJ<=9999:=by
 unfold hQ at h;obtain⟨t,ht,hr⟩:=Cd.1 h;cases hb:kP t==true with
 |false=>rw[hb]at hr;cases hr
 |true=>
  rw[hb]at hr;simp only[cond_true]at hr;have:=(List.mem_replicate.1 hr).2;have cW:=bx t ht;unfold np at cW;simp only[b8]at cW;have cW:=cW.2.2.2;subst this;unfold Jx at cW;cases bc:(t.Kind==1)||((t.Kind==4)||(t.Kind==5))with
  |true=>
   rw[bc]at cW;simp only[cond_true,b8,decide_eq_true_eq]at cW;omega
  |false=>
   rw[bc]at cW;simp only[cond_false,b8,beq_iff_eq]at cW;omega
structure Good (m:Model) (st:ak Int):Prop where
 len:st.l.length=(hQ m.bC.l m.Tables.l true).length
 tW:st.l.all au0=true
theorem Ek{m:Model}(ad:vT m=true){st:ak Int}(hl:st.l.length=(hQ m.bC.l m.Tables.l true).length)(hi:∀v∈st.l,qo v)(hc:∀c∈m.fu.l,H3 c st=some true):Good m st:=by
 refine⟨hl,eV.2 fun v ac9=> ?_⟩;unfold vT at ad;simp only[b8]at ad;obtain⟨h1,-,-,h2,-⟩:=ad;obtain⟨-,-,-,bx⟩:=BM h1;obtain⟨i,s3,rfl⟩:=List.getElem_of_mem ac9;have qC:st.l[i]? =some st.l[i]:=hX s3;unfold JL at h2;simp only[b8,decide_eq_true_eq]at h2;obtain⟨-,ar,aQ⟩:=h2;have aQ:=E4.1 aQ;have hr:(hQ m.bC.l m.Tables.l true)[i]? =some (hQ m.bC.l m.Tables.l true)[i]:=hX (by omega);have hm:=Ej (hz hr) bx;generalize (hQ m.bC.l m.Tables.l true)[i]=r at hr hm;have dq:=hX (show 2*i<m.fu.l.length by omega);have fb:=hX (show 2*i+1<m.fu.l.length by omega);have q1:=aQ _ _ dq;have aS:=aQ _ _ fb;have cq:=hc _ (hz dq);have ee:=hc _ (hz fb);generalize m.fu.l[2*i]=a at q1 cq;generalize m.fu.l[2*i+1]=b at aS ee;unfold E9 at q1 aS;rw[show 2*i/2=i by omega]at q1;rw[show(2*i+1)/2=i by omega]at aS;have hd:decide (i<(hQ m.bC.l m.Tables.l true).length)=true:=by rw[decide_eq_true_eq];omega
 simp only[hd,cond_true,b8]at q1 aS;obtain⟨-,-,qP,s1⟩:=q1;obtain⟨-,-,z2,s2⟩:=aS;unfold YU at s1 s2;rw[show 2*i/2=i by omega,hr]at s1;rw[show(2*i+1)/2=i by omega,hr]at s2;rw[show(2*i)%2=0 by omega]at s1;rw[show(2*i+1)%2=1 by omega]at s2;have s1:BR a.Row (i:Int) (-1) (bJ (0-r.kI))=true:=s1;have s2:BR b.Row (i:Int) 1 r.kJ=true:=s2;unfold BR at s1 s2;simp only[b8,beq_iff_eq]at s1 s2;rw[w6 qP (xj s1.2) qC (hi _ ac9) (.inr rfl),s1.1]at cq;rw[w6 z2 (xj s2.2) qC (hi _ ac9) (.inl rfl),s2.1]at ee;simp only[az,decide_eq_true_eq]at cq ee;unfold au0;simp only[nV,B9,decide_eq_false_iff_not];rw[iN (n:=0-r.kI) (by omega) (by omega)]at cq;omega
theorem EW{l:List Int}(h:∀v∈l,qo v)(c:Change):∀v∈avp l c,qo v:=by
 intro v ad;unfold avp at ad;cases hc:decide (c.Cell>=0)&&decide (c.Cell<(l.length:Int))with
 |false=>rw[hc]at ad;exact h v ad
 |true=>
  rw[hc]at ad;simp only[cond_true]at ad;rcases zM ad with q|q
  ·exact h v q
  ·obtain⟨k,-,h1,h2⟩:=Eh (l.getD c.Cell.toNat 0+c.Add)
   rw[q];exact⟨h1,h2⟩
theorem xy:∀(d:List Change) {l:List Int},(∀v∈l,qo v)->∀v∈av6 l d,qo v
 |[],_,h=>h
 |c::r,_,h=>xy r (EW h c)
theorem EX{l:List Int}(h:l.all au0=true):∀v∈l,qo v:=fun v ad=>by
 have:=eV.1 h v ad;unfold au0 at this;simp only[nV,B9,decide_eq_false_iff_not]at this;exact⟨by omega,by omega⟩
theorem EY{m:Model}(hb:Fp m=true){x:eK}(hd:cm x.Delta.l){st z:ak Int}(wN:st.l.length<=100000)(aT:axy st x.Delta=some z)(Am:z.l.length<=100000){r:Ip}(hr:avP m x st=some r)(cW:r.Kind=0):∀c∈m.fu.l,H3 c z=some true:=by
 have b:=ans hb;unfold avP at hr;cases h1:(c0 (avi x st) 0:Option (cP Unit Int))with
 |none=>rw[h1]at hr;cases hr
 |some o=>
  rw[h1]at hr;cases o with
  |ret k=>simp only[cg,az]at hr;rw[<-hr]at cW;cases cW
  |go _=>
   simp only[cg,aT]at hr
   have vm:c0 (avj m z) 0=some (kO (fun k (_:Unit) c=>bif (H3 c z).getD false then Sum.inl ()else .inr (.ret (k:Int))) (fun _=>.go ()) 0 () m.fu.l):=
    YG (f:=avj m z) (fun k _=>(k:Int)) _ _ (fun _ _=>True) m.fu.l (fun k _ c hc _=>by
     refine⟨?_,fun _ _=>trivial⟩;have hw:bJ ((k:Int)+1)=((k+1:Nat):Int):=fN (by have:=kl hc;have:=b.cons;omega);obtain⟨v,ad⟩:=aw9 c z Am ((av7 b).anr c (hz hc));simp only[avj,k8 (kl hc),cond_true,fP,hc,cg,ad,sO,hw];cases v<;>rfl) (fun _ _=>by simp only[avj,mw,cond_false]) trivial
   rw[vm]at hr
   have key:∀(l:List Constraint) (k:Nat),(∀c∈l,(H3 c z).getD false=true)\/∃j:Int,kO (fun k (_:Unit) c=>bif (H3 c z).getD false then Sum.inl ()else .inr (cP.ret (k:Int))) (fun _=>cP.go ()) k () l=.ret j:=by
    intro l
    induction l with
    |nil=>intro k;exact .inl (by simp)
    |cons c r ih=>
     intro k;cases hc:(H3 c z).getD false with
     |false=>exact .inr ⟨k,by simp only[kO,hc,cond_false]⟩
     |true=>
      rcases ih (k+1)with q|⟨j,q⟩
      ·exact .inl fun d hd=>by
        rcases dA.1 hd with rfl|hd
        ·exact hc
        ·exact q d hd
      ·exact .inr ⟨j,by simp only[kO,hc,cond_true];exact q⟩
   rcases key m.fu.l 0 with q|⟨j,q⟩
   ·intro c hc
    obtain⟨v,ad⟩:=aw9 c z Am ((av7 b).anr c hc);have:=q c hc;rw[ad]at this⊢;exact congrArg some this
   ·rw[q]at hr
    simp only[cg,az]at hr;rw[<-hr]at cW;cases cW
theorem step_mk (m:Model)(x:eK)(st:ak Int):pZ m x st=pZ m x (.mk st.l):=by cases st<;>rfl
theorem xB{m:Model}(ad:vT m=true){st:ak Int}(h:Good m st):st.l.length<=100000:=by
 unfold vT at ad;simp only[b8]at ad;obtain⟨-,h2,ar,aQ⟩:=BM ad.1;have:=Pv ar true m.Tables.l aQ;rw[h.len];omega
theorem EZ{m:Model}(hb:Fp m=true)(ad:vT m=true){i:Nat}{a:Action}(hi:m.Actions.l[i]? =some a){st:ak Int}(h:Good m st){r:Row}(hr:r∈a.eK.ia.l):r.eT.l.length<=100/\(∀t∈r.eT.l,avc st t)/\r.eT.l.all (Ih st.len)=true:=by
 have df:r.eT.l.length<=20:=by
  unfold Fp at hb;simp only[b8,eV]at hb;have:=hb.2.2.2.2 a (hz hi);unfold Fo PN at this;simp only[b8,eV,decide_eq_true_eq]at this;exact this.2 r hr
 unfold vT at ad;simp only[b8]at ad;obtain⟨-,-,-,-,-,h5,-⟩:=ad;unfold zA at h5;simp only[b8]at h5;have ao:=E4.1 h5.2 _ _ hi;unfold xp at ao;simp only[b8]at ao;have ao:=ao.2
 have he:JN m.bC.l m.Tables.l (hQ m.bC.l m.Tables.l true).length a.eK=true:=by
  cases bc:m.Operations.l[a.cl.toNat]? with
  |none=>rw[bc]at ao;cases ao
  |some o=>rw[bc]at ao;simp only[b8]at ao;exact ao.2.2.2
 unfold JN at he;simp only[b8,eV]at he;have adQ:=he.2.2.2.2 r hr;unfold BO at adQ;simp only[b8]at adQ;have eA:=E4.1 adQ.1
 have sW:∀(k:Nat) t,r.eT.l[k]? =some t->pg Term.Cell r.eT.l k<t.Cell/\t.Cell<st.l.length/\ -1000<=t.pT/\t.pT<=1000:=fun k t cW=>by
  have:=eA k t cW;unfold E8 tN at this;simp only[b8,nV,decide_eq_false_iff_not,decide_eq_true_eq]at this;rw[h.len];omega
 have xC:∀t∈r.eT.l,0<=t.Cell/\t.Cell<st.l.length/\ -1000<=t.pT/\t.pT<=1000:=fun t ht=>by
  obtain⟨k,cW⟩:=vl ht;obtain⟨q1,aS⟩:=sW k t cW;have:=ayg (f:=Term.Cell) (xs:=r.eT.l) (k:=k) fun j y _ hy=>(sW j y hy).1;exact⟨by omega,aS⟩
 refine⟨by omega,fun t ht=> ?_,eV.2 fun t ht=> ?_⟩
 ·obtain⟨q1,aS,b1,cL⟩:=xC t ht
  have hn:=eV.1 h.tW (HT st t.Cell) (by
   unfold HT;rw[tY,hX (show t.Cell.toNat<st.l.length by omega)];exact Kp _)
  unfold au0 at hn;simp only[nV,B9,decide_eq_false_iff_not]at hn;exact⟨by omega,by omega,by omega,by omega⟩
 ·obtain⟨q1,aS,-,-⟩:=xC t ht
  unfold Ih;have h1:decide (t.Cell<0)=false:=by rw[decide_eq_false_iff_not];omega
  have h2:decide (t.Cell>=st.len)=false:=by rw[decide_eq_false_iff_not,gL];omega
  rw[h1,h2];rfl
theorem E0{m:Model}(hb:Fp m=true)(ad:vT m=true){i:Nat}{a:Action}(hi:m.Actions.l[i]? =some a){st aF:ak Int}(h:Good m st)(hs:aF.l=st.l):∃z SF r,qq m (i:Int) st=some (z,r)/\pZ m a.eK aF=some (SF,r)/\SF.l=z.l/\Good m z:=by
 have b:=ans hb;have wN:=xB ad h;have ao:=(av7 b).act a (hz hi);obtain⟨r,hr⟩:=aKN (av7 b) ao st wN
 have bc:=aLp hb ao.1 ao.2.1 st wN (fun r=>auG st r.eT.l) fun r gu=>by
  obtain⟨h0,h1,h2⟩:=EZ hb ad hi h gu;exact⟨aK5 r st h0 h1 h2,aK4 r st h0 h1 h2⟩
 have cd:pZ m a.eK aF=pZ m a.eK st:=by rw[step_mk,hs,<-step_mk]
 rw[cd];unfold qq pZ;simp only[fP,hi,cg,hr,bc];cases cW:r.Kind != 0 with
 |true=>
  obtain⟨z,e,el⟩:=aKL (BN:=8) (x:=st) (by omega) wN;obtain⟨y,e',aKK⟩:=YP (BN:=8) (x:=(ak.emp:ak Int)) (y:=st) (by omega) (by show 0+st.l.length<=_;omega);have aKK:y.l=st.l:=by rw[aKK];rfl
  exact⟨z,y,r,by simp only[cond_true,e,cg],by simp only[cond_true,e',cg],by rw[el,aKK],⟨by rw[el];exact h.len,by rw[el];exact h.tW⟩⟩
 |false=>
  obtain⟨z,e,el⟩:=aEt st a.eK.Delta wN ao.1;obtain⟨y,e',aKK⟩:=aLl st a.eK.Delta wN ao.1;have Am:z.l.length=st.l.length:=by rw[el,ayq]
  have AG:r.Kind=0:=by simpa[bne]using cW
  exact⟨z,y,r,by simp only[cond_false,e,cg],by simp only[cond_false,e',cg],by rw[el,aKK],
   Ek ad (by rw[Am,h.len]) (by rw[el];exact xy _ (EX h.tW)) (EY hb ao.1 wN e (by omega) hr AG)⟩
theorem loops{m:Model}(hb:Fp m=true)(ad:vT m=true)(gV:ak Int)(hA:gV.l.length<=1000)(hin:∀x∈gV.l,0<=x/\x<m.Actions.l.length):
  ∀(r:List Int) (k:Nat) (st aF:ak Int) (q q':ak Ip),gV.l.drop k=r->Good m st->aF.l=st.l->q'.l=q.l->q.l.length=k->k<=gV.l.length->
   ∃z SF p CK,c0 (oX m gV) (st,(k:Int),q)=some (z,p)/\c0 (qp m gV) (aF,(k:Int),q')=some (SF,CK)/\SF.l=z.l/\CK.l=p.l/\p.l.length=gV.l.length/\Good m z:=by
 intro r
 induction r with
 |nil=>
  intro k st aF q q' hr bj hs bc hl cW;have hk':gV.l.length<=k:=vp.1 hr;have:k=gV.l.length:=by omega
  subst this;refine⟨st,aF,q,q',?_,?_,hs,bc,hl,bj⟩
  ·rw[k4];simp only[oX,mw,cond_false]
  ·rw[k4];simp only[qp,mw,cond_false]
 |cons c r ih=>
  intro k st aF q q' hr bj hs bc hl cW
  have aX:k<gV.l.length:=by
   rcases fX k gV.l.length with w|w
   ·exact w
   ·rw[B6 w]at hr;cases hr
  have azi:gV.l[k]? =some c:=by
   have:=congrArg (·[0]?) hr;simpa using this
  have gu:gV.l.drop (k+1)=r:=by
   have:=congrArg List.tail hr;simpa using this
  obtain⟨h0,h1⟩:=hin c (hz azi);obtain⟨i,rfl⟩:=Kg h0;have hi:m.Actions.l[i]? =some m.Actions.l[i]:=hX (by omega);obtain⟨z,SF,x,af,e2,bT,cF⟩:=E0 hb ad hi bj hs;obtain⟨p,f1,f2⟩:=YP (BN:=16) (x:=q) (y:=ak.mk [x]) (by omega) (by show q.l.length+1<=_;omega);obtain⟨CK,g1,g2⟩:=YP (BN:=16) (x:=q') (y:=ak.mk [x]) (by omega) (by show q'.l.length+1<=_;rw[bc];omega);have hw:bJ ((k:Int)+1)=((k+1:Nat):Int):=fN (by omega)
  have bF:oX m gV (st,(k:Int),q)=some (.next (z,((k+1:Nat):Int),p)):=by
   simp only[oX,k8 aX,cond_true,fP,azi,cg,af,f1,hw]
  have iB:qp m gV (aF,(k:Int),q')=some (.next (SF,((k+1:Nat):Int),CK)):=by
   simp only[qp,k8 aX,cond_true,fP,azi,cg,hi,e2,g1,hw]
  rw[k4,bF,k4 (f:=qp m gV),iB];exact ih (k+1) z SF p CK gu cF bT (by rw[f2,g2,bc]) (by rw[f2,gM,hl];rfl) (by omega)
def sk (n:Int)(x:Int):Bool:=decide (x<0)||decide (x>=n)
theorem zr{m:Model}(hb:Fp m=true){st:ak Int}(wN:st.l.length<=100000)(hn:st.l.all au0=true)(gV:ak Int)(hA:gV.l.length<=1000):
  ∃z SF p CK e,rn m st gV=some (z,p,e)/\rq m st gV=some (SF,CK,e)/\SF.l=z.l/\CK.l=p.l/\(e=0->p.l.length=gV.l.length)/\z.l.length<=100000/\p.l.length<=1000:=by
 obtain⟨v,af,e2,bT⟩:=aLn hb st wN;unfold rn rq;rw[af,e2];cases v with
 |false=>exact⟨_,_,_,_,_,rfl,rfl,rfl,rfl,(fun h=>by cases h),cx _,cx _⟩
 |true=>
  obtain⟨ad,⟨x,y,-,-,hx,-,hl⟩,-⟩:=bT rfl;have bj:Good m st:=⟨by rw[hl,hx],hn⟩;have dq:DW gV (fun z0=>tV m z0)=some (gV.l.any (sk m.Actions.len)):=E5 gV (by omega) fun x _=>rfl
  have fb:c0 (rp m gV) 0=some (bif gV.l.any (sk m.Actions.len)then .ret ()else .go ()):=
   xn (f:=rp m gV) gV.l (by omega) _ (fun k x hx=>by
    simp only[rp,k8 (kl hx),cond_true,fP,hx,cg];unfold sk;cases decide (x<0)<;>cases decide (x>=m.Actions.len)<;>rfl) (by simp only[rp,mw,cond_false])
  simp only[cg,cond_true,dq,fb];cases ho:gV.l.any (sk m.Actions.len)with
  |true=>exact⟨_,_,_,_,_,rfl,rfl,rfl,rfl,(fun h=>by cases h),cx _,cx _⟩
  |false=>
   simp only[cond_false]
   have hin:∀x∈gV.l,0<=x/\x<m.Actions.l.length:=fun x hx=>by
    have:=QR.1 ho x hx;unfold sk at this;simp only[ko,decide_eq_true_eq,not_or]at this;rw[gL]at this;omega
   obtain⟨s,f1,f2⟩:=aKL (BN:=8) (x:=st) (by omega) wN;obtain⟨al,g1,g2⟩:=YP (BN:=8) (x:=(ak.emp:ak Int)) (y:=st) (by omega) (by show 0+st.l.length<=_;omega);have g2:al.l=st.l:=by rw[g2];rfl
   obtain⟨z,SF,p,CK,bF,iB,q1,aS,b1,cL⟩:=loops hb ad gV hA hin gV.l 0 s al ak.nil ak.emp rfl ⟨by rw[f2];exact bj.len,by rw[f2];exact hn⟩ (by rw[g2,f2]) rfl rfl (by omega);have bF:c0 (oX m gV) (s,0,ak.nil)=some (z,p):=bF;have iB:c0 (qp m gV) (al,0,ak.emp)=some (SF,CK):=iB;refine⟨z,SF,p,CK,0,?_,?_,q1,aS,fun _=>b1,xB ad cL,by omega⟩
   ·rw[f1]
    simp only[cg];rw[k4]at bF;unfold oX at bF;cases hd:decide (0<gV.len)with
    |false=>
     simp only[hd,cond_false,az,bt]at bF⊢;exact⟨bF.1,bF.2,trivial⟩
    |true=>
     simp only[hd,cond_true]at bF⊢;cases h1:bQ gV.l 0 with
     |none=>rw[h1]at bF;cases bF
     |some a=>
      rw[h1]at bF;simp only[cg]at bF⊢;cases h2:qq m a s with
      |none=>rw[h2]at bF;cases bF
      |some b=>
       rw[h2]at bF;simp only[cg]at bF⊢;cases ar:lG 16 (ak.nil:ak Ip) (ak.mk [b.2])with
       |none=>rw[ar]at bF;cases bF
       |some d=>
        rw[ar]at bF;simp only[cg]at bF⊢;have bF:c0 (oX m gV) (b.1,bJ (0+1),d)=some (z,p):=bF;rw[bF];rfl
   ·simp only[cg,g1,iB]
theorem Fx{m:Model}(hb:Fp m=true){st:ak Int}(wN:st.l.length<=100000)(hn:st.l.all au0=true)(a:Int):
  ∃z SF p e,sy m a st=some (z,p,e)/\sG m a st=some (SF,p,e)/\SF.l=z.l/\z.l.length<=100000:=by
 obtain⟨z,SF,p,CK,e,h1,h2,ar,aQ,h5,ft,-⟩:=zr hb wN hn (ak.mk [a]) (by show 1<=_;omega);unfold sy sG;rw[h1,h2];simp only[cg,aQ];cases he:e != 0 with
 |true=>exact⟨_,_,_,_,rfl,rfl,rfl,cx _⟩
 |false=>
  have:=h5 (by simpa[bne]using he);obtain⟨r,hr⟩:=List.length_eq_one_iff.1 (show p.l.length=1 from this);rw[hr];exact⟨_,_,_,_,rfl,rfl,ar,ft⟩
theorem zL{a b:ak Int}(h:b.l=a.l)(hs:cm a.l):r9 a b=some true:=by
 unfold r9;have:(a.len != b.len)=false:=by rw[gL,gL,h];simp
 rw[this]
 have:=xn (f:=sH a b) a.l hs (fun _=>false) (fun k x hx=>by
  simp only[sH,k8 (kl hx),cond_true,fP,hx,h,cg,bne_self_eq_false,cond_false]) (by simp only[sH,mw,cond_false])
 have ab:a.l.any (fun _=>false)=false:=by simp
 rw[cond_false,this,ab];rfl
theorem Fy{a b:ak Ip}(h:b.l=a.l)(hs:cm a.l):tT a b=some true:=by
 unfold tT;have:(a.len != b.len)=false:=by rw[gL,gL,h];simp
 rw[this]
 have:=xn (f:=tt a b) a.l hs (fun _=>false) (fun k x hx=>by
  simp only[tt,k8 (kl hx),cond_true,fP,hx,h,cg,beq_self_eq_true,zV,cond_false]) (by simp only[tt,mw,cond_false])
 have ab:a.l.any (fun _=>false)=false:=by simp
 rw[cond_false,this,ab];rfl
theorem Fz (m:Model)(st gV:ak Int)(a:Int)(cd:cm st.l)(ao:cm gV.l):tU m st gV a=some true:=by
 unfold tU ayF;rw[anp m,aLk st cd];simp only[cg,cond_true];cases hb:Fp m with
 |false=>rfl
 |true=>
 cases ad:st.l.all au0&&decide (st.l.length<=128)with
 |false=>rfl
 |true=>
 cases hl:decide (gV.len>20)with
 |true=>rfl
 |false=>
 rw[b8,decide_eq_true_eq]at ad
 have nu:gV.l.length<=20:=by
  have:=of_decide_eq_false hl;rw[gL]at this;omega
 obtain⟨z,SF,p,e,h1,h2,ar,aQ⟩:=Fx hb (st:=st) (by omega) ad.1 a;obtain⟨y,n8,q,q',f,g1,g2,g3,g4,-,g5,g6⟩:=zr hb (st:=st) (by omega) ad.1 gV (by omega)
 simp only[cond_true,cond_false,cg,h1,h2,g1,g2,beq_self_eq_true,zV,
  zL ar (show z.l.length<_ by omega),zL g3 (show y.l.length<_ by omega),Fy g4 (show q.l.length<_ by omega)]
end
end Go.Abs.hk
