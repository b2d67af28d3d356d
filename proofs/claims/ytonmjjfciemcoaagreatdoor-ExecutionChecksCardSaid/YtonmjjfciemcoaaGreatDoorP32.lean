/- Texts of this claim, joined and written short by a program. -/
import Derived.Test.YtonmjjfciemcoaaGreatDoorP31
import Derived.Test.YtonmjjfciemcoaaGreatDoorP00
set_option linter.unusedVariables false
set_option linter.unusedSimpArgs false
set_option linter.unusedSectionVars false
namespace Go.Abs.hk
open Go Go.Abs Go.Abs.auR
noncomputable section
def au0 (v:Int):Bool:=!(decide (v< -1000000)||decide (v>1000000))
theorem aLk (l:ak Int)(h:cm l.l):axo l=some (l.l.all au0&&decide (l.l.length<=128)):=by
 unfold axo
 rw[xn (f:=axn l) l.l h (fun v=>!au0 v) (fun k x hx=>by
  simp only[axn,k8 (kl hx),cond_true,fP,hx,cg]
  have:(!au0 x)=(decide (x< -1000000)||decide (x>1000000)):=by unfold au0;simp
  rw[this]
  cases decide (x< -1000000)<;>cases decide (x>1000000)<;>rfl) (by simp only[axn,mw,cond_false])]
 have:(l.l.any fun v=>!au0 v)=!(l.l.all au0):=by rw[aE0]
 rw[this]
 cases l.l.all au0 with
 |false=>rfl
 |true=>
  have e:decide (l.len<=128)=decide (l.l.length<=128):=by rw[zU,decide_eq_true_iff,decide_eq_true_iff,gL];omega
  simp only[cg,hZ,cond_false,fI,e]
theorem aLl (a:ak Int)(d:ak Change)(ao:a.l.length<=100000)(hd:cm d.l):∃z,ax9 a d=some z/\z.l=av6 a.l d.l:=by
 unfold ax9
 obtain⟨s,e,el⟩:=YP (BN:=8) (x:=(ak.emp:ak Int)) (y:=a) (by omega) (by show 0+a.l.length<=_;omega)
 have el:s.l=a.l:=by rw[el];rfl
 rw[e]
 simp only[cg]
 have key:∀(r:List Change) (k:Nat) (s:ak Int),d.l.drop k=r->s.l.length=a.l.length->∃z,c0 (awZ d) ((k:Int),s)=some z/\z.l=av6 s.l r:=by
  intro r
  induction r with
  |nil=>
   intro k s hr hs
   have cW:d.l.length<=k:=List.drop_eq_nil_iff.1 hr
   refine⟨s,?_,rfl⟩
   rw[k4]
   simp only[awZ,aEs cW,cond_false]
  |cons c r ih=>
   intro k s hr hs
   have aX:k<d.l.length:=by
    rcases fX k d.l.length with q|q
    ·exact q
    ·rw[B6 q]at hr;cases hr
   have azi:d.l[k]? =some c:=by
    have:=congrArg (·[0]?) hr
    simpa using this
   have gu:d.l.drop (k+1)=r:=by
    have:=congrArg List.tail hr
    simpa using this
   have hn:∃al,awZ d ((k:Int),s)=some (.next (((k+1:Nat):Int),al))/\al.l=avp s.l c:=by
    unfold cm at hd
    simp only[awZ,k8 aX,cond_true,fP,azi,cg]
    rw[fN (by omega)]
    unfold avp
    rw[show decide (c.Cell<(s.l.length:Int))=decide (c.Cell<s.len)from rfl]
    cases hc:decide (c.Cell>=0)&&decide (c.Cell<s.len)with
    |false=>exact⟨s,rfl,rfl⟩
    |true=>
     have ao4:=of_decide_eq_true (ayu.1 hc).1
     have GX:=of_decide_eq_true (ayu.1 hc).2
     rw[gL]at GX
     have:bQ s.l c.Cell=some (s.l.getD c.Cell.toNat 0):=by
      rw[JO (by omega),hX (by omega),tY,hX (by omega)];rfl
     simp only[cond_true,this,cg]
     exact⟨_,rfl,rfl⟩
   obtain⟨al,h1,h2⟩:=hn
   obtain⟨z,af,e2⟩:=ih (k+1) al gu (by rw[h2,azh,hs])
   exact⟨z,by rw[k4,h1];exact af,by rw[e2,h2];rfl⟩
 obtain⟨z,af,e2⟩:=key d.l 0 s rfl (by rw[el])
 rw[show((0:Nat):Int)=0 from rfl]at af
 rw[af]
 exact⟨z,rfl,by rw[e2,el]⟩
theorem aEN (c:Constraint)(st:ak Int):H3 c st=H3 c (.mk st.l):=by cases st<;>rfl
theorem aLm{c:Constraint}{a b:ak Int}(h:a.l=b.l):H3 c a=H3 c b:=by rw[aEN c a,aEN c b,h]
theorem aLn{m:Model}(hb:Fp m=true)(st:ak Int)(wN:st.l.length<=100000):∃v,axu m st=some v/\ax4 m st=some v/\(v=true->vT m=true/\(∃x y,D0 m.bC m.Tables true=some x/\avW m=some y/\x.l=hQ m.bC.l m.Tables.l true/\y.l=x.l/\st.l.length=x.l.length)/\∀c∈m.fu.l,H3 c st=some true):=by
 have b:=ans hb
 obtain⟨v1,v2⟩:=aLj hb
 have rh:∀t∈m.Tables.l,cm t.bP.l:=fun t ht=>by have:=b.aa t ht;unfold cm;omega
 have fJ:cm m.bC.l:=by have:=b.PO;unfold cm;omega
 have oT:cm m.Tables.l:=by have:=b.tables;unfold cm;omega
 obtain⟨x,af,e2⟩:=YR m.bC m.Tables true fJ oT rh
 obtain⟨y,bT,cF⟩:=aD2 m.bC m.Tables true fJ oT rh fun t ht=>aEM _ (by have:=b.aa t ht;omega)
 unfold axu ayH ax4 ayY avW
 rw[v1,v2]
 cases ad:vT m with
 |false=>exact⟨false,rfl,rfl,fun h=>by cases h⟩
 |true=>
  have aLo:mu m.bC.l m.Tables.l=true:=by
   cases h:mu m.bC.l m.Tables.l with
   |true=>rfl
   |false=>unfold vT at ad;rw[h]at ad;simp at ad
  rw[aLo]at e2 cF
  simp only[cond_true]at e2 cF
  unfold ayG avz
  simp only[cg,cond_true,af,bT,gL,e2,cF]
  cases hl:(((st.l.length:Nat):Int)==((hQ m.bC.l m.Tables.l true).length:Int))with
  |false=>exact⟨false,rfl,rfl,fun h=>by cases h⟩
  |true=>
   have eA:∀c∈m.fu.l,∃v,H3 c st=some v:=fun c hc=>aw9 c st wN ((av7 b).anr c hc)
   have h1:ayI m.fu (fun z0=>axt st z0)=some (m.fu.l.any fun c=>!((H3 c st).getD false)):=
    E5 m.fu (by have:=b.cons;omega) fun c hc=>by
     obtain⟨v,ad⟩:=eA c hc
     simp only[axt,ad,cg,sO]
   have h2:ax3 m st=some (!(m.fu.l.any fun c=>!((H3 c st).getD false))):=by
    unfold ax3
    rw[xn (f:=ax2 m st) m.fu.l (by have:=b.cons;omega) (fun c=>!((H3 c st).getD false)) (fun k c hc=>by
     obtain⟨v,ad⟩:=eA c (hz hc)
     simp only[ax2,k8 (kl hc),cond_true,fP,hc,cg,avZ,aEK c st wN ((av7 b).anr c (hz hc)),ad,sO]
     cases v<;>rfl) (by simp only[ax2,mw,cond_false])]
    cases m.fu.l.any fun c=>!((H3 c st).getD false)<;>rfl
   simp only[cond_true,h1,h2,cg]
   refine⟨_,rfl,rfl,fun h=>⟨by trivial,⟨x,y,rfl,rfl,e2,by rw[cF,e2],by rw[e2];have:=eq_of_beq hl;omega⟩,fun c hc=> ?_⟩⟩
   obtain⟨v,ad⟩:=eA c hc
   rw[nV,QR]at h
   have:=h c hc
   rw[ad]at this⊢
   simpa using this
theorem aLp{m:Model}(hb:Fp m=true){x:eK}(hd:cm x.Delta.l)(fj:cm x.ia.l)(st:ak Int)(wN:st.l.length<=100000)(S:Row->Int)(aC:∀r∈x.ia.l,H3 (Constraint.mk 0 0 r 0 0) st=some (decide (S r<=r.q3))/\awY r st=some (S r)):
  aya m x st=avP m x st:=by
 have b:=ans hb
 have bF:c0 (avi x st) 0=some (kO (fun k (_:Unit) r=>bif decide (S r<=r.q3)then Sum.inl ()else .inr (.ret (k:Int))) (fun _=>.go ()) 0 () x.ia.l):=
  YG (f:=avi x st) (fun k _=>(k:Int)) _ _ (fun _ _=>True) x.ia.l (fun k _ r hr _=>by
   refine⟨?_,fun _ _=>trivial⟩
   have hw:bJ ((k:Int)+1)=((k+1:Nat):Int):=fN (by have:=kl hr;unfold cm at fj;omega)
   simp only[avi,k8 (kl hr),cond_true,fP,hr,cg,(aC r (hz hr)).1,hw]
   cases decide (S r<=r.q3)<;>rfl) (fun _ _=>by simp only[avi,mw,cond_false]) trivial
 have iB:c0 (aw0 x st) 0=some (kO (fun k (_:Unit) r=>bif decide (S r<=r.q3)then Sum.inl ()else .inr (.ret (k:Int))) (fun _=>.go ()) 0 () x.ia.l):=
  YG (f:=aw0 x st) (fun k _=>(k:Int)) _ _ (fun _ _=>True) x.ia.l (fun k _ r hr _=>by
   refine⟨?_,fun _ _=>trivial⟩
   have hw:bJ ((k:Int)+1)=((k+1:Nat):Int):=fN (by have:=kl hr;unfold cm at fj;omega)
   simp only[aw0,k8 (kl hr),cond_true,fP,hr,cg,(aC r (hz hr)).2,hw]
   have:decide (S r>r.q3)=!decide (S r<=r.q3):=by
    rw[<-decide_not,decide_eq_decide];omega
   rw[this]
   cases decide (S r<=r.q3)<;>rfl) (fun _ _=>by simp only[aw0,mw,cond_false]) trivial
 obtain⟨z,af,e2⟩:=aEt st x.Delta wN hd
 obtain⟨y,bT,cF⟩:=aLl st x.Delta wN hd
 have aEO:z.l.length<=100000:=by rw[e2,ayq];exact wN
 have aLq:y.l.length<=100000:=by rw[cF,ayq];exact wN
 have vm:c0 (avj m z) 0=some (kO (fun k (_:Unit) c=>bif (H3 c z).getD false then Sum.inl ()else .inr (.ret (k:Int))) (fun _=>.go ()) 0 () m.fu.l):=
  YG (f:=avj m z) (fun k _=>(k:Int)) _ _ (fun _ _=>True) m.fu.l (fun k _ c hc _=>by
   refine⟨?_,fun _ _=>trivial⟩
   have hw:bJ ((k:Int)+1)=((k+1:Nat):Int):=fN (by have:=kl hc;have:=b.cons;omega)
   obtain⟨v,ad⟩:=aw9 c z aEO ((av7 b).anr c (hz hc))
   simp only[avj,k8 (kl hc),cond_true,fP,hc,cg,ad,sO,hw]
   cases v<;>rfl) (fun _ _=>by simp only[avj,mw,cond_false]) trivial
 have pb:c0 (aw1 m y) 0=some (kO (fun k (_:Unit) c=>bif (H3 c z).getD false then Sum.inl ()else .inr (.ret (k:Int))) (fun _=>.go ()) 0 () m.fu.l):=
  YG (f:=aw1 m y) (fun k _=>(k:Int)) _ _ (fun _ _=>True) m.fu.l (fun k _ c hc _=>by
   refine⟨?_,fun _ _=>trivial⟩
   have hw:bJ ((k:Int)+1)=((k+1:Nat):Int):=fN (by have:=kl hc;have:=b.cons;omega)
   obtain⟨v,ad⟩:=aw9 c z aEO ((av7 b).anr c (hz hc))
   have To:avZ c y=some v:=by
    unfold avZ
    rw[aEK c y aLq ((av7 b).anr c (hz hc)),aLm (a:=y) (b:=z) (by rw[e2,cF]),ad];rfl
   simp only[aw1,k8 (kl hc),cond_true,fP,hc,cg,To,ad,sO,hw]
   cases v<;>rfl) (fun _ _=>by simp only[aw1,mw,cond_false]) trivial
 unfold aya avP
 rw[bF,iB]
 simp only[cg]
 cases kO (fun k (_:Unit) r=>bif decide (S r<=r.q3)then Sum.inl ()else .inr (cP.ret (k:Int))) (fun _=>cP.go ()) 0 () x.ia.l with
 |ret k=>rfl
 |go _=>
  simp only[af,bT,cg,vm,pb]
end
end Go.Abs.hk
namespace Go.Abs.hk
open Go Go.Abs Go.Abs.auR
noncomputable section
def avd (n:Int)(c:Change):Bool:=decide (c.Cell<0)||(decide (c.Cell>=n)||(decide (c.Add< -1000000000)||decide (c.Add>1000000000)))
def auJ (n:Int)(t:Term):Bool:=decide (t.Cell<0)||(decide (t.Cell>=n)||(decide (t.pT< -1000000000)||decide (t.pT>1000000000)))
theorem aEP (a:Int):awm a=some (!(decide (a< -1000000000)||decide (a>1000000000))):=by
 unfold awm
 congr 1
 rw[zU]
 simp only[b8,nV,B9,decide_eq_true_eq,decide_eq_false_iff_not]
 omega
theorem aLr (n:Int)(c:Change):awn n c=some (avd n c):=by
 unfold awn avd
 rw[aEP]
 cases decide (c.Cell<0)<;>cases decide (c.Cell>=n)<;>simp
theorem aLs (n:Int)(t:Term):awo n t=some (auJ n t):=by
 unfold awo auJ
 rw[aEP]
 cases decide (t.Cell<0)<;>cases decide (t.Cell>=n)<;>simp
theorem aLt (n:Int)(r:Row)(h:cm r.eT.l):axv r n=some (!(r.eT.l.any (auJ n))):=by
 unfold axv
 have:ayM r.eT (fun z0=>awo n z0)=some (r.eT.l.any (auJ n)):=E5 r.eT h fun t _=>aLs n t
 rw[this];rfl
def avH (n:Int)(x:eK):Bool:=!(x.Delta.l.any (avd n))&&!(x.ia.l.any fun r=>r.eT.l.any (auJ n))
structure ayt (x:eK):Prop where
 d:cm x.Delta.l
 h:cm x.ia.l
 r:∀r∈x.ia.l,cm r.eT.l
theorem aLu{x:eK}(hx:ayt x)(n:Int):axx x n=some (avH n x):=by
 unfold axx avH
 have h1:ayL x.Delta (fun z0=>awn n z0)=some (x.Delta.l.any (avd n)):=E5 x.Delta hx.d fun c _=>aLr n c
 have h2:NC x.ia (fun z0=>axw n z0)=some (x.ia.l.any fun r=>r.eT.l.any (auJ n)):=E5 x.ia hx.h fun r hr=>by
  unfold axw
  rw[aLt n r (hx.r r hr)]
  simp
 rw[h1,h2]
 cases x.Delta.l.any (avd n)<;>rfl
theorem aLv{m:Model}{x:eK}(hx:ayt x){y:ak Range}(hy:avW m=some y):ax8 m x=some (avH y.len x):=by
 unfold ax8 avH
 rw[hy]
 simp only[cg]
 rw[xn (f:=ax5 x y) x.Delta.l hx.d (avd y.len) (fun k c hc=>by
  simp only[ax5,k8 (kl hc),cond_true,fP,hc,cg]
  rw[show(decide (c.Cell<0)||(decide (c.Cell>=y.len)||(decide (c.Add< -1000000000)||decide (c.Add>1000000000))))=avd y.len c from rfl]
  cases avd y.len c<;>rfl) (by simp only[ax5,mw,cond_false])]
 simp only[cg]
 rw[xn (f:=ax7 x y) x.ia.l hx.h (fun r=>r.eT.l.any (auJ y.len)) (fun k r hr=>by
  simp only[ax7,k8 (kl hr),cond_true]
  rw[xn (f:=ax6 x y (k:Int)) r.eT.l (hx.r r (hz hr)) (auJ y.len) (fun j t ht=>by
   simp only[ax6,fP,hr,cg,k8 (kl ht),cond_true,ht]
   rw[show(decide (t.Cell<0)||(decide (t.Cell>=y.len)||(decide (t.pT< -1000000000)||decide (t.pT>1000000000))))=auJ y.len t from rfl]
   cases auJ y.len t<;>rfl) (by simp only[ax6,fP,hr,cg,mw,cond_false])]
  simp only[cg]
  cases r.eT.l.any (auJ y.len)<;>rfl) (by simp only[ax7,mw,cond_false])]
 cases x.Delta.l.any (avd y.len)<;>cases x.ia.l.any (fun r=>r.eT.l.any (auJ y.len))<;>rfl
def avq (r:Row):Bool:=!(decide (r.eT.len>20)||(decide (r.q3< -1000000000)||decide (r.q3>1000000000)))
def axa (x:eK):Bool:=!(decide (x.Delta.len>20)||decide (x.ia.len>8))&&x.ia.l.all avq
theorem aLw (x:eK):axm x=some (axa x):=by
 unfold axm axa
 cases hc:decide (x.Delta.len>20)||decide (x.ia.len>8)with
 |true=>rfl
 |false=>
  have fj:x.ia.l.length<=8:=by
   have:=of_decide_eq_false (B9.1 hc).2
   rw[gL]at this;omega
  simp only[cond_false]
  rw[xn (f:=axl x) x.ia.l (by omega) (fun r=>!avq r) (fun k r hr=>by
   simp only[axl,k8 (kl hr),cond_true,fP,hr,cg]
   have:(!avq r)=(decide (r.eT.len>20)||(decide (r.q3< -1000000000)||decide (r.q3>1000000000))):=by unfold avq;simp
   rw[this]
   cases decide (r.eT.len>20)<;>cases decide (r.q3< -1000000000)<;>cases decide (r.q3>1000000000)<;>rfl) (by simp only[axl,mw,cond_false])]
  have:(x.ia.l.any fun r=>!avq r)=!(x.ia.l.all avq):=by rw[aE0]
  rw[this]
  cases x.ia.l.all avq<;>rfl
theorem aLx{x:eK}(h:axa x=true):ayt x/\∀r∈x.ia.l,r.eT.l.length<=20:=by
 unfold axa at h
 simp only[b8,nV,B9,decide_eq_false_iff_not]at h
 simp only[gL]at h
 have hr:∀r∈x.ia.l,r.eT.l.length<=20:=fun r hr=>by
  have:=eV.1 h.2 r hr
  unfold avq at this
  simp only[nV,B9,decide_eq_false_iff_not]at this
  simp only[gL]at this
  omega
 exact⟨⟨by unfold cm;omega,by unfold cm;omega,fun r h=>by have:=hr r h;unfold cm;omega⟩,hr⟩
theorem aLy{st:ak Int}(ad:st.l.all au0=true){x:eK}(h:avH st.len x=true){r:Row}(hr:r∈x.ia.l):(∀t∈r.eT.l,avc st t)/\r.eT.l.all (Ih st.len)=true:=by
 unfold avH at h
 simp only[b8,nV,QR]at h
 have h2:∀t∈r.eT.l,auJ st.len t=false:=fun t ht=>by
  have:=h.2 r hr
  rw[Bool.not_eq_true,QR]at this
  simpa using this t ht
 refine⟨fun t ht=> ?_,eV.2 fun t ht=> ?_⟩
 ·have:=h2 t ht
  unfold auJ at this
  simp only[B9,decide_eq_false_iff_not]at this
  simp only[gL]at this
  obtain⟨q1,aS,b1,cL⟩:=this
  have hn:=eV.1 ad (HT st t.Cell) (by
   unfold HT
   rw[tY,hX (show t.Cell.toNat<st.l.length by omega)]
   exact Kp _)
  unfold au0 at hn
  simp only[nV,B9,decide_eq_false_iff_not]at hn
  exact⟨by omega,by omega,by omega,by omega⟩
 ·have:=h2 t ht
  unfold auJ at this
  unfold Ih
  simp only[B9]at this
  rw[this.1,this.2.1];rfl
theorem aLz{m:Model}(hb:Fp m=true){x:eK}(hx:ayt x)(hr:∀r∈x.ia.l,r.eT.l.length<=100){st:ak Int}(wN:st.l.length<=100000)(ad:st.l.all au0=true):∃p,awr m x st=some p/\aw2 m x st=some p:=by
 have b:=ans hb
 obtain⟨v,af,e2,bT⟩:=aLn hb st wN
 unfold awr aw2
 rw[af,e2]
 cases v with
 |false=>exact⟨_,rfl,rfl⟩
 |true=>
  obtain⟨-,⟨c,y,-,hy,-,hl,hlen⟩,-⟩:=bT rfl
  have MV:y.len=st.len:=by rw[gL,gL,hl,hlen]
  simp only[cg,cond_true,aLu hx,aLv hx hy,MV]
  cases hc:avH st.len x with
  |false=>exact⟨_,rfl,rfl⟩
  |true=>
   obtain⟨r,tF⟩:=aKN (av7 b) ⟨hx.d,hx.h,hx.r⟩ st wN
   have:=aLp hb hx.d hx.h st wN (fun r=>auG st r.eT.l) fun r gu=>by
    obtain⟨h1,h2⟩:=aLy ad hc gu
    exact⟨aK5 r st (hr r gu) h1 h2,aK4 r st (hr r gu) h1 h2⟩
   simp only[cond_true,this,tF,cg]
   exact⟨_,rfl,rfl⟩
theorem aLA (m:Model)(x:eK)(st:ak Int)(cd:cm st.l):ayb m x st=some true:=by
 unfold ayb ayF
 rw[anp m,aLw,aLk st cd]
 simp only[cg,cond_true]
 cases hb:Fp m with
 |false=>rfl
 |true=>
 cases ab:axa x with
 |false=>rfl
 |true=>
 cases ad:st.l.all au0&&decide (st.l.length<=128)with
 |false=>rfl
 |true=>
 rw[b8,decide_eq_true_eq]at ad
 obtain⟨h1,h2⟩:=aLx ab
 obtain⟨p,af,e2⟩:=aLz hb h1 (fun r hr=>by have:=h2 r hr;omega) (st:=st) (by omega) ad.1
 unfold ay1 ay2
 simp only[cond_true,cg,hZ,cond_false,af,e2,beq_self_eq_true,zV]
end
end Go.Abs.hk
