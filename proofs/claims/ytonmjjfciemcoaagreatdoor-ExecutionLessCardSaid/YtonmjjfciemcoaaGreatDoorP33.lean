/- Texts of this claim, joined and written short by a program. -/
import Derived.Test.YtonmjjfciemcoaaGreatDoorP32
import Derived.Shelf.SlSortCmp.NoneTotal
import Derived.Shelf.SlicesG.Cmp
import Derived.Shelf.Small.Bits
import Derived.Ground.SlsfProg
import Derived.Ground.SlgcProg
import Derived.Ground.NamesProg
import Derived.Test.YtonmjjfciemcoaaGreatDoorProg
import Derived.Test.YtonmjjfciemcoaaGreatDoorP08
import Derived.Shelf.Strings.Builder1
import Derived.Test.YtonmjjfciemcoaaGreatDoorP19
import Derived.Shelf.SlSortCmp.WholeK
import Derived.Test.YtonmjjfciemcoaaGreatDoorP09
import Derived.WalkKit
import Derived.Test.YtonmjjfciemcoaaGreatDoorP27
import Derived.Test.YtonmjjfciemcoaaGreatDoorP10
import Derived.Shelf.SlicesE.Reverse
import Derived.Test.YtonmjjfciemcoaaGreatDoorP31
import Derived.Test.YtonmjjfciemcoaaGreatDoorP26
import Derived.Test.YtonmjjfciemcoaaGreatDoorP00
set_option linter.unusedVariables false
set_option linter.unusedSimpArgs false
set_option linter.unusedSectionVars false
namespace Go.Abs.bz
open Go Go.Abs
noncomputable section
structure ia (m:Model) (ay:List Int) (st:Nat->ae Int) (rs:Nat->gU) (ac:Nat->Action):Prop where
 act:∀k,k<ay.length->∃i:Nat,ay[k]? =some (i:Int)/\m.Actions.l[i]? =some (ac k)/\oY m (ac k).b4 (st k)=some (rs k)/\yS m (i:Int) (st k)=some (st (k+1),rs k)
 val:∀k,k<=ay.length->o7 m (st k)
 same:∀k,k<ay.length->(rs k).Kind≠0->(st (k+1)).l=(st k).l
 ajh:∀k,k<ay.length->(rs k).Kind=0->(st (k+1)).l=o6 (st k).l (ac k).b4.Delta.l
theorem aji{m:Model}(hb:il m=true)(ad:iS m=true):∀(ay:List Int),(∀a∈ay,0<=a/\a<m.Actions.l.length)->∀s:ae Int,o7 m s->∃st rs ac,st 0=s/\ia m ay st rs ac
 |[],_,s,hs=>⟨fun _=>s,fun _=>⟨0,0⟩,fun _=>⟨0,.nil,⟨.nil,.nil,.nil⟩⟩,rfl,⟨fun k hk=>absurd hk (CI _),fun _ _=>hs,fun k hk=>absurd hk (CI _),fun k hk=>absurd hk (CI _)⟩⟩
 |a::ay,ha,s,hs=>by
  obtain⟨h0,h1⟩:=ha a (by simp);obtain⟨i,rfl⟩:=zw h0;have hi:i<m.Actions.l.length:=by omega
  obtain⟨z,r,af,ak,bK,cL,dF⟩:=Uw hb ad (eg hi) hs;obtain⟨st,rs,ac,fh,q⟩:=aji hb ad ay (fun x hx=>ha x (by simp[hx])) z bK;refine⟨fun k=>match k with|0=>s|k+1=>st k,fun k=>match k with|0=>r|k+1=>rs k,fun k=>match k with|0=>m.Actions.l[i]|k+1=>ac k,rfl,⟨fun k hk=> ?_,fun k hk=> ?_,fun k hk=> ?_,fun k hk=> ?_⟩⟩
  ·cases k with
   |zero=>exact⟨i,rfl,eg hi,af,by show yS m _ s=some (st 0,r);rw[fh];exact ak⟩
   |succ k=>exact q.act k (by simpa using hk)
  ·cases k with
   |zero=>exact hs
   |succ k=>exact q.val k (by simpa using hk)
  ·cases k with
   |zero=>intro h;show(st 0).l=s.l;rw[fh];exact cL h
   |succ k=>exact q.same k (by simpa using hk)
  ·cases k with
   |zero=>intro h;show(st 0).l=_;rw[fh];exact dF h
   |succ k=>exact q.ajh k (by simpa using hk)
section
variable{m:Model}{ay:ae Int}{st:Nat->ae Int}{rs:Nat->gU}{ac:Nat->Action}
def vM (rs:Nat->gU)(n:Nat)(x:ae gU):Prop:=x.l.length=n/\∀j,j<n->x.l[j]? =some (rs j)
theorem vM.next{n:Nat}{x s:ae gU}(h:vM rs n x)(e:s.l=x.l++[rs n]):vM rs (n+1) s:=
 ⟨by rw[e,eZ,h.1];rfl,fun j hj=>by
  rw[e];by_cases q:j<n
  ·rw[e5 (by rw[h.1];exact q)];exact h.2 j q
  ·have:j=n:=by omega
   subst this;rw[pX (by rw[h.1];exact aH _),h.1,Ft];rfl⟩
theorem aBy (T:ia m ay.l st rs ac)(dG:ay.l.length<=1000):∀(d k:Nat) (acc:ae gU),k+d=ay.l.length->vM rs k acc->∃out,cd (Bs m ay) (st k,(k:Int),acc)=some (st ay.l.length,out)/\vM rs ay.l.length out:=by
 intro d
 induction d with
 |zero=>
  intro k acc hk N0;have hk:k=ay.l.length:=by omega
  subst hk;exact⟨acc,by rw[fp];simp only[Bs,hJ,cond_false],N0⟩
 |succ d ih=>
  intro k acc hk N0;have aT:k<ay.l.length:=by omega
  obtain⟨i,al,a2,a3,a4⟩:=T.act k aT;obtain⟨s,af,ak⟩:=xH (gW:=16) (x:=acc) (y:=ae.mk [rs k]) (by omega) (by rw[N0.1];show k+1<=_;omega);obtain⟨out,f1,f2⟩:=ih (k+1) s (by omega) (N0.next ak);refine⟨out,?_,f2⟩;rw[fp];simp only[Bs,gC aT,cond_true,ef,al,bs,a4,af,eR (show k<4611686018427387904 by omega)];exact f1
theorem aBz (hb:il m=true)(ad:iS m=true){l:ae Int}(hl:o7 m l)(hin:∀a∈ay.l,0<=a/\a<m.Actions.l.length)(dG:ay.l.length<=1000):
  ∃st rs ac out,ia m ay.l st rs ac/\(st 0).l=l.l/\xh m l ay=some (st ay.l.length,out,0)/\vM rs ay.l.length out:=by
 obtain⟨s,s1,s2⟩:=Cv (gW:=8) (x:=l) (by omega) (uO ad hl.lv);obtain⟨st,rs,ac,fh,T⟩:=aji hb ad ay.l hin s (hl.l s2)
 have hc:ui ay (fun z0=>Br m z0)=some false:=by
  have:=rT ay (f:=fun z0=>Br m z0) (p:=fun x=>decide (x<0)||decide (x>=m.Actions.len)) (by omega) fun x _=>rfl;refine this.trans (congrArg some ?_);rw[zD];intro x hx;have:=hin x hx;rw[du];simp only[iI,decide_eq_true_eq,not_or];omega
 cases hn:ay.l.length with
 |zero=>
  have h0:decide ((0:Int)<ay.len)=false:=by rw[du,hn];rfl
  refine⟨st,rs,ac,.nil,T,by rw[fh,s2],?_,rfl,fun j hj=>absurd hj (CI _)⟩;unfold xh;simp only[Cy hb ad hl,bs,cond_true,hc,cond_false,s1,h0];rw[fh]
 |succ n=>
  have h0:decide ((0:Int)<ay.len)=true:=by rw[du,hn];simp
  obtain⟨i,al,a2,a3,a4⟩:=T.act 0 (by omega);obtain⟨p,af,ak⟩:=xH (gW:=16) (x:=(ae.nil:ae gU)) (y:=ae.mk [rs 0]) (by omega) (by show 0+1<=_;omega);have hp:vM rs 1 p:=vM.next (n:=0) (x:=.nil) ⟨rfl,fun j hj=>absurd hj (CI _)⟩ ak
  obtain⟨out,f1,f2⟩:=aBy T dG n 1 p (by omega) hp;have hx:bE ay.l 0=some (i:Int):=(ef ay.l 0).trans al;have f1:cd (Bs m ay) (st 1,aM (0+1),p)=some (st ay.l.length,out):=f1;refine⟨st,rs,ac,out,T,by rw[fh,s2],?_,hn ▸ f2⟩;rw[fh]at a4;unfold xh;simp only[Cy hb ad hl,bs,cond_true,hc,cond_false,s1,h0,hx,a4,af,f1];rw[hn]
def na (rs:Nat->gU)(ac:Nat->Action):Nat->List (ae Change)
 |0=>[]
 |k+1=>if(rs k).Kind=0 then na rs ac k++[(ac k).b4.Delta]else na rs ac k
theorem ajj{k:Nat}(h:(rs k).Kind=0):na rs ac (k+1)=na rs ac k++[(ac k).b4.Delta]:=by
 rw[na,if_pos h]
theorem ajk{k:Nat}(h:(rs k).Kind≠0):na rs ac (k+1)=na rs ac k:=by
 rw[na,if_neg h]
theorem N1:∀k,(na rs ac k).length<=k
 |0=>aH _
 |k+1=>by
  unfold na;have:=N1 k;split
  ·rw[eZ];show _+1<=_;omega
  ·omega
theorem aBA (hb:il m=true){a:Action}(ha:a∈m.Actions.l):a.b4.Delta.l.length<=20:=by
 unfold il at hb;simp only[b6,ev]at hb;obtain⟨-,-,-,-,h⟩:=hb;have:=h a ha;unfold Cj Jk at this;simp only[b6,decide_eq_true_eq]at this;omega
theorem ajl (hb:il m=true)(T:ia m ay.l st rs ac):∀k,k<=ay.l.length->(iH (na rs ac k)).length<=20*k
 |0,_=>aH _
 |k+1,hk=>by
  unfold na;have:=ajl hb T k (by omega);split
  ·obtain⟨i,al,a2,-⟩:=T.act k (by omega)
   have:=aBA hb (gg a2);rw[ajg,eZ];have e:iH [(ac k).b4.Delta]=(ac k).b4.Delta.l:=by simp[iH]
   rw[e];omega
  ·omega
theorem ajm (T:ia m ay.l st rs ac):∀k,k<=ay.l.length->(st k).l=o6 (st 0).l (iH (na rs ac k))
 |0,_=>rfl
 |k+1,hk=>by
  have ih:=ajm T k (by omega);unfold na;split
  ·rename_i h
   rw[T.ajh k (by omega) h,ih,aBr,ajg];have e:iH [(ac k).b4.Delta]=(ac k).b4.Delta.l:=by simp[iH]
   rw[e]
  ·rename_i h
   rw[T.same k (by omega) h,ih]
theorem ajn (hb:il m=true)(ad:iS m=true)(T:ia m ay.l st rs ac){k:Nat}(hk:k<ay.l.length){here:ae Int}(e8:here.l=(st k).l){out:ae gU}(ho:vM rs ay.l.length out):
  ∃(i:Nat) (z:ae Int) (p:Bool),bE ay.l (k:Int)=some (i:Int)/\Ep m (i:Int) here=some (z,rs k,0)/\z.l=(st (k+1)).l/\bE m.Actions.l (i:Int)=some (ac k)/\pO m (ac k).b4 here=some ((rs k).Kind==0)/\
   bE out.l (k:Int)=some (rs k)/\qK m z=some true/\((rs k).Kind≠0->pP z here=some true):=by
 obtain⟨i,al,a2,a3,a4⟩:=T.act k hk;have hV:=T.val k (by omega);have dG:=uO ad hV.lv;obtain⟨z,af,ak⟩:=aBh hb ad a2 hV e8 a4;have ha:=(uN (Ck hb)).act (ac k) (gg a2);have hr:oY m (ac k).b4 here=some (rs k):=by rw[ai3 e8 dG ha.1];exact a3
 have hlen:here.len=(((hU m.bH.l m.Tables.l true).length:Nat):Int):=by rw[du,e8,hV.lv.len]
 have Fa:s6 here.len (ac k).b4=true:=by rw[hlen];exact ai5 (ai4 hb ad a2)
 have hp:=ai6 hb ad ⟨ha.1,ha.2.1,ha.2.2⟩ (hV.l e8) Fa hr;refine⟨i,z,true,by rw[ef];exact al,af,ak,by rw[ef];exact a2,hp,by rw[ef];exact ho.2 k hk,Cy hb ad ((T.val (k+1) (by omega)).l ak),fun h=> ?_⟩;have bK:z.l=here.l:=by rw[ak,T.same k hk h,e8]
 exact Jx bK (by rw[bK,e8];exact dG)
theorem aBB (hb:il m=true)(ad:iS m=true)(T:ia m ay.l st rs ac)(dG:ay.l.length<=1000){end_:ae Int}{code:Int}{out:ae gU}(ho:vM rs ay.l.length out):
  ∀(d k:Nat) (here:ae Int) (done:ae (ae Change)),k+d=ay.l.length->here.l=(st k).l->done.l=na rs ac k->
   ∃Jy Jz,cd (Bt m ay (end_,out,code)) (here,(k:Int),done)=some (.go (Jy,Jz))/\Jy.l=(st ay.l.length).l/\Jz.l=na rs ac ay.l.length:=by
 intro d
 induction d with
 |zero=>
  intro k here done hk e8 hd;have hk:k=ay.l.length:=by omega
  subst hk;exact⟨here,done,by rw[fp];simp only[Bt,hJ,cond_false],e8,hd⟩
 |succ d ih=>
  intro k here done hk e8 hd;have aT:k<ay.l.length:=by omega
  obtain⟨i,z,-,bB,ca,ez,fC,hG,mI,rj,rk⟩:=ajn hb ad T aT e8 ho;have aEX:=N1 (rs:=rs) (ac:=ac) k;by_cases hp:(rs k).Kind=0
  ·obtain⟨s,af,ak⟩:=xH (gW:=24) (x:=done) (y:=ae.mk [(ac k).b4.Delta]) (by omega) (by rw[hd];show _+1<=_;omega)
   obtain⟨h',d',f1,f2,f3⟩:=ih (k+1) z s (by omega) ez (by rw[ak,hd,ajj hp];rfl);refine⟨h',d',?_,f2,f3⟩;rw[fp];have bf:((rs k).Kind==0)=true:=by rw[hp];rfl
   simp only[Bt,gC aT,cond_true,bB,bs,ca,fC,hG,mI,rj,bf,beq_self_eq_true,uW,cond_false,bne_self_eq_false,af,eR (show k<4611686018427387904 by omega)];exact f1
  ·obtain⟨h',d',f1,f2,f3⟩:=ih (k+1) z done (by omega) ez (by rw[hd,ajk hp])
   refine⟨h',d',?_,f2,f3⟩;rw[fp];have bf:((rs k).Kind==0)=false:=by simpa using hp
   simp only[Bt,gC aT,cond_true,bB,bs,ca,fC,hG,mI,rj,rk hp,bf,beq_self_eq_true,uW,cond_false,bne_self_eq_false,hX,eR (show k<4611686018427387904 by omega)];exact f1
theorem ajo (hb:il m=true)(ad:iS m=true)(T:ia m ay.l st rs ac)(dG:ay.l.length<=20){l:ae Int}(hl:(st 0).l=l.l){done s:ae (ae Change)}(hd:done.l=na rs ac ay.l.length)(hs:s.l=done.l.reverse):
  ∃r0 w,yT s=some r0/\rD l r0=some w/\w.l=(st ay.l.length).l:=by
 have h1:=N1 (rs:=rs) (ac:=ac) ay.l.length;have h2:=ajl hb T ay.l.length (aH _);have hp:(iH s.l).Perm (iH (na rs ac ay.l.length)):=by rw[hs,hd];exact aBw _
 obtain⟨r0,af,ak,bK⟩:=aBv s (by rw[hs,hd,JV];omega) (by rw[hp.length_eq];omega);have hV:=T.val 0 (by omega);obtain⟨w,f1,f2⟩:=E7 l r0 (by rw[<-hl];exact uO ad hV.lv) (by unfold b9;omega);refine⟨r0,w,af,f1,?_⟩;rw[f2,ajm T _ (aH _),hl];refine aBq (fun i hi=> ?_) fun k=> ?_
 ·have:=ai1 hV.lv.NW (l.l.getD i 0) (by rw[hl,kj,eg hi];exact vP hi)
  unfold xU at this;exact fi this.1 this.2
 ·rw[ak,aBs,ai7 (hp.map nG)]
end
theorem aBC{x:ae (ae Change)}(h:x.l.length<=1000):∃s,A9 x=some s/\s.l=x.l.reverse:=by
 cases x with
 |nil=>exact⟨_,rfl,rfl⟩
 |emp=>exact⟨_,rfl,rfl⟩
 |mk l=>
  have h:l.length<=1000:=h;exact⟨.mk l.reverse,by unfold A9;exact if_pos (by omega),rfl⟩
theorem aBD (m:Model)(l ay:ae Int)(hl:b9 l.l)(has:b9 ay.l):Mr m l ay=some true:=by
 unfold Mr;simp only[DZ,bs,cond_true,ahH,aiT l hl];cases hb:il m with
 |false=>rfl
 |true=>
 simp only[cond_true];cases ag:(l.l.all qT&&decide (l.l.length<=128))with
 |false=>rfl
 |true=>
 simp only[cond_true];simp only[b6,decide_eq_true_eq]at ag;cases JA:decide (ay.len>20)with
 |true=>rfl
 |false=>
 have JA:ay.l.length<=20:=by rw[du]at JA;have:=of_decide_eq_false JA;omega
 simp only[cond_false];obtain⟨v,oL,-⟩:=NX hb l (by omega);cases v with
 |false=>simp only[oL,bs];rfl
 |true=>
 obtain⟨ad,hV⟩:=ai2 hb (by omega) ag.1 oL;simp only[oL,bs,hX,cond_false];have lZ:∀f:Int->Option Bool,(∀x,f x=some (decide (x<0)||decide (x>=m.Actions.len)))->ui ay f=some (ay.l.any fun x=>decide (x<0)||decide (x>=m.Actions.len)):=fun f ag=>rT ay (by omega) fun x _=>ag x;cases yA:ay.l.any fun x=>decide (x<0)||decide (x>=m.Actions.len)with
 |true=>
  have h1:xh m l ay=some (.nil,.nil,7):=by
   unfold xh;simp only[oL,bs,cond_true,lZ (fun z0=>Br m z0) (fun _=>rfl),yA]
  simp only[h1,bs,lZ (fun z0=>Mp m z0) (fun _=>rfl),yA,cond_true];rfl
 |false=>
  have hin:∀a∈ay.l,0<=a/\a<m.Actions.l.length:=fun a ha=>by
   have:=zD.1 yA a ha;rw[du]at this;simp only[iI,decide_eq_true_eq,not_or]at this;omega
  obtain⟨st,rs,ac,out,T,t0,cm,ho⟩:=aBz hb ad hV hin (by omega);have nW:=Cy hb ad (T.val ay.l.length (aH _));have hlen:(out.len != ay.len)=false:=by rw[du,du,ho.1];simp
  obtain⟨s,s1,s2⟩:=Cv (gW:=8) (x:=l) (by omega) (by omega);have JB:(st ay.l.length).l.length<=100000:=uO ad (T.val ay.l.length (aH _)).lv;simp only[cm,bs,lZ (fun z0=>Mp m z0) (fun _=>rfl),yA,cond_false,bne_self_eq_false,hlen,nW,hX,s1];cases hn:ay.l.length with
  |zero=>
   have h0:decide ((0:Int)<ay.len)=false:=by rw[du,hn];rfl
   obtain⟨r0,w,xE,Cz,Fb⟩:=ajo hb ad T JA t0 (done:=.nil) (s:=.nil) (by rw[hn];rfl) rfl;rw[hn]at Fb JB;have he:pP s (st 0)=some true:=Jx (by rw[s2,t0]) (by rw[s2,<-t0];exact JB);simp only[h0,cond_false,he,bs,cond_true,xE,Cz,Jx Fb (by rw[Fb];exact JB)]
  |succ n=>
   have h0:decide ((0:Int)<ay.len)=true:=by rw[du,hn];simp
   obtain⟨i,z,-,bB,ca,ez,fC,hG,mI,rj,rk⟩:=ajn hb ad T (k:=0) (by omega) (here:=s) (by rw[s2,t0]) ho;have bB:bE ay.l 0=some (i:Int):=bB;have mI:bE out.l 0=some (rs 0):=mI
   have key:∀done:ae (ae Change),done.l=na rs ac 1->∃Jy Jz ao r0 w,cd (Bt m ay (st ay.l.length,out,0)) (z,aM (0+1),done)=some (.go (Jy,Jz))/\A9 Jz=some ao/\
     pP Jy (st ay.l.length)=some true/\yT ao=some r0/\rD l r0=some w/\pP w (st ay.l.length)=some true:=fun done hd=>by
    obtain⟨h',d',f1,f2,f3⟩:=aBB hb ad T (by omega) (end_:=st ay.l.length) (code:=0) ho n 1 z done (by omega) ez hd;have lA:=N1 (rs:=rs) (ac:=ac) ay.l.length;obtain⟨ao,g1,g2⟩:=aBC (x:=d') (by rw[f3];omega);obtain⟨r0,w,xE,Cz,Fb⟩:=ajo hb ad T JA t0 f3 g2;exact⟨h',d',ao,r0,w,f1,g1,Jx f2 (by rw[f2];exact JB),xE,Cz,Jx Fb (by rw[Fb];exact JB)⟩
   rw[hn]at key;by_cases hp:(rs 0).Kind=0
   ·obtain⟨q,af,ak⟩:=xH (gW:=24) (x:=(ae.nil:ae (ae Change))) (y:=ae.mk [(ac 0).b4.Delta]) (by omega) (by show 0+1<=_;omega)
    obtain⟨h',d',ao,r0,w,bQ,c6,iX,vv,rE,Ig⟩:=key q (by rw[ak,ajj hp];rfl);have bf:((rs 0).Kind==0)=true:=by rw[hp];rfl
    simp only[h0,cond_true,bB,bs,ca,fC,hG,mI,rj,bf,beq_self_eq_true,uW,cond_false,bne_self_eq_false,af,bQ,c6,iX,vv,rE,Ig]
   ·obtain⟨h',d',ao,r0,w,bQ,c6,iX,vv,rE,Ig⟩:=key .nil (by rw[ajk hp];rfl)
    have bf:((rs 0).Kind==0)=false:=by simpa using hp
    simp only[h0,cond_true,bB,bs,ca,fC,hG,mI,rj,rk hp,bf,beq_self_eq_true,uW,cond_false,bne_self_eq_false,hX,bQ,c6,iX,vv,rE,Ig]
end
end Go.Abs.bz
namespace Go.Proofs
open Go.Shelf
def Tryz.aBE:Go.Shelf.Ren:=⟨fun|6=>84|15=>142|14=>141|28=>255|29=>256|20=>247|21=>248|22=>249|23=>250|24=>251|25=>252|26=>253|27=>254|46=>370|47=>371|48=>372|49=>373|50=>374|57=>448|n=>n,fun|22=>67|24=>110|25=>153|3=>3|39=>234|0=>0|53=>309|55=>311|4=>4|46=>303|45=>302|50=>193|5=>5|9=>9|66=>395|70=>290|76=>453|77=>454|n=>n,fun|n=>n⟩
theorem Tryz.ajp:Go.Proofs.SlLaysF0.n6 Tryz.prog Tryz.aBE:={
 mixed:=by kernel_rfl
 f6:=⟨Tryz.f84.name,by decide,Tryz.func84.trans (congrArg some (by kernel_rfl))⟩
 f14:=⟨Tryz.f141.name,by decide,Tryz.func141.trans (congrArg some (by kernel_rfl))⟩
 f15:=Tryz.func142.trans (congrArg some (by kernel_rfl))
 f20:=⟨Tryz.f247.name,by decide,Tryz.func247.trans (congrArg some (by kernel_rfl))⟩
 f21:=⟨Tryz.f248.name,by decide,Tryz.func248.trans (congrArg some (by kernel_rfl))⟩
 f22:=⟨Tryz.f249.name,by decide,Tryz.func249.trans (congrArg some (by kernel_rfl))⟩
 f23:=⟨Tryz.f250.name,by decide,Tryz.func250.trans (congrArg some (by kernel_rfl))⟩
 f24:=⟨Tryz.f251.name,by decide,Tryz.func251.trans (congrArg some (by kernel_rfl))⟩
 f25:=⟨Tryz.f252.name,by decide,Tryz.func252.trans (congrArg some (by kernel_rfl))⟩
 f26:=⟨Tryz.f253.name,by decide,Tryz.func253.trans (congrArg some (by kernel_rfl))⟩
 f27:=⟨Tryz.f254.name,by decide,Tryz.func254.trans (congrArg some (by kernel_rfl))⟩
 f28:=Tryz.func255.trans (congrArg some (by kernel_rfl))
 f29:=Tryz.func256.trans (congrArg some (by kernel_rfl))
 f46:=⟨Tryz.f370.name,by decide,Tryz.func370.trans (congrArg some (by kernel_rfl))⟩
 f47:=Tryz.func371.trans (congrArg some (by kernel_rfl))
 f48:=Tryz.func372.trans (congrArg some (by kernel_rfl))
 f49:=⟨Tryz.f373.name,by decide,Tryz.func373.trans (congrArg some (by kernel_rfl))⟩
 f50:=⟨Tryz.f374.name,by decide,Tryz.func374.trans (congrArg some (by kernel_rfl))⟩
 f57:=⟨Tryz.f448.name,by decide,Tryz.func448.trans (congrArg some (by kernel_rfl))⟩
 t0:=Tryz.underlying0
 a0:=Tryz.isAgg0
 z0:=Tryz.sizeOf0
 v0:=Tryz.zeroValue0
 t3:=Tryz.underlying3
 a3:=Tryz.isAgg3
 z3:=Tryz.sizeOf3
 v3:=Tryz.zeroValue3
 t4:=Tryz.underlying4
 a4:=Tryz.isAgg4
 z4:=Tryz.sizeOf4
 v4:=Tryz.zeroValue4
 t5:=Tryz.underlying5
 a5:=Tryz.isAgg5
 z5:=Tryz.sizeOf5
 v5:=Tryz.zeroValue5
 t9:=Tryz.underlying9
 a9:=Tryz.isAgg9
 z9:=Tryz.sizeOf9
 v9:=Tryz.zeroValue9
 t22:=Tryz.underlying67
 a22:=Tryz.isAgg67
 z22:=Tryz.sizeOf67
 v22:=Tryz.zeroValue67
 t25:=Tryz.underlying153
 a25:=Tryz.isAgg153
 z25:=Tryz.sizeOf153
 v25:=Tryz.zeroValue153
 t39:=Tryz.underlying234
 a39:=Tryz.isAgg234
 z39:=Tryz.sizeOf234
 v39:=Tryz.zeroValue234
 t45:=Tryz.underlying302
 a45:=Tryz.isAgg302
 z45:=Tryz.sizeOf302
 v45:=Tryz.zeroValue302
 t46:=Tryz.underlying303
 a46:=Tryz.isAgg303
 z46:=Tryz.sizeOf303
 v46:=Tryz.zeroValue303
 t50:=Tryz.underlying193
 a50:=Tryz.isAgg193
 z50:=Tryz.sizeOf193
 v50:=Tryz.zeroValue193
 t53:=Tryz.underlying309
 a53:=Tryz.isAgg309
 z53:=Tryz.sizeOf309
 v53:=Tryz.zeroValue309
 t55:=Tryz.underlying311
 a55:=Tryz.isAgg311
 z55:=Tryz.sizeOf311
 v55:=Tryz.zeroValue311
 t66:=Tryz.underlying395
 a66:=Tryz.isAgg395
 z66:=Tryz.sizeOf395
 v66:=Tryz.zeroValue395
 t70:=Tryz.underlying290
 a70:=Tryz.isAgg290
 z70:=Tryz.sizeOf290
 v70:=Tryz.zeroValue290
 t76:=Tryz.underlying453
 a76:=Tryz.isAgg453
 z76:=Tryz.sizeOf453
 v76:=Tryz.zeroValue453
 t77:=Tryz.underlying454
 a77:=Tryz.isAgg454
 z77:=Tryz.sizeOf454
 v77:=Tryz.zeroValue454}
def Tryz.aBF:Go.Shelf.Ren:=⟨fun|5=>86|7=>143|n=>n,fun|22=>3|3=>3|4=>4|n=>n,fun|n=>n⟩
theorem Tryz.aBG:Go.Proofs.SlLaysC2.n5 Tryz.prog Tryz.aBF:={
 mixed:=by kernel_rfl
 f5:=⟨Tryz.f86.name,by decide,Tryz.func86.trans (congrArg some (by kernel_rfl))⟩
 f7:=⟨Tryz.f143.name,by decide,Tryz.func143.trans (congrArg some (by kernel_rfl))⟩
 t3:=Tryz.underlying3
 a3:=Tryz.isAgg3
 z3:=Tryz.sizeOf3
 v3:=Tryz.zeroValue3
 t4:=Tryz.underlying4
 a4:=Tryz.isAgg4
 z4:=Tryz.sizeOf4
 v4:=Tryz.zeroValue4
 t22:=Tryz.underlying3
 a22:=Tryz.isAgg3
 z22:=Tryz.sizeOf3
 v22:=Tryz.zeroValue3}
end Go.Proofs
namespace Go.Abs
open Go Go.Proofs Go.Shelf
variable{C:Ctx}{fid:Nat->Nat}{ρ:Ren}
end Go.Abs
namespace Go.Abs
open Go Go.Proofs Go.Shelf Go.RowKit
section
variable{P:Program}{ρ:Ren}
end
variable{C:Ctx}{fid:Nat->Nat}{ρ:Ren}
end Go.Abs
namespace Go.Abs
open Go Go.Proofs Go.Sort
def gO (x:Int × Int):V:=.agg [.int .i64 x.1,.int .i64 x.2]
def jL (x:Int × Int):List Value:=[.int .i64 x.1,.int .i64 x.2]
def Uy:V->Option (Int × Int)
 | .agg [.int .i64 a,.int .i64 b]=>some (a,b)
 | _=>none
def zt:List V->Option (List (Int × Int))
 |[]=>some []
 |v::r=>match Uy v,zt r with
  |some x,some xs=>some (x::xs)
  | _,_=>none
theorem aBH{v:V}{x:Int × Int}(h:Uy v=some x):v=gO x:=by
 unfold Uy at h;split at h
 ·cases h;rfl
 ·cases h
theorem Uz:∀{ds:List V} {ps:List (Int × Int)},zt ds=some ps->ds=ps.map gO
 |[],ps,h=>by cases h;rfl
 |v::r,ps,h=>by
  simp only[zt]at h;split at h
  ·rename_i x xs h1 h2
   cases h;rw[dv,<-aBH h1,<-Uz h2]
  ·cases h
theorem UA:∀ps:List (Int × Int),zt (ps.map gO)=some ps
 |[]=>rfl
 |p::ps=>by
  rw[dv];simp only[zt];rw[UA ps];rfl
theorem ajq{fid:Nat->Nat}{G:bX}{w:World}:∀(ps:List (Int × Int)),a6 fid G w ((ps.map gO).flatMap aC) (ps.flatMap jL)
 |[]=>.nil
 |p::ps=>.cons _ _ _ _ (.p _ _ (.int _ _)) (.cons _ _ _ _ (.p _ _ (.int _ _)) (ajq ps))
theorem ajr{fid:Nat->Nat}{G:bX}{w:World}:∀{ps:List (Int × Int)} {vals:List Value},a6 fid G w ((ps.map gO).flatMap aC) vals->vals=ps.flatMap jL
 |[],_,h=>by cases h;rfl
 |p::ps,_,h=>by
  have h:a6 fid G w (V.int .i64 p.1::V.int .i64 p.2::(ps.map gO).flatMap aC) _:=h;cases h with
  |cons _ x _ xs h1 h2=>
   cases h2 with
   |cons _ y _ cK ar aS=>
    rw[h1.iW,ar.iW,ajr aS];rfl
theorem aFb:∀(l:List (Int × Int)) (t:Nat),(l.flatMap jL)[t]? =l[t/2]?.map fun x=>(jL x)[t%2]!
 |[],t=>by simp
 |x::l,0=>rfl
 |x::l,1=>rfl
 |x::l,t+2=>by
  have af:(t+2)/2=t/2+1:=by omega
  have ak:(t+2)%2=t%2:=by omega
  rw[af,ak,CC,<-aFb l t];rfl
theorem Ct (l:List (Int × Int)):(l.flatMap jL).length=l.length*2:=by
 induction l with
 |nil=>rfl
 |cons x l ih=>rw[im,eZ,ih,gD];show 2+_=_;omega
theorem UB (d:Array (Int × Int)):(flatK jL 2 d).toList=d.toList.flatMap jL:=by
 refine oA fun t=> ?_;rw[aFb,fM,fM];unfold flatK;rw[Array.getElem?_map];by_cases h:t<d.size*2
 ·have h2:t/2<d.size:=by omega
  rw[Array.getElem?_range,if_pos h,zv h2,nM,nM,getElem!_pos d (t/2) h2]
 ·have h2:¬t/2<d.size:=by omega
  rw[zx (by simpa using h),zx (by omega)];rfl
theorem aBI (f c:Array Value)(h:f.size<=c.size):(Sort.putCells id 0 f c).toList=f.toList++c.toList.drop f.size:=by
 refine oA fun t=> ?_;rw[fM];unfold Sort.putCells;rw[Array.getElem?_mapIdx,List.getElem?_append,fw];by_cases ht:t<f.size
 ·rw[if_pos ht,fM,zv (by omega),zv ht,nM,if_pos (by omega),getElem!_pos f (t-0) (by omega)]
  rfl
 ·rw[if_neg ht,CG,fM,show f.size+(t-f.size)=t by omega]
  cases c[t]? with
  |none=>rfl
  |some x=>rw[nM,if_neg (by omega)]
variable{C:Ctx}{fid:Nat->Nat}
def xV (g:Nat):u2:=fun args H=>match args with
 |[.aN,.fn E3 [] []]=>if E3=g then some (.aU [],[],[])else none
 |[.bJ l 2 0 n tag,.fn E3 [] []]=>match H[l]? with
  |some (.row 2 ds false)=>match zt ds with
   |some ps=>if E3=g/\ds.length=n/\n=tag/\n<=2^40/\(ps.map (·.1)).Nodup then some (.aU [],[(l,.row 2 ((mP ps).map gO) false)],[])else none
   |none=>none
  | _=>none
 | _=>none
theorem aBJ{g:Nat}{args:List V}{H:Heap}{v:V}{H':Heap}{low:Nat}(h:qZ (xV g) args H=some (v,H',low)):
  (args=[.aN,.fn g [] []]/\v=.aU []/\H'=H/\low=H.length)\/∃l ps,args=[.bJ l 2 0 ps.length ps.length,.fn g [] []]/\H[l]? =some (.row 2 (ps.map gO) false)/\ps.length<=1099511627776/\(ps.map (·.1)).Nodup/\v=.aU []/\H'=H.set l (.row 2 ((mP ps).map gO) false)/\low=min H.length l:=by
 obtain⟨r,hr,he⟩:=cA.1 h;unfold xV at hr;split at hr
 ·rename_i E3
  split at hr
  ·rename_i hc
   subst hc;cases hr;simp only[qe,qf,x8,lR,bx]at he;exact .inl ⟨rfl,he.1.symm,he.2.1.symm,he.2.2.symm⟩
  ·cases hr
 ·rename_i l n tag E3
  refine .inr ?_;split at hr
  ·rename_i ds hl
   split at hr
   ·rename_i ps hp
    split at hr
    ·rename_i hc
     obtain⟨rfl,rfl,rfl,hm,hn⟩:=hc;have:=Uz hp;subst this;cases hr;simp only[qe,qf,p6,x8,lR,bx]at he;rw[eL]at hm;exact⟨l,ps,by rw[eL],hl,hm,hn,he.1.symm,he.2.1.symm,he.2.2.symm⟩
    ·cases hr
   ·cases hr
  ·cases hr
 ·cases hr
theorem aBK{ft g:Nat}(c5:∀xs w,(callFunc ft xs).run C.P w=.ok (.enter ft xs) w)
  (h0:∀(fv:Value) (w:World),Calls C.P ft #[.slice none 0 0,fv] w fun e w'=>e=.returned (.tuple #[])/\w'=w)
  (aA:∀(blk cap:Nat) (d:Array (Int × Int)) (w:World),HoldsK jL 2 w blk 0 d->blk<w.heap.size->d.size<4611686018427387904->
    Calls C.P ft #[.slice (some ⟨blk,0,none⟩) d.size cap,.func (.func g) #[] #[]] w fun e w'=>e=.returned (.tuple #[])/\∃d' n os,Sort.PermIn 0 d.size d d'/\Sort.SortedIn (ltOf fun x y:Int × Int=>Lib.compareInt x.1 y.1) 0 d.size d'/\w'=sortWorldK jL 2 w blk 0 n d' os):
  wM C fid ft (xV g):=by
 intro G H w args v H' low xs ab gi he;rcases aBJ he with⟨rfl,rfl,rfl,rfl⟩|⟨l,ps,rfl,hl,hm,hn,rfl,rfl,rfl⟩
 ·obtain⟨x,y,rfl⟩:∃x y,xs=[x,y]:=by
   cases gi with|cons _ x _ xs _ hs=>cases hs with|cons _ y _ cK _ hs=>cases hs;exact⟨x,y,rfl⟩
  have hx:bh fid G w .aN x:=by cases gi;assumption
  rw[hx.iZ];refine⟨?_,_,_,c5 _ _⟩;rw[c5];show Calls C.P ft ⟨[.slice none 0 0,y]⟩ w _;refine th (h0 y w) ?_;rintro e' w' ⟨rfl,rfl⟩;exact⟨_,rfl,G,ab,fun m _=>.refl _ _ _ _,.aU _ _ .nil⟩
 obtain⟨x,y,rfl⟩:∃x y,xs=[x,y]:=by
  cases gi with|cons _ x _ xs _ hs=>cases hs with|cons _ y _ cK _ hs=>cases hs;exact⟨x,y,rfl⟩
 have hx:bh fid G w (.bJ l 2 0 ps.length ps.length) x:=by cases gi;assumption
 have hy:y=.func (.func g) #[] #[]:=by
  cases gi with
  |cons _ x _ xs _ hs=>
   cases hs with
   |cons _ y _ cK h _=>
    cases h with
    |p _ _ h=>cases h with|fn _ _ _ _ _ h1 h2=>cases h1;cases h2;rfl
    |fn _ _ _ _ _ h1 h2=>cases h1;cases h2;rfl
 subst hy;obtain⟨h0,c8,cR,cap,hb,oH,gY,rfl⟩:=hx.nk;obtain⟨aV,ho,hr⟩:=ab.obj l h0 hb;rw[hl]at ho;cases ho;obtain⟨nr,wy,hfz,eo,iY,c,e,vals,rest,hc,eV,gv,ep⟩:=hr;rw[eL]at nr wy;obtain⟨rfl,rfl,lU,np⟩:=gY nr;rw[vS];have PG:=ajr ep;subst PG;have hblk:h0.b<w.heap.size:=ab.blk l h0 hb
 have de:ps.length*2<=c.size:=by
  rw[<-fw,gv,eZ,Ct];omega
 have hH:HoldsK jL 2 w h0.b 0 ps.toArray:=by
  intro j hj;have G3:j<ps.length*2:=by simpa[flatK]using hj
  refine⟨?_,?_⟩
  ·rw[dA,Lib.cell_of_heap hc,<-fM,gv,e5 (by rw[Ct];exact G3)]
   have:(flatK jL 2 ps.toArray).toList[j]? =some ((flatK jL 2 ps.toArray)[j]!):=by
    rw[fM,getElem!_pos _ j hj,zv hj]
   rw[UB]at this;exact this
  ·rw[dA];exact Lib.frozen_of_heap hc j
 have bb:=aA h0.b cap ps.toArray w hH hblk (by simp;omega);refine⟨?_,_,_,c5 _ _⟩;rw[c5];show Calls C.P ft ⟨[.slice (some ⟨h0.b,0,none⟩) ps.length cap,.func (.func g) #[] #[]]⟩ w _;refine th (by simpa using bb) ?_;rintro e' w' ⟨rfl,d',ajs,aBL,n,os,rfl⟩;have Db:d'.size=ps.length:=by have:=ajs.1;simpa using this
 have UC:d'.toList=mP ps:=by
  refine aex hn ?_ ?_
  ·have ar:=ajs.2.2
   have af:d'.extract 0 ps.length=d':=by
    rw[<-Db];simp
   have ak:ps.toArray.extract 0 ps.length=ps.toArray:=by simp
   rw[af,ak]at ar;exact ar
  ·rw[Oc]
   intro i j hi hj cF;rw[fw]at hi hj;have ar:=aBL i j (cJ _) cF (by omega);rw[getElem!_pos d' j hj,getElem!_pos d' i hi]at ar;unfold yI;rw[decide_eq_true_eq,Array.getElem_toList,Array.getElem_toList];unfold ltOf Lib.compareInt at ar;simp only[decide_eq_false_iff_not]at ar;split at ar
   ·omega
   ·split at ar<;>omega
 have Co:(putRowK jL 2 (Sort.ahead w n) h0.b 0 d').heap[h0.b]? =some (.cells (Sort.putCells id 0 (flatK jL 2 d') c) e (0,0)):=by
  unfold putRowK Sort.putRow Sort.mapBlock;simp only[CD,if_true];show(w.heap[h0.b]?).map _=_;rw[hc];rfl
 have ql:∀b,b≠h0.b->(putRowK jL 2 (Sort.ahead w n) h0.b 0 d').heap[b]? =w.heap[b]? :=fun b bg=>by
  unfold putRowK Sort.putRow Sort.mapBlock;simp only[CD];rw[if_neg fun q=>bg q.symm];rfl
 have ns:(putRowK jL 2 (Sort.ahead w n) h0.b 0 d').heap.size=w.heap.size:=by
  unfold putRowK Sort.putRow Sort.mapBlock;simp[Sort.ahead]
 have gj:=Ext.write (h':=h0) ab hb hfz rfl (aH _) id rfl ns ql rfl rfl
 have gy:a8 C fid ⟨cp G.β l h0,G.I⟩ (H.set l (.row 2 ((mP ps).map gO) false)) (putRowK jL 2 (Sort.ahead w n) h0.b 0 d'):=by
  refine a8.write ab hb hfz rfl hfz (aH _) id rfl ns ql _ ?_;refine⟨by rw[eL,<-UC,fw,Db];exact nr,by rw[eL,<-UC,fw,Db];exact wy,hfz,eo,fun d hd=> ?_,_,e,(mP ps).flatMap jL,rest,Co,?_,?_,ajq _⟩
  ·obtain⟨x,-,rfl⟩:=dZ.1 hd;rfl
  ·rw[eV];simp[Sort.putCells]
  ·have ajt:(flatK jL 2 d').size=ps.length*2:=by rw[<-fw,UB,Ct,fw,Db]
   rw[aBI _ _ (by rw[ajt];exact de),UB,UC,ajt,gv,List.drop_left' (by rw[Ct])]
 have my:(putRowK jL 2 (Sort.ahead w n) h0.b 0 d').heap.size<=(Sort.grow (putRowK jL 2 (Sort.ahead w n) h0.b 0 d') os).heap.size:=by simp[Sort.grow]
 have wu:∀b,b<(putRowK jL 2 (Sort.ahead w n) h0.b 0 d').heap.size->(Sort.grow (putRowK jL 2 (Sort.ahead w n) h0.b 0 d') os).heap[b]? =(putRowK jL 2 (Sort.ahead w n) h0.b 0 d').heap[b]? :=fun b fO=>by
  simp only[Sort.grow];rw[Wm fO]
 refine⟨_,rfl,⟨cp G.β l h0,G.I⟩,gy.restore my wu,fun m h7=>(gj.le (cY h7 (nJ _ _)) (aH _)).trans (.restore my wu rfl rfl m _),.aU _ _ .nil⟩
end Go.Abs
set_option maxRecDepth 100000
namespace Go.Abs.bz
open Go Go.Abs Go.Proofs Go.Sort
section
variable{g:Nat->Option Obj}
set_option maxHeartbeats 1000000 in
theorem aBM (x y:Int × Int)(W:World):Calls Tryz.prog 85 #[.agg #[.int .i64 x.1,.int .i64 x.2],.agg #[.int .i64 y.1,.int .i64 y.2]] W fun e w'=>e=.returned (.int .i64 (Lib.compareInt x.1 y.1))/\∃q os',w'=grow (W.drewN q) os':=by
 have E9:=fun W'=>AnyG.cmp_Compare_int Tryz.aBG x.1 y.1 W';change ∀W',Calls Tryz.prog 86 _ _ _ at E9;generalize Lib.compareInt x.1 y.1=r at E9⊢
 go_enter Tryz.func85,Tryz.ntmps85
 go_wp2_with (go_at_call 86;refine(E9 _).mono ?_;rintro e w' ⟨rfl,rfl⟩)
 go_ret
 exact⟨rfl,0,_,by rw[alloc_eq_grow,alloc_eq_grow,grow_grow];rfl⟩
theorem UD (x y:Int × Int):ltOf (fun x y:Int × Int=>Lib.compareInt x.1 y.1) x y=decide (x.1<y.1):=by
 unfold ltOf Lib.compareInt;by_cases h1:x.1<y.1
 ·simp[h1]
 ·by_cases h2:y.1<x.1<;>simp[h1,h2]
theorem aBN:SWO (ltOf fun x y:Int × Int=>Lib.compareInt x.1 y.1) where
 irrefl x:=by rw[UD];simp
 trans x y z h1 h2:=by rw[UD]at *; simp at *; omega
 ntrans x y z h1 h2:=by rw[UD]at *; simp at *; omega
theorem aBO:wM (C g) id 84 (xV 85):=
 aBK (C:=C g) (fid:=id) (enters_of Tryz.func84 (by kernel_rfl) rfl) (fun fv w=>AnyF.slices_SortFunc_none Tryz.ajp none 0 fv w) fun blk cap d w hH hblk de=>
  AnyQ.slices_SortFunc Tryz.ajp 2 Tryz.isAgg110 Tryz.sizeOf110 jL (fun _=>rfl) (fun x v ad=>by simp[jL]at ad;rcases ad with rfl|rfl<;>rfl) (fun x y=>Lib.compareInt x.1 y.1) aBN 85 #[] blk 0 cap d w (enters_of Tryz.func85 (by kernel_rfl) rfl) (fun _ _ _ _ x y=>aBM x y _) hH hblk de
end
end Go.Abs.bz
namespace Go.Abs
open Go
variable{C:Ctx}{fid:Nat->Nat}{G:bX}{w:World}{aa:Nat->Option bU}{vars:List Nat}{N:Nat}
def N2 (aa:Nat->Option bU):List bZ->av->av->Prop
 |[],st,aQ=>aQ=st
 |c::r,st,aQ=>∃s,c4 aa c st=some (.normal,s)/\N2 aa r s aQ
theorem cZ.aju (cD:C.P.follows .mixedOrders=true)(bC:e7 C fid)(bb:gS C fid (b0 aa)){d:Code}{Out:X->av->Prop}:∀{cs:List Code} {wY:List bZ},dM (C.code vars N) cs=some wY->∀{st aQ:av},N2 aa wY st aQ->
  cZ C fid vars N d aQ Out->cZ C fid vars N (Lo cs d) st Out
 |[],wY,hm,st,aQ,he,h=>by
  simp only[dM,aB]at hm;subst hm;have he:aQ=st:=he;subst he;exact h
 |c::cs,wY,hm,st,aQ,he,h=>by
  simp only[dM]at hm;split at hm
  ·rename_i a ha
   split at hm
   ·rename_i ay has
    cases hm;obtain⟨s,h1,h2⟩:=he;exact cZ.seq (cZ.c4 cD bC bb ha h1) (fun ao hs=>by rw[hs.2];exact cZ.aju cD bC bb has h2 h) fun x ao hx hs=>absurd hs.1 hx
   ·cases hm
  ·cases hm
theorem lb.aBP (cD:C.P.follows .mixedOrders=true)(bC:e7 C fid)(bb:gS C fid (b0 aa)){n ft:Nat}{fn:Func}{B:lb}(ag:C.P.funcs[ft]? =some fn)(dc:AR C fn B){args:List V}{v:V}(hlen:args.length<=fn.ntmps)
  {iN st:av} {wr:List Bool} (aBQ:N2 aa B.pre {aF:=[],au:=fl 0 args,H:=[],low:=0} iN) (hex:c3 (b0 aa) B.R.t0 {iN with aF:=[]} []=some (st,wr))
  {l:Nat} {bp:List (V × V)} (qz:B.R.src.ah st.aF st.au=.map l) (nt:st.H[l]? =some (.map bp)) (Inv:List Nat->av->Prop) (Out:av->Prop)
  (tR:Inv [] (hO B.R.it st)) (rn:∀d s,Inv d s->bG s.au B.R.it=.ptr st.H.length 0)
  (oV:∀d s,Inv d s->∀i kv,i∉d->bp[i]? =some kv->∃ao,B.R.round (b0 aa) n kv.1 kv.2 s=some ao/\st.H.length<ao.low/\Inv (d++[i]) ao)
  (ig:∀d s,Inv d s->d.Nodup->(∀i,i∈d↔i<bp.length)->∃ao,B.R.fin (b0 aa) s=some ao/\st.H.length<ao.low/\Out ao)
  (QY:∀ao,Out ao->∃x s2 vs,c4 aa B.post {ao with low:=min st.low st.H.length}=some (x,s2)/\QW x=true/\gP s2.au s2.H B.pA=some vs/\finish false [] (iM vs) s2.H s2.low=some (v,[],0))
  {xs:List Value} (ab:a8 C fid G [] w) (ad:a6 fid G w args xs):Calls C.P ft ⟨xs⟩ w (fun e w'=>∃x,e=.returned x/\k7 C fid G [] w v [] 0 x w'):=by
 obtain⟨cs,DJ,DK,hb,yC,QX,aBR,sw,-⟩:=dc.ok;refine QU bC ag hb sw (fresh:=false) hlen ?_ ab ad;refine cZ.aju cD bC bb yC aBQ ?_;refine cZ.seq (cZ.range (n:=n) cD bC bb (QS QX) hex qz nt Inv Out tR rn oV ig) (fun s hs=> ?_) fun x s hx hs=>absurd hs.1 hx;obtain⟨-,ao,wZ,rfl⟩:=hs;obtain⟨x,s2,vs,h1,h2,ar,aS⟩:=QY ao wZ;refine(cZ.c4 cD bC bb aBR h1).mono fun y e9 hy=> ?_;obtain⟨rfl,rfl⟩:=hy;refine⟨?_,vs,ar,aS⟩;cases y with
 |normal=>exact .inl rfl
 |ret=>exact .inr rfl
 |exit i=>cases h2
end Go.Abs
namespace Go.Abs
open Go
section
open Go.Abs.S
def JC:bZ:=q (R [r 14 (kM 2 v10 v12),r 15 (ls 2 t14),o 5 (.alloc [z,z]),n (st 2 v5 t15)]) (R [r 16 (m v3),r 17 (dw 0 v5),r 18 (cb t17),r 19 (.lookup 0 (.int .i64 0) t16 t18 false),r 20 (dw 1 v5),r 21 (cb t20),r 22 (c8 t19 t21),n (.p8 0 t16 t18 t22)])
def N3:bZ:=q (R [r 31 (m sG),o 32 (ne t31 (c 0))]) (i7 v32 (R [r 33 (m v6),r 34 (m lf),r 35 (m sG),r 36 (.build [z,z] [(0,1,t34),(1,1,t35)]),r 37 (.lit 2 [z,z] 1 [(0,t36)] true),r 38 (ap 2 16 t33 t37),o 6 (m t38)]) k)
def N4 (F K:Nat):bZ:=q (R [r 39 (m v6),r 40 (.call true (fn F) [t39,(fn K)])]) (q (R [r 41 (m v6),o 2 (m t41)]) rt)
def jg (F K:Nat):lb:=⟨[R [o 2 (m qD)],R [r 9 (.mkMap),o 3 (m t9)],q (R [o 10 (m v0),o 11 (ix 1 v10),o 12 (m (c 0))]) (cw 0 (.loop (tV 13 11 12 23 1 0 JC))),R [o 6 (m qD)]],⟨[r 24 (m v3)],t24,25,(26,false),[o 27 (ex t26 0)],ZH,3,(28,false),[r 29 (ex t28 0),r 30 (ex t28 1),o 7 (m t29),o 8 (m t30)],N3⟩,N4 F K,[.tmp 2]⟩
end
def nH (l:List (Int × Int)):V:=if l.isEmpty then .aN else .list 2 (l.map gO)
def nb (es:List (Int × Int)):List (V × V):=es.map fun p=>(aI p.1,aI p.2)
theorem ajv (k:Int):∀es:List (Int × Int),hZ 0 (.int .i64 k) (nb es)=some ((Bc k es).map aI)
 |[]=>rfl
 |(j,v)::es=>by
  have ih:=ajv k es;simp only[nb,dv,hZ,iK,Bc,aI,if_true]at ih⊢;by_cases h:k=j
  ·simp[h]
  ·have hb:(k==j)=false:=by simpa using h
   rw[hb];simp only[h,if_false];exact ih
theorem UE (k v:Int):∀es:List (Int × Int),kZ 0 (.int .i64 k) (.int .i64 v) (nb es)=nb (nz k v es)
 |[]=>rfl
 |(j,u)::es=>by
  have ih:=UE k v es;simp only[nb,dv,kZ,iK,nz,aI,if_true]at ih⊢;by_cases h:k=j
  ·subst h;simp
  ·have hb:(k==j)=false:=by simpa using h
   rw[hb];simp only[h,if_false,ih];simp
variable{aa:Nat->Option bU}
theorem JD (T:Heap)(x:b5):(T++[x])[T.length]? =some x:=by simp
theorem N5 (T:Heap)(x y:b5):(T++[x]).set T.length y=T++[y]:=by simp
theorem aBS{call:cW}{ah:aj->V}{H:Heap}{low es:Nat}(x i:aj):cc call ah H low (.indexAddr es x i)=step ah H low (.indexAddr es x i):=rfl
theorem aBT{call:cW}{ah:aj->V}{H:Heap}{low k:Nat}(x:aj):cc call ah H low (.len k x)=step ah H low (.len k x):=rfl
theorem aBU{call:cW}{ah:aj->V}{H:Heap}{low:Nat}(zs:List V)(ps:List (Nat × Nat × aj)):cc call ah H low (.build zs ps)=step ah H low (.build zs ps):=rfl
attribute [local simp] hM k2 mn nO nP q3 mo c3 gE rp pC nv qB qC nw sF rq n2 sE w1 l3 n3 GX Q2 n4 Lq aBS aBT aBU Q0 aj.ah bG gn av.put en qa p9 kE e0 fF dR bI cj u0 jQ jy iJ setCells aC eF bL tg S.R S.q S.k S.rt S.i7 S.cw S.e S.r S.o S.n S.rg S.m S.cb S.ls S.dw S.eq S.ne S.lt S.gt S.c8 S.no S.j3 S.st S.hF S.ix S.kM S.ex S.c S.cs S.kr S.lg S.z S.fn S.jA S.ap S.qD
set_option maxHeartbeats 1000000 in
theorem aBV{es l:List (Int × Int)}{T:Heap}{aF au:Env}{ro:Option Nat}{j:Nat}{x:Int × Int}(hj:l[j]? =some x)(CA:bG au 10=.list 2 (l.map gO))(uK:bG au 12=.int .i64 j)(ar:bG au 3=.map 0):
  c4 aa JC ⟨aF,au,.map (nb es)::T,0,ro⟩=some (.normal,⟨[],dD au 5 (.ptr (T.length+1) 0),.map (nb (qJ es x))::(T++[.cells [.int .i64 x.1,.int .i64 x.2]]),0,ro⟩):=by
 obtain⟨a,b⟩:=x;have ag:=ajv a es;cases ba:Bc a es with
 |none=>
  rw[ba]at ag;simp[JC,CA,uK,ar,step,hj,gO,ag,UE,qJ,ba,JD,N5]
 |some u=>
  rw[ba]at ag;simp[JC,CA,uK,ar,step,hj,gO,ag,UE,qJ,ba,JD,N5]
def ajw (x:ae (Int × Int))(j:Nat)(st:av):Prop:=
 ∃T au,st=⟨st.aF,au,.map (nb (jc (x.l.take j)))::T,0,none⟩/\bG au 10=bn 2 gO x/\bG au 11=.int .i64 x.l.length/\bG au 12=.int .i64 j/\bG au 3=.map 0
def ajx (x:ae (Int × Int))(y:X)(st:av):Prop:=
 y=.exit 0/\∃T au,st=⟨[],au,.map (nb (jc x.l))::T,0,none⟩/\bG au 3=.map 0
theorem aBW (x:ae (Int × Int))(hx:x.l.length<4611686018427387904){st:av}(bq:ajw x 0 st):∃y aQ,c4 aa (.loop (tV 13 11 12 23 1 0 JC)) st=some (y,aQ)/\ajx x y aQ:=by
 refine ZD (aa:=aa) (I:=ajw x) (Q:=ajx x) hx (by decide) (by decide) ?_ ?_ ?_ x.l.length 0 st (by omega) bq
 ·rintro j st ⟨T,au,h,CA,N6,uK,ar⟩
  rw[h];exact⟨uK,N6,cJ _⟩
 ·rintro j st hj ⟨T,au,h,CA,N6,uK,ar⟩
  obtain⟨l,rfl⟩:∃l,x=.mk l:=by
   cases x with
   |nil=>simp[ae.l]at hj
   |emp=>simp[ae.l]at hj
   |mk l=>exact⟨l,rfl⟩
  have hj:j<l.length:=hj;have hl:l[j]? =some l[j]:=eg hj;have hr:=aBV (aa:=aa) (es:=jc (l.take j)) (T:=T) (aF:=[]) (au:=dD au 13 (.bool true)) (ro:=none) hl (by simpa[bn]using CA) (by simpa using uK) (by simpa using ar);refine⟨.normal,⟨[],dD (dD au 13 (.bool true)) 5 (.ptr (T.length+1) 0),.map (nb (qJ (jc (l.take j)) l[j]))::(T++[.cells [.int .i64 l[j].1,.int .i64 l[j].2]]),0,none⟩,?_,?_⟩
  ·rw[h];exact hr
  ·rw[if_pos (.inl rfl)]
   have e:jc (l.take (j+1))=qJ (jc (l.take j)) l[j]:=by
    unfold jc;rw[List.take_succ_eq_append_getElem hj,List.foldl_append];rfl
   refine⟨by simpa using uK,cJ _,T++[.cells [.int .i64 l[j].1,.int .i64 l[j].2]],dD (dD (dD au 13 (.bool true)) 5 (.ptr (T.length+1) 0)) 12 (.int .i64 ((j+1:Nat):Int)),?_,by simpa using CA,by simpa using N6,by simp,by simpa using ar⟩;show _=av.mk [] _ (.map (nb (jc (l.take (j+1))))::_) 0 none;rw[e]
 ·rintro st ⟨T,au,h,CA,N6,uK,ar⟩
  rw[h];refine⟨rfl,T,dD au 13 (.bool false),?_,by simpa using ar⟩;rw[J4]
theorem aBX{F K:Nat}(x:ae (Int × Int))(hx:x.l.length<4611686018427387904):
  ∃au T,N2 aa (jg F K).pre {aF:=[],au:=fl 0 [bn 2 gO x],H:=[],low:=0} ⟨[],au,.map (nb (jc x.l))::T,0,none⟩/\bG au 3=.map 0/\bG au 6=.aN:=by
 have vh:c4 aa (S.R [S.o 2 (S.m S.qD)]) {aF:=[],au:=fl 0 [bn 2 gO x],H:=[],low:=0}=some (.normal,⟨[],dD (fl 0 [bn 2 gO x]) 2 .aN,[],0,none⟩):=by
  simp
 have C6:c4 aa (S.R [S.r 9 (.mkMap),S.o 3 (S.m S.t9)]) ⟨[],dD (fl 0 [bn 2 gO x]) 2 .aN,[],0,none⟩=some (.normal,⟨[],dD (dD (fl 0 [bn 2 gO x]) 2 .aN) 3 (.map 0),[.map []],0,none⟩):=by
  simp
 have aBY:c4 aa (S.R [S.o 10 (S.m S.v0),S.o 11 (S.ix 1 S.v10),S.o 12 (S.m (S.c 0))]) ⟨[],dD (dD (fl 0 [bn 2 gO x]) 2 .aN) 3 (.map 0),[.map []],0,none⟩=
   some (.normal,⟨[],dD (dD (dD (dD (dD (fl 0 [bn 2 gO x]) 2 .aN) 3 (.map 0)) 10 (bn 2 gO x)) 11 (.int .i64 x.l.length)) 12 (.int .i64 0),[.map []],0,none⟩):=by
  cases x<;>simp[step,bn,fl,ae.l]
 obtain⟨y,aQ,h1,rfl,T,au,rfl,ar⟩:=aBW (aa:=aa) x hx (st:=⟨[],dD (dD (dD (dD (dD (fl 0 [bn 2 gO x]) 2 .aN) 3 (.map 0)) 10 (bn 2 gO x)) 11 (.int .i64 x.l.length)) 12 (.int .i64 0),[.map []],0,none⟩)
  ⟨[],_,rfl,by simp,by simp,by simp,by simp⟩
 refine⟨dD au 6 .aN,T,⟨_,vh,_,C6,⟨[],au,.map (nb (jc x.l))::T,0,none⟩,?_,_,?_,rfl⟩,by simpa using ar,by simp⟩
 ·show c4 aa (.seq (S.R _) (.block 0 _)) _=_
  rw[hM,aBY];simp only[];rw[mo,h1];simp
 ·simp
def xW (p:Nat)(row:List (Int × Int))(s:av):Prop:=
 bG s.au 25=.ptr p 0/\s.ro=none/\∃B:Heap,B.length=p+1/\((row=[]/\s.H=B/\bG s.au 6=.aN)\/(row≠[]/\s.H=B++[.row 2 (row.map gO) false]/\bG s.au 6=.bJ B.length 2 0 row.length row.length))
theorem xW.lt{p:Nat}{row:List (Int × Int)}{s:av}(h:xW p row s):p<s.H.length:=by
 obtain⟨-,-,B,dc,h⟩:=h;rcases h with⟨-,h,-⟩|⟨-,h,-⟩
 ·rw[h];omega
 ·rw[h,eZ];omega
set_option maxHeartbeats 1000000 in
theorem aBZ{F K n p:Nat}{call:cW}{a b:Int}{row:List (Int × Int)}{s:av}(h:xW p row s)(hn:row.length<1073741824):
  ∃ao,(jg F K).R.round call n (.int .i64 a) (.int .i64 b) s=some ao/\p<ao.low/\xW p (if b=0 then row else row++[(a,b)]) ao:=by
 have aT:=h.lt;obtain⟨aF,au,H,low,ro⟩:=s;obtain⟨s7,dY,B,dc,h⟩:=h;simp only at s7 dY h aT;subst dY;by_cases hb:b=0
 ·subst hb
  refine⟨_,by simp[eY.round,eY.step,jg,N3,exec,av.fy,s7,dS];rfl,by simpa using aT,by simpa using s7,rfl,B,dc,?_⟩;rw[if_pos rfl];simpa using h
 ·have fO:(b==0)=false:=by simpa using hb
  rcases h with⟨rfl,rfl,eA⟩|⟨bg,rfl,eA⟩
  ·refine⟨_,by simp[eY.round,eY.step,jg,N3,exec,av.fy,s7,dS,hb,fO,bne,step,tk,qb,elems,lz,eA];rfl,by simp;omega,by simpa using s7,rfl,H,dc,.inr ⟨by simp[hb],by simp[hb,gO],by simp[hb]⟩⟩
  ·have aB0:(row.length+1)*17<=1099511627776:=by omega
   refine⟨_,by simp[eY.round,eY.step,jg,N3,exec,av.fy,s7,dS,hb,fO,bne,step,tk,qb,elems,lz,eA,JD,N5,aB0];rfl,by simp;omega,by simpa using s7,rfl,B,dc,.inr ⟨by simp[hb],by simp[hb,gO],by simp[hb]⟩⟩
theorem aB1{F K p:Nat}{call:cW}{row:List (Int × Int)}{s:av}(h:xW p row s):∃ao,(jg F K).R.fin call s=some ao/\p<ao.low/\xW p row ao:=by
 have aT:=h.lt;obtain⟨aF,au,H,low,ro⟩:=s;obtain⟨s7,dY,B,dc,h⟩:=h;simp only at s7 dY h aT;subst dY;refine⟨_,by simp[eY.fin,eY.step,jg];rfl,by simpa using aT,by simpa using s7,rfl,B,dc,?_⟩;simpa using h
theorem ajy:∀ps:List (Int × Int),cj (ps.map gO)=true
 |[]=>rfl
 |p::ps=>by
  have:=ajy ps;rw[dv];simp[gO,this]
set_option maxHeartbeats 1000000 in
theorem aB2{F K p:Nat}{row:List (Int × Int)}{s:av}(cH:aa F=some (.oC (xV K)))(h:xW p row s)(hnd:(row.map Prod.fst).Nodup)(hl:row.length<=1099511627776):
  ∃y s2 vs,c4 aa (N4 F K) {s with low:=0}=some (y,s2)/\QW y=true/\gP s2.au s2.H [.tmp 2]=some vs/\finish false [] (iM vs) s2.H s2.low=some (nH (mP row),[],0):=by
 obtain⟨aF,au,H,low,ro⟩:=s;obtain⟨s7,dY,B,dc,h⟩:=h;simp only at s7 dY h;subst dY;rcases h with⟨rfl,rfl,eA⟩|⟨bg,rfl,eA⟩
 ·refine⟨_,_,_,by simp[N4,eA,k3,cH,qZ,xV,qe,qf];exact⟨rfl,rfl⟩,rfl,by simp[gP,kl];rfl,?_⟩
  simp[iM,finish,nH,mP,old]
 ·have nQ:=UA row
  refine⟨_,_,_,by simp[N4,eA,k3,cH,qZ,xV,qe,qf,JD,N5,nQ,hl,hnd];exact⟨rfl,rfl⟩,rfl,by simp[gP,kl];rfl,?_⟩
  have aB3:(mP row).isEmpty=false:=by
   have:=Rv row;cases h:mP row with
   |nil=>rw[h]at this;cases row with
    |nil=>exact absurd rfl bg
    |cons a r=>simp at this
   |cons a r=>rfl
  simp[iM,finish,JD,Rv,ajy,nH,aB3,old];exact JS (by rw[eL,Rv];exact aH _)
theorem ajz{α:Type}:∀es:List α,(List.range es.length).filterMap (fun i=>es[i]?)=es
 |[]=>rfl
 |a::es=>by
  have ih:=ajz es;rw[gD,List.range_succ_eq_map,JW];simp only[o8,List.filterMap_map,Function.comp_def,CC,Nat.succ_eq_add_one];rw[ih]
theorem aB4 (es:List (Int × Int))(i:Nat):(nb es)[i]? =(es[i]?).map fun p=>(V.int .i64 p.1,V.int .i64 p.2):=by
 unfold nb;rw[hL]
def rowOf (es:List (Int × Int))(d:List Nat):List (Int × Int):=(d.filterMap fun i=>es[i]?).filter fun p=>p.2 != 0
theorem aB5{es:List (Int × Int)}{d:List Nat}{i:Nat}{a b:Int}(h:es[i]? =some (a,b)):rowOf es (d++[i])=if b=0 then rowOf es d else rowOf es d++[(a,b)]:=by
 unfold rowOf;rw[List.filterMap_append,List.filter_append];by_cases hb:b=0<;>simp[h,hb]
theorem aB6{es:List (Int × Int)}{d:List Nat}(hd:d.Nodup)(hm:∀i,i∈d↔i<es.length):(rowOf es d).Perm (es.filter fun p=>p.2 != 0):=by
 have hp:d.Perm (List.range es.length):=(List.perm_ext_iff_of_nodup hd List.nodup_range).2 fun i=>by rw[hm,zJ]
 have:=(hp.filterMap fun i=>es[i]?).filter fun p=>p.2 != 0;rw[ajz]at this;exact this
theorem Rx{n:Nat}{d:List Nat}(hd:d.Nodup)(h:∀i∈d,i<n):d.length<=n:=by
 have hp:(d++(List.range n).filter fun i=>!d.contains i).Perm (List.range n):=by
  refine(List.perm_ext_iff_of_nodup ?_ List.nodup_range).2 fun i=> ?_
  ·rw[uT]
   refine⟨hd,List.nodup_range.sublist List.filter_sublist,fun a ha b hb e=> ?_⟩;subst e;simp[ha]at hb
  ·rw[iq,List.mem_filter,zJ]
   constructor
   ·rintro(hi|⟨hi,-⟩)
    ·exact h i hi
    ·exact hi
   ·intro hi
    by_cases hm:i∈d
    ·exact .inl hm
    ·exact .inr ⟨hi,by simp[hm]⟩
 have:=hp.length_eq;rw[eZ,List.length_range]at this;omega
def zu:List V->Option V
 |[.aN]=>some .aN
 |[.emp]=>some .aN
 |[.list 2 ds]=>match zt ds with
  |some ps=>if ps.length<1073741824 then some (nH (j8 ps))else none
  |none=>none
 | _=>none
theorem aB7{args:List V}{v:V}(h:zu args=some v):∃x:ae (Int × Int),args=[bn 2 gO x]/\x.l.length<1073741824/\v=nH (j8 x.l):=by
 unfold zu at h;split at h
 ·cases h;exact⟨.nil,rfl,by decide,by show V.aN=nH (j8 []);simp[j8,jc,mP,nH]⟩
 ·cases h;exact⟨.emp,rfl,by decide,by show V.aN=nH (j8 []);simp[j8,jc,mP,nH]⟩
 ·split at h
  ·rename_i ps hp
   split at h
   ·rename_i hl
    cases h;exact⟨.mk ps,by rw[Uz hp];rfl,hl,rfl⟩
   ·cases h
  ·cases h
 ·cases h
theorem aB8 (l:List (Int × Int)):bI (nH l)=true:=by
 unfold nH;split<;>rfl
variable{C:Ctx}{fid:Nat->Nat}
theorem aB9 (cD:C.P.follows .mixedOrders=true)(bC:e7 C fid)(hT:c0 C fid aa){F K ft:Nat}{fn:Func}(ag:C.P.funcs[ft]? =some fn)(dc:AR C fn (jg F K))(cH:aa F=some (.oC (xV K)))(h1:1<=fn.ntmps):nY C fid ft zu:=by
 intro G H w args v xs ab eN l1;obtain⟨cs,DJ,DK,hb,-,-,-,-,AA⟩:=dc.ok;rw[DF ag hb AA];obtain⟨x,rfl,hx,rfl⟩:=aB7 l1;obtain⟨au,T,yC,ar,eA⟩:=aBX (aa:=aa) (F:=F) (K:=K) x (by omega);have eo:=aeD x.l;have hnd:=asp x.l
 have hc:=lb.aBP (n:=0) cD bC (agH cD bC hT) ag dc (args:=[bn 2 gO x]) (v:=nH (j8 x.l)) h1 yC (st:=⟨[(24,.map 0)],au,.map (nb (jc x.l))::T,0,none⟩) (wr:=[false]) (by simp[jg,ar,ew])
  (l:=0) (bp:=nb (jc x.l)) rfl rfl (fun d s=>xW (T.length+1) (rowOf (jc x.l) d) s/\d.Nodup/\∀i∈d,i<(jc x.l).length) (fun s=>∃row,xW (T.length+1) row s/\row.Perm ((jc x.l).filter fun p=>p.2 != 0))
  ⟨⟨by simp[hO,jg],rfl,.map (nb (jc x.l))::T++[.gone],by simp,.inl ⟨rfl,rfl,by simpa[hO,jg]using eA⟩⟩,Fs,fun i hi=>by cases hi⟩
  (fun d s h=>h.1.1)
  (fun d s h i kv hi jE=>by
    rw[aB4]at jE;cases hp:(jc x.l)[i]? with
    |none=>rw[hp]at jE;cases jE
    |some p=>
     obtain⟨a,b⟩:=p;rw[hp]at jE;cases jE
     have hlen:(rowOf (jc x.l) d).length<1073741824:=by
      have h1:(rowOf (jc x.l) d).length<=d.length:=cY (Of _ _) (List.length_filterMap_le _ _);have h2:=Rx h.2.1 h.2.2;omega
     obtain⟨ao,af,ak,bK⟩:=aBZ (F:=F) (K:=K) (n:=0) (call:=b0 aa) (a:=a) (b:=b) h.1 hlen;refine⟨ao,af,by simpa using ak,?_,?_,?_⟩
     ·rw[aB5 hp];exact bK
     ·rw[uT]
      exact⟨h.2.1,by simp,fun j hj k hk=>by rw[zB]at hk;subst hk;exact fun e=>hi (e ▸ hj)⟩
     ·intro j hj
      rcases iq.1 hj with hj|hj
      ·exact h.2.2 j hj
      ·rw[zB]at hj;subst hj;exact(fj.1 hp).1)
  (fun d s h hd hm=>by
    obtain⟨ao,af,ak,bK⟩:=aB1 (F:=F) (K:=K) (call:=b0 aa) h.1;refine⟨ao,af,by simpa using ak,_,bK,aB6 hd fun i=> ?_⟩;rw[hm];unfold nb;rw[eL])
  (fun ao ⟨row,h,hp⟩=>by
    have tC:=asq hnd fun p=>p.2 != 0;have aCa:(row.map Prod.fst).Nodup:=(hp.map Prod.fst).nodup_iff.2 tC;have e:mP row=j8 x.l:=aex tC ((DX row).trans hp) (aew row);rw[<-e]
    have hl:row.length<=1099511627776:=by
     rw[hp.length_eq];have:=Of (fun p:Int × Int=>p.2 != 0) (jc x.l);omega
    exact aB2 cH h aCa hl)
  ab.apart (dh.oD eN)
 exact th hc fun e w'=>fun⟨y,af,ak⟩=>⟨y,af,ak.beside ab (aB8 _)⟩
end Go.Abs
namespace Go.Abs
open Go
variable{C:Ctx}{fid:Nat->Nat}
def vN (aa:Nat->Option bU)(k:Nat)(spec:u2):Nat->Option bU:=fun i=>match Nat.beq i k with
 |true=>some (.oC spec)
 |false=>aa i
theorem aCb (aa:Nat->Option bU)(k:Nat)(spec:u2):vN aa k spec k=some (.oC spec):=by
 unfold vN;rw[zM]
theorem N7{aa:Nat->Option bU}(hT:c0 C fid aa){k:Nat}{spec:u2}(hs:wM C fid k spec):c0 C fid (vN aa k spec) where
 code:=fun i f h=>by
  unfold vN at h;split at h
  ·cases h
  ·exact hT.code i f h
 ext:=fun i s h=>by
  unfold vN at h;split at h
  ·cases h
  ·exact hT.ext i s h
 oC:=fun i s h=>by
  unfold vN at h;split at h
  ·rename_i e
   cases h;rw[eE e];exact hs
  ·exact hT.oC i s h
end Go.Abs
namespace Go.Abs
open Go Go.Proofs
structure s8 where
 v:Value
 ok:v.oneCell'=true
instance:Inhabited s8:=⟨⟨.int .i64 0,rfl⟩⟩
theorem ajA:∀vals:List Value,(∀x∈vals,x.oneCell'=true)->∃zs:List s8,zs.map s8.v=vals
 |[],_=>⟨[],rfl⟩
 |x::r,h=>by
  obtain⟨zs,e⟩:=ajA r fun y hy=>h y (by simp[hy]);exact⟨⟨x,h x (by simp)⟩::zs,by rw[dv,e]⟩
theorem ajB{α:Type}[Inhabited α](enc:α->Value)(d:Array α)(c:Array Value)(h:d.size<=c.size):(Sort.putCells enc 0 d c).toList=d.toList.map enc++c.toList.drop d.size:=by
 refine oA fun t=> ?_;rw[fM];unfold Sort.putCells;rw[Array.getElem?_mapIdx,List.getElem?_append,eL,fw];by_cases ht:t<d.size
 ·rw[if_pos ht,hL,fM,zv (by omega),zv ht,nM,if_pos (by omega),getElem!_pos d (t-0) (by omega)]
  rfl
 ·rw[if_neg ht,CG,fM,show d.size+(t-d.size)=t by omega]
  cases c[t]? with
  |none=>rfl
  |some x=>rw[nM,if_neg (by omega)]
theorem ajC:∀ds:List V,(∀d∈ds,(aC d).length=1)->ds.reverse.flatMap aC=(ds.flatMap aC).reverse
 |[],_=>rfl
 |d::ds,h=>by
  obtain⟨x,hx⟩:=List.length_eq_one_iff.1 (h d (by simp));rw[JZ,zA,ajC ds fun y hy=>h y (by simp[hy])];simp[im,hx]
theorem a6.rev{fid:Nat->Nat}{G:bX}{w:World}:∀{vs:List V} {xs:List Value},a6 fid G w vs xs->a6 fid G w vs.reverse xs.reverse
 | _,_,.nil=>.nil
 | _,_,.cons v x vs xs h hs=>by
   rw[JZ,JZ];exact hs.rev.append (.cons _ _ _ _ h .nil)
variable{C:Ctx}{fid:Nat->Nat}
def xX:u2:=fun args H=>match args with
 |[.aN]=>some (.aU [],[],[])
 |[.emp]=>some (.aU [],[],[])
 |[.bJ l 1 0 n tag]=>match H[l]? with
  |some (.row 1 ds false)=>if ds.length=n/\n=tag/\n<=1099511627776/\bL (ds.flatMap aC)=true then some (.aU [],[(l,.row 1 ds.reverse false)],[])else none
  | _=>none
 | _=>none
theorem aCc{args:List V}{H:Heap}{v:V}{H':Heap}{low:Nat}(h:qZ xX args H=some (v,H',low)):
  ((args=[.aN]\/args=[.emp])/\v=.aU []/\H'=H/\low=H.length)\/∃l ds,args=[.bJ l 1 0 ds.length ds.length]/\H[l]? =some (.row 1 ds false)/\ds.length<=1099511627776/\bL (ds.flatMap aC)=true/\v=.aU []/\H'=H.set l (.row 1 ds.reverse false)/\low=min H.length l:=by
 obtain⟨r,hr,he⟩:=cA.1 h;unfold xX at hr;split at hr
 ·cases hr
  simp only[qe,qf,x8,lR,bx]at he;exact .inl ⟨.inl rfl,he.1.symm,he.2.1.symm,he.2.2.symm⟩
 ·cases hr
  simp only[qe,qf,x8,lR,bx]at he;exact .inl ⟨.inr rfl,he.1.symm,he.2.1.symm,he.2.2.symm⟩
 ·rename_i l n tag
  refine .inr ?_;split at hr
  ·rename_i ds hl
   split at hr
   ·rename_i hc
    obtain⟨rfl,rfl,hm,bc⟩:=hc;cases hr;simp only[qe,qf,p6,x8,lR,bx]at he;exact⟨l,ds,rfl,hl,hm,bc,he.1.symm,he.2.1.symm,he.2.2.symm⟩
   ·cases hr
  ·cases hr
 ·cases hr
theorem aCd{ft:Nat}(c5:∀xs w,(callFunc ft xs).run C.P w=.ok (.enter ft xs) w)
  (h0:∀(a:Option Addr) (cap:Nat) (w:World),Calls C.P ft #[.slice a 0 cap] w fun e w'=>e=.returned (.tuple #[])/\w'=w)
  (aA:∀(blk cap:Nat) (zs:List s8) (w:World),Sort.Holds s8.v w blk 0 zs.toArray->zs.length<=9223372036854775807->
    Calls C.P ft #[.slice (some ⟨blk,0,none⟩) zs.length cap] w fun e w'=>e=.returned (.tuple #[])/\∃n,w'=Sort.putRow s8.v (Sort.ahead w n) blk 0 zs.reverse.toArray):
  wM C fid ft xX:=by
 intro G H w args v H' low xs ab gi he;rcases aCc he with⟨ha,rfl,rfl,rfl⟩|⟨l,ds,rfl,hl,hm,bc,rfl,rfl,rfl⟩
 ·obtain⟨a,cap,rfl⟩:∃a cap,xs=[.slice a 0 cap]:=by
   rcases ha with rfl|rfl
   ·cases gi with
    |cons _ x _ xs h hs=>
     cases hs;rw[h.iZ];exact⟨_,_,rfl⟩
   ·cases gi with
    |cons _ x _ xs h hs=>
     cases hs;obtain⟨c8,hx⟩:=h.q5;rw[hx];exact⟨_,_,rfl⟩
  refine⟨?_,_,_,c5 _ _⟩;rw[c5];show Calls C.P ft ⟨[.slice a 0 cap]⟩ w _;refine th (h0 a cap w) ?_;rintro e' w' ⟨rfl,rfl⟩;exact⟨_,rfl,G,ab,fun m _=>.refl _ _ _ _,.aU _ _ .nil⟩
 obtain⟨x,rfl⟩:∃x,xs=[x]:=by
  cases gi with|cons _ x _ xs _ hs=>cases hs;exact⟨x,rfl⟩
 have hx:bh fid G w (.bJ l 1 0 ds.length ds.length) x:=by cases gi;assumption
 obtain⟨h0,c8,cR,cap,hb,oH,gY,rfl⟩:=hx.nk;obtain⟨aV,ho,hr⟩:=ab.obj l h0 hb;rw[hl]at ho;cases ho;obtain⟨nr,wy,hfz,eo,iY,c,e,vals,rest,hc,eV,gv,ep⟩:=hr;obtain⟨rfl,rfl,lU,np⟩:=gY nr;rw[vS];obtain⟨zs,jB⟩:=ajA vals (C9 ep bc)
 have hlen:vals.length=ds.length:=by
  rw[ep.length]
  have key:∀l:List V,(∀d∈l,(aC d).length=1)->(l.flatMap aC).length=l.length:=by
   intro l
   induction l with
   |nil=>intro _;rfl
   |cons d l ih=>
    intro h;rw[im,eZ,h d (by simp),ih fun y hy=>h y (by simp[hy]),gD];omega
  exact key ds iY
 have jW:zs.length=ds.length:=by rw[<-hlen,<-jB,eL]
 have hblk:h0.b<w.heap.size:=ab.blk l h0 hb
 have de:ds.length<=c.size:=by
  rw[<-fw,gv,eZ,hlen];omega
 have hH:Sort.Holds s8.v w h0.b 0 zs.toArray:=by
  intro j hj;have G3:j<zs.length:=by simpa using hj
  refine⟨?_,?_⟩
  ·rw[dA,Lib.cell_of_heap hc,<-fM,gv,e5 (by rw[hlen];omega),<-jB,hL,eg G3,getElem!_pos zs.toArray j hj]
   rfl
  ·rw[dA];exact Lib.frozen_of_heap hc j
 have bb:=aA h0.b cap zs w hH (by omega);refine⟨?_,_,_,c5 _ _⟩;rw[c5];show Calls C.P ft ⟨[.slice (some ⟨h0.b,0,none⟩) ds.length cap]⟩ w _;rw[jW]at bb;refine th bb ?_;rintro e' w' ⟨rfl,n,rfl⟩
 have Co:(Sort.putRow s8.v (Sort.ahead w n) h0.b 0 zs.reverse.toArray).heap[h0.b]? =some (.cells (Sort.putCells s8.v 0 zs.reverse.toArray c) e (0,0)):=by
  unfold Sort.putRow Sort.mapBlock;simp only[CD,if_true];show(w.heap[h0.b]?).map _=_;rw[hc];rfl
 have ql:∀b,b≠h0.b->(Sort.putRow s8.v (Sort.ahead w n) h0.b 0 zs.reverse.toArray).heap[b]? =w.heap[b]? :=fun b bg=>by
  unfold Sort.putRow Sort.mapBlock;simp only[CD];rw[if_neg fun q=>bg q.symm];rfl
 have ns:(Sort.putRow s8.v (Sort.ahead w n) h0.b 0 zs.reverse.toArray).heap.size=w.heap.size:=by
  unfold Sort.putRow Sort.mapBlock;simp[Sort.ahead]
 have gj:=Ext.write (h':=h0) ab hb hfz rfl (aH _) id rfl ns ql rfl rfl
 have aCe:a6 fid G w (ds.reverse.flatMap aC) vals.reverse:=by
  rw[ajC ds iY];exact ep.rev
 refine⟨_,rfl,⟨cp G.β l h0,G.I⟩,a8.write ab hb hfz rfl hfz (aH _) id rfl ns ql _ ?_,fun m h7=>gj.le (cY h7 (nJ _ _)) (aH _),.aU _ _ .nil⟩;refine⟨by rw[JV];exact nr,by rw[JV];exact wy,hfz,eo,fun d hd=>iY d (List.mem_reverse.1 hd),_,e,vals.reverse,rest,Co,?_,?_,aCe.ext ab gj⟩
 ·rw[eV];simp[Sort.putCells]
 ·rw[ajB _ _ _ (by simp;omega)]
  rw[gv,List.drop_left' (by rw[hlen];simp;omega),CF,List.map_reverse,jB]
theorem aCf{aa:Nat->Option bU}{i:Nat}(cH:aa i=some (.oC xX)):(∀H,b0 aa (.fn i [] []) [.aN] H=some (.aU [],H,H.length))/\(∀H,b0 aa (.fn i [] []) [.emp] H=some (.aU [],H,H.length))/\
  ∀(H:Heap) (l:Nat) (ds:List V),H[l]? =some (.row 1 ds false)->bL (ds.flatMap aC)=true->ds.length<=1099511627776->b0 aa (.fn i [] []) [.bJ l 1 0 ds.length ds.length] H=some (.aU [],H.set l (.row 1 ds.reverse false),min H.length l):=by
 refine⟨fun H=> ?_,fun H=> ?_,fun H l ds hl bc hm=> ?_⟩
 ·rw[k3,cH];simp[qZ,xX,qe,qf]
 ·rw[k3,cH];simp[qZ,xX,qe,qf]
 ·rw[k3,cH]
  simp[qZ,xX,hl,bc,hm,qe,qf]
end Go.Abs
namespace Go.Proofs
open Go.Shelf
def Tryz.aCg:Go.Shelf.Ren:=⟨fun|35=>26|n=>n,fun|22=>59|23=>31|n=>n,fun|n=>n⟩
theorem Tryz.ajD:Go.Proofs.SlLaysE.n35 Tryz.prog Tryz.aCg:={
 mixed:=by kernel_rfl
 f35:=⟨Tryz.f26.name,by decide,Tryz.func26.trans (congrArg some (by kernel_rfl))⟩
 t0:=Tryz.underlying0
 a0:=Tryz.isAgg0
 z0:=Tryz.sizeOf0
 v0:=Tryz.zeroValue0
 t3:=Tryz.underlying3
 a3:=Tryz.isAgg3
 z3:=Tryz.sizeOf3
 v3:=Tryz.zeroValue3
 t4:=Tryz.underlying4
 a4:=Tryz.isAgg4
 z4:=Tryz.sizeOf4
 v4:=Tryz.zeroValue4
 t22:=Tryz.underlying59
 a22:=Tryz.isAgg59
 z22:=Tryz.sizeOf59
 v22:=Tryz.zeroValue59
 a23:=Tryz.isAgg31
 z23:=Tryz.sizeOf31}
end Go.Proofs
set_option maxRecDepth 100000
namespace Go.Abs.bz
open Go Go.Abs Go.Proofs Go.Sort
noncomputable section
variable{g:Nat->Option Obj}
def UF (g:Nat->Option Obj):Nat->Option bU:=vN (eS g) 84 (Go.Abs.xV 85)
theorem ajE (h:c0 (C g) id (eS g)):c0 (C g) id (UF g):=N7 h aBO
theorem aCh (g:Nat->Option Obj):AR (C g) Tryz.f52 (Go.Abs.jg 84 85):=⟨[fR iy,fR (cB iy),fR (cB (cB iy)),fR (cB (cB (cB iy)))],fR (cB (cB (cB (cB iy)))),cB (cB (cB (cB (cB iy)))),by kernel_rfl,by kernel_rfl,by kernel_rfl,by kernel_rfl,by kernel_rfl,by kernel_rfl⟩
theorem aCi (h:c0 (C g) id (eS g)):nY (C g) id 52 zu:=aB9 mixed tU (ajE h) Tryz.func52 (aCh g) (by unfold UF;exact aCb _ _ _) (by decide)
theorem aCj:wM (C g) id 26 xX:=
 aCd (C:=C g) (fid:=id) (enters_of Tryz.func26 (by kernel_rfl) rfl) (fun a cap w=>AnyE.slices_Reverse_empty Tryz.ajD a cap w) fun blk cap zs w hH de=>
  AnyE.slices_Reverse Tryz.ajD s8.v (fun x=>x.ok) blk 0 cap zs w hH de
def ajF (g:Nat->Option Obj):Nat->Option bU:=vN (UF g) 26 xX
theorem aCk (h:c0 (C g) id (eS g)):c0 (C g) id (ajF g):=N7 (ajE h) aCj
def cu (g:Nat->Option Obj):Nat->Option bU:=over (over (over (ajF g) 52 zu) 128 zm) 7 (AB [] (.bool true))
theorem aCl (h:c0 (C g) id (eS g)):c0 (C g) id (cu g):=yw (yw (yw (aCk h) (aCi h)) (aid h)) (ah7 h)
theorem aCm:Go.Abs.gB.sY aE (cu g) 26 (19,0):=
 have h:=aCf (aa:=cu g) (i:=26) (by kernel_rfl)
 (⟨h.1,h.2.1,h.2.2⟩:LP (cu g) 26 1)
theorem aCn (x:ae Term):cj [bn 2 oX x]=true:=by simp[cj]
theorem aCo (x:ae Term):bn 2 oX x=bn 2 gO (x.map fun t=>(t.Cell,t.gA)):=by
 cases x with
 |nil=>rfl
 |emp=>rfl
 |mk l=>simp only[bn,ae.map,kX];rfl
theorem ajG{α β:Type}(f:α->β)(x:ae α):(x.map f).l=x.l.map f:=by cases x<;>rfl
theorem aCp (x:ae (Int × Int))(h:x.l.length<1073741824):zu [bn 2 gO x]=some (nH (j8 x.l)):=by
 cases x with
 |nil=>show some V.aN=_;simp[ae.l,j8,jc,mP,nH]
 |emp=>show some V.aN=_;simp[ae.l,j8,jc,mP,nH]
 |mk l=>
  show(match zt (l.map gO)with
   |some ps=>if ps.length<1073741824 then some (nH (j8 ps))else none
   |none=>none)=_
  rw[UA];exact if_pos h
theorem aCq (l:List (Int × Int)):nH l=bn 2 oX (uh l):=by
 unfold nH uh;cases l with
 |nil=>rfl
 |cons p l=>
  show V.list 2 ((p::l).map gO)=V.list 2 (((p::l).map fun p=>Term.mk p.1 p.2).map oX);rw[kX];rfl
theorem aCr{x r:ae Term}(h:D0 x=some r):zu [bn 2 oX x]=some (bn 2 oX r):=by
 unfold D0 at h;split at h
 ·rename_i hl
  cases h;rw[aCo,aCp _ (by rw[ajG,eL];exact hl),ajG,aCq]
 ·cases h
end
end Go.Abs.bz
