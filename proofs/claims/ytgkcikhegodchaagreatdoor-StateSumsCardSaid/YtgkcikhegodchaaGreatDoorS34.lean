/- Texts of this claim, joined and written short by a program. -/
import Derived.Test.YtgkcikhegodchaaGreatDoorS31
import Derived.Test.YtgkcikhegodchaaGreatDoorS33
import Derived.Test.YtgkcikhegodchaaGreatDoorS32
import Derived.Test.YtgkcikhegodchaaGreatDoorS21
import Derived.Test.YtgkcikhegodchaaGreatDoorS10
import Derived.Test.YtgkcikhegodchaaGreatDoorS28
import Derived.Test.YtgkcikhegodchaaGreatDoorS29
import Derived.Test.YtgkcikhegodchaaGreatDoorS30
import Derived.Test.YtgkcikhegodchaaGreatDoorS00
set_option linter.unusedVariables false
set_option linter.unusedSimpArgs false
set_option linter.unusedSectionVars false
namespace Go.Abs.bs
open Go Go.Abs Go.Abs.ry
noncomputable section
def enc (p:List Nat):ad Int:=.mk (p.map fun(a:Nat)=>(a:Int))
theorem ys (p:List Nat):(enc p).l=p.map fun(a:Nat)=>(a:Int):=rfl
def A9 (c:Constraint)(N:Nat):Bool:=(c.Kind==1)&&(decide (c.fL>=1)&&(decide (c.fL<=6)&&(decide (c.dc>=0)&&decide (c.dc<=(N:Int)-c.fL*c.fL))))
def kP (v:List Int)(f n:Nat)(a b:Nat):Bool:=decide (v.getD (f+a*n+b) 0>=1)
theorem aes (c:Constraint){N:Nat}(jk:N<=100000):F3 c (N:Int)=some (A9 c N):=by
 unfold F3 A9;by_cases h:c.fL>=1/\c.fL<=6
 ·have h1:c.fL*c.fL<=36:=by
   have:=Mr h.2 h.2 (by omega) (by omega);omega
  have h2:0<=c.fL*c.fL:=Int.mul_nonneg (by omega) (by omega);rw[eY (n:=c.fL*c.fL) (by omega) (by omega),eY (by omega) (by omega)]
 ·have:(decide (c.fL>=1)&&decide (c.fL<=6))=false:=by
   rw[Mm];intro e;simp only[cn,decide_eq_true_eq]at e;exact h e
  congr 2;rw[<-yF,<-yF (decide (c.fL>=1)),this];rfl
structure Dt (c:Constraint) (st:ad Int) (f n:Nat):Prop where
 ae:c.dc=f
 hn:c.fL=n
 kC:1<=n
 n6:n<=6
 le:f+n*n<=st.l.length
 N:st.l.length<=100000
theorem av6{c:Constraint}{st:ad Int}(jk:st.l.length<=100000)(h:A9 c st.l.length=true):Dt c st c.dc.toNat c.fL.toNat:=by
 unfold A9 at h;simp only[cn,decide_eq_true_eq]at h;obtain⟨-,h1,h2,ar,aR⟩:=h
 have e:((c.fL.toNat*c.fL.toNat:Nat):Int)=c.fL*c.fL:=by
  have:(c.fL.toNat:Int)=c.fL:=Int.toNat_of_nonneg (by omega);rw[Int.natCast_mul,this]
 exact⟨by omega,by omega,by omega,by omega,by omega,jk⟩
section
variable{c:Constraint}{st:ad Int}{f n:Nat}
theorem mul_lt{a n:Nat}(ha:a<n)(b:Nat)(hb:b<n):a*n+b<n*n:=by
 have:(a+1)*n<=n*n:=HH n ha;rw[yG]at this;omega
theorem aet (g:Dt c st f n){a b:Nat}(ha:a<n)(hb:b<n):F4 st c (a:Int) (b:Int)=some (kP st.l f n a b):=by
 have h:=mul_lt ha b hb;have hn:=g.N;have hl:=g.le;unfold F4 kP
 rw[g.ae,g.hn,show((a:Int)*(n:Int))=((a*n:Nat):Int)from(Int.natCast_mul a n).symm,eY (n:=((a*n:Nat):Int)) (by omega) (by omega),eY (n:=(f:Int)+_) (by omega) (by omega),eY (by omega) (by omega),
  show((f:Int)+((a*n:Nat):Int)+(b:Int))=((f+a*n+b:Nat):Int) by omega,dV,gq (by omega)]
 simp[iL,gq (show f+a*n+b<st.l.length by omega)]
theorem av7 (p:List Nat)(v:Nat)(hp:p.length<=100000):Ac (enc p) (v:Int)=some (p.contains v):=by
 have:Ac (enc p) (v:Int)=some ((enc p).l.any fun x=>(v:Int)==x):=AX (enc p) (by rw[ys,ef];omega) (f:=fun x=>some ((v:Int)==x)) (fun x _=>rfl);rw[this,ys,List.any_map];congr 1;rw[xb,rD,sE];constructor
 ·rintro⟨x,hx,e⟩
  have e:(v:Int)=(x:Int):=by simpa using e
  rw[Int.ofNat_inj.1 e];exact hx
 ·intro h;exact⟨v,h,by simp⟩
theorem LY{jJ:Nat}{A:Type}{x:ad A}(a:A)(hb:jJ+1<=1000)(h:x.l.length<=1000000):gn jJ x (ad.mk [a])=some (.mk (x.l++[a])):=by
 unfold gn;rw[if_neg (by intro e;cases e),if_pos]
 ·rfl
 ·show(x.l.length+1)*(jJ+1)<=2^40
  have:(x.l.length+1)*(jJ+1)<=1000001*1000:=HU (by omega) hb;omega
theorem av8{p:List Nat}(hp:p≠[])(hl:p.length<=1000):xO 8 (enc p)=some (enc p):=by
 show gn 8 .emp (enc p)=_;unfold gn;rw[if_neg (by rw[ys];simpa using hp),if_pos]
 ·rfl
 ·show(0+(enc p).l.length)*9<=2^40
  rw[ys,ef];omega
theorem aeu (g:Dt c st f n){p:List Nat}{last:Nat}(hp:p≠[])(jg:p.length<=6)(aev:last<n):∀(d v:Nat) (acc:ad (ad Int)),v+d=n->acc.l.length+d<=1000000->
  ∃z,bZ (F5 c st (enc p) (last:Int)) ((v:Int),acc)=some z/\z.l=acc.l++((List.range' v d).filter fun v=>kP st.l f n last v&&!p.contains v).map fun v=>enc (p++[v])
 |0,v,acc,af,_=>⟨acc,by
   rw[fK];simp only[F5,g.hn,show decide ((v:Int)<(n:Int))=false by simp;omega,cond_false],by simp⟩
 |d+1,v,acc,af,hl=>by
  have LZ:=g.n6;have K6:v<n:=by omega
  have wV:F5 c st (enc p) (last:Int) ((v:Int),acc)=some (.next (((v+1:Nat):Int),bif kP st.l f n last v&&!p.contains v then .mk (acc.l++[enc (p++[v])])else acc)):=by
   simp only[F5,g.hn,show decide ((v:Int)<(n:Int))=true by simp;omega,cond_true,aet g aev K6,bm,av7 p v (by omega)];cases kP st.l f n last v with
   |false=>
    simp only[cond_false,bm,Ms];rw[eY (by omega) (by omega)];rfl
   |true=>
    simp only[cond_true,bm,fF];cases p.contains v with
    |true=>
     simp only[iN,cond_false];rw[eY (by omega) (by omega)];rfl
    |false=>
     simp only[xc,cond_true,av8 hp (by omega),bm];rw[LY (v:Int) (by omega) (by rw[ys,ef];omega)];simp only[bm];rw[LY _ (by omega) (by omega)];simp only[bm];rw[eY (by omega) (by omega),ys];simp[enc]
  obtain⟨z,e,el⟩:=aeu g hp jg aev d (v+1) (bif kP st.l f n last v&&!p.contains v then .mk (acc.l++[enc (p++[v])])else acc) (by omega) (by
   cases kP st.l f n last v&&!p.contains v with
   |false=>show acc.l.length+d<=_;omega
   |true=>show(acc.l++[_]).length+d<=_;simp;omega)
  refine⟨z,by rw[fK,wV];exact e,?_⟩;rw[el,qw,List.filter_cons];cases kP st.l f n last v&&!p.contains v with
  |false=>simp
  |true=>simp[show(ad.mk (acc.l++[enc (p++[v])])).l=acc.l++[enc (p++[v])]from rfl]
theorem aew (g:Dt c st f n){ps:List (List Nat)}(mC:∀p∈ps,Path (kP st.l f n) n p){w:ad (ad Int)}(hw:w.l=ps.map enc)(hk:ps.length<=1000000):∀(r:List (List Nat)) (k:Nat) (acc:ad (ad Int)),ps.drop k=r->acc.l.length+6*r.length<=1000000->
  ∃z,bZ (F6 c st w) ((k:Int),acc)=some z/\(match r.find? (Ds (kP st.l f n))with|some l=>z=.ret (enc l)|none=>∃a,z=.go a/\a.l=acc.l++(r.flatMap (rz (kP st.l f n) n)).map enc)
 |[],k,acc,hr,_=>⟨.go acc,by
    have:ps.length<=k:=List.drop_eq_nil_iff.1 hr;rw[fK];simp only[F6,ew,hw,ef,show decide ((k:Int)<(ps.length:Int))=false by simp;omega,cond_false],⟨acc,rfl,by simp⟩⟩
 |p::r,k,acc,hr,hl=>by
  have LZ:=g.n6
  have aK:k<ps.length:=by
   rcases fV k ps.length with q|q
   ·exact q
   ·rw[u1 q]at hr;cases hr
  have aex:ps[k]? =some p:=by
   have:=congrArg (·[0]?) hr;simpa using this
  have da:ps.drop (k+1)=r:=by
   have:=congrArg List.tail hr;simpa using this
  have hp:=mC p (gV aex);have hlen:=hp.len;have aZ:=hp.ne
  obtain⟨a,b,ab,aj,bC,cu,h1,h2⟩:∃a b,p[0]? =some a/\p.headD 0=a/\p[p.length-1]? =some b/\p.getLastD 0=b/\a<n/\b<n:=by
   have hC:0<p.length:=Bg.2 aZ;refine⟨p[0],p[p.length-1],by simp[hC],?_,by simp[hC],?_,hp.lt _ (by simp),hp.lt _ (by simp)⟩
   ·cases p with
    |nil=>exact absurd rfl aZ
    |cons x q=>rfl
   ·rw[aeq aZ,iL,gq (by omega)];rfl
  have av9:w.l[k]? =some (enc p):=by rw[hw,h8,aex];rfl
  have jg:(0:Nat)<p.length:=Bg.2 aZ;have i0:bj (enc p).l 0=some (a:Int):=by rw[RE,ys,h8,ab];rfl
  have i1:bj (enc p).l (aM ((enc p).len-1))=some (b:Int):=by
   rw[ew,ys,ef,eY (by omega) (by omega),show((p.length:Nat):Int)-1=((p.length-1:Nat):Int) by omega,dV,h8,bC];rfl
  have fe:Ds (kP st.l f n) p=kP st.l f n b a:=by unfold Ds;rw[aj,cu]
  rw[fK];simp only[F6,ew w,hw,ef,show decide ((k:Int)<(ps.length:Int))=true by simp;omega,cond_true,dV];rw[<-hw,av9];simp only[bm,i0,i1,aet g h2 h1];rw[HS,fe];cases hb:kP st.l f n b a with
  |true=>exact⟨_,rfl,rfl⟩
  |false=>
   simp only[cond_false];obtain⟨z,nN,awa⟩:=aeu g aZ (by omega) h2 (n-(a+1)) (a+1) acc (by omega) (by simp only[fl]at hl;omega)
   have qG:z.l=acc.l++(rz (kP st.l f n) n p).map enc:=by
    rw[awa];unfold rz;rw[aj,cu,kR];rfl
   rw[eY (by omega) (by omega),show((a:Int)+1)=((a+1:Nat):Int)from rfl,nN];simp only[bm];rw[eY (by omega) (by omega),show((k:Int)+1)=((k+1:Nat):Int)from rfl]
   have amC:(rz (kP st.l f n) n p).length<=6:=by
    unfold rz;rw[ef];refine cM (Me _ _) ?_;rw[List.length_range'];omega
   obtain⟨y,pe,hy⟩:=aew g mC hw hk r (k+1) z da (by rw[qG];simp only[fD,ef,fl]at hl⊢; omega);refine⟨y,pe,?_⟩;cases ae:r.find? (Ds (kP st.l f n))with
   |some l=>rw[ae]at hy;exact hy
   |none=>
    rw[ae]at hy;obtain⟨a8,e',awb⟩:=hy;exact⟨a8,e',by rw[awb,qG,kd,jP,kr]⟩
theorem awc{iu:Nat->Nat->Bool}{p:List Nat}:(rz iu n p).length<=n:=by
 unfold rz;rw[ef];refine cM (Me _ _) ?_;rw[List.length_range'];omega
theorem Ba{iu:Nat->Nat->Bool}:∀(ps:List (List Nat)),(ps.flatMap (rz iu n)).length<=ps.length*n
 |[]=>by simp
 |p::r=>by
  have h1:=awc (n:=n) (iu:=iu) (p:=p);have h2:=Ba (iu:=iu) r;rw[kd,fD,fl,yG];omega
theorem aey:∀(m:Nat),m<=7->6^m<=300000:=by decide
theorem aez (g:Dt c st f n):∀(j k:Nat) (ps:List (List Nat)) (w:ad (ad Int)),k+j=n+2->1<=k->Hw (kP st.l f n) n k ps->w.l=ps.map enc->ps.length<=6^k->
  ∃z,bZ (CQ c st) w=some z/\(match Hv (kP st.l f n) n j ps with|some l=>z=.ret (enc l)|none=>z=.go ())
 |0,k,ps,w,hj,h1,az,hw,hl=>⟨.go (),by
   have:=aer az (by omega);subst this;rw[fK];simp only[CQ,ew,hw,iO,mQ];rfl,rfl⟩
 |j+1,k,ps,w,hj,h1,az,hw,hl=>by
  have LZ:=g.n6;unfold Hv;cases nG:ps with
  |nil=>
   subst nG;refine⟨.go (),?_,by simp⟩;rw[fK];simp only[CQ,ew,hw,iO,mQ];rfl
  |cons p r=>
   rw[<-nG]
   have hk:k<=n:=by
    rcases fV n k with q|q
    ·have:=aer az q;rw[this]at nG;cases nG
    ·exact q
   have eo:=aey k (by omega);have lC:=aey (k+1) (by omega);have aZ:ps≠[]:=by rw[nG];simp
   have hC:0<ps.length:=Bg.2 aZ;obtain⟨z,nN,aO⟩:=aew g (fun p hp=>(az p hp).1) hw (by omega) ps 0 .nil (by simp) (by show 0+6*ps.length<=_;omega)
   have wV:∀x,bZ (F6 c st w) (0,.nil)=some x->CQ c st w=match x with| .go p=>some (.next p)| .ret p=>some (.out (.ret p)):=fun x hx=>by
    unfold CQ;simp only[ew,hw,ef,show decide (((ps.length:Nat):Int)>0)=true by simp;omega,cond_true,hx,bm];cases x<;>rfl
   rw[fK,wV z nN];cases ae:ps.find? (Ds (kP st.l f n))with
   |some l=>
    rw[ae]at aO;simp only at aO;subst aO;exact⟨_,rfl,rfl⟩
   |none=>
    rw[ae]at aO;obtain⟨a,rfl,ha⟩:=aO;rw[if_neg aZ];refine aez g j (k+1) _ a (by omega) (by omega) (av5 az) (by rw[ha];simp[ad.l]) ?_;have:=Ba (n:=n) (iu:=kP st.l f n) ps;have vz:ps.length*n<=6^k*6:=HU hl LZ;rw[Nat.pow_succ];omega
theorem aeA (g:Dt c st f n):∀(d v:Nat) (acc:ad (ad Int)),v+d=n->acc.l.length+d<=100000->∃z,bZ (Ko c) ((v:Int),acc)=some z/\z.l=acc.l++((List.range' v d).map fun a=>enc [a])
 |0,v,acc,af,_=>⟨acc,by
   rw[fK];simp only[Ko,g.hn,show decide ((v:Int)<(n:Int))=false by simp;omega,cond_false],by simp⟩
 |d+1,v,acc,af,hl=>by
  have LZ:=g.n6;obtain⟨z,e,el⟩:=aeA g d (v+1) (.mk (acc.l++[enc [v]])) (by omega) (by show(acc.l++[_]).length+d<=_;simp;omega);refine⟨z,?_,by rw[el,qw];simp[show(ad.mk (acc.l++[enc [v]])).l=acc.l++[enc [v]]from rfl]⟩;rw[fK];simp only[Ko,g.hn,show decide ((v:Int)<(n:Int))=true by simp;omega,cond_true];rw[LY _ (by omega) (by omega)];simp only[bm];rw[eY (by omega) (by omega)];exact e
def aeB (c:Constraint)(v:List Int):List Nat:=bif A9 c v.length then(aep (kP v c.dc.toNat c.fL.toNat) c.fL.toNat).getD []else[]
theorem awd (c:Constraint)(st:ad Int)(jk:st.l.length<=100000):∃z,Kp c st=some z/\z.l=(aeB c st.l).map fun(a:Nat)=>(a:Int):=by
 unfold Kp aeB;rw[ew,aes c jk];cases a6:A9 c st.l.length with
 |false=>exact⟨_,rfl,rfl⟩
 |true=>
  have g:=av6 jk a6;generalize c.dc.toNat=f at g;generalize c.fL.toNat=n at g;obtain⟨z,nN,aO⟩:=aeA g n 0 .nil (by omega) (by show 0+n<=_;have:=g.n6;omega);simp only[bm,cond_true];rw[show((0:Nat):Int)=0 from rfl]at nN;rw[nN];simp only[bm]
  have hs:z.l=(ry.start n).map enc:=by
   rw[aO,ry.start,<-DD,kR];rfl
  obtain⟨y,pe,hy⟩:=aez g (n+1) 1 (ry.start n) z (by omega) (by omega) av4 hs (by unfold ry.start;rw[ef,List.length_range];have:=g.n6;omega);rw[pe];simp only[bm];unfold aep;cases hc:Hv (kP st.l f n) n (n+1) (ry.start n)with
  |none=>rw[hc]at hy;simp only at hy;subst hy;exact⟨_,rfl,rfl⟩
  |some l=>rw[hc]at hy;simp only at hy;subst hy;exact⟨_,rfl,rfl⟩
end
end
end Go.Abs.bs
namespace Go.Abs.bs
open Go Go.Abs
noncomputable section
theorem awe{S O:Type}{f:S->Option (cU S O)}(I:Nat->S->Prop)(n:Nat)(h:∀k s,k<n->I k s->(∃ao,f s=some (.next ao)/\I (k+1) ao)\/∃o,f s=some (.out o))(e:∀s,I n s->∃o,f s=some (.out o)){s:S}(h0:I 0 s):∃o,bZ f s=some o:=by
 have key:∀(d k:Nat) (s:S),k+d=n->I k s->∃o,bZ f s=some o:=by
  intro d
  induction d with
  |zero=>
   intro k s hk bk;have:k=n:=by omega
   subst this;obtain⟨o,ho⟩:=e s bk;exact⟨o,by rw[fK,ho]⟩
  |succ d ih=>
   intro k s hk bk;rcases h k s (by omega) bk with⟨ao,h1,h2⟩|⟨o,ho⟩
   ·obtain⟨o,ho⟩:=ih (k+1) ao (by omega) h2
    exact⟨o,by rw[fK,h1];exact ho⟩
   ·exact⟨o,by rw[fK,ho]⟩
 exact key n 0 s (by omega) h0
theorem awf{α:Type}{x:ad α}{k:Nat}(h:x.l.length<=k):decide ((k:Int)<x.len)=false:=by rw[ew];simp;exact h
theorem awg (c:Constraint)(st:ad Int)(jk:st.l.length<=100000)(hT:b2 c.Row.cC.l):∃b,qp c st=some b:=by
 unfold qp;cases c.Kind==1 with
 |true=>
  simp only[cond_true];rw[ew,aes c jk];cases A9 c st.l.length with
  |false=>exact⟨_,rfl⟩
  |true=>
   obtain⟨z,e,-⟩:=awd c st jk;simp only[bm,cond_true,e];exact⟨_,rfl⟩
 |false=>
  simp only[cond_false]
  obtain⟨o,ho⟩:=awe (f:=tv c st) (I:=fun k (s:Int × Int × Int)=>s.2.2=(k:Int)) c.Row.cC.l.length (fun k s hk bk=>by
   obtain⟨a,b,i⟩:=s;simp only at bk;subst bk;simp only[tv,gF hk,cond_true,dV,gq hk,bm];generalize c.Row.cC.l[k]=t;cases hc:decide (t.Cell<0)||decide (t.Cell>=st.len)with
   |true=>exact .inr ⟨_,rfl⟩
   |false=>
    have hc0:=of_decide_eq_false (yz.1 hc).1;have r4:=of_decide_eq_false (yz.1 hc).2;rw[ew]at r4
    have:bj st.l t.Cell=some (st.l.getD t.Cell.toNat 0):=by
     rw[A1 (by omega),gq (by omega),iL,gq (by omega)];rfl
    simp only[cond_false,this,bm];refine .inl ⟨_,rfl,?_⟩;simp only;unfold b2 at hT;rw[eT (by omega)]) (fun s bk=>by
   obtain⟨a,b,i⟩:=s;simp only at bk;subst bk;simp only[tv,hv,cond_false];exact⟨_,rfl⟩) (s:=(0,0,0)) rfl
  rw[ho];simp only[bm];cases o with
  |ret p=>exact⟨_,rfl⟩
  |go p=>
   obtain⟨x,y⟩:=p;cases c.Kind==0<;>exact⟨_,rfl⟩
def gp (l:List Int)(c:Change):List Int:=bif decide (c.Cell>=0)&&decide (c.Cell<l.length)then l.set c.Cell.toNat (aM (l.getD c.Cell.toNat 0+c.Add))else l
def nw (l:List Int)(d:List Change):List Int:=d.foldl gp l
theorem Du (l:List Int)(c:Change):(gp l c).length=l.length:=by
 unfold gp;cases decide (c.Cell>=0)&&decide (c.Cell<l.length)<;>simp
theorem w5:∀(d:List Change) (l:List Int),(nw l d).length=l.length
 |[],_=>rfl
 |c::r,l=>by
  show(nw (gp l c) r).length=_;rw[w5 r,Du]
theorem Hx (n:Int):∃k:Int,aM n=n-18446744073709551616*k/\ -9223372036854775808<=aM n/\aM n<=9223372036854775807:=by
 have e:IntKind.i64.signed=true:=rfl;have ab:(2:Int)^IntKind.i64.bits=18446744073709551616:=rfl;have aj:(2:Int)^(IntKind.i64.bits-1)=9223372036854775808:=rfl;by_cases h:n%18446744073709551616>=9223372036854775808
 ·have:aM n=n%18446744073709551616-18446744073709551616:=by
   unfold aM IntKind.wrap;simp only[e,ab,aj,fF,decide_eq_true_eq];rw[if_pos h]
  exact⟨n/18446744073709551616+1,by omega,by omega,by omega⟩
 ·have:aM n=n%18446744073709551616:=by
   unfold aM IntKind.wrap;simp only[e,ab,aj,fF,decide_eq_true_eq];rw[if_neg h]
  exact⟨n/18446744073709551616,by omega,by omega,by omega⟩
theorem Sw (x a b:Int):aM (aM (x+a)+b)=aM (x+a+b):=by
 obtain⟨b6,h1,-,-⟩:=Hx (x+a);obtain⟨dI,h2,ar,aR⟩:=Hx (aM (x+a)+b);obtain⟨kf,h5,eo,lC⟩:=Hx (x+a+b);omega
theorem awh (l:List Int)(c d:Change):gp (gp l c) d=gp (gp l d) c:=by
 have hl:=Du l c;have mj:=Du l d;by_cases h1:c.Cell>=0/\c.Cell<l.length
 ·by_cases h2:d.Cell>=0/\d.Cell<l.length
  ·have ab:(decide (c.Cell>=0)&&decide (c.Cell<l.length))=true:=by simp[h1]
   have aj:(decide (d.Cell>=0)&&decide (d.Cell<l.length))=true:=by simp[h2]
   have s1:gp l c=l.set c.Cell.toNat (aM (l.getD c.Cell.toNat 0+c.Add)):=by unfold gp;rw[ab];rfl
   have s2:gp l d=l.set d.Cell.toNat (aM (l.getD d.Cell.toNat 0+d.Add)):=by unfold gp;rw[aj];rfl
   have bC:(decide (d.Cell>=0)&&decide (d.Cell<(gp l c).length))=true:=by rw[hl];exact aj
   have cu:(decide (c.Cell>=0)&&decide (c.Cell<(gp l d).length))=true:=by rw[mj];exact ab
   rw[show gp (gp l c) d=(gp l c).set d.Cell.toNat (aM ((gp l c).getD d.Cell.toNat 0+d.Add))from by rw[gp.eq_def (gp l c) d,bC];rfl,
    show gp (gp l d) c=(gp l d).set c.Cell.toNat (aM ((gp l d).getD c.Cell.toNat 0+c.Add))from by rw[gp.eq_def (gp l d) c,cu];rfl,s1,s2]
   by_cases zU:c.Cell.toNat=d.Cell.toNat
   ·rw[<-zU]
    have aK:c.Cell.toNat<l.length:=by omega
    have g:∀x:Int,(l.set c.Cell.toNat x).getD c.Cell.toNat 0=x:=fun x=>by
     rw[iL,mP aK];rfl
    rw[g,g,List.set_set,List.set_set,Sw,Sw,Int.add_right_comm]
   ·have g1:∀x:Int,(l.set c.Cell.toNat x).getD d.Cell.toNat 0=l.getD d.Cell.toNat 0:=fun x=>by
     rw[iL,iv zU,<-iL]
    have g2:∀x:Int,(l.set d.Cell.toNat x).getD c.Cell.toNat 0=l.getD c.Cell.toNat 0:=fun x=>by
     rw[iL,iv (kS zU),<-iL]
    rw[g1,g2,List.set_comm _ _ zU]
  ·have kC:∀m:List Int,m.length=l.length->gp m d=m:=fun m hm=>by
    unfold gp;rw[hm,show(decide (d.Cell>=0)&&decide (d.Cell<(l.length:Int)))=false from by rw[Mm];intro e;simp only[cn,decide_eq_true_eq]at e;exact h2 e];rfl
   rw[kC _ hl,kC l rfl]
 ·have kC:∀m:List Int,m.length=l.length->gp m c=m:=fun m hm=>by
   unfold gp;rw[hm,show(decide (c.Cell>=0)&&decide (c.Cell<(l.length:Int)))=false from by rw[Mm];intro e;simp only[cn,decide_eq_true_eq]at e;exact h1 e];rfl
  rw[kC l rfl,kC _ mj]
theorem awi (l:List Int)(a b:List Change):nw (nw l a) b=nw (nw l b) a:=by
 unfold nw;rw[<-S6,<-S6];exact List.Perm.foldl_eq' List.perm_append_comm (fun x _ y _ z=>awh z x y) l
theorem awj{α:Type}{jJ:Nat}{x:ad α}(hb:jJ+1<=1000)(h:x.l.length<=100000):∃z,xO jJ x=some z/\z.l=x.l:=by
 cases x with
 |nil=>exact⟨_,rfl,rfl⟩
 |emp=>exact⟨_,rfl,rfl⟩
 |mk l=>
  obtain⟨z,e,el⟩:=Dh (x:=(ad.emp:ad α)) (y:=ad.mk l) hb (by show 0+l.length<=_;have:l.length<=100000:=h;omega);exact⟨z,e,by rw[el];rfl⟩
theorem Hy (a:ad Int)(d:ad Change)(ha:a.l.length<=100000)(hd:b2 d.l):∃z,xW a d=some z/\z.l=nw a.l d.l:=by
 unfold xW;obtain⟨s,e,el⟩:=awj (jJ:=8) (x:=a) (by omega) ha;rw[e];simp only[bm]
 have key:∀(r:List Change) (k:Nat) (s:ad Int),d.l.drop k=r->s.l.length=a.l.length->∃z,bZ (FZ d) ((k:Int),s)=some z/\z.l=nw s.l r:=by
  intro r
  induction r with
  |nil=>
   intro k s hr hs;have hk:d.l.length<=k:=List.drop_eq_nil_iff.1 hr;refine⟨s,?_,rfl⟩;rw[fK];simp only[FZ,awf hk,cond_false]
  |cons c r ih=>
   intro k s hr hs
   have aK:k<d.l.length:=by
    rcases fV k d.l.length with q|q
    ·exact q
    ·rw[u1 q]at hr;cases hr
   have awk:d.l[k]? =some c:=by
    have:=congrArg (·[0]?) hr;simpa using this
   have da:d.l.drop (k+1)=r:=by
    have:=congrArg List.tail hr;simpa using this
   have hn:∃ao,FZ d ((k:Int),s)=some (.next (((k+1:Nat):Int),ao))/\ao.l=gp s.l c:=by
    unfold b2 at hd;simp only[FZ,gF aK,cond_true,dV,awk,bm];rw[eT (by omega)];unfold gp;rw[show decide (c.Cell<(s.l.length:Int))=decide (c.Cell<s.len)from rfl];cases hc:decide (c.Cell>=0)&&decide (c.Cell<s.len)with
    |false=>exact⟨s,rfl,rfl⟩
    |true=>
     have hc0:=of_decide_eq_true (Bool.and_eq_true_iff.1 hc).1;have r4:=of_decide_eq_true (Bool.and_eq_true_iff.1 hc).2;rw[ew]at r4
     have:bj s.l c.Cell=some (s.l.getD c.Cell.toNat 0):=by
      rw[A1 (by omega),gq (by omega),iL,gq (by omega)];rfl
     simp only[cond_true,this,bm];exact⟨_,rfl,rfl⟩
   obtain⟨ao,h1,h2⟩:=hn;obtain⟨z,ab,aj⟩:=ih (k+1) ao da (by rw[h2,Du,hs]);exact⟨z,by rw[fK,h1];exact ab,by rw[aj,h2];rfl⟩
 obtain⟨z,ab,aj⟩:=key d.l 0 s rfl (by rw[el]);rw[show((0:Nat):Int)=0 from rfl]at ab;rw[ab];exact⟨z,rfl,by rw[aj,el]⟩
structure awl (m:Model):Prop where
 Hl:∀c∈m.dO.l,b2 c.Row.cC.l
 aBj:b2 m.dO.l
 act:∀a∈m.Actions.l,b2 a.eJ.Delta.l/\b2 a.eJ.h4.l/\∀r∈a.eJ.h4.l,b2 r.cC.l
theorem awm{m:Model}(b:R4 m):awl m:=⟨fun c hc=>by have:=b.Hl c hc;unfold b2;omega,by have:=b.cons;unfold b2;omega,fun a ha=>by
 have:=(b.act a ha).2;exact⟨this.d,this.h,this.r⟩⟩
end
end Go.Abs.bs
namespace Go.Abs.ry
section
variable (iu:Nat->Nat->Bool)(size:Nat)
def iter:Nat->List (List Nat)->List (List Nat)
 |0,ps=>ps
 |k+1,ps=>iter k (ps.flatMap (rz iu size))
variable{iu size}
end
end Go.Abs.ry
namespace Go.Abs.bs
open Go Go.Abs Go.Abs.ry
noncomputable section
section
variable{c:Constraint}{st:ad Int}{f n:Nat}
end
end
end Go.Abs.bs
namespace Go.Abs.bs
open Go Go.Abs Go.Abs.ry
noncomputable section
def eZ (st:ad Int)(i:Int):Int:=st.l.getD i.toNat 0
def Bb (st:ad Int)(p:Int × Int)(t:Term):Int × Int:=(aM (p.1+aM (t.dA*aM ((eZ st t.Cell).tdiv 4294967296))),aM (p.2+aM (t.dA*(eZ st t.Cell).tmod 4294967296)))
def uY (n:Int)(t:Term):Bool:=!(decide (t.Cell<0)||decide (t.Cell>=n))
theorem aeC{st:ad Int}{t:Term}(h:uY st.len t=true):bj st.l t.Cell=some (eZ st t.Cell):=by
 unfold uY at h;simp only[mb,yz,decide_eq_false_iff_not]at h;have h2:=h.2;rw[ew]at h2;unfold eZ;rw[A1 (by omega),gq (by omega),iL,gq (by omega)];rfl
theorem aeD{α A O:Type}{ok:α->Bool}{g:A->α->A}{fin:A->O}{o:O}:∀(l:List α) (k:Nat) (a:A),jL (fun _ a x=>bif ok x then Sum.inl (g a x)else .inr o) fin k a l=bif l.all ok then fin (l.foldl g a)else o
 |[],_,_=>rfl
 |x::r,k,a=>by
  simp only[jL,Mt,ot];cases ok x with
  |true=>simp only[cond_true,fF];exact aeD r (k+1) (g a x)
  |false=>rfl
theorem awn (c:Constraint)(st:ad Int)(hT:b2 c.Row.cC.l):bZ (tv c st) (0,0,0)=some (bif c.Row.cC.l.all (uY st.len)then .go (c.Row.cC.l.foldl (Bb st) (0,0))else .ret ()):=by
 have h:=Dg (f:=tv c st) (fun k (p:Int × Int)=>(p.1,p.2,(k:Int))) (fun _ p x=>bif uY st.len x then .inl (Bb st p x)else .inr (.ret ())) (fun p=>.go p) (fun _ _=>True) c.Row.cC.l (fun k p x hx _=>by
  refine⟨?_,fun _ _=>trivial⟩;have aK:=fM hx;have hw:aM ((k:Int)+1)=((k+1:Nat):Int):=eT (by unfold b2 at hT;omega);simp only[tv,gF aK,cond_true,dV,hx,bm];cases hi:uY st.len x with
  |false=>
   have:(decide (x.Cell<0)||decide (x.Cell>=st.len))=true:=by simpa only[uY,Bool.not_eq_false']using hi
   rw[this];rfl
  |true=>
   have:(decide (x.Cell<0)||decide (x.Cell>=st.len))=false:=by simpa only[uY,mb]using hi
   simp only[this,cond_false,aeC hi,bm,hw];rfl) (fun p _=>by simp only[tv,hv,cond_false]) (a:=(0,0)) trivial
 rw[aeD]at h;exact h
def nx (st:ad Int):List Term->Int
 |[]=>0
 |t::r=>t.dA*eZ st t.Cell+nx st r
theorem aeE (a:Int):aM ((BitVec.ofInt (IntKind.i64).bits a &&& BitVec.ofInt (IntKind.i64).bits 4294967295).toNat)=a%4294967296:=by
 have h:((BitVec.ofInt (IntKind.i64).bits a &&& BitVec.ofInt (IntKind.i64).bits 4294967295).toNat:Int)=(((a%18446744073709551616).toNat &&& 4294967295:Nat):Int):=rfl;rw[h,show(4294967295:Nat)=2^32-1 by rfl,Nat.and_two_pow_sub_one_eq_mod];have e:(((a%18446744073709551616).toNat%2^32:Nat):Int)=a%4294967296:=by omega
 rw[e,eY]<;>omega
theorem awo (lo b:Int):(decide (lo/4294967296<b/4294967296)||(lo/4294967296==b/4294967296)&&decide (lo%4294967296<=b%4294967296))=decide (lo<=b):=by
 rw[xb];simp only[jN,cn,decide_eq_true_eq,beq_iff_eq];omega
theorem awp{s:Int}(b:Int)(h1:-4611686018427387904<=s)(h2:s<=4611686018427387904):Kq 0 s b=some (decide (s<=b)):=by
 unfold Kq;rw[aeE,aeE,show((2:Int)^32)=4294967296 from rfl,DM,eY (n:=s/4294967296) (by omega) (by omega),awo]
structure L0 (st:ad Int) (t:Term):Prop where
 f1:-1000000000<=t.dA
 f2:t.dA<=1000000000
 v1:-1000000<=eZ st t.Cell
 v2:eZ st t.Cell<=1000000
theorem L0.mul{st:ad Int}{t:Term}(h:L0 st t):-1000000000000000<=t.dA*eZ st t.Cell/\t.dA*eZ st t.Cell<=1000000000000000:=by
 obtain⟨h1,h2,ar,aR⟩:=h;generalize eZ st t.Cell=v at ar aR;generalize t.dA=f at h1 h2
 have:(f*v).natAbs<=1000000000*1000000:=by
  rw[Int.natAbs_mul];exact HU (by omega) (by omega)
 omega
theorem L0.step{st:ad Int}{t:Term}(h:L0 st t){s:Int}(h1:-4000000000000000000<=s)(h2:s<=4000000000000000000):Bb st (0,s) t=(0,s+t.dA*eZ st t.Cell):=by
 have hm:=h.mul;obtain⟨q1,q2,cd,c2⟩:=h
 have ab:(eZ st t.Cell).tdiv 4294967296=0:=by
  rcases Int.lt_or_le (eZ st t.Cell) 0 with q|q
  ·have:(eZ st t.Cell)=-(-(eZ st t.Cell)):=by omega
   rw[this,Int.neg_tdiv,SV (by omega) (by omega)];rfl
  ·exact SV q (by omega)
 have aj:(eZ st t.Cell).tmod 4294967296=eZ st t.Cell:=by
  have:=Int.mul_tdiv_add_tmod (eZ st t.Cell) 4294967296;rw[ab]at this;omega
 unfold Bb;simp only[ab,aj];rw[eY (n:=t.dA*eZ st t.Cell) (by omega) (by omega),eY (n:=s+_) (by omega) (by omega)];rw[show aM 0=0 from rfl,Int.mul_zero,show aM 0=0 from rfl];rfl
end
end Go.Abs.bs
namespace Go.Abs.bs
open Go Go.Abs Go.Abs.Lex
noncomputable section
theorem awq{s:cf}(hl:s.length<4611686018427387904):∀(n k:Nat),k+n=s.length->bZ (CO s) (k:Int)=some (((k+l2 (s.drop k):Nat)):Int):=by
 intro n
 induction n with
 |zero=>
  intro k hk;have e:CO s (k:Int)=some (.out (k:Int)):=by simp only[CO,yk (show s.length<=k by omega),cond_false,bm]
  rw[fK,e,u1 (by omega)];rfl
 |succ n ih=>
  intro k hk;have aK:k<s.length:=by omega
  have hx:s[k]? =some s[k]:=by simp[aK]
  have nv:s.drop k=s[k]::s.drop (k+1):=pK aK
  have hs:((((sym (s.drop k):Nat):Int))==0)=!decide (0<sym (s.drop k)):=by
   by_cases h:0<sym (s.drop k)
   ·rw[decide_eq_true h];simp;omega
   ·have:sym (s.drop k)=0:=by omega
    rw[this];rfl
  have ae:CO s (k:Int)=bif (iV s[k]||s[k].toNat==35||oO (s.drop k))then some (.out (k:Int))else some (.next (aM ((k:Int)+1))):=by
   simp only[CO,yj aK,cond_true,dV,hx,bm,adB,R7,LK,adC hl (qz aK),hs,bne];rw[show((s[k].toNat:Int)==35)=(s[k].toNat==35)from oY s[k] 35];have hb:oO (s.drop k)=(mE s[k]||jo s[k]||decide (0<sym (s.drop k))):=by rw[nv];rfl
   rw[hb];cases iV s[k]<;>cases s[k].toNat==35<;>cases mE s[k]<;>cases jo s[k]<;>cases decide (0<sym (s.drop k))<;>rfl
  rw[fK,ae]
  have hw:l2 (s.drop k)=if iV s[k]||s[k].toNat==35||oO (s.drop k)then 0 else l2 (s.drop (k+1))+1:=by
   rw[nv];rfl
  rw[hw];cases(iV s[k]||s[k].toNat==35||oO (s.drop k))with
  |true=>rfl
  |false=>
   simp only[cond_false,fE,if_false];rw[eT (by omega),ih (k+1) (by omega)];congr 2;omega
theorem awr{s:cf}(hl:s.length<4611686018427387904){k:Nat}(hk:k<=s.length):bZ (Kh s) (k:Int)=some (((k+hJ l1 (s.drop k):Nat)):Int):=
 LL hl l1 (fun k c hx=>by
  have aK:=fM hx;simp only[Kh,yj aK,cond_true,dV,hx,bm,R7,LK];rw[show((c.toNat:Int)==95)=(c.toNat==95)from oY c 95];unfold l1;cases mE c<;>cases jo c<;>cases c.toNat==95<;>rfl) (fun k hk=>by simp only[Kh,yk hk,cond_false,bm]) (s.length-k) k (by omega)
theorem aws{s:cf}(hl:s.length<4611686018427387904){k:Nat}(hk:k<=s.length):bZ (Ki s) (k:Int)=some (((k+hJ jo (s.drop k):Nat)):Int):=
 LL hl jo (fun k c hx=>by
  have aK:=fM hx;simp only[Ki,yj aK,cond_true,dV,hx,bm,LK];cases jo c<;>rfl) (fun k hk=>by simp only[Ki,yk hk,cond_false,bm]) (s.length-k) k (by omega)
theorem awt:b2 kw:=by unfold b2;rw[Pw];omega
theorem awu (l:List cf)(x:cf):l.contains x=l.any fun y=>y==x:=by
 induction l with
 |nil=>rfl
 |cons y r ih=>rw[List.contains_cons,ih,List.any_cons,GY]
theorem awv{s:cf}(hl:s.length<4611686018427387904){k:Nat}(hk:k<s.length)(hw:iV s[k]=false)(oZ:s[k].toNat≠35):
  P5 s (k:Int)=some (((iW (s.drop k):Nat):Int),((k+lg (s.drop k):Nat):Int)):=by
 have hx:s[k]? =some s[k]:=by simp[hk]
 have nv:s.drop k=s[k]::s.drop (k+1):=pK hk;have hlen:(s.drop k).length=s.length-k:=qv;unfold P5;simp only[dV,hx,bm,R7,LK];have mZ:iW (s.drop k)=if mE s[k]then(if kw.contains ((s.drop k).take (hJ l1 (s.drop k)))then 2 else 1)else if jo s[k]then 3 else if 0<sym (s.drop k)then 4 else 5:=by rw[nv];rfl
 have ee:lg (s.drop k)=if mE s[k]then hJ l1 (s.drop k)else if jo s[k]then hJ jo (s.drop k)else if 0<sym (s.drop k)then sym (s.drop k)else l2 (s.drop (k+1))+1:=by rw[nv];rfl
 rw[mZ,ee];cases hc:mE s[k]with
 |true=>
  simp only[cond_true,if_true];rw[awr hl (qz hk)];have hle:=xP l1 (s.drop k);simp only[bm,att];rw[LM (by omega) (by omega)];have e:(s.take (k+hJ l1 (s.drop k))).drop k=(s.drop k).take (hJ l1 (s.drop k)):=by rw[List.drop_take];congr 1;omega
  rw[e];simp only[bm];rw[ar7 (ad.mk kw) _ awt,awu];simp only[bm];show(bif kw.any (fun y=>y==_)then _ else _)=_;cases kw.any (fun y=>y==(s.drop k).take (hJ l1 (s.drop k)))<;>rfl
 |false=>
  simp only[cond_false,fE,if_false];cases hd:jo s[k]with
  |true=>
   simp only[cond_true,if_true];rw[aws hl (qz hk)];rfl
  |false=>
   simp only[cond_false,fE,if_false];rw[adC hl (qz hk)];simp only[bm];have aBk:=aao (s.drop k);by_cases hs:0<sym (s.drop k)
   ·have d:decide (((sym (s.drop k):Nat):Int)>0)=true:=by simp;exact hs
    rw[d,if_pos hs,if_pos hs];simp only[cond_true];rw[eY (by omega) (by omega)];rfl
   ·have d:decide (((sym (s.drop k):Nat):Int)>0)=false:=by simp;omega
    rw[d,if_neg hs,if_neg hs];simp only[cond_false];rw[awq hl (s.length-k) k (by omega)]
    have hb:oO (s.drop k)=false:=by
     have:oO (s.drop k)=(mE s[k]||jo s[k]||decide (0<sym (s.drop k))):=by rw[nv];rfl
     rw[this,hc,hd,decide_eq_false hs];rfl
    have k4:l2 (s.drop k)=l2 (s.drop (k+1))+1:=by
     have:l2 (s.drop k)=if iV s[k]||s[k].toNat==35||oO (s.drop k)then 0 else l2 (s.drop (k+1))+1:=by rw[nv];rfl
     have aww:(s[k].toNat==35)=false:=by simpa using oZ
     rw[this,hw,hb,aww];rfl
    rw[k4];rfl
theorem awx{s:cf}{k:Nat}(hk:k<=s.length)(h:dz s k<s.length):iV s[dz s k]=false/\s[dz s k].toNat≠35:=by
 have hd:s.drop (dz s k)=s[dz s k]::s.drop (dz s k+1):=pK h;have e:(s.drop k).drop (hf false (s.drop k))=s.drop (dz s k):=by rw[tY];rfl
 rw[<-e]at hd;exact R9 false (s.drop k) _ _ hd rfl
theorem awy{s:cf}{k:Nat}(h:k<s.length):1<=lg (s.drop k):=by
 have hd:s.drop k=s[k]::s.drop (k+1):=pK h;rw[hd];simp only[lg];split
 ·rename_i hc
  rw[zT,if_pos (by simp[l1,hc])];omega
 ·split
  ·rename_i hc;rw[zT,if_pos hc];omega
  ·split<;>omega
theorem awz{s:cf}(hl:s.length<=4096):∀(n k:Nat) (acc:ad Token),k+n=s.length->acc.l.length<=k+1->
  ∃(e:Int) (y:ad Token) (ts:List Token),bZ (Aa s) ((k:Int),acc)=some (e,y)/\y.l=acc.l++ts/\ts.length<=n/\(s.length<=dz s k->ts=[])/\
   (dz s k<s.length->∃Dv,ts=⟨((iW (s.drop (dz s k)):Nat):Int),(k:Int),((dz s k:Nat):Int),((hg s k:Nat):Int)⟩::Dv/\(s.length<=dz s (hg s k)->Dv=[])/\(dz s (hg s k)<s.length->Dv≠[])):=by
 intro n
 induction n using Nat.strongRecOn with
 |ind n ih=>
  intro k acc hk aBl;have iA:=Px (s:=s) (k:=k) (by omega);rw[fK];have Ho:=atp (s:=s) (by omega) (k:=k) (by omega);by_cases aK:dz s k<s.length
  ·obtain⟨q1,q2⟩:=awx (by omega) aK
   have awA:=awv (s:=s) (by omega) aK q1 q2;have hC:=awy aK;have oH:=Py (s:=s) (k:=k) (by omega);have hge:k<=dz s k:=by unfold dz;omega
   have he:hg s k=dz s k+lg (s.drop (dz s k)):=rfl;obtain⟨z,nN,AZ⟩:=Dh (jJ:=32) (x:=acc) (y:=ad.mk [(⟨((iW (s.drop (dz s k)):Nat):Int),(k:Int),((dz s k:Nat):Int),((hg s k:Nat):Int)⟩:Token)]) (by omega) (by show acc.l.length+1<=_;omega)
   have ae:Aa s ((k:Int),acc)=some (.next (((hg s k:Nat):Int),z)):=by
    simp only[Aa,Ho,bm,yj aK,cond_true,awA];rw[<-he,nN];rfl
   rw[ae];obtain⟨e,y,ts,ab,aj,bC,cu,dv⟩:=ih (s.length-hg s k) (by omega) (hg s k) z (by omega) (by rw[AZ];simp only[fD];show acc.l.length+1<=_;omega);refine⟨e,y,_::ts,ab,by rw[aj,AZ,kr];rfl,by simp only[fl];omega,fun h=>by omega,fun _=>⟨ts,rfl,cu,fun h=> ?_⟩⟩;obtain⟨Dv,L1,-⟩:=dv h;rw[L1];simp
  ·have ae:Aa s ((k:Int),acc)=some (.out ((k:Int),acc)):=by
    simp only[Aa,Ho,bm,yk (show s.length<=dz s k by omega),cond_false]
   rw[ae];exact⟨_,acc,[],rfl,by simp,by simp,fun _=>rfl,fun h=>absurd h aK⟩
theorem awB{s:cf}(hl:s.length<=4096):P6 s=some ((kindOf s:Nat):Int):=by
 unfold P6 aaL;have hd:decide ((s.length:Int)>4096)=false:=by simp;omega
 rw[hd];simp only[cond_false];obtain⟨e,y,ts,ab,aj,bC,cu,dv⟩:=awz hl s.length 0 .emp (by omega) (by simp[ad.l]);have B2:bZ (Aa s) (0,.emp)=some (e,y):=ab;have hy:y.l=ts:=by rw[aj];rfl
 rw[B2];simp only[bm];obtain⟨z,nN,AZ⟩:=Dh (jJ:=32) (x:=y) (y:=ad.mk [(Token.mk 0 e (s.length:Int) (s.length:Int))]) (by omega) (by rw[hy];show ts.length+1<=_;omega);rw[nN];simp only[bm,show((0:Int) != 0)=false from rfl,cond_false];have qG:z.l=ts++[Token.mk 0 e (s.length:Int) (s.length:Int)]:=by rw[AZ,hy];rfl
 have hlen:(z.len != 2)=!(z.l.length==2):=by unfold bne;rw[show(z.len==2)=(z.l.length==2)from LC z 2]
 rw[hlen,qG];have rY:kindOf s=if s=[]\/4096<s.length then 0 else if dz s 0=0/\hg s 0=s.length then iW s else 0:=rfl
 by_cases aK:dz s 0<s.length
 ·obtain⟨Dv,L1,f1,f2⟩:=dv aK
  have aZ:¬(s=[]\/4096<s.length):=by
   rintro(h|h)
   ·rw[h]at aK;simp at aK
   ·omega
  rw[rY,if_neg aZ];have c7:=Py (s:=s) (k:=0) (by omega);by_cases qS:dz s (hg s 0)<s.length
  ·
   have h1:((ts++[Token.mk 0 e (s.length:Int) (s.length:Int)]).length==2)=false:=by
    have:=f2 qS;rw[L1];cases Dv with
    |nil=>exact absurd rfl this
    |cons a r=>simp
   rw[h1]
   have awC:¬(dz s 0=0/\hg s 0=s.length):=by
    rintro⟨-,h⟩;have:hg s 0<=dz s (hg s 0):=by show _<=_+_;omega
    omega
   rw[if_neg awC];rfl
  ·have hn:=f1 (by omega)
   subst hn;subst L1;have h1:(([(⟨((iW (s.drop (dz s 0)):Nat):Int),((0:Nat):Int),((dz s 0:Nat):Int),((hg s 0:Nat):Int)⟩:Token)]++[Token.mk 0 e (s.length:Int) (s.length:Int)]).length==2)=true:=rfl;rw[h1];simp only[iN,cond_false,lN,iM,RE,nz,bm];by_cases ha:dz s 0=0
   ·by_cases hb:hg s 0=s.length
    ·rw[if_pos ⟨ha,hb⟩,ha,hb]
     simp
    ·have:((((hg s 0:Nat):Int)) != (s.length:Int))=true:=by simp;omega
     rw[if_neg (fun h=>hb h.2),ha,this];rfl
   ·have:((((dz s 0:Nat):Int)) != 0)=true:=by simp;omega
    rw[if_neg (fun h=>ha h.1),this];rfl
 ·have Dr:=cu (by omega)
  subst Dr;have h1:(([]++[Token.mk 0 e (s.length:Int) (s.length:Int)]).length==2)=false:=rfl;rw[h1,rY];by_cases hs:s=[]
  ·rw[if_pos (.inl hs)];rfl
  ·have hC:0<s.length:=Bg.2 hs
   rw[if_neg (by rintro(h|h);exact hs h;omega),if_neg (by rintro⟨h,-⟩;omega)];rfl
theorem awD (w:cf)(h:w.length<=40):P7 w=some (uS w):=by
 unfold uS zX P7;rw[awB (by omega)];unfold JC;simp only[bm];cases hk:((kindOf w:Nat):Int)==1<;>cases hl:decide ((w.length:Int)<=16)<;>simp[hk]
end
end Go.Abs.bs
namespace Go.Abs.bs
open Go Go.Abs Go.Abs.ry
noncomputable section
def uZ (v:Int):Bool:=!(decide (v< -1000000)||decide (v>1000000))
theorem awE (l:ad Int)(h:b2 l.l):Kk l=some (l.l.all uZ&&decide (l.l.length<=128)):=by
 unfold Kk
 rw[rp (f:=Kj l) l.l h (fun v=>!uZ v) (fun k x hx=>by
  simp only[Kj,gF (fM hx),cond_true,dV,hx,bm];have:(!uZ x)=(decide (x< -1000000)||decide (x>1000000)):=by unfold uZ;simp
  rw[this];cases decide (x< -1000000)<;>cases decide (x>1000000)<;>rfl) (by simp only[Kj,hv,cond_false])]
 have:(l.l.any fun v=>!uZ v)=!(l.l.all uZ):=by rw[List.not_all_eq_any_not]
 rw[this];cases l.l.all uZ with
 |false=>rfl
 |true=>
  have e:decide (l.len<=128)=decide (l.l.length<=128):=by rw[xb,decide_eq_true_iff,decide_eq_true_iff,ew];omega
  simp only[bm,iN,cond_false,fF,e]
end
end Go.Abs.bs
namespace Go.Abs
open Go
def dd (k:Int):List (Int × Int)->Int
 |[]=>0
 |t::l=>(if t.1=k then t.2 else 0)+dd k l
theorem awF{k:Int}{a b:List (Int × Int)}(h:a.Perm b):dd k a=dd k b:=by
 induction h with
 |nil=>rfl
 |cons x _ ih=>simp only[dd,ih]
 |swap x y l=>simp only[dd];omega
 |trans _ _ awG awH=>rw[awG,awH]
theorem aeF (k:Int):∀l:List (Int × Int),dd k (l.filter fun p=>p.2 != 0)=dd k l
 |[]=>rfl
 |t::l=>by
  have ih:=aeF k l;by_cases h:t.2=0
  ·have:(t.2 != 0)=false:=by simp[h]
   rw[List.filter_cons,this];simp only[dd,h,ite_self,DM];exact ih
  ·have:(t.2 != 0)=true:=by simp[h]
   rw[List.filter_cons,this];simp only[dd,if_true,ih]
theorem Sx{k:Int}:∀{l:List (Int × Int)},k∉l.map Prod.fst->dd k l=0
 |[],_=>rfl
 |t::l,h=>by
  rw[de,dp,not_or]at h;have h1:¬t.1=k:=fun e=>h.1 e.symm;simp only[dd,if_neg h1,Sx h.2,Int.add_zero]
theorem aeG{k:Int}:∀{es:List (Int × Int)},(es.map Prod.fst).Nodup->(xR k es).getD 0=dd k es
 |[],_=>rfl
 |(j,v)::es,h=>by
  rw[de,sG]at h;simp only[xR,dd];by_cases e:k=j
  ·subst e
   rw[if_pos rfl,if_pos rfl,Sx h.1];simp
  ·rw[if_neg e,if_neg fun q=>e q.symm,aeG h.2]
   omega
theorem aeH{k c v:Int}:∀{es:List (Int × Int)},(es.map Prod.fst).Nodup->dd k (nk c v es)=if k=c then v else dd k es
 |[],_=>by
  simp only[nk,dd];by_cases e:k=c
  ·rw[if_pos e,if_pos e.symm];omega
  ·rw[if_neg e,if_neg fun q=>e q.symm];omega
 |(j,u)::es,h=>by
  rw[de,sG]at h;simp only[nk];by_cases e:c=j
  ·subst e
   rw[if_pos rfl];simp only[dd];by_cases aj:k=c
   ·subst aj
    rw[if_pos rfl,if_pos rfl,Sx h.1];omega
   ·have bC:¬c=k:=fun q=>aj q.symm
    rw[if_neg bC,if_neg aj,if_neg bC]
  ·rw[if_neg e]
   simp only[dd,aeH h.2];by_cases aj:k=c
   ·subst aj
    rw[if_pos rfl,if_pos rfl,if_neg fun q=>e q.symm];omega
   ·rw[if_neg aj,if_neg aj]
def Dw (l:List (Int × Int)):Prop:=∀t∈l,-1000000<=t.2/\t.2<=1000000
theorem aeI{k:Int}:∀{l:List (Int × Int)},Dw l-> -1000000*(l.length:Int)<=dd k l/\dd k l<=1000000*(l.length:Int)
 |[],_=>by simp[dd]
 |t::l,h=>by
  have h1:=h t (by simp);have h2:=aeI (k:=k) (l:=l) fun t ht=>h t (by simp[ht]);simp only[dd,fl];split<;>constructor<;>push_cast<;>omega
theorem aeJ:∀(l es:List (Int × Int)) (n:Nat),(es.map Prod.fst).Nodup->(∀k,-1000000*(n:Int)<=dd k es/\dd k es<=1000000*(n:Int))->Dw l->n+l.length<=1000000->∀k,dd k (l.foldl qn es)=dd k es+dd k l
 |[],es,n,hn,hb,hs,hl,k=>by simp[dd]
 |t::l,es,n,hn,hb,hs,hl,k=>by
  rw[fl]at hl;have ht:=hs t (by simp);have adL:=hb t.1
  have hw:aM ((xR t.1 es).getD 0+t.2)=dd t.1 es+t.2:=by
   rw[aeG hn];unfold aM;rw[wrap_small]<;>omega
  have k2:∀k,dd k (qn es t)=dd k es+if t.1=k then t.2 else 0:=fun k=>by
   unfold qn;rw[aeH hn,hw];by_cases e:k=t.1
   ·rw[if_pos e,if_pos e.symm,e]
   ·rw[if_neg e,if_neg fun q=>e q.symm];omega
  rw[ot,aeJ l (qn es t) (n+1) (aav hn) (fun k=>by
   have:=hb k;rw[k2]
   push_cast
   split<;>omega) (fun t ht=>hs t (by simp[ht])) (by omega) k,k2]
  simp only[dd];omega
theorem awI{l:List (Int × Int)}(hs:Dw l)(hl:l.length<=1000000)(k:Int):dd k (iG l)=dd k l:=by
 have:=aeJ l [] 0 (by simp) (fun k=>by simp[dd]) hs (by omega) k;rw[show dd k []=0 from rfl,DM]at this;exact this
theorem awJ{l:List (Int × Int)}(hs:Dw l)(hl:l.length<=1000000)(k:Int):dd k (kI l)=dd k l:=by
 unfold kI;rw[awF (Cw _),aeF,awI hs hl]
theorem aeK (l:List (Int × Int)):(kI l).length<=l.length:=by
 unfold kI;rw[(Cw _).length_eq];exact cM (Me _ _) (aaz l)
end Go.Abs
namespace Go.Abs.bs
open Go Go.Abs
noncomputable section
def fU (c:Change):Int × Int:=(c.Cell,c.Add)
theorem awK (n:Int):aM (aM n)=aM n:=by
 obtain⟨b6,h1,h2,ar⟩:=Hx n;obtain⟨dI,aR,h5,eo⟩:=Hx (aM n);omega
theorem awL (l:List Int)(c:Change){i:Nat}(hi:i<l.length):(gp l c).getD i 0=if c.Cell=(i:Int)then aM (l.getD i 0+c.Add)else l.getD i 0:=by
 unfold gp;by_cases e:c.Cell=(i:Int)
 ·have h:(decide (c.Cell>=0)&&decide (c.Cell<l.length))=true:=by simp only[cn,decide_eq_true_eq];omega
  have ht:c.Cell.toNat=i:=by omega
  rw[if_pos e,h,cond_true,ht];simp only[iL];rw[mP hi];rfl
 ·rw[if_neg e]
  cases h:(decide (c.Cell>=0)&&decide (c.Cell<l.length))with
  |false=>rfl
  |true=>
   simp only[cn,decide_eq_true_eq]at h;have ht:c.Cell.toNat≠i:=by omega
   rw[cond_true];simp only[iL];rw[iv ht]
theorem aeL (c:Change)(r:List Change)(k:Int):dd k ((c::r).map fU)=(if c.Cell=k then c.Add else 0)+dd k (r.map fU):=rfl
theorem Dx{i:Nat}:∀(d:List Change) (l:List Int),i<l.length->aM (l.getD i 0)=l.getD i 0->(nw l d).getD i 0=aM (l.getD i 0+dd (i:Int) (d.map fU))
 |[],l,hi,hw=>by
  show l.getD i 0=aM (l.getD i 0+0);rw[Int.add_zero,hw]
 |c::r,l,hi,hw=>by
  show(nw (gp l c) r).getD i 0=_;have hs:=awL l c hi;rw[aeL];by_cases e:c.Cell=(i:Int)
  ·rw[if_pos e]at hs
   rw[Dx r (gp l c) (by rw[Du];exact hi) (by rw[hs,awK]),hs,if_pos e,Sw,Int.add_assoc]
  ·rw[if_neg e]at hs
   rw[Dx r (gp l c) (by rw[Du];exact hi) (by rw[hs,hw]),hs,if_neg e,DM]
theorem awM{a b:List Int}(hl:a.length=b.length)(h:∀i,i<a.length->a.getD i 0=b.getD i 0):a=b:=by
 refine List.ext_getElem hl fun i h1 h2=> ?_;have:=h i h1;rw[iL,iL,gq h1,gq h2]at this;exact this
theorem awN{l:List Int}(hl:∀i,i<l.length->aM (l.getD i 0)=l.getD i 0){d e:List Change}(h:∀k,dd k (d.map fU)=dd k (e.map fU)):nw l d=nw l e:=by
 refine awM (by rw[w5,w5]) fun i hi=> ?_;rw[w5]at hi;rw[Dx d l hi (hl i hi),Dx e l hi (hl i hi),h]
theorem awO (l:List Int)(d e:List Change):nw (nw l d) e=nw l (d++e):=by
 unfold nw;rw[S6]
def kc (f:Int->Int):List Term->Int
 |[]=>0
 |t::l=>t.dA*f t.Cell+kc f l
theorem Sy (f g:Int->Int):∀l:List Term,kc (fun k=>f k+g k) l=kc f l+kc g l
 |[]=>rfl
 |t::l=>by
  simp only[kc,Sy f g l,Int.mul_add];omega
theorem aeM{f g:Int->Int}:∀{l:List Term},(∀t∈l,f t.Cell=g t.Cell)->kc f l=kc g l
 |[],_=>rfl
 |t::l,h=>by
  have ih:=aeM (l:=l) fun x hx=>h x (by simp[hx]);have ht:=h t (by simp);simp only[kc];rw[ht,ih]
end
end Go.Abs.bs
namespace Go.Abs.bs
open Go Go.Abs Go.Abs.ry
noncomputable section
structure Dy (st:ad Int) (t:Term):Prop where
 v1:-4294967295<=eZ st t.Cell
 v2:eZ st t.Cell<=4294967295
 m1:-1000000000000000<=t.dA*eZ st t.Cell
 m2:t.dA*eZ st t.Cell<=1000000000000000
theorem Dy.mul{st:ad Int}{t:Term}(h:Dy st t):-1000000000000000<=t.dA*eZ st t.Cell/\t.dA*eZ st t.Cell<=1000000000000000:=⟨h.m1,h.m2⟩
theorem Dy.step{st:ad Int}{t:Term}(h:Dy st t){s:Int}(h1:-4000000000000000000<=s)(h2:s<=4000000000000000000):Bb st (0,s) t=(0,s+t.dA*eZ st t.Cell):=by
 have hm:=h.mul;obtain⟨q1,q2,cd,c2⟩:=h
 have ab:(eZ st t.Cell).tdiv 4294967296=0:=by
  rcases Int.lt_or_le (eZ st t.Cell) 0 with q|q
  ·have:(eZ st t.Cell)=-(-(eZ st t.Cell)):=by omega
   rw[this,Int.neg_tdiv,SV (by omega) (by omega)];rfl
  ·exact SV q (by omega)
 have aj:(eZ st t.Cell).tmod 4294967296=eZ st t.Cell:=by
  have:=Int.mul_tdiv_add_tmod (eZ st t.Cell) 4294967296;rw[ab]at this;omega
 unfold Bb;simp only[ab,aj];rw[eY (n:=t.dA*eZ st t.Cell) (by omega) (by omega),eY (n:=s+_) (by omega) (by omega)];rw[show aM 0=0 from rfl,Int.mul_zero,show aM 0=0 from rfl];rfl
theorem awP{st:ad Int}(l:List Term):∀(s:Int),(∀t∈l,Dy st t)-> -(4000000000000000000:Int)+1000000000000000*(l.length:Int)<=s->s+1000000000000000*(l.length:Int)<=4000000000000000000->l.foldl (Bb st) (0,s)=(0,s+nx st l)/\ -1000000000000000*(l.length:Int)<=nx st l/\nx st l<=1000000000000000*(l.length:Int):=by
 induction l with
 |nil=>exact fun s _ _ _=>⟨by simp[nx],by simp[nx],by simp[nx]⟩
 |cons t r ih=>
  intro s h h1 h2;have ht:=h t (by simp);have hm:=ht.mul;simp only[fl]at h1 h2;obtain⟨ab,aj,bC⟩:=ih (s+t.dA*eZ st t.Cell) (fun x hx=>h x (by simp[hx])) (by omega) (by omega);refine⟨?_,?_,?_⟩
  ·rw[ot,ht.step (by omega) (by omega),ab]
   simp only[nx];congr 1;omega
  ·simp only[nx,fl];omega
  ·simp only[nx,fl];omega
theorem awQ (r:Row)(st:ad Int)(hl:r.cC.l.length<=100)(hn:∀t∈r.cC.l,Dy st t)(hi:r.cC.l.all (uY st.len)=true):qp (Constraint.mk 0 0 r 0 0) st=some (decide (nx st r.cC.l<=r.ni)):=by
 unfold qp;rw[show((Constraint.mk 0 0 r 0 0).Kind==1)=false from rfl];have ae:=awP r.cC.l 0 hn (by omega) (by omega);have h:=awn (Constraint.mk 0 0 r 0 0) st (by show r.cC.l.length<_;omega);simp only[hi,cond_true,ae.1,DM]at h;simp only[cond_false,h,bm];rw[show((Constraint.mk 0 0 r 0 0).Kind==0)=true from rfl];simp only[cond_true];rw[awp _ (by omega) (by omega)];rfl
end
end Go.Abs.bs
namespace Go.Abs.bs
open Go Go.Abs
def yt{A R:Type}(F:(A->Option R)->A->Option R):Prop:=∀g w3,(∀a r,g a=some r->w3 a=some r)->∀a r,F g a=some r->F w3 a=some r
theorem yt.up{A R:Type}{F:(A->Option R)->A->Option R}(h:yt F):∀(n:Nat) (a:A) (r:R),q0 F n a=some r->q0 F (n+1) a=some r
 |0,_,_,e=>by cases e
 |n+1,a,r,e=>h _ _ (h.up n) a r e
theorem yt.le{A R:Type}{F:(A->Option R)->A->Option R}(h:yt F){n k:Nat}(hk:n<=k){a:A}{r:R}(e:q0 F n a=some r):q0 F k a=some r:=by
 induction hk with
 |refl=>exact e
 |step _ ih=>exact h.up _ _ _ ih
theorem yt.fix{A R:Type}{F:(A->Option R)->A->Option R}(h:yt F){n:Nat}{a:A}{r:R}(e:q0 F n a=some r):zR F a=some r:=
 amG e fun k mS e'=>by
  have h1:=h.le (sF n k) e;have h2:=h.le (rC n k) e';rw[h1]at h2;exact(u3 h2).symm
theorem yt.eq{A R:Type}{F:(A->Option R)->A->Option R}(h:yt F){a:A}{r:R}(e:F (zR F) a=some r)(hn:∃n,∀b s,zR F b=some s->q0 F n b=some s):zR F a=some r:=by
 obtain⟨n,hn⟩:=hn;exact h.fix (n:=n+1) (h _ _ hn a r e)
end Go.Abs.bs
namespace Go.Abs.bs
open Go Go.Abs Go.Abs.S
end Go.Abs.bs
set_option maxHeartbeats 2000000
namespace Go.Abs.bs
open Go Go.Abs
noncomputable section
theorem awR (E:List (Int × Bool))(a j:Int)(w:Bool):ie (lF E a w) j=if j=a then some w else ie E j:=by
 rw[Lq];by_cases e:j=a<;>simp[e]
abbrev kn (m:Model):List V:=[bb 1 aI m.bE,bb 6 lJ m.Tables,bb 1 V.str m.fR,bb 6 sf m.dO,bb 3 sg m.Operations,bb 5 si m.Actions,bb 3 jn m.b9]
def Sz (m:Model)(l:ad Int)(E:List (Int × Bool)):Prop:=∀k w,ie E k=some w->∃n,q0 (PZ m l) n k=some w
theorem Sz.put{m:Model}{l:ad Int}{E:List (Int × Bool)}(h:Sz m l E){c:Int}{w:Bool}{n:Nat}(hn:q0 (PZ m l) n c=some w):Sz m l (lF E c w):=fun k u hk=>by
 rw[awR]at hk;split at hk
 ·rename_i e
  subst e;cases hk;exact⟨n,hn⟩
 ·exact h k u hk
section
variable{aa:Nat->Option bV}{b:Nat}{aq σ:bN}{H:Heap}{rest:List bI}{wr:List Bool}
end
end
end Go.Abs.bs
namespace Go.Abs.bs
open Go Go.Abs
noncomputable section
variable{m:Model}{n:Nat}{l:ad Int}
def Eb (m:Model)(l:ad Int)(c:Int):Bool:=(aod m l c).getD false
end
end Go.Abs.bs
namespace Go.Abs.bs
open Go Go.Abs
noncomputable section
theorem awS{s:List Int}{ts:List Table}{k:Nat}{a:Int × Int}{x:Table}{o:Option (Int × Int)}(b7:rq s ts k a x=.inr o):o=none:=by
 unfold rq at b7;cases bg:nu s x&&!(oX ts k x.Name)<;>cases hb:kq x<;>cases hc:x.dc==a.1<;>cases hd:x.dc==a.2<;>rw[bg]at b7<;>simp only[hb,hc,hd,cond_true,cond_false]at b7<;>first|(cases b7;rfl)|cases b7
theorem awT{s:List Int}{ts:List Table}{k:Nat}{a a8:Int × Int}{x:Table}(h:rq s ts k a x=.inl a8):
  nu s x=true/\(kq x=true->x.dc=a.1/\a8.1=a.1+wid s x.bR.l)/\(kq x=false->a8.1=a.1):=by
 unfold rq at h;cases bg:nu s x&&!(oX ts k x.Name)with
 |false=>rw[bg]at h;cases h
 |true=>
  rw[bg]at h;simp only[cn]at bg;cases hb:kq x with
  |true=>
   rw[hb]at h;simp only[cond_true]at h;cases hc:x.dc==a.1 with
   |false=>rw[hc]at h;cases h
   |true=>
    rw[hc]at h;cases h;exact⟨bg.1,fun _=>⟨eq_of_beq hc,rfl⟩,nofun⟩
  |false=>
   rw[hb]at h;simp only[cond_true,cond_false]at h;cases hc:x.dc==a.2 with
   |false=>rw[hc]at h;cases h
   |true=>
    rw[hc]at h;cases h;exact⟨bg.1,nofun,fun _=>rfl⟩
theorem awU (s:List Int)(t:Table)(ts:List Table)(b:Bool):(gU s (t::ts) b).length=(bif kq t==b then(wid s t.bR.l).toNat else 0)+(gU s ts b).length:=by
 unfold gU;rw[kd,fD];cases kq t==b<;>simp
theorem aeN{s:List Int}{ts:List Table}(hs:qt s=true):∀(l:List Table) (k:Nat) (a p:Int × Int),jL (rq s ts) some k a l=some p->
  ∀i t,l[i]? =some t->kq t=true->t.dc=a.1+((gU s (l.take i) true).length:Int)
 |[],_,_,_,_,i,t,h,_=>by simp at h
 |x::r,k,a,p,h,i,t,hi,ht=>by
  simp only[jL]at h;cases b7:rq s ts k a x with
  |inr o=>
   rw[b7]at h;simp only[awS b7]at h;cases h
  |inl a8=>
   rw[b7]at h;obtain⟨bh,h1,h2⟩:=awT b7;cases i with
   |zero=>
    simp only[nz,aA]at hi;subst hi;have:=(h1 ht).1;simp[gU,this]
   |succ i=>
    simp only[yy]at hi;have ih:=aeN hs r (k+1) a8 p h i t hi ht;rw[ih,SZ,awU];have hw:=GX hs (G0 bh);cases hb:kq x with
    |true=>
     rw[(h1 hb).2,show(true==true)=true from rfl,cond_true];omega
    |false=>
     rw[h2 hb,show(false==true)=false from rfl,cond_false];omega
theorem awV{s:List Int}{ts:List Table}(h:l9 s ts=true){i:Nat}{t:Table}(hi:ts[i]? =some t)(ht:kq t=true):t.dc=((gU s (ts.take i) true).length:Int):=by
 have hs:=(GZ h).2.2.1;unfold l9 at h;simp only[cn,decide_eq_true_eq]at h;obtain⟨-,-,-,aR⟩:=h;split at aR
 ·rename_i a b hr
  have:=aeN hs ts 0 (0,0) _ hr i t hi ht;simpa using this
 ·cases aR
theorem aeO (s:List Int)(b:Bool)(l:List Table)(k:Nat):∀d,(gU s (l.take k) b).length<=(gU s (l.take (k+d)) b).length
 |0=>aF _
 |d+1=>by
  refine cM (aeO s b l k d) ?_;rw[<-qy];cases h:l[k+d]? with
  |none=>rw[Bi,h];simp
  |some t=>rw[Lx s b h,fD];omega
theorem awW{s:List Int}{l:List Table}{i j:Nat}{t:Table}(cK:j<i)(ht:l[j]? =some t)(hs:kq t=true):(gU s (l.take j) true).length+(wid s t.bR.l).toNat<=(gU s (l.take i) true).length:=by
 have h:=aeO s true l (j+1) (i-(j+1));rw[show j+1+(i-(j+1))=i by omega,Lx s true ht,fD,hs,show(true==true)=true from rfl,cond_true,Bf]at h;exact h
structure aeP (m:Model) (c:Nat) (i:Nat) (t:Table):Prop where
 aa:m.Tables.l[i]? =some t
 str:kq t=true
 lo:t.dc<=c
 hi:(c:Int)<t.dc+wid m.bE.l t.bR.l
variable{m:Model}
theorem aeP.lt (h:l9 m.bE.l m.Tables.l=true){c i:Nat}{t:Table}(q:aeP m c i t):c<(gU m.bE.l m.Tables.l true).length:=by
 have h1:=awW (s:=m.bE.l) (fM q.aa) q.aa q.str;rw[DJ]at h1;have h2:=awV h q.aa q.str;have:=q.lo;have:=q.hi;omega
structure awX (m:Model):Prop where
 Hk:b2 m.bE.l
 tables:b2 m.Tables.l
 hz:∀t∈m.Tables.l,b2 t.bR.l
 names:∀t∈m.Tables.l,P7 t.Name=some (uS t.Name)
theorem aeQ (hb:tN m=true):awX m:=by
 have b:=yi hb;exact⟨by have:=b.Hk;unfold b2;omega,by have:=b.tables;unfold b2;omega,fun t ht=>by have:=b.aa t ht;unfold b2;omega,fun t ht=>awD _ (by have:=b.aa t ht;omega)⟩
structure aBm (m:Model) (h:gi) (t u:Table) (x:Int):Prop where
 t0:0<=h.Table
 aa:m.Tables.l[h.Table.toNat]? =some t
 VZ:0<=h.c5
 Ra:m.Tables.l[h.c5.toNat]? =some u
 eB:t.Kind=0
 aBn:u.Kind=0
 fj:0<=h.iF
 iJ:t.bR.l[h.iF.toNat]? =some x
 one:u.bR.l=[x]
end
end Go.Abs.bs
namespace Go.Abs.bs
open Go Go.Abs
noncomputable section
theorem aeR{a b:ad Int}(h:b.l=a.l)(hs:b2 a.l):Ab a b=some true:=by
 unfold Ab;have:(a.len != b.len)=false:=by rw[ew,ew,h];simp
 rw[this]
 have:=rp (f:=Km a b) a.l hs (fun _=>false) (fun k x hx=>by
  simp only[Km,gF (fM hx),cond_true,dV,hx,h,bm,bne_self_eq_false,cond_false]) (by simp only[Km,hv,cond_false])
 have ae:a.l.any (fun _=>false)=false:=by simp
 rw[cond_false,this,ae];rfl
def aeS (o:Option Int)(k:Nat)(acc:ad Int):Option (cU (Int × ad Int) (ad Int)):=match o with
 |some a=>(gn 8 acc (ad.mk [a])).bind fun s=>some (.next (aM ((k:Int)+1),s))
 |none=>some (.next (aM ((k:Int)+1),acc))
theorem awY{f:(Int × ad Int)->Option (cU (Int × ad Int) (ad Int))}{n:Nat}(hn:n<=100000){o:Nat->Option Int}(ae:∀(k:Nat) acc,k<n->f ((k:Int),acc)=aeS (o k) k acc)(he:∀acc,f ((n:Int),acc)=some (.out acc)):
  ∀(d k:Nat) (acc:ad Int),k+d=n->acc.l.length<=k->∃z,bZ f ((k:Int),acc)=some z/\z.l=acc.l++(List.range' k d).filterMap o:=by
 intro d
 induction d with
 |zero=>
  intro k acc hk ha;have hk:k=n:=by omega
  subst hk;exact⟨acc,by rw[fK,he],by simp⟩
 |succ d ih=>
  intro k acc hk ha;have hs:=ae k acc (by omega);unfold aeS at hs;cases ho:o k with
  |none=>
   rw[ho]at hs;obtain⟨z,ab,aj⟩:=ih (k+1) acc (by omega) (by omega);refine⟨z,?_,?_⟩
   ·rw[fK,hs,eT (by omega)];exact ab
   ·rw[aj,qw,Bh,ho]
  |some a=>
   rw[ho]at hs;simp only[LY a (show 8+1<=1000 by omega) (show acc.l.length<=1000000 by omega),bm]at hs;obtain⟨z,ab,aj⟩:=ih (k+1) (.mk (acc.l++[a])) (by omega) (by show(acc.l++[a]).length<=_;simp;omega);refine⟨z,?_,?_⟩
   ·rw[fK,hs,eT (by omega)];exact ab
   ·rw[aj,qw,Bh,ho]
    show acc.l++[a]++_=_;simp
theorem SA{m:Model}(af:tO m=true):l9 m.bE.l m.Tables.l=true:=by
 cases h:l9 m.bE.l m.Tables.l with
 |true=>rfl
 |false=>unfold tO at af;rw[h]at af;simp at af
end
end Go.Abs.bs
namespace Go.Abs.bs
open Go Go.Abs
noncomputable section
variable{m:Model}
variable{n:Nat}{l:ad Int}
def qL (m:Model)(l:ad Int)(aU:ad Int)(h:gi):Bool:=match bj aU.l h.iF with
 |some y=>match aaK m.bE m.Tables h.c5 (.mk [y])with
  |some p=>Eb m l p.1
  |none=>false
 |none=>false
end
end Go.Abs.bs
namespace Go.Abs.bs
open Go Go.Abs
noncomputable section
variable{m:Model}
theorem awZ (hb:tN m=true)(af:tO m=true):∃x,Kc m=some x/\x.l=gU m.bE.l m.Tables.l true:=by
 have b:=yi hb;have z:=aeQ hb;obtain⟨x,ab,aj⟩:=RM m.bE m.Tables true z.Hk z.tables z.hz;rw[SA af]at aj;unfold Kc PY;rw[R5 b,af];simp only[bm,cond_true,ab];exact⟨x,rfl,aj⟩
variable{l:ad Int}
end
end Go.Abs.bs
