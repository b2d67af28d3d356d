/- Texts of this claim, joined and written short by a program. -/
import Derived.Test.YtoimeckpnnkbpaaGreatDoorP32
import Derived.Test.YtoimeckpnnkbpaaGreatDoorP34
import Derived.Test.YtoimeckpnnkbpaaGreatDoorP33
import Derived.Test.YtoimeckpnnkbpaaGreatDoorP00
set_option linter.unusedVariables false
set_option linter.unusedSimpArgs false
set_option linter.unusedSectionVars false
namespace Go.Abs.hk
open Go Go.Abs Go.Abs.Qu
noncomputable section
def enc (p:List Nat):ak Int:=.mk (p.map fun(a:Nat)=>(a:Int))
theorem Hb (p:List Nat):(enc p).l=p.map fun(a:Nat)=>(a:Int):=rfl
def Qv (c:Constraint)(N:Nat):Bool:=(c.Kind==1)&&(decide (c.w1>=1)&&(decide (c.w1<=6)&&(decide (c.dG>=0)&&decide (c.dG<=(N:Int)-c.w1*c.w1))))
def kf (v:List Int)(f n:Nat)(a b:Nat):Bool:=decide (v.getD (f+a*n+b) 0>=1)
theorem aw1 (c:Constraint){N:Nat}(wN:N<=100000):auS c (N:Int)=some (Qv c N):=by
 unfold auS Qv;by_cases h:c.w1>=1/\c.w1<=6
 ·have h1:c.w1*c.w1<=36:=by
   have:=av9 h.2 h.2 (by omega) (by omega);omega
  have h2:0<=c.w1*c.w1:=Int.mul_nonneg (by omega) (by omega);rw[iN (n:=c.w1*c.w1) (by omega) (by omega),iN (by omega) (by omega)]
 ·have:(decide (c.w1>=1)&&decide (c.w1<=6))=false:=by
   rw[Bool.eq_false_iff];intro e;simp only[b8,decide_eq_true_eq]at e;exact h e
  congr 2;rw[<-Cf,<-Cf (decide (c.w1>=1)),this];rfl
structure Ny (c:Constraint) (st:ak Int) (f n:Nat):Prop where
 ab:c.dG=f
 hn:c.w1=n
 lk:1<=n
 Ur:n<=6
 le:f+n*n<=st.l.length
 N:st.l.length<=100000
theorem aCw{c:Constraint}{st:ak Int}(wN:st.l.length<=100000)(h:Qv c st.l.length=true):Ny c st c.dG.toNat c.w1.toNat:=by
 unfold Qv at h;simp only[b8,decide_eq_true_eq]at h;obtain⟨-,h1,h2,ar,aQ⟩:=h
 have e:((c.w1.toNat*c.w1.toNat:Nat):Int)=c.w1*c.w1:=by
  have:(c.w1.toNat:Int)=c.w1:=Int.toNat_of_nonneg (by omega);rw[Int.natCast_mul,this]
 exact⟨by omega,by omega,by omega,by omega,by omega,wN⟩
section
variable{c:Constraint}{st:ak Int}{f n:Nat}
theorem mul_lt{a n:Nat}(ao:a<n)(b:Nat)(hb:b<n):a*n+b<n*n:=by
 have:(a+1)*n<=n*n:=Ki n ao;rw[Cg]at this;omega
theorem aw2 (g:Ny c st f n){a b:Nat}(ao:a<n)(hb:b<n):avc st c (a:Int) (b:Int)=some (kf st.l f n a b):=by
 have h:=mul_lt ao b hb;have hn:=g.N;have hl:=g.le;unfold avc kf
 rw[g.ab,g.hn,show((a:Int)*(n:Int))=((a*n:Nat):Int)from(Int.natCast_mul a n).symm,iN (n:=((a*n:Nat):Int)) (by omega) (by omega),iN (n:=(f:Int)+_) (by omega) (by omega),iN (by omega) (by omega),
  show((f:Int)+((a*n:Nat):Int)+(b:Int))=((f+a*n+b:Nat):Int) by omega,fP,hX (by omega)]
 simp[tY,hX (show f+a*n+b<st.l.length by omega)]
theorem aGQ (p:List Nat)(v:Nat)(hp:p.length<=100000):av6 (enc p) (v:Int)=some (p.contains v):=by
 have:av6 (enc p) (v:Int)=some ((enc p).l.any fun x=>(v:Int)==x):=E5 (enc p) (by rw[Hb,oG];omega) (f:=fun x=>some ((v:Int)==x)) (fun x _=>rfl);rw[this,Hb,List.any_map];congr 1;rw[zU,ry,ua];constructor
 ·rintro⟨x,hx,e⟩
  have e:(v:Int)=(x:Int):=by simpa using e
  rw[Int.ofNat_inj.1 e];exact hx
 ·intro h;exact⟨v,h,by simp⟩
theorem avC{BN:Nat}{A:Type}{x:ak A}(a:A)(hb:BN+1<=1000)(h:x.l.length<=1000000):lG BN x (ak.mk [a])=some (.mk (x.l++[a])):=by
 unfold lG;rw[if_neg (by intro e;cases e),if_pos]
 ·rfl
 ·show(x.l.length+1)*(BN+1)<=2^40
  have:(x.l.length+1)*(BN+1)<=1000001*1000:=axg (by omega) hb;omega
theorem aCx{p:List Nat}(hp:p≠[])(hl:p.length<=1000):HD 8 (enc p)=some (enc p):=by
 show lG 8 .emp (enc p)=_;unfold lG;rw[if_neg (by rw[Hb];simpa using hp),if_pos]
 ·rfl
 ·show(0+(enc p).l.length)*9<=2^40
  rw[Hb,oG];omega
theorem aCy (g:Ny c st f n){p:List Nat}{last:Nat}(hp:p≠[])(jG:p.length<=6)(aqh:last<n):∀(d v:Nat) (acc:ak (ak Int)),v+d=n->acc.l.length+d<=1000000->
  ∃z,c0 (avd c st (enc p) (last:Int)) ((v:Int),acc)=some z/\z.l=acc.l++((List.range' v d).filter fun v=>kf st.l f n last v&&!p.contains v).map fun v=>enc (p++[v])
 |0,v,acc,ad,_=>⟨acc,by
   rw[k4];simp only[avd,g.hn,show decide ((v:Int)<(n:Int))=false by simp;omega,cond_false],by simp⟩
 |d+1,v,acc,ad,hl=>by
  have aaV:=g.Ur;have Xw:v<n:=by omega
  have Fb:avd c st (enc p) (last:Int) ((v:Int),acc)=some (.next (((v+1:Nat):Int),bif kf st.l f n last v&&!p.contains v then .mk (acc.l++[enc (p++[v])])else acc)):=by
   simp only[avd,g.hn,show decide ((v:Int)<(n:Int))=true by simp;omega,cond_true,aw2 g aqh Xw,cg,aGQ p v (by omega)];cases kf st.l f n last v with
   |false=>
    simp only[cond_false,cg,FT];rw[iN (by omega) (by omega)];rfl
   |true=>
    simp only[cond_true,cg,fI];cases p.contains v with
    |true=>
     simp only[hZ,cond_false];rw[iN (by omega) (by omega)];rfl
    |false=>
     simp only[ue,cond_true,aCx hp (by omega),cg];rw[avC (v:Int) (by omega) (by rw[Hb,oG];omega)];simp only[cg];rw[avC _ (by omega) (by omega)];simp only[cg];rw[iN (by omega) (by omega),Hb];simp[enc]
  obtain⟨z,e,el⟩:=aCy g hp jG aqh d (v+1) (bif kf st.l f n last v&&!p.contains v then .mk (acc.l++[enc (p++[v])])else acc) (by omega) (by
   cases kf st.l f n last v&&!p.contains v with
   |false=>show acc.l.length+d<=_;omega
   |true=>show(acc.l++[_]).length+d<=_;simp;omega)
  refine⟨z,by rw[k4,Fb];exact e,?_⟩;rw[el,ub,ax7];cases kf st.l f n last v&&!p.contains v with
  |false=>simp
  |true=>simp[show(ak.mk (acc.l++[enc (p++[v])])).l=acc.l++[enc (p++[v])]from rfl]
theorem aCz (g:Ny c st f n){ps:List (List Nat)}(gr:∀p∈ps,Path (kf st.l f n) n p){w:ak (ak Int)}(hw:w.l=ps.map enc)(cW:ps.length<=1000000):∀(r:List (List Nat)) (k:Nat) (acc:ak (ak Int)),ps.drop k=r->acc.l.length+6*r.length<=1000000->
  ∃z,c0 (ave c st w) ((k:Int),acc)=some z/\(match r.find? (Ih (kf st.l f n))with|some l=>z=.ret (enc l)|none=>∃a,z=.go a/\a.l=acc.l++(r.flatMap (Bk (kf st.l f n) n)).map enc)
 |[],k,acc,hr,_=>⟨.go acc,by
    have:ps.length<=k:=List.drop_eq_nil_iff.1 hr;rw[k4];simp only[ave,gL,hw,oG,show decide ((k:Int)<(ps.length:Int))=false by simp;omega,cond_false],⟨acc,rfl,by simp⟩⟩
 |p::r,k,acc,hr,hl=>by
  have aaV:=g.Ur
  have aX:k<ps.length:=by
   rcases fX k ps.length with q|q
   ·exact q
   ·rw[B6 q]at hr;cases hr
  have aCA:ps[k]? =some p:=by
   have:=congrArg (·[0]?) hr;simpa using this
  have gu:ps.drop (k+1)=r:=by
   have:=congrArg List.tail hr;simpa using this
  have hp:=gr p (hz aCA);have hlen:=hp.len;have bf:=hp.ne
  obtain⟨a,b,af,e2,bT,cF,h1,h2⟩:∃a b,p[0]? =some a/\p.headD 0=a/\p[p.length-1]? =some b/\p.getLastD 0=b/\a<n/\b<n:=by
   have lV:0<p.length:=auG.2 bf;refine⟨p[0],p[p.length-1],by simp[lV],?_,by simp[lV],?_,hp.lt _ (by simp),hp.lt _ (by simp)⟩
   ·cases p with
    |nil=>exact absurd rfl bf
    |cons x q=>rfl
   ·rw[axw bf,tY,hX (by omega)];rfl
  have aGR:w.l[k]? =some (enc p):=by rw[hw,jy,aCA];rfl
  have jG:(0:Nat)<p.length:=auG.2 bf;have i0:bQ (enc p).l 0=some (a:Int):=by rw[al3,Hb,jy,af];rfl
  have i1:bQ (enc p).l (bJ ((enc p).len-1))=some (b:Int):=by
   rw[gL,Hb,oG,iN (by omega) (by omega),show((p.length:Nat):Int)-1=((p.length-1:Nat):Int) by omega,fP,jy,bT];rfl
  have hG:Ih (kf st.l f n) p=kf st.l f n b a:=by unfold Ih;rw[e2,cF]
  rw[k4];simp only[ave,gL w,hw,oG,show decide ((k:Int)<(ps.length:Int))=true by simp;omega,cond_true,fP];rw[<-hw,aGR];simp only[cg,i0,i1,aw2 g h2 h1];rw[Kr,hG];cases hb:kf st.l f n b a with
  |true=>exact⟨_,rfl,rfl⟩
  |false=>
   simp only[cond_false];obtain⟨z,Ar,aGS⟩:=aCy g bf (by omega) h2 (n-(a+1)) (a+1) acc (by omega) (by simp only[ev]at hl;omega)
   have Am:z.l=acc.l++(Bk (kf st.l f n) n p).map enc:=by
    rw[aGS];unfold Bk;rw[e2,cF,rB];rfl
   rw[iN (by omega) (by omega),show((a:Int)+1)=((a+1:Nat):Int)from rfl,Ar];simp only[cg];rw[iN (by omega) (by omega),show((k:Int)+1)=((k+1:Nat):Int)from rfl]
   have Wc:(Bk (kf st.l f n) n p).length<=6:=by
    unfold Bk;rw[oG];refine cV (List.length_filter_le _ _) ?_;rw[ax6];omega
   obtain⟨y,rM,hy⟩:=aCz g gr hw cW r (k+1) z gu (by rw[Am];simp only[gM,oG,ev]at hl⊢; omega);refine⟨y,rM,?_⟩;cases ab:r.find? (Ih (kf st.l f n))with
   |some l=>rw[ab]at hy;exact hy
   |none=>
    rw[ab]at hy;obtain⟨a7,e',aGT⟩:=hy;exact⟨a7,e',by rw[aGT,Am,kn,nW,mS]⟩
theorem aCB{jJ:Nat->Nat->Bool}{p:List Nat}:(Bk jJ n p).length<=n:=by
 unfold Bk;rw[oG];refine cV (List.length_filter_le _ _) ?_;rw[ax6];omega
theorem aCC{jJ:Nat->Nat->Bool}:∀(ps:List (List Nat)),(ps.flatMap (Bk jJ n)).length<=ps.length*n
 |[]=>by simp
 |p::r=>by
  have h1:=aCB (n:=n) (jJ:=jJ) (p:=p);have h2:=aCC (jJ:=jJ) r;rw[kn,gM,ev,Cg];omega
theorem aCD:∀(m:Nat),m<=7->6^m<=300000:=by decide
theorem aCE (g:Ny c st f n):∀(j k:Nat) (ps:List (List Nat)) (w:ak (ak Int)),k+j=n+2->1<=k->au3 (kf st.l f n) n k ps->w.l=ps.map enc->ps.length<=6^k->
  ∃z,c0 (auT c st) w=some z/\(match Qy (kf st.l f n) n j ps with|some l=>z=.ret (enc l)|none=>z=.go ())
 |0,k,ps,w,hj,h1,aC,hw,hl=>⟨.go (),by
   have:=axy aC (by omega);subst this;rw[k4];simp only[auT,gL,hw,mT,ja];rfl,rfl⟩
 |j+1,k,ps,w,hj,h1,aC,hw,hl=>by
  have aaV:=g.Ur;unfold Qy;cases uu:ps with
  |nil=>
   subst uu;refine⟨.go (),?_,by simp⟩;rw[k4];simp only[auT,gL,hw,mT,ja];rfl
  |cons p r=>
   rw[<-uu]
   have cW:k<=n:=by
    rcases fX n k with q|q
    ·have:=axy aC q;rw[this]at uu;cases uu
    ·exact q
   have ft:=aCD k (by omega);have kZ:=aCD (k+1) (by omega);have bf:ps≠[]:=by rw[uu];simp
   have lV:0<ps.length:=auG.2 bf;obtain⟨z,Ar,aT⟩:=aCz g (fun p hp=>(aC p hp).1) hw (by omega) ps 0 .nil (by simp) (by show 0+6*ps.length<=_;omega)
   have Fb:∀x,c0 (ave c st w) (0,.nil)=some x->auT c st w=match x with| .go p=>some (.next p)| .ret p=>some (.out (.ret p)):=fun x hx=>by
    unfold auT;simp only[gL,hw,oG,show decide (((ps.length:Nat):Int)>0)=true by simp;omega,cond_true,hx,cg];cases x<;>rfl
   rw[k4,Fb z Ar];cases ab:ps.find? (Ih (kf st.l f n))with
   |some l=>
    rw[ab]at aT;simp only at aT;subst aT;exact⟨_,rfl,rfl⟩
   |none=>
    rw[ab]at aT;obtain⟨a,rfl,ao⟩:=aT;rw[if_neg bf];refine aCE g j (k+1) _ a (by omega) (by omega) (aCv aC) (by rw[ao];simp[ak.l]) ?_;have:=aCC (n:=n) (jJ:=kf st.l f n) ps;have aed:ps.length*n<=6^k*6:=axg hl aaV;rw[Nat.pow_succ];omega
theorem aCF (g:Ny c st f n):∀(d v:Nat) (acc:ak (ak Int)),v+d=n->acc.l.length+d<=100000->∃z,c0 (av7 c) ((v:Int),acc)=some z/\z.l=acc.l++((List.range' v d).map fun a=>enc [a])
 |0,v,acc,ad,_=>⟨acc,by
   rw[k4];simp only[av7,g.hn,show decide ((v:Int)<(n:Int))=false by simp;omega,cond_false],by simp⟩
 |d+1,v,acc,ad,hl=>by
  have aaV:=g.Ur;obtain⟨z,e,el⟩:=aCF g d (v+1) (.mk (acc.l++[enc [v]])) (by omega) (by show(acc.l++[_]).length+d<=_;simp;omega);refine⟨z,?_,by rw[el,ub];simp[show(ak.mk (acc.l++[enc [v]])).l=acc.l++[enc [v]]from rfl]⟩;rw[k4];simp only[av7,g.hn,show decide ((v:Int)<(n:Int))=true by simp;omega,cond_true];rw[avC _ (by omega) (by omega)];simp only[cg];rw[iN (by omega) (by omega)];exact e
def aw4 (c:Constraint)(v:List Int):List Nat:=bif Qv c v.length then(au2 (kf v c.dG.toNat c.w1.toNat) c.w1.toNat).getD []else[]
theorem aCG (c:Constraint)(st:ak Int)(wN:st.l.length<=100000):∃z,awa c st=some z/\z.l=(aw4 c st.l).map fun(a:Nat)=>(a:Int):=by
 unfold awa aw4;rw[gL,aw1 c wN];cases bj:Qv c st.l.length with
 |false=>exact⟨_,rfl,rfl⟩
 |true=>
  have g:=aCw wN bj;generalize c.dG.toNat=f at g;generalize c.w1.toNat=n at g;obtain⟨z,Ar,aT⟩:=aCF g n 0 .nil (by omega) (by show 0+n<=_;have:=g.Ur;omega);simp only[cg,cond_true];rw[show((0:Nat):Int)=0 from rfl]at Ar;rw[Ar];simp only[cg]
  have hs:z.l=(Qu.start n).map enc:=by
   rw[aT,Qu.start,<-FH,rB];rfl
  obtain⟨y,rM,hy⟩:=aCE g (n+1) 1 (Qu.start n) z (by omega) (by omega) axx hs (by unfold Qu.start;rw[oG,List.length_range];have:=g.Ur;omega);rw[rM];simp only[cg];unfold au2;cases hc:Qy (kf st.l f n) n (n+1) (Qu.start n)with
  |none=>rw[hc]at hy;simp only at hy;subst hy;exact⟨_,rfl,rfl⟩
  |some l=>rw[hc]at hy;simp only at hy;subst hy;exact⟨_,rfl,rfl⟩
end
end
end Go.Abs.hk
namespace Go.Abs.hk
open Go Go.Abs
noncomputable section
theorem aCH{S O:Type}{f:S->Option (dM S O)}(I:Nat->S->Prop)(n:Nat)(h:∀k s,k<n->I k s->(∃al,f s=some (.next al)/\I (k+1) al)\/∃o,f s=some (.out o))(e:∀s,I n s->∃o,f s=some (.out o)){s:S}(h0:I 0 s):∃o,c0 f s=some o:=by
 have key:∀(d k:Nat) (s:S),k+d=n->I k s->∃o,c0 f s=some o:=by
  intro d
  induction d with
  |zero=>
   intro k s cW aW;have:k=n:=by omega
   subst this;obtain⟨o,ho⟩:=e s aW;exact⟨o,by rw[k4,ho]⟩
  |succ d ih=>
   intro k s cW aW;rcases h k s (by omega) aW with⟨al,h1,h2⟩|⟨o,ho⟩
   ·obtain⟨o,ho⟩:=ih (k+1) al (by omega) h2
    exact⟨o,by rw[k4,h1];exact ho⟩
   ·exact⟨o,by rw[k4,ho]⟩
 exact key n 0 s (by omega) h0
theorem aCI{α:Type}{x:ak α}{k:Nat}(h:x.l.length<=k):decide ((k:Int)<x.len)=false:=by rw[gL];simp;exact h
theorem aCJ (c:Constraint)(st:ak Int)(wN:st.l.length<=100000)(hT:cm c.Row.eT.l):∃b,zw c st=some b:=by
 unfold zw;cases c.Kind==1 with
 |true=>
  simp only[cond_true];rw[gL,aw1 c wN];cases Qv c st.l.length with
  |false=>exact⟨_,rfl⟩
  |true=>
   obtain⟨z,e,-⟩:=aCG c st wN;simp only[cg,cond_true,e];exact⟨_,rfl⟩
 |false=>
  simp only[cond_false]
  obtain⟨o,ho⟩:=aCH (f:=agt c st) (I:=fun k (s:Int × Int × Int)=>s.2.2=(k:Int)) c.Row.eT.l.length (fun k s cW aW=>by
   obtain⟨a,b,i⟩:=s;simp only at aW;subst aW;simp only[agt,k8 cW,cond_true,fP,hX cW,cg];generalize c.Row.eT.l[k]=t;cases hc:decide (t.Cell<0)||decide (t.Cell>=st.len)with
   |true=>exact .inr ⟨_,rfl⟩
   |false=>
    have hc0:=of_decide_eq_false (B9.1 hc).1;have GX:=of_decide_eq_false (B9.1 hc).2;rw[gL]at GX
    have:bQ st.l t.Cell=some (st.l.getD t.Cell.toNat 0):=by
     rw[JO (by omega),hX (by omega),tY,hX (by omega)];rfl
    simp only[cond_false,this,cg];refine .inl ⟨_,rfl,?_⟩;simp only;unfold cm at hT;rw[fN (by omega)]) (fun s aW=>by
   obtain⟨a,b,i⟩:=s;simp only at aW;subst aW;simp only[agt,mw,cond_false];exact⟨_,rfl⟩) (s:=(0,0,0)) rfl
  rw[ho];simp only[cg];cases o with
  |ret p=>exact⟨_,rfl⟩
  |go p=>
   obtain⟨x,y⟩:=p;cases c.Kind==0<;>exact⟨_,rfl⟩
def arV (l:List Int)(c:Change):List Int:=bif decide (c.Cell>=0)&&decide (c.Cell<l.length)then l.set c.Cell.toNat (bJ (l.getD c.Cell.toNat 0+c.Add))else l
def au4 (l:List Int)(d:List Change):List Int:=d.foldl arV l
theorem axX (l:List Int)(c:Change):(arV l c).length=l.length:=by
 unfold arV;cases decide (c.Cell>=0)&&decide (c.Cell<l.length)<;>simp
theorem aCK:∀(d:List Change) (l:List Int),(au4 l d).length=l.length
 |[],_=>rfl
 |c::r,l=>by
  show(au4 (arV l c) r).length=_;rw[aCK r,axX]
theorem aCL{α:Type}{BN:Nat}{x:ak α}(hb:BN+1<=1000)(h:x.l.length<=100000):∃z,HD BN x=some z/\z.l=x.l:=by
 cases x with
 |nil=>exact⟨_,rfl,rfl⟩
 |emp=>exact⟨_,rfl,rfl⟩
 |mk l=>
  obtain⟨z,e,el⟩:=YP (x:=(ak.emp:ak α)) (y:=ak.mk l) hb (by show 0+l.length<=_;have:l.length<=100000:=h;omega);exact⟨z,e,by rw[el];rfl⟩
theorem aGU (a:ak Int)(d:ak Change)(ao:a.l.length<=100000)(hd:cm d.l):∃z,awT a d=some z/\z.l=au4 a.l d.l:=by
 unfold awT;obtain⟨s,e,el⟩:=aCL (BN:=8) (x:=a) (by omega) ao;rw[e];simp only[cg]
 have key:∀(r:List Change) (k:Nat) (s:ak Int),d.l.drop k=r->s.l.length=a.l.length->∃z,c0 (avo d) ((k:Int),s)=some z/\z.l=au4 s.l r:=by
  intro r
  induction r with
  |nil=>
   intro k s hr hs;have cW:d.l.length<=k:=List.drop_eq_nil_iff.1 hr;refine⟨s,?_,rfl⟩;rw[k4];simp only[avo,aCI cW,cond_false]
  |cons c r ih=>
   intro k s hr hs
   have aX:k<d.l.length:=by
    rcases fX k d.l.length with q|q
    ·exact q
    ·rw[B6 q]at hr;cases hr
   have axY:d.l[k]? =some c:=by
    have:=congrArg (·[0]?) hr;simpa using this
   have gu:d.l.drop (k+1)=r:=by
    have:=congrArg List.tail hr;simpa using this
   have hn:∃al,avo d ((k:Int),s)=some (.next (((k+1:Nat):Int),al))/\al.l=arV s.l c:=by
    unfold cm at hd;simp only[avo,k8 aX,cond_true,fP,axY,cg];rw[fN (by omega)];unfold arV;rw[show decide (c.Cell<(s.l.length:Int))=decide (c.Cell<s.len)from rfl];cases hc:decide (c.Cell>=0)&&decide (c.Cell<s.len)with
    |false=>exact⟨s,rfl,rfl⟩
    |true=>
     have hc0:=of_decide_eq_true (axe.1 hc).1;have GX:=of_decide_eq_true (axe.1 hc).2;rw[gL]at GX
     have:bQ s.l c.Cell=some (s.l.getD c.Cell.toNat 0):=by
      rw[JO (by omega),hX (by omega),tY,hX (by omega)];rfl
     simp only[cond_true,this,cg];exact⟨_,rfl,rfl⟩
   obtain⟨al,h1,h2⟩:=hn;obtain⟨z,af,e2⟩:=ih (k+1) al gu (by rw[h2,axX,hs]);exact⟨z,by rw[k4,h1];exact af,by rw[e2,h2];rfl⟩
 obtain⟨z,af,e2⟩:=key d.l 0 s rfl (by rw[el]);rw[show((0:Nat):Int)=0 from rfl]at af;rw[af];exact⟨z,rfl,by rw[e2,el]⟩
structure aGV (m:Model):Prop where
 anr:∀c∈m.fu.l,cm c.Row.eT.l
 aKb:cm m.fu.l
 act:∀a∈m.Actions.l,cm a.eK.Delta.l/\cm a.eK.ia.l/\∀r∈a.eK.ia.l,cm r.eT.l
theorem aw5{m:Model}(b:BU m):aGV m:=⟨fun c hc=>by have:=b.anr c hc;unfold cm;omega,by have:=b.cons;unfold cm;omega,fun a ao=>by
 have:=(b.act a ao).2;exact⟨this.d,this.h,this.r⟩⟩
end
end Go.Abs.hk
namespace Go.Abs.Qu
section
variable (jJ:Nat->Nat->Bool)(size:Nat)
def y2:Nat->List Nat->List (List Nat)
 |0,l=>if Ih jJ l then[l]else[]
 |k+1,l=>(Bk jJ size l).flatMap (y2 k)
def iter:Nat->List (List Nat)->List (List Nat)
 |0,ps=>ps
 |k+1,ps=>iter k (ps.flatMap (Bk jJ size))
variable{jJ size}
theorem axZ:∀(k:Nat) (ps:List (List Nat)),ps.flatMap (y2 jJ size k)=(iter jJ size k ps).filter (Ih jJ)
 |0,ps=>by
  simp only[iter]
  induction ps with
  |nil=>rfl
  |cons p r ih=>
   rw[kn,ih,ax7];simp only[y2];split<;>simp
 |k+1,ps=>by
  simp only[iter,y2];rw[<-axZ k,List.flatMap_assoc]
theorem aCM:∀k,iter jJ size k []=[]
 |0=>rfl
 |k+1=>by simp[iter,aCM k]
theorem aCN:∀{k s:Nat} {ps:List (List Nat)},au3 jJ size s ps->size<s+k->iter jJ size k ps=[]
 |0,s,ps,h,cW=>axy h (by omega)
 |k+1,s,ps,h,cW=>aCN (k:=k) (aCv h) (by omega)
theorem aCO:∀(n:Nat) (ps:List (List Nat)),(∀j,j<n->(iter jJ size j ps).find? (Ih jJ)=none)->Qy jJ size n ps=none
 |0,_,_=>rfl
 |n+1,ps,h=>by
  have h0:=h 0 (by omega);simp only[iter]at h0;simp only[Qy,h0];split
  ·rfl
  ·exact aCO n _ fun j hj=>h (j+1) (by omega)
theorem aCP:∀(n k:Nat) (ps:List (List Nat)) (p:List Nat),k<n->(∀j,j<k->(iter jJ size j ps).find? (Ih jJ)=none)->(iter jJ size k ps).find? (Ih jJ)=some p->Qy jJ size n ps=some p
 |0,k,_,_,cW,_,_=>absurd cW (by omega)
 |n+1,0,ps,p,_,_,h=>by
  simp only[iter]at h;simp only[Qy,h]
 |n+1,k+1,ps,p,cW,h,hp=>by
  have h0:=h 0 (by omega);simp only[iter]at h0;simp only[Qy,h0];split
  ·rename_i e
   subst e;simp only[iter,List.flatMap_nil,aCM]at hp;cases hp
  ·exact aCP n k _ p (by omega) (fun j hj=>h (j+1) (by omega)) hp
theorem ax0{α:Type}(q:α->Bool):∀l:List α,l.find? q=(l.filter q).head?
 |[]=>rfl
 |a::r=>by
  rw[Kr,ax7];cases h:q a with
  |true=>rfl
  |false=>exact ax0 q r
theorem aCQ{k:Nat}(h:∀a,a<size->y2 jJ size k [a]=[]):(iter jJ size k (start size)).find? (Ih jJ)=none:=by
 rw[ax0,<-axZ]
 have:(start size).flatMap (y2 jJ size k)=[]:=by
  rw[List.flatMap_eq_nil_iff];intro l hl;obtain⟨a,ao,rfl⟩:=ey.1 hl;exact h a (Ks.1 ao)
 rw[this];rfl
theorem aGW{k a:Nat}{p:List Nat}(ao:a<size)(h:∀x,x<a->y2 jJ size k [x]=[])(hp:(y2 jJ size k [a]).head? =some p):(iter jJ size k (start size)).find? (Ih jJ)=some p:=by
 rw[ax0,<-axZ]
 have e:start size=(List.range a).map (fun x=>[x])++[a]::(List.range' (a+1) (size-(a+1))).map (fun x=>[x]):=by
  unfold start
  have:List.range size=List.range a++a::List.range' (a+1) (size-(a+1)):=by
   rw[FH,FH,<-ub,show size-(a+1)+1=size-a by omega];have:=List.range'_append (s:=0) (m:=a) (n:=size-a) (step:=1);simp only[Nat.one_mul,eO]at this;rw[this,show a+(size-a)=size by omega]
  rw[this,nW,eo]
 rw[e,Kk,kn]
 have:((List.range a).map fun x=>[x]).flatMap (y2 jJ size k)=[]:=by
  rw[List.flatMap_eq_nil_iff];intro l hl;obtain⟨x,hx,rfl⟩:=ey.1 hl;exact h x (Ks.1 hx)
 rw[this,jB];cases hd:y2 jJ size k [a]with
 |nil=>rw[hd]at hp;cases hp
 |cons q r=>rw[hd]at hp;simpa using hp
theorem aGX{k a:Nat}{p:List Nat}(cW:k<size)(ao:a<size)(h1:∀j,j<k->∀x,x<size->y2 jJ size j [x]=[])(h2:∀x,x<a->y2 jJ size k [x]=[])(hp:(y2 jJ size k [a]).head? =some p):au2 jJ size=some p:=
 aCP _ k _ p (by omega) (fun j hj=>aCQ (h1 j hj)) (aGW ao h2 hp)
theorem aGY (h:∀j,j<size->∀x,x<size->y2 jJ size j [x]=[]):au2 jJ size=none:=
 aCO _ _ fun j hj=>by
  rcases fX j size with q|q
  ·exact aCQ (h j q)
  ·rw[aCN axx (by omega)];rfl
end
end Go.Abs.Qu
namespace Go.Abs.hk
open Go Go.Abs Go.Abs.Qu
noncomputable section
theorem aCR (p:List Nat)(v:Nat)(hp:p.length<=1000):awe (enc p) (v:Int)=some (p.contains v):=by
 unfold awe
 rw[xn (f:=awd (enc p) (v:Int)) (enc p).l (by rw[Hb,oG];omega) (fun x=>x==(v:Int)) (fun i x hx=>by
  have hi:=kl hx;rw[Hb,oG]at hi;have hw:bJ ((i:Int)+1)=((i+1:Nat):Int):=iN (by omega) (by omega);simp only[awd,k8 (kl hx),cond_true,fP,hx,cg,hw];cases x==(v:Int)<;>rfl) (by simp only[awd,mw,cond_false])]
 have:((enc p).l.any fun x=>x==(v:Int))=p.contains v:=by
  rw[Hb,List.any_map,zU,ry,ua];constructor
  ·rintro⟨x,hx,e⟩
   have e:(x:Int)=(v:Int):=by simpa using e
   rw[<-Int.ofNat_inj.1 e];exact hx
  ·intro h;exact⟨v,h,by simp⟩
 rw[<-this];cases(enc p).l.any fun x=>x==(v:Int)<;>rfl
section
variable{c:Constraint}{st:ak Int}{f n:Nat}
def Nj (jJ:Nat->Nat->Bool)(n d:Nat)(p:List Nat):ak (ak Int):=if y2 jJ n d p=[]then(if d=0 then .nil else .emp)else .mk ((y2 jJ n d p).map enc)
theorem ax1 (jJ:Nat->Nat->Bool)(n d:Nat)(p:List Nat):(Nj jJ n d p).l=(y2 jJ n d p).map enc:=by
 unfold Nj;split
 ·rename_i h;rw[h];split<;>rfl
 ·rfl
theorem aCS{α β:Type}{f:α->List β}{B:Nat}:∀(l:List α),(∀a∈l,(f a).length<=B)->(l.flatMap f).length<=l.length*B
 |[],_=>by simp
 |a::r,h=>by
  have h1:=h a (by simp);have h2:=aCS r fun b hb=>h b (by simp[hb]);rw[kn,gM,ev,Cg];omega
theorem aCT{jJ:Nat->Nat->Bool}:∀(k:Nat) (l:List Nat),(y2 jJ n k l).length<=n^k
 |0,l=>by simp only[y2];split<;>simp
 |k+1,l=>by
  simp only[y2];have h1:=aCS (f:=y2 jJ n k) (B:=n^k) (Bk jJ n l) fun a _=>aCT k a;have h2:=aCB (n:=n) (jJ:=jJ) (p:=l);have ar:(Bk jJ n l).length*n^k<=n*n^k:=Ki _ h2;rw[Nat.pow_succ,Nat.mul_comm (n^k)];omega
theorem aw6 (g:Ny c st f n){d B:Nat}(dr:∀q,(y2 (kf st.l f n) n d q).length<=B){p:List Nat}{last:Nat}{L:Int}(hp:p≠[])(jG:p.length<=6)(aqh:last<n){G:Constraint->ak Int->ak Int->Int->Option (ak (ak Int))}
  {lo:Nat} (AP:∀v,lo<=v->v<n->(kf st.l f n last v&&!p.contains v)=true->G c st (enc (p++[v])) L=none\/G c st (enc (p++[v])) L=some (Nj (kf st.l f n) n d (p++[v]))):∀(k v:Nat) (acc:ak (ak Int)),lo<=v->v+k=n->acc.l.length+k*B<=100000->
  (c0 (aju c st (enc p) L G (last:Int)) ((v:Int),acc)=some (if((List.range' v k).filter fun v=>kf st.l f n last v&&!p.contains v).flatMap (fun v=>y2 (kf st.l f n) n d (p++[v]))=[]then acc else .mk (acc.l++(((List.range' v k).filter fun v=>kf st.l f n last v&&!p.contains v).flatMap fun v=>y2 (kf st.l f n) n d (p++[v])).map enc)))
    \/(c0 (aju c st (enc p) L G (last:Int)) ((v:Int),acc)=none/\∃v,lo<=v/\v<n/\(kf st.l f n last v&&!p.contains v)=true/\G c st (enc (p++[v])) L=none)
 |0,v,acc,_,ad,_=>.inl (by
   rw[k4];simp only[aju,g.hn,show decide ((v:Int)<(n:Int))=false by simp;omega,cond_false];simp)
 |k+1,v,acc,ik,ad,hl=>by
  have aaV:=g.Ur;rw[Cg]at hl;have Xw:v<n:=by omega
  have hw:bJ ((v:Int)+1)=((v+1:Nat):Int):=iN (by omega) (by omega);have u3:avj c st (last:Int) (v:Int)=some (kf st.l f n last v):=aw2 g aqh Xw;rw[ub,ax7];cases bx:kf st.l f n last v&&!p.contains v with
  |false=>
   simp only[hY,if_false]
   have Fb:aju c st (enc p) L G (last:Int) ((v:Int),acc)=some (.next (((v+1:Nat):Int),acc)):=by
    simp only[aju,g.hn,show decide ((v:Int)<(n:Int))=true by simp;omega,cond_true,aCR p v (by omega),cg,u3,hw];cases hc:p.contains v with
    |true=>rfl
    |false=>
     rw[hc]at bx;simp only[ue,xH]at bx;rw[bx];rfl
   rw[k4,Fb];exact aw6 g dr hp jG aqh AP k (v+1) acc (by omega) (by omega) (by omega)
  |true=>
   simp only[if_true]
   have hc:p.contains v=false:=by
    cases h:p.contains v with
    |false=>rfl
    |true=>rw[h]at bx;simp at bx
   have he:kf st.l f n last v=true:=by
    cases h:kf st.l f n last v with
    |true=>rfl
    |false=>rw[h]at bx;simp at bx
   have ao:lG 8 (enc p) (ak.mk [(v:Int)])=some (enc (p++[v])):=by
    rw[avC (v:Int) (by omega) (by rw[Hb,oG];omega),Hb];simp[enc]
   have h0:lG 8 ak.emp (enc p)=some (enc p):=aCx hp (by omega)
   have cd:aju c st (enc p) L G (last:Int) ((v:Int),acc)=(G c st (enc (p++[v])) L).bind fun x=>(lG 24 acc x).bind fun s=>some (.next (((v+1:Nat):Int),s)):=by
    simp only[aju,g.hn,show decide ((v:Int)<(n:Int))=true by simp;omega,cond_true,aCR p v (by omega),cg,u3,hw,hc,he,cond_false,hZ,h0,ao]
   rcases AP v ik Xw bx with hx|hx
   ·refine .inr ⟨?_,v,ik,Xw,bx,hx⟩
    rw[k4,cd,hx];rfl
   ·have kW:=dr (p++[v])
    have aGZ:lG 24 acc (Nj (kf st.l f n) n d (p++[v]))=some (if y2 (kf st.l f n) n d (p++[v])=[]then acc else .mk (acc.l++(y2 (kf st.l f n) n d (p++[v])).map enc)):=by
     unfold lG;rw[ax1];by_cases aT:y2 (kf st.l f n) n d (p++[v])=[]
     ·rw[aT];simp
     ·rw[if_neg (by simpa using aT),if_pos,if_neg aT]
      rw[oG];have:(acc.l.length+(y2 (kf st.l f n) n d (p++[v])).length)*25<=100000*25:=Ki _ (by omega);omega
    rw[k4,cd,hx];simp only[cg,aGZ,kn];by_cases aT:y2 (kf st.l f n) n d (p++[v])=[]
    ·rw[if_pos aT]
     rcases aw6 g dr hp jG aqh AP k (v+1) acc (by omega) (by omega) (by omega)with h|h
     ·left;rw[h,aT];simp
     ·exact .inr h
    ·rw[if_neg aT]
     rcases aw6 g dr hp jG aqh AP k (v+1) (.mk (acc.l++(y2 (kf st.l f n) n d (p++[v])).map enc)) (by omega) (by omega) (by show(acc.l++_).length+_<=_;rw[gM,oG];omega)with h|h
     ·left
      rw[h];have bf:∀r:List (List Nat),y2 (kf st.l f n) n d (p++[v])++r≠[]:=fun r e=>aT (List.append_eq_nil_iff.1 e).1;rw[if_neg (bf _)];split
      ·rename_i e;rw[e];simp
      ·simp[show ∀l:List (ak Int),(ak.mk l).l=l from fun _=>rfl]
     ·exact .inr h
abbrev Us:(Constraint × ak Int × ak Int × Int->Option (ak (ak Int)))->Constraint × ak Int × ak Int × Int->Option (ak (ak Int)):=fun g p=>auW (fun c6 cb dR gR=>g (c6,cb,dR,gR)) p.1 p.2.1 p.2.2.1 p.2.2.2
theorem aG0{jJ:Nat->Nat->Bool}{p:List Nat}(gr:Path jJ n p):∃a b,p[0]? =some a/\p.headD 0=a/\p[p.length-1]? =some b/\p.getLastD 0=b/\a<n/\b<n/\0<p.length:=by
 have bf:=gr.ne;have lV:0<p.length:=auG.2 bf;refine⟨p[0],p[p.length-1],by simp[lV],?_,by simp[lV],?_,gr.lt _ (by simp),gr.lt _ (by simp),lV⟩
 ·cases p with
  |nil=>exact absurd rfl bf
  |cons x q=>rfl
 ·rw[axw bf,tY,hX (by omega)];rfl
theorem aG2{jJ:Nat->Nat->Bool}{p:List Nat}(gr:Path jJ n p){v:Nat}(h1:p.headD 0+1<=v)(h2:v<n)(h:(jJ (p.getLastD 0) v&&!p.contains v)=true):Path jJ n (p++[v]):=
 (gr.next (l':=p++[v]) (by
   unfold Bk;refine ey.2 ⟨v,List.mem_filter.2 ⟨by rw[List.mem_range'_1];omega,h⟩,rfl⟩)).1
theorem aCU (g:Ny c st f n){d:Nat}{p:List Nat}(gr:Path (kf st.l f n) n p)(hd:p.length+d<=6){G:Constraint × ak Int × ak Int × Int->Option (ak (ak Int))}
  (AP:∀e q,d=e+1->Path (kf st.l f n) n q->q.length=p.length+1->G (c,st,enc q,((q.length+e:Nat):Int))=none\/G (c,st,enc q,((q.length+e:Nat):Int))=some (Nj (kf st.l f n) n e q)):
  Us G (c,st,enc p,((p.length+d:Nat):Int))=some (Nj (kf st.l f n) n d p)\/(Us G (c,st,enc p,((p.length+d:Nat):Int))=none/\∃e q,d=e+1/\Path (kf st.l f n) n q/\q.length=p.length+1/\G (c,st,enc q,((q.length+e:Nat):Int))=none):=by
 obtain⟨a,b,af,e2,bT,cF,ao,hb,lV⟩:=aG0 gr;have aaV:=g.Ur;have i0:bQ (enc p).l 0=some (a:Int):=by rw[al3,Hb,jy,af];rfl
 have hlen:(enc p).len=((p.length:Nat):Int):=by rw[gL,Hb,oG]
 have i1:bQ (enc p).l (bJ ((enc p).len-1))=some (b:Int):=by
  rw[hlen,iN (by omega) (by omega),show((p.length:Nat):Int)-1=((p.length-1:Nat):Int) by omega,fP,Hb,jy,bT];rfl
 show auW _ c st (enc p) _=_\/auW _ c st (enc p) _=none/\_;unfold auW;simp only[i1,i0,cg];simp only[hlen];cases d with
 |zero=>
  left;have hG:Ih (kf st.l f n) p=kf st.l f n b a:=by unfold Ih;rw[e2,cF]
  have he:avj c st (b:Int) (a:Int)=some (kf st.l f n b a):=aw2 g hb ao;rw[show(((p.length:Nat):Int)==((p.length+0:Nat):Int))=true by simp];simp only[cond_true,he,cg,Nj,y2,hG];cases kf st.l f n b a<;>simp
 |succ d=>
  rw[show(((p.length:Nat):Int)==((p.length+(d+1):Nat):Int))=false by rw[beq_eq_false_iff_ne];omega];simp only[cond_false];rw[iN (by omega) (by omega),show((a:Int)+1)=((a+1:Nat):Int)from rfl];have bx:∀v,a+1<=v->v<n->(kf st.l f n b v&&!p.contains v)=true->Path (kf st.l f n) n (p++[v]):=fun v h1 h2 h=>aG2 gr (by rw[e2];exact h1) h2 (by rw[cF];exact h);have df:∀v:Nat,(((p++[v]).length+d:Nat):Int)=((p.length+(d+1):Nat):Int):=fun v=>by rw[gM];simp;omega
  have yl:∀v:Nat,(p++[v]).length=p.length+1:=fun v=>by simp
  have aG3:y2 (kf st.l f n) n (d+1) p=((List.range' (a+1) (n-(a+1))).filter fun v=>kf st.l f n b v&&!p.contains v).flatMap fun v=>y2 (kf st.l f n) n d (p++[v]):=by
   simp only[y2];unfold Bk;rw[e2,cF,List.flatMap_map]
  have dr:∀q,(y2 (kf st.l f n) n d q).length<=7776:=fun q=>by
   have h1:=aCT (jJ:=kf st.l f n) (n:=n) d q;have h2:n^d<=6^d:=Nat.pow_le_pow_left aaV d;have ar:6^d<=6^5:=Nat.pow_le_pow_right (by omega) (by omega);have aQ:6^5=7776:=rfl;omega
  have aG4:0+(n-(a+1))*7776<=100000:=by
   have:(n-(a+1))*7776<=6*7776:=Ki _ (by omega);omega
  rcases aw6 g dr (L:=((p.length+(d+1):Nat):Int)) gr.ne (by omega) hb (G:=fun c6 cb dR gR=>G (c6,cb,dR,gR)) (lo:=a+1) (fun v h1 h2 ar=>by
   have:=AP d (p++[v]) rfl (bx v h1 h2 ar) (yl v);rw[df v]at this;exact this) (n-(a+1)) (a+1) .emp (aK _) (by omega) aG4 with h|⟨h,v,h1,h2,ar,aQ⟩
  ·left
   rw[h];simp only[cg];rw[<-aG3];unfold Nj;split
   ·rfl
   ·simp[ak.l]
  ·right
   refine⟨by rw[h];rfl,d,p++[v],rfl,bx v h1 h2 ar,yl v,?_⟩;rw[df v];exact aQ
theorem ax2 (g:Ny c st f n):∀(d m:Nat) (p:List Nat),Path (kf st.l f n) n p->p.length+d<=6->d<m->H4 Us m (c,st,enc p,((p.length+d:Nat):Int))=some (Nj (kf st.l f n) n d p)
 |d,0,p,_,_,h=>absurd h (by omega)
 |d,m+1,p,gr,hd,hm=>by
  rcases aCU g gr hd (G:=H4 Us m) (fun e q he bc hl=>.inr (ax2 g e m q bc (by omega) (by omega)))with h|⟨-,e,q,he,bc,hl,h⟩
  ·exact h
  ·rw[ax2 g e m q bc (by omega) (by omega)]at h;cases h
theorem aCV (g:Ny c st f n):∀(m d:Nat) (p:List Nat) (r:ak (ak Int)),Path (kf st.l f n) n p->p.length+d<=6->H4 Us m (c,st,enc p,((p.length+d:Nat):Int))=some r->r=Nj (kf st.l f n) n d p
 |0,d,p,r,_,_,h=>by cases h
 |m+1,d,p,r,gr,hd,h=>by
  have h:Us (H4 Us m) (c,st,enc p,((p.length+d:Nat):Int))=some r:=h
  rcases aCU g gr hd (G:=H4 Us m) (fun e q he bc hl=>by
   cases hx:H4 Us m (c,st,enc q,((q.length+e:Nat):Int))with
   |none=>exact .inl rfl
   |some mU=>exact .inr (by rw[aCV g m e q mU bc (by omega) hx]))with h'|⟨h',-⟩
  ·rw[h']at h;exact(rA h).symm
  ·rw[h']at h;cases h
theorem aG5 (g:Ny c st f n){d:Nat}{p:List Nat}(gr:Path (kf st.l f n) n p)(hd:p.length+d<=6):awf c st (enc p) ((p.length+d:Nat):Int)=some (Nj (kf st.l f n) n d p):=
 aDG (F:=Us) (n:=d+1) (ax2 g d (d+1) p gr hd (by omega)) fun m r h=>aCV g m d p r gr hd h
theorem aG6{jJ:Nat->Nat->Bool}{a:Nat}(ao:a<n):Path jJ n [a]:=(axx (jJ:=jJ) (size:=n) [a] (ey.2 ⟨a,Ks.2 ao,rfl⟩)).1
theorem aCW (g:Ny c st f n){j:Nat}(hj:j<n):∀(k a:Nat),a+k=n->(c0 (auI c st ((j+1:Nat):Int)) (a:Int)=some (.go ())/\∀x,a<=x->x<n->y2 (kf st.l f n) n j [x]=[])\/
  ∃x p,a<=x/\x<n/\(∀y,a<=y->y<x->y2 (kf st.l f n) n j [y]=[])/\(y2 (kf st.l f n) n j [x]).head? =some p/\c0 (auI c st ((j+1:Nat):Int)) (a:Int)=some (.ret (enc p))
 |0,a,ao=>.inl ⟨by
   rw[k4];simp only[auI,g.hn,show decide ((a:Int)<(n:Int))=false by simp;omega,cond_false],fun x h1 h2=>absurd h1 (by omega)⟩
 |k+1,a,ao=>by
  have aaV:=g.Ur;have hw:bJ ((a:Int)+1)=((a+1:Nat):Int):=iN (by omega) (by omega)
  have hp:awf c st (ak.mk [(a:Int)]) ((j+1:Nat):Int)=some (Nj (kf st.l f n) n j [a]):=by
   have:=aG5 g (d:=j) (aG6 (jJ:=kf st.l f n) (n:=n) (a:=a) (by omega)) (by simp;omega);rw[show([a].length+j:Nat)=j+1 from avO _ _]at this;exact this
  cases hd:y2 (kf st.l f n) n j [a]with
  |nil=>
   have aT:(Nj (kf st.l f n) n j [a]).len=0:=by rw[gL,ax1,hd];rfl
   have Fb:auI c st ((j+1:Nat):Int) (a:Int)=some (.next (((a+1:Nat):Int))):=by
    simp only[auI,g.hn,show decide ((a:Int)<(n:Int))=true by simp;omega,cond_true,hp,cg,aT,hw];rfl
   have low:∀x,a<=x->a+1<=x\/x=a:=fun x h=>by omega
   rcases aCW g hj k (a+1) (by omega)with⟨h1,h2⟩|⟨x,p,h1,h2,ar,aQ,h5⟩
   ·exact .inl ⟨by rw[k4,Fb];exact h1,fun x q1 aS=>(low x q1).elim (fun q=>h2 x q aS) fun q=>q ▸ hd⟩
   ·exact .inr ⟨x,p,by omega,h2,fun y q1 aS=>(low y q1).elim (fun q=>ar y q aS) fun q=>q ▸ hd,aQ,by rw[k4,Fb];exact h5⟩
  |cons p r=>
   refine .inr ⟨a,p,aK _,by omega,fun y h1 h2=>absurd h1 (by omega),by rw[hd];rfl,?_⟩;have hl:(Nj (kf st.l f n) n j [a]).l=enc p::r.map enc:=by rw[ax1,hd];rfl
   rw[k4];simp only[auI,g.hn,show decide ((a:Int)<(n:Int))=true by simp;omega,cond_true,hp,cg,gL,hl,ev,al3,rr];rw[show decide ((((r.map enc).length+1:Nat):Int)>0)=true by simp];rfl
theorem aCX (g:Ny c st f n):∀(k j:Nat),j+k=n->(∀i,i<j->∀x,x<n->y2 (kf st.l f n) n i [x]=[])->∃y,c0 (avl c st) ((j+1:Nat):Int)=some y/\match au2 (kf st.l f n) n with|none=>y=.go ()|some p=>y=.ret (enc p)
 |0,j,hj,h=>⟨.go (),by
   rw[k4];simp only[avl,g.hn,show decide (((j+1:Nat):Int)<=(n:Int))=false by simp;omega,cond_false],by
   rw[aGY fun i hi=>h i (by omega)]⟩
 |k+1,j,hj,h=>by
  have aaV:=g.Ur;have hw:bJ (((j+1:Nat):Int)+1)=((j+1+1:Nat):Int):=iN (by omega) (by omega);have hle:decide (((j+1:Nat):Int)<=(n:Int))=true:=by simp;omega
  rcases aCW g (j:=j) (by omega) n 0 (by omega)with⟨h1,h2⟩|⟨x,p,h1,h2,ar,aQ,h5⟩
  ·obtain⟨y,af,e2⟩:=aCX g k (j+1) (by omega) fun i hi x hx=>by
    rcases fX i j with q|q
    ·exact h i q x hx
    ·obtain rfl:i=j:=by omega
     exact h2 x (cx _) hx
   refine⟨y,?_,e2⟩;rw[k4];rw[show((0:Nat):Int)=0 from rfl]at h1;simp only[avl,g.hn,hle,cond_true,h1,cg,hw];exact af
  ·rw[aGX (by omega) h2 h (fun y hy=>ar y (cx _) hy) aQ]
   refine⟨.ret (enc p),?_,rfl⟩;rw[k4];rw[show((0:Nat):Int)=0 from rfl]at h5;simp only[avl,g.hn,hle,cond_true,h5,cg]
theorem aCY (c:Constraint){N:Nat}(wN:N<=100000)(cW:(c.Kind==1)=true):auV c (N:Int)=some (Qv c N):=by
 have:=aw1 c wN;unfold auS at this;unfold auV;rw[cW]at this⊢;exact this
theorem aG7 (c:Constraint)(st:ak Int)(wN:st.l.length<=100000):∃z,awg c st=some z/\z.l=(aw4 c st.l).map fun(a:Nat)=>(a:Int):=by
 unfold awg aw4;cases cW:c.Kind==1 with
 |false=>
  have:Qv c st.l.length=false:=by unfold Qv;rw[cW];rfl
  rw[this,show(c.Kind != 1)=true by simp only[bne,cW];rfl];exact⟨_,rfl,rfl⟩
 |true=>
  rw[show(c.Kind != 1)=false by simp only[bne,cW];rfl,gL,aCY c wN cW];cases bj:Qv c st.l.length with
  |false=>exact⟨_,rfl,rfl⟩
  |true=>
   have g:=aCw wN bj;generalize c.dG.toNat=f at g;generalize c.w1.toNat=n at g;obtain⟨y,af,e2⟩:=aCX g n 0 (by omega) fun i hi=>absurd hi (by omega);rw[show((0+1:Nat):Int)=1 from rfl]at af;simp only[cg,cond_false,hZ,af,cond_true];cases hc:au2 (kf st.l f n) n with
   |none=>rw[hc]at e2;subst e2;exact⟨_,rfl,rfl⟩
   |some p=>rw[hc]at e2;subst e2;exact⟨_,rfl,rfl⟩
end
end
end Go.Abs.hk
namespace Go.Abs.hk
open Go Go.Abs Go.Abs.Qu
noncomputable section
def El (st:ak Int)(i:Int):Int:=st.l.getD i.toNat 0
def au5 (st:ak Int)(p:Int × Int)(t:Term):Int × Int:=(bJ (p.1+bJ (t.pT*bJ ((El st t.Cell).tdiv 4294967296))),bJ (p.2+bJ (t.pT*(El st t.Cell).tmod 4294967296)))
def HT (n:Int)(t:Term):Bool:=!(decide (t.Cell<0)||decide (t.Cell>=n))
theorem aCZ{st:ak Int}{t:Term}(h:HT st.len t=true):bQ st.l t.Cell=some (El st t.Cell):=by
 unfold HT at h;simp only[nV,B9,decide_eq_false_iff_not]at h;have h2:=h.2;rw[gL]at h2;unfold El;rw[JO (by omega),hX (by omega),tY,hX (by omega)];rfl
theorem aC0{α A O:Type}{ok:α->Bool}{g:A->α->A}{fin:A->O}{o:O}:∀(l:List α) (k:Nat) (a:A),kO (fun _ a x=>bif ok x then Sum.inl (g a x)else .inr o) fin k a l=bif l.all ok then fin (l.foldl g a)else o
 |[],_,_=>rfl
 |x::r,k,a=>by
  simp only[kO,xG,qu];cases ok x with
  |true=>simp only[cond_true,fI];exact aC0 r (k+1) (g a x)
  |false=>rfl
theorem aG8 (c:Constraint)(st:ak Int)(hT:cm c.Row.eT.l):c0 (agt c st) (0,0,0)=some (bif c.Row.eT.l.all (HT st.len)then .go (c.Row.eT.l.foldl (au5 st) (0,0))else .ret ()):=by
 have h:=YG (f:=agt c st) (fun k (p:Int × Int)=>(p.1,p.2,(k:Int))) (fun _ p x=>bif HT st.len x then .inl (au5 st p x)else .inr (.ret ())) (fun p=>.go p) (fun _ _=>True) c.Row.eT.l (fun k p x hx _=>by
  refine⟨?_,fun _ _=>trivial⟩;have aX:=kl hx;have hw:bJ ((k:Int)+1)=((k+1:Nat):Int):=fN (by unfold cm at hT;omega);simp only[agt,k8 aX,cond_true,fP,hx,cg];cases hi:HT st.len x with
  |false=>
   have:(decide (x.Cell<0)||decide (x.Cell>=st.len))=true:=by simpa only[HT,Bool.not_eq_false']using hi
   rw[this];rfl
  |true=>
   have:(decide (x.Cell<0)||decide (x.Cell>=st.len))=false:=by simpa only[HT,nV]using hi
   simp only[this,cond_false,aCZ hi,cg,hw];rfl) (fun p _=>by simp only[agt,mw,cond_false]) (a:=(0,0)) trivial
 rw[aC0]at h;exact h
theorem aG9 (r:Row)(st:ak Int)(hT:cm r.eT.l)(hi:r.eT.l.all (HT st.len)=true):c0 (avn r st) (0,0,0)=some (r.eT.l.foldl (au5 st) (0,0)):=by
 have h:=YG (f:=avn r st) (fun k (p:Int × Int)=>(p.1,p.2,(k:Int))) (fun _ p x=>.inl (au5 st p x)) (fun p=>p) (fun _ _=>True) r.eT.l (fun k p x hx _=>by
  refine⟨?_,fun _ _=>trivial⟩;have aX:=kl hx;have hw:bJ ((k:Int)+1)=((k+1:Nat):Int):=fN (by unfold cm at hT;omega);have hin:=eV.1 hi x (hz hx);simp only[avn,k8 aX,cond_true,fP,hx,cg,aCZ hin,hw];rfl) (fun p _=>by simp only[avn,mw,cond_false]) (a:=(0,0)) trivial
 rw[YJ fun _ _ _=>rfl]at h;exact h
theorem aHa (c:Constraint)(n:Int)(hT:cm c.Row.eT.l):c0 (avi c n) 0=some (bif c.Row.eT.l.all (HT n)then .go ()else .ret ()):=by
 rw[xn (f:=avi c n) c.Row.eT.l hT (fun t=>!HT n t) (fun k x hx=>by
  simp only[avi,k8 (kl hx),cond_true,fP,hx,cg];have:(!HT n x)=(decide (x.Cell<0)||decide (x.Cell>=n)):=by unfold HT;simp
  rw[this];cases decide (x.Cell<0)<;>cases decide (x.Cell>=n)<;>rfl) (by simp only[avi,mw,cond_false])]
 have:(c.Row.eT.l.any fun t=>!HT n t)=!(c.Row.eT.l.all (HT n)):=by rw[List.not_all_eq_any_not]
 rw[this];cases c.Row.eT.l.all (HT n)<;>rfl
theorem aC1 (c:Constraint)(st:ak Int)(wN:st.l.length<=100000)(hT:cm c.Row.eT.l):awh c st=zw c st:=by
 unfold awh zw;cases cW:c.Kind==1 with
 |true=>
  rw[gL,aCY c wN cW,aw1 c wN];cases bj:Qv c st.l.length with
  |false=>rfl
  |true=>
   obtain⟨z,af,e2⟩:=aCG c st wN;obtain⟨y,bT,cF⟩:=aG7 c st wN;simp only[cg,cond_true,af,bT,gL,e2,cF]
 |false=>
  unfold auV;rw[cW];simp only[cond_false,aG8 c st hT,aHa c _ hT,cg];cases hi:c.Row.eT.l.all (HT st.len)with
  |false=>rfl
  |true=>
   unfold axp;rw[aG9 c.Row st hT hi];simp only[cond_true,cg];cases c.Kind==0 with
   |false=>rfl
   |true=>rfl
structure aw7 (st:ak Int) (t:Term):Prop where
 f1:-1000000000<=t.pT
 f2:t.pT<=1000000000
 v1:-1000000<=El st t.Cell
 v2:El st t.Cell<=1000000
theorem aw7.mul{st:ak Int}{t:Term}(h:aw7 st t):-1000000000000000<=t.pT*El st t.Cell/\t.pT*El st t.Cell<=1000000000000000:=by
 obtain⟨h1,h2,ar,aQ⟩:=h;generalize El st t.Cell=v at ar aQ;generalize t.pT=f at h1 h2
 have:(f*v).natAbs<=1000000000*1000000:=by
  rw[Int.natAbs_mul];exact axg (by omega) (by omega)
 omega
theorem aw7.step{st:ak Int}{t:Term}(h:aw7 st t){s:Int}(h1:-4000000000000000000<=s)(h2:s<=4000000000000000000):au5 st (0,s) t=(0,s+t.pT*El st t.Cell):=by
 have hm:=h.mul;obtain⟨q1,aS,b1,cL⟩:=h
 have af:(El st t.Cell).tdiv 4294967296=0:=by
  rcases Int.lt_or_le (El st t.Cell) 0 with q|q
  ·have:(El st t.Cell)=-(-(El st t.Cell)):=by omega
   rw[this,Int.neg_tdiv,Int.tdiv_eq_zero_of_lt (by omega) (by omega)];rfl
  ·exact Int.tdiv_eq_zero_of_lt q (by omega)
 have e2:(El st t.Cell).tmod 4294967296=El st t.Cell:=by
  have:=Int.mul_tdiv_add_tmod (El st t.Cell) 4294967296;rw[af]at this;omega
 unfold au5;simp only[af,e2];rw[iN (n:=t.pT*El st t.Cell) (by omega) (by omega),iN (n:=s+_) (by omega) (by omega)];rw[show bJ 0=0 from rfl,Int.mul_zero,show bJ 0=0 from rfl];rfl
end
end Go.Abs.hk
namespace Go.Abs.hk
open Go Go.Abs Go.Abs.Lex
noncomputable section
theorem aK6{s:bH}(hl:s.length<4611686018427387904):∀(n k:Nat),k+n=s.length->c0 (avS s) (k:Int)=some (((k+q4 (s.drop k):Nat)):Int):=by
 intro n
 induction n with
 |zero=>
  intro k cW;have e:avS s (k:Int)=some (.out (k:Int)):=by simp only[avS,Zo (show s.length<=k by omega),cond_false,cg]
  rw[k4,e,B6 (by omega)];rfl
 |succ n ih=>
  intro k cW;have aX:k<s.length:=by omega
  have hx:s[k]? =some s[k]:=by simp[aX]
  have JR:s.drop k=s[k]::s.drop (k+1):=wc aX
  have hs:((((sym (s.drop k):Nat):Int))==0)=!decide (0<sym (s.drop k)):=by
   by_cases h:0<sym (s.drop k)
   ·rw[decide_eq_true h];simp;omega
   ·have:sym (s.drop k)=0:=by omega
    rw[this];rfl
  have ab:avS s (k:Int)=bif (kd s[k]||s[k].toNat==35||vo (s.drop k))then some (.out (k:Int))else some (.next (bJ ((k:Int)+1))):=by
   simp only[avS,Zn aX,cond_true,fP,hx,cg,aD9,ay9,ayl,aEa hl (xI aX),hs,bne];rw[show((s[k].toNat:Int)==35)=(s[k].toNat==35)from xt s[k] 35];have hb:vo (s.drop k)=(ml s[k]||iY s[k]||decide (0<sym (s.drop k))):=by rw[JR];rfl
   rw[hb];cases kd s[k]<;>cases s[k].toNat==35<;>cases ml s[k]<;>cases iY s[k]<;>cases decide (0<sym (s.drop k))<;>rfl
  rw[k4,ab]
  have hw:q4 (s.drop k)=if kd s[k]||s[k].toNat==35||vo (s.drop k)then 0 else q4 (s.drop (k+1))+1:=by
   rw[JR];rfl
  rw[hw];cases(kd s[k]||s[k].toNat==35||vo (s.drop k))with
  |true=>rfl
  |false=>
   simp only[cond_false,hY,if_false];rw[fN (by omega),ih (k+1) (by omega)];congr 2;omega
theorem aK7{s:bH}(hl:s.length<4611686018427387904){k:Nat}(cW:k<=s.length):c0 (axC s) (k:Int)=some (((k+ke om (s.drop k):Nat)):Int):=
 anu hl om (fun k c hx=>by
  have aX:=kl hx;simp only[axC,Zn aX,cond_true,fP,hx,cg,ay9,ayl];rw[show((c.toNat:Int)==95)=(c.toNat==95)from xt c 95];unfold om;cases ml c<;>cases iY c<;>cases c.toNat==95<;>rfl) (fun k cW=>by simp only[axC,Zo cW,cond_false,cg]) (s.length-k) k (by omega)
theorem aK8{s:bH}(hl:s.length<4611686018427387904){k:Nat}(cW:k<=s.length):c0 (axD s) (k:Int)=some (((k+ke iY (s.drop k):Nat)):Int):=
 anu hl iY (fun k c hx=>by
  have aX:=kl hx;simp only[axD,Zn aX,cond_true,fP,hx,cg,ayl];cases iY c<;>rfl) (fun k cW=>by simp only[axD,Zo cW,cond_false,cg]) (s.length-k) k (by omega)
theorem aK9:cm kw:=by unfold cm;rw[Wn];omega
theorem aLa (l:List bH)(x:bH):l.contains x=l.any fun y=>y==x:=by
 induction l with
 |nil=>rfl
 |cons y r ih=>rw[List.contains_cons,ih,List.any_cons,JD]
theorem aLb{s:bH}(hl:s.length<4611686018427387904){k:Nat}(cW:k<s.length)(hw:kd s[k]=false)(rj:s[k].toNat≠35):
  axE s (k:Int)=some (((fF (s.drop k):Nat):Int),((k+gB (s.drop k):Nat):Int)):=by
 have hx:s[k]? =some s[k]:=by simp[cW]
 have JR:s.drop k=s[k]::s.drop (k+1):=wc cW;have hlen:(s.drop k).length=s.length-k:=sN;unfold axE;simp only[fP,hx,cg,ay9,ayl];have kC:fF (s.drop k)=if ml s[k]then(if kw.contains ((s.drop k).take (ke om (s.drop k)))then 2 else 1)else if iY s[k]then 3 else if 0<sym (s.drop k)then 4 else 5:=by rw[JR];rfl
 have df:gB (s.drop k)=if ml s[k]then ke om (s.drop k)else if iY s[k]then ke iY (s.drop k)else if 0<sym (s.drop k)then sym (s.drop k)else q4 (s.drop (k+1))+1:=by rw[JR];rfl
 rw[kC,df];cases hc:ml s[k]with
 |true=>
  simp only[cond_true,if_true];rw[aK7 hl (xI cW)];have hle:=DH om (s.drop k);simp only[cg,aJ4];rw[Zp (by omega) (by omega)];have e:(s.take (k+ke om (s.drop k))).drop k=(s.drop k).take (ke om (s.drop k)):=by rw[List.drop_take];congr 1;omega
  rw[e];simp only[cg];rw[aD4 (ak.mk kw) _ aK9,aLa];simp only[cg];show(bif kw.any (fun y=>y==_)then _ else _)=_;cases kw.any (fun y=>y==(s.drop k).take (ke om (s.drop k)))<;>rfl
 |false=>
  simp only[cond_false,hY,if_false];cases hd:iY s[k]with
  |true=>
   simp only[cond_true,if_true];rw[aK8 hl (xI cW)];rfl
  |false=>
   simp only[cond_false,hY,if_false];rw[aEa hl (xI cW)];simp only[cg];have aNh:=aio (s.drop k);by_cases hs:0<sym (s.drop k)
   ·have d:decide (((sym (s.drop k):Nat):Int)>0)=true:=by simp;exact hs
    rw[d,if_pos hs,if_pos hs];simp only[cond_true];rw[iN (by omega) (by omega)];rfl
   ·have d:decide (((sym (s.drop k):Nat):Int)>0)=false:=by simp;omega
    rw[d,if_neg hs,if_neg hs];simp only[cond_false];rw[aK6 hl (s.length-k) k (by omega)]
    have hb:vo (s.drop k)=false:=by
     have:vo (s.drop k)=(ml s[k]||iY s[k]||decide (0<sym (s.drop k))):=by rw[JR];rfl
     rw[this,hc,hd,decide_eq_false hs];rfl
    have mI:q4 (s.drop k)=q4 (s.drop (k+1))+1:=by
     have:q4 (s.drop k)=if kd s[k]||s[k].toNat==35||vo (s.drop k)then 0 else q4 (s.drop (k+1))+1:=by rw[JR];rfl
     have aLc:(s[k].toNat==35)=false:=by simpa using rj
     rw[this,hw,hb,aLc];rfl
    rw[mI];rfl
theorem aLd{s:bH}{k:Nat}(cW:k<=s.length)(h:eW s k<s.length):kd s[eW s k]=false/\s[eW s k].toNat≠35:=by
 have hd:s.drop (eW s k)=s[eW s k]::s.drop (eW s k+1):=wc h;have e:(s.drop k).drop (eU false (s.drop k))=s.drop (eW s k):=by rw[sR];rfl
 rw[<-e]at hd;exact aza false (s.drop k) _ _ hd rfl
theorem aLe{s:bH}{k:Nat}(h:k<s.length):1<=gB (s.drop k):=by
 have hd:s.drop k=s[k]::s.drop (k+1):=wc h;rw[hd];simp only[gB];split
 ·rename_i hc
  rw[yS,if_pos (by simp[om,hc])];omega
 ·split
  ·rename_i hc;rw[yS,if_pos hc];omega
  ·split<;>omega
theorem aLf{s:bH}(hl:s.length<=4096):∀(n k:Nat) (acc:ak Token),k+n=s.length->acc.l.length<=k+1->
  ∃(e:Int) (y:ak Token) (ts:List Token),c0 (avw s) ((k:Int),acc)=some (e,y)/\y.l=acc.l++ts/\ts.length<=n/\(s.length<=eW s k->ts=[])/\
   (eW s k<s.length->∃av8,ts=⟨((fF (s.drop (eW s k)):Nat):Int),(k:Int),((eW s k:Nat):Int),((iI s k:Nat):Int)⟩::av8/\(s.length<=eW s (iI s k)->av8=[])/\(eW s (iI s k)<s.length->av8≠[])):=by
 intro n
 induction n using Nat.strongRecOn with
 |ind n ih=>
  intro k acc cW aNi;have fT:=Wp (s:=s) (k:=k) (by omega);rw[k4];have ZB:=aJ0 (s:=s) (by omega) (k:=k) (by omega);by_cases aX:eW s k<s.length
  ·obtain⟨q1,aS⟩:=aLd (by omega) aX
   have aLg:=aLb (s:=s) (by omega) aX q1 aS;have lV:=aLe aX;have oe:=Ng (s:=s) (k:=k) (by omega);have hge:k<=eW s k:=by unfold eW;omega
   have he:iI s k=eW s k+gB (s.drop (eW s k)):=rfl;obtain⟨z,Ar,Y3⟩:=YP (BN:=32) (x:=acc) (y:=ak.mk [(⟨((fF (s.drop (eW s k)):Nat):Int),(k:Int),((eW s k:Nat):Int),((iI s k:Nat):Int)⟩:Token)]) (by omega) (by show acc.l.length+1<=_;omega)
   have ab:avw s ((k:Int),acc)=some (.next (((iI s k:Nat):Int),z)):=by
    simp only[avw,ZB,cg,Zn aX,cond_true,aLg];rw[<-he,Ar];rfl
   rw[ab];obtain⟨e,y,ts,af,e2,bT,cF,ej⟩:=ih (s.length-iI s k) (by omega) (iI s k) z (by omega) (by rw[Y3];simp only[gM];show acc.l.length+1<=_;omega);refine⟨e,y,_::ts,af,by rw[e2,Y3,mS];rfl,by simp only[ev];omega,fun h=>by omega,fun _=>⟨ts,rfl,cF,fun h=> ?_⟩⟩;obtain⟨av8,ays,-⟩:=ej h;rw[ays];simp
  ·have ab:avw s ((k:Int),acc)=some (.out ((k:Int),acc)):=by
    simp only[avw,ZB,cg,Zo (show s.length<=eW s k by omega),cond_false]
   rw[ab];exact⟨_,acc,[],rfl,by simp,by simp,fun _=>rfl,fun h=>absurd h aX⟩
theorem aLh{s:bH}(hl:s.length<=4096):axF s=some ((kindOf s:Nat):Int):=by
 unfold axF ayQ;have hd:decide ((s.length:Int)>4096)=false:=by simp;omega
 rw[hd];simp only[cond_false];obtain⟨e,y,ts,af,e2,bT,cF,ej⟩:=aLf hl s.length 0 .emp (by omega) (by simp[ak.l]);have GJ:c0 (avw s) (0,.emp)=some (e,y):=af;have hy:y.l=ts:=by rw[e2];rfl
 rw[GJ];simp only[cg];obtain⟨z,Ar,Y3⟩:=YP (BN:=32) (x:=y) (y:=ak.mk [(Token.mk 0 e (s.length:Int) (s.length:Int))]) (by omega) (by rw[hy];show ts.length+1<=_;omega);rw[Ar];simp only[cg,show((0:Int) != 0)=false from rfl,cond_false];have Am:z.l=ts++[Token.mk 0 e (s.length:Int) (s.length:Int)]:=by rw[Y3,hy];rfl
 have hlen:(z.len != 2)=!(z.l.length==2):=by unfold bne;rw[show(z.len==2)=(z.l.length==2)from Pw z 2]
 rw[hlen,Am];have AG:kindOf s=if s=[]\/4096<s.length then 0 else if eW s 0=0/\iI s 0=s.length then fF s else 0:=rfl
 by_cases aX:eW s 0<s.length
 ·obtain⟨av8,ays,f1,f2⟩:=ej aX
  have bf:¬(s=[]\/4096<s.length):=by
   rintro(h|h)
   ·rw[h]at aX;simp at aX
   ·omega
  rw[AG,if_neg bf];have du:=Ng (s:=s) (k:=0) (by omega);by_cases r3:eW s (iI s 0)<s.length
  ·
   have h1:((ts++[Token.mk 0 e (s.length:Int) (s.length:Int)]).length==2)=false:=by
    have:=f2 r3;rw[ays];cases av8 with
    |nil=>exact absurd rfl this
    |cons a r=>simp
   rw[h1]
   have aLi:¬(eW s 0=0/\iI s 0=s.length):=by
    rintro⟨-,h⟩;have:iI s 0<=eW s (iI s 0):=by show _<=_+_;omega
    omega
   rw[if_neg aLi];rfl
  ·have hn:=f1 (by omega)
   subst hn;subst ays;have h1:(([(⟨((fF (s.drop (eW s 0)):Nat):Int),((0:Nat):Int),((eW s 0:Nat):Int),((iI s 0:Nat):Int)⟩:Token)]++[Token.mk 0 e (s.length:Int) (s.length:Int)]).length==2)=true:=rfl;rw[h1];simp only[hZ,cond_false,jz,jB,al3,rr,cg];by_cases ao:eW s 0=0
   ·by_cases hb:iI s 0=s.length
    ·rw[if_pos ⟨ao,hb⟩,ao,hb]
     simp
    ·have:((((iI s 0:Nat):Int)) != (s.length:Int))=true:=by simp;omega
     rw[if_neg (fun h=>hb h.2),ao,this];rfl
   ·have:((((eW s 0:Nat):Int)) != 0)=true:=by simp;omega
    rw[if_neg (fun h=>ao h.1),this];rfl
 ·have JW:=cF (by omega)
  subst JW;have h1:(([]++[Token.mk 0 e (s.length:Int) (s.length:Int)]).length==2)=false:=rfl;rw[h1,AG];by_cases hs:s=[]
  ·rw[if_pos (.inl hs)];rfl
  ·have lV:0<s.length:=auG.2 hs
   rw[if_neg (by rintro(h|h);exact hs h;omega),if_neg (by rintro⟨h,-⟩;omega)];rfl
theorem aEM (w:bH)(h:w.length<=40):ajb w=some (tM w):=by
 unfold tM yX ajb;rw[aLh (by omega)];unfold pU;simp only[cg];cases cW:((kindOf w:Nat):Int)==1<;>cases hl:decide ((w.length:Int)<=16)<;>simp[cW]
theorem aLj{m:Model}(h:Fp m=true):ou m=some (vT m)/\avV m=some (vT m):=⟨Fq (ans h),aJX (ans h) aEM⟩
end
end Go.Abs.hk
namespace Go.Abs.hk
open Go Go.Abs Go.Abs.Qu
noncomputable section
def afD (v:Int):Bool:=!(decide (v< -1000000)||decide (v>1000000))
theorem aC2 (l:ak Int)(h:cm l.l):auO l=some (l.l.all afD&&decide (l.l.length<=128)):=by
 unfold auO
 rw[xn (f:=avY l) l.l h (fun v=>!afD v) (fun k x hx=>by
  simp only[avY,k8 (kl hx),cond_true,fP,hx,cg];have:(!afD x)=(decide (x< -1000000)||decide (x>1000000)):=by unfold afD;simp
  rw[this];cases decide (x< -1000000)<;>cases decide (x>1000000)<;>rfl) (by simp only[avY,mw,cond_false])]
 have:(l.l.any fun v=>!afD v)=!(l.l.all afD):=by rw[List.not_all_eq_any_not]
 rw[this];cases l.l.all afD with
 |false=>rfl
 |true=>
  have e:decide (l.len<=128)=decide (l.l.length<=128):=by rw[zU,decide_eq_true_iff,decide_eq_true_iff,gL];omega
  simp only[cg,hZ,cond_false,fI,e]
theorem aHb (a:ak Int)(d:ak Change)(ao:a.l.length<=100000)(hd:cm d.l):∃z,awU a d=some z/\z.l=au4 a.l d.l:=by
 unfold awU;obtain⟨s,e,el⟩:=YP (BN:=8) (x:=(ak.emp:ak Int)) (y:=a) (by omega) (by show 0+a.l.length<=_;omega);have el:s.l=a.l:=by rw[el];rfl
 rw[e];simp only[cg]
 have key:∀(r:List Change) (k:Nat) (s:ak Int),d.l.drop k=r->s.l.length=a.l.length->∃z,c0 (avp d) ((k:Int),s)=some z/\z.l=au4 s.l r:=by
  intro r
  induction r with
  |nil=>
   intro k s hr hs;have cW:d.l.length<=k:=List.drop_eq_nil_iff.1 hr;refine⟨s,?_,rfl⟩;rw[k4];simp only[avp,aCI cW,cond_false]
  |cons c r ih=>
   intro k s hr hs
   have aX:k<d.l.length:=by
    rcases fX k d.l.length with q|q
    ·exact q
    ·rw[B6 q]at hr;cases hr
   have axY:d.l[k]? =some c:=by
    have:=congrArg (·[0]?) hr;simpa using this
   have gu:d.l.drop (k+1)=r:=by
    have:=congrArg List.tail hr;simpa using this
   have hn:∃al,avp d ((k:Int),s)=some (.next (((k+1:Nat):Int),al))/\al.l=arV s.l c:=by
    unfold cm at hd;simp only[avp,k8 aX,cond_true,fP,axY,cg];rw[fN (by omega)];unfold arV;rw[show decide (c.Cell<(s.l.length:Int))=decide (c.Cell<s.len)from rfl];cases hc:decide (c.Cell>=0)&&decide (c.Cell<s.len)with
    |false=>exact⟨s,rfl,rfl⟩
    |true=>
     have hc0:=of_decide_eq_true (axe.1 hc).1;have GX:=of_decide_eq_true (axe.1 hc).2;rw[gL]at GX
     have:bQ s.l c.Cell=some (s.l.getD c.Cell.toNat 0):=by
      rw[JO (by omega),hX (by omega),tY,hX (by omega)];rfl
     simp only[cond_true,this,cg];exact⟨_,rfl,rfl⟩
   obtain⟨al,h1,h2⟩:=hn;obtain⟨z,af,e2⟩:=ih (k+1) al gu (by rw[h2,axX,hs]);exact⟨z,by rw[k4,h1];exact af,by rw[e2,h2];rfl⟩
 obtain⟨z,af,e2⟩:=key d.l 0 s rfl (by rw[el]);rw[show((0:Nat):Int)=0 from rfl]at af;rw[af];exact⟨z,rfl,by rw[e2,el]⟩
theorem aHc{m:Model}(hb:Fp m=true)(st:ak Int)(wN:st.l.length<=100000):∃v,awc m st=some v/\awk m st=some v/\(v=true->vT m=true/\(∃x y,D0 m.bC m.Tables true=some x/\avW m=some y/\x.l=hQ m.bC.l m.Tables.l true/\y.l=x.l/\st.l.length=x.l.length)/\∀c∈m.fu.l,zw c st=some true):=by
 have b:=ans hb;obtain⟨v1,v2⟩:=aLj hb;have rh:∀t∈m.Tables.l,cm t.bP.l:=fun t ht=>by have:=b.aa t ht;unfold cm;omega
 have fJ:cm m.bC.l:=by have:=b.PO;unfold cm;omega
 have oT:cm m.Tables.l:=by have:=b.tables;unfold cm;omega
 obtain⟨x,af,e2⟩:=YR m.bC m.Tables true fJ oT rh;obtain⟨y,bT,cF⟩:=aD2 m.bC m.Tables true fJ oT rh fun t ht=>aEM _ (by have:=b.aa t ht;omega);unfold awc auR awk auU avW;rw[v1,v2];cases ad:vT m with
 |false=>exact⟨false,rfl,rfl,fun h=>by cases h⟩
 |true=>
  have aLo:mu m.bC.l m.Tables.l=true:=by
   cases h:mu m.bC.l m.Tables.l with
   |true=>rfl
   |false=>unfold vT at ad;rw[h]at ad;simp at ad
  rw[aLo]at e2 cF;simp only[cond_true]at e2 cF;unfold av5 avz;simp only[cg,cond_true,af,bT,gL,e2,cF];cases hl:(((st.l.length:Nat):Int)==((hQ m.bC.l m.Tables.l true).length:Int))with
  |false=>exact⟨false,rfl,rfl,fun h=>by cases h⟩
  |true=>
   have eA:∀c∈m.fu.l,∃v,zw c st=some v:=fun c hc=>aCJ c st wN ((aw5 b).anr c hc)
   have h1:axo m.fu (fun z0=>awb st z0)=some (m.fu.l.any fun c=>!((zw c st).getD false)):=
    E5 m.fu (by have:=b.cons;omega) fun c hc=>by
     obtain⟨v,ad⟩:=eA c hc;simp only[awb,ad,cg,sO]
   have h2:awj m st=some (!(m.fu.l.any fun c=>!((zw c st).getD false))):=by
    unfold awj
    rw[xn (f:=awi m st) m.fu.l (by have:=b.cons;omega) (fun c=>!((zw c st).getD false)) (fun k c hc=>by
     obtain⟨v,ad⟩:=eA c (hz hc);simp only[awi,k8 (kl hc),cond_true,fP,hc,cg,auZ,aC1 c st wN ((aw5 b).anr c (hz hc)),ad,sO];cases v<;>rfl) (by simp only[awi,mw,cond_false])]
    cases m.fu.l.any fun c=>!((zw c st).getD false)<;>rfl
   simp only[cond_true,h1,h2,cg];refine⟨_,rfl,rfl,fun h=>⟨by trivial,⟨x,y,rfl,rfl,e2,by rw[cF,e2],by rw[e2];have:=eq_of_beq hl;omega⟩,fun c hc=> ?_⟩⟩;obtain⟨v,ad⟩:=eA c hc;rw[nV,QR]at h;have:=h c hc;rw[ad]at this⊢;simpa using this
end
end Go.Abs.hk
