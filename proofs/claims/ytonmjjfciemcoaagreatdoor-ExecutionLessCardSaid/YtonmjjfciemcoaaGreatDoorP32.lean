/- Texts of this claim, joined and written short by a program. -/
import Derived.Test.YtonmjjfciemcoaaGreatDoorP29
import Derived.Test.YtonmjjfciemcoaaGreatDoorP31
import Derived.Test.YtonmjjfciemcoaaGreatDoorP30
import Derived.Test.YtonmjjfciemcoaaGreatDoorP19
import Derived.Test.YtonmjjfciemcoaaGreatDoorP00
set_option linter.unusedVariables false
set_option linter.unusedSimpArgs false
set_option linter.unusedSectionVars false
namespace Go.Abs.bz
open Go Go.Abs Go.Abs.qS
noncomputable section
def enc (p:List Nat):ae Int:=.mk (p.map fun(a:Nat)=>(a:Int))
theorem zr (p:List Nat):(enc p).l=p.map fun(a:Nat)=>(a:Int):=rfl
def Cs (c:Constraint)(N:Nat):Bool:=(c.Kind==1)&&(decide (c.fS>=1)&&(decide (c.fS<=6)&&(decide (c.dK>=0)&&decide (c.dK<=(N:Int)-c.fS*c.fS))))
def kV (v:List Int)(f n:Nat)(a b:Nat):Bool:=decide (v.getD (f+a*n+b) 0>=1)
theorem aiE (c:Constraint){N:Nat}(dG:N<=100000):Eg c (N:Int)=some (Cs c N):=by
 unfold Eg Cs;by_cases h:c.fS>=1/\c.fS<=6
 ·have h1:c.fS*c.fS<=36:=by
   have:=Ot h.2 h.2 (by omega) (by omega);omega
  have h2:0<=c.fS*c.fS:=Int.mul_nonneg (by omega) (by omega);rw[fi (n:=c.fS*c.fS) (by omega) (by omega),fi (by omega) (by omega)]
 ·have:(decide (c.fS>=1)&&decide (c.fS<=6))=false:=by
   rw[Bool.eq_false_iff];intro e;simp only[b6,decide_eq_true_eq]at e;exact h e
  congr 2;rw[<-zI,<-zI (decide (c.fS>=1)),this];rfl
structure E5 (c:Constraint) (st:ae Int) (f n:Nat):Prop where
 ag:c.dK=f
 hn:c.fS=n
 nT:1<=n
 n6:n<=6
 le:f+n*n<=st.l.length
 N:st.l.length<=100000
theorem aAU{c:Constraint}{st:ae Int}(dG:st.l.length<=100000)(h:Cs c st.l.length=true):E5 c st c.dK.toNat c.fS.toNat:=by
 unfold Cs at h;simp only[b6,decide_eq_true_eq]at h;obtain⟨-,h1,h2,ar,aS⟩:=h
 have e:((c.fS.toNat*c.fS.toNat:Nat):Int)=c.fS*c.fS:=by
  have:(c.fS.toNat:Int)=c.fS:=Int.toNat_of_nonneg (by omega);rw[Int.natCast_mul,this]
 exact⟨by omega,by omega,by omega,by omega,by omega,dG⟩
section
variable{c:Constraint}{st:ae Int}{f n:Nat}
theorem mul_lt{a n:Nat}(ha:a<n)(b:Nat)(hb:b<n):a*n+b<n*n:=by
 have:(a+1)*n<=n*n:=x4 n ha;rw[zL]at this;omega
theorem aiF (g:E5 c st f n){a b:Nat}(ha:a<n)(hb:b<n):Eh st c (a:Int) (b:Int)=some (kV st.l f n a b):=by
 have h:=mul_lt ha b hb;have hn:=g.N;have hl:=g.le;unfold Eh kV
 rw[g.ag,g.hn,show((a:Int)*(n:Int))=((a*n:Nat):Int)from(Int.natCast_mul a n).symm,fi (n:=((a*n:Nat):Int)) (by omega) (by omega),fi (n:=(f:Int)+_) (by omega) (by omega),fi (by omega) (by omega),
  show((f:Int)+((a*n:Nat):Int)+(b:Int))=((f+a*n+b:Nat):Int) by omega,ef,eg (by omega)]
 simp[kj,eg (show f+a*n+b<st.l.length by omega)]
theorem aAV (p:List Nat)(v:Nat)(hp:p.length<=100000):HT (enc p) (v:Int)=some (p.contains v):=by
 have:HT (enc p) (v:Int)=some ((enc p).l.any fun x=>(v:Int)==x):=rT (enc p) (by rw[zr,eL];omega) (f:=fun x=>some ((v:Int)==x)) (fun x _=>rfl);rw[this,zr,List.any_map];congr 1;rw[zG,tc,s9];constructor
 ·rintro⟨x,hx,e⟩
  have e:(v:Int)=(x:Int):=by simpa using e
  rw[Int.ofNat_inj.1 e];exact hx
 ·intro h;exact⟨v,h,by simp⟩
theorem Uu{gW:Nat}{A:Type}{x:ae A}(a:A)(hb:gW+1<=1000)(h:x.l.length<=1000000):gz gW x (ae.mk [a])=some (.mk (x.l++[a])):=by
 unfold gz;rw[if_neg (by intro e;cases e),if_pos]
 ·rfl
 ·show(x.l.length+1)*(gW+1)<=2^40
  have:(x.l.length+1)*(gW+1)<=1000001*1000:=Ou (by omega) hb;omega
theorem aAW{p:List Nat}(hp:p≠[])(hl:p.length<=1000):pI 8 (enc p)=some (enc p):=by
 show gz 8 .emp (enc p)=_;unfold gz;rw[if_neg (by rw[zr];simpa using hp),if_pos]
 ·rfl
 ·show(0+(enc p).l.length)*9<=2^40
  rw[zr,eL];omega
theorem aiG (g:E5 c st f n){p:List Nat}{last:Nat}(hp:p≠[])(jm:p.length<=6)(aiH:last<n):∀(d v:Nat) (acc:ae (ae Int)),v+d=n->acc.l.length+d<=1000000->
  ∃z,cd (HU c st (enc p) (last:Int)) ((v:Int),acc)=some z/\z.l=acc.l++((List.range' v d).filter fun v=>kV st.l f n last v&&!p.contains v).map fun v=>enc (p++[v])
 |0,v,acc,ad,_=>⟨acc,by
   rw[fp];simp only[HU,g.hn,show decide ((v:Int)<(n:Int))=false by simp;omega,cond_false],by simp⟩
 |d+1,v,acc,ad,hl=>by
  have NT:=g.n6;have M6:v<n:=by omega
  have xK:HU c st (enc p) (last:Int) ((v:Int),acc)=some (.next (((v+1:Nat):Int),bif kV st.l f n last v&&!p.contains v then .mk (acc.l++[enc (p++[v])])else acc)):=by
   simp only[HU,g.hn,show decide ((v:Int)<(n:Int))=true by simp;omega,cond_true,aiF g aiH M6,bs,aAV p v (by omega)];cases kV st.l f n last v with
   |false=>
    simp only[cond_false,bs,Ov];rw[fi (by omega) (by omega)];rfl
   |true=>
    simp only[cond_true,bs,fU];cases p.contains v with
    |true=>
     simp only[hX,cond_false];rw[fi (by omega) (by omega)];rfl
    |false=>
     simp only[vQ,cond_true,aAW hp (by omega),bs];rw[Uu (v:Int) (by omega) (by rw[zr,eL];omega)];simp only[bs];rw[Uu _ (by omega) (by omega)];simp only[bs];rw[fi (by omega) (by omega),zr];simp[enc]
  obtain⟨z,e,el⟩:=aiG g hp jm aiH d (v+1) (bif kV st.l f n last v&&!p.contains v then .mk (acc.l++[enc (p++[v])])else acc) (by omega) (by
   cases kV st.l f n last v&&!p.contains v with
   |false=>show acc.l.length+d<=_;omega
   |true=>show(acc.l++[_]).length+d<=_;simp;omega)
  refine⟨z,by rw[fp,xK];exact e,?_⟩;rw[el,td,List.filter_cons];cases kV st.l f n last v&&!p.contains v with
  |false=>simp
  |true=>simp[show(ae.mk (acc.l++[enc (p++[v])])).l=acc.l++[enc (p++[v])]from rfl]
theorem aiI (g:E5 c st f n){ps:List (List Nat)}(oa:∀p∈ps,Path (kV st.l f n) n p){w:ae (ae Int)}(hw:w.l=ps.map enc)(hk:ps.length<=1000000):∀(r:List (List Nat)) (k:Nat) (acc:ae (ae Int)),ps.drop k=r->acc.l.length+6*r.length<=1000000->
  ∃z,cd (HV c st w) ((k:Int),acc)=some z/\(match r.find? (E4 (kV st.l f n))with|some l=>z=.ret (enc l)|none=>∃a,z=.go a/\a.l=acc.l++(r.flatMap (rY (kV st.l f n) n)).map enc)
 |[],k,acc,hr,_=>⟨.go acc,by
    have:ps.length<=k:=List.drop_eq_nil_iff.1 hr;rw[fp];simp only[HV,du,hw,eL,show decide ((k:Int)<(ps.length:Int))=false by simp;omega,cond_false],⟨acc,rfl,by simp⟩⟩
 |p::r,k,acc,hr,hl=>by
  have NT:=g.n6
  have aT:k<ps.length:=by
   rcases gh k ps.length with q|q
   ·exact q
   ·rw[zy q]at hr;cases hr
  have aiJ:ps[k]? =some p:=by
   have:=congrArg (·[0]?) hr;simpa using this
  have dj:ps.drop (k+1)=r:=by
   have:=congrArg List.tail hr;simpa using this
  have hp:=oa p (gg aiJ);have hlen:=hp.len;have bg:=hp.ne
  obtain⟨a,b,af,ak,bK,cL,h1,h2⟩:∃a b,p[0]? =some a/\p.headD 0=a/\p[p.length-1]? =some b/\p.getLastD 0=b/\a<n/\b<n:=by
   have iV:0<p.length:=JU.2 bg;refine⟨p[0],p[p.length-1],by simp[iV],?_,by simp[iV],?_,hp.lt _ (by simp),hp.lt _ (by simp)⟩
   ·cases p with
    |nil=>exact absurd rfl bg
    |cons x q=>rfl
   ·rw[aiC bg,kj,eg (by omega)];rfl
  have aAX:w.l[k]? =some (enc p):=by rw[hw,hL,aiJ];rfl
  have jm:(0:Nat)<p.length:=JU.2 bg;have i0:bE (enc p).l 0=some (a:Int):=by rw[ag5,zr,hL,af];rfl
  have l2:bE (enc p).l (aM ((enc p).len-1))=some (b:Int):=by
   rw[du,zr,eL,fi (by omega) (by omega),show((p.length:Nat):Int)-1=((p.length-1:Nat):Int) by omega,ef,hL,bK];rfl
  have fm:E4 (kV st.l f n) p=kV st.l f n b a:=by unfold E4;rw[ak,cL]
  rw[fp];simp only[HV,du w,hw,eL,show decide ((k:Int)<(ps.length:Int))=true by simp;omega,cond_true,ef];rw[<-hw,aAX];simp only[bs,i0,l2,aiF g h2 h1];rw[J6,fm];cases hb:kV st.l f n b a with
  |true=>exact⟨_,rfl,rfl⟩
  |false=>
   simp only[cond_false];obtain⟨z,q9,aAY⟩:=aiG g bg (by omega) h2 (n-(a+1)) (a+1) acc (by omega) (by simp only[gD]at hl;omega)
   have jW:z.l=acc.l++(rY (kV st.l f n) n p).map enc:=by
    rw[aAY];unfold rY;rw[ak,cL,kX];rfl
   rw[fi (by omega) (by omega),show((a:Int)+1)=((a+1:Nat):Int)from rfl,q9];simp only[bs];rw[fi (by omega) (by omega),show((k:Int)+1)=((k+1:Nat):Int)from rfl]
   have arC:(rY (kV st.l f n) n p).length<=6:=by
    unfold rY;rw[eL];refine cY (Of _ _) ?_;rw[List.length_range'];omega
   obtain⟨y,po,hy⟩:=aiI g oa hw hk r (k+1) z dj (by rw[jW];simp only[eZ,eL,gD]at hl⊢; omega);refine⟨y,po,?_⟩;cases ag:r.find? (E4 (kV st.l f n))with
   |some l=>rw[ag]at hy;exact hy
   |none=>
    rw[ag]at hy;obtain⟨bk,e',aAZ⟩:=hy;exact⟨bk,e',by rw[aAZ,jW,im,kk,kA]⟩
theorem aA0{iG:Nat->Nat->Bool}{p:List Nat}:(rY iG n p).length<=n:=by
 unfold rY;rw[eL];refine cY (Of _ _) ?_;rw[List.length_range'];omega
theorem Ct{iG:Nat->Nat->Bool}:∀(ps:List (List Nat)),(ps.flatMap (rY iG n)).length<=ps.length*n
 |[]=>by simp
 |p::r=>by
  have h1:=aA0 (n:=n) (iG:=iG) (p:=p);have h2:=Ct (iG:=iG) r;rw[im,eZ,gD,zL];omega
theorem aiK:∀(m:Nat),m<=7->6^m<=300000:=by decide
theorem aiL (g:E5 c st f n):∀(j k:Nat) (ps:List (List Nat)) (w:ae (ae Int)),k+j=n+2->1<=k->Jv (kV st.l f n) n k ps->w.l=ps.map enc->ps.length<=6^k->
  ∃z,cd (Ek c st) w=some z/\(match Ju (kV st.l f n) n j ps with|some l=>z=.ret (enc l)|none=>z=.go ())
 |0,k,ps,w,hj,h1,aA,hw,hl=>⟨.go (),by
   have:=aiD aA (by omega);subst this;rw[fp];simp only[Ek,du,hw,iT,nL];rfl,rfl⟩
 |j+1,k,ps,w,hj,h1,aA,hw,hl=>by
  have NT:=g.n6;unfold Ju;cases nQ:ps with
  |nil=>
   subst nQ;refine⟨.go (),?_,by simp⟩;rw[fp];simp only[Ek,du,hw,iT,nL];rfl
  |cons p r=>
   rw[<-nQ]
   have hk:k<=n:=by
    rcases gh n k with q|q
    ·have:=aiD aA q;rw[this]at nQ;cases nQ
    ·exact q
   have eA:=aiK k (by omega);have lI:=aiK (k+1) (by omega);have bg:ps≠[]:=by rw[nQ];simp
   have iV:0<ps.length:=JU.2 bg;obtain⟨z,q9,aR⟩:=aiI g (fun p hp=>(aA p hp).1) hw (by omega) ps 0 .nil (by simp) (by show 0+6*ps.length<=_;omega)
   have xK:∀x,cd (HV c st w) (0,.nil)=some x->Ek c st w=match x with| .go p=>some (.next p)| .ret p=>some (.out (.ret p)):=fun x hx=>by
    unfold Ek;simp only[du,hw,eL,show decide (((ps.length:Nat):Int)>0)=true by simp;omega,cond_true,hx,bs];cases x<;>rfl
   rw[fp,xK z q9];cases ag:ps.find? (E4 (kV st.l f n))with
   |some l=>
    rw[ag]at aR;simp only at aR;subst aR;exact⟨_,rfl,rfl⟩
   |none=>
    rw[ag]at aR;obtain⟨a,rfl,ha⟩:=aR;rw[if_neg bg];refine aiL g j (k+1) _ a (by omega) (by omega) (aAT aA) (by rw[ha];simp[ae.l]) ?_;have:=Ct (n:=n) (iG:=kV st.l f n) ps;have Ah:ps.length*n<=6^k*6:=Ou hl NT;rw[Nat.pow_succ];omega
theorem aiM (g:E5 c st f n):∀(d v:Nat) (acc:ae (ae Int)),v+d=n->acc.l.length+d<=100000->∃z,cd (Mk c) ((v:Int),acc)=some z/\z.l=acc.l++((List.range' v d).map fun a=>enc [a])
 |0,v,acc,ad,_=>⟨acc,by
   rw[fp];simp only[Mk,g.hn,show decide ((v:Int)<(n:Int))=false by simp;omega,cond_false],by simp⟩
 |d+1,v,acc,ad,hl=>by
  have NT:=g.n6;obtain⟨z,e,el⟩:=aiM g d (v+1) (.mk (acc.l++[enc [v]])) (by omega) (by show(acc.l++[_]).length+d<=_;simp;omega);refine⟨z,?_,by rw[el,td];simp[show(ae.mk (acc.l++[enc [v]])).l=acc.l++[enc [v]]from rfl]⟩;rw[fp];simp only[Mk,g.hn,show decide ((v:Int)<(n:Int))=true by simp;omega,cond_true];rw[Uu _ (by omega) (by omega)];simp only[bs];rw[fi (by omega) (by omega)];exact e
def aiN (c:Constraint)(v:List Int):List Nat:=bif Cs c v.length then(aiB (kV v c.dK.toNat c.fS.toNat) c.fS.toNat).getD []else[]
theorem aA1 (c:Constraint)(st:ae Int)(dG:st.l.length<=100000):∃z,HW c st=some z/\z.l=(aiN c st.l).map fun(a:Nat)=>(a:Int):=by
 unfold HW aiN;rw[du,aiE c dG];cases ba:Cs c st.l.length with
 |false=>exact⟨_,rfl,rfl⟩
 |true=>
  have g:=aAU dG ba;generalize c.dK.toNat=f at g;generalize c.fS.toNat=n at g;obtain⟨z,q9,aR⟩:=aiM g n 0 .nil (by omega) (by show 0+n<=_;have:=g.n6;omega);simp only[bs,cond_true];rw[show((0:Nat):Int)=0 from rfl]at q9;rw[q9];simp only[bs]
  have hs:z.l=(qS.start n).map enc:=by
   rw[aR,qS.start,<-Fk,kX];rfl
  obtain⟨y,po,hy⟩:=aiL g (n+1) 1 (qS.start n) z (by omega) (by omega) aAS hs (by unfold qS.start;rw[eL,List.length_range];have:=g.n6;omega);rw[po];simp only[bs];unfold aiB;cases hc:Ju (kV st.l f n) n (n+1) (qS.start n)with
  |none=>rw[hc]at hy;simp only at hy;subst hy;exact⟨_,rfl,rfl⟩
  |some l=>rw[hc]at hy;simp only at hy;subst hy;exact⟨_,rfl,rfl⟩
end
end
end Go.Abs.bz
namespace Go.Abs.bz
open Go Go.Abs
noncomputable section
theorem Uv{S O:Type}{f:S->Option (di S O)}(I:Nat->S->Prop)(n:Nat)(h:∀k s,k<n->I k s->(∃ao,f s=some (.next ao)/\I (k+1) ao)\/∃o,f s=some (.out o))(e:∀s,I n s->∃o,f s=some (.out o)){s:S}(h0:I 0 s):∃o,cd f s=some o:=by
 have key:∀(d k:Nat) (s:S),k+d=n->I k s->∃o,cd f s=some o:=by
  intro d
  induction d with
  |zero=>
   intro k s hk bq;have:k=n:=by omega
   subst this;obtain⟨o,ho⟩:=e s bq;exact⟨o,by rw[fp,ho]⟩
  |succ d ih=>
   intro k s hk bq;rcases h k s (by omega) bq with⟨ao,h1,h2⟩|⟨o,ho⟩
   ·obtain⟨o,ho⟩:=ih (k+1) ao (by omega) h2
    exact⟨o,by rw[fp,h1];exact ho⟩
   ·exact⟨o,by rw[fp,ho]⟩
 exact key n 0 s (by omega) h0
theorem aA2{α:Type}{x:ae α}{k:Nat}(h:x.l.length<=k):decide ((k:Int)<x.len)=false:=by rw[du];simp;exact h
theorem xS (c:Constraint)(st:ae Int)(dG:st.l.length<=100000)(hT:b9 c.Row.dq.l):∃b,js c st=some b:=by
 unfold js;cases c.Kind==1 with
 |true=>
  simp only[cond_true];rw[du,aiE c dG];cases Cs c st.l.length with
  |false=>exact⟨_,rfl⟩
  |true=>
   obtain⟨z,e,-⟩:=aA1 c st dG;simp only[bs,cond_true,e];exact⟨_,rfl⟩
 |false=>
  simp only[cond_false]
  obtain⟨o,ho⟩:=Uv (f:=yR c st) (I:=fun k (s:Int × Int × Int)=>s.2.2=(k:Int)) c.Row.dq.l.length (fun k s hk bq=>by
   obtain⟨a,b,i⟩:=s;simp only at bq;subst bq;simp only[yR,gC hk,cond_true,ef,eg hk,bs];generalize c.Row.dq.l[k]=t;cases hc:decide (t.Cell<0)||decide (t.Cell>=st.len)with
   |true=>exact .inr ⟨_,rfl⟩
   |false=>
    have Un:=of_decide_eq_false (vO.1 hc).1;have vh:=of_decide_eq_false (vO.1 hc).2;rw[du]at vh
    have:bE st.l t.Cell=some (st.l.getD t.Cell.toNat 0):=by
     rw[Cg (by omega),eg (by omega),kj,eg (by omega)];rfl
    simp only[cond_false,this,bs];refine .inl ⟨_,rfl,?_⟩;simp only;unfold b9 at hT;rw[eR (by omega)]) (fun s bq=>by
   obtain⟨a,b,i⟩:=s;simp only at bq;subst bq;simp only[yR,hJ,cond_false];exact⟨_,rfl⟩) (s:=(0,0,0)) rfl
  rw[ho];simp only[bs];cases o with
  |ret p=>exact⟨_,rfl⟩
  |go p=>
   obtain⟨x,y⟩:=p;cases c.Kind==0<;>exact⟨_,rfl⟩
def rZ (l:List Int)(c:Change):List Int:=bif decide (c.Cell>=0)&&decide (c.Cell<l.length)then l.set c.Cell.toNat (aM (l.getD c.Cell.toNat 0+c.Add))else l
def o6 (l:List Int)(d:List Change):List Int:=d.foldl rZ l
theorem NU (l:List Int)(c:Change):(rZ l c).length=l.length:=by
 unfold rZ;cases decide (c.Cell>=0)&&decide (c.Cell<l.length)<;>simp
theorem Cu:∀(d:List Change) (l:List Int),(o6 l d).length=l.length
 |[],_=>rfl
 |c::r,l=>by
  show(o6 (rZ l c) r).length=_;rw[Cu r,NU]
theorem E6 (n:Int):∃k:Int,aM n=n-18446744073709551616*k/\ -9223372036854775808<=aM n/\aM n<=9223372036854775807:=by
 have e:IntKind.i64.signed=true:=rfl;have af:(2:Int)^IntKind.i64.bits=18446744073709551616:=rfl;have ak:(2:Int)^(IntKind.i64.bits-1)=9223372036854775808:=rfl;by_cases h:n%18446744073709551616>=9223372036854775808
 ·have:aM n=n%18446744073709551616-18446744073709551616:=by
   unfold aM IntKind.wrap;simp only[e,af,ak,fU,decide_eq_true_eq];rw[if_pos h]
  exact⟨n/18446744073709551616+1,by omega,by omega,by omega⟩
 ·have:aM n=n%18446744073709551616:=by
   unfold aM IntKind.wrap;simp only[e,af,ak,fU,decide_eq_true_eq];rw[if_neg h]
  exact⟨n/18446744073709551616,by omega,by omega,by omega⟩
theorem aiO (x a b:Int):aM (aM (x+a)+b)=aM (x+a+b):=by
 obtain⟨bQ,h1,-,-⟩:=E6 (x+a);obtain⟨c6,h2,ar,aS⟩:=E6 (aM (x+a)+b);obtain⟨iX,h5,eA,lI⟩:=E6 (x+a+b);omega
theorem Cv{α:Type}{gW:Nat}{x:ae α}(hb:gW+1<=1000)(h:x.l.length<=100000):∃z,pI gW x=some z/\z.l=x.l:=by
 cases x with
 |nil=>exact⟨_,rfl,rfl⟩
 |emp=>exact⟨_,rfl,rfl⟩
 |mk l=>
  obtain⟨z,e,el⟩:=xH (x:=(ae.emp:ae α)) (y:=ae.mk l) hb (by show 0+l.length<=_;have:l.length<=100000:=h;omega);exact⟨z,e,by rw[el];rfl⟩
theorem E7 (a:ae Int)(d:ae Change)(ha:a.l.length<=100000)(hd:b9 d.l):∃z,rD a d=some z/\z.l=o6 a.l d.l:=by
 unfold rD;obtain⟨s,e,el⟩:=Cv (gW:=8) (x:=a) (by omega) ha;rw[e];simp only[bs]
 have key:∀(r:List Change) (k:Nat) (s:ae Int),d.l.drop k=r->s.l.length=a.l.length->∃z,cd (H5 d) ((k:Int),s)=some z/\z.l=o6 s.l r:=by
  intro r
  induction r with
  |nil=>
   intro k s hr hs;have hk:d.l.length<=k:=List.drop_eq_nil_iff.1 hr;refine⟨s,?_,rfl⟩;rw[fp];simp only[H5,aA2 hk,cond_false]
  |cons c r ih=>
   intro k s hr hs
   have aT:k<d.l.length:=by
    rcases gh k d.l.length with q|q
    ·exact q
    ·rw[zy q]at hr;cases hr
   have aA3:d.l[k]? =some c:=by
    have:=congrArg (·[0]?) hr;simpa using this
   have dj:d.l.drop (k+1)=r:=by
    have:=congrArg List.tail hr;simpa using this
   have hn:∃ao,H5 d ((k:Int),s)=some (.next (((k+1:Nat):Int),ao))/\ao.l=rZ s.l c:=by
    unfold b9 at hd;simp only[H5,gC aT,cond_true,ef,aA3,bs];rw[eR (by omega)];unfold rZ;rw[show decide (c.Cell<(s.l.length:Int))=decide (c.Cell<s.len)from rfl];cases hc:decide (c.Cell>=0)&&decide (c.Cell<s.len)with
    |false=>exact⟨s,rfl,rfl⟩
    |true=>
     have Un:=of_decide_eq_true (Bool.and_eq_true_iff.1 hc).1;have vh:=of_decide_eq_true (Bool.and_eq_true_iff.1 hc).2;rw[du]at vh
     have:bE s.l c.Cell=some (s.l.getD c.Cell.toNat 0):=by
      rw[Cg (by omega),eg (by omega),kj,eg (by omega)];rfl
     simp only[cond_true,this,bs];exact⟨_,rfl,rfl⟩
   obtain⟨ao,h1,h2⟩:=hn;obtain⟨z,af,ak⟩:=ih (k+1) ao dj (by rw[h2,NU,hs]);exact⟨z,by rw[fp,h1];exact af,by rw[ak,h2];rfl⟩
 obtain⟨z,af,ak⟩:=key d.l 0 s rfl (by rw[el]);rw[show((0:Nat):Int)=0 from rfl]at af;rw[af];exact⟨z,rfl,by rw[ak,el]⟩
structure aiP (m:Model):Prop where
 rX:∀c∈m.cN.l,b9 c.Row.dq.l
 aA4:b9 m.cN.l
 act:∀a∈m.Actions.l,b9 a.b4.Delta.l/\b9 a.b4.dd.l/\∀r∈a.b4.dd.l,b9 r.dq.l
theorem aiQ{m:Model}(h:aiP m){x:b4}(hx:b9 x.Delta.l/\b9 x.dd.l/\∀r∈x.dd.l,b9 r.dq.l)(st:ae Int)(dG:st.l.length<=100000):∃r,oY m x st=some r:=by
 unfold oY
 obtain⟨o,ho⟩:=Uv (f:=sR x st) (I:=fun k s=>s=(k:Int)) x.dd.l.length (fun k s hk bq=>by
  subst bq;have kn:=eg hk;obtain⟨b,hb⟩:=xS (Constraint.mk 0 0 x.dd.l[k] 0 0) st dG (hx.2.2 _ (vP hk));simp only[sR,gC hk,cond_true,ef,kn,bs,hb];cases b with
  |true=>exact .inl ⟨_,rfl,eR (by have:=hx.2.1;unfold b9 at this;omega)⟩
  |false=>exact .inr ⟨_,rfl⟩) (fun s bq=>by
  subst bq;simp only[sR,hJ,cond_false];exact⟨_,rfl⟩) (s:=0) rfl
 rw[ho];simp only[bs];cases o with
 |ret p=>exact⟨_,rfl⟩
 |go p=>
  obtain⟨z,e,el⟩:=E7 st x.Delta dG hx.1;simp only[e,bs]
  obtain⟨o,ho⟩:=Uv (f:=pN m z) (I:=fun k s=>s=(k:Int)) m.cN.l.length (fun k s hk bq=>by
   subst bq;have kn:=eg hk;obtain⟨b,hb⟩:=xS m.cN.l[k] z (by rw[el,Cu];exact dG) (h.rX _ (vP hk));simp only[pN,gC hk,cond_true,ef,kn,bs,hb];cases b with
   |true=>exact .inl ⟨_,rfl,eR (by have:=h.aA4;unfold b9 at this;omega)⟩
   |false=>exact .inr ⟨_,rfl⟩) (fun s bq=>by
   subst bq;simp only[pN,hJ,cond_false];exact⟨_,rfl⟩) (s:=0) rfl
  rw[ho];simp only[bs];cases o<;>exact⟨_,rfl⟩
theorem uN{m:Model}(b:T6 m):aiP m:=⟨fun c hc=>by have:=b.rX c hc;unfold b9;omega,by have:=b.cons;unfold b9;omega,fun a ha=>by
 have:=(b.act a ha).2;exact⟨this.d,this.h,this.r⟩⟩
end
end Go.Abs.bz
namespace Go.Abs.qS
section
variable (iG:Nat->Nat->Bool)(size:Nat)
def iter:Nat->List (List Nat)->List (List Nat)
 |0,ps=>ps
 |k+1,ps=>iter k (ps.flatMap (rY iG size))
variable{iG size}
end
end Go.Abs.qS
namespace Go.Abs.bz
open Go Go.Abs Go.Abs.qS
noncomputable section
section
variable{c:Constraint}{st:ae Int}{f n:Nat}
end
end
end Go.Abs.bz
namespace Go.Abs.bz
open Go Go.Abs Go.Abs.qS
noncomputable section
def mg (st:ae Int)(i:Int):Int:=st.l.getD i.toNat 0
def Jw (st:ae Int)(p:Int × Int)(t:Term):Int × Int:=(aM (p.1+aM (t.gA*aM ((mg st t.Cell).tdiv 4294967296))),aM (p.2+aM (t.gA*(mg st t.Cell).tmod 4294967296)))
def xT (n:Int)(t:Term):Bool:=!(decide (t.Cell<0)||decide (t.Cell>=n))
theorem aA5{st:ae Int}{t:Term}(h:xT st.len t=true):bE st.l t.Cell=some (mg st t.Cell):=by
 unfold xT at h;simp only[kB,vO,decide_eq_false_iff_not]at h;have h2:=h.2;rw[du]at h2;unfold mg;rw[Cg (by omega),eg (by omega),kj,eg (by omega)];rfl
theorem aiR{α A O:Type}{ok:α->Bool}{g:A->α->A}{fin:A->O}{o:O}:∀(l:List α) (k:Nat) (a:A),kg (fun _ a x=>bif ok x then Sum.inl (g a x)else .inr o) fin k a l=bif l.all ok then fin (l.foldl g a)else o
 |[],_,_=>rfl
 |x::r,k,a=>by
  simp only[kg,J7,p6];cases ok x with
  |true=>simp only[cond_true,fU];exact aiR r (k+1) (g a x)
  |false=>rfl
theorem aA6 (c:Constraint)(st:ae Int)(hT:b9 c.Row.dq.l):cd (yR c st) (0,0,0)=some (bif c.Row.dq.l.all (xT st.len)then .go (c.Row.dq.l.foldl (Jw st) (0,0))else .ret ()):=by
 have h:=Np (f:=yR c st) (fun k (p:Int × Int)=>(p.1,p.2,(k:Int))) (fun _ p x=>bif xT st.len x then .inl (Jw st p x)else .inr (.ret ())) (fun p=>.go p) (fun _ _=>True) c.Row.dq.l (fun k p x hx _=>by
  refine⟨?_,fun _ _=>trivial⟩;have aT:=ik hx;have hw:aM ((k:Int)+1)=((k+1:Nat):Int):=eR (by unfold b9 at hT;omega);simp only[yR,gC aT,cond_true,ef,hx,bs];cases hi:xT st.len x with
  |false=>
   have:(decide (x.Cell<0)||decide (x.Cell>=st.len))=true:=by simpa only[xT,Bool.not_eq_false']using hi
   rw[this];rfl
  |true=>
   have:(decide (x.Cell<0)||decide (x.Cell>=st.len))=false:=by simpa only[xT,kB]using hi
   simp only[this,cond_false,aA5 hi,bs,hw];rfl) (fun p _=>by simp only[yR,hJ,cond_false]) (a:=(0,0)) trivial
 rw[aiR]at h;exact h
theorem aiS (a:Int):aM ((BitVec.ofInt (IntKind.i64).bits a &&& BitVec.ofInt (IntKind.i64).bits 4294967295).toNat)=a%4294967296:=by
 have h:((BitVec.ofInt (IntKind.i64).bits a &&& BitVec.ofInt (IntKind.i64).bits 4294967295).toNat:Int)=(((a%18446744073709551616).toNat &&& 4294967295:Nat):Int):=rfl;rw[h,show(4294967295:Nat)=2^32-1 by rfl,Nat.and_two_pow_sub_one_eq_mod];have e:(((a%18446744073709551616).toNat%2^32:Nat):Int)=a%4294967296:=by omega
 rw[e,fi]<;>omega
structure NV (st:ae Int) (t:Term):Prop where
 f1:-1000000000<=t.gA
 f2:t.gA<=1000000000
 v1:-1000000<=mg st t.Cell
 v2:mg st t.Cell<=1000000
theorem NV.mul{st:ae Int}{t:Term}(h:NV st t):-1000000000000000<=t.gA*mg st t.Cell/\t.gA*mg st t.Cell<=1000000000000000:=by
 obtain⟨h1,h2,ar,aS⟩:=h;generalize mg st t.Cell=v at ar aS;generalize t.gA=f at h1 h2
 have:(f*v).natAbs<=1000000000*1000000:=by
  rw[Int.natAbs_mul];exact Ou (by omega) (by omega)
 omega
theorem NV.step{st:ae Int}{t:Term}(h:NV st t){s:Int}(h1:-4000000000000000000<=s)(h2:s<=4000000000000000000):Jw st (0,s) t=(0,s+t.gA*mg st t.Cell):=by
 have hm:=h.mul;obtain⟨q1,q2,cn,c7⟩:=h
 have af:(mg st t.Cell).tdiv 4294967296=0:=by
  rcases Int.lt_or_le (mg st t.Cell) 0 with q|q
  ·have:(mg st t.Cell)=-(-(mg st t.Cell)):=by omega
   rw[this,Int.neg_tdiv,Int.tdiv_eq_zero_of_lt (by omega) (by omega)];rfl
  ·exact Int.tdiv_eq_zero_of_lt q (by omega)
 have ak:(mg st t.Cell).tmod 4294967296=mg st t.Cell:=by
  have:=Int.mul_tdiv_add_tmod (mg st t.Cell) 4294967296;rw[af]at this;omega
 unfold Jw;simp only[af,ak];rw[fi (n:=t.gA*mg st t.Cell) (by omega) (by omega),fi (n:=s+_) (by omega) (by omega)];rw[show aM 0=0 from rfl,Int.mul_zero,show aM 0=0 from rfl];rfl
end
end Go.Abs.bz
namespace Go.Abs.bz
open Go Go.Abs Go.Abs.Lex
noncomputable section
end
end Go.Abs.bz
namespace Go.Abs.bz
open Go Go.Abs Go.Abs.qS
noncomputable section
def qT (v:Int):Bool:=!(decide (v< -1000000)||decide (v>1000000))
theorem aiT (l:ae Int)(h:b9 l.l):D7 l=some (l.l.all qT&&decide (l.l.length<=128)):=by
 unfold D7
 rw[xG (f:=L4 l) l.l h (fun v=>!qT v) (fun k x hx=>by
  simp only[L4,gC (ik hx),cond_true,ef,hx,bs];have:(!qT x)=(decide (x< -1000000)||decide (x>1000000)):=by unfold qT;simp
  rw[this];cases decide (x< -1000000)<;>cases decide (x>1000000)<;>rfl) (by simp only[L4,hJ,cond_false])]
 have:(l.l.any fun v=>!qT v)=!(l.l.all qT):=by rw[List.not_all_eq_any_not]
 rw[this];cases l.l.all qT with
 |false=>rfl
 |true=>
  have e:decide (l.len<=128)=decide (l.l.length<=128):=by rw[zG,decide_eq_true_iff,decide_eq_true_iff,du];omega
  simp only[bs,hX,cond_false,fU,e]
theorem aiU (c:Constraint)(st:ae Int):js c st=js c (.mk st.l):=by cases st<;>rfl
theorem aA7{c:Constraint}{a b:ae Int}(h:a.l=b.l):js c a=js c b:=by rw[aiU c a,aiU c b,h]
end
end Go.Abs.bz
namespace Go.Abs.bz
open Go Go.Abs Go.Abs.qS
noncomputable section
def E8 (n:Int)(c:Change):Bool:=decide (c.Cell<0)||(decide (c.Cell>=n)||(decide (c.Add< -1000000000)||decide (c.Add>1000000000)))
def Cw (n:Int)(t:Term):Bool:=decide (t.Cell<0)||(decide (t.Cell>=n)||(decide (t.gA< -1000000000)||decide (t.gA>1000000000)))
theorem aiV (a:Int):Em a=some (!(decide (a< -1000000000)||decide (a>1000000000))):=by
 unfold Em;congr 1;rw[zG];simp only[b6,kB,vO,decide_eq_true_eq,decide_eq_false_iff_not];omega
theorem aA8 (n:Int)(c:Change):En n c=some (E8 n c):=by
 unfold En E8;rw[aiV];cases decide (c.Cell<0)<;>cases decide (c.Cell>=n)<;>simp
theorem aA9 (n:Int)(t:Term):Eo n t=some (Cw n t):=by
 unfold Eo Cw;rw[aiV];cases decide (t.Cell<0)<;>cases decide (t.Cell>=n)<;>simp
theorem aBa (n:Int)(r:Row)(h:b9 r.dq.l):HZ r n=some (!(r.dq.l.any (Cw n))):=by
 unfold HZ;have:Mm r.dq (fun z0=>Eo n z0)=some (r.dq.l.any (Cw n)):=rT r.dq h fun t _=>aA9 n t;rw[this];rfl
def s6 (n:Int)(x:b4):Bool:=!(x.Delta.l.any (E8 n))&&!(x.dd.l.any fun r=>r.dq.l.any (Cw n))
structure Cx (x:b4):Prop where
 d:b9 x.Delta.l
 h:b9 x.dd.l
 r:∀r∈x.dd.l,b9 r.dq.l
theorem aiW{x:b4}(hx:Cx x)(n:Int):H4 x n=some (s6 n x):=by
 unfold H4 s6;have h1:Ml x.Delta (fun z0=>En n z0)=some (x.Delta.l.any (E8 n)):=rT x.Delta hx.d fun c _=>aA8 n c
 have h2:Ef x.dd (fun z0=>H3 n z0)=some (x.dd.l.any fun r=>r.dq.l.any (Cw n)):=rT x.dd hx.h fun r hr=>by
  unfold H3;rw[aBa n r (hx.r r hr)];simp
 rw[h1,h2];cases x.Delta.l.any (E8 n)<;>rfl
end
end Go.Abs.bz
namespace Go.Abs.bz
open Go Go.Abs Go.Abs.qS
noncomputable section
def xU (v:Int):Prop:=-9223372036854775808<=v/\v<=9223372036854775807
theorem aiX{h l:Int}(b:Int)(h1:-4294967296<=h)(h2:h<=4294967296)(cb:-8589934592<=l)(jk:l<=8589934592):HX h l b=some (decide (h*4294967296+l<=b)):=by
 unfold HX;rw[aiS,aiS,show((2:Int)^32)=4294967296 from rfl,fi (n:=h+l/4294967296) (by omega) (by omega)];congr 1;rw[zG];simp only[iI,b6,decide_eq_true_eq,beq_iff_eq];omega
theorem aBb (v:Int)(h:xU v):(v.tdiv 4294967296)*4294967296+v.tmod 4294967296=v/\ -4294967296<v.tmod 4294967296/\v.tmod 4294967296<4294967296/\ -2147483648<=v.tdiv 4294967296/\v.tdiv 4294967296<=2147483648:=by
 obtain⟨h1,h2⟩:=h;have e:=Int.mul_tdiv_add_tmod v 4294967296
 have hb:-4294967296<v.tmod 4294967296/\v.tmod 4294967296<4294967296:=by
  rcases Int.lt_or_le v 0 with q|q
  ·have ad:v=-(-v):=by omega
   rw[ad,Int.neg_tmod,Wn (by omega)];omega
  ·rw[Wn q];omega
 exact⟨by omega,hb.1,hb.2,by omega,by omega⟩
theorem aiY{c:Constraint}{st:ae Int}{i:Nat}{f v:Int}(hk:(c.Kind==0)=true)(ht:c.Row.dq.l=[Term.mk i f])(hi:st.l[i]? =some v)(ad:xU v)(ag:f=1\/f=-1):js c st=some (decide (f*v<=c.Row.qH)):=by
 have gG:(c.Kind==1)=false:=by have:=eq_of_beq hk;rw[this];rfl
 have aT:=ik hi
 have hin:xT st.len (Term.mk i f)=true:=by
  unfold xT;have h1:decide ((i:Int)<0)=false:=by rw[decide_eq_false_iff_not];omega
  have h2:decide ((i:Int)>=st.len)=false:=by rw[decide_eq_false_iff_not,du];omega
  simp only[h1,h2,Bool.or_self,vQ]
 have hs:mg st (i:Int)=v:=by
  unfold mg;rw[show((i:Int)).toNat=i from rfl,kj,hi];rfl
 have h:=aA6 c st (by rw[ht];show(1:Nat)<_;omega);rw[ht]at h;simp only[J7,List.all_nil,hin,zK,cond_true,p6,x8]at h;unfold Jw at h;simp only[hs]at h;obtain⟨e,m1,m2,d1,d2⟩:=aBb v ad;unfold js;rw[gG];simp only[cond_false,h,bs,hk,cond_true];generalize v.tdiv 4294967296=d at*;generalize v.tmod 4294967296=k at*;have hd:aM d=d:=fi (by omega) (by omega);rw[hd];rcases ag with rfl|rfl
 ·rw[Int.one_mul,Int.one_mul,hd,fi (n:=k) (by omega) (by omega),fi (n:=0+d) (by omega) (by omega),fi (n:=0+k) (by omega) (by omega),aiX _ (by omega) (by omega) (by omega) (by omega)]
  simp only[bs];congr 2;rw[eq_iff_iff];omega
 ·rw[fi (n:=-1*d) (by omega) (by omega),fi (n:=-1*k) (by omega) (by omega),fi (n:=0+-1*d) (by omega) (by omega),fi (n:=0+-1*k) (by omega) (by omega),aiX _ (by omega) (by omega) (by omega) (by omega)]
  simp only[bs];congr 2;rw[eq_iff_iff];omega
theorem aiZ{x:ae Term}{t:Term}(h:ER x (ae.mk [t])=true):x.l=[t]:=by
 unfold ER yP at h;cases hl:x.len != (ae.mk [t]).len with
 |true=>rw[hl]at h;cases h
 |false=>
  rw[hl]at h
  have lS:x.l.length=1:=by
   have:=eq_of_beq (by simpa[bne]using hl:(x.len==(ae.mk [t]).len)=true);rw[du,du]at this;have e:((ae.mk [t]).l.length:Int)=1:=rfl;omega
  obtain⟨y,hy⟩:=List.length_eq_one_iff.1 lS;rw[fp]at h;have h0:decide ((0:Int)<x.len)=true:=by rw[du,lS];rfl
  have af:bE x.l 0=some y:=by rw[hy];rfl
  have ak:bE (ae.mk [t]).l 0=some t:=rfl;simp only[Hx,h0,cond_true,cond_false,af,ak,bs]at h;cases bf:((y.Cell==t.Cell)&&((y.gA==t.gA)&&true))with
  |false=>rw[bf]at h;cases h
  |true=>
   simp only[b6,beq_iff_eq]at bf;rw[hy];cases y;cases t;simp only[Term.mk.injEq,x6,and_true]at bf⊢;exact bf
theorem aBc{s:List Int}{ts:List Table}{r:Range}(h:r∈hU s ts true)(bc:∀t∈ts,ot s t=true):-9999<=r.jI/\r.jI<=r.j7/\r.j7<=9999:=by
 unfold hU at h;obtain⟨t,ht,hr⟩:=CH.1 h;cases hb:qP t==true with
 |false=>rw[hb]at hr;cases hr
 |true=>
  rw[hb]at hr;simp only[cond_true]at hr;have:=(List.mem_replicate.1 hr).2;have hk:=bc t ht;unfold ot at hk;simp only[b6]at hk;have hk:=hk.2.2.2;subst this;unfold I5 at hk;cases bf:(t.Kind==1)||((t.Kind==4)||(t.Kind==5))with
  |true=>
   rw[bf]at hk;simp only[cond_true,b6,decide_eq_true_eq]at hk;omega
  |false=>
   rw[bf]at hk;simp only[cond_false,b6,beq_iff_eq]at hk;omega
structure Good (m:Model) (st:ae Int):Prop where
 len:st.l.length=(hU m.bH.l m.Tables.l true).length
 NW:st.l.all qT=true
theorem aBd{m:Model}(ad:iS m=true){st:ae Int}(hl:st.l.length=(hU m.bH.l m.Tables.l true).length)(hi:∀v∈st.l,xU v)(hc:∀c∈m.cN.l,js c st=some true):Good m st:=by
 refine⟨hl,ev.2 fun v wc=> ?_⟩;unfold iS at ad;simp only[b6]at ad;obtain⟨h1,-,-,h2,-⟩:=ad;obtain⟨-,-,-,bc⟩:=EO h1;obtain⟨i,qo,rfl⟩:=List.getElem_of_mem wc;have kn:st.l[i]? =some st.l[i]:=eg qo;unfold ES at h2;simp only[b6,decide_eq_true_eq]at h2;obtain⟨-,ar,aS⟩:=h2;have aS:=xF.1 aS;have hr:(hU m.bH.l m.Tables.l true)[i]? =some (hU m.bH.l m.Tables.l true)[i]:=eg (by omega);have hm:=aBc (gg hr) bc;generalize (hU m.bH.l m.Tables.l true)[i]=r at hr hm;have df:=eg (show 2*i<m.cN.l.length by omega);have er:=eg (show 2*i+1<m.cN.l.length by omega);have q1:=aS _ _ df;have q2:=aS _ _ er;have bQ:=hc _ (gg df);have c6:=hc _ (gg er);generalize m.cN.l[2*i]=a at q1 bQ;generalize m.cN.l[2*i+1]=b at q2 c6;unfold Cd at q1 q2;rw[show 2*i/2=i by omega]at q1;rw[show(2*i+1)/2=i by omega]at q2;have hd:decide (i<(hU m.bH.l m.Tables.l true).length)=true:=by rw[decide_eq_true_eq];omega
 simp only[hd,cond_true,b6]at q1 q2;obtain⟨-,-,la,s1⟩:=q1;obtain⟨-,-,z2,s2⟩:=q2;unfold TQ at s1 s2;rw[show 2*i/2=i by omega,hr]at s1;rw[show(2*i+1)/2=i by omega,hr]at s2;rw[show(2*i)%2=0 by omega]at s1;rw[show(2*i+1)%2=1 by omega]at s2;have s1:xI a.Row (i:Int) (-1) (aM (0-r.jI))=true:=s1;have s2:xI b.Row (i:Int) 1 r.j7=true:=s2;unfold xI at s1 s2;simp only[b6,beq_iff_eq]at s1 s2;rw[aiY la (aiZ s1.2) kn (hi _ wc) (.inr rfl),s1.1]at bQ;rw[aiY z2 (aiZ s2.2) kn (hi _ wc) (.inl rfl),s2.1]at c6;simp only[aB,decide_eq_true_eq]at bQ c6;unfold qT;simp only[kB,vO,decide_eq_false_iff_not];rw[fi (n:=0-r.jI) (by omega) (by omega)]at bQ;omega
theorem aBe{l:List Int}(h:∀v∈l,xU v)(c:Change):∀v∈rZ l c,xU v:=by
 intro v ad;unfold rZ at ad;cases hc:decide (c.Cell>=0)&&decide (c.Cell<(l.length:Int))with
 |false=>rw[hc]at ad;exact h v ad
 |true=>
  rw[hc]at ad;simp only[cond_true]at ad;rcases aj0 ad with q|q
  ·exact h v q
  ·obtain⟨k,-,h1,h2⟩:=E6 (l.getD c.Cell.toNat 0+c.Add)
   rw[q];exact⟨h1,h2⟩
theorem ai0:∀(d:List Change) {l:List Int},(∀v∈l,xU v)->∀v∈o6 l d,xU v
 |[],_,h=>h
 |c::r,_,h=>ai0 r (aBe h c)
theorem ai1{l:List Int}(h:l.all qT=true):∀v∈l,xU v:=fun v ad=>by
 have:=ev.1 h v ad;unfold qT at this;simp only[kB,vO,decide_eq_false_iff_not]at this;exact⟨by omega,by omega⟩
theorem aBf{m:Model}(hb:il m=true){x:b4}(hd:b9 x.Delta.l){st z:ae Int}(dG:st.l.length<=100000)(aR:rD st x.Delta=some z)(jW:z.l.length<=100000){r:gU}(hr:oY m x st=some r)(hk:r.Kind=0):∀c∈m.cN.l,js c z=some true:=by
 have b:=Ck hb;unfold oY at hr;cases h1:(cd (sR x st) 0:Option (cz Unit Int))with
 |none=>rw[h1]at hr;cases hr
 |some o=>
  rw[h1]at hr;cases o with
  |ret k=>simp only[bs,aB]at hr;rw[<-hr]at hk;cases hk
  |go _=>
   simp only[bs,aR]at hr
   have EI:cd (pN m z) 0=some (kg (fun k (_:Unit) c=>bif (js c z).getD false then Sum.inl ()else .inr (.ret (k:Int))) (fun _=>.go ()) 0 () m.cN.l):=
    Np (f:=pN m z) (fun k _=>(k:Int)) _ _ (fun _ _=>True) m.cN.l (fun k _ c hc _=>by
     refine⟨?_,fun _ _=>trivial⟩;have hw:aM ((k:Int)+1)=((k+1:Nat):Int):=eR (by have:=ik hc;have:=b.cons;omega);obtain⟨v,ad⟩:=xS c z jW ((uN b).rX c (gg hc));simp only[pN,gC (ik hc),cond_true,ef,hc,bs,ad,oB,hw];cases v<;>rfl) (fun _ _=>by simp only[pN,hJ,cond_false]) trivial
   rw[EI]at hr
   have key:∀(l:List Constraint) (k:Nat),(∀c∈l,(js c z).getD false=true)\/∃j:Int,kg (fun k (_:Unit) c=>bif (js c z).getD false then Sum.inl ()else .inr (cz.ret (k:Int))) (fun _=>cz.go ()) k () l=.ret j:=by
    intro l
    induction l with
    |nil=>intro k;exact .inl (by simp)
    |cons c r ih=>
     intro k;cases hc:(js c z).getD false with
     |false=>exact .inr ⟨k,by simp only[kg,hc,cond_false]⟩
     |true=>
      rcases ih (k+1)with q|⟨j,q⟩
      ·exact .inl fun d hd=>by
        rcases dx.1 hd with rfl|hd
        ·exact hc
        ·exact q d hd
      ·exact .inr ⟨j,by simp only[kg,hc,cond_true];exact q⟩
   rcases key m.cN.l 0 with q|⟨j,q⟩
   ·intro c hc
    obtain⟨v,ad⟩:=xS c z jW ((uN b).rX c hc);have:=q c hc;rw[ad]at this⊢;exact congrArg some this
   ·rw[q]at hr
    simp only[bs,aB]at hr;rw[<-hr]at hk;cases hk
theorem uO{m:Model}(ad:iS m=true){st:ae Int}(h:Good m st):st.l.length<=100000:=by
 unfold iS at ad;simp only[b6]at ad;obtain⟨-,h2,ar,aS⟩:=EO ad.1;have:=Nz ar true m.Tables.l aS;rw[h.len];omega
end
end Go.Abs.bz
namespace Go.Abs.bz
open Go Go.Abs
noncomputable section
theorem aBg{m:Model}(ad:iS m=true):ou m.bH.l m.Tables.l=true:=by
 cases h:ou m.bH.l m.Tables.l with
 |true=>rfl
 |false=>unfold iS at ad;rw[h]at ad;simp at ad
structure o7 (m:Model) (st:ae Int):Prop where
 lv:Good m st
 rX:∀c∈m.cN.l,js c st=some true
theorem o7.l{m:Model}{st aQ:ae Int}(h:o7 m st)(e:aQ.l=st.l):o7 m aQ:=
 ⟨⟨by rw[e];exact h.lv.len,by rw[e];exact h.lv.NW⟩,fun c hc=>by rw[aA7 e];exact h.rX c hc⟩
theorem NX{m:Model}(hb:il m=true)(st:ae Int)(dG:st.l.length<=100000):∃v,qK m st=some v/\(v=true↔iS m=true/\st.l.length=(hU m.bH.l m.Tables.l true).length/\∀c∈m.cN.l,js c st=some true):=by
 have b:=Ck hb;have qR:∀t∈m.Tables.l,b9 t.ch.l:=fun t ht=>by have:=b.aa t ht;unfold b9;omega
 have gw:b9 m.bH.l:=by have:=b.ahI;unfold b9;omega
 have my:b9 m.Tables.l:=by have:=b.tables;unfold b9;omega
 obtain⟨x,af,ak⟩:=ahf m.bH m.Tables true gw my qR;unfold qK Mi Mh;rw[ayo b,af];cases ad:iS m with
 |false=>exact⟨false,rfl,by simp⟩
 |true=>
  rw[aBg ad,cond_true]at ak;simp only[bs,cond_true,du,ak];cases hl:(((st.l.length:Nat):Int)==((hU m.bH.l m.Tables.l true).length:Int))with
  |false=>
   refine⟨false,rfl,?_⟩;have:¬st.l.length=(hU m.bH.l m.Tables.l true).length:=fun q=>by rw[q]at hl;simp at hl
   simp[this]
  |true=>
   have lS:=eq_of_beq hl;have eP:∀c∈m.cN.l,∃v,js c st=some v:=fun c hc=>xS c st dG ((uN b).rX c hc)
   have h1:Mj m.cN (fun z0=>HY st z0)=some (m.cN.l.any fun c=>!((js c st).getD false)):=
    rT m.cN (by have:=b.cons;omega) fun c hc=>by
     obtain⟨v,ad⟩:=eP c hc;simp only[HY,ad,bs,oB]
   simp only[cond_true,h1,bs];refine⟨_,rfl,?_⟩;rw[kB,zD];constructor
   ·intro h
    refine⟨trivial,by omega,fun c hc=> ?_⟩;obtain⟨v,ad⟩:=eP c hc;have:=h c hc;rw[ad]at this⊢;simpa using this
   ·rintro⟨-,-,h⟩ c hc
    rw[h c hc];simp
theorem Cy{m:Model}(hb:il m=true)(ad:iS m=true){st:ae Int}(h:o7 m st):qK m st=some true:=by
 obtain⟨v,e,q⟩:=NX hb st (uO ad h.lv);rw[e,q.2 ⟨ad,h.lv.len,h.rX⟩]
theorem ai2{m:Model}(hb:il m=true){st:ae Int}(dG:st.l.length<=100000)(hn:st.l.all qT=true)(h:qK m st=some true):iS m=true/\o7 m st:=by
 obtain⟨v,e,q⟩:=NX hb st dG;rw[h]at e;obtain⟨h1,h2,ar⟩:=q.1 (te e).symm;exact⟨h1,⟨h2,hn⟩,ar⟩
theorem ai3{m:Model}{x:b4}{st aQ:ae Int}(e:aQ.l=st.l)(dG:st.l.length<=100000)(hd:b9 x.Delta.l):oY m x aQ=oY m x st:=by
 have k:∀s:ae Int,sR x s=sR x (.mk s.l):=fun s=>by cases s<;>rfl
 have bQ:∀s:ae Int,pN m s=pN m (.mk s.l):=fun s=>by cases s<;>rfl
 obtain⟨z,al,a2⟩:=E7 st x.Delta dG hd;obtain⟨rf,b1,e3⟩:=E7 aQ x.Delta (by rw[e];exact dG) hd;unfold oY;rw[k aQ,e,<-k st,al,b1];simp only[bs];rw[bQ rf,e3,e,<-a2,<-bQ z]
theorem Uw{m:Model}(hb:il m=true)(ad:iS m=true){i:Nat}{a:Action}(hi:m.Actions.l[i]? =some a){st:ae Int}(h:o7 m st):
  ∃z r,oY m a.b4 st=some r/\yS m (i:Int) st=some (z,r)/\o7 m z/\(r.Kind≠0->z.l=st.l)/\(r.Kind=0->z.l=o6 st.l a.b4.Delta.l):=by
 have b:=Ck hb;have dG:=uO ad h.lv;have ha:=(uN b).act a (gg hi);obtain⟨r,hr⟩:=aiQ (uN b) ha st dG;unfold yS;simp only[ef,hi,bs,hr];cases hk:r.Kind != 0 with
 |true=>
  obtain⟨z,e,el⟩:=Cv (gW:=8) (x:=st) (by omega) dG;have hk':r.Kind≠0:=by simpa[bne]using hk
  exact⟨z,r,rfl,by simp only[hk,cond_true,e,bs],h.l el,fun _=>el,fun q=>absurd q hk'⟩
 |false=>
  obtain⟨z,e,el⟩:=E7 st a.b4.Delta dG ha.1;have jW:z.l.length=st.l.length:=by rw[el,Cu]
  have vf:r.Kind=0:=by simpa[bne]using hk
  have E9:=aBf hb ha.1 dG e (by omega) hr vf;exact⟨z,r,rfl,by simp only[hk,cond_false,e,bs],⟨aBd ad (by rw[jW,h.lv.len]) (by rw[el];exact ai0 _ (ai1 h.lv.NW)) E9,E9⟩,fun q=>absurd vf q,fun _=>el⟩
theorem ai4{m:Model}(hb:il m=true)(ad:iS m=true){i:Nat}{a:Action}(hi:m.Actions.l[i]? =some a):Ce m.bH.l m.Tables.l (hU m.bH.l m.Tables.l true).length a.b4=true:=by
 unfold iS at ad;simp only[b6]at ad;obtain⟨-,-,-,-,-,h5,-⟩:=ad;unfold Jf at h5;simp only[b6]at h5;have ha:=xF.1 h5.2 _ _ hi;unfold EV at ha;simp only[b6]at ha;have ha:=ha.2;cases bf:m.Operations.l[a.eu.toNat]? with
 |none=>rw[bf]at ha;cases ha
 |some o=>rw[bf]at ha;simp only[b6]at ha;exact ha.2.2.2
theorem ai5{m:Model}{x:b4}{n:Nat}(he:Ce m.bH.l m.Tables.l n x=true):s6 n x=true:=by
 unfold Ce at he;simp only[b6,ev]at he;obtain⟨h1,-,-,-,h2⟩:=he;unfold s6;simp only[b6,kB,zD];constructor
 ·intro c hc
  have jl:∀(k:Nat) t,x.Delta.l[k]? =some t->mf Change.Cell x.Delta.l k<t.Cell/\t.Cell<n/\ -1000000000<=t.Add/\t.Add<=1000000000:=fun k t hk=>by
   have:=xF.1 h1 k t hk;unfold EU uF at this;simp only[b6,kB,decide_eq_false_iff_not,decide_eq_true_eq]at this;omega
  obtain⟨k,hk⟩:=Og hc;obtain⟨q1,q2,cn,c7⟩:=jl k c hk;have:=TI (f:=Change.Cell) (xs:=x.Delta.l) (k:=k) fun j y _ hy=>(jl j y hy).1;unfold E8;simp only[iI,decide_eq_true_eq];omega
 ·intro r hr
  have Av:=h2 r hr;unfold Cc at Av;simp only[b6]at Av
  have jl:∀(k:Nat) t,r.dq.l[k]? =some t->mf Term.Cell r.dq.l k<t.Cell/\t.Cell<n/\ -1000<=t.gA/\t.gA<=1000:=fun k t hk=>by
   have:=xF.1 Av.1 k t hk;unfold EP uF at this;simp only[b6,kB,decide_eq_false_iff_not,decide_eq_true_eq]at this;omega
  rw[Bool.not_eq_true,zD];intro t ht;obtain⟨k,hk⟩:=Og ht;obtain⟨q1,q2,cn,c7⟩:=jl k t hk;have:=TI (f:=Term.Cell) (xs:=r.dq.l) (k:=k) fun j y _ hy=>(jl j y hy).1;unfold Cw;simp only[iI,decide_eq_true_eq];omega
theorem ai6{m:Model}(hb:il m=true)(ad:iS m=true){x:b4}(hx:Cx x){st:ae Int}(h:o7 m st)(hr:s6 st.len x=true){r:gU}(e:oY m x st=some r):pO m x st=some (r.Kind==0):=by
 unfold pO H6;rw[Cy hb ad h,aiW hx,hr,e];simp only[bs,cond_true];rfl
theorem aBh{m:Model}(hb:il m=true)(ad:iS m=true){i:Nat}{a:Action}(hi:m.Actions.l[i]? =some a){st:ae Int}(h:o7 m st){aQ:ae Int}(e:aQ.l=st.l){z:ae Int}{r:gU}(hs:yS m (i:Int) st=some (z,r)):
  ∃rf,Ep m (i:Int) aQ=some (rf,r,0)/\rf.l=z.l:=by
 have h':=h.l e;have dG:=uO ad h.lv;have b:=Ck hb;have ha:=(uN b).act a (gg hi);obtain⟨s,f1,f2⟩:=Cv (gW:=8) (x:=aQ) (by omega) (uO ad h'.lv);have ec:=f2.trans e;obtain⟨rf,o9,g1,g2,-,g4,g5⟩:=Uw hb ad hi (h.l ec);obtain⟨z0,NY,bQ,c6,-,vv,rE⟩:=Uw hb ad hi h;rw[hs]at c6;cases c6;rw[ai3 ec dG ha.1,bQ]at g1;cases g1
 have jW:rf.l=z.l:=by
  by_cases hk:r.Kind=0
  ·rw[g5 hk,rE hk,ec]
  ·rw[g4 hk,vv hk,ec]
 have hc:ui (ae.mk [(i:Int)]) (fun z0=>Br m z0)=some false:=by
  have:=rT (ae.mk [(i:Int)]) (f:=fun z0=>Br m z0) (p:=fun x=>decide (x<0)||decide (x>=m.Actions.len)) (by show 1<_;omega) fun x _=>rfl;refine this.trans ?_;have aT:=ik hi;have h1:decide ((i:Int)<0)=false:=decide_eq_false (by omega);have h2:decide ((i:Int)>=m.Actions.len)=false:=decide_eq_false (by rw[du];omega);show some ((decide ((i:Int)<0)||decide ((i:Int)>=m.Actions.len))||false)=_;rw[h1,h2];rfl
 obtain⟨p,q1,q2⟩:=xH (gW:=16) (x:=(ae.nil:ae gU)) (y:=ae.mk [r]) (by omega) (by show 0+1<=_;omega)
 have hl:cd (Bs m (ae.mk [(i:Int)])) (rf,aM (0+1),p)=some (rf,p):=by
  rw[fp];have:decide (aM (0+1)<(ae.mk [(i:Int)]).len)=false:=rfl;simp only[Bs,this,cond_false]
 unfold Ep xh;have h0:decide ((0:Int)<(ae.mk [(i:Int)]).len)=true:=rfl;have aBi:bE (ae.mk [(i:Int)]).l 0=some (i:Int):=rfl;have hp:bE p.l 0=some r:=by rw[q2];rfl
 simp only[Cy hb ad h',bs,cond_true,hc,cond_false,f1,h0,aBi,g2,q1,hl];rw[show((0:Int) != 0)=false from rfl];simp only[cond_false,hp,bs];exact⟨rf,rfl,jW⟩
end
end Go.Abs.bz
namespace Go.Abs
open Go
def gX (k:Int):List (Int × Int)->Int
 |[]=>0
 |t::l=>(if t.1=k then t.2 else 0)+gX k l
theorem ai7{k:Int}{a b:List (Int × Int)}(h:a.Perm b):gX k a=gX k b:=by
 induction h with
 |nil=>rfl
 |cons x _ ih=>simp only[gX,ih]
 |swap x y l=>simp only[gX];omega
 |trans _ _ aBj aBk=>rw[aBj,aBk]
theorem ai8 (k:Int):∀l:List (Int × Int),gX k (l.filter fun p=>p.2 != 0)=gX k l
 |[]=>rfl
 |t::l=>by
  have ih:=ai8 k l;by_cases h:t.2=0
  ·have:(t.2 != 0)=false:=by simp[h]
   rw[List.filter_cons,this];simp only[gX,h,ite_self,Int.zero_add];exact ih
  ·have:(t.2 != 0)=true:=by simp[h]
   rw[List.filter_cons,this];simp only[gX,if_true,ih]
theorem Ux{k:Int}:∀{l:List (Int × Int)},k∉l.map Prod.fst->gX k l=0
 |[],_=>rfl
 |t::l,h=>by
  rw[dv,dx,not_or]at h;have h1:¬t.1=k:=fun e=>h.1 e.symm;simp only[gX,if_neg h1,Ux h.2,Int.add_zero]
theorem ai9{k:Int}:∀{es:List (Int × Int)},(es.map Prod.fst).Nodup->(Bc k es).getD 0=gX k es
 |[],_=>rfl
 |(j,v)::es,h=>by
  rw[dv,tf]at h;simp only[Bc,gX];by_cases e:k=j
  ·subst e
   rw[if_pos rfl,if_pos rfl,Ux h.1];simp
  ·rw[if_neg e,if_neg fun q=>e q.symm,ai9 h.2]
   omega
theorem aja{k c v:Int}:∀{es:List (Int × Int)},(es.map Prod.fst).Nodup->gX k (nz c v es)=if k=c then v else gX k es
 |[],_=>by
  simp only[nz,gX];by_cases e:k=c
  ·rw[if_pos e,if_pos e.symm];omega
  ·rw[if_neg e,if_neg fun q=>e q.symm];omega
 |(j,u)::es,h=>by
  rw[dv,tf]at h;simp only[nz];by_cases e:c=j
  ·subst e
   rw[if_pos rfl];simp only[gX];by_cases ak:k=c
   ·subst ak
    rw[if_pos rfl,if_pos rfl,Ux h.1];omega
   ·have bK:¬c=k:=fun q=>ak q.symm
    rw[if_neg bK,if_neg ak,if_neg bK]
  ·rw[if_neg e]
   simp only[gX,aja h.2];by_cases ak:k=c
   ·subst ak
    rw[if_pos rfl,if_pos rfl,if_neg fun q=>e q.symm];omega
   ·rw[if_neg ak,if_neg ak]
theorem aBl (l:List (Int × Int)):(j8 l).length<=l.length:=by
 unfold j8;rw[(DX _).length_eq];exact cY (Of _ _) (aeD l)
end Go.Abs
namespace Go.Abs.bz
open Go Go.Abs
noncomputable section
def nG (c:Change):Int × Int:=(c.Cell,c.Add)
theorem aBm (n:Int):aM (aM n)=aM n:=by
 obtain⟨bQ,h1,h2,ar⟩:=E6 n;obtain⟨c6,aS,h5,eA⟩:=E6 (aM n);omega
theorem ajb (a b:Int):aM (aM a+b)=aM (a+b):=by
 have:=aiO 0 a b;rwa [Int.zero_add]at this
theorem ajc (a b:Int):aM (a+aM b)=aM (a+b):=by rw[Int.add_comm,ajb,Int.add_comm]
theorem aBn (l:List Int)(c:Change){i:Nat}(hi:i<l.length):(rZ l c).getD i 0=if c.Cell=(i:Int)then aM (l.getD i 0+c.Add)else l.getD i 0:=by
 unfold rZ;by_cases e:c.Cell=(i:Int)
 ·have h:(decide (c.Cell>=0)&&decide (c.Cell<l.length))=true:=by simp only[b6,decide_eq_true_eq];omega
  have ht:c.Cell.toNat=i:=by omega
  rw[if_pos e,h,cond_true,ht];simp only[kj];rw[nI hi];rfl
 ·rw[if_neg e]
  cases h:(decide (c.Cell>=0)&&decide (c.Cell<l.length))with
  |false=>rfl
  |true=>
   simp only[b6,decide_eq_true_eq]at h;have ht:c.Cell.toNat≠i:=by omega
   rw[cond_true];simp only[kj];rw[jx ht]
theorem aBo (c:Change)(r:List Change)(k:Int):gX k ((c::r).map nG)=(if c.Cell=k then c.Add else 0)+gX k (r.map nG):=rfl
theorem NZ{i:Nat}:∀(d:List Change) (l:List Int),i<l.length->aM (l.getD i 0)=l.getD i 0->(o6 l d).getD i 0=aM (l.getD i 0+gX (i:Int) (d.map nG))
 |[],l,hi,hw=>by
  show l.getD i 0=aM (l.getD i 0+0);rw[Int.add_zero,hw]
 |c::r,l,hi,hw=>by
  show(o6 (rZ l c) r).getD i 0=_;have hs:=aBn l c hi;rw[aBo];by_cases e:c.Cell=(i:Int)
  ·rw[if_pos e]at hs
   rw[NZ r (rZ l c) (by rw[NU];exact hi) (by rw[hs,aBm]),hs,if_pos e,aiO,Int.add_assoc]
  ·rw[if_neg e]at hs
   rw[NZ r (rZ l c) (by rw[NU];exact hi) (by rw[hs,hw]),hs,if_neg e,Int.zero_add]
theorem aBp{a b:List Int}(hl:a.length=b.length)(h:∀i,i<a.length->a.getD i 0=b.getD i 0):a=b:=by
 refine List.ext_getElem hl fun i h1 h2=> ?_;have:=h i h1;rw[kj,kj,eg h1,eg h2]at this;exact this
theorem aBq{l:List Int}(hl:∀i,i<l.length->aM (l.getD i 0)=l.getD i 0){d e:List Change}(h:∀k,aM (gX k (d.map nG))=aM (gX k (e.map nG))):o6 l d=o6 l e:=by
 refine aBp (by rw[Cu,Cu]) fun i hi=> ?_;rw[Cu]at hi;rw[NZ d l hi (hl i hi),NZ e l hi (hl i hi),<-ajc _ (gX (i:Int) (d.map nG)),h,ajc]
theorem aBr (l:List Int)(d e:List Change):o6 (o6 l d) e=o6 l (d++e):=by
 unfold o6;rw[List.foldl_append]
theorem ajd (k:Int):∀(l es:List (Int × Int)),(es.map Prod.fst).Nodup->aM (gX k (l.foldl qJ es))=aM (gX k es+gX k l)
 |[],es,hn=>by simp[gX]
 |t::l,es,hn=>by
  rw[p6,ajd k l (qJ es t) (aez hn)]
  have lH:gX k (qJ es t)=if k=t.1 then aM (gX k es+t.2)else gX k es:=by
   unfold qJ;rw[aja hn,ai9 hn];by_cases e:k=t.1
   ·rw[if_pos e,if_pos e,e]
   ·rw[if_neg e,if_neg e]
  rw[lH];simp only[gX];by_cases e:k=t.1
  ·rw[if_pos e,if_pos e.symm,ajb,Int.add_assoc]
  ·rw[if_neg e,if_neg fun q=>e q.symm,Int.zero_add]
theorem aBs (l:List (Int × Int))(k:Int):aM (gX k (j8 l))=aM (gX k l):=by
 unfold j8;rw[ai7 (DX _),ai8];have:=ajd k l [] (by simp);rw[show gX k []=0 from rfl,Int.zero_add]at this;exact this
theorem aje{α β:Type}{gW:Nat}{f:(Int × ae α)->Option (di (Int × ae α) (ae α))}{xs:List β}{g:β->α}(Gh:gW+1<=1000)(ag:∀(k:Nat) acc x,xs[k]? =some x->f ((k:Int),acc)=(gz gW acc (ae.mk [g x])).bind fun s=>some (.next (aM ((k:Int)+1),s)))(he:∀acc,f ((xs.length:Int),acc)=some (.out acc)):
  ∀(d k:Nat) (acc:ae α),k+d=xs.length->xs.length<=100000->acc.l.length+d<=100000->∃z,cd f ((k:Int),acc)=some z/\z.l=acc.l++(xs.drop k).map g:=by
 intro d
 induction d with
 |zero=>
  intro k acc hk hx ha;have hk:k=xs.length:=by omega
  subst hk;exact⟨acc,by rw[fp,he],by simp⟩
 |succ d ih=>
  intro k acc hk hx ha;have aT:k<xs.length:=by omega
  have hs:=ag k acc _ (eg aT);obtain⟨s,af,ak⟩:=xH (gW:=gW) (x:=acc) (y:=ae.mk [g xs[k]]) Gh (by show acc.l.length+1<=_;omega);rw[af,bs]at hs;obtain⟨z,f1,f2⟩:=ih (k+1) s (by omega) hx (by rw[ak,eZ];show acc.l.length+1+d<=_;omega);refine⟨z,?_,?_⟩
  ·rw[fp,hs,eR (by omega)];exact f1
  ·rw[f2,ak,uQ aT,dv,kA];rfl
theorem ajf (l:List (Int × Int)):(uh l).l=l.map fun p=>Term.mk p.1 p.2:=by
 cases l<;>rfl
theorem aBt (x:ae Change)(acc:ae Term)(h:acc.l.length+x.l.length<=100000):∃z,cd (H9 x) (0,acc)=some z/\z.l=acc.l++x.l.map fun c=>Term.mk c.Cell c.Add:=by
 obtain⟨z,af,ak⟩:=aje (f:=H9 x) (gW:=16) (xs:=x.l) (g:=fun c=>Term.mk c.Cell c.Add) (by omega) (fun k acc c hc=>by
  simp only[H9,gC (ik hc),cond_true,ef,hc,bs]) (fun acc=>by simp only[H9,hJ,cond_false]) x.l.length 0 acc (by omega) (by omega) h
 exact⟨z,af,by rw[ak,CJ]⟩
def iH (l:List (ae Change)):List Change:=l.flatMap ae.l
theorem aBu (x:ae (ae Change)):∀(d k:Nat) (acc:ae Term),k+d=x.l.length->x.l.length<=100000->acc.l.length+(iH (x.l.drop k)).length<=100000->
  ∃z,cd (Ia x) ((k:Int),acc)=some z/\z.l=acc.l++(iH (x.l.drop k)).map fun c=>Term.mk c.Cell c.Add:=by
 intro d
 induction d with
 |zero=>
  intro k acc hk hx ha;have hk:k=x.l.length:=by omega
  subst hk;exact⟨acc,by rw[fp];simp only[Ia,hJ,cond_false],by simp[iH]⟩
 |succ d ih=>
  intro k acc hk hx ha;have aT:k<x.l.length:=by omega
  rw[uQ aT]at ha⊢;have km:∀r,iH (x.l[k]::r)=x.l[k].l++iH r:=fun r=>rfl;rw[km,eZ]at ha;obtain⟨s,af,ak⟩:=aBt x.l[k] acc (by omega);obtain⟨z,f1,f2⟩:=ih (k+1) s (by omega) hx (by rw[ak,eZ,eL];omega);refine⟨z,?_,?_⟩
  ·rw[fp]
   simp only[Ia,gC aT,cond_true,ef,eg aT,bs,af,eR (show k<4611686018427387904 by omega)];exact f1
  ·rw[f2,ak,km,kk,kA]
theorem aBv (x:ae (ae Change))(h1:x.l.length<=100000)(h:(iH x.l).length<=100000):∃z,yT x=some z/\z.l.map nG=j8 ((iH x.l).map nG)/\z.l.length<=100000:=by
 obtain⟨v,hl,v2⟩:=aBu x x.l.length 0 .nil (by omega) h1 (by rw[CJ];show 0+_<=_;omega);rw[CJ]at v2;have v2:v.l=(iH x.l).map fun c=>Term.mk c.Cell c.Add:=v2;have hl:cd (Ia x) (0,.nil)=some v:=hl;have lB:v.l.length<=100000:=by rw[v2,eL];exact h
 have AU:(v.l.map fun t=>(t.Cell,t.gA))=(iH x.l).map nG:=by rw[v2,kX];rfl
 have hc:D0 v=some (uh (j8 ((iH x.l).map nG))):=by
  unfold D0;rw[if_pos (by omega),AU]
 have fm:=aBl ((iH x.l).map nG);rw[eL]at fm;have hlen:(uh (j8 ((iH x.l).map nG))).l.length<=100000:=by rw[ajf,eL];omega
 obtain⟨z,la,z2⟩:=aje (f:=Ib (uh (j8 ((iH x.l).map nG)))) (gW:=16) (xs:=(uh (j8 ((iH x.l).map nG))).l) (g:=fun t=>Change.mk t.Cell t.gA) (by omega) (fun k acc t ht=>by
  simp only[Ib,gC (ik ht),cond_true,ef,ht,bs]) (fun acc=>by simp only[Ib,hJ,cond_false]) (uh (j8 ((iH x.l).map nG))).l.length 0 .nil (by omega) hlen (by show 0+_<=_;omega)
 have la:cd (Ib (uh (j8 ((iH x.l).map nG)))) (0,.nil)=some z:=la;rw[CJ]at z2;have z2:z.l=(uh (j8 ((iH x.l).map nG))).l.map fun t=>Change.mk t.Cell t.gA:=z2;refine⟨z,?_,?_,by rw[z2,eL];exact hlen⟩
 ·unfold yT
  rw[hl,bs,hc,bs,la,bs]
 ·rw[z2,ajf,kX,kX]
  exact(p4 fun p _=>rfl).trans (List.map_id _)
theorem aBw (l:List (ae Change)):(iH l.reverse).Perm (iH l):=(List.reverse_perm l).flatMap_right _
theorem ajg (a b:List (ae Change)):iH (a++b)=iH a++iH b:=zA
theorem aBx (a b:ae Int)(h:a.l=b.l)(dG:a.l.length<=100000):∀(d k:Nat),k+d=a.l.length->cd (H8 a b) (k:Int)=some (.go ()):=by
 intro d
 induction d with
 |zero=>
  intro k hk;have hk:k=a.l.length:=by omega
  subst hk;rw[fp];simp only[H8,hJ,cond_false]
 |succ d ih=>
  intro k hk;have aT:k<a.l.length:=by omega
  have ba:b.l[k]? =some a.l[k]:=by rw[<-h];exact eg aT
  rw[fp];simp only[H8,gC aT,cond_true,ef,eg aT,ba,bs,bne_self_eq_false,cond_false,eR (show k<4611686018427387904 by omega)];exact ih (k+1) (by omega)
theorem Jx{a b:ae Int}(h:a.l=b.l)(dG:a.l.length<=100000):pP a b=some true:=by
 unfold pP;have e:(a.len != b.len)=false:=by rw[du,du,h];simp
 rw[e,cond_false];have:=aBx a b h dG a.l.length 0 (by omega);have this:cd (H8 a b) 0=some (.go ()):=this;rw[this];rfl
end
end Go.Abs.bz
