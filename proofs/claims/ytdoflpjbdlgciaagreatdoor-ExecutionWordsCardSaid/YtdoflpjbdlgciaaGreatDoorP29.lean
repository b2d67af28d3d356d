/- Texts of this claim, joined and written short by a program. -/
import Derived.Test.YtdoflpjbdlgciaaGreatDoorP28
import Derived.Test.YtdoflpjbdlgciaaGreatDoorP00
set_option linter.unusedVariables false
set_option linter.unusedSimpArgs false
set_option linter.unusedSectionVars false
namespace Go.Abs.bZ
open Go Go.Abs
noncomputable section
def nr (n m:Int):Bool:=decide (n>=-m)&&decide (n<=m)
theorem Mv (n m:Int)(h:0<=m/\m<=1000000000):zQ n m=some (nr n m):=by
 unfold zQ nr;rw[gp (by omega) (by omega)];simp
theorem Mw (n m:Int)(h:0<=m/\m<=1000000000):wC n m=some (nr n m):=by
 unfold wC nr;rw[gp (by omega) (by omega)];simp
def tg (n:Int)(xs:List Term)(k:Nat)(t:Term):Bool:=!(decide (t.Cell<=iV Term.Cell xs k))&&(!(decide (t.Cell>=n))&&(!(t.dB==0)&&nr t.dB 1000))
def qi (n:Int)(r:Row):Bool:=allI (tg n r.cd.l) r.cd.l&&nr r.gA 1000000000
theorem eL{α:Type}{x:ak α}{k:Nat}(h:k<x.l.length):decide ((k:Int)<x.len)=true:=by rw[dy];simp;exact h
theorem fj{α:Type}{x:ak α}:decide ((x.l.length:Int)<x.len)=false:=by rw[dy];simp
theorem ef{k:Nat}(h:k<4611686018427387904):aN ((k:Int)+1)=((k+1:Nat):Int):=by rw[gp (by omega) (by omega)];rfl
theorem Du{k:Nat}(h:k<4611686018427387904):aN (((k+1:Nat):Int)-1)=(k:Int):=by
 rw[gp (by omega) (by omega)];omega
theorem ep{α:Type}{l:List α}{k:Nat}{x:α}(h:l[k]? =some x):k<l.length:=(fF.1 h).1
theorem aeg (j:eg)(r:Row)(h:bg r.cd.l):FR j r=some (qi j.strict.len r):=by
 unfold FR
 rw[qh (f:=FQ j r) (fun k s=>s=(iV Term.Cell r.cd.l k,(k:Int))) (tg j.strict.len r.cd.l) r.cd.l (fun k x s hx a7 _=>by
  subst a7;have aH:=ep hx
  have ae:FQ j r (iV Term.Cell r.cd.l k,(k:Int))=bif tg j.strict.len r.cd.l k x then some (.next (x.Cell,aN ((k:Int)+1)))else some (.out (.ret ())):=by
   simp only[FQ,eL aH,cond_true,cX,hx,aK,Mv x.dB 1000 (by omega)];unfold tg;cases decide (x.Cell<=iV Term.Cell r.cd.l k)with
   |true=>rfl
   |false=>
    cases decide (x.Cell>=j.strict.len)with
    |true=>rfl
    |false=>
     cases x.dB==0 with
     |true=>rfl
     |false=>cases nr x.dB 1000<;>rfl
  rw[ae];constructor
  ·intro aZ
   rw[aZ,ef (by unfold bg at h;omega)];exact⟨_,rfl,by rw[AP Term.Cell hx]⟩
  ·intro aZ;rw[aZ];rfl) (fun s a7=>by subst a7;simp only[FQ,fj,cond_false]) (s:=(-1,0)) rfl]
 unfold qi;cases allI (tg j.strict.len r.cd.l) r.cd.l with
 |false=>rfl
 |true=>
  simp only[cond_true,aK,dC];rw[Mv _ _ (by omega)];rfl
theorem aeh (r:Row)(n:Int)(h:bg r.cd.l):Gu r n=some (qi n r):=by
 unfold Gu
 rw[qh (f:=Gt r n) (fun k s=>s=(k:Int)) (tg n r.cd.l) r.cd.l (fun k x s hx a7 hp=>by
  subst a7;have aH:=ep hx
  have jq:-1<=iV Term.Cell r.cd.l k:=Mn fun j y hj hy=>by
   have:=hp j y hj hy;unfold tg at this;simp only[ca,mb,decide_eq_false_iff_not]at this;omega
  have ae:Gt r n (k:Int)=bif tg n r.cd.l k x then some (.next (aN ((k:Int)+1)))else some (.out (.ret ())):=by
   simp only[Gt,eL aH,cond_true,cX,hx,aK,Mw x.dB 1000 (by omega)];unfold tg;by_cases h0:x.Cell<0
   ·have:decide (x.Cell<=iV Term.Cell r.cd.l k)=true:=by simp;omega
    simp[h0,this]
   ·have fM:decide (x.Cell<0)=false:=by simpa using h0
    rw[fM];by_cases h1:x.Cell>=n
    ·have q1:decide (x.Cell>=n)=true:=by simpa using h1
     rw[q1];simp
    ·have q1:decide (x.Cell>=n)=false:=by simpa using h1
     rw[q1];simp only[cond_false];cases k with
     |zero=>
      have:decide (x.Cell<=iV Term.Cell r.cd.l 0)=false:=by rw[decide_eq_false_iff_not];show ¬(x.Cell<=-1);omega
      rw[this];simp only[show decide (((0:Nat):Int)>0)=false from rfl,cond_false];cases x.dB==0 with
      |true=>rfl
      |false=>cases nr x.dB 1000<;>rfl
     |succ k=>
      have ah:k<r.cd.l.length:=by omega
      have hy:r.cd.l[k]? =some r.cd.l[k]:=by simp[ah]
      have th:decide ((((k+1:Nat)):Int)>0)=true:=decide_eq_true (by omega);have hw:aN (((k+1:Nat):Int)-1)=(k:Int):=Du (by unfold bg at h;omega);rw[th,hw,AP Term.Cell hy];simp only[cond_true,cX,hy,aK];have:decide (r.cd.l[k].Cell>=x.Cell)=decide (x.Cell<=r.cd.l[k].Cell):=rfl;rw[this];cases decide (x.Cell<=r.cd.l[k].Cell)with
      |true=>rfl
      |false=>
       cases x.dB==0 with
       |true=>rfl
       |false=>cases nr x.dB 1000<;>rfl
  rw[ae];constructor
  ·intro aZ
   rw[aZ,ef (by unfold bg at h;omega)];exact⟨_,rfl,rfl⟩
  ·intro aZ;rw[aZ];rfl) (fun s a7=>by subst a7;simp only[Gt,fj,cond_false]) (s:=0) rfl]
 unfold qi;cases allI (tg n r.cd.l) r.cd.l with
 |false=>rfl
 |true=>
  simp only[cond_true,aK,dC];rw[Mw _ _ (by omega)];rfl
def wU (x8:List aW)(k:Nat)(x:aW):Bool:=kP x&&!((x8.take k).any fun y=>y==x)
def wV (x8:List aW):Bool:=allI (wU x8) x8
theorem atD{x8:List aW}{k:Nat}{x:aW}(h:x8[k]? =some x)(n:aW):(x8.take (k+1)).any (fun y=>y==n)=((x8.take k).any (fun y=>y==n)||x==n):=by
 rw[tv,h];simp
theorem aei (a:ak aW)(h:bg a.l):FN a=some (wV a.l):=by
 unfold FN
 rw[qh (f:=FM a) (fun k s=>∃m,s=((k:Int),m)/\∀n,(jg m n).getD false=(a.l.take k).any fun y=>y==n) (wU a.l) a.l (fun k x s hx a7 _=>by
  obtain⟨m,rfl,hm⟩:=a7;have aH:=ep hx
  have ae:FM a ((k:Int),m)=bif wU a.l k x then some (.next ((aN ((k:Int)+1)),mI m x true))else some (.out (.ret ())):=by
   simp only[FM,eL aH,cond_true,cX,hx,aK,ad9,hm];unfold wU;cases kP x with
   |false=>rfl
   |true=>cases(a.l.take k).any fun y=>y==x<;>rfl
  rw[ae];constructor
  ·intro aZ
   rw[aZ,ef (by unfold bg at h;omega)];refine⟨_,rfl,_,rfl,fun n=> ?_⟩;rw[SB,atD hx,<-hm n];cases e:n==x with
   |true=>rw[Ht,e];simp
   |false=>rw[Ht (a:=x),e];simp
  ·intro aZ;rw[aZ];rfl) (fun s a7=>by obtain⟨m,rfl,-⟩:=a7;simp only[FM,fj,cond_false]) (s:=(0,[])) ⟨[],rfl,fun n=>rfl⟩]
 unfold wV;cases allI (wU a.l) a.l<;>rfl
theorem aej (a:ak aW)(x:aW)(h:bg a.l):Gi a x=some (a.l.any fun y=>y==x):=by
 unfold Gi
 rw[lE (f:=KV a x) a.l h (fun y=>y==x) (fun k y hy=>by
  simp only[KV,eL (ep hy),cond_true,cX,hy,aK];cases y==x<;>rfl) (by simp only[KV,fj,cond_false])]
 cases a.l.any fun y=>y==x<;>rfl
theorem atE{α:Type}{a:ak α}{k:Nat}(ah:k<a.l.length):∃z,qS a 0 (k:Int)=some z/\z.l=a.l.take k:=by
 cases a with
 |nil=>simp[ak.l]at ah
 |emp=>simp[ak.l]at ah
 |mk l=>
  simp only[ak.l]at ah;refine⟨.mk (l.take k),?_,rfl⟩;simp only[qS];rw[if_pos (by omega)];simp
theorem aek (a:ak aW)(h:bg a.l)(hZ:∀x∈a.l,nR x=some (kP x)):Gr a=some (wV a.l):=by
 unfold Gr
 rw[qh (f:=Gq a) (fun k s=>s=(k:Int)) (wU a.l) a.l (fun k x s hx a7 _=>by
  subst a7;have aH:=ep hx;obtain⟨z,pN,el⟩:=atE aH;have aI:bg z.l:=by rw[el];unfold bg at h⊢; rw[mc];omega
  have ae:Gq a (k:Int)=bif wU a.l k x then some (.next (aN ((k:Int)+1)))else some (.out (.ret ())):=by
   simp only[Gq,eL aH,cond_true,cX,hx,aK,hZ x (e0 hx),pN,aej z x aI,el];unfold wU;cases kP x with
   |false=>rfl
   |true=>cases(a.l.take k).any fun y=>y==x<;>rfl
  rw[ae];constructor
  ·intro aZ
   rw[aZ,ef (by unfold bg at h;omega)];exact⟨_,rfl,rfl⟩
  ·intro aZ;rw[aZ];rfl) (fun s a7=>by subst a7;simp only[Gq,fj,cond_false]) (s:=0) rfl]
 unfold wV;cases allI (wU a.l) a.l<;>rfl
end
end Go.Abs.bZ
namespace Go.Abs.bZ
open Go Go.Abs
noncomputable section
def Hv (a b:ak Term):Bool:=(CG a b).getD false
theorem ael (a b:ak Term)(h:bg a.l):CG a b=some (Hv a b):=by
 have:∃r,CG a b=some r:=by
  unfold CG;cases hl:a.len != b.len with
  |true=>exact⟨false,rfl⟩
  |false=>
   have nb:a.l.length=b.l.length:=by
    rw[dy,dy]at hl;simp at hl;omega
   obtain⟨o,ag,-⟩:=x7 (f:=KC a b) (fun k s=>s=(k:Int)) (fun _=>True) a.l (fun k x s hx a7=>by
    subst a7;have aH:=ep hx;have hy:b.l[k]? =some b.l[k]:=by simp[<-nb,aH]
    simp only[KC,eL aH,cond_true,cX,hx,hy,aK];cases(x.Cell==b.l[k].Cell&&(x.dB==b.l[k].dB&&true))with
    |true=>exact .inl ⟨_,rfl,ef (by unfold bg at h;omega)⟩
    |false=>exact .inr ⟨_,rfl,trivial⟩) (fun s a7=>by subst a7;exact⟨.go (),by simp only[KC,fj,cond_false],trivial⟩) (s:=0) rfl
   simp only[cond_false,ag,aK];cases o<;>exact⟨_,rfl⟩
 obtain⟨r,e⟩:=this;unfold Hv;rw[e];rfl
theorem atF (a b:ak Term)(h:bg a.l):QY a b=some (Hv a b):=ael a b h
def r4 (r:Row)(c f b:Int):Bool:=(r.gA==b)&&Hv r.cd (ak.mk [Term.mk c f])
theorem atG (r:Row)(c f b:Int)(h:bg r.cd.l):KD r c f b=some (r4 r c f b):=by
 unfold KD r4;rw[ael _ _ h];simp only[aK];cases Hv r.cd (ak.mk [Term.mk c f])<;>cases r.gA==b<;>rfl
theorem aem (r:Row)(c f b:Int)(h:bg r.cd.l):Gs r (Row.mk (ak.mk [Term.mk c f]) b)=some (r4 r c f b):=by
 unfold Gs r4;rw[atF _ _ h];cases r.gA==b<;>rfl
def x9 (s:List Int)(c:Constraint)(t:Table):Bool:=(t.Kind==0)&&((t.ba.l.length==2)&&((t.ba.l.getD 0 0==t.ba.l.getD 1 0)&&((t.cF==c.cF)&&(gg s (t.ba.l.getD 0 0)==c.rX))))
def ti (s:List Int)(ts:List Table)(c:Constraint):Bool:=(c.Row.cd.l.length==0)&&((c.Row.gA==0)&&ts.any (x9 s c))
theorem atH{l:List Int}(h:l.length=2):∃a b,l=[a,b]:=by
 match l,h with
 |[a,b],_=>exact⟨a,b,rfl⟩
theorem Hw{α:Type}(x:ak α)(n:Nat):((x.len:Int)==(n:Int))=(x.l.length==n):=by
 rw[dy];cases h:x.l.length==n with
 |true=>have:x.l.length=n:=by simpa using h
        rw[this];simp
 |false=>have:x.l.length≠n:=by simpa using h
         simp;omega
theorem aen{s:ak Int}(c:Constraint)(t:Table)(hc:kb s.l.length t.ba.l=true):
  (((bif (t.Kind==0)then(bif (t.ba.len==2)then((aP t.ba.l 0).bind fun zM=>((aP t.ba.l 1).bind fun ie=>(bif (zM==ie)then(bif (t.cF==c.cF)then((aP t.ba.l 0).bind fun zR=>((aP s.l zR).bind fun gB=>some (gB==c.rX)))else some false)else some false)))else some false)else some false):Option (Bool)))=some (x9 s.l c t):=by
 unfold x9;cases t.Kind==0 with
 |false=>rfl
 |true=>
  have:(t.ba.len==2)=(t.ba.l.length==2):=Hw t.ba 2;rw[this];cases h2:t.ba.l.length==2 with
  |false=>rfl
  |true=>
   obtain⟨a,b,e⟩:=atH (by simpa using h2);have hi:=(Ds hc).2;rw[e]at hi⊢;have ao:=hi a (by simp);have i0:aP [a,b] 0=some a:=cX [a,b] 0;have i1:aP [a,b] 1=some b:=cX [a,b] 1;simp only[i0,i1,aK,AQ ao.1 ao.2,cond_true,dC];simp only[List.getD_cons_zero,List.getD_cons_succ];cases a==b with
   |false=>rfl
   |true=>cases t.cF==c.cF<;>rfl
theorem atI (xs:ak Table)(h:bg xs.l){f:Table->Option Bool}{p:Table->Bool}(ae:∀x∈xs.l,f x=some (p x)):Qw xs f=some (xs.l.any p):=Dp xs h ae
theorem atJ (j:eg)(c:Constraint)(h:bg j.Model.Tables.l)(hc:∀t∈j.Model.Tables.l,kb j.Model.aL.l.length t.ba.l=true):KB j c=some (ti j.Model.aL.l j.Model.Tables.l c):=by
 unfold KB
 rw[atI j.Model.Tables h (f:=fun z0=>KA c j z0) (p:=x9 j.Model.aL.l c) (fun t ht=>by
  unfold KA;rw[aen c t (hc t ht)];rfl)]
 have e:(c.Row.cd.len==0)=(c.Row.cd.l.length==0):=Hw c.Row.cd 0;rw[e];unfold ti;cases c.Row.cd.l.length==0 with
 |false=>rfl
 |true=>cases c.Row.gA==0<;>rfl
theorem atK (m:Model)(c:Constraint)(h:bg m.Tables.l)(hc:∀t∈m.Tables.l,kb m.aL.l.length t.ba.l=true):K5 m c=some (ti m.aL.l m.Tables.l c):=by
 unfold K5
 rw[lE (f:=K4 m c) m.Tables.l h (x9 m.aL.l c) (fun k t ht=>by
  simp only[K4,eL (ep ht),cond_true,cX,ht,aK];rw[aen c t (hc t (e0 ht))];cases x9 m.aL.l c t<;>rfl) (by simp only[K4,fj,cond_false])]
 have e:decide (c.Row.cd.len>0)=!(c.Row.cd.l.length==0):=by
  rw[dy];cases h:c.Row.cd.l.length==0 with
  |true=>have:c.Row.cd.l.length=0:=by simpa using h
         rw[this];rfl
  |false=>have:c.Row.cd.l.length≠0:=by simpa using h
          simp;omega
 rw[e];unfold ti;simp only[bne];cases c.Row.cd.l.length==0 with
 |false=>rfl
 |true=>
  cases c.Row.gA==0 with
  |false=>rfl
  |true=>simp only[fQ,Bj,cond_false,aK,dC];cases m.Tables.l.any (x9 m.aL.l c)<;>rfl
def Mx (rs:List Range)(i:Nat)(c:Constraint):Bool:=match rs[i/2]? with
 |some r=>bif i%2==0 then r4 c.Row ((i/2:Nat):Int) (-1) (aN (0-r.fh))else r4 c.Row ((i/2:Nat):Int) 1 r.fi
 |none=>true
def AU (F:Int)(c:Constraint):Bool:=decide (c.j3>=0)&&decide (c.j3<F)
def My (n:Int)(c:Constraint):Bool:=(c.Kind==0)&&((c.cF==0)&&((c.rX==0)&&qi n c.Row))
def uF (s:List Int)(ts:List Table)(rs:List Range)(F:Int)(i:Nat)(c:Constraint):Bool:=
 AU F c&&((bif c.Kind==0 then(c.cF==0)&&((c.rX==0)&&qi rs.length c.Row)else(c.Kind==1)&&ti s ts c)&&(bif decide (i/2<rs.length)then(c.Kind==0)&&Mx rs i c else true))
def ya (s:List Int)(ts:List Table)(rs:List Range)(F:Int)(cs:List Constraint):Bool:=
 decide (cs.length<=512)&&(decide (2*rs.length<=cs.length)&&allI (uF s ts rs F) cs)
theorem atL{k:Nat}(h:k<4611686018427387904):aN ((k:Int).tdiv 2)=((k/2:Nat):Int):=by
 have e:((k:Int).tdiv 2)=((k/2:Nat):Int):=by
  rw[Int.tdiv_eq_ediv_of_nonneg (by omega)];omega
 rw[e,gp (by omega) (by omega)]
theorem atM (k:Nat):(((k:Int).tmod 2)==0)=(k%2==0):=by
 have e:((k:Int).tmod 2)=((k%2:Nat):Int):=by
  rw[af8 (by omega)];omega
 rw[e];have:k%2=0\/k%2=1:=by omega
 rcases this with h|h<;>rw[h]<;>rfl
theorem atN (j:eg)(h:bg j.Model.c4.l)(hr:j.strict.l.length<=100000)(ht:bg j.Model.Tables.l)(hc:∀t∈j.Model.Tables.l,kb j.Model.aL.l.length t.ba.l=true)(hT:∀c∈j.Model.c4.l,bg c.Row.cd.l):
  KE j=some (ya j.Model.aL.l j.Model.Tables.l j.strict.l j.Model.dI.len j.Model.c4.l):=by
 unfold KE ya;have ag:decide (j.Model.c4.len>512)=!decide (j.Model.c4.l.length<=512):=by rw[dy];by_cases q:j.Model.c4.l.length<=512<;>simp[q]<;>omega
 have e2:decide (j.Model.c4.len<aN (2*j.strict.len))=!decide (2*j.strict.l.length<=j.Model.c4.l.length):=by
  rw[dy,dy,gp (by omega) (by omega)];by_cases q:2*j.strict.l.length<=j.Model.c4.l.length<;>simp[q]<;>omega
 rw[ag,e2];cases decide (j.Model.c4.l.length<=512)with
 |false=>rfl
 |true=>
  cases decide (2*j.strict.l.length<=j.Model.c4.l.length)with
  |false=>rfl
  |true=>
   simp only[fQ,Bj,cond_false,dC]
   rw[qh (f:=FT j) (fun k s=>s=(k:Int)) (uF j.Model.aL.l j.Model.Tables.l j.strict.l j.Model.dI.len) j.Model.c4.l (fun k c s hx a7 _=>by
    subst a7;have aH:=ep hx;have dG:=e0 hx;have ah:k<4611686018427387904:=by unfold bg at h;omega
    have ae:FT j (k:Int)=bif uF j.Model.aL.l j.Model.Tables.l j.strict.l j.Model.dI.len k c then some (.next (aN ((k:Int)+1)))else some (.out (.ret ())):=by
     simp only[FT,eL aH,cond_true,cX,hx,aK,np,aeg j c.Row (hT c dG),atJ j c ht hc,atL ah,atM,atG _ _ _ _ (hT c dG)];unfold uF;show _=bif AU _ c&&_ then _ else _;have atO:(decide (c.j3>=0)&&decide (c.j3<j.Model.dI.len))=AU j.Model.dI.len c:=rfl;rw[atO];cases AU j.Model.dI.len c with
     |false=>rfl
     |true=>
      have hd:decide (((k/2:Nat):Int)<j.strict.len)=decide (k/2<j.strict.l.length):=by
       rw[dy];exact decide_eq_decide.2 (by omega)
      rw[hd];have hlen:j.strict.len=(j.strict.l.length:Int):=rfl;rw[hlen];cases pV:c.Kind==0 with
      |false=>
       simp only[cond_true,cond_false,dC,bne,pV,mU];cases h9:c.Kind==1 with
       |false=>simp
       |true=>
        cases ti j.Model.aL.l j.Model.Tables.l c with
        |false=>rfl
        |true=>
         simp only[fQ,cond_false,aK,dC];cases bj:decide (k/2<j.strict.l.length)with
         |false=>rfl
         |true=>
          have SK:k/2<j.strict.l.length:=by simpa using bj
          have hy:j.strict.l[k/2]? =some j.strict.l[k/2]:=by simp[SK]
          simp only[cond_true,hy,aK,yw,cond_false];cases k%2==0<;>simp
      |true=>
       simp only[cond_true,dC,bne,pV,fQ,cond_false];cases c.cF==0 with
       |false=>simp
       |true=>
        cases c.rX==0 with
        |false=>simp
        |true=>
         cases qi (j.strict.l.length:Int) c.Row with
         |false=>rfl
         |true=>
          simp only[fQ,cond_false,aK,dC];cases bj:decide (k/2<j.strict.l.length)with
          |false=>rfl
          |true=>
           have SK:k/2<j.strict.l.length:=by simpa using bj
           have hy:j.strict.l[k/2]? =some j.strict.l[k/2]:=by simp[SK]
           unfold Mx;simp only[cond_true,hy,aK];cases k%2==0 with
           |true=>
            simp only[cond_true,aK];cases r4 c.Row ((k/2:Nat):Int) (-1) (aN (0-j.strict.l[k/2].fh))<;>rfl
           |false=>
            simp only[cond_false,aK];cases r4 c.Row ((k/2:Nat):Int) 1 j.strict.l[k/2].fi<;>rfl
    rw[ae];constructor
    ·intro aZ
     rw[aZ,ef ah];exact⟨_,rfl,rfl⟩
    ·intro aZ;rw[aZ];rfl) (fun s a7=>by subst a7;simp only[FT,fj,cond_false]) (s:=0) rfl]
   cases allI (uF j.Model.aL.l j.Model.Tables.l j.strict.l j.Model.dI.len) j.Model.c4.l<;>rfl
def AV (s:List Int)(ts:List Table)(n:Int)(F:Int)(i:Nat)(c:Constraint):Bool:=
 AU F c&&(My n c||(decide ((i:Int)>=2*n)&&((c.Kind==1)&&ti s ts c)))
def AW (cs:List Constraint)(i:Nat)(r:Range):Bool:=match cs[2*i]?,cs[2*i+1]? with
 |some a,some b=>r4 a.Row (i:Int) (-1) (aN (0-r.fh))&&r4 b.Row (i:Int) 1 r.fi
 | _,_=>false
theorem atP{s:List Int}{ts:List Table}{rs:List Range}{F:Int}{cs:List Constraint}(h2:2*rs.length<=cs.length):
  (allI (AW cs) rs&&allI (AV s ts rs.length F) cs)=allI (uF s ts rs F) cs:=by
 rw[Bi,ca,AO,AO,AO];constructor
 ·rintro⟨ao,hb⟩ k c hc
  have h1:=hb k c hc;unfold AV My at h1;unfold uF;simp only[ca,kz,decide_eq_true_eq]at h1⊢;obtain⟨ae,hp⟩:=h1;refine⟨ae,?_,?_⟩
  ·rcases hp with⟨q1,aT,b3,cZ⟩|⟨-,q1,aT⟩
   ·rw[q1];simp[aT,b3,cZ]
   ·have:c.Kind=1:=by simpa using q1
    rw[this];simpa using aT
  ·by_cases ah:k/2<rs.length
   ·have hd:decide (k/2<rs.length)=true:=by simpa using ah
    rw[hd];simp only[cond_true,ca];have hr:rs[k/2]? =some rs[k/2]:=by simp[ah]
    have hs:=ao (k/2) rs[k/2] hr;unfold AW at hs;split at hs
    ·rename_i a b ag e2
     rw[ca]at hs;refine⟨?_,?_⟩
     ·rcases hp with⟨q1,-⟩|⟨q1,-⟩
      ·exact q1
      ·exfalso;omega
     ·unfold Mx
      rw[hr];simp only[];cases hm:k%2==0 with
      |true=>
       have:k%2=0:=by simpa using hm
       have e:2*(k/2)=k:=by omega
       rw[e,hc]at ag;cases ag;exact hs.1
      |false=>
       have:k%2≠0:=by simpa using hm
       have e:2*(k/2)+1=k:=by omega
       rw[e,hc]at e2;cases e2;exact hs.2
    ·cases hs
   ·have hd:decide (k/2<rs.length)=false:=by simpa using ah
    rw[hd];rfl
 ·intro h
  refine⟨fun i r hr=> ?_,fun k c hc=> ?_⟩
  ·have hi:=ep hr
   have i1:2*i<cs.length:=by omega
   have i2:2*i+1<cs.length:=by omega
   have g1:cs[2*i]? =some cs[2*i]:=by simp[i1]
   have g2:cs[2*i+1]? =some cs[2*i+1]:=by simp[i2]
   have al:=h (2*i) _ g1;have a2:=h (2*i+1) _ g2;have d1:2*i/2=i:=by omega
   have d2:(2*i+1)/2=i:=by omega
   have m1:(2*i%2==0)=true:=by simp
   have m2:((2*i+1)%2==0)=false:=by
    have:(2*i+1)%2=1:=by omega
    rw[this];rfl
   have hd:decide (i<rs.length)=true:=by simpa using hi
   unfold uF Mx at al a2;rw[d1,hd,hr,m1]at al;rw[d2,hd,hr,m2]at a2;simp only[cond_true,cond_false,ca]at al a2;unfold AW;rw[g1,g2];simp only[ca];exact⟨al.2.2.2,a2.2.2.2⟩
  ·have a:=h k c hc
   unfold uF at a;unfold AV My;simp only[ca,kz,decide_eq_true_eq]at a⊢;obtain⟨ae,hb,hs⟩:=a;refine⟨ae,?_⟩;cases pV:c.Kind==0 with
   |true=>
    rw[pV]at hb;simp only[cond_true,ca]at hb;exact .inl ⟨rfl,hb.1,hb.2.1,hb.2.2⟩
   |false=>
    right;rw[pV]at hb hs;simp only[cond_false,ca,yw]at hb hs;refine⟨?_,hb.1,hb.2⟩;by_cases ah:k/2<rs.length
    ·have hd:decide (k/2<rs.length)=true:=by simpa using ah
     rw[hd]at hs;cases hs
    ·omega
theorem aeo (m:Model)(h1:bg m.aL.l)(h2:bg m.Tables.l)(hc:∀t∈m.Tables.l,bg t.ba.l)(hZ:∀t∈m.Tables.l,nR t.Name=some (kP t.Name))(af:il m.aL.l m.Tables.l=true):
  ∃x,z8 m=some x/\x.l=im m.aL.l m.Tables.l true:=by
 obtain⟨x,ag,e2⟩:=aef m.aL m.Tables true h1 h2 hc hZ;unfold z8;rw[af]at e2;exact⟨x,by rw[ag];rfl,e2⟩
theorem aep{s:List Int}{ts:List Table}(af:il s ts=true)(b:Bool):(im s ts b).length<=2592:=by
 obtain⟨q1,aT,b3,cZ⟩:=uC af;have:=Ms b3 b ts cZ;omega
theorem atQ (m:Model)(h1:bg m.aL.l)(h2:bg m.Tables.l)(fa:∀t∈m.Tables.l,bg t.ba.l)(hZ:∀t∈m.Tables.l,nR t.Name=some (kP t.Name))(af:il m.aL.l m.Tables.l=true)
  (h:bg m.c4.l) (hT:∀c∈m.c4.l,bg c.Row.cd.l):
  K6 m=some (ya m.aL.l m.Tables.l (im m.aL.l m.Tables.l true) m.dI.len m.c4.l):=by
 obtain⟨x,ex,el⟩:=aeo m h1 h2 fa hZ af;have hr:=aep af true;have hI:∀t∈m.Tables.l,kb m.aL.l.length t.ba.l=true:=fun t ht=>uD ((uC af).2.2.2 t ht);unfold K6 ya;rw[ex];simp only[aK];rw[<-el]at hr⊢;have ag:decide (m.c4.len>512)=!decide (m.c4.l.length<=512):=by rw[dy];by_cases q:m.c4.l.length<=512<;>simp[q]<;>omega
 have e2:decide (m.c4.len<aN (2*x.len))=!decide (2*x.l.length<=m.c4.l.length):=by
  rw[dy,dy,gp (by omega) (by omega)];by_cases q:2*x.l.length<=m.c4.l.length<;>simp[q]<;>omega
 rw[ag,e2];cases aB5:decide (m.c4.l.length<=512)with
 |false=>simp
 |true=>
  cases atS:decide (2*x.l.length<=m.c4.l.length)with
  |false=>rfl
  |true=>
   have hge:2*x.l.length<=m.c4.l.length:=by simpa using atS
   simp only[fQ,Bj,cond_false,dC]
   rw[qh (f:=Gv m x) (fun k s=>s=(k:Int)) (AW m.c4.l) x.l (fun k r s hx a7 _=>by
    subst a7;have aH:=ep hx;have i1:2*k<m.c4.l.length:=by omega
    have i2:2*k+1<m.c4.l.length:=by omega
    have g1:m.c4.l[2*k]? =some m.c4.l[2*k]:=by simp[i1]
    have g2:m.c4.l[2*k+1]? =some m.c4.l[2*k+1]:=by simp[i2]
    have aE:aN (2*(k:Int))=((2*k:Nat):Int):=by rw[gp (by omega) (by omega)];omega
    have bG:aN (((2*k:Nat):Int)+1)=((2*k+1:Nat):Int):=by rw[gp (by omega) (by omega)];omega
    have ae:Gv m x (k:Int)=bif AW m.c4.l k r then some (.next (aN ((k:Int)+1)))else some (.out (.ret ())):=by
     simp only[Gv,eL aH,cond_true,cX,hx,aK,aE,bG,g1,g2,aem _ _ _ _ (hT _ (e0 g1)),aem _ _ _ _ (hT _ (e0 g2))];unfold AW;rw[g1,g2];simp only[];cases r4 m.c4.l[2*k].Row (k:Int) (-1) (aN (0-r.fh))with
     |false=>rfl
     |true=>cases r4 m.c4.l[2*k+1].Row (k:Int) 1 r.fi<;>rfl
    rw[ae];constructor
    ·intro aZ
     rw[aZ,ef (by omega)];exact⟨_,rfl,rfl⟩
    ·intro aZ;rw[aZ];rfl) (fun s a7=>by subst a7;simp only[Gv,fj,cond_false]) (s:=0) rfl]
   rw[<-atP hge];cases allI (AW m.c4.l) x.l with
   |false=>rfl
   |true=>
    simp only[cond_true,aK,dC]
    rw[qh (f:=Gw m x) (fun k s=>s=(k:Int)) (AV m.aL.l m.Tables.l x.l.length m.dI.len) m.c4.l (fun k c s hx a7 _=>by
     subst a7;have aH:=ep hx;have dG:=e0 hx;have aE:aN (2*x.len)=2*(x.l.length:Int):=by rw[dy,gp (by omega) (by omega)]
     have ae:Gw m x (k:Int)=bif AV m.aL.l m.Tables.l x.l.length m.dI.len k c then some (.next (aN ((k:Int)+1)))else some (.out (.ret ())):=by
      simp only[Gw,eL aH,cond_true,cX,hx,aK,aeh c.Row _ (hT c dG),atK m c h2 hI,aE];unfold AV AU;have hlen:x.len=(x.l.length:Int):=rfl;rw[hlen];have oe:decide (c.j3<0)=!decide (c.j3>=0):=by by_cases q:c.j3<0<;>simp[q]<;>omega
      have qF:decide (c.j3>=m.dI.len)=!decide (c.j3<m.dI.len):=by by_cases q:c.j3<m.dI.len<;>simp[q]<;>omega
      rw[oe,qF];cases decide (c.j3>=0)with
      |false=>rfl
      |true=>
       cases decide (c.j3<m.dI.len)with
       |false=>rfl
       |true=>
        simp only[fQ,Bj,cond_false,dC];unfold My;cases c.Kind==0<;>cases c.cF==0<;>cases c.rX==0<;>cases qi (x.l.length:Int) c.Row<;>cases decide ((k:Int)>=2*(x.l.length:Int))<;>cases c.Kind==1<;>cases ti m.aL.l m.Tables.l c<;>rfl
     rw[ae];constructor
     ·intro aZ
      rw[aZ,ef (by unfold bg at h;omega)];exact⟨_,rfl,rfl⟩
     ·intro aZ;rw[aZ];rfl) (fun s a7=>by subst a7;simp only[Gw,fj,cond_false]) (s:=0) rfl]
    cases allI (AV m.aL.l m.Tables.l x.l.length m.dI.len) m.c4.l<;>rfl
end
end Go.Abs.bZ
namespace Go.Abs.bZ
open Go Go.Abs
noncomputable section
def uG (s:List Int):List Int->Int->List Int
 |[],_=>[]
 |x::r,k=>(k%gg s x)::uG s r (k/gg s x)
def tj (s:List Int):List Int->Int->Int
 |[],k=>k
 |x::r,k=>tj s r (k/gg s x)
def uH (s:List Int)(fk:List Int)(k:Int):List Int:=(uG s fk.reverse k).reverse
theorem aeq (s:List Int)(y:Int):∀(l:List Int) (k:Int),tj s (l++[y]) k=tj s l k/gg s y
 |[],k=>rfl
 |x::r,k=>aeq s y r _
theorem aer (s:List Int)(y:Int):∀(l:List Int) (k:Int),uG s (l++[y]) k=uG s l k++[tj s l k%gg s y]
 |[],k=>rfl
 |x::r,k=>by simp only[ky,uG,tj];rw[aer s y r]
theorem SL (s:List Int):∀(l:List Int) (k:Int),(uG s l k).length=l.length
 |[],k=>rfl
 |x::r,k=>by simp only[uG,dE,SL s r]
theorem aes{s:List Int}(hs:ka s=true):∀(l:List Int) (k:Int),(∀x∈l,0<=x/\x<s.length)->0<=k->0<=tj s l k/\tj s l k<=k
 |[],k,_,h=>⟨h,Int.le_refl _⟩
 |x::r,k,hx,h=>by
  obtain⟨q1,aT⟩:=Dr hs (hx x (by simp)).1 (hx x (by simp)).2;have h1:0<=k/gg s x:=Int.ediv_nonneg h (by omega);have h2:k/gg s x<=k:=Int.ediv_le_self _ h;have:=aes hs r (k/gg s x) (fun y hy=>hx y (by simp[hy])) h1;simp only[tj];omega
theorem aet{a b:Int}(ao:0<=a)(hb:1<=b):Co a b=some (a%b):=by
 unfold Co;rw[if_neg (by omega),af8 ao]
theorem aeu{a b:Int}(ao:0<=a)(hb:1<=b)(h:a<=1000000):Cn a b=some (a/b):=by
 unfold Cn;have h1:0<=a/b:=Int.ediv_nonneg ao (by omega);have h2:a/b<=a:=Int.ediv_le_self _ ao;rw[if_neg (by omega),Int.tdiv_eq_ediv_of_nonneg ao,gp (by omega) (by omega)]
theorem atT{n j:Nat}(hj:j<n)(v:Int)(t:List Int):(List.replicate (n-j) 0++t).set (n-1-j) v=List.replicate (n-(j+1)) 0++(v::t):=by
 have e:n-j=(n-(j+1))+1:=by omega
 have e2:n-1-j=n-(j+1):=by omega
 rw[e,e2,TK,jJ,List.set_append_right _ _ (by simp)];simp
theorem aev{s:ak Int}{fk:ak Int}{f:(Int × Int × ak Int)->Option (cE (Int × Int × ak Int) (ak Int))}
  (Hx:∀(k:Int) (i:Nat) (t:ak Int) (x:Int),fk.l[i]? =some x->0<=k->k<=1000000->i<t.l.length->1<=gg s.l x->f (k,(i:Int),t)=some (.next (k/gg s.l x,aN ((i:Int)-1),pf t (i:Int) (k%gg s.l x))))
  (oo:∀(k:Int) (t:ak Int),f (k,-1,t)=some (.out t)) (hs:ka s.l=true) (hc:kb s.l.length fk.l=true) {d:Int} (h0:0<=d) (h1:d<=1000000) {z:ak Int} (aI:z.l=List.replicate fk.l.length 0):
  ∃o,bO f (d,(fk.l.length:Int)-1,z)=some o/\o.l=uH s.l fk.l d:=by
 obtain⟨q1,aT⟩:=Ds hc;have pR:fk.l.reverse.length=fk.l.length:=TQ;refine Mm (f:=f) (fun j st=>∃t:ak Int,st=(tj s.l (fk.l.reverse.take j) d,(fk.l.length:Int)-1-j,t)/\t.l=List.replicate (fk.l.length-j) 0++(uG s.l (fk.l.reverse.take j) d).reverse) (fun o=>o.l=uH s.l fk.l d) fk.l.reverse (fun j x st hx aa=> ?_) (fun st aa=> ?_) ⟨z,by simp[tj],by rw[aI];simp[uG]⟩
 ·obtain⟨t,rfl,ht⟩:=aa
  have hj:=ep hx;rw[pR]at hj
  have r5:fk.l[fk.l.length-1-j]? =some x:=by
   rw[List.getElem?_reverse (by omega)]at hx;exact hx
  have yb:=aT x (e0 r5);obtain⟨p1,p2⟩:=Dr hs yb.1 yb.2;have hb:=aes hs (fk.l.reverse.take j) d (fun y hy=>aT y (List.mem_reverse.1 (Be hy))) h0
  have atU:t.l.length=fk.l.length:=by
   rw[ht,e1,w6,TQ,SL,mc,pR];omega
  have atV:(fk.l.length:Int)-1-j=((fk.l.length-1-j:Nat):Int):=by omega
  have aew:fk.l.reverse.take (j+1)=fk.l.reverse.take j++[x]:=by rw[tv,hx];rfl
  rw[atV];refine⟨_,Hx _ _ t x r5 hb.1 (by omega) (by omega) p1,pf t ((fk.l.length-1-j:Nat):Int) (tj s.l (fk.l.reverse.take j) d%gg s.l x),?_,?_⟩
  ·rw[aew,aeq]
   have:aN (((fk.l.length-1-j:Nat):Int)-1)=(fk.l.length:Int)-1-((j+1:Nat):Int):=by
    rw[gp (by omega) (by omega)];omega
   rw[this]
  ·show t.l.set _ _=_
   rw[ht,Bf,atT hj,aew,aer,List.reverse_append];rfl
 ·obtain⟨t,rfl,ht⟩:=aa
  rw[pR];have e:(fk.l.length:Int)-1-(fk.l.length:Nat)=-1:=by omega
  rw[e];refine⟨t,oo _ t,?_⟩;rw[ht,pR,<-pR,Bh];simp[uH]
theorem aex (n:Nat)(h:n<=1000000):∃z,xN 8 (0:Int) (n:Int)=some z/\z.l=List.replicate n 0:=by
 unfold xN;rw[if_pos ⟨by omega,by omega⟩];by_cases hn:(n:Int)=0
 ·have:n=0:=by omega
  subst this;exact⟨_,rfl,rfl⟩
 ·rw[if_neg hn]
  exact⟨_,rfl,rfl⟩
def ku (s:List Int)(b:Bool)(c:Int)(t:Table):Bool:=(h4 t==b)&&(decide (aN (c-t.cF)>=0)&&decide (aN (c-t.cF)<wid s t.ba.l))
theorem aey{α:Type}{p:α->Bool}{xs:List α}(h:∀x∈xs,p x=false):xs.findIdx? p=none:=by
 rw[List.findIdx?_eq_none_iff];exact h
theorem SM{α:Type}{p:α->Bool}:∀{xs:List α} {k:Nat} {x:α},(∀j y,j<k->xs[j]? =some y->p y=false)->xs[k]? =some x->p x=true->xs.findIdx? p=some k
 |[],k,x,_,hx,_=>by cases hx
 |y::r,0,x,_,hx,hp=>by
  simp only[n4,aA]at hx;subst hx;rw[TW,if_pos hp]
 |y::r,k+1,x,h,hx,hp=>by
  have h0:=h 0 y (by omega) rfl;rw[TW,h0,if_neg (by simp),SM (k:=k) (x:=x) (fun j z hj aI=>h (j+1) z (by omega) (by simpa using aI)) (by simpa using hx) hp];rfl
structure aez (s:List Int) (ts:List Table) (b:Bool) (c:Int) (r:Int × ak Int × Bool):Prop where
 no:(il s ts=false\/c<0\/ts.findIdx? (ku s b c)=none)->r=(0,.nil,false)
 yes:∀i t,il s ts=true->0<=c->ts.findIdx? (ku s b c)=some i->ts[i]? =some t->r.1=(i:Int)/\r.2.2=true/\r.2.1.l=uH s t.ba.l (aN (c-t.cF))
theorem aeA (s:ak Int)(ts:ak Table)(b:Bool)(c:Int)(h1:bg s.l)(h2:bg ts.l)(hc:∀t∈ts.l,bg t.ba.l):∃r,FZ s ts b c=some r/\aez s.l ts.l b c r:=by
 unfold FZ;rw[SG s ts h1 h2 hc];simp only[aK];cases af:il s.l ts.l with
 |false=>exact⟨_,rfl,⟨fun _=>rfl,fun i t h=>by rw[af]at h;cases h⟩⟩
 |true=>
  simp only[cond_true,aK];by_cases h0:c<0
  ·have hd:decide (c<0)=true:=by simpa using h0
   rw[hd];exact⟨_,rfl,⟨fun _=>rfl,fun i t _ h=>by omega⟩⟩
  ·have hd:decide (c<0)=false:=by simpa using h0
   rw[hd];simp only[cond_false];obtain⟨q1,aT,b3,cZ⟩:=uC af
   obtain⟨o,ag,e2⟩:=x7 (f:=FX s ts b c) (fun k st=>st=(k:Int)/\∀j y,j<k->ts.l[j]? =some y->ku s.l b c y=false)
    (fun o=>match o with
      | .go _=>ts.l.findIdx? (ku s.l b c)=none
      | .ret p=>∃(i:Nat) (t:Table),ts.l.findIdx? (ku s.l b c)=some i/\ts.l[i]? =some t/\p.1=(i:Int)/\p.2.l=uH s.l t.ba.l (aN (c-t.cF))) ts.l (fun k t st hx aa=>by
    obtain⟨rfl,iT⟩:=aa;have aH:=ep hx;have dG:=e0 hx;have hI:=uD (cZ t dG);have hw:=uB b3 hI
    have ev:(((CB t).bind fun mN=>(bif (mN==b)then(bif (decide ((aN (c-t.cF))<0))then some true else((uf s t.ba).bind fun l3=>some (decide ((aN (c-t.cF))>=l3))))else some true)):Option Bool)=some (!ku s.l b c t):=by
     rw[Mo,SD s t.ba b3 hI];unfold ku;simp only[aK];cases h4 t==b with
     |false=>rfl
     |true=>
      simp only[cond_true,dC];by_cases g1:aN (c-t.cF)<0
      ·have a:decide (aN (c-t.cF)<0)=true:=by simpa using g1
       have a2:decide (aN (c-t.cF)>=0)=false:=by simp;omega
       rw[a,a2];rfl
      ·have a:decide (aN (c-t.cF)<0)=false:=by simpa using g1
       have a2:decide (aN (c-t.cF)>=0)=true:=by simp;omega
       rw[a,a2];by_cases g2:aN (c-t.cF)<wid s.l t.ba.l
       ·have dQ:decide (aN (c-t.cF)<wid s.l t.ba.l)=true:=by simpa using g2
        have fY:decide (aN (c-t.cF)>=wid s.l t.ba.l)=false:=by simp;omega
        rw[dQ,fY];rfl
       ·have dQ:decide (aN (c-t.cF)<wid s.l t.ba.l)=false:=by simpa using g2
        have fY:decide (aN (c-t.cF)>=wid s.l t.ba.l)=true:=by simp;omega
        rw[dQ,fY];rfl
    have ae:FX s ts b c (k:Int)=bif !ku s.l b c t then some (.next (aN ((k:Int)+1)))else((xN 8 0 t.ba.len).bind fun FY=>((bO (KJ s t) ((aN (c-t.cF)),(aN (FY.len-1)),FY):Option ((ak Int))).bind fun QD=>some (.out (.ret ((k:Int),QD))))):=by
     simp only[FX,eL aH,cond_true,cX,hx,aK];rw[ev];rfl
    rw[ae];cases eS:ku s.l b c t with
    |false=>
     left;refine⟨_,rfl,?_,fun j y hj hy=> ?_⟩
     ·exact ef (by omega)
     ·by_cases e:j=k
      ·subst e;rw[hx]at hy;cases hy;exact eS
      ·exact iT j y (by omega) hy
    |true=>
     right;simp only[fQ,cond_false];have AX:=eS;unfold ku at AX;simp only[ca,decide_eq_true_eq]at AX;obtain⟨fq,hC⟩:=Ds hI;obtain⟨z,pN,wW⟩:=aex t.ba.l.length (by omega);have atW:z.len=(t.ba.l.length:Int):=by rw[dy,wW,w6]
     obtain⟨o,g1,g2⟩:=aev (s:=s) (fk:=t.ba) (f:=KJ s t) (fun k i AY x r5 ah tI hit ea=>by
      have yb:=hC x (e0 r5);have Et:decide ((i:Int)>=0)=true:=by simp
      have SN:AY.l[i]? =some AY.l[i]:=by simp[hit]
      simp only[KJ,Et,cond_true,cX,r5,aK,AQ yb.1 yb.2,aet ah ea,aeu ah ea tI,SN]) (fun k AY=>rfl) b3 hI AX.2.1 (by omega) wW
     have atX:aN (z.len-1)=(t.ba.l.length:Int)-1:=by rw[atW,gp (by omega) (by omega)]
     refine⟨.ret ((k:Int),o),?_,k,t,SM iT hx eS,hx,rfl,g2⟩;have:t.ba.len=((t.ba.l.length:Nat):Int):=rfl;rw[this,pN];simp only[aK];rw[atX,g1];rfl) (fun st aa=>by
    obtain⟨rfl,iT⟩:=aa;refine⟨.go (),by simp only[FX,fj,cond_false],aey fun x hx=> ?_⟩;obtain⟨j,hj⟩:=oN.1 hx;exact iT j x (ep hj) hj) (s:=0) ⟨rfl,fun j y hj=>by omega⟩
   cases o with
   |go u=>
    refine⟨_,by rw[ag];rfl,⟨fun _=>rfl,fun i t _ _ hi=> ?_⟩⟩;simp only at e2;rw[e2]at hi;cases hi
   |ret p=>
    obtain⟨i,t,al,a2,a3,a4⟩:=e2;refine⟨_,by rw[ag];rfl,⟨fun h=> ?_,fun yB e9 _ _ hi ht=> ?_⟩⟩
    ·rcases h with h|h|h
     ·rw[af]at h;cases h
     ·omega
     ·rw[al]at h;cases h
    ·rw[al]at hi;cases hi;rw[a2]at ht;cases ht
     exact⟨a3,rfl,a4⟩
theorem atY{s fk:ak Int}(hs:ka s.l=true)(hc:kb s.l.length fk.l=true){d:Int}(h0:0<=d)(h1:d<=1000000):∃o,Gz s fk d=some o/\o.l=uH s.l fk.l d:=by
 obtain⟨fq,hC⟩:=Ds hc;obtain⟨z,pN,wW⟩:=aex fk.l.length (by omega)
 obtain⟨o,g1,g2⟩:=aev (s:=s) (fk:=fk) (f:=QZ s fk) (fun k i AY x r5 ah tI hit ea=>by
  have yb:=hC x (e0 r5);have Et:decide ((i:Int)>=0)=true:=by simp
  have SN:AY.l[i]? =some AY.l[i]:=by simp[hit]
  simp only[QZ,Et,cond_true,cX,r5,aK,AQ yb.1 yb.2,aet ah ea,aeu ah ea tI,SN]) (fun k AY=>rfl) hs hc h0 h1 wW
 refine⟨o,?_,g2⟩;unfold Gz;have:fk.len=((fk.l.length:Nat):Int):=rfl;rw[this,pN];simp only[aK];rw[gp (by omega) (by omega),g1];rfl
theorem aeB (s:ak Int)(ts:ak Table)(b:Bool)(c:Int)(h1:bg s.l)(h2:bg ts.l)(hc:∀t∈ts.l,bg t.ba.l)(hZ:∀t∈ts.l,nR t.Name=some (kP t.Name)):∃r,GC s ts b c=some r/\aez s.l ts.l b c r:=by
 unfold GC;rw[SI s ts h1 h2 hc hZ];simp only[aK];cases af:il s.l ts.l with
 |false=>exact⟨_,rfl,⟨fun _=>rfl,fun i t h=>by rw[af]at h;cases h⟩⟩
 |true=>
  simp only[cond_true,aK];obtain⟨q1,aT,b3,cZ⟩:=uC af
  obtain⟨o,ag,e2⟩:=x7 (f:=GA s ts b c) (fun k st=>st=(k:Int)/\∀j y,j<k->ts.l[j]? =some y->(decide (c>=0)&&ku s.l b c y)=false)
   (fun o=>match o with
     | .go _=>c<0\/ts.l.findIdx? (ku s.l b c)=none
     | .ret p=>0<=c/\∃(i:Nat) (t:Table),ts.l.findIdx? (ku s.l b c)=some i/\ts.l[i]? =some t/\p.1=(i:Int)/\p.2.l=uH s.l t.ba.l (aN (c-t.cF))) ts.l (fun k t st hx aa=>by
   obtain⟨rfl,iT⟩:=aa;have aH:=ep hx;have dG:=e0 hx;have hI:=uD (cZ t dG);have hw:=uB b3 hI;have Mu:xR s t.ba=some (wid s.l t.ba.l):=by rw[SH s t.ba h1 (hc t dG)];unfold Hu;rw[b3,hI];rfl
   have ae:GA s ts b c (k:Int)=bif (decide (c>=0)&&ku s.l b c t)then((Gz s t.ba (aN (c-t.cF))).bind fun wB=>some (.out (.ret ((k:Int),wB))))else some (.next (aN ((k:Int)+1))):=by
    simp only[GA,eL aH,cond_true,cX,hx,aK,Mu];have cg:z1 t.Kind=some (h4 t):=rfl;rw[cg];simp only[aK];unfold ku;cases h4 t==b with
    |false=>simp
    |true=>
     cases decide (c>=0)with
     |false=>rfl
     |true=>
      cases decide (aN (c-t.cF)>=0)with
      |false=>rfl
      |true=>cases decide (aN (c-t.cF)<wid s.l t.ba.l)<;>rfl
   rw[ae];cases eS:(decide (c>=0)&&ku s.l b c t)with
   |false=>
    left;refine⟨_,rfl,ef (by omega),fun j y hj hy=> ?_⟩;by_cases e:j=k
    ·subst e;rw[hx]at hy;cases hy;exact eS
    ·exact iT j y (by omega) hy
   |true=>
    right;rw[ca,decide_eq_true_eq]at eS;have AX:=eS.2;unfold ku at AX;simp only[ca,decide_eq_true_eq]at AX;obtain⟨o,g1,g2⟩:=atY (s:=s) (fk:=t.ba) b3 hI (d:=aN (c-t.cF)) AX.2.1 (by omega)
    have atZ:∀j y,j<k->ts.l[j]? =some y->ku s.l b c y=false:=fun j y hj hy=>by
     have:=iT j y hj hy;have hd:decide (c>=0)=true:=by simpa using eS.1
     rw[hd,dC]at this;exact this
    exact⟨.ret ((k:Int),o),by rw[g1];rfl,eS.1,k,t,SM atZ hx eS.2,hx,rfl,g2⟩) (fun st aa=>by
   obtain⟨rfl,iT⟩:=aa;refine⟨.go (),by simp only[GA,fj,cond_false],?_⟩;by_cases SP:c<0
   ·exact .inl SP
   ·refine .inr (aey fun x hx=> ?_)
    obtain⟨j,hj⟩:=oN.1 hx;have:=iT j x (ep hj) hj;have hd:decide (c>=0)=true:=by simp;omega
    rw[hd,dC]at this;exact this) (s:=0) ⟨rfl,fun j y hj=>by omega⟩
  cases o with
  |go u=>
   refine⟨_,by rw[ag];rfl,⟨fun _=>rfl,fun i t _ h0 hi=> ?_⟩⟩;simp only at e2;rcases e2 with e2|e2
   ·omega
   ·rw[e2]at hi;cases hi
  |ret p=>
   obtain⟨h0,i,t,al,a2,a3,a4⟩:=e2;refine⟨_,by rw[ag];rfl,⟨fun h=> ?_,fun yB e9 _ _ hi ht=> ?_⟩⟩
   ·rcases h with h|h|h
    ·rw[af]at h;cases h
    ·omega
    ·rw[al]at h;cases h
   ·rw[al]at hi;cases hi;rw[a2]at ht;cases ht
    exact⟨a3,rfl,a4⟩
end
end Go.Abs.bZ
namespace Go.Abs.bZ
open Go Go.Abs
noncomputable section
def uI (n:Int)(xs:List Change)(k:Nat)(c:Change):Bool:=!(decide (c.Cell<=iV Change.Cell xs k))&&(!(decide (c.Cell>=n))&&(!(c.Add==0)&&nr c.Add 1000000000))
def Mz (t:Table):Bool:=(t.Kind==2)||(t.Kind==3)
def SQ (u:ko)(t:Table):Bool:=bif Mz t then((u.Kind==0)||(u.Kind==1))&&(u.Value==0)else(u.Kind==2)&&(decide (u.Value>=t.Range.fh)&&decide (u.Value<=t.Range.fi))
def Hy (s:List Int)(ts:List Table)(u:ko):Bool:=bif decide (u.Cell<0)then false else match ts.findIdx? (ku s false u.Cell)with
 |some i=>match ts[i]? with
  |some t=>SQ u t
  |none=>false
 |none=>false
def uJ (s:List Int)(ts:List Table)(us:List ko)(k:Nat)(u:ko):Bool:=!(decide (u.Cell<=iV ko.Cell us k))&&Hy s ts u
def AZ (s:List Int)(ts:List Table)(n:Int)(x:c7):Bool:=
 allI (uI n x.Delta.l) x.Delta.l&&(allI (uJ s ts x.eQ.l) x.eQ.l&&(decide (x.de.l.length<=8)&&(decide (x.eQ.l.length<=32)&&x.de.l.all (qi n))))
theorem MA{α:Type}{p:α->Bool}:∀{xs:List α} {i:Nat},xs.findIdx? p=some i->∃x,xs[i]? =some x
 |[],i,h=>by cases h
 |y::r,i,h=>by
  rw[TW]at h;split at h
  ·cases h;exact⟨y,rfl⟩
  ·obtain⟨j,hj,rfl⟩:=cG.1 h
   obtain⟨x,hx⟩:=MA hj;exact⟨x,by simpa using hx⟩
theorem at0 (j:eg)(u:ko)(h1:bg j.Model.aL.l)(h2:bg j.Model.Tables.l)(hc:∀t∈j.Model.Tables.l,bg t.ba.l)(af:il j.Model.aL.l j.Model.Tables.l=true):
  KK j u=some (Hy j.Model.aL.l j.Model.Tables.l u):=by
 obtain⟨r,ag,iT,SR⟩:=aeA j.Model.aL j.Model.Tables false u.Cell h1 h2 hc;unfold KK Hy;rw[ag];simp only[aK];by_cases h0:u.Cell<0
 ·have hd:decide (u.Cell<0)=true:=by simpa using h0
  rw[hd,iT (.inr (.inl h0))];rfl
 ·have hd:decide (u.Cell<0)=false:=by simpa using h0
  rw[hd];simp only[cond_false];cases hi:j.Model.Tables.l.findIdx? (ku j.Model.aL.l false u.Cell)with
  |none=>rw[iT (.inr (.inr hi))];rfl
  |some i=>
   obtain⟨t,ht⟩:=MA hi;obtain⟨al,a2,-⟩:=SR i t af (by omega) hi ht;rw[al,a2];simp only[cond_true,cX,ht,aK];unfold SQ Mz;cases t.Kind==2 with
   |true=>
    simp only[cond_true,aK,Ie];cases u.Kind==0 with
    |true=>cases u.Kind==1<;>rfl
    |false=>rfl
   |false=>
    simp only[cond_false,aK,qp];cases t.Kind==3 with
    |true=>
     simp only[cond_true];cases u.Kind==0 with
     |true=>cases u.Kind==1<;>rfl
     |false=>rfl
    |false=>rfl
theorem at1 (xs:ak Row)(h:bg xs.l){f:Row->Option Bool}{p:Row->Bool}(ae:∀x∈xs.l,f x=some (p x)):QC xs f=some (xs.l.any p):=Dp xs h ae
theorem A0{α:Type}(x:ak α)(n:Nat):decide (x.len<=(n:Int))=decide (x.l.length<=n):=decide_eq_decide.2 (by rw[dy];omega)
theorem at2 (j:eg)(x:c7)(h1:bg j.Model.aL.l)(h2:bg j.Model.Tables.l)(hc:∀t∈j.Model.Tables.l,bg t.ba.l)(af:il j.Model.aL.l j.Model.Tables.l=true)
  (lW:bg x.Delta.l) (a6:bg x.eQ.l) (fo:bg x.de.l) (aa:∀r∈x.de.l,bg r.cd.l):
  KM j x=some (AZ j.Model.aL.l j.Model.Tables.l j.strict.len x):=by
 unfold KM AZ
 rw[qh (f:=F1 j x) (fun k s=>s=(iV Change.Cell x.Delta.l k,(k:Int))) (uI j.strict.len x.Delta.l) x.Delta.l (fun k c s hx a7 _=>by
  subst a7;have aH:=ep hx
  have ae:F1 j x (iV Change.Cell x.Delta.l k,(k:Int))=bif uI j.strict.len x.Delta.l k c then some (.next (c.Cell,aN ((k:Int)+1)))else some (.out (.ret ())):=by
   simp only[F1,eL aH,cond_true,cX,hx,aK,Mv c.Add 1000000000 (by omega)];unfold uI;cases decide (c.Cell<=iV Change.Cell x.Delta.l k)with
   |true=>rfl
   |false=>
    cases decide (c.Cell>=j.strict.len)with
    |true=>rfl
    |false=>
     cases c.Add==0 with
     |true=>rfl
     |false=>cases nr c.Add 1000000000<;>rfl
  rw[ae];constructor
  ·intro aZ
   rw[aZ,ef (by unfold bg at lW;omega)];exact⟨_,rfl,by rw[AP Change.Cell hx]⟩
  ·intro aZ;rw[aZ];rfl) (fun s a7=>by subst a7;simp only[F1,fj,cond_false]) (s:=(-1,0)) rfl]
 cases allI (uI j.strict.len x.Delta.l) x.Delta.l with
 |false=>rfl
 |true=>
  simp only[cond_true,aK,dC]
  rw[qh (f:=F2 j x) (fun k s=>s=(iV ko.Cell x.eQ.l k,(k:Int))) (uJ j.Model.aL.l j.Model.Tables.l x.eQ.l) x.eQ.l (fun k c s hx a7 _=>by
   subst a7;have aH:=ep hx
   have ae:F2 j x (iV ko.Cell x.eQ.l k,(k:Int))=bif uJ j.Model.aL.l j.Model.Tables.l x.eQ.l k c then some (.next (c.Cell,aN ((k:Int)+1)))else some (.out (.ret ())):=by
    simp only[F2,eL aH,cond_true,cX,hx,aK,at0 j c h1 h2 hc af];unfold uJ;cases decide (c.Cell<=iV ko.Cell x.eQ.l k)with
    |true=>rfl
    |false=>cases Hy j.Model.aL.l j.Model.Tables.l c<;>rfl
   rw[ae];constructor
   ·intro aZ
    rw[aZ,ef (by unfold bg at a6;omega)];exact⟨_,rfl,by rw[AP ko.Cell hx]⟩
   ·intro aZ;rw[aZ];rfl) (fun s a7=>by subst a7;simp only[F2,fj,cond_false]) (s:=(-1,0)) rfl]
  cases allI (uJ j.Model.aL.l j.Model.Tables.l x.eQ.l) x.eQ.l with
  |false=>rfl
  |true=>
   simp only[cond_true,aK,dC]
   rw[at1 x.de fo (f:=fun z0=>KL j z0) (p:=fun r=>!qi j.strict.len r) (fun r hr=>by
    unfold KL;rw[aeg j r (aa r hr)];rfl)]
   have ag:decide (x.de.len<=8)=decide (x.de.l.length<=8):=A0 x.de 8;have e2:decide (x.eQ.len<=32)=decide (x.eQ.l.length<=32):=A0 x.eQ 32;rw[ag,e2,oM];cases decide (x.de.l.length<=8)with
   |false=>rfl
   |true=>cases decide (x.eQ.l.length<=32)<;>rfl
theorem at3 (m:Model)(x:c7)(h1:bg m.aL.l)(h2:bg m.Tables.l)(hc:∀t∈m.Tables.l,bg t.ba.l)(hZ:∀t∈m.Tables.l,nR t.Name=some (kP t.Name))(af:il m.aL.l m.Tables.l=true)
  (lW:bg x.Delta.l) (a6:bg x.eQ.l) (fo:bg x.de.l) (aa:∀r∈x.de.l,bg r.cd.l):
  La m x=some (AZ m.aL.l m.Tables.l (im m.aL.l m.Tables.l true).length x):=by
 obtain⟨y,mq,el⟩:=aeo m h1 h2 hc hZ af;unfold La AZ;rw[mq];simp only[aK];rw[<-el];have hn:y.len=(y.l.length:Int):=rfl
 rw[qh (f:=GD x y) (fun k s=>s=(k:Int)) (uI y.l.length x.Delta.l) x.Delta.l (fun k c s hx a7 hp=>by
  subst a7;have aH:=ep hx
  have jq:-1<=iV Change.Cell x.Delta.l k:=Mn fun j z hj aI=>by
   have:=hp j z hj aI;unfold uI at this;simp only[ca,mb,decide_eq_false_iff_not]at this;omega
  have ae:GD x y (k:Int)=bif uI y.l.length x.Delta.l k c then some (.next (aN ((k:Int)+1)))else some (.out (.ret ())):=by
   simp only[GD,eL aH,cond_true,cX,hx,aK,Mw c.Add 1000000000 (by omega),hn];unfold uI;by_cases h0:c.Cell<0
   ·have:decide (c.Cell<=iV Change.Cell x.Delta.l k)=true:=by simp;omega
    simp[h0,this]
   ·have fM:decide (c.Cell<0)=false:=by simpa using h0
    rw[fM];by_cases h1:c.Cell>=(y.l.length:Int)
    ·have q1:decide (c.Cell>=(y.l.length:Int))=true:=by simpa using h1
     rw[q1];simp
    ·have q1:decide (c.Cell>=(y.l.length:Int))=false:=by simpa using h1
     rw[q1];simp only[cond_false];cases k with
     |zero=>
      have:decide (c.Cell<=iV Change.Cell x.Delta.l 0)=false:=by rw[decide_eq_false_iff_not];show ¬(c.Cell<=-1);omega
      rw[this];simp only[show decide (((0:Nat):Int)>0)=false from rfl,cond_false];cases c.Add==0 with
      |true=>rfl
      |false=>cases nr c.Add 1000000000<;>rfl
     |succ k=>
      have ah:k<x.Delta.l.length:=by omega
      have aI:x.Delta.l[k]? =some x.Delta.l[k]:=by simp[ah]
      have th:decide ((((k+1:Nat)):Int)>0)=true:=decide_eq_true (by omega);have hw:aN (((k+1:Nat):Int)-1)=(k:Int):=Du (by unfold bg at lW;omega);rw[th,hw,AP Change.Cell aI];simp only[cond_true,cX,aI,aK];have:decide (x.Delta.l[k].Cell>=c.Cell)=decide (c.Cell<=x.Delta.l[k].Cell):=rfl;rw[this];cases decide (c.Cell<=x.Delta.l[k].Cell)with
      |true=>rfl
      |false=>
       cases c.Add==0 with
       |true=>rfl
       |false=>cases nr c.Add 1000000000<;>rfl
  rw[ae];constructor
  ·intro aZ
   rw[aZ,ef (by unfold bg at lW;omega)];exact⟨_,rfl,rfl⟩
  ·intro aZ;rw[aZ];rfl) (fun s a7=>by subst a7;simp only[GD,fj,cond_false]) (s:=0) rfl]
 cases allI (uI y.l.length x.Delta.l) x.Delta.l with
 |false=>rfl
 |true=>
  simp only[cond_true,aK,dC]
  rw[lE (f:=K8 x y) x.de.l fo (fun r=>!qi y.l.length r) (fun k r hr=>by
   simp only[K8,eL (ep hr),cond_true,cX,hr,aK,hn,aeh r (y.l.length:Int) (aa r (e0 hr))];cases qi (y.l.length:Int) r<;>rfl) (by simp only[K8,fj,cond_false])]
  rw[oM];cases hA:x.de.l.any (fun r=>!qi (y.l.length:Int) r)with
  |true=>simp
  |false=>
   simp only[cond_false,aK,mU,u0]
   rw[qh (f:=GF m x) (fun k s=>s=(k:Int)) (uJ m.aL.l m.Tables.l x.eQ.l) x.eQ.l (fun k u s hx a7 hp=>by
    subst a7;have aH:=ep hx
    have jq:-1<=iV ko.Cell x.eQ.l k:=Mn fun j z hj aI=>by
     have:=hp j z hj aI;unfold uJ at this;simp only[ca,mb,decide_eq_false_iff_not]at this;omega
    obtain⟨r,ag,iT,SR⟩:=aeB m.aL m.Tables false u.Cell h1 h2 hc hZ
    have ae:GF m x (k:Int)=bif uJ m.aL.l m.Tables.l x.eQ.l k u then some (.next (aN ((k:Int)+1)))else some (.out (.ret ())):=by
     simp only[GF,eL aH,cond_true,cX,hx,aK,ag];unfold uJ Hy;by_cases h0:u.Cell<0
     ·have hd:decide (u.Cell<0)=true:=by simpa using h0
      rw[hd,iT (.inr (.inl h0))];simp
     ·have hd:decide (u.Cell<0)=false:=by simpa using h0
      rw[hd];simp only[cond_false];cases hi:m.Tables.l.findIdx? (ku m.aL.l false u.Cell)with
      |none=>rw[iT (.inr (.inr hi))];simp
      |some i=>
       obtain⟨t,ht⟩:=MA hi;obtain⟨al,a2,-⟩:=SR i t af (by omega) hi ht
       have at4:(bif (decide ((k:Int)>0))then((aP x.eQ.l (aN ((k:Int)-1))).bind fun F6=>some (decide (F6.Cell>=u.Cell)))else some false:Option Bool)=some (decide (u.Cell<=iV ko.Cell x.eQ.l k)):=by
        cases k with
        |zero=>
         have:decide (u.Cell<=iV ko.Cell x.eQ.l 0)=false:=by rw[decide_eq_false_iff_not];show ¬(u.Cell<=-1);omega
         rw[this];rfl
        |succ k=>
         have ah:k<x.eQ.l.length:=by omega
         have aI:x.eQ.l[k]? =some x.eQ.l[k]:=by simp[ah]
         have th:decide ((((k+1:Nat)):Int)>0)=true:=decide_eq_true (by omega);have hw:aN (((k+1:Nat):Int)-1)=(k:Int):=Du (by unfold bg at a6;omega);rw[th,hw,AP ko.Cell aI];simp only[cond_true,cX,aI,aK]
       rw[al,a2];simp only[cond_true];rw[at4];simp only[aK,cX,ht];cases decide (u.Cell<=iV ko.Cell x.eQ.l k)with
       |true=>rfl
       |false=>
        have rP:K7 t.Kind=some (Mz t):=rfl;simp only[cond_false,rP,aK,mU,dC];unfold SQ;cases Mz t with
        |true=>
         simp only[cond_true,bne];cases u.Kind==0<;>cases u.Kind==1<;>cases u.Value==0<;>rfl
        |false=>
         simp only[cond_false,bne,aK];cases u.Kind==2 with
         |false=>rfl
         |true=>
          have dQ:decide (u.Value<t.Range.fh)=!decide (u.Value>=t.Range.fh):=by by_cases q:u.Value<t.Range.fh<;>simp[q]<;>omega
          have fY:decide (u.Value>t.Range.fi)=!decide (u.Value<=t.Range.fi):=by by_cases q:u.Value<=t.Range.fi<;>simp[q]<;>omega
          rw[dQ,fY];cases decide (u.Value>=t.Range.fh)<;>cases decide (u.Value<=t.Range.fi)<;>rfl
    rw[ae];constructor
    ·intro aZ
     rw[aZ,ef (by unfold bg at a6;omega)];exact⟨_,rfl,rfl⟩
    ·intro aZ;rw[aZ];rfl) (fun s a7=>by subst a7;simp only[GF,fj,cond_false]) (s:=0) rfl]
   have ag:decide (x.de.len<=8)=decide (x.de.l.length<=8):=A0 x.de 8;have e2:decide (x.eQ.len<=32)=decide (x.eQ.l.length<=32):=A0 x.eQ 32;rw[ag,e2];cases allI (uJ m.aL.l m.Tables.l x.eQ.l) x.eQ.l<;>rfl
end
end Go.Abs.bZ
namespace Go.Abs.bZ
open Go Go.Abs
noncomputable section
theorem qj (a b:Int):decide (a<b)=!decide (a>=b):=by
 by_cases q:a<b
 ·rw[decide_eq_true q,decide_eq_false (by omega)];rfl
 ·rw[decide_eq_false q,decide_eq_true (by omega)];rfl
theorem aeC (a b:Int):decide (a>b)=!decide (a<=b):=by
 by_cases q:a>b
 ·rw[decide_eq_true q,decide_eq_false (by omega)];rfl
 ·rw[decide_eq_false q,decide_eq_true (by omega)];rfl
theorem kx{α:Type}(x:ak α)(n:Nat):decide (x.len>(n:Int))=!decide (x.l.length<=n):=by
 rw[aeC];congr 1;exact decide_eq_decide.2 (by rw[dy];omega)
def yc (n:Nat)(s:Int):Bool:=decide (s>=-1)&&decide (s<n)
def mR (n:Nat)(o:cV):Bool:=decide (o.aL.l.length<=3)&&o.aL.l.all (yc n)
def yd (n:Nat)(ops:List cV):Bool:=ops.all (mR n)&&(decide (ops.length<=8)&&wV (ops.map cV.Name))
theorem at5 (j:eg)(h:j.Model.Operations.l.length<=100000)(aD:∀o∈j.Model.Operations.l,bg o.aL.l):KG j=some (yd j.Model.aL.l.length j.Model.Operations.l):=by
 unfold KG yd
 obtain⟨o,ag,e2⟩:=x7 (f:=FV j) (fun k st=>∃a:ak aW,st=((k:Int),a)/\a.l=(j.Model.Operations.l.take k).map cV.Name/\(j.Model.Operations.l.take k).all (mR j.Model.aL.l.length)=true)
  (fun o=>match o with
    | .go a=>j.Model.Operations.l.all (mR j.Model.aL.l.length)=true/\a.l=j.Model.Operations.l.map cV.Name
    | .ret _=>j.Model.Operations.l.all (mR j.Model.aL.l.length)=false) j.Model.Operations.l (fun k o st hx aa=>by
    obtain⟨a,rfl,ao,eD⟩:=aa;have aH:=ep hx;have dG:=e0 hx;have kl:a.l.length<=100000:=by rw[ao,jn,mc];omega
    obtain⟨y,mq,ta⟩:=Dt (uE:=16) (x:=a) (y:=ak.mk [o.Name]) (by omega) (by show a.l.length+1<=_;omega)
    have oq:=SC o.aL (aD o dG) (f:=fun z0=>KF j z0) (p:=fun s=>!yc j.Model.aL.l.length s) (fun s hs=>by
     unfold KF yc;rw[dy,qj,show decide (s>=(j.Model.aL.l.length:Int))=!decide (s<(j.Model.aL.l.length:Int))from by rw[qj];simp];cases decide (s>=-1)<;>cases decide (s<(j.Model.aL.l.length:Int))<;>rfl)
    have ae:FV j ((k:Int),a)=bif mR j.Model.aL.l.length o then some (.next ((aN ((k:Int)+1)),y))else some (.out (.ret ())):=by
     simp only[FV,eL aH,cond_true,cX,hx,aK,mq,oq];rw[show decide (o.aL.len>3)=!decide (o.aL.l.length<=3)from kx o.aL 3];unfold mR;rw[oM];cases decide (o.aL.l.length<=3)with
     |false=>rfl
     |true=>cases o.aL.l.any (fun s=>!yc j.Model.aL.l.length s)<;>rfl
    rw[ae];cases c9:mR j.Model.aL.l.length o with
    |true=>
     left;refine⟨_,rfl,y,by rw[ef (by omega)],?_,?_⟩
     ·rw[ta,ao,tv,hx];simp[ak.l]
     ·rw[tv,hx];simp[List.all_append,c9];simpa using eD
    |false=>
     refine .inr ⟨.ret (),rfl,?_⟩;show List.all _ _=false;rw[List.all_eq_false];exact⟨o,dG,by rw[c9];simp⟩) (fun st aa=>by
    obtain⟨a,rfl,ao,eD⟩:=aa;rw[Bh]at ao eD;exact⟨.go a,by simp only[FV,fj,cond_false],eD,ao⟩) (s:=(0,.nil)) ⟨.nil,rfl,rfl,rfl⟩
 rw[ag];simp only[aK];cases o with
 |ret u=>simp only at e2;rw[e2];rfl
 |go a=>
  obtain⟨q1,aT⟩:=e2;have kl:a.l.length=j.Model.Operations.l.length:=by rw[aT,jn]
  simp only[];rw[q1,aei a (by unfold bg;omega),aT];simp only[aK,dC];rw[show decide (a.len<=8)=decide (a.l.length<=8)from A0 a 8,kl];cases decide (j.Model.Operations.l.length<=8)<;>rfl
def mS:List Int->List Int->Bool
 |[],[]=>false
 |[],_::_=>true
 | _::_,[]=>false
 |x::r,y::t=>bif x==y then mS r t else decide (x<y)
theorem aeD (l:List Int):mS [] l=decide (0<l.length):=by cases l<;>simp[mS]
theorem aeE (l:List Int):mS l []=false:=by cases l<;>rfl
theorem aeF{a b:List Int}{k:Nat}{x y:Int}(hx:a[k]? =some x)(hy:b[k]? =some y):mS (a.drop k) (b.drop k)=bif x==y then mS (a.drop (k+1)) (b.drop (k+1))else decide (x<y):=by
 obtain⟨h1,ag⟩:=fF.1 hx;obtain⟨h2,e2⟩:=fF.1 hy;rw[qm h1,qm h2,ag,e2];rfl
theorem at6 (x y:Int):KI x y=some (if x<y then -1 else if x>y then 1 else 0):=by
 unfold KI KH;simp only[bne_self_eq_false,aK,cond_false];by_cases h:x<y
 ·simp[h]
 ·by_cases h2:x>y<;>simp[h,h2]
theorem at7 (a b:ak Int)(h:bg a.l):∃c,FW a b=some c/\decide (c>=0)=!mS a.l b.l:=by
 unfold FW
 obtain⟨o,ag,e2⟩:=x7 (f:=CI a b) (fun k st=>st=(k:Int)/\k<=b.l.length/\mS a.l b.l=mS (a.l.drop k) (b.l.drop k))
  (fun o=>match o with
    | .go _=>mS a.l b.l=decide (a.len<b.len)
    | .ret c=>decide (c>=0)=!mS a.l b.l) a.l (fun k x st hx aa=>by
    obtain⟨rfl,ah,lv⟩:=aa;have aH:=ep hx;by_cases Jw:k<b.l.length
    ·have hy:b.l[k]? =some b.l[k]:=by simp[Jw]
     have hd:decide ((k:Int)>=b.len)=false:=by rw[dy];simp;omega
     have ae:CI a b (k:Int)=(bif ((if x<b.l[k]then -1 else if x>b.l[k]then 1 else 0:Int) != 0)then some (.out (.ret (if x<b.l[k]then -1 else if x>b.l[k]then 1 else 0)))else some (.next (aN ((k:Int)+1)))):=by
      simp only[CI,eL aH,cond_true,cX,hx,aK,hd,cond_false,hy,at6]
     rw[ae];rw[aeF hx hy]at lv;by_cases Eu:x=b.l[k]
     ·left
      have q:(x==b.l[k])=true:=by simpa using Eu
      rw[q]at lv;refine⟨((k+1:Nat):Int),?_,rfl,by omega,lv⟩;rw[<-Eu];simp only[Int.lt_irrefl,if_false,gt_iff_lt];rw[ef (by unfold bg at h;omega)];rfl
     ·right
      have q:(x==b.l[k])=false:=by simpa using Eu
      rw[q]at lv;simp only[cond_false]at lv;by_cases hl:x<b.l[k]
      ·refine⟨.ret (-1),by rw[if_pos hl];rfl,?_⟩
       show decide ((-1:Int)>=0)=_;rw[lv,decide_eq_true hl];rfl
      ·have bx:x>b.l[k]:=by omega
       refine⟨.ret 1,by rw[if_neg hl,if_pos bx];rfl,?_⟩;show decide ((1:Int)>=0)=_;rw[lv,decide_eq_false hl];rfl
    ·right
     have hd:decide ((k:Int)>=b.len)=true:=by rw[dy];simp;omega
     refine⟨.ret 1,by simp only[CI,eL aH,cond_true,cX,hx,aK,hd],?_⟩;show decide ((1:Int)>=0)=_;rw[lv,uV (Nat.le_of_not_lt Jw),aeE];rfl) (fun st aa=>by
    obtain⟨rfl,ah,lv⟩:=aa;refine⟨.go (),by simp only[CI,fj,cond_false],?_⟩;show _=_;rw[lv,uV (aM _),aeD,pD];exact decide_eq_decide.2 (by rw[dy,dy];omega)) (s:=0) ⟨rfl,by omega,rfl⟩
 rw[ag];simp only[aK];cases o with
 |ret c=>exact⟨c,rfl,e2⟩
 |go u=>
  simp only at e2⊢;rw[e2];cases decide (a.len<b.len)with
  |true=>exact⟨-1,rfl,rfl⟩
  |false=>exact⟨0,rfl,rfl⟩
theorem aua (a b:ak Int)(h:bg a.l):Gy a b=some (mS a.l b.l):=by
 unfold Gy;have ss:(a.l.zip b.l).length=min a.l.length b.l.length:=List.length_zip
 obtain⟨o,ag,e2⟩:=x7 (f:=Gx a b) (fun k st=>st=(k:Int)/\mS a.l b.l=mS (a.l.drop k) (b.l.drop k))
  (fun o=>match o with
    | .go _=>mS a.l b.l=decide (a.len<b.len)
    | .ret c=>c=mS a.l b.l) (a.l.zip b.l) (fun k p st hx aa=>by
    obtain⟨rfl,lv⟩:=aa;have aH:=ep hx;rw[ss]at aH;obtain⟨uw,aeG⟩:=Bc.1 hx;have d1:decide ((k:Int)<a.len)=true:=eL (by omega);have d2:decide ((k:Int)<b.len)=true:=eL (by omega);rw[aeF uw aeG]at lv
    have ae:Gx a b (k:Int)=bif p.1==p.2 then some (.next (aN ((k:Int)+1)))else some (.out (.ret (decide (p.1<p.2)))):=by
     simp only[Gx,d1,d2,xd,cond_true,cX,uw,aeG,aK,bne];cases p.1==p.2<;>rfl
    rw[ae];cases q:p.1==p.2 with
    |true=>
     rw[q]at lv;exact .inl ⟨_,rfl,ef (by unfold bg at h;omega),lv⟩
    |false=>
     rw[q]at lv;exact .inr ⟨.ret (decide (p.1<p.2)),rfl,lv.symm⟩) (fun st aa=>by
    obtain⟨rfl,lv⟩:=aa;rw[ss]at lv⊢
    have hd:(decide (((min a.l.length b.l.length:Nat):Int)<a.len)&&decide (((min a.l.length b.l.length:Nat):Int)<b.len))=false:=by
     rw[dy,dy];rcases Nat.le_total a.l.length b.l.length with q|q
     ·rw[n6 q];simp
     ·rw[tw q];simp
    refine⟨.go (),by simp only[Gx,hd,cond_false],?_⟩;show _=_;rw[lv];rcases Nat.le_total a.l.length b.l.length with q|q
    ·rw[n6 q,uV (aM _),aeD,pD]
     exact decide_eq_decide.2 (by rw[dy,dy];omega)
    ·rw[tw q,(uV (aM _):b.l.drop b.l.length=[]),aeE]
     exact(decide_eq_false (by rw[dy,dy];omega)).symm) (s:=0) ⟨rfl,rfl⟩
 rw[ag];simp only[aK];cases o with
 |ret c=>simp only at e2;rw[e2]
 |go u=>simp only at e2;rw[e2]
end
end Go.Abs.bZ
