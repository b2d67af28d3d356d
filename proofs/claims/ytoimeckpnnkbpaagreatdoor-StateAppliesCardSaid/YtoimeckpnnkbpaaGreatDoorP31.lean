/- Texts of this claim, joined and written short by a program. -/
import Derived.Test.YtoimeckpnnkbpaaGreatDoorP30
import Derived.Test.YtoimeckpnnkbpaaGreatDoorP00
set_option linter.unusedVariables false
set_option linter.unusedSimpArgs false
set_option linter.unusedSectionVars false
namespace Go.Abs.hk
open Go Go.Abs
noncomputable section
def tN (n m:Int):Bool:=decide (n>=-m)&&decide (n<=m)
theorem JG (n m:Int)(h:0<=m/\m<=1000000000):y1 n m=some (tN n m):=by
 unfold y1 tN;rw[iN (by omega) (by omega)];simp
theorem ayj (n m:Int)(h:0<=m/\m<=1000000000):au9 n m=some (tN n m):=by
 unfold au9 tN;rw[iN (by omega) (by omega)];simp
def E8 (n:Int)(xs:List Term)(k:Nat)(t:Term):Bool:=!(decide (t.Cell<=pg Term.Cell xs k))&&(!(decide (t.Cell>=n))&&(!(t.pT==0)&&tN t.pT 1000))
def BO (n:Int)(r:Row):Bool:=allI (E8 n r.eT.l) r.eT.l&&tN r.q3 1000000000
theorem k8{α:Type}{x:ak α}{k:Nat}(h:k<x.l.length):decide ((k:Int)<x.len)=true:=by rw[gL];simp;exact h
theorem mw{α:Type}{x:ak α}:decide ((x.l.length:Int)<x.len)=false:=by rw[gL];simp
theorem fN{k:Nat}(h:k<4611686018427387904):bJ ((k:Int)+1)=((k+1:Nat):Int):=by rw[iN (by omega) (by omega)];rfl
theorem ame{k:Nat}(h:k<4611686018427387904):bJ (((k+1:Nat):Int)-1)=(k:Int):=by
 rw[iN (by omega) (by omega)];omega
theorem kl{α:Type}{l:List α}{k:Nat}{x:α}(h:l[k]? =some x):k<l.length:=(pY.1 h).1
theorem YS (j:dN)(r:Row)(h:cm r.eT.l):D2 j r=some (BO j.strict.len r):=by
 unfold D2
 rw[zy (f:=D1 j r) (fun k s=>s=(pg Term.Cell r.eT.l k,(k:Int))) (E8 j.strict.len r.eT.l) r.eT.l (fun k x s hx aW _=>by
  subst aW;have aX:=kl hx
  have ab:D1 j r (pg Term.Cell r.eT.l k,(k:Int))=bif E8 j.strict.len r.eT.l k x then some (.next (x.Cell,bJ ((k:Int)+1)))else some (.out (.ret ())):=by
   simp only[D1,k8 aX,cond_true,fP,hx,cg,JG x.pT 1000 (by omega)];unfold E8;cases decide (x.Cell<=pg Term.Cell r.eT.l k)with
   |true=>rfl
   |false=>
    cases decide (x.Cell>=j.strict.len)with
    |true=>rfl
    |false=>
     cases x.pT==0 with
     |true=>rfl
     |false=>cases tN x.pT 1000<;>rfl
  rw[ab];constructor
  ·intro bx
   rw[bx,fN (by unfold cm at h;omega)];exact⟨_,rfl,by rw[Po Term.Cell hx]⟩
  ·intro bx;rw[bx];rfl) (fun s aW=>by subst aW;simp only[D1,mw,cond_false]) (s:=(-1,0)) rfl]
 unfold BO;cases allI (E8 j.strict.len r.eT.l) r.eT.l with
 |false=>rfl
 |true=>
  simp only[cond_true,cg,fI];rw[JG _ _ (by omega)];rfl
theorem aD3 (r:Row)(n:Int)(h:cm r.eT.l):awH r n=some (BO n r):=by
 unfold awH
 rw[zy (f:=awG r n) (fun k s=>s=(k:Int)) (E8 n r.eT.l) r.eT.l (fun k x s hx aW hp=>by
  subst aW;have aX:=kl hx
  have jZ:-1<=pg Term.Cell r.eT.l k:=ayg fun j y hj hy=>by
   have:=hp j y hj hy;unfold E8 at this;simp only[b8,nV,decide_eq_false_iff_not]at this;omega
  have ab:awG r n (k:Int)=bif E8 n r.eT.l k x then some (.next (bJ ((k:Int)+1)))else some (.out (.ret ())):=by
   simp only[awG,k8 aX,cond_true,fP,hx,cg,ayj x.pT 1000 (by omega)];unfold E8;by_cases h0:x.Cell<0
   ·have:decide (x.Cell<=pg Term.Cell r.eT.l k)=true:=by simp;omega
    simp[h0,this]
   ·have gU:decide (x.Cell<0)=false:=by simpa using h0
    rw[gU];by_cases h1:x.Cell>=n
    ·have q1:decide (x.Cell>=n)=true:=by simpa using h1
     rw[q1];simp
    ·have q1:decide (x.Cell>=n)=false:=by simpa using h1
     rw[q1];simp only[cond_false];cases k with
     |zero=>
      have:decide (x.Cell<=pg Term.Cell r.eT.l 0)=false:=by rw[decide_eq_false_iff_not];show ¬(x.Cell<=-1);omega
      rw[this];simp only[show decide (((0:Nat):Int)>0)=false from rfl,cond_false];cases x.pT==0 with
      |true=>rfl
      |false=>cases tN x.pT 1000<;>rfl
     |succ k=>
      have cW:k<r.eT.l.length:=by omega
      have hy:r.eT.l[k]? =some r.eT.l[k]:=by simp[cW]
      have amP:decide ((((k+1:Nat)):Int)>0)=true:=decide_eq_true (by omega);have hw:bJ (((k+1:Nat):Int)-1)=(k:Int):=ame (by unfold cm at h;omega);rw[amP,hw,Po Term.Cell hy];simp only[cond_true,fP,hy,cg];have:decide (r.eT.l[k].Cell>=x.Cell)=decide (x.Cell<=r.eT.l[k].Cell):=rfl;rw[this];cases decide (x.Cell<=r.eT.l[k].Cell)with
      |true=>rfl
      |false=>
       cases x.pT==0 with
       |true=>rfl
       |false=>cases tN x.pT 1000<;>rfl
  rw[ab];constructor
  ·intro bx
   rw[bx,fN (by unfold cm at h;omega)];exact⟨_,rfl,rfl⟩
  ·intro bx;rw[bx];rfl) (fun s aW=>by subst aW;simp only[awG,mw,cond_false]) (s:=0) rfl]
 unfold BO;cases allI (E8 n r.eT.l) r.eT.l with
 |false=>rfl
 |true=>
  simp only[cond_true,cg,fI];rw[ayj _ _ (by omega)];rfl
def BP (xo:List bH)(k:Nat)(x:bH):Bool:=tM x&&!((xo.take k).any fun y=>y==x)
def BQ (xo:List bH):Bool:=allI (BP xo) xo
theorem amf{xo:List bH}{k:Nat}{x:bH}(h:xo[k]? =some x)(n:bH):(xo.take (k+1)).any (fun y=>y==n)=((xo.take k).any (fun y=>y==n)||x==n):=by
 rw[zS,h];simp
theorem YT (a:ak bH)(h:cm a.l):DY a=some (BQ a.l):=by
 unfold DY
 rw[zy (f:=DX a) (fun k s=>∃m,s=((k:Int),m)/\∀n,(iH m n).getD false=(a.l.take k).any fun y=>y==n) (BP a.l) a.l (fun k x s hx aW _=>by
  obtain⟨m,rfl,hm⟩:=aW;have aX:=kl hx
  have ab:DX a ((k:Int),m)=bif BP a.l k x then some (.next ((bJ ((k:Int)+1)),mg m x true))else some (.out (.ret ())):=by
   simp only[DX,k8 aX,cond_true,fP,hx,cg,YK,hm];unfold BP;cases tM x with
   |false=>rfl
   |true=>cases(a.l.take k).any fun y=>y==x<;>rfl
  rw[ab];constructor
  ·intro bx
   rw[bx,fN (by unfold cm at h;omega)];refine⟨_,rfl,_,rfl,fun n=> ?_⟩;rw[Pr,amf hx,<-hm n];cases e:n==x with
   |true=>rw[JD,e];simp
   |false=>rw[JD (a:=x),e];simp
  ·intro bx;rw[bx];rfl) (fun s aW=>by obtain⟨m,rfl,-⟩:=aW;simp only[DX,mw,cond_false]) (s:=(0,[])) ⟨[],rfl,fun n=>rfl⟩]
 unfold BQ;cases allI (BP a.l) a.l<;>rfl
theorem aD4 (a:ak bH)(x:bH)(h:cm a.l):awy a x=some (a.l.any fun y=>y==x):=by
 unfold awy
 rw[xn (f:=axz a x) a.l h (fun y=>y==x) (fun k y hy=>by
  simp only[axz,k8 (kl hy),cond_true,fP,hy,cg];cases y==x<;>rfl) (by simp only[axz,mw,cond_false])]
 cases a.l.any fun y=>y==x<;>rfl
theorem aJB{α:Type}{a:ak α}{k:Nat}(cW:k<a.l.length):∃z,o8 a 0 (k:Int)=some z/\z.l=a.l.take k:=by
 cases a with
 |nil=>simp[ak.l]at cW
 |emp=>simp[ak.l]at cW
 |mk l=>
  simp only[ak.l]at cW;refine⟨.mk (l.take k),?_,rfl⟩;simp only[o8];rw[if_pos (by omega)];simp
theorem aD5 (a:ak bH)(h:cm a.l)(wN:∀x∈a.l,ajb x=some (tM x)):awE a=some (BQ a.l):=by
 unfold awE
 rw[zy (f:=awD a) (fun k s=>s=(k:Int)) (BP a.l) a.l (fun k x s hx aW _=>by
  subst aW;have aX:=kl hx;obtain⟨z,Ar,el⟩:=aJB aX;have aT:cm z.l:=by rw[el];unfold cm at h⊢; rw[sM];omega
  have ab:awD a (k:Int)=bif BP a.l k x then some (.next (bJ ((k:Int)+1)))else some (.out (.ret ())):=by
   simp only[awD,k8 aX,cond_true,fP,hx,cg,wN x (hz hx),Ar,aD4 z x aT,el];unfold BP;cases tM x with
   |false=>rfl
   |true=>cases(a.l.take k).any fun y=>y==x<;>rfl
  rw[ab];constructor
  ·intro bx
   rw[bx,fN (by unfold cm at h;omega)];exact⟨_,rfl,rfl⟩
  ·intro bx;rw[bx];rfl) (fun s aW=>by subst aW;simp only[awD,mw,cond_false]) (s:=0) rfl]
 unfold BQ;cases allI (BP a.l) a.l<;>rfl
end
end Go.Abs.hk
namespace Go.Abs.hk
open Go Go.Abs
noncomputable section
def JH (a b:ak Term):Bool:=(Bi a b).getD false
theorem amg (a b:ak Term)(h:cm a.l):Bi a b=some (JH a b):=by
 have:∃r,Bi a b=some r:=by
  unfold Bi;cases hl:a.len != b.len with
  |true=>exact⟨false,rfl⟩
  |false=>
   have nu:a.l.length=b.l.length:=by
    rw[gL,gL]at hl;simp at hl;omega
   obtain⟨o,af,-⟩:=E3 (f:=H7 a b) (fun k s=>s=(k:Int)) (fun _=>True) a.l (fun k x s hx aW=>by
    subst aW;have aX:=kl hx;have hy:b.l[k]? =some b.l[k]:=by simp[<-nu,aX]
    simp only[H7,k8 aX,cond_true,fP,hx,hy,cg];cases(x.Cell==b.l[k].Cell&&(x.pT==b.l[k].pT&&true))with
    |true=>exact .inl ⟨_,rfl,fN (by unfold cm at h;omega)⟩
    |false=>exact .inr ⟨_,rfl,trivial⟩) (fun s aW=>by subst aW;exact⟨.go (),by simp only[H7,mw,cond_false],trivial⟩) (s:=0) rfl
   simp only[cond_false,af,cg];cases o<;>exact⟨_,rfl⟩
 obtain⟨r,e⟩:=this;unfold JH;rw[e];rfl
theorem aJC (a b:ak Term)(h:cm a.l):ayR a b=some (JH a b):=amg a b h
def BR (r:Row)(c f b:Int):Bool:=(r.q3==b)&&JH r.eT (ak.mk [Term.mk c f])
theorem amh (r:Row)(c f b:Int)(h:cm r.eT.l):H8 r c f b=some (BR r c f b):=by
 unfold H8 BR;rw[amg _ _ h];simp only[cg];cases JH r.eT (ak.mk [Term.mk c f])<;>cases r.q3==b<;>rfl
theorem aD6 (r:Row)(c f b:Int)(h:cm r.eT.l):awF r (Row.mk (ak.mk [Term.mk c f]) b)=some (BR r c f b):=by
 unfold awF BR;rw[aJC _ _ h];cases r.q3==b<;>rfl
def JI (s:List Int)(c:Constraint)(t:Table):Bool:=(t.Kind==0)&&((t.bP.l.length==2)&&((t.bP.l.getD 0 0==t.bP.l.getD 1 0)&&((t.dG==c.dG)&&(hP s (t.bP.l.getD 0 0)==c.w1))))
def JJ (s:List Int)(ts:List Table)(c:Constraint):Bool:=(c.Row.eT.l.length==0)&&((c.Row.q3==0)&&ts.any (JI s c))
theorem ami{l:List Int}(h:l.length=2):∃a b,l=[a,b]:=by
 match l,h with
 |[a,b],_=>exact⟨a,b,rfl⟩
theorem Pw{α:Type}(x:ak α)(n:Nat):((x.len:Int)==(n:Int))=(x.l.length==n):=by
 rw[gL];cases h:x.l.length==n with
 |true=>have:x.l.length=n:=by simpa using h
        rw[this];simp
 |false=>have:x.l.length≠n:=by simpa using h
         simp;omega
theorem amj{s:ak Int}(c:Constraint)(t:Table)(hc:oE s.l.length t.bP.l=true):
  (((bif (t.Kind==0)then(bif (t.bP.len==2)then((bQ t.bP.l 0).bind fun vt=>((bQ t.bP.l 1).bind fun w3=>(bif (vt==w3)then(bif (t.dG==c.dG)then((bQ t.bP.l 0).bind fun D3=>((bQ s.l D3).bind fun hh=>some (hh==c.w1)))else some false)else some false)))else some false)else some false):Option (Bool)))=some (JI s.l c t):=by
 unfold JI;cases t.Kind==0 with
 |false=>rfl
 |true=>
  have:(t.bP.len==2)=(t.bP.l.length==2):=Pw t.bP 2;rw[this];cases h2:t.bP.l.length==2 with
  |false=>rfl
  |true=>
   obtain⟨a,b,e⟩:=ami (by simpa using h2);have hi:=(E6 hc).2;rw[e]at hi⊢;have ao:=hi a (by simp);have i0:bQ [a,b] 0=some a:=fP [a,b] 0;have i1:bQ [a,b] 1=some b:=fP [a,b] 1;simp only[i0,i1,cg,Jz ao.1 ao.2,cond_true,fI];simp only[List.getD_cons_zero,List.getD_cons_succ];cases a==b with
   |false=>rfl
   |true=>cases t.dG==c.dG<;>rfl
theorem amk (xs:ak Table)(h:cm xs.l){f:Table->Option Bool}{p:Table->Bool}(ab:∀x∈xs.l,f x=some (p x)):Nu xs f=some (xs.l.any p):=E5 xs h ab
theorem aml (j:dN)(c:Constraint)(h:cm j.Model.Tables.l)(hc:∀t∈j.Model.Tables.l,oE j.Model.bC.l.length t.bP.l=true):H6 j c=some (JJ j.Model.bC.l j.Model.Tables.l c):=by
 unfold H6
 rw[amk j.Model.Tables h (f:=fun z0=>H5 c j z0) (p:=JI j.Model.bC.l c) (fun t ht=>by
  unfold H5;rw[amj c t (hc t ht)];rfl)]
 have e:(c.Row.eT.len==0)=(c.Row.eT.l.length==0):=Pw c.Row.eT 0;rw[e];unfold JJ;cases c.Row.eT.l.length==0 with
 |false=>rfl
 |true=>cases c.Row.q3==0<;>rfl
theorem aJD (m:Model)(c:Constraint)(h:cm m.Tables.l)(hc:∀t∈m.Tables.l,oE m.bC.l.length t.bP.l=true):axJ m c=some (JJ m.bC.l m.Tables.l c):=by
 unfold axJ
 rw[xn (f:=axI m c) m.Tables.l h (JI m.bC.l c) (fun k t ht=>by
  simp only[axI,k8 (kl ht),cond_true,fP,ht,cg];rw[amj c t (hc t (hz ht))];cases JI m.bC.l c t<;>rfl) (by simp only[axI,mw,cond_false])]
 have e:decide (c.Row.eT.len>0)=!(c.Row.eT.l.length==0):=by
  rw[gL];cases h:c.Row.eT.l.length==0 with
  |true=>have:c.Row.eT.l.length=0:=by simpa using h
         rw[this];rfl
  |false=>have:c.Row.eT.l.length≠0:=by simpa using h
          simp;omega
 rw[e];unfold JJ;simp only[bne];cases c.Row.eT.l.length==0 with
 |false=>rfl
 |true=>
  cases c.Row.q3==0 with
  |false=>rfl
  |true=>simp only[hZ,FU,cond_false,cg,fI];cases m.Tables.l.any (JI m.bC.l c)<;>rfl
def YU (rs:List Range)(i:Nat)(c:Constraint):Bool:=match rs[i/2]? with
 |some r=>bif i%2==0 then BR c.Row ((i/2:Nat):Int) (-1) (bJ (0-r.kI))else BR c.Row ((i/2:Nat):Int) 1 r.kJ
 |none=>true
def JK (F:Int)(c:Constraint):Bool:=decide (c.yR>=0)&&decide (c.yR<F)
def ayk (n:Int)(c:Constraint):Bool:=(c.Kind==0)&&((c.dG==0)&&((c.w1==0)&&BO n c.Row))
def E9 (s:List Int)(ts:List Table)(rs:List Range)(F:Int)(i:Nat)(c:Constraint):Bool:=
 JK F c&&((bif c.Kind==0 then(c.dG==0)&&((c.w1==0)&&BO rs.length c.Row)else(c.Kind==1)&&JJ s ts c)&&(bif decide (i/2<rs.length)then(c.Kind==0)&&YU rs i c else true))
def JL (s:List Int)(ts:List Table)(rs:List Range)(F:Int)(cs:List Constraint):Bool:=
 decide (cs.length<=512)&&(decide (2*rs.length<=cs.length)&&allI (E9 s ts rs F) cs)
theorem amm{k:Nat}(h:k<4611686018427387904):bJ ((k:Int).tdiv 2)=((k/2:Nat):Int):=by
 have e:((k:Int).tdiv 2)=((k/2:Nat):Int):=by
  rw[Int.tdiv_eq_ediv_of_nonneg (by omega)];omega
 rw[e,iN (by omega) (by omega)]
theorem amn (k:Nat):(((k:Int).tmod 2)==0)=(k%2==0):=by
 have e:((k:Int).tmod 2)=((k%2:Nat):Int):=by
  rw[Int.tmod_eq_emod_of_nonneg (by omega)];omega
 rw[e];have:k%2=0\/k%2=1:=by omega
 rcases this with h|h<;>rw[h]<;>rfl
theorem amo (j:dN)(h:cm j.Model.fu.l)(hr:j.strict.l.length<=100000)(ht:cm j.Model.Tables.l)(hc:∀t∈j.Model.Tables.l,oE j.Model.bC.l.length t.bP.l=true)(hT:∀c∈j.Model.fu.l,cm c.Row.eT.l):
  H9 j=some (JL j.Model.bC.l j.Model.Tables.l j.strict.l j.Model.fE.len j.Model.fu.l):=by
 unfold H9 JL;have af:decide (j.Model.fu.len>512)=!decide (j.Model.fu.l.length<=512):=by rw[gL];by_cases q:j.Model.fu.l.length<=512<;>simp[q]<;>omega
 have e2:decide (j.Model.fu.len<bJ (2*j.strict.len))=!decide (2*j.strict.l.length<=j.Model.fu.l.length):=by
  rw[gL,gL,iN (by omega) (by omega)];by_cases q:2*j.strict.l.length<=j.Model.fu.l.length<;>simp[q]<;>omega
 rw[af,e2];cases decide (j.Model.fu.l.length<=512)with
 |false=>rfl
 |true=>
  cases decide (2*j.strict.l.length<=j.Model.fu.l.length)with
  |false=>rfl
  |true=>
   simp only[hZ,FU,cond_false,fI]
   rw[zy (f:=D4 j) (fun k s=>s=(k:Int)) (E9 j.Model.bC.l j.Model.Tables.l j.strict.l j.Model.fE.len) j.Model.fu.l (fun k c s hx aW _=>by
    subst aW;have aX:=kl hx;have eB:=hz hx;have cW:k<4611686018427387904:=by unfold cm at h;omega
    have ab:D4 j (k:Int)=bif E9 j.Model.bC.l j.Model.Tables.l j.strict.l j.Model.fE.len k c then some (.next (bJ ((k:Int)+1)))else some (.out (.ret ())):=by
     simp only[D4,k8 aX,cond_true,fP,hx,cg,kg,YS j c.Row (hT c eB),aml j c ht hc,amm cW,amn,amh _ _ _ _ (hT c eB)];unfold E9;show _=bif JK _ c&&_ then _ else _;have amp:(decide (c.yR>=0)&&decide (c.yR<j.Model.fE.len))=JK j.Model.fE.len c:=rfl;rw[amp];cases JK j.Model.fE.len c with
     |false=>rfl
     |true=>
      have hd:decide (((k/2:Nat):Int)<j.strict.len)=decide (k/2<j.strict.l.length):=by
       rw[gL];exact decide_eq_decide.2 (by omega)
      rw[hd];have hlen:j.strict.len=(j.strict.l.length:Int):=rfl;rw[hlen];cases AG:c.Kind==0 with
      |false=>
       simp only[cond_true,cond_false,fI,bne,AG,ue];cases il:c.Kind==1 with
       |false=>simp
       |true=>
        cases JJ j.Model.bC.l j.Model.Tables.l c with
        |false=>rfl
        |true=>
         simp only[hZ,cond_false,cg,fI];cases bc:decide (k/2<j.strict.l.length)with
         |false=>rfl
         |true=>
          have Px:k/2<j.strict.l.length:=by simpa using bc
          have hy:j.strict.l[k/2]? =some j.strict.l[k/2]:=by simp[Px]
          simp only[cond_true,hy,cg,FT,cond_false];cases k%2==0<;>simp
      |true=>
       simp only[cond_true,fI,bne,AG,hZ,cond_false];cases c.dG==0 with
       |false=>simp
       |true=>
        cases c.w1==0 with
        |false=>simp
        |true=>
         cases BO (j.strict.l.length:Int) c.Row with
         |false=>rfl
         |true=>
          simp only[hZ,cond_false,cg,fI];cases bc:decide (k/2<j.strict.l.length)with
          |false=>rfl
          |true=>
           have Px:k/2<j.strict.l.length:=by simpa using bc
           have hy:j.strict.l[k/2]? =some j.strict.l[k/2]:=by simp[Px]
           unfold YU;simp only[cond_true,hy,cg];cases k%2==0 with
           |true=>
            simp only[cond_true,cg];cases BR c.Row ((k/2:Nat):Int) (-1) (bJ (0-j.strict.l[k/2].kI))<;>rfl
           |false=>
            simp only[cond_false,cg];cases BR c.Row ((k/2:Nat):Int) 1 j.strict.l[k/2].kJ<;>rfl
    rw[ab];constructor
    ·intro bx
     rw[bx,fN cW];exact⟨_,rfl,rfl⟩
    ·intro bx;rw[bx];rfl) (fun s aW=>by subst aW;simp only[D4,mw,cond_false]) (s:=0) rfl]
   cases allI (E9 j.Model.bC.l j.Model.Tables.l j.strict.l j.Model.fE.len) j.Model.fu.l<;>rfl
def avE (s:List Int)(ts:List Table)(n:Int)(F:Int)(i:Nat)(c:Constraint):Bool:=
 JK F c&&(ayk n c||(decide ((i:Int)>=2*n)&&((c.Kind==1)&&JJ s ts c)))
def avF (cs:List Constraint)(i:Nat)(r:Range):Bool:=match cs[2*i]?,cs[2*i+1]? with
 |some a,some b=>BR a.Row (i:Int) (-1) (bJ (0-r.kI))&&BR b.Row (i:Int) 1 r.kJ
 | _,_=>false
theorem aJE{s:List Int}{ts:List Table}{rs:List Range}{F:Int}{cs:List Constraint}(h2:2*rs.length<=cs.length):
  (allI (avF cs) rs&&allI (avE s ts rs.length F) cs)=allI (E9 s ts rs F) cs:=by
 rw[zU,b8,E4,E4,E4];constructor
 ·rintro⟨ao,hb⟩ k c hc
  have h1:=hb k c hc;unfold avE ayk at h1;unfold E9;simp only[b8,ko,decide_eq_true_eq]at h1⊢;obtain⟨ab,hp⟩:=h1;refine⟨ab,?_,?_⟩
  ·rcases hp with⟨q1,aS,b1,cL⟩|⟨-,q1,aS⟩
   ·rw[q1];simp[aS,b1,cL]
   ·have:c.Kind=1:=by simpa using q1
    rw[this];simpa using aS
  ·by_cases cW:k/2<rs.length
   ·have hd:decide (k/2<rs.length)=true:=by simpa using cW
    rw[hd];simp only[cond_true,b8];have hr:rs[k/2]? =some rs[k/2]:=by simp[cW]
    have hs:=ao (k/2) rs[k/2] hr;unfold avF at hs;split at hs
    ·rename_i a b af e2
     rw[b8]at hs;refine⟨?_,?_⟩
     ·rcases hp with⟨q1,-⟩|⟨q1,-⟩
      ·exact q1
      ·exfalso;omega
     ·unfold YU
      rw[hr];simp only[];cases hm:k%2==0 with
      |true=>
       have:k%2=0:=by simpa using hm
       have e:2*(k/2)=k:=by omega
       rw[e,hc]at af;cases af;exact hs.1
      |false=>
       have:k%2≠0:=by simpa using hm
       have e:2*(k/2)+1=k:=by omega
       rw[e,hc]at e2;cases e2;exact hs.2
    ·cases hs
   ·have hd:decide (k/2<rs.length)=false:=by simpa using cW
    rw[hd];rfl
 ·intro h
  refine⟨fun i r hr=> ?_,fun k c hc=> ?_⟩
  ·have hi:=kl hr
   have i1:2*i<cs.length:=by omega
   have i2:2*i+1<cs.length:=by omega
   have g1:cs[2*i]? =some cs[2*i]:=by simp[i1]
   have g2:cs[2*i+1]? =some cs[2*i+1]:=by simp[i2]
   have ai:=h (2*i) _ g1;have a2:=h (2*i+1) _ g2;have d1:2*i/2=i:=by omega
   have d2:(2*i+1)/2=i:=by omega
   have m1:(2*i%2==0)=true:=by simp
   have m2:((2*i+1)%2==0)=false:=by
    have:(2*i+1)%2=1:=by omega
    rw[this];rfl
   have hd:decide (i<rs.length)=true:=by simpa using hi
   unfold E9 YU at ai a2;rw[d1,hd,hr,m1]at ai;rw[d2,hd,hr,m2]at a2;simp only[cond_true,cond_false,b8]at ai a2;unfold avF;rw[g1,g2];simp only[b8];exact⟨ai.2.2.2,a2.2.2.2⟩
  ·have a:=h k c hc
   unfold E9 at a;unfold avE ayk;simp only[b8,ko,decide_eq_true_eq]at a⊢;obtain⟨ab,hb,hs⟩:=a;refine⟨ab,?_⟩;cases AG:c.Kind==0 with
   |true=>
    rw[AG]at hb;simp only[cond_true,b8]at hb;exact .inl ⟨rfl,hb.1,hb.2.1,hb.2.2⟩
   |false=>
    right;rw[AG]at hb hs;simp only[cond_false,b8,FT]at hb hs;refine⟨?_,hb.1,hb.2⟩;by_cases cW:k/2<rs.length
    ·have hd:decide (k/2<rs.length)=true:=by simpa using cW
     rw[hd]at hs;cases hs
    ·omega
theorem aD7 (m:Model)(h1:cm m.bC.l)(h2:cm m.Tables.l)(hc:∀t∈m.Tables.l,cm t.bP.l)(wN:∀t∈m.Tables.l,ajb t.Name=some (tM t.Name))(ad:mu m.bC.l m.Tables.l=true):
  ∃x,avz m=some x/\x.l=hQ m.bC.l m.Tables.l true:=by
 obtain⟨x,af,e2⟩:=aD2 m.bC m.Tables true h1 h2 hc wN;unfold avz;rw[ad]at e2;exact⟨x,by rw[af];rfl,e2⟩
theorem amq{s:List Int}{ts:List Table}(ad:mu s ts=true)(b:Bool):(hQ s ts b).length<=2592:=by
 obtain⟨q1,aS,b1,cL⟩:=BM ad;have:=Pv b1 b ts cL;omega
theorem aJF (m:Model)(h1:cm m.bC.l)(h2:cm m.Tables.l)(fS:∀t∈m.Tables.l,cm t.bP.l)(wN:∀t∈m.Tables.l,ajb t.Name=some (tM t.Name))(ad:mu m.bC.l m.Tables.l=true)
  (h:cm m.fu.l) (hT:∀c∈m.fu.l,cm c.Row.eT.l):
  axK m=some (JL m.bC.l m.Tables.l (hQ m.bC.l m.Tables.l true) m.fE.len m.fu.l):=by
 obtain⟨x,ex,el⟩:=aD7 m h1 h2 fS wN ad;have hr:=amq ad true;have rh:∀t∈m.Tables.l,oE m.bC.l.length t.bP.l=true:=fun t ht=>JF ((BM ad).2.2.2 t ht);unfold axK JL;rw[ex];simp only[cg];rw[<-el]at hr⊢;have af:decide (m.fu.len>512)=!decide (m.fu.l.length<=512):=by rw[gL];by_cases q:m.fu.l.length<=512<;>simp[q]<;>omega
 have e2:decide (m.fu.len<bJ (2*x.len))=!decide (2*x.l.length<=m.fu.l.length):=by
  rw[gL,gL,iN (by omega) (by omega)];by_cases q:2*x.l.length<=m.fu.l.length<;>simp[q]<;>omega
 rw[af,e2];cases aNf:decide (m.fu.l.length<=512)with
 |false=>simp
 |true=>
  cases aJG:decide (2*x.l.length<=m.fu.l.length)with
  |false=>rfl
  |true=>
   have hge:2*x.l.length<=m.fu.l.length:=by simpa using aJG
   simp only[hZ,FU,cond_false,fI]
   rw[zy (f:=awI m x) (fun k s=>s=(k:Int)) (avF m.fu.l) x.l (fun k r s hx aW _=>by
    subst aW;have aX:=kl hx;have i1:2*k<m.fu.l.length:=by omega
    have i2:2*k+1<m.fu.l.length:=by omega
    have g1:m.fu.l[2*k]? =some m.fu.l[2*k]:=by simp[i1]
    have g2:m.fu.l[2*k+1]? =some m.fu.l[2*k+1]:=by simp[i2]
    have aH:bJ (2*(k:Int))=((2*k:Nat):Int):=by rw[iN (by omega) (by omega)];omega
    have bG:bJ (((2*k:Nat):Int)+1)=((2*k+1:Nat):Int):=by rw[iN (by omega) (by omega)];omega
    have ab:awI m x (k:Int)=bif avF m.fu.l k r then some (.next (bJ ((k:Int)+1)))else some (.out (.ret ())):=by
     simp only[awI,k8 aX,cond_true,fP,hx,cg,aH,bG,g1,g2,aD6 _ _ _ _ (hT _ (hz g1)),aD6 _ _ _ _ (hT _ (hz g2))];unfold avF;rw[g1,g2];simp only[];cases BR m.fu.l[2*k].Row (k:Int) (-1) (bJ (0-r.kI))with
     |false=>rfl
     |true=>cases BR m.fu.l[2*k+1].Row (k:Int) 1 r.kJ<;>rfl
    rw[ab];constructor
    ·intro bx
     rw[bx,fN (by omega)];exact⟨_,rfl,rfl⟩
    ·intro bx;rw[bx];rfl) (fun s aW=>by subst aW;simp only[awI,mw,cond_false]) (s:=0) rfl]
   rw[<-aJE hge];cases allI (avF m.fu.l) x.l with
   |false=>rfl
   |true=>
    simp only[cond_true,cg,fI]
    rw[zy (f:=awJ m x) (fun k s=>s=(k:Int)) (avE m.bC.l m.Tables.l x.l.length m.fE.len) m.fu.l (fun k c s hx aW _=>by
     subst aW;have aX:=kl hx;have eB:=hz hx;have aH:bJ (2*x.len)=2*(x.l.length:Int):=by rw[gL,iN (by omega) (by omega)]
     have ab:awJ m x (k:Int)=bif avE m.bC.l m.Tables.l x.l.length m.fE.len k c then some (.next (bJ ((k:Int)+1)))else some (.out (.ret ())):=by
      simp only[awJ,k8 aX,cond_true,fP,hx,cg,aD3 c.Row _ (hT c eB),aJD m c h2 rh,aH];unfold avE JK;have hlen:x.len=(x.l.length:Int):=rfl;rw[hlen];have oV:decide (c.yR<0)=!decide (c.yR>=0):=by by_cases q:c.yR<0<;>simp[q]<;>omega
      have rN:decide (c.yR>=m.fE.len)=!decide (c.yR<m.fE.len):=by by_cases q:c.yR<m.fE.len<;>simp[q]<;>omega
      rw[oV,rN];cases decide (c.yR>=0)with
      |false=>rfl
      |true=>
       cases decide (c.yR<m.fE.len)with
       |false=>rfl
       |true=>
        simp only[hZ,FU,cond_false,fI];unfold ayk;cases c.Kind==0<;>cases c.dG==0<;>cases c.w1==0<;>cases BO (x.l.length:Int) c.Row<;>cases decide ((k:Int)>=2*(x.l.length:Int))<;>cases c.Kind==1<;>cases JJ m.bC.l m.Tables.l c<;>rfl
     rw[ab];constructor
     ·intro bx
      rw[bx,fN (by unfold cm at h;omega)];exact⟨_,rfl,rfl⟩
     ·intro bx;rw[bx];rfl) (fun s aW=>by subst aW;simp only[awJ,mw,cond_false]) (s:=0) rfl]
    cases allI (avE m.bC.l m.Tables.l x.l.length m.fE.len) m.fu.l<;>rfl
end
end Go.Abs.hk
namespace Go.Abs.hk
open Go Go.Abs
noncomputable section
def vQ (s:List Int):List Int->Int->List Int
 |[],_=>[]
 |x::r,k=>(k%hP s x)::vQ s r (k/hP s x)
def sz (s:List Int):List Int->Int->Int
 |[],k=>k
 |x::r,k=>sz s r (k/hP s x)
def Fa (s:List Int)(hR:List Int)(k:Int):List Int:=(vQ s hR.reverse k).reverse
theorem YV (s:List Int)(y:Int):∀(l:List Int) (k:Int),sz s (l++[y]) k=sz s l k/hP s y
 |[],k=>rfl
 |x::r,k=>YV s y r _
theorem YW (s:List Int)(y:Int):∀(l:List Int) (k:Int),vQ s (l++[y]) k=vQ s l k++[sz s l k%hP s y]
 |[],k=>rfl
 |x::r,k=>by simp only[jz,vQ,sz];rw[YW s y r]
theorem YX (s:List Int):∀(l:List Int) (k:Int),(vQ s l k).length=l.length
 |[],k=>rfl
 |x::r,k=>by simp only[vQ,ev,YX s r]
theorem YY{s:List Int}(hs:oD s=true):∀(l:List Int) (k:Int),(∀x∈l,0<=x/\x<s.length)->0<=k->0<=sz s l k/\sz s l k<=k
 |[],k,_,h=>⟨h,Int.le_refl _⟩
 |x::r,k,hx,h=>by
  obtain⟨q1,aS⟩:=JA hs (hx x (by simp)).1 (hx x (by simp)).2;have h1:0<=k/hP s x:=Int.ediv_nonneg h (by omega);have h2:k/hP s x<=k:=Int.ediv_le_self _ h;have:=YY hs r (k/hP s x) (fun y hy=>hx y (by simp[hy])) h1;simp only[sz];omega
theorem amr{a b:Int}(ao:0<=a)(hb:1<=b):DC a b=some (a%b):=by
 unfold DC;rw[if_neg (by omega),Int.tmod_eq_emod_of_nonneg ao]
theorem ams{a b:Int}(ao:0<=a)(hb:1<=b)(h:a<=1000000):DB a b=some (a/b):=by
 unfold DB;have h1:0<=a/b:=Int.ediv_nonneg ao (by omega);have h2:a/b<=a:=Int.ediv_le_self _ ao;rw[if_neg (by omega),Int.tdiv_eq_ediv_of_nonneg ao,iN (by omega) (by omega)]
theorem amt{n j:Nat}(hj:j<n)(v:Int)(t:List Int):(List.replicate (n-j) 0++t).set (n-1-j) v=List.replicate (n-(j+1)) 0++(v::t):=by
 have e:n-j=(n-(j+1))+1:=by omega
 have e2:n-1-j=n-(j+1):=by omega
 rw[e,e2,azo,mS,List.set_append_right _ _ (by simp)];simp
theorem amu{s:ak Int}{hR:ak Int}{f:(Int × Int × ak Int)->Option (dM (Int × Int × ak Int) (ak Int))}
  (Fb:∀(k:Int) (i:Nat) (t:ak Int) (x:Int),hR.l[i]? =some x->0<=k->k<=1000000->i<t.l.length->1<=hP s.l x->f (k,(i:Int),t)=some (.next (k/hP s.l x,bJ ((i:Int)-1),o9 t (i:Int) (k%hP s.l x))))
  (oe:∀(k:Int) (t:ak Int),f (k,-1,t)=some (.out t)) (hs:oD s.l=true) (hc:oE s.l.length hR.l=true) {d:Int} (h0:0<=d) (h1:d<=1000000) {z:ak Int} (aT:z.l=List.replicate hR.l.length 0):
  ∃o,c0 f (d,(hR.l.length:Int)-1,z)=some o/\o.l=Fa s.l hR.l d:=by
 obtain⟨q1,aS⟩:=E6 hc;have oW:hR.l.reverse.length=hR.l.length:=List.length_reverse;refine YI (f:=f) (fun j st=>∃t:ak Int,st=(sz s.l (hR.l.reverse.take j) d,(hR.l.length:Int)-1-j,t)/\t.l=List.replicate (hR.l.length-j) 0++(vQ s.l (hR.l.reverse.take j) d).reverse) (fun o=>o.l=Fa s.l hR.l d) hR.l.reverse (fun j x st hx U=> ?_) (fun st U=> ?_) ⟨z,by simp[sz],by rw[aT];simp[vQ]⟩
 ·obtain⟨t,rfl,ht⟩:=U
  have hj:=kl hx;rw[oW]at hj
  have vR:hR.l[hR.l.length-1-j]? =some x:=by
   rw[List.getElem?_reverse (by omega)]at hx;exact hx
  have Fc:=aS x (hz vR);obtain⟨p1,p2⟩:=JA hs Fc.1 Fc.2;have hb:=YY hs (hR.l.reverse.take j) d (fun y hy=>aS y (List.mem_reverse.1 (zP hy))) h0
  have at7:t.l.length=hR.l.length:=by
   rw[ht,gM,xE,List.length_reverse,YX,sM,oW];omega
  have amv:(hR.l.length:Int)-1-j=((hR.l.length-1-j:Nat):Int):=by omega
  have YZ:hR.l.reverse.take (j+1)=hR.l.reverse.take j++[x]:=by rw[zS,hx];rfl
  rw[amv];refine⟨_,Fb _ _ t x vR hb.1 (by omega) (by omega) p1,o9 t ((hR.l.length-1-j:Nat):Int) (sz s.l (hR.l.reverse.take j) d%hP s.l x),?_,?_⟩
  ·rw[YZ,YV]
   have:bJ (((hR.l.length-1-j:Nat):Int)-1)=(hR.l.length:Int)-1-((j+1:Nat):Int):=by
    rw[iN (by omega) (by omega)];omega
   rw[this]
  ·show t.l.set _ _=_
   rw[ht,FL,amt hj,YZ,YW,List.reverse_append];rfl
 ·obtain⟨t,rfl,ht⟩:=U
  rw[oW];have e:(hR.l.length:Int)-1-(hR.l.length:Nat)=-1:=by omega
  rw[e];refine⟨t,oe _ t,?_⟩;rw[ht,oW,<-oW,Kq];simp[Fa]
theorem amw (n:Nat)(h:n<=1000000):∃z,yI 8 (0:Int) (n:Int)=some z/\z.l=List.replicate n 0:=by
 unfold yI;rw[if_pos ⟨by omega,by omega⟩];by_cases hn:(n:Int)=0
 ·have:n=0:=by omega
  subst this;exact⟨_,rfl,rfl⟩
 ·rw[if_neg hn]
  exact⟨_,rfl,rfl⟩
def nT (s:List Int)(b:Bool)(c:Int)(t:Table):Bool:=(kP t==b)&&(decide (bJ (c-t.dG)>=0)&&decide (bJ (c-t.dG)<wid s t.bP.l))
theorem Y0{α:Type}{p:α->Bool}{xs:List α}(h:∀x∈xs,p x=false):xs.findIdx? p=none:=by
 rw[List.findIdx?_eq_none_iff];exact h
theorem Y1{α:Type}{p:α->Bool}:∀{xs:List α} {k:Nat} {x:α},(∀j y,j<k->xs[j]? =some y->p y=false)->xs[k]? =some x->p x=true->xs.findIdx? p=some k
 |[],k,x,_,hx,_=>by cases hx
 |y::r,0,x,_,hx,hp=>by
  simp only[rr,az]at hx;subst hx;rw[QP,if_pos hp]
 |y::r,k+1,x,h,hx,hp=>by
  have h0:=h 0 y (by omega) rfl;rw[QP,h0,if_neg (by simp),Y1 (k:=k) (x:=x) (fun j z hj aT=>h (j+1) z (by omega) (by simpa using aT)) (by simpa using hx) hp];rfl
structure amx (s:List Int) (ts:List Table) (b:Bool) (c:Int) (r:Int × ak Int × Bool):Prop where
 no:(mu s ts=false\/c<0\/ts.findIdx? (nT s b c)=none)->r=(0,.nil,false)
 yes:∀i t,mu s ts=true->0<=c->ts.findIdx? (nT s b c)=some i->ts[i]? =some t->r.1=(i:Int)/\r.2.2=true/\r.2.1.l=Fa s t.bP.l (bJ (c-t.dG))
theorem Y2 (s:ak Int)(ts:ak Table)(b:Bool)(c:Int)(h1:cm s.l)(h2:cm ts.l)(hc:∀t∈ts.l,cm t.bP.l):∃r,Ea s ts b c=some r/\amx s.l ts.l b c r:=by
 unfold Ea;rw[Pu s ts h1 h2 hc];simp only[cg];cases ad:mu s.l ts.l with
 |false=>exact⟨_,rfl,⟨fun _=>rfl,fun i t h=>by rw[ad]at h;cases h⟩⟩
 |true=>
  simp only[cond_true,cg];by_cases h0:c<0
  ·have hd:decide (c<0)=true:=by simpa using h0
   rw[hd];exact⟨_,rfl,⟨fun _=>rfl,fun i t _ h=>by omega⟩⟩
  ·have hd:decide (c<0)=false:=by simpa using h0
   rw[hd];simp only[cond_false];obtain⟨q1,aS,b1,cL⟩:=BM ad
   obtain⟨o,af,e2⟩:=E3 (f:=D8 s ts b c) (fun k st=>st=(k:Int)/\∀j y,j<k->ts.l[j]? =some y->nT s.l b c y=false)
    (fun o=>match o with
      | .go _=>ts.l.findIdx? (nT s.l b c)=none
      | .ret p=>∃(i:Nat) (t:Table),ts.l.findIdx? (nT s.l b c)=some i/\ts.l[i]? =some t/\p.1=(i:Int)/\p.2.l=Fa s.l t.bP.l (bJ (c-t.dG))) ts.l (fun k t st hx U=>by
    obtain⟨rfl,jN⟩:=U;have aX:=kl hx;have eB:=hz hx;have rh:=JF (cL t eB);have hw:=E7 b1 rh
    have ep:(((Bd t).bind fun q7=>(bif (q7==b)then(bif (decide ((bJ (c-t.dG))<0))then some true else((tu s t.bP).bind fun y0=>some (decide ((bJ (c-t.dG))>=y0))))else some true)):Option Bool)=some (!nT s.l b c t):=by
     rw[Jy,Pt s t.bP b1 rh];unfold nT;simp only[cg];cases kP t==b with
     |false=>rfl
     |true=>
      simp only[cond_true,fI];by_cases g1:bJ (c-t.dG)<0
      ·have a:decide (bJ (c-t.dG)<0)=true:=by simpa using g1
       have a2:decide (bJ (c-t.dG)>=0)=false:=by simp;omega
       rw[a,a2];rfl
      ·have a:decide (bJ (c-t.dG)<0)=false:=by simpa using g1
       have a2:decide (bJ (c-t.dG)>=0)=true:=by simp;omega
       rw[a,a2];by_cases g2:bJ (c-t.dG)<wid s.l t.bP.l
       ·have dm:decide (bJ (c-t.dG)<wid s.l t.bP.l)=true:=by simpa using g2
        have gy:decide (bJ (c-t.dG)>=wid s.l t.bP.l)=false:=by simp;omega
        rw[dm,gy];rfl
       ·have dm:decide (bJ (c-t.dG)<wid s.l t.bP.l)=false:=by simpa using g2
        have gy:decide (bJ (c-t.dG)>=wid s.l t.bP.l)=true:=by simp;omega
        rw[dm,gy];rfl
    have ab:D8 s ts b c (k:Int)=bif !nT s.l b c t then some (.next (bJ ((k:Int)+1)))else((yI 8 0 t.bP.len).bind fun D9=>((c0 (Ig s t) ((bJ (c-t.dG)),(bJ (D9.len-1)),D9):Option ((ak Int))).bind fun NB=>some (.out (.ret ((k:Int),NB))))):=by
     simp only[D8,k8 aX,cond_true,fP,hx,cg];rw[ep];rfl
    rw[ab];cases fj:nT s.l b c t with
    |false=>
     left;refine⟨_,rfl,?_,fun j y hj hy=> ?_⟩
     ·exact fN (by omega)
     ·by_cases e:j=k
      ·subst e;rw[hx]at hy;cases hy;exact fj
      ·exact jN j y (by omega) hy
    |true=>
     right;simp only[hZ,cond_false];have Py:=fj;unfold nT at Py;simp only[b8,decide_eq_true_eq]at Py;obtain⟨et,gz⟩:=E6 rh;obtain⟨z,Ar,Y3⟩:=amw t.bP.l.length (by omega);have amy:z.len=(t.bP.l.length:Int):=by rw[gL,Y3,xE]
     obtain⟨o,g1,g2⟩:=amu (s:=s) (hR:=t.bP) (f:=Ig s t) (fun k i Pz x vR cW CH hit dJ=>by
      have Fc:=gz x (hz vR);have Lh:decide ((i:Int)>=0)=true:=by simp
      have amz:Pz.l[i]? =some Pz.l[i]:=by simp[hit]
      simp only[Ig,Lh,cond_true,fP,vR,cg,Jz Fc.1 Fc.2,amr cW dJ,ams cW dJ CH,amz]) (fun k Pz=>rfl) b1 rh Py.2.1 (by omega) Y3
     have amA:bJ (z.len-1)=(t.bP.l.length:Int)-1:=by rw[amy,iN (by omega) (by omega)]
     refine⟨.ret ((k:Int),o),?_,k,t,Y1 jN hx fj,hx,rfl,g2⟩;have:t.bP.len=((t.bP.l.length:Nat):Int):=rfl;rw[this,Ar];simp only[cg];rw[amA,g1];rfl) (fun st U=>by
    obtain⟨rfl,jN⟩:=U;refine⟨.go (),by simp only[D8,mw,cond_false],Y0 fun x hx=> ?_⟩;obtain⟨j,hj⟩:=ns.1 hx;exact jN j x (kl hj) hj) (s:=0) ⟨rfl,fun j y hj=>by omega⟩
   cases o with
   |go u=>
    refine⟨_,by rw[af];rfl,⟨fun _=>rfl,fun i t _ _ hi=> ?_⟩⟩;simp only at e2;rw[e2]at hi;cases hi
   |ret p=>
    obtain⟨i,t,ai,a2,a3,a4⟩:=e2;refine⟨_,by rw[af];rfl,⟨fun h=> ?_,fun z1 eY _ _ hi ht=> ?_⟩⟩
    ·rcases h with h|h|h
     ·rw[ad]at h;cases h
     ·omega
     ·rw[ai]at h;cases h
    ·rw[ai]at hi;cases hi;rw[a2]at ht;cases ht
     exact⟨a3,rfl,a4⟩
theorem aJH{s hR:ak Int}(hs:oD s.l=true)(hc:oE s.l.length hR.l=true){d:Int}(h0:0<=d)(h1:d<=1000000):∃o,awM s hR d=some o/\o.l=Fa s.l hR.l d:=by
 obtain⟨et,gz⟩:=E6 hc;obtain⟨z,Ar,Y3⟩:=amw hR.l.length (by omega)
 obtain⟨o,g1,g2⟩:=amu (s:=s) (hR:=hR) (f:=ayU s hR) (fun k i Pz x vR cW CH hit dJ=>by
  have Fc:=gz x (hz vR);have Lh:decide ((i:Int)>=0)=true:=by simp
  have amz:Pz.l[i]? =some Pz.l[i]:=by simp[hit]
  simp only[ayU,Lh,cond_true,fP,vR,cg,Jz Fc.1 Fc.2,amr cW dJ,ams cW dJ CH,amz]) (fun k Pz=>rfl) hs hc h0 h1 Y3
 refine⟨o,?_,g2⟩;unfold awM;have:hR.len=((hR.l.length:Nat):Int):=rfl;rw[this,Ar];simp only[cg];rw[iN (by omega) (by omega),g1];rfl
theorem aJI (s:ak Int)(ts:ak Table)(b:Bool)(c:Int)(h1:cm s.l)(h2:cm ts.l)(hc:∀t∈ts.l,cm t.bP.l)(wN:∀t∈ts.l,ajb t.Name=some (tM t.Name)):∃r,axL s ts b c=some r/\amx s.l ts.l b c r:=by
 unfold axL;rw[ay7 s ts h1 h2 hc wN];simp only[cg];cases ad:mu s.l ts.l with
 |false=>exact⟨_,rfl,⟨fun _=>rfl,fun i t h=>by rw[ad]at h;cases h⟩⟩
 |true=>
  simp only[cond_true,cg];obtain⟨q1,aS,b1,cL⟩:=BM ad
  obtain⟨o,af,e2⟩:=E3 (f:=awN s ts b c) (fun k st=>st=(k:Int)/\∀j y,j<k->ts.l[j]? =some y->(decide (c>=0)&&nT s.l b c y)=false)
   (fun o=>match o with
     | .go _=>c<0\/ts.l.findIdx? (nT s.l b c)=none
     | .ret p=>0<=c/\∃(i:Nat) (t:Table),ts.l.findIdx? (nT s.l b c)=some i/\ts.l[i]? =some t/\p.1=(i:Int)/\p.2.l=Fa s.l t.bP.l (bJ (c-t.dG))) ts.l (fun k t st hx U=>by
   obtain⟨rfl,jN⟩:=U;have aX:=kl hx;have eB:=hz hx;have rh:=JF (cL t eB);have hw:=E7 b1 rh;have ayi:avk s t.bP=some (wid s.l t.bP.l):=by rw[ay6 s t.bP h1 (hc t eB)];unfold aw8;rw[b1,rh];rfl
   have ab:awN s ts b c (k:Int)=bif (decide (c>=0)&&nT s.l b c t)then((awM s t.bP (bJ (c-t.dG))).bind fun ajt=>some (.out (.ret ((k:Int),ajt))))else some (.next (bJ ((k:Int)+1))):=by
    simp only[awN,k8 aX,cond_true,fP,hx,cg,ayi];have cd:avx t.Kind=some (kP t):=rfl;rw[cd];simp only[cg];unfold nT;cases kP t==b with
    |false=>simp
    |true=>
     cases decide (c>=0)with
     |false=>rfl
     |true=>
      cases decide (bJ (c-t.dG)>=0)with
      |false=>rfl
      |true=>cases decide (bJ (c-t.dG)<wid s.l t.bP.l)<;>rfl
   rw[ab];cases fj:(decide (c>=0)&&nT s.l b c t)with
   |false=>
    left;refine⟨_,rfl,fN (by omega),fun j y hj hy=> ?_⟩;by_cases e:j=k
    ·subst e;rw[hx]at hy;cases hy;exact fj
    ·exact jN j y (by omega) hy
   |true=>
    right;rw[b8,decide_eq_true_eq]at fj;have Py:=fj.2;unfold nT at Py;simp only[b8,decide_eq_true_eq]at Py;obtain⟨o,g1,g2⟩:=aJH (s:=s) (hR:=t.bP) b1 rh (d:=bJ (c-t.dG)) Py.2.1 (by omega)
    have aJJ:∀j y,j<k->ts.l[j]? =some y->nT s.l b c y=false:=fun j y hj hy=>by
     have:=jN j y hj hy;have hd:decide (c>=0)=true:=by simpa using fj.1
     rw[hd,fI]at this;exact this
    exact⟨.ret ((k:Int),o),by rw[g1];rfl,fj.1,k,t,Y1 aJJ hx fj.2,hx,rfl,g2⟩) (fun st U=>by
   obtain⟨rfl,jN⟩:=U;refine⟨.go (),by simp only[awN,mw,cond_false],?_⟩;by_cases hc0:c<0
   ·exact .inl hc0
   ·refine .inr (Y0 fun x hx=> ?_)
    obtain⟨j,hj⟩:=ns.1 hx;have:=jN j x (kl hj) hj;have hd:decide (c>=0)=true:=by simp;omega
    rw[hd,fI]at this;exact this) (s:=0) ⟨rfl,fun j y hj=>by omega⟩
  cases o with
  |go u=>
   refine⟨_,by rw[af];rfl,⟨fun _=>rfl,fun i t _ h0 hi=> ?_⟩⟩;simp only at e2;rcases e2 with e2|e2
   ·omega
   ·rw[e2]at hi;cases hi
  |ret p=>
   obtain⟨h0,i,t,ai,a2,a3,a4⟩:=e2;refine⟨_,by rw[af];rfl,⟨fun h=> ?_,fun z1 eY _ _ hi ht=> ?_⟩⟩
   ·rcases h with h|h|h
    ·rw[ad]at h;cases h
    ·omega
    ·rw[ai]at h;cases h
   ·rw[ai]at hi;cases hi;rw[a2]at ht;cases ht
    exact⟨a3,rfl,a4⟩
end
end Go.Abs.hk
namespace Go.Abs.hk
open Go Go.Abs
noncomputable section
def Fe (n:Int)(xs:List Change)(k:Nat)(c:Change):Bool:=!(decide (c.Cell<=pg Change.Cell xs k))&&(!(decide (c.Cell>=n))&&(!(c.Add==0)&&tN c.Add 1000000000))
def Y4 (t:Table):Bool:=(t.Kind==2)||(t.Kind==3)
def Y5 (u:mj)(t:Table):Bool:=bif Y4 t then((u.Kind==0)||(u.Kind==1))&&(u.Value==0)else(u.Kind==2)&&(decide (u.Value>=t.Range.kI)&&decide (u.Value<=t.Range.kJ))
def JM (s:List Int)(ts:List Table)(u:mj):Bool:=bif decide (u.Cell<0)then false else match ts.findIdx? (nT s false u.Cell)with
 |some i=>match ts[i]? with
  |some t=>Y5 u t
  |none=>false
 |none=>false
def Ff (s:List Int)(ts:List Table)(us:List mj)(k:Nat)(u:mj):Bool:=!(decide (u.Cell<=pg mj.Cell us k))&&JM s ts u
def JN (s:List Int)(ts:List Table)(n:Int)(x:eK):Bool:=
 allI (Fe n x.Delta.l) x.Delta.l&&(allI (Ff s ts x.hL.l) x.hL.l&&(decide (x.ia.l.length<=8)&&(decide (x.hL.l.length<=32)&&x.ia.l.all (BO n))))
theorem Y6{α:Type}{p:α->Bool}:∀{xs:List α} {i:Nat},xs.findIdx? p=some i->∃x,xs[i]? =some x
 |[],i,h=>by cases h
 |y::r,i,h=>by
  rw[QP]at h;split at h
  ·cases h;exact⟨y,rfl⟩
  ·obtain⟨j,hj,rfl⟩:=ct.1 h
   obtain⟨x,hx⟩:=Y6 hj;exact⟨x,by simpa using hx⟩
theorem amB (j:dN)(u:mj)(h1:cm j.Model.bC.l)(h2:cm j.Model.Tables.l)(hc:∀t∈j.Model.Tables.l,cm t.bP.l)(ad:mu j.Model.bC.l j.Model.Tables.l=true):
  Ij j u=some (JM j.Model.bC.l j.Model.Tables.l u):=by
 obtain⟨r,af,jN,amC⟩:=Y2 j.Model.bC j.Model.Tables false u.Cell h1 h2 hc;unfold Ij JM;rw[af];simp only[cg];by_cases h0:u.Cell<0
 ·have hd:decide (u.Cell<0)=true:=by simpa using h0
  rw[hd,jN (.inr (.inl h0))];rfl
 ·have hd:decide (u.Cell<0)=false:=by simpa using h0
  rw[hd];simp only[cond_false];cases hi:j.Model.Tables.l.findIdx? (nT j.Model.bC.l false u.Cell)with
  |none=>rw[jN (.inr (.inr hi))];rfl
  |some i=>
   obtain⟨t,ht⟩:=Y6 hi;obtain⟨ai,a2,-⟩:=amC i t ad (by omega) hi ht;rw[ai,a2];simp only[cond_true,fP,ht,cg];unfold Y5 Y4;cases t.Kind==2 with
   |true=>
    simp only[cond_true,cg,Bool.true_or];cases u.Kind==0 with
    |true=>cases u.Kind==1<;>rfl
    |false=>rfl
   |false=>
    simp only[cond_false,cg,qv];cases t.Kind==3 with
    |true=>
     simp only[cond_true];cases u.Kind==0 with
     |true=>cases u.Kind==1<;>rfl
     |false=>rfl
    |false=>rfl
theorem amD (xs:ak Row)(h:cm xs.l){f:Row->Option Bool}{p:Row->Bool}(ab:∀x∈xs.l,f x=some (p x)):NC xs f=some (xs.l.any p):=E5 xs h ab
theorem Fg{α:Type}(x:ak α)(n:Nat):decide (x.len<=(n:Int))=decide (x.l.length<=n):=decide_eq_decide.2 (by rw[gL];omega)
theorem amE (j:dN)(x:eK)(h1:cm j.Model.bC.l)(h2:cm j.Model.Tables.l)(hc:∀t∈j.Model.Tables.l,cm t.bP.l)(ad:mu j.Model.bC.l j.Model.Tables.l=true)
  (lx:cm x.Delta.l) (a1:cm x.hL.l) (e5:cm x.ia.l) (U:∀r∈x.ia.l,cm r.eT.l):
  Il j x=some (JN j.Model.bC.l j.Model.Tables.l j.strict.len x):=by
 unfold Il JN
 rw[zy (f:=Ec j x) (fun k s=>s=(pg Change.Cell x.Delta.l k,(k:Int))) (Fe j.strict.len x.Delta.l) x.Delta.l (fun k c s hx aW _=>by
  subst aW;have aX:=kl hx
  have ab:Ec j x (pg Change.Cell x.Delta.l k,(k:Int))=bif Fe j.strict.len x.Delta.l k c then some (.next (c.Cell,bJ ((k:Int)+1)))else some (.out (.ret ())):=by
   simp only[Ec,k8 aX,cond_true,fP,hx,cg,JG c.Add 1000000000 (by omega)];unfold Fe;cases decide (c.Cell<=pg Change.Cell x.Delta.l k)with
   |true=>rfl
   |false=>
    cases decide (c.Cell>=j.strict.len)with
    |true=>rfl
    |false=>
     cases c.Add==0 with
     |true=>rfl
     |false=>cases tN c.Add 1000000000<;>rfl
  rw[ab];constructor
  ·intro bx
   rw[bx,fN (by unfold cm at lx;omega)];exact⟨_,rfl,by rw[Po Change.Cell hx]⟩
  ·intro bx;rw[bx];rfl) (fun s aW=>by subst aW;simp only[Ec,mw,cond_false]) (s:=(-1,0)) rfl]
 cases allI (Fe j.strict.len x.Delta.l) x.Delta.l with
 |false=>rfl
 |true=>
  simp only[cond_true,cg,fI]
  rw[zy (f:=Ed j x) (fun k s=>s=(pg mj.Cell x.hL.l k,(k:Int))) (Ff j.Model.bC.l j.Model.Tables.l x.hL.l) x.hL.l (fun k c s hx aW _=>by
   subst aW;have aX:=kl hx
   have ab:Ed j x (pg mj.Cell x.hL.l k,(k:Int))=bif Ff j.Model.bC.l j.Model.Tables.l x.hL.l k c then some (.next (c.Cell,bJ ((k:Int)+1)))else some (.out (.ret ())):=by
    simp only[Ed,k8 aX,cond_true,fP,hx,cg,amB j c h1 h2 hc ad];unfold Ff;cases decide (c.Cell<=pg mj.Cell x.hL.l k)with
    |true=>rfl
    |false=>cases JM j.Model.bC.l j.Model.Tables.l c<;>rfl
   rw[ab];constructor
   ·intro bx
    rw[bx,fN (by unfold cm at a1;omega)];exact⟨_,rfl,by rw[Po mj.Cell hx]⟩
   ·intro bx;rw[bx];rfl) (fun s aW=>by subst aW;simp only[Ed,mw,cond_false]) (s:=(-1,0)) rfl]
  cases allI (Ff j.Model.bC.l j.Model.Tables.l x.hL.l) x.hL.l with
  |false=>rfl
  |true=>
   simp only[cond_true,cg,fI]
   rw[amD x.ia e5 (f:=fun z0=>Ik j z0) (p:=fun r=>!BO j.strict.len r) (fun r hr=>by
    unfold Ik;rw[YS j r (U r hr)];rfl)]
   have af:decide (x.ia.len<=8)=decide (x.ia.l.length<=8):=Fg x.ia 8;have e2:decide (x.hL.len<=32)=decide (x.hL.l.length<=32):=Fg x.hL 32;rw[af,e2,sK];cases decide (x.ia.l.length<=8)with
   |false=>rfl
   |true=>cases decide (x.hL.l.length<=32)<;>rfl
theorem aJK (m:Model)(x:eK)(h1:cm m.bC.l)(h2:cm m.Tables.l)(hc:∀t∈m.Tables.l,cm t.bP.l)(wN:∀t∈m.Tables.l,ajb t.Name=some (tM t.Name))(ad:mu m.bC.l m.Tables.l=true)
  (lx:cm x.Delta.l) (a1:cm x.hL.l) (e5:cm x.ia.l) (U:∀r∈x.ia.l,cm r.eT.l):
  axP m x=some (JN m.bC.l m.Tables.l (hQ m.bC.l m.Tables.l true).length x):=by
 obtain⟨y,rM,el⟩:=aD7 m h1 h2 hc wN ad;unfold axP JN;rw[rM];simp only[cg];rw[<-el];have hn:y.len=(y.l.length:Int):=rfl
 rw[zy (f:=awO x y) (fun k s=>s=(k:Int)) (Fe y.l.length x.Delta.l) x.Delta.l (fun k c s hx aW hp=>by
  subst aW;have aX:=kl hx
  have jZ:-1<=pg Change.Cell x.Delta.l k:=ayg fun j z hj aT=>by
   have:=hp j z hj aT;unfold Fe at this;simp only[b8,nV,decide_eq_false_iff_not]at this;omega
  have ab:awO x y (k:Int)=bif Fe y.l.length x.Delta.l k c then some (.next (bJ ((k:Int)+1)))else some (.out (.ret ())):=by
   simp only[awO,k8 aX,cond_true,fP,hx,cg,ayj c.Add 1000000000 (by omega),hn];unfold Fe;by_cases h0:c.Cell<0
   ·have:decide (c.Cell<=pg Change.Cell x.Delta.l k)=true:=by simp;omega
    simp[h0,this]
   ·have gU:decide (c.Cell<0)=false:=by simpa using h0
    rw[gU];by_cases h1:c.Cell>=(y.l.length:Int)
    ·have q1:decide (c.Cell>=(y.l.length:Int))=true:=by simpa using h1
     rw[q1];simp
    ·have q1:decide (c.Cell>=(y.l.length:Int))=false:=by simpa using h1
     rw[q1];simp only[cond_false];cases k with
     |zero=>
      have:decide (c.Cell<=pg Change.Cell x.Delta.l 0)=false:=by rw[decide_eq_false_iff_not];show ¬(c.Cell<=-1);omega
      rw[this];simp only[show decide (((0:Nat):Int)>0)=false from rfl,cond_false];cases c.Add==0 with
      |true=>rfl
      |false=>cases tN c.Add 1000000000<;>rfl
     |succ k=>
      have cW:k<x.Delta.l.length:=by omega
      have aT:x.Delta.l[k]? =some x.Delta.l[k]:=by simp[cW]
      have amP:decide ((((k+1:Nat)):Int)>0)=true:=decide_eq_true (by omega);have hw:bJ (((k+1:Nat):Int)-1)=(k:Int):=ame (by unfold cm at lx;omega);rw[amP,hw,Po Change.Cell aT];simp only[cond_true,fP,aT,cg];have:decide (x.Delta.l[k].Cell>=c.Cell)=decide (c.Cell<=x.Delta.l[k].Cell):=rfl;rw[this];cases decide (c.Cell<=x.Delta.l[k].Cell)with
      |true=>rfl
      |false=>
       cases c.Add==0 with
       |true=>rfl
       |false=>cases tN c.Add 1000000000<;>rfl
  rw[ab];constructor
  ·intro bx
   rw[bx,fN (by unfold cm at lx;omega)];exact⟨_,rfl,rfl⟩
  ·intro bx;rw[bx];rfl) (fun s aW=>by subst aW;simp only[awO,mw,cond_false]) (s:=0) rfl]
 cases allI (Fe y.l.length x.Delta.l) x.Delta.l with
 |false=>rfl
 |true=>
  simp only[cond_true,cg,fI]
  rw[xn (f:=axN x y) x.ia.l e5 (fun r=>!BO y.l.length r) (fun k r hr=>by
   simp only[axN,k8 (kl hr),cond_true,fP,hr,cg,hn,aD3 r (y.l.length:Int) (U r (hz hr))];cases BO (y.l.length:Int) r<;>rfl) (by simp only[axN,mw,cond_false])]
  rw[sK];cases hA:x.ia.l.any (fun r=>!BO (y.l.length:Int) r)with
  |true=>simp
  |false=>
   simp only[cond_false,cg,ue,xH]
   rw[zy (f:=awP m x) (fun k s=>s=(k:Int)) (Ff m.bC.l m.Tables.l x.hL.l) x.hL.l (fun k u s hx aW hp=>by
    subst aW;have aX:=kl hx
    have jZ:-1<=pg mj.Cell x.hL.l k:=ayg fun j z hj aT=>by
     have:=hp j z hj aT;unfold Ff at this;simp only[b8,nV,decide_eq_false_iff_not]at this;omega
    obtain⟨r,af,jN,amC⟩:=aJI m.bC m.Tables false u.Cell h1 h2 hc wN
    have ab:awP m x (k:Int)=bif Ff m.bC.l m.Tables.l x.hL.l k u then some (.next (bJ ((k:Int)+1)))else some (.out (.ret ())):=by
     simp only[awP,k8 aX,cond_true,fP,hx,cg,af];unfold Ff JM;by_cases h0:u.Cell<0
     ·have hd:decide (u.Cell<0)=true:=by simpa using h0
      rw[hd,jN (.inr (.inl h0))];simp
     ·have hd:decide (u.Cell<0)=false:=by simpa using h0
      rw[hd];simp only[cond_false];cases hi:m.Tables.l.findIdx? (nT m.bC.l false u.Cell)with
      |none=>rw[jN (.inr (.inr hi))];simp
      |some i=>
       obtain⟨t,ht⟩:=Y6 hi;obtain⟨ai,a2,-⟩:=amC i t ad (by omega) hi ht
       have aJL:(bif (decide ((k:Int)>0))then((bQ x.hL.l (bJ ((k:Int)-1))).bind fun aji=>some (decide (aji.Cell>=u.Cell)))else some false:Option Bool)=some (decide (u.Cell<=pg mj.Cell x.hL.l k)):=by
        cases k with
        |zero=>
         have:decide (u.Cell<=pg mj.Cell x.hL.l 0)=false:=by rw[decide_eq_false_iff_not];show ¬(u.Cell<=-1);omega
         rw[this];rfl
        |succ k=>
         have cW:k<x.hL.l.length:=by omega
         have aT:x.hL.l[k]? =some x.hL.l[k]:=by simp[cW]
         have amP:decide ((((k+1:Nat)):Int)>0)=true:=decide_eq_true (by omega);have hw:bJ (((k+1:Nat):Int)-1)=(k:Int):=ame (by unfold cm at a1;omega);rw[amP,hw,Po mj.Cell aT];simp only[cond_true,fP,aT,cg]
       rw[ai,a2];simp only[cond_true];rw[aJL];simp only[cg,fP,ht];cases decide (u.Cell<=pg mj.Cell x.hL.l k)with
       |true=>rfl
       |false=>
        have tc:axM t.Kind=some (Y4 t):=rfl;simp only[cond_false,tc,cg,ue,fI];unfold Y5;cases Y4 t with
        |true=>
         simp only[cond_true,bne];cases u.Kind==0<;>cases u.Kind==1<;>cases u.Value==0<;>rfl
        |false=>
         simp only[cond_false,bne,cg];cases u.Kind==2 with
         |false=>rfl
         |true=>
          have dm:decide (u.Value<t.Range.kI)=!decide (u.Value>=t.Range.kI):=by by_cases q:u.Value<t.Range.kI<;>simp[q]<;>omega
          have gy:decide (u.Value>t.Range.kJ)=!decide (u.Value<=t.Range.kJ):=by by_cases q:u.Value<=t.Range.kJ<;>simp[q]<;>omega
          rw[dm,gy];cases decide (u.Value>=t.Range.kI)<;>cases decide (u.Value<=t.Range.kJ)<;>rfl
    rw[ab];constructor
    ·intro bx
     rw[bx,fN (by unfold cm at a1;omega)];exact⟨_,rfl,rfl⟩
    ·intro bx;rw[bx];rfl) (fun s aW=>by subst aW;simp only[awP,mw,cond_false]) (s:=0) rfl]
   have af:decide (x.ia.len<=8)=decide (x.ia.l.length<=8):=Fg x.ia 8;have e2:decide (x.hL.len<=32)=decide (x.hL.l.length<=32):=Fg x.hL 32;rw[af,e2];cases allI (Ff m.bC.l m.Tables.l x.hL.l) x.hL.l<;>rfl
end
end Go.Abs.hk
namespace Go.Abs.hk
open Go Go.Abs
noncomputable section
theorem Y7 (a b:Int):decide (a<b)=!decide (a>=b):=by
 by_cases q:a<b
 ·rw[decide_eq_true q,decide_eq_false (by omega)];rfl
 ·rw[decide_eq_false q,decide_eq_true (by omega)];rfl
theorem Y8 (a b:Int):decide (a>b)=!decide (a<=b):=by
 by_cases q:a>b
 ·rw[decide_eq_true q,decide_eq_false (by omega)];rfl
 ·rw[decide_eq_false q,decide_eq_true (by omega)];rfl
theorem my{α:Type}(x:ak α)(n:Nat):decide (x.len>(n:Int))=!decide (x.l.length<=n):=by
 rw[Y8];congr 1;exact decide_eq_decide.2 (by rw[gL];omega)
def Fh (n:Nat)(s:Int):Bool:=decide (s>=-1)&&decide (s<n)
def sA (n:Nat)(o:cl):Bool:=decide (o.bC.l.length<=3)&&o.bC.l.all (Fh n)
def zz (n:Nat)(ops:List cl):Bool:=ops.all (sA n)&&(decide (ops.length<=8)&&BQ (ops.map cl.Name))
theorem amF (j:dN)(h:j.Model.Operations.l.length<=100000)(aC:∀o∈j.Model.Operations.l,cm o.bC.l):Ib j=some (zz j.Model.bC.l.length j.Model.Operations.l):=by
 unfold Ib zz
 obtain⟨o,af,e2⟩:=E3 (f:=D5 j) (fun k st=>∃a:ak bH,st=((k:Int),a)/\a.l=(j.Model.Operations.l.take k).map cl.Name/\(j.Model.Operations.l.take k).all (sA j.Model.bC.l.length)=true)
  (fun o=>match o with
    | .go a=>j.Model.Operations.l.all (sA j.Model.bC.l.length)=true/\a.l=j.Model.Operations.l.map cl.Name
    | .ret _=>j.Model.Operations.l.all (sA j.Model.bC.l.length)=false) j.Model.Operations.l (fun k o st hx U=>by
    obtain⟨a,rfl,ao,eA⟩:=U;have aX:=kl hx;have eB:=hz hx;have lq:a.l.length<=100000:=by rw[ao,oG,sM];omega
    obtain⟨y,rM,EO⟩:=YP (BN:=16) (x:=a) (y:=ak.mk [o.Name]) (by omega) (by show a.l.length+1<=_;omega)
    have nC:=Ps o.bC (aC o eB) (f:=fun z0=>Ia j z0) (p:=fun s=>!Fh j.Model.bC.l.length s) (fun s hs=>by
     unfold Ia Fh;rw[gL,Y7,show decide (s>=(j.Model.bC.l.length:Int))=!decide (s<(j.Model.bC.l.length:Int))from by rw[Y7];simp];cases decide (s>=-1)<;>cases decide (s<(j.Model.bC.l.length:Int))<;>rfl)
    have ab:D5 j ((k:Int),a)=bif sA j.Model.bC.l.length o then some (.next ((bJ ((k:Int)+1)),y))else some (.out (.ret ())):=by
     simp only[D5,k8 aX,cond_true,fP,hx,cg,rM,nC];rw[show decide (o.bC.len>3)=!decide (o.bC.l.length<=3)from my o.bC 3];unfold sA;rw[sK];cases decide (o.bC.l.length<=3)with
     |false=>rfl
     |true=>cases o.bC.l.any (fun s=>!Fh j.Model.bC.l.length s)<;>rfl
    rw[ab];cases c4:sA j.Model.bC.l.length o with
    |true=>
     left;refine⟨_,rfl,y,by rw[fN (by omega)],?_,?_⟩
     ·rw[EO,ao,zS,hx];simp[ak.l]
     ·rw[zS,hx];simp[List.all_append,c4];simpa using eA
    |false=>
     refine .inr ⟨.ret (),rfl,?_⟩;show List.all _ _=false;rw[List.all_eq_false];exact⟨o,eB,by rw[c4];simp⟩) (fun st U=>by
    obtain⟨a,rfl,ao,eA⟩:=U;rw[Kq]at ao eA;exact⟨.go a,by simp only[D5,mw,cond_false],eA,ao⟩) (s:=(0,.nil)) ⟨.nil,rfl,rfl,rfl⟩
 rw[af];simp only[cg];cases o with
 |ret u=>simp only at e2;rw[e2];rfl
 |go a=>
  obtain⟨q1,aS⟩:=e2;have lq:a.l.length=j.Model.Operations.l.length:=by rw[aS,oG]
  simp only[];rw[q1,YT a (by unfold cm;omega),aS];simp only[cg,fI];rw[show decide (a.len<=8)=decide (a.l.length<=8)from Fg a 8,lq];cases decide (j.Model.Operations.l.length<=8)<;>rfl
def lM:List Int->List Int->Bool
 |[],[]=>false
 |[],_::_=>true
 | _::_,[]=>false
 |x::r,y::t=>bif x==y then lM r t else decide (x<y)
theorem amG (l:List Int):lM [] l=decide (0<l.length):=by cases l<;>simp[lM]
theorem PA (l:List Int):lM l []=false:=by cases l<;>rfl
theorem amH{a b:List Int}{k:Nat}{x y:Int}(hx:a[k]? =some x)(hy:b[k]? =some y):lM (a.drop k) (b.drop k)=bif x==y then lM (a.drop (k+1)) (b.drop (k+1))else decide (x<y):=by
 obtain⟨h1,af⟩:=pY.1 hx;obtain⟨h2,e2⟩:=pY.1 hy;rw[wc h1,wc h2,af,e2];rfl
theorem amI (x y:Int):Ie x y=some (if x<y then -1 else if x>y then 1 else 0):=by
 unfold Ie Ic;simp only[bne_self_eq_false,cg,cond_false];by_cases h:x<y
 ·simp[h]
 ·by_cases h2:x>y<;>simp[h,h2]
theorem amJ (a b:ak Int)(h:cm a.l):∃c,D7 a b=some c/\decide (c>=0)=!lM a.l b.l:=by
 unfold D7
 obtain⟨o,af,e2⟩:=E3 (f:=Bj a b) (fun k st=>st=(k:Int)/\k<=b.l.length/\lM a.l b.l=lM (a.l.drop k) (b.l.drop k))
  (fun o=>match o with
    | .go _=>lM a.l b.l=decide (a.len<b.len)
    | .ret c=>decide (c>=0)=!lM a.l b.l) a.l (fun k x st hx U=>by
    obtain⟨rfl,cW,qT⟩:=U;have aX:=kl hx;by_cases GR:k<b.l.length
    ·have hy:b.l[k]? =some b.l[k]:=by simp[GR]
     have hd:decide ((k:Int)>=b.len)=false:=by rw[gL];simp;omega
     have ab:Bj a b (k:Int)=(bif ((if x<b.l[k]then -1 else if x>b.l[k]then 1 else 0:Int) != 0)then some (.out (.ret (if x<b.l[k]then -1 else if x>b.l[k]then 1 else 0)))else some (.next (bJ ((k:Int)+1)))):=by
      simp only[Bj,k8 aX,cond_true,fP,hx,cg,hd,cond_false,hy,amI]
     rw[ab];rw[amH hx hy]at qT;by_cases CG:x=b.l[k]
     ·left
      have q:(x==b.l[k])=true:=by simpa using CG
      rw[q]at qT;refine⟨((k+1:Nat):Int),?_,rfl,by omega,qT⟩;rw[<-CG];simp only[Int.lt_irrefl,if_false,gt_iff_lt];rw[fN (by unfold cm at h;omega)];rfl
     ·right
      have q:(x==b.l[k])=false:=by simpa using CG
      rw[q]at qT;simp only[cond_false]at qT;by_cases hl:x<b.l[k]
      ·refine⟨.ret (-1),by rw[if_pos hl];rfl,?_⟩
       show decide ((-1:Int)>=0)=_;rw[qT,decide_eq_true hl];rfl
      ·have bj:x>b.l[k]:=by omega
       refine⟨.ret 1,by rw[if_neg hl,if_pos bj];rfl,?_⟩;show decide ((1:Int)>=0)=_;rw[qT,decide_eq_false hl];rfl
    ·right
     have hd:decide ((k:Int)>=b.len)=true:=by rw[gL];simp;omega
     refine⟨.ret 1,by simp only[Bj,k8 aX,cond_true,fP,hx,cg,hd],?_⟩;show decide ((1:Int)>=0)=_;rw[qT,B6 (Nat.le_of_not_lt GR),PA];rfl) (fun st U=>by
    obtain⟨rfl,cW,qT⟩:=U;refine⟨.go (),by simp only[Bj,mw,cond_false],?_⟩;show _=_;rw[qT,B6 (aK _),amG,sN];exact decide_eq_decide.2 (by rw[gL,gL];omega)) (s:=0) ⟨rfl,by omega,rfl⟩
 rw[af];simp only[cg];cases o with
 |ret c=>exact⟨c,rfl,e2⟩
 |go u=>
  simp only at e2⊢;rw[e2];cases decide (a.len<b.len)with
  |true=>exact⟨-1,rfl,rfl⟩
  |false=>exact⟨0,rfl,rfl⟩
theorem aJM (a b:ak Int)(h:cm a.l):awL a b=some (lM a.l b.l):=by
 unfold awL;have Am:(a.l.zip b.l).length=min a.l.length b.l.length:=List.length_zip
 obtain⟨o,af,e2⟩:=E3 (f:=awK a b) (fun k st=>st=(k:Int)/\lM a.l b.l=lM (a.l.drop k) (b.l.drop k))
  (fun o=>match o with
    | .go _=>lM a.l b.l=decide (a.len<b.len)
    | .ret c=>c=lM a.l b.l) (a.l.zip b.l) (fun k p st hx U=>by
    obtain⟨rfl,qT⟩:=U;have aX:=kl hx;rw[Am]at aX;obtain⟨Oq,aD8⟩:=xD.1 hx;have d1:decide ((k:Int)<a.len)=true:=k8 (by omega);have d2:decide ((k:Int)<b.len)=true:=k8 (by omega);rw[amH Oq aD8]at qT
    have ab:awK a b (k:Int)=bif p.1==p.2 then some (.next (bJ ((k:Int)+1)))else some (.out (.ret (decide (p.1<p.2)))):=by
     simp only[awK,d1,d2,zV,cond_true,fP,Oq,aD8,cg,bne];cases p.1==p.2<;>rfl
    rw[ab];cases q:p.1==p.2 with
    |true=>
     rw[q]at qT;exact .inl ⟨_,rfl,fN (by unfold cm at h;omega),qT⟩
    |false=>
     rw[q]at qT;exact .inr ⟨.ret (decide (p.1<p.2)),rfl,qT.symm⟩) (fun st U=>by
    obtain⟨rfl,qT⟩:=U;rw[Am]at qT⊢
    have hd:(decide (((min a.l.length b.l.length:Nat):Int)<a.len)&&decide (((min a.l.length b.l.length:Nat):Int)<b.len))=false:=by
     rw[gL,gL];rcases Nat.le_total a.l.length b.l.length with q|q
     ·rw[lP q];simp
     ·rw[uc q];simp
    refine⟨.go (),by simp only[awK,hd,cond_false],?_⟩;show _=_;rw[qT];rcases Nat.le_total a.l.length b.l.length with q|q
    ·rw[lP q,B6 (aK _),amG,sN]
     exact decide_eq_decide.2 (by rw[gL,gL];omega)
    ·rw[uc q,(B6 (aK _):b.l.drop b.l.length=[]),PA]
     exact(decide_eq_false (by rw[gL,gL];omega)).symm) (s:=0) ⟨rfl,rfl⟩
 rw[af];simp only[cg];cases o with
 |ret c=>simp only at e2;rw[e2]
 |go u=>simp only at e2;rw[e2]
end
end Go.Abs.hk
