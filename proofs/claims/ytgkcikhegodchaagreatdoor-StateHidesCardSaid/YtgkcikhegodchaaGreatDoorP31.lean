/- Texts of this claim, joined and written short by a program. -/
import Derived.Test.YtgkcikhegodchaaGreatDoorP30
import Derived.Test.YtgkcikhegodchaaGreatDoorP00
set_option linter.unusedVariables false
set_option linter.unusedSimpArgs false
set_option linter.unusedSectionVars false
namespace Go.Abs.bA
open Go Go.Abs
noncomputable section
def pq (n m:Int):Bool:=decide (n>=-m)&&decide (n<=m)
theorem MU (n m:Int)(h:0<=m/\m<=1000000000):yE n m=some (pq n m):=by
 unfold yE pq;rw[fF (by omega) (by omega)];simp
theorem MV (n m:Int)(h:0<=m/\m<=1000000000):xa n m=some (pq n m):=by
 unfold xa pq;rw[fF (by omega) (by omega)];simp
def vu (n:Int)(xs:List Term)(k:Nat)(t:Term):Bool:=!(decide (t.Cell<=jg Term.Cell xs k))&&(!(decide (t.Cell>=n))&&(!(t.hJ==0)&&pq t.hJ 1000))
def r8 (n:Int)(r:Row):Bool:=allI (vu n r.da.l) r.da.l&&pq r.nF 1000000000
theorem fk{α:Type}{x:ae α}{k:Nat}(h:k<x.l.length):decide ((k:Int)<x.len)=true:=by rw[dn];simp;exact h
theorem fQ{α:Type}{x:ae α}:decide ((x.l.length:Int)<x.len)=false:=by rw[dn];simp
theorem eS{k:Nat}(h:k<4611686018427387904):aL ((k:Int)+1)=((k+1:Nat):Int):=by rw[fF (by omega) (by omega)];rfl
theorem Ef{k:Nat}(h:k<4611686018427387904):aL (((k+1:Nat):Int)-1)=(k:Int):=by
 rw[fF (by omega) (by omega)];omega
theorem en{α:Type}{l:List α}{k:Nat}{x:α}(h:l[k]? =some x):k<l.length:=(eY.1 h).1
theorem afn (j:eh)(r:Row)(h:bk r.da.l):DD j r=some (r8 j.strict.len r):=by
 unfold DD
 rw[q0 (f:=Gr j r) (fun k s=>s=(jg Term.Cell r.da.l k,(k:Int))) (vu j.strict.len r.da.l) r.da.l (fun k x s hx bp _=>by
  subst bp;have aG:=en hx
  have ag:Gr j r (jg Term.Cell r.da.l k,(k:Int))=bif vu j.strict.len r.da.l k x then some (.next (x.Cell,aL ((k:Int)+1)))else some (.out (.ret ())):=by
   simp only[Gr,fk aG,cond_true,dc,hx,aS,MU x.hJ 1000 (by omega)];unfold vu;cases decide (x.Cell<=jg Term.Cell r.da.l k)with
   |true=>rfl
   |false=>
    cases decide (x.Cell>=j.strict.len)with
    |true=>rfl
    |false=>
     cases x.hJ==0 with
     |true=>rfl
     |false=>cases pq x.hJ 1000<;>rfl
  rw[ag];constructor
  ·intro a1
   rw[a1,eS (by unfold bk at h;omega)];exact⟨_,rfl,by rw[BS Term.Cell hx]⟩
  ·intro a1;rw[a1];rfl) (fun s bp=>by subst bp;simp only[Gr,fQ,cond_false]) (s:=(-1,0)) rfl]
 unfold r8;cases allI (vu j.strict.len r.da.l) r.da.l with
 |false=>rfl
 |true=>
  simp only[cond_true,aS,dy];rw[MU _ _ (by omega)];rfl
theorem afo (r:Row)(n:Int)(h:bk r.da.l):G8 r n=some (r8 n r):=by
 unfold G8
 rw[q0 (f:=G7 r n) (fun k s=>s=(k:Int)) (vu n r.da.l) r.da.l (fun k x s hx bp hp=>by
  subst bp;have aG:=en hx
  have jL:-1<=jg Term.Cell r.da.l k:=MJ fun j y hj hy=>by
   have:=hp j y hj hy;unfold vu at this;simp only[cm,oB,decide_eq_false_iff_not]at this;omega
  have ag:G7 r n (k:Int)=bif vu n r.da.l k x then some (.next (aL ((k:Int)+1)))else some (.out (.ret ())):=by
   simp only[G7,fk aG,cond_true,dc,hx,aS,MV x.hJ 1000 (by omega)];unfold vu;by_cases h0:x.Cell<0
   ·have:decide (x.Cell<=jg Term.Cell r.da.l k)=true:=by simp;omega
    simp[h0,this]
   ·have fP:decide (x.Cell<0)=false:=by simpa using h0
    rw[fP];by_cases h1:x.Cell>=n
    ·have q1:decide (x.Cell>=n)=true:=by simpa using h1
     rw[q1];simp
    ·have q1:decide (x.Cell>=n)=false:=by simpa using h1
     rw[q1];simp only[cond_false];cases k with
     |zero=>
      have:decide (x.Cell<=jg Term.Cell r.da.l 0)=false:=by rw[decide_eq_false_iff_not];show ¬(x.Cell<=-1);omega
      rw[this];simp only[show decide (((0:Nat):Int)>0)=false from rfl,cond_false];cases x.hJ==0 with
      |true=>rfl
      |false=>cases pq x.hJ 1000<;>rfl
     |succ k=>
      have hk:k<r.da.l.length:=by omega
      have hy:r.da.l[k]? =some r.da.l[k]:=by simp[hk]
      have uz:decide ((((k+1:Nat)):Int)>0)=true:=decide_eq_true (by omega);have hw:aL (((k+1:Nat):Int)-1)=(k:Int):=Ef (by unfold bk at h;omega);rw[uz,hw,BS Term.Cell hy];simp only[cond_true,dc,hy,aS];have:decide (r.da.l[k].Cell>=x.Cell)=decide (x.Cell<=r.da.l[k].Cell):=rfl;rw[this];cases decide (x.Cell<=r.da.l[k].Cell)with
      |true=>rfl
      |false=>
       cases x.hJ==0 with
       |true=>rfl
       |false=>cases pq x.hJ 1000<;>rfl
  rw[ag];constructor
  ·intro a1
   rw[a1,eS (by unfold bk at h;omega)];exact⟨_,rfl,rfl⟩
  ·intro a1;rw[a1];rfl) (fun s bp=>by subst bp;simp only[G7,fQ,cond_false]) (s:=0) rfl]
 unfold r8;cases allI (vu n r.da.l) r.da.l with
 |false=>rfl
 |true=>
  simp only[cond_true,aS,dy];rw[MV _ _ (by omega)];rfl
def xx (y5:List ck)(k:Nat)(x:ck):Bool:=kO x&&!((y5.take k).any fun y=>y==x)
def xy (y5:List ck):Bool:=allI (xx y5) y5
theorem aui{y5:List ck}{k:Nat}{x:ck}(h:y5[k]? =some x)(n:ck):(y5.take (k+1)).any (fun y=>y==n)=((y5.take k).any (fun y=>y==n)||x==n):=by
 rw[xN,h];simp
theorem afp (a:ae ck)(h:bk a.l):DC a=some (xy a.l):=by
 unfold DC
 rw[q0 (f:=Gn a) (fun k s=>∃m,s=((k:Int),m)/\∀n,(hI m n).getD false=(a.l.take k).any fun y=>y==n) (xx a.l) a.l (fun k x s hx bp _=>by
  obtain⟨m,rfl,hm⟩:=bp;have aG:=en hx
  have ag:Gn a ((k:Int),m)=bif xx a.l k x then some (.next ((aL ((k:Int)+1)),ly m x true))else some (.out (.ret ())):=by
   simp only[Gn,fk aG,cond_true,dc,hx,aS,afj,hm];unfold xx;cases kO x with
   |false=>rfl
   |true=>cases(a.l.take k).any fun y=>y==x<;>rfl
  rw[ag];constructor
  ·intro a1
   rw[a1,eS (by unfold bk at h;omega)];refine⟨_,rfl,_,rfl,fun n=> ?_⟩;rw[MK,aui hx,<-hm n];cases e:n==x with
   |true=>rw[Ic,e];simp
   |false=>rw[Ic (a:=x),e];simp
  ·intro a1;rw[a1];rfl) (fun s bp=>by obtain⟨m,rfl,-⟩:=bp;simp only[Gn,fQ,cond_false]) (s:=(0,[])) ⟨[],rfl,fun n=>rfl⟩]
 unfold xy;cases allI (xx a.l) a.l<;>rfl
theorem afq (a:ae ck)(x:ck)(h:bk a.l):G0 a x=some (a.l.any fun y=>y==x):=by
 unfold G0
 rw[mw (f:=Lo a x) a.l h (fun y=>y==x) (fun k y hy=>by
  simp only[Lo,fk (en hy),cond_true,dc,hy,aS];cases y==x<;>rfl) (by simp only[Lo,fQ,cond_false])]
 cases a.l.any fun y=>y==x<;>rfl
theorem auj{α:Type}{a:ae α}{k:Nat}(hk:k<a.l.length):∃z,k3 a 0 (k:Int)=some z/\z.l=a.l.take k:=by
 cases a with
 |nil=>simp[ae.l]at hk
 |emp=>simp[ae.l]at hk
 |mk l=>
  simp only[ae.l]at hk;refine⟨.mk (l.take k),?_,rfl⟩;simp only[k3];rw[if_pos (by omega)];simp
theorem afr (a:ae ck)(h:bk a.l)(fM:∀x∈a.l,nH x=some (kO x)):G5 a=some (xy a.l):=by
 unfold G5
 rw[q0 (f:=G4 a) (fun k s=>s=(k:Int)) (xx a.l) a.l (fun k x s hx bp _=>by
  subst bp;have aG:=en hx;obtain⟨z,qD,el⟩:=auj aG;have aJ:bk z.l:=by rw[el];unfold bk at h⊢; rw[q9];omega
  have ag:G4 a (k:Int)=bif xx a.l k x then some (.next (aL ((k:Int)+1)))else some (.out (.ret ())):=by
   simp only[G4,fk aG,cond_true,dc,hx,aS,fM x (eZ hx),qD,afq z x aJ,el];unfold xx;cases kO x with
   |false=>rfl
   |true=>cases(a.l.take k).any fun y=>y==x<;>rfl
  rw[ag];constructor
  ·intro a1
   rw[a1,eS (by unfold bk at h;omega)];exact⟨_,rfl,rfl⟩
  ·intro a1;rw[a1];rfl) (fun s bp=>by subst bp;simp only[G4,fQ,cond_false]) (s:=0) rfl]
 unfold xy;cases allI (xx a.l) a.l<;>rfl
end
end Go.Abs.bA
namespace Go.Abs.bA
open Go Go.Abs
noncomputable section
def Ih (a b:ae Term):Bool:=(AV a b).getD false
theorem afs (a b:ae Term)(h:bk a.l):AV a b=some (Ih a b):=by
 have:∃r,AV a b=some r:=by
  unfold AV;cases hl:a.len != b.len with
  |true=>exact⟨false,rfl⟩
  |false=>
   have nR:a.l.length=b.l.length:=by
    rw[dn,dn]at hl;simp at hl;omega
   obtain⟨o,ad,-⟩:=y2 (f:=K6 a b) (fun k s=>s=(k:Int)) (fun _=>True) a.l (fun k x s hx bp=>by
    subst bp;have aG:=en hx;have hy:b.l[k]? =some b.l[k]:=by simp[<-nR,aG]
    simp only[K6,fk aG,cond_true,dc,hx,hy,aS];cases(x.Cell==b.l[k].Cell&&(x.hJ==b.l[k].hJ&&true))with
    |true=>exact .inl ⟨_,rfl,eS (by unfold bk at h;omega)⟩
    |false=>exact .inr ⟨_,rfl,trivial⟩) (fun s bp=>by subst bp;exact⟨.go (),by simp only[K6,fQ,cond_false],trivial⟩) (s:=0) rfl
   simp only[cond_false,ad,aS];cases o<;>exact⟨_,rfl⟩
 obtain⟨r,e⟩:=this;unfold Ih;rw[e];rfl
theorem auk (a b:ae Term)(h:bk a.l):Ru a b=some (Ih a b):=afs a b h
def s7 (r:Row)(c f b:Int):Bool:=(r.nF==b)&&Ih r.da (ae.mk [Term.mk c f])
theorem aul (r:Row)(c f b:Int)(h:bk r.da.l):Gu r c f b=some (s7 r c f b):=by
 unfold Gu s7;rw[afs _ _ h];simp only[aS];cases Ih r.da (ae.mk [Term.mk c f])<;>cases r.nF==b<;>rfl
theorem aft (r:Row)(c f b:Int)(h:bk r.da.l):G6 r (Row.mk (ae.mk [Term.mk c f]) b)=some (s7 r c f b):=by
 unfold G6 s7;rw[auk _ _ h];cases r.nF==b<;>rfl
def BU (s:List Int)(c:Constraint)(t:Table):Bool:=(t.Kind==0)&&((t.aZ.l.length==2)&&((t.aZ.l.getD 0 0==t.aZ.l.getD 1 0)&&((t.cz==c.cz)&&(et s (t.aZ.l.getD 0 0)==c.rK))))
def y6 (s:List Int)(ts:List Table)(c:Constraint):Bool:=(c.Row.da.l.length==0)&&((c.Row.nF==0)&&ts.any (BU s c))
theorem aum{l:List Int}(h:l.length=2):∃a b,l=[a,b]:=by
 match l,h with
 |[a,b],_=>exact⟨a,b,rfl⟩
theorem Ii{α:Type}(x:ae α)(n:Nat):((x.len:Int)==(n:Int))=(x.l.length==n):=by
 rw[dn];cases h:x.l.length==n with
 |true=>have:x.l.length=n:=by simpa using h
        rw[this];simp
 |false=>have:x.l.length≠n:=by simpa using h
         simp;omega
theorem afu{s:ae Int}(c:Constraint)(t:Table)(hc:kN s.l.length t.aZ.l=true):
  (((bif (t.Kind==0)then(bif (t.aZ.len==2)then((aO t.aZ.l 0).bind fun lA=>((aO t.aZ.l 1).bind fun nd=>(bif (lA==nd)then(bif (t.cz==c.cz)then((aO t.aZ.l 0).bind fun uf=>((aO s.l uf).bind fun hM=>some (hM==c.rK)))else some false)else some false)))else some false)else some false):Option (Bool)))=some (BU s.l c t):=by
 unfold BU;cases t.Kind==0 with
 |false=>rfl
 |true=>
  have:(t.aZ.len==2)=(t.aZ.l.length==2):=Ii t.aZ 2;rw[this];cases h2:t.aZ.l.length==2 with
  |false=>rfl
  |true=>
   obtain⟨a,b,e⟩:=aum (by simpa using h2);have hi:=(xw hc).2;rw[e]at hi⊢;have al:=hi a (by simp);have i0:aO [a,b] 0=some a:=dc [a,b] 0;have i1:aO [a,b] 1=some b:=dc [a,b] 1;simp only[i0,i1,aS,y3 al.1 al.2,cond_true,dy];simp only[List.getD_cons_zero,List.getD_cons_succ];cases a==b with
   |false=>rfl
   |true=>cases t.cz==c.cz<;>rfl
theorem aun (xs:ae Table)(h:bk xs.l){f:Table->Option Bool}{p:Table->Bool}(ag:∀x∈xs.l,f x=some (p x)):K5 xs f=some (xs.l.any p):=Ia xs h ag
theorem auo (j:eh)(c:Constraint)(h:bk j.Model.Tables.l)(hc:∀t∈j.Model.Tables.l,kN j.Model.aA.l.length t.aZ.l=true):Gt j c=some (y6 j.Model.aA.l j.Model.Tables.l c):=by
 unfold Gt
 rw[aun j.Model.Tables h (f:=fun z0=>Gs c j z0) (p:=BU j.Model.aA.l c) (fun t ht=>by
  unfold Gs;rw[afu c t (hc t ht)];rfl)]
 have e:(c.Row.da.len==0)=(c.Row.da.l.length==0):=Ii c.Row.da 0;rw[e];unfold y6;cases c.Row.da.l.length==0 with
 |false=>rfl
 |true=>cases c.Row.nF==0<;>rfl
theorem aup (m:Model)(c:Constraint)(h:bk m.Tables.l)(hc:∀t∈m.Tables.l,kN m.aA.l.length t.aZ.l=true):Ly m c=some (y6 m.aA.l m.Tables.l c):=by
 unfold Ly
 rw[mw (f:=Lx m c) m.Tables.l h (BU m.aA.l c) (fun k t ht=>by
  simp only[Lx,fk (en ht),cond_true,dc,ht,aS];rw[afu c t (hc t (eZ ht))];cases BU m.aA.l c t<;>rfl) (by simp only[Lx,fQ,cond_false])]
 have e:decide (c.Row.da.len>0)=!(c.Row.da.l.length==0):=by
  rw[dn];cases h:c.Row.da.l.length==0 with
  |true=>have:c.Row.da.l.length=0:=by simpa using h
         rw[this];rfl
  |false=>have:c.Row.da.l.length≠0:=by simpa using h
          simp;omega
 rw[e];unfold y6;simp only[bne];cases c.Row.da.l.length==0 with
 |false=>rfl
 |true=>
  cases c.Row.nF==0 with
  |false=>rfl
  |true=>simp only[fZ,zx,cond_false,aS,dy];cases m.Tables.l.any (BU m.aA.l c)<;>rfl
def MW (rs:List Range)(i:Nat)(c:Constraint):Bool:=match rs[i/2]? with
 |some r=>bif i%2==0 then s7 c.Row ((i/2:Nat):Int) (-1) (aL (0-r.fq))else s7 c.Row ((i/2:Nat):Int) 1 r.fr
 |none=>true
def Eg (F:Int)(c:Constraint):Bool:=decide (c.og>=0)&&decide (c.og<F)
def MX (n:Int)(c:Constraint):Bool:=(c.Kind==0)&&((c.cz==0)&&((c.rK==0)&&r8 n c.Row))
def xz (s:List Int)(ts:List Table)(rs:List Range)(F:Int)(i:Nat)(c:Constraint):Bool:=
 Eg F c&&((bif c.Kind==0 then(c.cz==0)&&((c.rK==0)&&r8 rs.length c.Row)else(c.Kind==1)&&y6 s ts c)&&(bif decide (i/2<rs.length)then(c.Kind==0)&&MW rs i c else true))
def BV (s:List Int)(ts:List Table)(rs:List Range)(F:Int)(cs:List Constraint):Bool:=
 decide (cs.length<=512)&&(decide (2*rs.length<=cs.length)&&allI (xz s ts rs F) cs)
theorem auq{k:Nat}(h:k<4611686018427387904):aL ((k:Int).tdiv 2)=((k/2:Nat):Int):=by
 have e:((k:Int).tdiv 2)=((k/2:Nat):Int):=by
  rw[Int.tdiv_eq_ediv_of_nonneg (by omega)];omega
 rw[e,fF (by omega) (by omega)]
theorem aur (k:Nat):(((k:Int).tmod 2)==0)=(k%2==0):=by
 have e:((k:Int).tmod 2)=((k%2:Nat):Int):=by
  rw[Int.tmod_eq_emod_of_nonneg (by omega)];omega
 rw[e];have:k%2=0\/k%2=1:=by omega
 rcases this with h|h<;>rw[h]<;>rfl
theorem aus (j:eh)(h:bk j.Model.di.l)(hr:j.strict.l.length<=100000)(ht:bk j.Model.Tables.l)(hc:∀t∈j.Model.Tables.l,kN j.Model.aA.l.length t.aZ.l=true)(hT:∀c∈j.Model.di.l,bk c.Row.da.l):
  Gx j=some (BV j.Model.aA.l j.Model.Tables.l j.strict.l j.Model.eg.len j.Model.di.l):=by
 unfold Gx BV;have ad:decide (j.Model.di.len>512)=!decide (j.Model.di.l.length<=512):=by rw[dn];by_cases q:j.Model.di.l.length<=512<;>simp[q]<;>omega
 have e2:decide (j.Model.di.len<aL (2*j.strict.len))=!decide (2*j.strict.l.length<=j.Model.di.l.length):=by
  rw[dn,dn,fF (by omega) (by omega)];by_cases q:2*j.strict.l.length<=j.Model.di.l.length<;>simp[q]<;>omega
 rw[ad,e2];cases decide (j.Model.di.l.length<=512)with
 |false=>rfl
 |true=>
  cases decide (2*j.strict.l.length<=j.Model.di.l.length)with
  |false=>rfl
  |true=>
   simp only[fZ,zx,cond_false,dy]
   rw[q0 (f:=Gv j) (fun k s=>s=(k:Int)) (xz j.Model.aA.l j.Model.Tables.l j.strict.l j.Model.eg.len) j.Model.di.l (fun k c s hx bp _=>by
    subst bp;have aG:=en hx;have dD:=eZ hx;have hk:k<4611686018427387904:=by unfold bk at h;omega
    have ag:Gv j (k:Int)=bif xz j.Model.aA.l j.Model.Tables.l j.strict.l j.Model.eg.len k c then some (.next (aL ((k:Int)+1)))else some (.out (.ret ())):=by
     simp only[Gv,fk aG,cond_true,dc,hx,aS,nc,afn j c.Row (hT c dD),auo j c ht hc,auq hk,aur,aul _ _ _ _ (hT c dD)];unfold xz;show _=bif Eg _ c&&_ then _ else _;have aut:(decide (c.og>=0)&&decide (c.og<j.Model.eg.len))=Eg j.Model.eg.len c:=rfl;rw[aut];cases Eg j.Model.eg.len c with
     |false=>rfl
     |true=>
      have hd:decide (((k/2:Nat):Int)<j.strict.len)=decide (k/2<j.strict.l.length):=by
       rw[dn];exact decide_eq_decide.2 (by omega)
      rw[hd];have hlen:j.strict.len=(j.strict.l.length:Int):=rfl;rw[hlen];cases rv:c.Kind==0 with
      |false=>
       simp only[cond_true,cond_false,dy,bne,rv,pA];cases ha:c.Kind==1 with
       |false=>simp
       |true=>
        cases y6 j.Model.aA.l j.Model.Tables.l c with
        |false=>rfl
        |true=>
         simp only[fZ,cond_false,aS,dy];cases bu:decide (k/2<j.strict.l.length)with
         |false=>rfl
         |true=>
          have Ti:k/2<j.strict.l.length:=by simpa using bu
          have hy:j.strict.l[k/2]? =some j.strict.l[k/2]:=by simp[Ti]
          simp only[cond_true,hy,aS,EB,cond_false];cases k%2==0<;>simp
      |true=>
       simp only[cond_true,dy,bne,rv,fZ,cond_false];cases c.cz==0 with
       |false=>simp
       |true=>
        cases c.rK==0 with
        |false=>simp
        |true=>
         cases r8 (j.strict.l.length:Int) c.Row with
         |false=>rfl
         |true=>
          simp only[fZ,cond_false,aS,dy];cases bu:decide (k/2<j.strict.l.length)with
          |false=>rfl
          |true=>
           have Ti:k/2<j.strict.l.length:=by simpa using bu
           have hy:j.strict.l[k/2]? =some j.strict.l[k/2]:=by simp[Ti]
           unfold MW;simp only[cond_true,hy,aS];cases k%2==0 with
           |true=>
            simp only[cond_true,aS];cases s7 c.Row ((k/2:Nat):Int) (-1) (aL (0-j.strict.l[k/2].fq))<;>rfl
           |false=>
            simp only[cond_false,aS];cases s7 c.Row ((k/2:Nat):Int) 1 j.strict.l[k/2].fr<;>rfl
    rw[ag];constructor
    ·intro a1
     rw[a1,eS hk];exact⟨_,rfl,rfl⟩
    ·intro a1;rw[a1];rfl) (fun s bp=>by subst bp;simp only[Gv,fQ,cond_false]) (s:=0) rfl]
   cases allI (xz j.Model.aA.l j.Model.Tables.l j.strict.l j.Model.eg.len) j.Model.di.l<;>rfl
def BW (s:List Int)(ts:List Table)(n:Int)(F:Int)(i:Nat)(c:Constraint):Bool:=
 Eg F c&&(MX n c||(decide ((i:Int)>=2*n)&&((c.Kind==1)&&y6 s ts c)))
def BX (cs:List Constraint)(i:Nat)(r:Range):Bool:=match cs[2*i]?,cs[2*i+1]? with
 |some a,some b=>s7 a.Row (i:Int) (-1) (aL (0-r.fq))&&s7 b.Row (i:Int) 1 r.fr
 | _,_=>false
theorem auu{s:List Int}{ts:List Table}{rs:List Range}{F:Int}{cs:List Constraint}(h2:2*rs.length<=cs.length):
  (allI (BX cs) rs&&allI (BW s ts rs.length F) cs)=allI (xz s ts rs F) cs:=by
 rw[EA,cm,H9,H9,H9];constructor
 ·rintro⟨al,hb⟩ k c hc
  have h1:=hb k c hc;unfold BW MX at h1;unfold xz;simp only[cm,j2,decide_eq_true_eq]at h1⊢;obtain⟨ag,hp⟩:=h1;refine⟨ag,?_,?_⟩
  ·rcases hp with⟨q1,q2,b3,cS⟩|⟨-,q1,q2⟩
   ·rw[q1];simp[q2,b3,cS]
   ·have:c.Kind=1:=by simpa using q1
    rw[this];simpa using q2
  ·by_cases hk:k/2<rs.length
   ·have hd:decide (k/2<rs.length)=true:=by simpa using hk
    rw[hd];simp only[cond_true,cm];have hr:rs[k/2]? =some rs[k/2]:=by simp[hk]
    have hs:=al (k/2) rs[k/2] hr;unfold BX at hs;split at hs
    ·rename_i a b ad e2
     rw[cm]at hs;refine⟨?_,?_⟩
     ·rcases hp with⟨q1,-⟩|⟨q1,-⟩
      ·exact q1
      ·exfalso;omega
     ·unfold MW
      rw[hr];simp only[];cases hm:k%2==0 with
      |true=>
       have:k%2=0:=by simpa using hm
       have e:2*(k/2)=k:=by omega
       rw[e,hc]at ad;cases ad;exact hs.1
      |false=>
       have:k%2≠0:=by simpa using hm
       have e:2*(k/2)+1=k:=by omega
       rw[e,hc]at e2;cases e2;exact hs.2
    ·cases hs
   ·have hd:decide (k/2<rs.length)=false:=by simpa using hk
    rw[hd];rfl
 ·intro h
  refine⟨fun i r hr=> ?_,fun k c hc=> ?_⟩
  ·have hi:=en hr
   have i1:2*i<cs.length:=by omega
   have i2:2*i+1<cs.length:=by omega
   have g1:cs[2*i]? =some cs[2*i]:=by simp[i1]
   have g2:cs[2*i+1]? =some cs[2*i+1]:=by simp[i2]
   have ak:=h (2*i) _ g1;have a2:=h (2*i+1) _ g2;have d1:2*i/2=i:=by omega
   have d2:(2*i+1)/2=i:=by omega
   have m1:(2*i%2==0)=true:=by simp
   have m2:((2*i+1)%2==0)=false:=by
    have:(2*i+1)%2=1:=by omega
    rw[this];rfl
   have hd:decide (i<rs.length)=true:=by simpa using hi
   unfold xz MW at ak a2;rw[d1,hd,hr,m1]at ak;rw[d2,hd,hr,m2]at a2;simp only[cond_true,cond_false,cm]at ak a2;unfold BX;rw[g1,g2];simp only[cm];exact⟨ak.2.2.2,a2.2.2.2⟩
  ·have a:=h k c hc
   unfold xz at a;unfold BW MX;simp only[cm,j2,decide_eq_true_eq]at a⊢;obtain⟨ag,hb,hs⟩:=a;refine⟨ag,?_⟩;cases rv:c.Kind==0 with
   |true=>
    rw[rv]at hb;simp only[cond_true,cm]at hb;exact .inl ⟨rfl,hb.1,hb.2.1,hb.2.2⟩
   |false=>
    right;rw[rv]at hb hs;simp only[cond_false,cm,EB]at hb hs;refine⟨?_,hb.1,hb.2⟩;by_cases hk:k/2<rs.length
    ·have hd:decide (k/2<rs.length)=true:=by simpa using hk
     rw[hd]at hs;cases hs
    ·omega
theorem afv (m:Model)(h1:bk m.aA.l)(h2:bk m.Tables.l)(hc:∀t∈m.Tables.l,bk t.aZ.l)(fM:∀t∈m.Tables.l,nH t.Name=some (kO t.Name))(af:gQ m.aA.l m.Tables.l=true):
  ∃x,A9 m=some x/\x.l=eD m.aA.l m.Tables.l true:=by
 obtain⟨x,ad,e2⟩:=afm m.aA m.Tables true h1 h2 hc fM;unfold A9;rw[af]at e2;exact⟨x,by rw[ad];rfl,e2⟩
theorem Tj{s:List Int}{ts:List Table}(af:gQ s ts=true)(b:Bool):(eD s ts b).length<=2592:=by
 obtain⟨q1,q2,b3,cS⟩:=r7 af;have:=Tg b3 b ts cS;omega
theorem auv (m:Model)(h1:bk m.aA.l)(h2:bk m.Tables.l)(fJ:∀t∈m.Tables.l,bk t.aZ.l)(fM:∀t∈m.Tables.l,nH t.Name=some (kO t.Name))(af:gQ m.aA.l m.Tables.l=true)
  (h:bk m.di.l) (hT:∀c∈m.di.l,bk c.Row.da.l):
  Lz m=some (BV m.aA.l m.Tables.l (eD m.aA.l m.Tables.l true) m.eg.len m.di.l):=by
 obtain⟨x,ex,el⟩:=afv m h1 h2 fJ fM af;have hr:=Tj af true;have jB:∀t∈m.Tables.l,kN m.aA.l.length t.aZ.l=true:=fun t ht=>q3 ((r7 af).2.2.2 t ht);unfold Lz BV;rw[ex];simp only[aS];rw[<-el]at hr⊢;have ad:decide (m.di.len>512)=!decide (m.di.l.length<=512):=by rw[dn];by_cases q:m.di.l.length<=512<;>simp[q]<;>omega
 have e2:decide (m.di.len<aL (2*x.len))=!decide (2*x.l.length<=m.di.l.length):=by
  rw[dn,dn,fF (by omega) (by omega)];by_cases q:2*x.l.length<=m.di.l.length<;>simp[q]<;>omega
 rw[ad,e2];cases aBM:decide (m.di.l.length<=512)with
 |false=>simp
 |true=>
  cases SH:decide (2*x.l.length<=m.di.l.length)with
  |false=>rfl
  |true=>
   have hge:2*x.l.length<=m.di.l.length:=by simpa using SH
   simp only[fZ,zx,cond_false,dy]
   rw[q0 (f:=G9 m x) (fun k s=>s=(k:Int)) (BX m.di.l) x.l (fun k r s hx bp _=>by
    subst bp;have aG:=en hx;have i1:2*k<m.di.l.length:=by omega
    have i2:2*k+1<m.di.l.length:=by omega
    have g1:m.di.l[2*k]? =some m.di.l[2*k]:=by simp[i1]
    have g2:m.di.l[2*k+1]? =some m.di.l[2*k+1]:=by simp[i2]
    have aH:aL (2*(k:Int))=((2*k:Nat):Int):=by rw[fF (by omega) (by omega)];omega
    have bQ:aL (((2*k:Nat):Int)+1)=((2*k+1:Nat):Int):=by rw[fF (by omega) (by omega)];omega
    have ag:G9 m x (k:Int)=bif BX m.di.l k r then some (.next (aL ((k:Int)+1)))else some (.out (.ret ())):=by
     simp only[G9,fk aG,cond_true,dc,hx,aS,aH,bQ,g1,g2,aft _ _ _ _ (hT _ (eZ g1)),aft _ _ _ _ (hT _ (eZ g2))];unfold BX;rw[g1,g2];simp only[];cases s7 m.di.l[2*k].Row (k:Int) (-1) (aL (0-r.fq))with
     |false=>rfl
     |true=>cases s7 m.di.l[2*k+1].Row (k:Int) 1 r.fr<;>rfl
    rw[ag];constructor
    ·intro a1
     rw[a1,eS (by omega)];exact⟨_,rfl,rfl⟩
    ·intro a1;rw[a1];rfl) (fun s bp=>by subst bp;simp only[G9,fQ,cond_false]) (s:=0) rfl]
   rw[<-auu hge];cases allI (BX m.di.l) x.l with
   |false=>rfl
   |true=>
    simp only[cond_true,aS,dy]
    rw[q0 (f:=Ha m x) (fun k s=>s=(k:Int)) (BW m.aA.l m.Tables.l x.l.length m.eg.len) m.di.l (fun k c s hx bp _=>by
     subst bp;have aG:=en hx;have dD:=eZ hx;have aH:aL (2*x.len)=2*(x.l.length:Int):=by rw[dn,fF (by omega) (by omega)]
     have ag:Ha m x (k:Int)=bif BW m.aA.l m.Tables.l x.l.length m.eg.len k c then some (.next (aL ((k:Int)+1)))else some (.out (.ret ())):=by
      simp only[Ha,fk aG,cond_true,dc,hx,aS,afo c.Row _ (hT c dD),aup m c h2 jB,aH];unfold BW Eg;have hlen:x.len=(x.l.length:Int):=rfl;rw[hlen];have oQ:decide (c.og<0)=!decide (c.og>=0):=by by_cases q:c.og<0<;>simp[q]<;>omega
      have nW:decide (c.og>=m.eg.len)=!decide (c.og<m.eg.len):=by by_cases q:c.og<m.eg.len<;>simp[q]<;>omega
      rw[oQ,nW];cases decide (c.og>=0)with
      |false=>rfl
      |true=>
       cases decide (c.og<m.eg.len)with
       |false=>rfl
       |true=>
        simp only[fZ,zx,cond_false,dy];unfold MX;cases c.Kind==0<;>cases c.cz==0<;>cases c.rK==0<;>cases r8 (x.l.length:Int) c.Row<;>cases decide ((k:Int)>=2*(x.l.length:Int))<;>cases c.Kind==1<;>cases y6 m.aA.l m.Tables.l c<;>rfl
     rw[ag];constructor
     ·intro a1
      rw[a1,eS (by unfold bk at h;omega)];exact⟨_,rfl,rfl⟩
     ·intro a1;rw[a1];rfl) (fun s bp=>by subst bp;simp only[Ha,fQ,cond_false]) (s:=0) rfl]
    cases allI (BW m.aA.l m.Tables.l x.l.length m.eg.len) m.di.l<;>rfl
end
end Go.Abs.bA
namespace Go.Abs.bA
open Go Go.Abs
noncomputable section
def uA (s:List Int):List Int->Int->List Int
 |[],_=>[]
 |x::r,k=>(k%et s x)::uA s r (k/et s x)
def uB (s:List Int):List Int->Int->Int
 |[],k=>k
 |x::r,k=>uB s r (k/et s x)
def s8 (s:List Int)(eu:List Int)(k:Int):List Int:=(uA s eu.reverse k).reverse
theorem afw (s:List Int)(y:Int):∀(l:List Int) (k:Int),uB s (l++[y]) k=uB s l k/et s y
 |[],k=>rfl
 |x::r,k=>afw s y r _
theorem afx (s:List Int)(y:Int):∀(l:List Int) (k:Int),uA s (l++[y]) k=uA s l k++[uB s l k%et s y]
 |[],k=>rfl
 |x::r,k=>by simp only[l4,uA,uB];rw[afx s y r]
theorem MY (s:List Int):∀(l:List Int) (k:Int),(uA s l k).length=l.length
 |[],k=>rfl
 |x::r,k=>by simp only[uA,iI,MY s r]
theorem afy{s:List Int}(hs:kM s=true):∀(l:List Int) (k:Int),(∀x∈l,0<=x/\x<s.length)->0<=k->0<=uB s l k/\uB s l k<=k
 |[],k,_,h=>⟨h,zy _⟩
 |x::r,k,hx,h=>by
  obtain⟨q1,q2⟩:=y4 hs (hx x (by simp)).1 (hx x (by simp)).2;have h1:0<=k/et s x:=Int.ediv_nonneg h (by omega);have h2:k/et s x<=k:=Int.ediv_le_self _ h;have:=afy hs r (k/et s x) (fun y hy=>hx y (by simp[hy])) h1;simp only[uB];omega
theorem afz{a b:Int}(al:0<=a)(hb:1<=b):Dk a b=some (a%b):=by
 unfold Dk;rw[if_neg (by omega),Int.tmod_eq_emod_of_nonneg al]
theorem afA{a b:Int}(al:0<=a)(hb:1<=b)(h:a<=1000000):Dj a b=some (a/b):=by
 unfold Dj;have h1:0<=a/b:=Int.ediv_nonneg al (by omega);have h2:a/b<=a:=Int.ediv_le_self _ al;rw[if_neg (by omega),Int.tdiv_eq_ediv_of_nonneg al,fF (by omega) (by omega)]
theorem auw{n j:Nat}(hj:j<n)(v:Int)(t:List Int):(List.replicate (n-j) 0++t).set (n-1-j) v=List.replicate (n-(j+1)) 0++(v::t):=by
 have e:n-j=(n-(j+1))+1:=by omega
 have e2:n-1-j=n-(j+1):=by omega
 rw[e,e2,Vm,kR,List.set_append_right _ _ (by simp)];simp
theorem afB{s:ae Int}{eu:ae Int}{f:(Int × Int × ae Int)->Option (cH (Int × Int × ae Int) (ae Int))}
  (Ij:∀(k:Int) (i:Nat) (t:ae Int) (x:Int),eu.l[i]? =some x->0<=k->k<=1000000->i<t.l.length->1<=et s.l x->f (k,(i:Int),t)=some (.next (k/et s.l x,aL ((i:Int)-1),p8 t (i:Int) (k%et s.l x))))
  (oV:∀(k:Int) (t:ae Int),f (k,-1,t)=some (.out t)) (hs:kM s.l=true) (hc:kN s.l.length eu.l=true) {d:Int} (h0:0<=d) (h1:d<=1000000) {z:ae Int} (aJ:z.l=List.replicate eu.l.length 0):
  ∃o,bW f (d,(eu.l.length:Int)-1,z)=some o/\o.l=s8 s.l eu.l d:=by
 obtain⟨q1,q2⟩:=xw hc;have qH:eu.l.reverse.length=eu.l.length:=ND;refine MI (f:=f) (fun j st=>∃t:ae Int,st=(uB s.l (eu.l.reverse.take j) d,(eu.l.length:Int)-1-j,t)/\t.l=List.replicate (eu.l.length-j) 0++(uA s.l (eu.l.reverse.take j) d).reverse) (fun o=>o.l=s8 s.l eu.l d) eu.l.reverse (fun j x st hx U=> ?_) (fun st U=> ?_) ⟨z,by simp[uB],by rw[aJ];simp[uA]⟩
 ·obtain⟨t,rfl,ht⟩:=U
  have hj:=en hx;rw[qH]at hj
  have s9:eu.l[eu.l.length-1-j]? =some x:=by
   rw[List.getElem?_reverse (by omega)]at hx;exact hx
  have y7:=q2 x (eZ s9);obtain⟨p1,p2⟩:=y4 hs y7.1 y7.2;have hb:=afy hs (eu.l.reverse.take j) d (fun y hy=>q2 y (List.mem_reverse.1 (Ew hy))) h0
  have aBN:t.l.length=eu.l.length:=by
   rw[ht,hO,vI,ND,MY,q9,qH];omega
  have auy:(eu.l.length:Int)-1-j=((eu.l.length-1-j:Nat):Int):=by omega
  have afC:eu.l.reverse.take (j+1)=eu.l.reverse.take j++[x]:=by rw[xN,hx];rfl
  rw[auy];refine⟨_,Ij _ _ t x s9 hb.1 (by omega) (by omega) p1,p8 t ((eu.l.length-1-j:Nat):Int) (uB s.l (eu.l.reverse.take j) d%et s.l x),?_,?_⟩
  ·rw[afC,afw]
   have:aL (((eu.l.length-1-j:Nat):Int)-1)=(eu.l.length:Int)-1-((j+1:Nat):Int):=by
    rw[fF (by omega) (by omega)];omega
   rw[this]
  ·show t.l.set _ _=_
   rw[ht,zq,auw hj,afC,afx,List.reverse_append];rfl
 ·obtain⟨t,rfl,ht⟩:=U
  rw[qH];have e:(eu.l.length:Int)-1-(eu.l.length:Nat)=-1:=by omega
  rw[e];refine⟨t,oV _ t,?_⟩;rw[ht,qH,<-qH,Ci];simp[s8]
theorem afD (n:Nat)(h:n<=1000000):∃z,yu 8 (0:Int) (n:Int)=some z/\z.l=List.replicate n 0:=by
 unfold yu;rw[if_pos ⟨by omega,by omega⟩];by_cases hn:(n:Int)=0
 ·have:n=0:=by omega
  subst this;exact⟨_,rfl,rfl⟩
 ·rw[if_neg hn]
  exact⟨_,rfl,rfl⟩
def kP (s:List Int)(b:Bool)(c:Int)(t:Table):Bool:=(gx t==b)&&(decide (aL (c-t.cz)>=0)&&decide (aL (c-t.cz)<wid s t.aZ.l))
theorem afE{α:Type}{p:α->Bool}{xs:List α}(h:∀x∈xs,p x=false):xs.findIdx? p=none:=by
 rw[List.findIdx?_eq_none_iff];exact h
theorem Ik{α:Type}{p:α->Bool}:∀{xs:List α} {k:Nat} {x:α},(∀j y,j<k->xs[j]? =some y->p y=false)->xs[k]? =some x->p x=true->xs.findIdx? p=some k
 |[],k,x,_,hx,_=>by cases hx
 |y::r,0,x,_,hx,hp=>by
  simp only[nO,aD]at hx;subst hx;rw[Vu,if_pos hp]
 |y::r,k+1,x,h,hx,hp=>by
  have h0:=h 0 y (by omega) rfl;rw[Vu,h0,if_neg (by simp),Ik (k:=k) (x:=x) (fun j z hj aJ=>h (j+1) z (by omega) (by simpa using aJ)) (by simpa using hx) hp];rfl
structure afF (s:List Int) (ts:List Table) (b:Bool) (c:Int) (r:Int × ae Int × Bool):Prop where
 no:(gQ s ts=false\/c<0\/ts.findIdx? (kP s b c)=none)->r=(0,.nil,false)
 yes:∀i t,gQ s ts=true->0<=c->ts.findIdx? (kP s b c)=some i->ts[i]? =some t->r.1=(i:Int)/\r.2.2=true/\r.2.1.l=s8 s t.aZ.l (aL (c-t.cz))
theorem afG (s:ae Int)(ts:ae Table)(b:Bool)(c:Int)(h1:bk s.l)(h2:bk ts.l)(hc:∀t∈ts.l,bk t.aZ.l):∃r,ml s ts b c=some r/\afF s.l ts.l b c r:=by
 unfold ml;rw[MO s ts h1 h2 hc];simp only[aS];cases af:gQ s.l ts.l with
 |false=>exact⟨_,rfl,⟨fun _=>rfl,fun i t h=>by rw[af]at h;cases h⟩⟩
 |true=>
  simp only[cond_true,aS];by_cases h0:c<0
  ·have hd:decide (c<0)=true:=by simpa using h0
   rw[hd];exact⟨_,rfl,⟨fun _=>rfl,fun i t _ h=>by omega⟩⟩
  ·have hd:decide (c<0)=false:=by simpa using h0
   rw[hd];simp only[cond_false];obtain⟨q1,q2,b3,cS⟩:=r7 af
   obtain⟨o,ad,e2⟩:=y2 (f:=GC s ts b c) (fun k st=>st=(k:Int)/\∀j y,j<k->ts.l[j]? =some y->kP s.l b c y=false)
    (fun o=>match o with
      | .go _=>ts.l.findIdx? (kP s.l b c)=none
      | .ret p=>∃(i:Nat) (t:Table),ts.l.findIdx? (kP s.l b c)=some i/\ts.l[i]? =some t/\p.1=(i:Int)/\p.2.l=s8 s.l t.aZ.l (aL (c-t.cz))) ts.l (fun k t st hx U=>by
    obtain⟨rfl,je⟩:=U;have aG:=en hx;have dD:=eZ hx;have jB:=q3 (cS t dD);have hw:=s6 b3 jB
    have eB:(((AM t).bind fun lX=>(bif (lX==b)then(bif (decide ((aL (c-t.cz))<0))then some true else((ud s t.aZ).bind fun jz=>some (decide ((aL (c-t.cz))>=jz))))else some true)):Option Bool)=some (!kP s.l b c t):=by
     rw[ML,Tb s t.aZ b3 jB];unfold kP;simp only[aS];cases gx t==b with
     |false=>rfl
     |true=>
      simp only[cond_true,dy];by_cases g1:aL (c-t.cz)<0
      ·have a:decide (aL (c-t.cz)<0)=true:=by simpa using g1
       have a2:decide (aL (c-t.cz)>=0)=false:=by simp;omega
       rw[a,a2];rfl
      ·have a:decide (aL (c-t.cz)<0)=false:=by simpa using g1
       have a2:decide (aL (c-t.cz)>=0)=true:=by simp;omega
       rw[a,a2];by_cases g2:aL (c-t.cz)<wid s.l t.aZ.l
       ·have b1:decide (aL (c-t.cz)<wid s.l t.aZ.l)=true:=by simpa using g2
        have e8:decide (aL (c-t.cz)>=wid s.l t.aZ.l)=false:=by simp;omega
        rw[b1,e8];rfl
       ·have b1:decide (aL (c-t.cz)<wid s.l t.aZ.l)=false:=by simpa using g2
        have e8:decide (aL (c-t.cz)>=wid s.l t.aZ.l)=true:=by simp;omega
        rw[b1,e8];rfl
    have ag:GC s ts b c (k:Int)=bif !kP s.l b c t then some (.next (aL ((k:Int)+1)))else((yu 8 0 t.aZ.len).bind fun GD=>((bW (K7 s t) ((aL (c-t.cz)),(aL (GD.len-1)),GD):Option ((ae Int))).bind fun Q6=>some (.out (.ret ((k:Int),Q6))))):=by
     simp only[GC,fk aG,cond_true,dc,hx,aS];rw[eB];rfl
    rw[ag];cases c7:kP s.l b c t with
    |false=>
     left;refine⟨_,rfl,?_,fun j y hj hy=> ?_⟩
     ·exact eS (by omega)
     ·by_cases e:j=k
      ·subst e;rw[hx]at hy;cases hy;exact c7
      ·exact je j y (by omega) hy
    |true=>
     right;simp only[fZ,cond_false];have BZ:=c7;unfold kP at BZ;simp only[cm,decide_eq_true_eq]at BZ;obtain⟨fw,gV⟩:=xw jB;obtain⟨z,qD,xA⟩:=afD t.aZ.l.length (by omega);have auz:z.len=(t.aZ.l.length:Int):=by rw[dn,xA,vI]
     obtain⟨o,g1,g2⟩:=afB (s:=s) (eu:=t.aZ) (f:=K7 s t) (fun k i B0 x s9 hk zS hit dr=>by
      have y7:=gV x (eZ s9);have E7:decide ((i:Int)>=0)=true:=by simp
      have Tk:B0.l[i]? =some B0.l[i]:=by simp[hit]
      simp only[K7,E7,cond_true,dc,s9,aS,y3 y7.1 y7.2,afz hk dr,afA hk dr zS,Tk]) (fun k B0=>rfl) b3 jB BZ.2.1 (by omega) xA
     have auA:aL (z.len-1)=(t.aZ.l.length:Int)-1:=by rw[auz,fF (by omega) (by omega)]
     refine⟨.ret ((k:Int),o),?_,k,t,Ik je hx c7,hx,rfl,g2⟩;have:t.aZ.len=((t.aZ.l.length:Nat):Int):=rfl;rw[this,qD];simp only[aS];rw[auA,g1];rfl) (fun st U=>by
    obtain⟨rfl,je⟩:=U;refine⟨.go (),by simp only[GC,fQ,cond_false],afE fun x hx=> ?_⟩;obtain⟨j,hj⟩:=py.1 hx;exact je j x (en hj) hj) (s:=0) ⟨rfl,fun j y hj=>by omega⟩
   cases o with
   |go u=>
    refine⟨_,by rw[ad];rfl,⟨fun _=>rfl,fun i t _ _ hi=> ?_⟩⟩;simp only at e2;rw[e2]at hi;cases hi
   |ret p=>
    obtain⟨i,t,ak,a2,a3,a4⟩:=e2;refine⟨_,by rw[ad];rfl,⟨fun h=> ?_,fun zC ed _ _ hi ht=> ?_⟩⟩
    ·rcases h with h|h|h
     ·rw[af]at h;cases h
     ·omega
     ·rw[ak]at h;cases h
    ·rw[ak]at hi;cases hi;rw[a2]at ht;cases ht
     exact⟨a3,rfl,a4⟩
theorem auB{s eu:ae Int}(hs:kM s.l=true)(hc:kN s.l.length eu.l=true){d:Int}(h0:0<=d)(h1:d<=1000000):∃o,He s eu d=some o/\o.l=s8 s.l eu.l d:=by
 obtain⟨fw,gV⟩:=xw hc;obtain⟨z,qD,xA⟩:=afD eu.l.length (by omega)
 obtain⟨o,g1,g2⟩:=afB (s:=s) (eu:=eu) (f:=Rv s eu) (fun k i B0 x s9 hk zS hit dr=>by
  have y7:=gV x (eZ s9);have E7:decide ((i:Int)>=0)=true:=by simp
  have Tk:B0.l[i]? =some B0.l[i]:=by simp[hit]
  simp only[Rv,E7,cond_true,dc,s9,aS,y3 y7.1 y7.2,afz hk dr,afA hk dr zS,Tk]) (fun k B0=>rfl) hs hc h0 h1 xA
 refine⟨o,?_,g2⟩;unfold He;have:eu.len=((eu.l.length:Nat):Int):=rfl;rw[this,qD];simp only[aS];rw[fF (by omega) (by omega),g1];rfl
theorem afH (s:ae Int)(ts:ae Table)(b:Bool)(c:Int)(h1:bk s.l)(h2:bk ts.l)(hc:∀t∈ts.l,bk t.aZ.l)(fM:∀t∈ts.l,nH t.Name=some (kO t.Name)):∃r,Bb s ts b c=some r/\afF s.l ts.l b c r:=by
 unfold Bb;rw[MQ s ts h1 h2 hc fM];simp only[aS];cases af:gQ s.l ts.l with
 |false=>exact⟨_,rfl,⟨fun _=>rfl,fun i t h=>by rw[af]at h;cases h⟩⟩
 |true=>
  simp only[cond_true,aS];obtain⟨q1,q2,b3,cS⟩:=r7 af
  obtain⟨o,ad,e2⟩:=y2 (f:=Hf s ts b c) (fun k st=>st=(k:Int)/\∀j y,j<k->ts.l[j]? =some y->(decide (c>=0)&&kP s.l b c y)=false)
   (fun o=>match o with
     | .go _=>c<0\/ts.l.findIdx? (kP s.l b c)=none
     | .ret p=>0<=c/\∃(i:Nat) (t:Table),ts.l.findIdx? (kP s.l b c)=some i/\ts.l[i]? =some t/\p.1=(i:Int)/\p.2.l=s8 s.l t.aZ.l (aL (c-t.cz))) ts.l (fun k t st hx U=>by
   obtain⟨rfl,je⟩:=U;have aG:=en hx;have dD:=eZ hx;have jB:=q3 (cS t dD);have hw:=s6 b3 jB;have MT:yK s t.aZ=some (wid s.l t.aZ.l):=by rw[Tf s t.aZ h1 (hc t dD)];unfold Ie;rw[b3,jB];rfl
   have ag:Hf s ts b c (k:Int)=bif (decide (c>=0)&&kP s.l b c t)then((He s t.aZ (aL (c-t.cz))).bind fun Ba=>some (.out (.ret ((k:Int),Ba))))else some (.next (aL ((k:Int)+1))):=by
    simp only[Hf,fk aG,cond_true,dc,hx,aS,MT];have ca:A2 t.Kind=some (gx t):=rfl;rw[ca];simp only[aS];unfold kP;cases gx t==b with
    |false=>simp
    |true=>
     cases decide (c>=0)with
     |false=>rfl
     |true=>
      cases decide (aL (c-t.cz)>=0)with
      |false=>rfl
      |true=>cases decide (aL (c-t.cz)<wid s.l t.aZ.l)<;>rfl
   rw[ag];cases c7:(decide (c>=0)&&kP s.l b c t)with
   |false=>
    left;refine⟨_,rfl,eS (by omega),fun j y hj hy=> ?_⟩;by_cases e:j=k
    ·subst e;rw[hx]at hy;cases hy;exact c7
    ·exact je j y (by omega) hy
   |true=>
    right;rw[cm,decide_eq_true_eq]at c7;have BZ:=c7.2;unfold kP at BZ;simp only[cm,decide_eq_true_eq]at BZ;obtain⟨o,g1,g2⟩:=auB (s:=s) (eu:=t.aZ) b3 jB (d:=aL (c-t.cz)) BZ.2.1 (by omega)
    have auC:∀j y,j<k->ts.l[j]? =some y->kP s.l b c y=false:=fun j y hj hy=>by
     have:=je j y hj hy;have hd:decide (c>=0)=true:=by simpa using c7.1
     rw[hd,dy]at this;exact this
    exact⟨.ret ((k:Int),o),by rw[g1];rfl,c7.1,k,t,Ik auC hx c7.2,hx,rfl,g2⟩) (fun st U=>by
   obtain⟨rfl,je⟩:=U;refine⟨.go (),by simp only[Hf,fQ,cond_false],?_⟩;by_cases hc0:c<0
   ·exact .inl hc0
   ·refine .inr (afE fun x hx=> ?_)
    obtain⟨j,hj⟩:=py.1 hx;have:=je j x (en hj) hj;have hd:decide (c>=0)=true:=by simp;omega
    rw[hd,dy]at this;exact this) (s:=0) ⟨rfl,fun j y hj=>by omega⟩
  cases o with
  |go u=>
   refine⟨_,by rw[ad];rfl,⟨fun _=>rfl,fun i t _ h0 hi=> ?_⟩⟩;simp only at e2;rcases e2 with e2|e2
   ·omega
   ·rw[e2]at hi;cases hi
  |ret p=>
   obtain⟨h0,i,t,ak,a2,a3,a4⟩:=e2;refine⟨_,by rw[ad];rfl,⟨fun h=> ?_,fun zC ed _ _ hi ht=> ?_⟩⟩
   ·rcases h with h|h|h
    ·rw[af]at h;cases h
    ·omega
    ·rw[ak]at h;cases h
   ·rw[ak]at hi;cases hi;rw[a2]at ht;cases ht
    exact⟨a3,rfl,a4⟩
end
end Go.Abs.bA
namespace Go.Abs.bA
open Go Go.Abs
noncomputable section
def vv (n:Int)(xs:List Change)(k:Nat)(c:Change):Bool:=!(decide (c.Cell<=jg Change.Cell xs k))&&(!(decide (c.Cell>=n))&&(!(c.Add==0)&&pq c.Add 1000000000))
def MZ (t:Table):Bool:=(t.Kind==2)||(t.Kind==3)
def Tl (u:kH)(t:Table):Bool:=bif MZ t then((u.Kind==0)||(u.Kind==1))&&(u.Value==0)else(u.Kind==2)&&(decide (u.Value>=t.Range.fq)&&decide (u.Value<=t.Range.fr))
def Il (s:List Int)(ts:List Table)(u:kH):Bool:=bif decide (u.Cell<0)then false else match ts.findIdx? (kP s false u.Cell)with
 |some i=>match ts[i]? with
  |some t=>Tl u t
  |none=>false
 |none=>false
def vw (s:List Int)(ts:List Table)(us:List kH)(k:Nat)(u:kH):Bool:=!(decide (u.Cell<=jg kH.Cell us k))&&Il s ts u
def B1 (s:List Int)(ts:List Table)(n:Int)(x:dV):Bool:=
 allI (vv n x.Delta.l) x.Delta.l&&(allI (vw s ts x.e4.l) x.e4.l&&(decide (x.fX.l.length<=8)&&(decide (x.e4.l.length<=32)&&x.fX.l.all (r8 n))))
theorem Tm{α:Type}{p:α->Bool}:∀{xs:List α} {i:Nat},xs.findIdx? p=some i->∃x,xs[i]? =some x
 |[],i,h=>by cases h
 |y::r,i,h=>by
  rw[Vu]at h;split at h
  ·cases h;exact⟨y,rfl⟩
  ·obtain⟨j,hj,rfl⟩:=cD.1 h
   obtain⟨x,hx⟩:=Tm hj;exact⟨x,by simpa using hx⟩
theorem auD (j:eh)(u:kH)(h1:bk j.Model.aA.l)(h2:bk j.Model.Tables.l)(hc:∀t∈j.Model.Tables.l,bk t.aZ.l)(af:gQ j.Model.aA.l j.Model.Tables.l=true):
  GF j u=some (Il j.Model.aA.l j.Model.Tables.l u):=by
 obtain⟨r,ad,je,Tn⟩:=afG j.Model.aA j.Model.Tables false u.Cell h1 h2 hc;unfold GF Il;rw[ad];simp only[aS];by_cases h0:u.Cell<0
 ·have hd:decide (u.Cell<0)=true:=by simpa using h0
  rw[hd,je (.inr (.inl h0))];rfl
 ·have hd:decide (u.Cell<0)=false:=by simpa using h0
  rw[hd];simp only[cond_false];cases hi:j.Model.Tables.l.findIdx? (kP j.Model.aA.l false u.Cell)with
  |none=>rw[je (.inr (.inr hi))];rfl
  |some i=>
   obtain⟨t,ht⟩:=Tm hi;obtain⟨ak,a2,-⟩:=Tn i t af (by omega) hi ht;rw[ak,a2];simp only[cond_true,dc,ht,aS];unfold Tl MZ;cases t.Kind==2 with
   |true=>
    simp only[cond_true,aS,Bool.true_or];cases u.Kind==0 with
    |true=>cases u.Kind==1<;>rfl
    |false=>rfl
   |false=>
    simp only[cond_false,aS,tj];cases t.Kind==3 with
    |true=>
     simp only[cond_true];cases u.Kind==0 with
     |true=>cases u.Kind==1<;>rfl
     |false=>rfl
    |false=>rfl
theorem auE (xs:ae Row)(h:bk xs.l){f:Row->Option Bool}{p:Row->Bool}(ag:∀x∈xs.l,f x=some (p x)):K8 xs f=some (xs.l.any p):=Ia xs h ag
theorem B2{α:Type}(x:ae α)(n:Nat):decide (x.len<=(n:Int))=decide (x.l.length<=n):=decide_eq_decide.2 (by rw[dn];omega)
theorem auF (j:eh)(x:dV)(h1:bk j.Model.aA.l)(h2:bk j.Model.Tables.l)(hc:∀t∈j.Model.Tables.l,bk t.aZ.l)(af:gQ j.Model.aA.l j.Model.Tables.l=true)
  (me:bk x.Delta.l) (a6:bk x.e4.l) (hH:bk x.fX.l) (U:∀r∈x.fX.l,bk r.da.l):
  GK j x=some (B1 j.Model.aA.l j.Model.Tables.l j.strict.len x):=by
 unfold GK B1
 rw[q0 (f:=GI j x) (fun k s=>s=(jg Change.Cell x.Delta.l k,(k:Int))) (vv j.strict.len x.Delta.l) x.Delta.l (fun k c s hx bp _=>by
  subst bp;have aG:=en hx
  have ag:GI j x (jg Change.Cell x.Delta.l k,(k:Int))=bif vv j.strict.len x.Delta.l k c then some (.next (c.Cell,aL ((k:Int)+1)))else some (.out (.ret ())):=by
   simp only[GI,fk aG,cond_true,dc,hx,aS,MU c.Add 1000000000 (by omega)];unfold vv;cases decide (c.Cell<=jg Change.Cell x.Delta.l k)with
   |true=>rfl
   |false=>
    cases decide (c.Cell>=j.strict.len)with
    |true=>rfl
    |false=>
     cases c.Add==0 with
     |true=>rfl
     |false=>cases pq c.Add 1000000000<;>rfl
  rw[ag];constructor
  ·intro a1
   rw[a1,eS (by unfold bk at me;omega)];exact⟨_,rfl,by rw[BS Change.Cell hx]⟩
  ·intro a1;rw[a1];rfl) (fun s bp=>by subst bp;simp only[GI,fQ,cond_false]) (s:=(-1,0)) rfl]
 cases allI (vv j.strict.len x.Delta.l) x.Delta.l with
 |false=>rfl
 |true=>
  simp only[cond_true,aS,dy]
  rw[q0 (f:=GJ j x) (fun k s=>s=(jg kH.Cell x.e4.l k,(k:Int))) (vw j.Model.aA.l j.Model.Tables.l x.e4.l) x.e4.l (fun k c s hx bp _=>by
   subst bp;have aG:=en hx
   have ag:GJ j x (jg kH.Cell x.e4.l k,(k:Int))=bif vw j.Model.aA.l j.Model.Tables.l x.e4.l k c then some (.next (c.Cell,aL ((k:Int)+1)))else some (.out (.ret ())):=by
    simp only[GJ,fk aG,cond_true,dc,hx,aS,auD j c h1 h2 hc af];unfold vw;cases decide (c.Cell<=jg kH.Cell x.e4.l k)with
    |true=>rfl
    |false=>cases Il j.Model.aA.l j.Model.Tables.l c<;>rfl
   rw[ag];constructor
   ·intro a1
    rw[a1,eS (by unfold bk at a6;omega)];exact⟨_,rfl,by rw[BS kH.Cell hx]⟩
   ·intro a1;rw[a1];rfl) (fun s bp=>by subst bp;simp only[GJ,fQ,cond_false]) (s:=(-1,0)) rfl]
  cases allI (vw j.Model.aA.l j.Model.Tables.l x.e4.l) x.e4.l with
  |false=>rfl
  |true=>
   simp only[cond_true,aS,dy]
   rw[auE x.fX hH (f:=fun z0=>GH j z0) (p:=fun r=>!r8 j.strict.len r) (fun r hr=>by
    unfold GH;rw[afn j r (U r hr)];rfl)]
   have ad:decide (x.fX.len<=8)=decide (x.fX.l.length<=8):=B2 x.fX 8;have e2:decide (x.e4.len<=32)=decide (x.e4.l.length<=32):=B2 x.e4 32;rw[ad,e2,px];cases decide (x.fX.l.length<=8)with
   |false=>rfl
   |true=>cases decide (x.e4.l.length<=32)<;>rfl
theorem auG (m:Model)(x:dV)(h1:bk m.aA.l)(h2:bk m.Tables.l)(hc:∀t∈m.Tables.l,bk t.aZ.l)(fM:∀t∈m.Tables.l,nH t.Name=some (kO t.Name))(af:gQ m.aA.l m.Tables.l=true)
  (me:bk x.Delta.l) (a6:bk x.e4.l) (hH:bk x.fX.l) (U:∀r∈x.fX.l,bk r.da.l):
  LD m x=some (B1 m.aA.l m.Tables.l (eD m.aA.l m.Tables.l true).length x):=by
 obtain⟨y,jr,el⟩:=afv m h1 h2 hc fM af;unfold LD B1;rw[jr];simp only[aS];rw[<-el];have hn:y.len=(y.l.length:Int):=rfl
 rw[q0 (f:=Hg x y) (fun k s=>s=(k:Int)) (vv y.l.length x.Delta.l) x.Delta.l (fun k c s hx bp hp=>by
  subst bp;have aG:=en hx
  have jL:-1<=jg Change.Cell x.Delta.l k:=MJ fun j z hj aJ=>by
   have:=hp j z hj aJ;unfold vv at this;simp only[cm,oB,decide_eq_false_iff_not]at this;omega
  have ag:Hg x y (k:Int)=bif vv y.l.length x.Delta.l k c then some (.next (aL ((k:Int)+1)))else some (.out (.ret ())):=by
   simp only[Hg,fk aG,cond_true,dc,hx,aS,MV c.Add 1000000000 (by omega),hn];unfold vv;by_cases h0:c.Cell<0
   ·have:decide (c.Cell<=jg Change.Cell x.Delta.l k)=true:=by simp;omega
    simp[h0,this]
   ·have fP:decide (c.Cell<0)=false:=by simpa using h0
    rw[fP];by_cases h1:c.Cell>=(y.l.length:Int)
    ·have q1:decide (c.Cell>=(y.l.length:Int))=true:=by simpa using h1
     rw[q1];simp
    ·have q1:decide (c.Cell>=(y.l.length:Int))=false:=by simpa using h1
     rw[q1];simp only[cond_false];cases k with
     |zero=>
      have:decide (c.Cell<=jg Change.Cell x.Delta.l 0)=false:=by rw[decide_eq_false_iff_not];show ¬(c.Cell<=-1);omega
      rw[this];simp only[show decide (((0:Nat):Int)>0)=false from rfl,cond_false];cases c.Add==0 with
      |true=>rfl
      |false=>cases pq c.Add 1000000000<;>rfl
     |succ k=>
      have hk:k<x.Delta.l.length:=by omega
      have aJ:x.Delta.l[k]? =some x.Delta.l[k]:=by simp[hk]
      have uz:decide ((((k+1:Nat)):Int)>0)=true:=decide_eq_true (by omega);have hw:aL (((k+1:Nat):Int)-1)=(k:Int):=Ef (by unfold bk at me;omega);rw[uz,hw,BS Change.Cell aJ];simp only[cond_true,dc,aJ,aS];have:decide (x.Delta.l[k].Cell>=c.Cell)=decide (c.Cell<=x.Delta.l[k].Cell):=rfl;rw[this];cases decide (c.Cell<=x.Delta.l[k].Cell)with
      |true=>rfl
      |false=>
       cases c.Add==0 with
       |true=>rfl
       |false=>cases pq c.Add 1000000000<;>rfl
  rw[ag];constructor
  ·intro a1
   rw[a1,eS (by unfold bk at me;omega)];exact⟨_,rfl,rfl⟩
  ·intro a1;rw[a1];rfl) (fun s bp=>by subst bp;simp only[Hg,fQ,cond_false]) (s:=0) rfl]
 cases allI (vv y.l.length x.Delta.l) x.Delta.l with
 |false=>rfl
 |true=>
  simp only[cond_true,aS,dy]
  rw[mw (f:=LB x y) x.fX.l hH (fun r=>!r8 y.l.length r) (fun k r hr=>by
   simp only[LB,fk (en hr),cond_true,dc,hr,aS,hn,afo r (y.l.length:Int) (U r (eZ hr))];cases r8 (y.l.length:Int) r<;>rfl) (by simp only[LB,fQ,cond_false])]
  rw[px];cases hA:x.fX.l.any (fun r=>!r8 (y.l.length:Int) r)with
  |true=>simp
  |false=>
   simp only[cond_false,aS,pA,sj]
   rw[q0 (f:=Hh m x) (fun k s=>s=(k:Int)) (vw m.aA.l m.Tables.l x.e4.l) x.e4.l (fun k u s hx bp hp=>by
    subst bp;have aG:=en hx
    have jL:-1<=jg kH.Cell x.e4.l k:=MJ fun j z hj aJ=>by
     have:=hp j z hj aJ;unfold vw at this;simp only[cm,oB,decide_eq_false_iff_not]at this;omega
    obtain⟨r,ad,je,Tn⟩:=afH m.aA m.Tables false u.Cell h1 h2 hc fM
    have ag:Hh m x (k:Int)=bif vw m.aA.l m.Tables.l x.e4.l k u then some (.next (aL ((k:Int)+1)))else some (.out (.ret ())):=by
     simp only[Hh,fk aG,cond_true,dc,hx,aS,ad];unfold vw Il;by_cases h0:u.Cell<0
     ·have hd:decide (u.Cell<0)=true:=by simpa using h0
      rw[hd,je (.inr (.inl h0))];simp
     ·have hd:decide (u.Cell<0)=false:=by simpa using h0
      rw[hd];simp only[cond_false];cases hi:m.Tables.l.findIdx? (kP m.aA.l false u.Cell)with
      |none=>rw[je (.inr (.inr hi))];simp
      |some i=>
       obtain⟨t,ht⟩:=Tm hi;obtain⟨ak,a2,-⟩:=Tn i t af (by omega) hi ht
       have auH:(bif (decide ((k:Int)>0))then((aO x.e4.l (aL ((k:Int)-1))).bind fun GO=>some (decide (GO.Cell>=u.Cell)))else some false:Option Bool)=some (decide (u.Cell<=jg kH.Cell x.e4.l k)):=by
        cases k with
        |zero=>
         have:decide (u.Cell<=jg kH.Cell x.e4.l 0)=false:=by rw[decide_eq_false_iff_not];show ¬(u.Cell<=-1);omega
         rw[this];rfl
        |succ k=>
         have hk:k<x.e4.l.length:=by omega
         have aJ:x.e4.l[k]? =some x.e4.l[k]:=by simp[hk]
         have uz:decide ((((k+1:Nat)):Int)>0)=true:=decide_eq_true (by omega);have hw:aL (((k+1:Nat):Int)-1)=(k:Int):=Ef (by unfold bk at a6;omega);rw[uz,hw,BS kH.Cell aJ];simp only[cond_true,dc,aJ,aS]
       rw[ak,a2];simp only[cond_true];rw[auH];simp only[aS,dc,ht];cases decide (u.Cell<=jg kH.Cell x.e4.l k)with
       |true=>rfl
       |false=>
        have mb:LA t.Kind=some (MZ t):=rfl;simp only[cond_false,mb,aS,pA,dy];unfold Tl;cases MZ t with
        |true=>
         simp only[cond_true,bne];cases u.Kind==0<;>cases u.Kind==1<;>cases u.Value==0<;>rfl
        |false=>
         simp only[cond_false,bne,aS];cases u.Kind==2 with
         |false=>rfl
         |true=>
          have b1:decide (u.Value<t.Range.fq)=!decide (u.Value>=t.Range.fq):=by by_cases q:u.Value<t.Range.fq<;>simp[q]<;>omega
          have e8:decide (u.Value>t.Range.fr)=!decide (u.Value<=t.Range.fr):=by by_cases q:u.Value<=t.Range.fr<;>simp[q]<;>omega
          rw[b1,e8];cases decide (u.Value>=t.Range.fq)<;>cases decide (u.Value<=t.Range.fr)<;>rfl
    rw[ag];constructor
    ·intro a1
     rw[a1,eS (by unfold bk at a6;omega)];exact⟨_,rfl,rfl⟩
    ·intro a1;rw[a1];rfl) (fun s bp=>by subst bp;simp only[Hh,fQ,cond_false]) (s:=0) rfl]
   have ad:decide (x.fX.len<=8)=decide (x.fX.l.length<=8):=B2 x.fX 8;have e2:decide (x.e4.len<=32)=decide (x.e4.l.length<=32):=B2 x.e4 32;rw[ad,e2];cases allI (vw m.aA.l m.Tables.l x.e4.l) x.e4.l<;>rfl
end
end Go.Abs.bA
namespace Go.Abs.bA
open Go Go.Abs
noncomputable section
theorem q4 (a b:Int):decide (a<b)=!decide (a>=b):=by
 by_cases q:a<b
 ·rw[decide_eq_true q,decide_eq_false (by omega)];rfl
 ·rw[decide_eq_false q,decide_eq_true (by omega)];rfl
theorem afI (a b:Int):decide (a>b)=!decide (a<=b):=by
 by_cases q:a>b
 ·rw[decide_eq_true q,decide_eq_false (by omega)];rfl
 ·rw[decide_eq_false q,decide_eq_true (by omega)];rfl
theorem kQ{α:Type}(x:ae α)(n:Nat):decide (x.len>(n:Int))=!decide (x.l.length<=n):=by
 rw[afI];congr 1;exact decide_eq_decide.2 (by rw[dn];omega)
def y8 (n:Nat)(s:Int):Bool:=decide (s>=-1)&&decide (s<n)
def nk (n:Nat)(o:c0):Bool:=decide (o.aA.l.length<=3)&&o.aA.l.all (y8 n)
def y9 (n:Nat)(ops:List c0):Bool:=ops.all (nk n)&&(decide (ops.length<=8)&&xy (ops.map c0.Name))
theorem auI (j:eh)(h:j.Model.Operations.l.length<=100000)(aC:∀o∈j.Model.Operations.l,bk o.aA.l):GA j=some (y9 j.Model.aA.l.length j.Model.Operations.l):=by
 unfold GA y9
 obtain⟨o,ad,e2⟩:=y2 (f:=Gz j) (fun k st=>∃a:ae ck,st=((k:Int),a)/\a.l=(j.Model.Operations.l.take k).map c0.Name/\(j.Model.Operations.l.take k).all (nk j.Model.aA.l.length)=true)
  (fun o=>match o with
    | .go a=>j.Model.Operations.l.all (nk j.Model.aA.l.length)=true/\a.l=j.Model.Operations.l.map c0.Name
    | .ret _=>j.Model.Operations.l.all (nk j.Model.aA.l.length)=false) j.Model.Operations.l (fun k o st hx U=>by
    obtain⟨a,rfl,al,eC⟩:=U;have aG:=en hx;have dD:=eZ hx;have kF:a.l.length<=100000:=by rw[al,gR,q9];omega
    obtain⟨y,jr,rY⟩:=BT (ni:=16) (x:=a) (y:=ae.mk [o.Name]) (by omega) (by show a.l.length+1<=_;omega)
    have oW:=Ta o.aA (aC o dD) (f:=fun z0=>Gy j z0) (p:=fun s=>!y8 j.Model.aA.l.length s) (fun s hs=>by
     unfold Gy y8;rw[dn,q4,show decide (s>=(j.Model.aA.l.length:Int))=!decide (s<(j.Model.aA.l.length:Int))from by rw[q4];simp];cases decide (s>=-1)<;>cases decide (s<(j.Model.aA.l.length:Int))<;>rfl)
    have ag:Gz j ((k:Int),a)=bif nk j.Model.aA.l.length o then some (.next ((aL ((k:Int)+1)),y))else some (.out (.ret ())):=by
     simp only[Gz,fk aG,cond_true,dc,hx,aS,jr,oW];rw[show decide (o.aA.len>3)=!decide (o.aA.l.length<=3)from kQ o.aA 3];unfold nk;rw[px];cases decide (o.aA.l.length<=3)with
     |false=>rfl
     |true=>cases o.aA.l.any (fun s=>!y8 j.Model.aA.l.length s)<;>rfl
    rw[ag];cases db:nk j.Model.aA.l.length o with
    |true=>
     left;refine⟨_,rfl,y,by rw[eS (by omega)],?_,?_⟩
     ·rw[rY,al,xN,hx];simp[ae.l]
     ·rw[xN,hx];simp[List.all_append,db];simpa using eC
    |false=>
     refine .inr ⟨.ret (),rfl,?_⟩;show List.all _ _=false;rw[List.all_eq_false];exact⟨o,dD,by rw[db];simp⟩) (fun st U=>by
    obtain⟨a,rfl,al,eC⟩:=U;rw[Ci]at al eC;exact⟨.go a,by simp only[Gz,fQ,cond_false],eC,al⟩) (s:=(0,.nil)) ⟨.nil,rfl,rfl,rfl⟩
 rw[ad];simp only[aS];cases o with
 |ret u=>simp only at e2;rw[e2];rfl
 |go a=>
  obtain⟨q1,q2⟩:=e2;have kF:a.l.length=j.Model.Operations.l.length:=by rw[q2,gR]
  simp only[];rw[q1,afp a (by unfold bk;omega),q2];simp only[aS,dy];rw[show decide (a.len<=8)=decide (a.l.length<=8)from B2 a 8,kF];cases decide (j.Model.Operations.l.length<=8)<;>rfl
def nn:List Int->List Int->Bool
 |[],[]=>false
 |[],_::_=>true
 | _::_,[]=>false
 |x::r,y::t=>bif x==y then nn r t else decide (x<y)
theorem afJ (l:List Int):nn [] l=decide (0<l.length):=by cases l<;>simp[nn]
theorem afK (l:List Int):nn l []=false:=by cases l<;>rfl
theorem afL{a b:List Int}{k:Nat}{x y:Int}(hx:a[k]? =some x)(hy:b[k]? =some y):nn (a.drop k) (b.drop k)=bif x==y then nn (a.drop (k+1)) (b.drop (k+1))else decide (x<y):=by
 obtain⟨h1,ad⟩:=eY.1 hx;obtain⟨h2,e2⟩:=eY.1 hy;rw[qo h1,qo h2,ad,e2];rfl
theorem auJ (x y:Int):cmp_Compare_int x y=some (if x<y then -1 else if x>y then 1 else 0):=by
 unfold cmp_Compare_int cmp_isNaN_int;simp only[bne_self_eq_false,aS,cond_false];by_cases h:x<y
 ·simp[h]
 ·by_cases h2:x>y<;>simp[h,h2]
theorem auK (a b:ae Int)(h:bk a.l):∃c,DF a b=some c/\decide (c>=0)=!nn a.l b.l:=by
 unfold DF
 obtain⟨o,ad,e2⟩:=y2 (f:=DE a b) (fun k st=>st=(k:Int)/\k<=b.l.length/\nn a.l b.l=nn (a.l.drop k) (b.l.drop k))
  (fun o=>match o with
    | .go _=>nn a.l b.l=decide (a.len<b.len)
    | .ret c=>decide (c>=0)=!nn a.l b.l) a.l (fun k x st hx U=>by
    obtain⟨rfl,hk,lQ⟩:=U;have aG:=en hx;by_cases J8:k<b.l.length
    ·have hy:b.l[k]? =some b.l[k]:=by simp[J8]
     have hd:decide ((k:Int)>=b.len)=false:=by rw[dn];simp;omega
     have ag:DE a b (k:Int)=(bif ((if x<b.l[k]then -1 else if x>b.l[k]then 1 else 0:Int) != 0)then some (.out (.ret (if x<b.l[k]then -1 else if x>b.l[k]then 1 else 0)))else some (.next (aL ((k:Int)+1)))):=by
      simp only[DE,fk aG,cond_true,dc,hx,aS,hd,cond_false,hy,auJ]
     rw[ag];rw[afL hx hy]at lQ;by_cases E8:x=b.l[k]
     ·left
      have q:(x==b.l[k])=true:=by simpa using E8
      rw[q]at lQ;refine⟨((k+1:Nat):Int),?_,rfl,by omega,lQ⟩;rw[<-E8];simp only[Int.lt_irrefl,if_false,gt_iff_lt];rw[eS (by unfold bk at h;omega)];rfl
     ·right
      have q:(x==b.l[k])=false:=by simpa using E8
      rw[q]at lQ;simp only[cond_false]at lQ;by_cases hl:x<b.l[k]
      ·refine⟨.ret (-1),by rw[if_pos hl];rfl,?_⟩
       show decide ((-1:Int)>=0)=_;rw[lQ,decide_eq_true hl];rfl
      ·have bb:x>b.l[k]:=by omega
       refine⟨.ret 1,by rw[if_neg hl,if_pos bb];rfl,?_⟩;show decide ((1:Int)>=0)=_;rw[lQ,decide_eq_false hl];rfl
    ·right
     have hd:decide ((k:Int)>=b.len)=true:=by rw[dn];simp;omega
     refine⟨.ret 1,by simp only[DE,fk aG,cond_true,dc,hx,aS,hd],?_⟩;show decide ((1:Int)>=0)=_;rw[lQ,uJ (Nat.le_of_not_lt J8),afK];rfl) (fun st U=>by
    obtain⟨rfl,hk,lQ⟩:=U;refine⟨.go (),by simp only[DE,fQ,cond_false],?_⟩;show _=_;rw[lQ,uJ (aN _),afJ,qs];exact decide_eq_decide.2 (by rw[dn,dn];omega)) (s:=0) ⟨rfl,by omega,rfl⟩
 rw[ad];simp only[aS];cases o with
 |ret c=>exact⟨c,rfl,e2⟩
 |go u=>
  simp only at e2⊢;rw[e2];cases decide (a.len<b.len)with
  |true=>exact⟨-1,rfl,rfl⟩
  |false=>exact⟨0,rfl,rfl⟩
theorem auL (a b:ae Int)(h:bk a.l):Hd a b=some (nn a.l b.l):=by
 unfold Hd;have rn:(a.l.zip b.l).length=min a.l.length b.l.length:=List.length_zip
 obtain⟨o,ad,e2⟩:=y2 (f:=Hb a b) (fun k st=>st=(k:Int)/\nn a.l b.l=nn (a.l.drop k) (b.l.drop k))
  (fun o=>match o with
    | .go _=>nn a.l b.l=decide (a.len<b.len)
    | .ret c=>c=nn a.l b.l) (a.l.zip b.l) (fun k p st hx U=>by
    obtain⟨rfl,lQ⟩:=U;have aG:=en hx;rw[rn]at aG;obtain⟨mn,afM⟩:=Ch.1 hx;have d1:decide ((k:Int)<a.len)=true:=fk (by omega);have d2:decide ((k:Int)<b.len)=true:=fk (by omega);rw[afL mn afM]at lQ
    have ag:Hb a b (k:Int)=bif p.1==p.2 then some (.next (aL ((k:Int)+1)))else some (.out (.ret (decide (p.1<p.2)))):=by
     simp only[Hb,d1,d2,xR,cond_true,dc,mn,afM,aS,bne];cases p.1==p.2<;>rfl
    rw[ag];cases q:p.1==p.2 with
    |true=>
     rw[q]at lQ;exact .inl ⟨_,rfl,eS (by unfold bk at h;omega),lQ⟩
    |false=>
     rw[q]at lQ;exact .inr ⟨.ret (decide (p.1<p.2)),rfl,lQ.symm⟩) (fun st U=>by
    obtain⟨rfl,lQ⟩:=U;rw[rn]at lQ⊢
    have hd:(decide (((min a.l.length b.l.length:Nat):Int)<a.len)&&decide (((min a.l.length b.l.length:Nat):Int)<b.len))=false:=by
     rw[dn,dn];rcases Nat.le_total a.l.length b.l.length with q|q
     ·rw[pz q];simp
     ·rw[sf q];simp
    refine⟨.go (),by simp only[Hb,hd,cond_false],?_⟩;show _=_;rw[lQ];rcases Nat.le_total a.l.length b.l.length with q|q
    ·rw[pz q,uJ (aN _),afJ,qs]
     exact decide_eq_decide.2 (by rw[dn,dn];omega)
    ·rw[sf q,(uJ (aN _):b.l.drop b.l.length=[]),afK]
     exact(decide_eq_false (by rw[dn,dn];omega)).symm) (s:=0) ⟨rfl,rfl⟩
 rw[ad];simp only[aS];cases o with
 |ret c=>simp only at e2;rw[e2]
 |go u=>simp only at e2;rw[e2]
end
end Go.Abs.bA
