/- Texts of this claim, joined and written short by a program. -/
import Derived.Test.YtdiodnpdllkbaaaGreatDoorP31
import Derived.Test.YtdiodnpdllkbaaaGreatDoorP00
set_option linter.unusedVariables false
set_option linter.unusedSimpArgs false
set_option linter.unusedSectionVars false
namespace Go.Abs.bw
open Go Go.Abs
noncomputable section
def tN (n m:Int):Bool:=decide (n>=-m)&&decide (n<=m)
theorem JG (n m:Int)(h:0<=m/\m<=1000000000):y1 n m=some (tN n m):=by
 unfold y1 tN
 rw[iN (by omega) (by omega)]
 simp
def E8 (n:Int)(xs:List Term)(k:Nat)(t:Term):Bool:=!(decide (t.Cell<=pg Term.Cell xs k))&&(!(decide (t.Cell>=n))&&(!(t.pT==0)&&tN t.pT 1000))
def BO (n:Int)(r:Row):Bool:=allI (E8 n r.eT.l) r.eT.l&&tN r.q3 1000000000
theorem k8{α:Type}{x:ak α}{k:Nat}(h:k<x.l.length):decide ((k:Int)<x.len)=true:=by rw[gL];simp;exact h
theorem mw{α:Type}{x:ak α}:decide ((x.l.length:Int)<x.len)=false:=by rw[gL];simp
theorem fN{k:Nat}(h:k<4611686018427387904):bJ ((k:Int)+1)=((k+1:Nat):Int):=by rw[iN (by omega) (by omega)];rfl
theorem ame{k:Nat}(h:k<4611686018427387904):bJ (((k+1:Nat):Int)-1)=(k:Int):=by
 rw[iN (by omega) (by omega)]
 omega
theorem kl{α:Type}{l:List α}{k:Nat}{x:α}(h:l[k]? =some x):k<l.length:=(e2.1 h).1
theorem YS (j:dN)(r:Row)(h:cm r.eT.l):D2 j r=some (BO j.strict.len r):=by
 unfold D2
 rw[zy (f:=D1 j r) (fun k s=>s=(pg Term.Cell r.eT.l k,(k:Int))) (E8 j.strict.len r.eT.l) r.eT.l (fun k x s hx aW _=>by
  subst aW
  have aX:=kl hx
  have ab:D1 j r (pg Term.Cell r.eT.l k,(k:Int))=bif E8 j.strict.len r.eT.l k x then some (.next (x.Cell,bJ ((k:Int)+1)))else some (.out (.ret ())):=by
   simp only[D1,k8 aX,cond_true,fP,hx,cg,JG x.pT 1000 (by omega)]
   unfold E8
   cases decide (x.Cell<=pg Term.Cell r.eT.l k)with
   |true=>rfl
   |false=>
    cases decide (x.Cell>=j.strict.len)with
    |true=>rfl
    |false=>
     cases x.pT==0 with
     |true=>rfl
     |false=>cases tN x.pT 1000<;>rfl
  rw[ab]
  constructor
  ·intro bx
   rw[bx,fN (by unfold cm at h;omega)]
   exact⟨_,rfl,by rw[Po Term.Cell hx]⟩
  ·intro bx;rw[bx];rfl) (fun s aW=>by subst aW;simp only[D1,mw,cond_false]) (s:=(-1,0)) rfl]
 unfold BO
 cases allI (E8 j.strict.len r.eT.l) r.eT.l with
 |false=>rfl
 |true=>
  simp only[cond_true,cg,fI]
  rw[JG _ _ (by omega)];rfl
def BP (xo:List bH)(k:Nat)(x:bH):Bool:=tM x&&!((xo.take k).any fun y=>y==x)
def BQ (xo:List bH):Bool:=allI (BP xo) xo
theorem amf{xo:List bH}{k:Nat}{x:bH}(h:xo[k]? =some x)(n:bH):(xo.take (k+1)).any (fun y=>y==n)=((xo.take k).any (fun y=>y==n)||x==n):=by
 rw[zS,h];simp
theorem YT (a:ak bH)(h:cm a.l):DY a=some (BQ a.l):=by
 unfold DY
 rw[zy (f:=DX a) (fun k s=>∃m,s=((k:Int),m)/\∀n,(iH m n).getD false=(a.l.take k).any fun y=>y==n) (BP a.l) a.l (fun k x s hx aW _=>by
  obtain⟨m,rfl,hm⟩:=aW
  have aX:=kl hx
  have ab:DX a ((k:Int),m)=bif BP a.l k x then some (.next ((bJ ((k:Int)+1)),mg m x true))else some (.out (.ret ())):=by
   simp only[DX,k8 aX,cond_true,fP,hx,cg,YK,hm]
   unfold BP
   cases tM x with
   |false=>rfl
   |true=>cases(a.l.take k).any fun y=>y==x<;>rfl
  rw[ab]
  constructor
  ·intro bx
   rw[bx,fN (by unfold cm at h;omega)]
   refine⟨_,rfl,_,rfl,fun n=> ?_⟩
   rw[Pr,amf hx,<-hm n]
   cases e:n==x with
   |true=>rw[JD,e];simp
   |false=>rw[JD (a:=x),e];simp
  ·intro bx;rw[bx];rfl) (fun s aW=>by obtain⟨m,rfl,-⟩:=aW;simp only[DX,mw,cond_false]) (s:=(0,[])) ⟨[],rfl,fun n=>rfl⟩]
 unfold BQ
 cases allI (BP a.l) a.l<;>rfl
end
end Go.Abs.bw
namespace Go.Abs.bw
open Go Go.Abs
noncomputable section
def JH (a b:ak Term):Bool:=(Bi a b).getD false
theorem amg (a b:ak Term)(h:cm a.l):Bi a b=some (JH a b):=by
 have:∃r,Bi a b=some r:=by
  unfold Bi
  cases hl:a.len != b.len with
  |true=>exact⟨false,rfl⟩
  |false=>
   have nu:a.l.length=b.l.length:=by
    rw[gL,gL]at hl
    simp at hl;omega
   obtain⟨o,af,-⟩:=E3 (f:=H7 a b) (fun k s=>s=(k:Int)) (fun _=>True) a.l (fun k x s hx aW=>by
    subst aW
    have aX:=kl hx
    have hy:b.l[k]? =some b.l[k]:=by simp[<-nu,aX]
    simp only[H7,k8 aX,cond_true,fP,hx,hy,cg]
    cases(x.Cell==b.l[k].Cell&&(x.pT==b.l[k].pT&&true))with
    |true=>exact .inl ⟨_,rfl,fN (by unfold cm at h;omega)⟩
    |false=>exact .inr ⟨_,rfl,trivial⟩) (fun s aW=>by subst aW;exact⟨.go (),by simp only[H7,mw,cond_false],trivial⟩) (s:=0) rfl
   simp only[cond_false,af,cg]
   cases o<;>exact⟨_,rfl⟩
 obtain⟨r,e⟩:=this
 unfold JH;rw[e];rfl
def BR (r:Row)(c f b:Int):Bool:=(r.q3==b)&&JH r.eT (ak.mk [Term.mk c f])
theorem amh (r:Row)(c f b:Int)(h:cm r.eT.l):H8 r c f b=some (BR r c f b):=by
 unfold H8 BR
 rw[amg _ _ h]
 simp only[cg]
 cases JH r.eT (ak.mk [Term.mk c f])<;>cases r.q3==b<;>rfl
def JI (s:List Int)(c:Constraint)(t:Table):Bool:=(t.Kind==0)&&((t.bP.l.length==2)&&((t.bP.l.getD 0 0==t.bP.l.getD 1 0)&&((t.dG==c.dG)&&(hP s (t.bP.l.getD 0 0)==c.w1))))
def JJ (s:List Int)(ts:List Table)(c:Constraint):Bool:=(c.Row.eT.l.length==0)&&((c.Row.q3==0)&&ts.any (JI s c))
theorem ami{l:List Int}(h:l.length=2):∃a b,l=[a,b]:=by
 match l,h with
 |[a,b],_=>exact⟨a,b,rfl⟩
theorem Pw{α:Type}(x:ak α)(n:Nat):((x.len:Int)==(n:Int))=(x.l.length==n):=by
 rw[gL]
 cases h:x.l.length==n with
 |true=>have:x.l.length=n:=by simpa using h
        rw[this];simp
 |false=>have:x.l.length≠n:=by simpa using h
         simp;omega
theorem amj{s:ak Int}(c:Constraint)(t:Table)(hc:oE s.l.length t.bP.l=true):
  (((bif (t.Kind==0)then(bif (t.bP.len==2)then((bQ t.bP.l 0).bind fun vt=>((bQ t.bP.l 1).bind fun w3=>(bif (vt==w3)then(bif (t.dG==c.dG)then((bQ t.bP.l 0).bind fun D3=>((bQ s.l D3).bind fun hh=>some (hh==c.w1)))else some false)else some false)))else some false)else some false):Option (Bool)))=some (JI s.l c t):=by
 unfold JI
 cases t.Kind==0 with
 |false=>rfl
 |true=>
  have:(t.bP.len==2)=(t.bP.l.length==2):=Pw t.bP 2
  rw[this]
  cases h2:t.bP.l.length==2 with
  |false=>rfl
  |true=>
   obtain⟨a,b,e⟩:=ami (by simpa using h2)
   have hi:=(E6 hc).2
   rw[e]at hi⊢
   have ao:=hi a (by simp)
   have i0:bQ [a,b] 0=some a:=fP [a,b] 0
   have i1:bQ [a,b] 1=some b:=fP [a,b] 1
   simp only[i0,i1,cg,Jz ao.1 ao.2,cond_true,fI]
   simp only[List.getD_cons_zero,List.getD_cons_succ]
   cases a==b with
   |false=>rfl
   |true=>cases t.dG==c.dG<;>rfl
theorem amk (xs:ak Table)(h:cm xs.l){f:Table->Option Bool}{p:Table->Bool}(ab:∀x∈xs.l,f x=some (p x)):Nu xs f=some (xs.l.any p):=E5 xs h ab
theorem aml (j:dN)(c:Constraint)(h:cm j.Model.Tables.l)(hc:∀t∈j.Model.Tables.l,oE j.Model.bC.l.length t.bP.l=true):H6 j c=some (JJ j.Model.bC.l j.Model.Tables.l c):=by
 unfold H6
 rw[amk j.Model.Tables h (f:=fun z0=>H5 c j z0) (p:=JI j.Model.bC.l c) (fun t ht=>by
  unfold H5
  rw[amj c t (hc t ht)];rfl)]
 have e:(c.Row.eT.len==0)=(c.Row.eT.l.length==0):=Pw c.Row.eT 0
 rw[e]
 unfold JJ
 cases c.Row.eT.l.length==0 with
 |false=>rfl
 |true=>cases c.Row.q3==0<;>rfl
def YU (rs:List Range)(i:Nat)(c:Constraint):Bool:=match rs[i/2]? with
 |some r=>bif i%2==0 then BR c.Row ((i/2:Nat):Int) (-1) (bJ (0-r.kI))else BR c.Row ((i/2:Nat):Int) 1 r.kJ
 |none=>true
def JK (F:Int)(c:Constraint):Bool:=decide (c.yR>=0)&&decide (c.yR<F)
def E9 (s:List Int)(ts:List Table)(rs:List Range)(F:Int)(i:Nat)(c:Constraint):Bool:=
 JK F c&&((bif c.Kind==0 then(c.dG==0)&&((c.w1==0)&&BO rs.length c.Row)else(c.Kind==1)&&JJ s ts c)&&(bif decide (i/2<rs.length)then(c.Kind==0)&&YU rs i c else true))
def JL (s:List Int)(ts:List Table)(rs:List Range)(F:Int)(cs:List Constraint):Bool:=
 decide (cs.length<=512)&&(decide (2*rs.length<=cs.length)&&allI (E9 s ts rs F) cs)
theorem amm{k:Nat}(h:k<4611686018427387904):bJ ((k:Int).tdiv 2)=((k/2:Nat):Int):=by
 have e:((k:Int).tdiv 2)=((k/2:Nat):Int):=by
  rw[Int.tdiv_eq_ediv_of_nonneg (by omega)];omega
 rw[e,iN (by omega) (by omega)]
theorem amn (k:Nat):(((k:Int).tmod 2)==0)=(k%2==0):=by
 have e:((k:Int).tmod 2)=((k%2:Nat):Int):=by
  rw[aa0 (by omega)];omega
 rw[e]
 have:k%2=0\/k%2=1:=by omega
 rcases this with h|h<;>rw[h]<;>rfl
theorem amo (j:dN)(h:cm j.Model.fu.l)(hr:j.strict.l.length<=100000)(ht:cm j.Model.Tables.l)(hc:∀t∈j.Model.Tables.l,oE j.Model.bC.l.length t.bP.l=true)(hT:∀c∈j.Model.fu.l,cm c.Row.eT.l):
  H9 j=some (JL j.Model.bC.l j.Model.Tables.l j.strict.l j.Model.fE.len j.Model.fu.l):=by
 unfold H9 JL
 have af:decide (j.Model.fu.len>512)=!decide (j.Model.fu.l.length<=512):=by rw[gL];by_cases q:j.Model.fu.l.length<=512<;>simp[q]<;>omega
 have aj:decide (j.Model.fu.len<bJ (2*j.strict.len))=!decide (2*j.strict.l.length<=j.Model.fu.l.length):=by
  rw[gL,gL,iN (by omega) (by omega)]
  by_cases q:2*j.strict.l.length<=j.Model.fu.l.length<;>simp[q]<;>omega
 rw[af,aj]
 cases decide (j.Model.fu.l.length<=512)with
 |false=>rfl
 |true=>
  cases decide (2*j.strict.l.length<=j.Model.fu.l.length)with
  |false=>rfl
  |true=>
   simp only[hZ,FU,cond_false,fI]
   rw[zy (f:=D4 j) (fun k s=>s=(k:Int)) (E9 j.Model.bC.l j.Model.Tables.l j.strict.l j.Model.fE.len) j.Model.fu.l (fun k c s hx aW _=>by
    subst aW
    have aX:=kl hx
    have eB:=hz hx
    have hk:k<4611686018427387904:=by unfold cm at h;omega
    have ab:D4 j (k:Int)=bif E9 j.Model.bC.l j.Model.Tables.l j.strict.l j.Model.fE.len k c then some (.next (bJ ((k:Int)+1)))else some (.out (.ret ())):=by
     simp only[D4,k8 aX,cond_true,fP,hx,cg,kg,YS j c.Row (hT c eB),aml j c ht hc,amm hk,amn,amh _ _ _ _ (hT c eB)]
     unfold E9
     show _=bif JK _ c&&_ then _ else _
     have amp:(decide (c.yR>=0)&&decide (c.yR<j.Model.fE.len))=JK j.Model.fE.len c:=rfl
     rw[amp]
     cases JK j.Model.fE.len c with
     |false=>rfl
     |true=>
      have hd:decide (((k/2:Nat):Int)<j.strict.len)=decide (k/2<j.strict.l.length):=by
       rw[gL];exact decide_eq_decide.2 (by omega)
      rw[hd]
      have hlen:j.strict.len=(j.strict.l.length:Int):=rfl
      rw[hlen]
      cases AG:c.Kind==0 with
      |false=>
       simp only[cond_true,cond_false,fI,bne,AG,ue]
       cases il:c.Kind==1 with
       |false=>simp
       |true=>
        cases JJ j.Model.bC.l j.Model.Tables.l c with
        |false=>rfl
        |true=>
         simp only[hZ,cond_false,cg,fI]
         cases bc:decide (k/2<j.strict.l.length)with
         |false=>rfl
         |true=>
          have Px:k/2<j.strict.l.length:=by simpa using bc
          have hy:j.strict.l[k/2]? =some j.strict.l[k/2]:=by simp[Px]
          simp only[cond_true,hy,cg,FT,cond_false]
          cases k%2==0<;>simp
      |true=>
       simp only[cond_true,fI,bne,AG,hZ,cond_false]
       cases c.dG==0 with
       |false=>simp
       |true=>
        cases c.w1==0 with
        |false=>simp
        |true=>
         cases BO (j.strict.l.length:Int) c.Row with
         |false=>rfl
         |true=>
          simp only[hZ,cond_false,cg,fI]
          cases bc:decide (k/2<j.strict.l.length)with
          |false=>rfl
          |true=>
           have Px:k/2<j.strict.l.length:=by simpa using bc
           have hy:j.strict.l[k/2]? =some j.strict.l[k/2]:=by simp[Px]
           unfold YU
           simp only[cond_true,hy,cg]
           cases k%2==0 with
           |true=>
            simp only[cond_true,cg]
            cases BR c.Row ((k/2:Nat):Int) (-1) (bJ (0-j.strict.l[k/2].kI))<;>rfl
           |false=>
            simp only[cond_false,cg]
            cases BR c.Row ((k/2:Nat):Int) 1 j.strict.l[k/2].kJ<;>rfl
    rw[ab]
    constructor
    ·intro bx
     rw[bx,fN hk]
     exact⟨_,rfl,rfl⟩
    ·intro bx;rw[bx];rfl) (fun s aW=>by subst aW;simp only[D4,mw,cond_false]) (s:=0) rfl]
   cases allI (E9 j.Model.bC.l j.Model.Tables.l j.strict.l j.Model.fE.len) j.Model.fu.l<;>rfl
theorem amq{s:List Int}{ts:List Table}(ad:mu s ts=true)(b:Bool):(hQ s ts b).length<=2592:=by
 obtain⟨q1,aS,b1,cL⟩:=BM ad
 have:=Pv b1 b ts cL
 omega
end
end Go.Abs.bw
namespace Go.Abs.bw
open Go Go.Abs
noncomputable section
def vQ (s:List Int):List Int->Int->List Int
 |[],_=>[]
 |x::r,k=>(k%hP s x)::vQ s r (k/hP s x)
def sz (s:List Int):List Int->Int->Int
 |[],k=>k
 |x::r,k=>sz s r (k/hP s x)
def Fa (s:List Int)(hR:List Int)(k:Int):List Int:=(vQ s hR.reverse k).reverse
theorem YV (s:List Int)(y:Int):∀(l:List Int) (k:Int),sz s (l++[y]) k=sz s l k/hP s y
 |[],k=>rfl
 |x::r,k=>YV s y r _
theorem YW (s:List Int)(y:Int):∀(l:List Int) (k:Int),vQ s (l++[y]) k=vQ s l k++[sz s l k%hP s y]
 |[],k=>rfl
 |x::r,k=>by simp only[jz,vQ,sz];rw[YW s y r]
theorem YX (s:List Int):∀(l:List Int) (k:Int),(vQ s l k).length=l.length
 |[],k=>rfl
 |x::r,k=>by simp only[vQ,ev,YX s r]
theorem YY{s:List Int}(hs:oD s=true):∀(l:List Int) (k:Int),(∀x∈l,0<=x/\x<s.length)->0<=k->0<=sz s l k/\sz s l k<=k
 |[],k,_,h=>⟨h,zY _⟩
 |x::r,k,hx,h=>by
  obtain⟨q1,aS⟩:=JA hs (hx x (by simp)).1 (hx x (by simp)).2
  have h1:0<=k/hP s x:=Int.ediv_nonneg h (by omega)
  have h2:k/hP s x<=k:=Int.ediv_le_self _ h
  have:=YY hs r (k/hP s x) (fun y hy=>hx y (by simp[hy])) h1
  simp only[sz];omega
theorem amr{a b:Int}(ao:0<=a)(hb:1<=b):DC a b=some (a%b):=by
 unfold DC
 rw[if_neg (by omega),aa0 ao]
theorem ams{a b:Int}(ao:0<=a)(hb:1<=b)(h:a<=1000000):DB a b=some (a/b):=by
 unfold DB
 have h1:0<=a/b:=Int.ediv_nonneg ao (by omega)
 have h2:a/b<=a:=Int.ediv_le_self _ ao
 rw[if_neg (by omega),Int.tdiv_eq_ediv_of_nonneg ao,iN (by omega) (by omega)]
theorem amt{n j:Nat}(hj:j<n)(v:Int)(t:List Int):(List.replicate (n-j) 0++t).set (n-1-j) v=List.replicate (n-(j+1)) 0++(v::t):=by
 have e:n-j=(n-(j+1))+1:=by omega
 have aj:n-1-j=n-(j+1):=by omega
 rw[e,aj,List.replicate_succ',mS,List.set_append_right _ _ (by simp)]
 simp
theorem amu{s:ak Int}{hR:ak Int}{f:(Int × Int × ak Int)->Option (dM (Int × Int × ak Int) (ak Int))}
  (Fb:∀(k:Int) (i:Nat) (t:ak Int) (x:Int),hR.l[i]? =some x->0<=k->k<=1000000->i<t.l.length->1<=hP s.l x->f (k,(i:Int),t)=some (.next (k/hP s.l x,bJ ((i:Int)-1),o9 t (i:Int) (k%hP s.l x))))
  (oe:∀(k:Int) (t:ak Int),f (k,-1,t)=some (.out t)) (hs:oD s.l=true) (hc:oE s.l.length hR.l=true) {d:Int} (h0:0<=d) (h1:d<=1000000) {z:ak Int} (aT:z.l=List.replicate hR.l.length 0):
  ∃o,c0 f (d,(hR.l.length:Int)-1,z)=some o/\o.l=Fa s.l hR.l d:=by
 obtain⟨q1,aS⟩:=E6 hc
 have oW:hR.l.reverse.length=hR.l.length:=List.length_reverse
 refine YI (f:=f) (fun j st=>∃t:ak Int,st=(sz s.l (hR.l.reverse.take j) d,(hR.l.length:Int)-1-j,t)/\t.l=List.replicate (hR.l.length-j) 0++(vQ s.l (hR.l.reverse.take j) d).reverse) (fun o=>o.l=Fa s.l hR.l d) hR.l.reverse (fun j x st hx U=> ?_) (fun st U=> ?_) ⟨z,by simp[sz],by rw[aT];simp[vQ]⟩
 ·obtain⟨t,rfl,ht⟩:=U
  have hj:=kl hx
  rw[oW]at hj
  have vR:hR.l[hR.l.length-1-j]? =some x:=by
   rw[List.getElem?_reverse (by omega)]at hx;exact hx
  have Fc:=aS x (hz vR)
  obtain⟨p1,p2⟩:=JA hs Fc.1 Fc.2
  have hb:=YY hs (hR.l.reverse.take j) d (fun y hy=>aS y (List.mem_reverse.1 (zP hy))) h0
  have at7:t.l.length=hR.l.length:=by
   rw[ht,gM,xE,List.length_reverse,YX,sM,oW];omega
  have amv:(hR.l.length:Int)-1-j=((hR.l.length-1-j:Nat):Int):=by omega
  have YZ:hR.l.reverse.take (j+1)=hR.l.reverse.take j++[x]:=by rw[zS,hx];rfl
  rw[amv]
  refine⟨_,Fb _ _ t x vR hb.1 (by omega) (by omega) p1,o9 t ((hR.l.length-1-j:Nat):Int) (sz s.l (hR.l.reverse.take j) d%hP s.l x),?_,?_⟩
  ·rw[YZ,YV]
   have:bJ (((hR.l.length-1-j:Nat):Int)-1)=(hR.l.length:Int)-1-((j+1:Nat):Int):=by
    rw[iN (by omega) (by omega)];omega
   rw[this]
  ·show t.l.set _ _=_
   rw[ht,FL,amt hj,YZ,YW,List.reverse_append]
   rfl
 ·obtain⟨t,rfl,ht⟩:=U
  rw[oW]
  have e:(hR.l.length:Int)-1-(hR.l.length:Nat)=-1:=by omega
  rw[e]
  refine⟨t,oe _ t,?_⟩
  rw[ht,oW,<-oW,Kq]
  simp[Fa]
theorem amw (n:Nat)(h:n<=1000000):∃z,yI 8 (0:Int) (n:Int)=some z/\z.l=List.replicate n 0:=by
 unfold yI
 rw[if_pos ⟨by omega,by omega⟩]
 by_cases hn:(n:Int)=0
 ·have:n=0:=by omega
  subst this
  exact⟨_,rfl,rfl⟩
 ·rw[if_neg hn]
  exact⟨_,rfl,rfl⟩
def nT (s:List Int)(b:Bool)(c:Int)(t:Table):Bool:=(kP t==b)&&(decide (bJ (c-t.dG)>=0)&&decide (bJ (c-t.dG)<wid s t.bP.l))
theorem Y0{α:Type}{p:α->Bool}{xs:List α}(h:∀x∈xs,p x=false):xs.findIdx? p=none:=by
 rw[List.findIdx?_eq_none_iff];exact h
theorem Y1{α:Type}{p:α->Bool}:∀{xs:List α} {k:Nat} {x:α},(∀j y,j<k->xs[j]? =some y->p y=false)->xs[k]? =some x->p x=true->xs.findIdx? p=some k
 |[],k,x,_,hx,_=>by cases hx
 |y::r,0,x,_,hx,hp=>by
  simp only[rr,az]at hx
  subst hx
  rw[QP,if_pos hp]
 |y::r,k+1,x,h,hx,hp=>by
  have h0:=h 0 y (by omega) rfl
  rw[QP,h0,if_neg (by simp),Y1 (k:=k) (x:=x) (fun j z hj aT=>h (j+1) z (by omega) (by simpa using aT)) (by simpa using hx) hp]
  rfl
structure amx (s:List Int) (ts:List Table) (b:Bool) (c:Int) (r:Int × ak Int × Bool):Prop where
 no:(mu s ts=false\/c<0\/ts.findIdx? (nT s b c)=none)->r=(0,.nil,false)
 yes:∀i t,mu s ts=true->0<=c->ts.findIdx? (nT s b c)=some i->ts[i]? =some t->r.1=(i:Int)/\r.2.2=true/\r.2.1.l=Fa s t.bP.l (bJ (c-t.dG))
theorem Y2 (s:ak Int)(ts:ak Table)(b:Bool)(c:Int)(h1:cm s.l)(h2:cm ts.l)(hc:∀t∈ts.l,cm t.bP.l):∃r,Ea s ts b c=some r/\amx s.l ts.l b c r:=by
 unfold Ea
 rw[Pu s ts h1 h2 hc]
 simp only[cg]
 cases ad:mu s.l ts.l with
 |false=>exact⟨_,rfl,⟨fun _=>rfl,fun i t h=>by rw[ad]at h;cases h⟩⟩
 |true=>
  simp only[cond_true,cg]
  by_cases h0:c<0
  ·have hd:decide (c<0)=true:=by simpa using h0
   rw[hd]
   exact⟨_,rfl,⟨fun _=>rfl,fun i t _ h=>by omega⟩⟩
  ·have hd:decide (c<0)=false:=by simpa using h0
   rw[hd]
   simp only[cond_false]
   obtain⟨q1,aS,b1,cL⟩:=BM ad
   obtain⟨o,af,aj⟩:=E3 (f:=D8 s ts b c) (fun k st=>st=(k:Int)/\∀j y,j<k->ts.l[j]? =some y->nT s.l b c y=false)
    (fun o=>match o with
      | .go _=>ts.l.findIdx? (nT s.l b c)=none
      | .ret p=>∃(i:Nat) (t:Table),ts.l.findIdx? (nT s.l b c)=some i/\ts.l[i]? =some t/\p.1=(i:Int)/\p.2.l=Fa s.l t.bP.l (bJ (c-t.dG))) ts.l (fun k t st hx U=>by
    obtain⟨rfl,jN⟩:=U
    have aX:=kl hx
    have eB:=hz hx
    have rh:=JF (cL t eB)
    have hw:=E7 b1 rh
    have ep:(((Bd t).bind fun q7=>(bif (q7==b)then(bif (decide ((bJ (c-t.dG))<0))then some true else((tu s t.bP).bind fun y0=>some (decide ((bJ (c-t.dG))>=y0))))else some true)):Option Bool)=some (!nT s.l b c t):=by
     rw[Jy,Pt s t.bP b1 rh]
     unfold nT
     simp only[cg]
     cases kP t==b with
     |false=>rfl
     |true=>
      simp only[cond_true,fI]
      by_cases g1:bJ (c-t.dG)<0
      ·have a:decide (bJ (c-t.dG)<0)=true:=by simpa using g1
       have a2:decide (bJ (c-t.dG)>=0)=false:=by simp;omega
       rw[a,a2];rfl
      ·have a:decide (bJ (c-t.dG)<0)=false:=by simpa using g1
       have a2:decide (bJ (c-t.dG)>=0)=true:=by simp;omega
       rw[a,a2]
       by_cases g2:bJ (c-t.dG)<wid s.l t.bP.l
       ·have dm:decide (bJ (c-t.dG)<wid s.l t.bP.l)=true:=by simpa using g2
        have gy:decide (bJ (c-t.dG)>=wid s.l t.bP.l)=false:=by simp;omega
        rw[dm,gy];rfl
       ·have dm:decide (bJ (c-t.dG)<wid s.l t.bP.l)=false:=by simpa using g2
        have gy:decide (bJ (c-t.dG)>=wid s.l t.bP.l)=true:=by simp;omega
        rw[dm,gy];rfl
    have ab:D8 s ts b c (k:Int)=bif !nT s.l b c t then some (.next (bJ ((k:Int)+1)))else((yI 8 0 t.bP.len).bind fun D9=>((c0 (Ig s t) ((bJ (c-t.dG)),(bJ (D9.len-1)),D9):Option ((ak Int))).bind fun NB=>some (.out (.ret ((k:Int),NB))))):=by
     simp only[D8,k8 aX,cond_true,fP,hx,cg]
     rw[ep];rfl
    rw[ab]
    cases fj:nT s.l b c t with
    |false=>
     left
     refine⟨_,rfl,?_,fun j y hj hy=> ?_⟩
     ·exact fN (by omega)
     ·by_cases e:j=k
      ·subst e;rw[hx]at hy;cases hy;exact fj
      ·exact jN j y (by omega) hy
    |true=>
     right
     simp only[hZ,cond_false]
     have Py:=fj
     unfold nT at Py
     simp only[b8,decide_eq_true_eq]at Py
     obtain⟨et,gz⟩:=E6 rh
     obtain⟨z,Ar,Y3⟩:=amw t.bP.l.length (by omega)
     have amy:z.len=(t.bP.l.length:Int):=by rw[gL,Y3,xE]
     obtain⟨o,g1,g2⟩:=amu (s:=s) (hR:=t.bP) (f:=Ig s t) (fun k i Pz x vR hk CH hit dJ=>by
      have Fc:=gz x (hz vR)
      have Lh:decide ((i:Int)>=0)=true:=by simp
      have amz:Pz.l[i]? =some Pz.l[i]:=by simp[hit]
      simp only[Ig,Lh,cond_true,fP,vR,cg,Jz Fc.1 Fc.2,amr hk dJ,ams hk dJ CH,amz]) (fun k Pz=>rfl) b1 rh Py.2.1 (by omega) Y3
     have amA:bJ (z.len-1)=(t.bP.l.length:Int)-1:=by rw[amy,iN (by omega) (by omega)]
     refine⟨.ret ((k:Int),o),?_,k,t,Y1 jN hx fj,hx,rfl,g2⟩
     have:t.bP.len=((t.bP.l.length:Nat):Int):=rfl
     rw[this,Ar]
     simp only[cg]
     rw[amA,g1];rfl) (fun st U=>by
    obtain⟨rfl,jN⟩:=U
    refine⟨.go (),by simp only[D8,mw,cond_false],Y0 fun x hx=> ?_⟩
    obtain⟨j,hj⟩:=ns.1 hx
    exact jN j x (kl hj) hj) (s:=0) ⟨rfl,fun j y hj=>by omega⟩
   cases o with
   |go u=>
    refine⟨_,by rw[af];rfl,⟨fun _=>rfl,fun i t _ _ hi=> ?_⟩⟩
    simp only at aj;rw[aj]at hi;cases hi
   |ret p=>
    obtain⟨i,t,ai,a2,a3,a4⟩:=aj
    refine⟨_,by rw[af];rfl,⟨fun h=> ?_,fun z1 eY _ _ hi ht=> ?_⟩⟩
    ·rcases h with h|h|h
     ·rw[ad]at h;cases h
     ·omega
     ·rw[ai]at h;cases h
    ·rw[ai]at hi;cases hi;rw[a2]at ht;cases ht
     exact⟨a3,rfl,a4⟩
end
end Go.Abs.bw
namespace Go.Abs.bw
open Go Go.Abs
noncomputable section
def Fe (n:Int)(xs:List Change)(k:Nat)(c:Change):Bool:=!(decide (c.Cell<=pg Change.Cell xs k))&&(!(decide (c.Cell>=n))&&(!(c.Add==0)&&tN c.Add 1000000000))
def Y4 (t:Table):Bool:=(t.Kind==2)||(t.Kind==3)
def Y5 (u:mj)(t:Table):Bool:=bif Y4 t then((u.Kind==0)||(u.Kind==1))&&(u.Value==0)else(u.Kind==2)&&(decide (u.Value>=t.Range.kI)&&decide (u.Value<=t.Range.kJ))
def JM (s:List Int)(ts:List Table)(u:mj):Bool:=bif decide (u.Cell<0)then false else match ts.findIdx? (nT s false u.Cell)with
 |some i=>match ts[i]? with
  |some t=>Y5 u t
  |none=>false
 |none=>false
def Ff (s:List Int)(ts:List Table)(us:List mj)(k:Nat)(u:mj):Bool:=!(decide (u.Cell<=pg mj.Cell us k))&&JM s ts u
def JN (s:List Int)(ts:List Table)(n:Int)(x:eK):Bool:=
 allI (Fe n x.Delta.l) x.Delta.l&&(allI (Ff s ts x.hL.l) x.hL.l&&(decide (x.ia.l.length<=8)&&(decide (x.hL.l.length<=32)&&x.ia.l.all (BO n))))
theorem Y6{α:Type}{p:α->Bool}:∀{xs:List α} {i:Nat},xs.findIdx? p=some i->∃x,xs[i]? =some x
 |[],i,h=>by cases h
 |y::r,i,h=>by
  rw[QP]at h
  split at h
  ·cases h;exact⟨y,rfl⟩
  ·obtain⟨j,hj,rfl⟩:=ct.1 h
   obtain⟨x,hx⟩:=Y6 hj
   exact⟨x,by simpa using hx⟩
theorem amB (j:dN)(u:mj)(h1:cm j.Model.bC.l)(h2:cm j.Model.Tables.l)(hc:∀t∈j.Model.Tables.l,cm t.bP.l)(ad:mu j.Model.bC.l j.Model.Tables.l=true):
  Ij j u=some (JM j.Model.bC.l j.Model.Tables.l u):=by
 obtain⟨r,af,jN,amC⟩:=Y2 j.Model.bC j.Model.Tables false u.Cell h1 h2 hc
 unfold Ij JM
 rw[af]
 simp only[cg]
 by_cases h0:u.Cell<0
 ·have hd:decide (u.Cell<0)=true:=by simpa using h0
  rw[hd,jN (.inr (.inl h0))];rfl
 ·have hd:decide (u.Cell<0)=false:=by simpa using h0
  rw[hd]
  simp only[cond_false]
  cases hi:j.Model.Tables.l.findIdx? (nT j.Model.bC.l false u.Cell)with
  |none=>rw[jN (.inr (.inr hi))];rfl
  |some i=>
   obtain⟨t,ht⟩:=Y6 hi
   obtain⟨ai,a2,-⟩:=amC i t ad (by omega) hi ht
   rw[ai,a2]
   simp only[cond_true,fP,ht,cg]
   unfold Y5 Y4
   cases t.Kind==2 with
   |true=>
    simp only[cond_true,cg,Bool.true_or]
    cases u.Kind==0 with
    |true=>cases u.Kind==1<;>rfl
    |false=>rfl
   |false=>
    simp only[cond_false,cg,qv]
    cases t.Kind==3 with
    |true=>
     simp only[cond_true]
     cases u.Kind==0 with
     |true=>cases u.Kind==1<;>rfl
     |false=>rfl
    |false=>rfl
theorem amD (xs:ak Row)(h:cm xs.l){f:Row->Option Bool}{p:Row->Bool}(ab:∀x∈xs.l,f x=some (p x)):NC xs f=some (xs.l.any p):=E5 xs h ab
theorem Fg{α:Type}(x:ak α)(n:Nat):decide (x.len<=(n:Int))=decide (x.l.length<=n):=decide_eq_decide.2 (by rw[gL];omega)
theorem amE (j:dN)(x:eK)(h1:cm j.Model.bC.l)(h2:cm j.Model.Tables.l)(hc:∀t∈j.Model.Tables.l,cm t.bP.l)(ad:mu j.Model.bC.l j.Model.Tables.l=true)
  (lx:cm x.Delta.l) (a1:cm x.hL.l) (e5:cm x.ia.l) (U:∀r∈x.ia.l,cm r.eT.l):
  Il j x=some (JN j.Model.bC.l j.Model.Tables.l j.strict.len x):=by
 unfold Il JN
 rw[zy (f:=Ec j x) (fun k s=>s=(pg Change.Cell x.Delta.l k,(k:Int))) (Fe j.strict.len x.Delta.l) x.Delta.l (fun k c s hx aW _=>by
  subst aW
  have aX:=kl hx
  have ab:Ec j x (pg Change.Cell x.Delta.l k,(k:Int))=bif Fe j.strict.len x.Delta.l k c then some (.next (c.Cell,bJ ((k:Int)+1)))else some (.out (.ret ())):=by
   simp only[Ec,k8 aX,cond_true,fP,hx,cg,JG c.Add 1000000000 (by omega)]
   unfold Fe
   cases decide (c.Cell<=pg Change.Cell x.Delta.l k)with
   |true=>rfl
   |false=>
    cases decide (c.Cell>=j.strict.len)with
    |true=>rfl
    |false=>
     cases c.Add==0 with
     |true=>rfl
     |false=>cases tN c.Add 1000000000<;>rfl
  rw[ab]
  constructor
  ·intro bx
   rw[bx,fN (by unfold cm at lx;omega)]
   exact⟨_,rfl,by rw[Po Change.Cell hx]⟩
  ·intro bx;rw[bx];rfl) (fun s aW=>by subst aW;simp only[Ec,mw,cond_false]) (s:=(-1,0)) rfl]
 cases allI (Fe j.strict.len x.Delta.l) x.Delta.l with
 |false=>rfl
 |true=>
  simp only[cond_true,cg,fI]
  rw[zy (f:=Ed j x) (fun k s=>s=(pg mj.Cell x.hL.l k,(k:Int))) (Ff j.Model.bC.l j.Model.Tables.l x.hL.l) x.hL.l (fun k c s hx aW _=>by
   subst aW
   have aX:=kl hx
   have ab:Ed j x (pg mj.Cell x.hL.l k,(k:Int))=bif Ff j.Model.bC.l j.Model.Tables.l x.hL.l k c then some (.next (c.Cell,bJ ((k:Int)+1)))else some (.out (.ret ())):=by
    simp only[Ed,k8 aX,cond_true,fP,hx,cg,amB j c h1 h2 hc ad]
    unfold Ff
    cases decide (c.Cell<=pg mj.Cell x.hL.l k)with
    |true=>rfl
    |false=>cases JM j.Model.bC.l j.Model.Tables.l c<;>rfl
   rw[ab]
   constructor
   ·intro bx
    rw[bx,fN (by unfold cm at a1;omega)]
    exact⟨_,rfl,by rw[Po mj.Cell hx]⟩
   ·intro bx;rw[bx];rfl) (fun s aW=>by subst aW;simp only[Ed,mw,cond_false]) (s:=(-1,0)) rfl]
  cases allI (Ff j.Model.bC.l j.Model.Tables.l x.hL.l) x.hL.l with
  |false=>rfl
  |true=>
   simp only[cond_true,cg,fI]
   rw[amD x.ia e5 (f:=fun z0=>Ik j z0) (p:=fun r=>!BO j.strict.len r) (fun r hr=>by
    unfold Ik
    rw[YS j r (U r hr)];rfl)]
   have af:decide (x.ia.len<=8)=decide (x.ia.l.length<=8):=Fg x.ia 8
   have aj:decide (x.hL.len<=32)=decide (x.hL.l.length<=32):=Fg x.hL 32
   rw[af,aj,sK]
   cases decide (x.ia.l.length<=8)with
   |false=>rfl
   |true=>cases decide (x.hL.l.length<=32)<;>rfl
end
end Go.Abs.bw
namespace Go.Abs.bw
open Go Go.Abs
noncomputable section
theorem Y7 (a b:Int):decide (a<b)=!decide (a>=b):=by
 by_cases q:a<b
 ·rw[decide_eq_true q,decide_eq_false (by omega)];rfl
 ·rw[decide_eq_false q,decide_eq_true (by omega)];rfl
theorem Y8 (a b:Int):decide (a>b)=!decide (a<=b):=by
 by_cases q:a>b
 ·rw[decide_eq_true q,decide_eq_false (by omega)];rfl
 ·rw[decide_eq_false q,decide_eq_true (by omega)];rfl
theorem my{α:Type}(x:ak α)(n:Nat):decide (x.len>(n:Int))=!decide (x.l.length<=n):=by
 rw[Y8];congr 1;exact decide_eq_decide.2 (by rw[gL];omega)
def Fh (n:Nat)(s:Int):Bool:=decide (s>=-1)&&decide (s<n)
def sA (n:Nat)(o:cl):Bool:=decide (o.bC.l.length<=3)&&o.bC.l.all (Fh n)
def zz (n:Nat)(ops:List cl):Bool:=ops.all (sA n)&&(decide (ops.length<=8)&&BQ (ops.map cl.Name))
theorem amF (j:dN)(h:j.Model.Operations.l.length<=100000)(aC:∀o∈j.Model.Operations.l,cm o.bC.l):Ib j=some (zz j.Model.bC.l.length j.Model.Operations.l):=by
 unfold Ib zz
 obtain⟨o,af,aj⟩:=E3 (f:=D5 j) (fun k st=>∃a:ak bH,st=((k:Int),a)/\a.l=(j.Model.Operations.l.take k).map cl.Name/\(j.Model.Operations.l.take k).all (sA j.Model.bC.l.length)=true)
  (fun o=>match o with
    | .go a=>j.Model.Operations.l.all (sA j.Model.bC.l.length)=true/\a.l=j.Model.Operations.l.map cl.Name
    | .ret _=>j.Model.Operations.l.all (sA j.Model.bC.l.length)=false) j.Model.Operations.l (fun k o st hx U=>by
    obtain⟨a,rfl,ao,eA⟩:=U
    have aX:=kl hx
    have eB:=hz hx
    have lq:a.l.length<=100000:=by rw[ao,oG,sM];omega
    obtain⟨y,rM,EO⟩:=YP (BN:=16) (x:=a) (y:=ak.mk [o.Name]) (by omega) (by show a.l.length+1<=_;omega)
    have nC:=Ps o.bC (aC o eB) (f:=fun z0=>Ia j z0) (p:=fun s=>!Fh j.Model.bC.l.length s) (fun s hs=>by
     unfold Ia Fh
     rw[gL,Y7,show decide (s>=(j.Model.bC.l.length:Int))=!decide (s<(j.Model.bC.l.length:Int))from by rw[Y7];simp]
     cases decide (s>=-1)<;>cases decide (s<(j.Model.bC.l.length:Int))<;>rfl)
    have ab:D5 j ((k:Int),a)=bif sA j.Model.bC.l.length o then some (.next ((bJ ((k:Int)+1)),y))else some (.out (.ret ())):=by
     simp only[D5,k8 aX,cond_true,fP,hx,cg,rM,nC]
     rw[show decide (o.bC.len>3)=!decide (o.bC.l.length<=3)from my o.bC 3]
     unfold sA
     rw[sK]
     cases decide (o.bC.l.length<=3)with
     |false=>rfl
     |true=>cases o.bC.l.any (fun s=>!Fh j.Model.bC.l.length s)<;>rfl
    rw[ab]
    cases c4:sA j.Model.bC.l.length o with
    |true=>
     left
     refine⟨_,rfl,y,by rw[fN (by omega)],?_,?_⟩
     ·rw[EO,ao,zS,hx];simp[ak.l]
     ·rw[zS,hx];simp[List.all_append,c4];simpa using eA
    |false=>
     refine .inr ⟨.ret (),rfl,?_⟩
     show List.all _ _=false
     rw[List.all_eq_false]
     exact⟨o,eB,by rw[c4];simp⟩) (fun st U=>by
    obtain⟨a,rfl,ao,eA⟩:=U
    rw[Kq]at ao eA
    exact⟨.go a,by simp only[D5,mw,cond_false],eA,ao⟩) (s:=(0,.nil)) ⟨.nil,rfl,rfl,rfl⟩
 rw[af]
 simp only[cg]
 cases o with
 |ret u=>simp only at aj;rw[aj];rfl
 |go a=>
  obtain⟨q1,aS⟩:=aj
  have lq:a.l.length=j.Model.Operations.l.length:=by rw[aS,oG]
  simp only[]
  rw[q1,YT a (by unfold cm;omega),aS]
  simp only[cg,fI]
  rw[show decide (a.len<=8)=decide (a.l.length<=8)from Fg a 8,lq]
  cases decide (j.Model.Operations.l.length<=8)<;>rfl
def lM:List Int->List Int->Bool
 |[],[]=>false
 |[],_::_=>true
 | _::_,[]=>false
 |x::r,y::t=>bif x==y then lM r t else decide (x<y)
theorem amG (l:List Int):lM [] l=decide (0<l.length):=by cases l<;>simp[lM]
theorem PA (l:List Int):lM l []=false:=by cases l<;>rfl
theorem amH{a b:List Int}{k:Nat}{x y:Int}(hx:a[k]? =some x)(hy:b[k]? =some y):lM (a.drop k) (b.drop k)=bif x==y then lM (a.drop (k+1)) (b.drop (k+1))else decide (x<y):=by
 obtain⟨h1,af⟩:=e2.1 hx
 obtain⟨h2,aj⟩:=e2.1 hy
 rw[wc h1,wc h2,af,aj]
 rfl
theorem amI (x y:Int):Ie x y=some (if x<y then -1 else if x>y then 1 else 0):=by
 unfold Ie Ic
 simp only[bne_self_eq_false,cg,cond_false]
 by_cases h:x<y
 ·simp[h]
 ·by_cases h2:x>y<;>simp[h,h2]
theorem amJ (a b:ak Int)(h:cm a.l):∃c,D7 a b=some c/\decide (c>=0)=!lM a.l b.l:=by
 unfold D7
 obtain⟨o,af,aj⟩:=E3 (f:=Bj a b) (fun k st=>st=(k:Int)/\k<=b.l.length/\lM a.l b.l=lM (a.l.drop k) (b.l.drop k))
  (fun o=>match o with
    | .go _=>lM a.l b.l=decide (a.len<b.len)
    | .ret c=>decide (c>=0)=!lM a.l b.l) a.l (fun k x st hx U=>by
    obtain⟨rfl,hk,qT⟩:=U
    have aX:=kl hx
    by_cases GR:k<b.l.length
    ·have hy:b.l[k]? =some b.l[k]:=by simp[GR]
     have hd:decide ((k:Int)>=b.len)=false:=by rw[gL];simp;omega
     have ab:Bj a b (k:Int)=(bif ((if x<b.l[k]then -1 else if x>b.l[k]then 1 else 0:Int) != 0)then some (.out (.ret (if x<b.l[k]then -1 else if x>b.l[k]then 1 else 0)))else some (.next (bJ ((k:Int)+1)))):=by
      simp only[Bj,k8 aX,cond_true,fP,hx,cg,hd,cond_false,hy,amI]
     rw[ab]
     rw[amH hx hy]at qT
     by_cases CG:x=b.l[k]
     ·left
      have q:(x==b.l[k])=true:=by simpa using CG
      rw[q]at qT
      refine⟨((k+1:Nat):Int),?_,rfl,by omega,qT⟩
      rw[<-CG]
      simp only[Int.lt_irrefl,if_false,gt_iff_lt]
      rw[fN (by unfold cm at h;omega)];rfl
     ·right
      have q:(x==b.l[k])=false:=by simpa using CG
      rw[q]at qT
      simp only[cond_false]at qT
      by_cases hl:x<b.l[k]
      ·refine⟨.ret (-1),by rw[if_pos hl];rfl,?_⟩
       show decide ((-1:Int)>=0)=_
       rw[qT,decide_eq_true hl];rfl
      ·have bj:x>b.l[k]:=by omega
       refine⟨.ret 1,by rw[if_neg hl,if_pos bj];rfl,?_⟩
       show decide ((1:Int)>=0)=_
       rw[qT,decide_eq_false hl];rfl
    ·right
     have hd:decide ((k:Int)>=b.len)=true:=by rw[gL];simp;omega
     refine⟨.ret 1,by simp only[Bj,k8 aX,cond_true,fP,hx,cg,hd],?_⟩
     show decide ((1:Int)>=0)=_
     rw[qT,B6 (Nat.le_of_not_lt GR),PA];rfl) (fun st U=>by
    obtain⟨rfl,hk,qT⟩:=U
    refine⟨.go (),by simp only[Bj,mw,cond_false],?_⟩
    show _=_
    rw[qT,B6 (aK _),amG,sN]
    exact decide_eq_decide.2 (by rw[gL,gL];omega)) (s:=0) ⟨rfl,by omega,rfl⟩
 rw[af]
 simp only[cg]
 cases o with
 |ret c=>exact⟨c,rfl,aj⟩
 |go u=>
  simp only at aj⊢
  rw[aj]
  cases decide (a.len<b.len)with
  |true=>exact⟨-1,rfl,rfl⟩
  |false=>exact⟨0,rfl,rfl⟩
end
end Go.Abs.bw
namespace Go.Abs.bw
open Go Go.Abs
noncomputable section
def tO (s:List Int)(args:List Int)(k:Nat)(mz:Int):Bool:=bif decide (mz<0)then tN (args.getD k 0) 9999 else decide (args.getD k 0>=0)&&decide (args.getD k 0<hP s mz)
def tP (gV:List Action)(k:Nat)(a:Action):Bool:=match k with
 |0=>true
 |k+1=>match gV[k]? with
  |some b=>!(decide (b.cl>a.cl))&&(bif b.cl==a.cl then lM b.bL.l a.bL.l else true)
  |none=>true
def xp (s:List Int)(ts:List Table)(n:Int)(ops:List cl)(gV:List Action)(k:Nat)(a:Action):Bool:=
 (decide (a.cl>=0)&&decide (a.cl<ops.length))&&match ops[a.cl.toNat]? with
   |some o=>(a.bL.l.length==o.bC.l.length)&&(allI (tO s a.bL.l) o.bC.l&&(tP gV k a&&JN s ts n a.eK))
   |none=>false
def zA (s:List Int)(ts:List Table)(n:Int)(ops:List cl)(gV:List Action):Bool:=decide (gV.length<=256)&&allI (xp s ts n ops gV) gV
structure Y9 (x:eK):Prop where
 d:cm x.Delta.l
 u:cm x.hL.l
 h:cm x.ia.l
 r:∀r∈x.ia.l,cm r.eT.l
theorem Za{α β:Type}(x:ak α)(y:ak β):(x.len != y.len)=!(x.l.length==y.l.length):=by
 unfold bne
 congr 1
 rw[gL,gL,zU]
 simp;omega
theorem JO{α:Type}{l:List α}{i:Int}(h:0<=i):bQ l i=l[i.toNat]? :=by simp[bQ,h]
theorem amK{s:List Int}{o:cl}{a:Action}{f:Int->Option (dM Int (cP Unit Unit))}(hl:cm o.bC.l)
  (ab:∀(k:Nat) (mz:Int),o.bC.l[k]? =some mz->f (k:Int)=bif tO s a.bL.l k mz then some (.next (bJ ((k:Int)+1)))else some (.out (.ret ()))) (he:f (o.bC.l.length:Int)=some (.out (.go ()))):
  c0 f 0=some (bif allI (tO s a.bL.l) o.bC.l then .go ()else .ret ()):=
 zy (f:=f) (fun k s=>s=(k:Int)) (tO s a.bL.l) o.bC.l (fun k mz st hx aW _=>by
  subst aW
  rw[ab k mz hx]
  constructor
  ·intro bx
   rw[bx,fN (by have:=kl hx;unfold cm at hl;omega)]
   exact⟨_,rfl,rfl⟩
  ·intro bx;rw[bx];rfl) (fun st aW=>by subst aW;exact he) (s:=0) rfl
theorem JP{l:List Int}{k:Nat}{x:Int}(h:l[k]? =some x):l.getD k 0=x:=by simp[tY,h]
theorem amL{n:Nat}{o:cl}(h:sA n o=true){mz:Int}(hs:mz∈o.bC.l):-1<=mz/\mz<n:=by
 unfold sA at h
 simp only[b8,eV]at h
 have:=h.2 mz hs
 unfold Fh at this
 simp only[b8,decide_eq_true_eq]at this
 exact⟨by omega,this.2⟩
theorem amM{j:dN}{o:cl}{a:Action}(ho:sA j.Model.bC.l.length o=true)(hl:cm o.bC.l)(hlen:a.bL.l.length=o.bC.l.length):
  c0 (Im j a o) 0=some (bif allI (tO j.Model.bC.l a.bL.l) o.bC.l then .go ()else .ret ()):=
 amK hl (fun k mz hx=>by
  have aX:=kl hx
  have hy:a.bL.l[k]? =some a.bL.l[k]:=by simp[hlen,aX]
  obtain⟨q1,aS⟩:=amL ho (hz hx)
  simp only[Im,k8 aX,cond_true,fP,hx,hy,cg,JG _ 9999 (by omega),kg]
  unfold tO
  rw[JP hy]
  by_cases h0:mz<0
  ·have d0:decide (mz<0)=true:=by simpa using h0
   have d1:decide (mz>=0)=false:=by simp;omega
   rw[d0,d1]
   simp only[cond_true,cond_false]
   cases tN a.bL.l[k] 9999<;>rfl
  ·have d0:decide (mz<0)=false:=by simpa using h0
   have d1:decide (mz>=0)=true:=by simp;omega
   rw[d0,d1,Jz (by omega) aS]
   simp only[cond_true,cond_false,cg]
   cases(decide (a.bL.l[k]>=0)&&decide (a.bL.l[k]<hP j.Model.bC.l mz))<;>rfl) (by simp only[Im,mw,cond_false])
theorem amN (j:dN)(h1:cm j.Model.bC.l)(h2:cm j.Model.Tables.l)(hc:∀t∈j.Model.Tables.l,cm t.bP.l)(ad:mu j.Model.bC.l j.Model.Tables.l=true)
  (ho:∀o∈j.Model.Operations.l,sA j.Model.bC.l.length o=true) (amO:∀o∈j.Model.Operations.l,cm o.bC.l) (du:∀a∈j.Model.Actions.l,Y9 a.eK) (hA:∀a∈j.Model.Actions.l,cm a.bL.l) (df:cm j.Model.Actions.l):
  Iq j=some (zA j.Model.bC.l j.Model.Tables.l j.strict.len j.Model.Operations.l j.Model.Actions.l):=by
 unfold Iq zA
 rw[show decide (j.Model.Actions.len>256)=!decide (j.Model.Actions.l.length<=256)from my j.Model.Actions 256]
 cases decide (j.Model.Actions.l.length<=256)with
 |false=>rfl
 |true=>
  simp only[hZ,cond_false,fI]
  rw[zy (f:=Ef j) (fun k s=>s=(k:Int)) (xp j.Model.bC.l j.Model.Tables.l j.strict.len j.Model.Operations.l j.Model.Actions.l) j.Model.Actions.l (fun k a st hx aW _=>by
   subst aW
   have aX:=kl hx
   have eB:=hz hx
   have ab:Ef j (k:Int)=bif xp j.Model.bC.l j.Model.Tables.l j.strict.len j.Model.Operations.l j.Model.Actions.l k a then some (.next (bJ ((k:Int)+1)))else some (.out (.ret ())):=by
    simp only[Ef,k8 aX,cond_true,fP,hx,cg,kg]
    unfold xp
    have qH:decide (a.cl<j.Model.Operations.len)=decide (a.cl<(j.Model.Operations.l.length:Int)):=rfl
    rw[qH]
    cases hin:(decide (a.cl>=0)&&decide (a.cl<(j.Model.Operations.l.length:Int)))with
    |false=>rfl
    |true=>
     simp only[b8,decide_eq_true_eq]at hin
     have ik:a.cl.toNat<j.Model.Operations.l.length:=by omega
     have c4:j.Model.Operations.l[a.cl.toNat]? =some j.Model.Operations.l[a.cl.toNat]:=by simp[ik]
     have Zb:=hz c4
     simp only[cond_true,JO hin.1,c4,cg,Za,fI]
     cases hlen:a.bL.l.length==(j.Model.Operations.l[a.cl.toNat]).bC.l.length with
     |false=>rfl
     |true=>
      simp only[hZ,cond_false,fI]
      rw[amM (ho _ Zb) (amO _ Zb) (by simpa using hlen)]
      simp only[cg]
      cases allI (tO j.Model.bC.l a.bL.l) (j.Model.Operations.l[a.cl.toNat]).bC.l with
      |false=>rfl
      |true=>
       simp only[cond_true,fI]
       have o3:=du a eB
       rw[amE j a.eK h1 h2 hc ad o3.d o3.u o3.h o3.r]
       have mH:((bif (decide ((k:Int)>0))then((bQ j.Model.Actions.l (bJ ((k:Int)-1))).bind fun w4=>(((bif (decide (w4.cl>a.cl))then some true else(bif (w4.cl==a.cl)then((D7 w4.bL a.bL).bind fun NG=>some (decide (NG>=0)))else some false)):Option (Bool)).bind fun NH=>(bif NH then some (.ret ())else some (.go ()))))else some (.go ())):Option (cP (Unit) (Unit)))=some (bif tP j.Model.Actions.l k a then .go ()else .ret ()):=by
        cases k with
        |zero=>rfl
        |succ k=>
         have hk:k<j.Model.Actions.l.length:=by omega
         have aT:j.Model.Actions.l[k]? =some j.Model.Actions.l[k]:=by simp[hk]
         have amP:decide ((((k+1:Nat)):Int)>0)=true:=decide_eq_true (by omega)
         have hw:bJ (((k+1:Nat):Int)-1)=(k:Int):=ame (by unfold cm at df;omega)
         obtain⟨c,Cv,amQ⟩:=amJ j.Model.Actions.l[k].bL a.bL (hA _ (Kp hk))
         rw[amP,hw]
         unfold tP
         simp only[cond_true,fP,aT,cg,Cv,amQ]
         cases decide (j.Model.Actions.l[k].cl>a.cl)with
         |true=>rfl
         |false=>
          cases j.Model.Actions.l[k].cl==a.cl with
          |false=>rfl
          |true=>cases lM j.Model.Actions.l[k].bL.l a.bL.l<;>rfl
       rw[mH]
       simp only[cg]
       cases tP j.Model.Actions.l k a with
       |false=>rfl
       |true=>cases JN j.Model.bC.l j.Model.Tables.l j.strict.len a.eK<;>rfl
   rw[ab]
   constructor
   ·intro bx
    rw[bx,fN (by unfold cm at df;omega)]
    exact⟨_,rfl,rfl⟩
   ·intro bx;rw[bx];rfl) (fun st aW=>by subst aW;simp only[Ef,mw,cond_false]) (s:=0) rfl]
  cases allI (xp j.Model.bC.l j.Model.Tables.l j.strict.len j.Model.Operations.l j.Model.Actions.l) j.Model.Actions.l<;>rfl
end
end Go.Abs.bw
namespace Go.Abs.bw
open Go Go.Abs
noncomputable section
end
end Go.Abs.bw
namespace Go.Abs.bw
open Go Go.Abs
noncomputable section
theorem amR{ts:ak Table}{h:gk}:(((kg h.Table ts.len).bind fun sj=>(bif sj then((kg h.da ts.len).bind fun pd=>(bif pd then some (h.Table==h.da)else some true))else some true)):Option Bool)=some (!((decide (h.Table>=0)&&decide (h.Table<ts.l.length))&&((decide (h.da>=0)&&decide (h.da<ts.l.length))&&!(h.Table==h.da)))):=by
 unfold kg
 rw[gL]
 cases(decide (h.Table>=0)&&decide (h.Table<(ts.l.length:Int)))with
 |false=>rfl
 |true=>
  cases(decide (h.da>=0)&&decide (h.da<(ts.l.length:Int)))with
  |false=>rfl
  |true=>cases h.Table==h.da<;>rfl
theorem amS (j:dN){k:Nat}{h:gk}(hx:j.Model.b7.l[k]? =some h):zu j (k:Int)=some (bif !vq j.Model.Tables.l h then .out (.ret ())else .next (bJ ((k:Int)+1))):=by
 simp only[zu,k8 (kl hx),cond_true,fP,hx,cg]
 rw[amR]
 unfold vq
 cases a:(decide (h.Table>=0)&&decide (h.Table<(j.Model.Tables.l.length:Int)))with
 |false=>rfl
 |true=>
  cases b:(decide (h.da>=0)&&decide (h.da<(j.Model.Tables.l.length:Int)))with
  |false=>rfl
  |true=>
   cases h.Table==h.da with
   |true=>rfl
   |false=>
    simp only[b8,decide_eq_true_eq]at a b
    have dq:h.Table.toNat<j.Model.Tables.l.length:=by omega
    have fb:h.da.toNat<j.Model.Tables.l.length:=by omega
    have g1:j.Model.Tables.l[h.Table.toNat]? =some j.Model.Tables.l[h.Table.toNat]:=by simp[dq]
    have g2:j.Model.Tables.l[h.da.toNat]? =some j.Model.Tables.l[h.da.toNat]:=by simp[fb]
    simp only[ue,zV,fI,hZ,cg,cond_false,JO a.1,JO b.1,g1,g2,bne,kg]
    cases j.Model.Tables.l[h.Table.toNat].Kind==0 with
    |false=>rfl
    |true=>
     cases j.Model.Tables.l[h.da.toNat].Kind==0 with
     |false=>rfl
     |true=>
      rw[gL j.Model.Tables.l[h.Table.toNat].bP,show(j.Model.Tables.l[h.da.toNat].bP.len==1)=(j.Model.Tables.l[h.da.toNat].bP.l.length==1)from Pw _ 1]
      cases d:(decide (h.jt>=0)&&decide (h.jt<(j.Model.Tables.l[h.Table.toNat].bP.l.length:Int)))with
      |false=>rfl
      |true=>
       cases d3:j.Model.Tables.l[h.da.toNat].bP.l.length==1 with
       |false=>rfl
       |true=>
        simp only[b8,decide_eq_true_eq]at d
        have bT:j.Model.Tables.l[h.da.toNat].bP.l.length=1:=by simpa using d3
        have f1:h.jt.toNat<j.Model.Tables.l[h.Table.toNat].bP.l.length:=by omega
        have cq:j.Model.Tables.l[h.Table.toNat].bP.l[h.jt.toNat]? =some j.Model.Tables.l[h.Table.toNat].bP.l[h.jt.toNat]:=by simp[f1]
        have f2:0<j.Model.Tables.l[h.da.toNat].bP.l.length:=by omega
        have ee:j.Model.Tables.l[h.da.toNat].bP.l[0]? =some j.Model.Tables.l[h.da.toNat].bP.l[0]:=by simp[f2]
        simp only[hZ,ue,cond_true,cond_false,JO d.1,al3,cq,ee,cg,fI,JP cq,JP ee]
        cases j.Model.Tables.l[h.da.toNat].bP.l[0]==j.Model.Tables.l[h.Table.toNat].bP.l[h.jt.toNat]<;>rfl
theorem amT (j:dN):Jv j=some (decide (j.Model.b7.l.length<=12)&&j.Model.b7.l.all (vq j.Model.Tables.l)):=by
 unfold Jv
 rw[show decide (j.Model.b7.len>12)=!decide (j.Model.b7.l.length<=12)from my j.Model.b7 12]
 cases h:decide (j.Model.b7.l.length<=12)with
 |false=>rfl
 |true=>
  have hl:j.Model.b7.l.length<=12:=by simpa using h
  simp only[hZ,cond_false,fI]
  rw[xn (f:=zu j) j.Model.b7.l (by omega) (fun h=>!vq j.Model.Tables.l h) (fun k h hx=>amS j hx) (by simp only[zu,mw,cond_false])]
  rw[sK]
  cases j.Model.b7.l.any (fun h=>!vq j.Model.Tables.l h)<;>rfl
def cf (ks:List Int):List (Int × Bool):=ks.map fun t=>(t,true)
def xq (ks:List Int)(t:Int):List Int:=if t∈ks then ks else ks++[t]
theorem Zc (t:Int):∀ks,mg (cf ks) t true=cf (xq ks t)
 |[]=>rfl
 |k::ks=>by
  have ih:=Zc t ks
  unfold cf xq at*
  simp only[eo,mg]
  by_cases e:t=k
  ·subst e;simp
  ·have af:(t==k)=false:=by simp[e]
   rw[af]
   simp only[hY,if_false,ih,dA,e,false_or]
   by_cases h:t∈ks<;>simp[h]
theorem Zd (t:Int):∀ks,(iH (cf ks) t).getD false=decide (t∈ks)
 |[]=>rfl
 |k::ks=>by
  have ih:=Zd t ks
  unfold cf iH at*
  simp only[eo,Kr]
  by_cases e:t=k
  ·subst e;simp
  ·have af:(t==k)=false:=by simp[e]
   rw[af]
   simp only[ih,dA,e,false_or]
theorem PB (t:Int):∀ks,iy 0 (aD t) (gi aD V.bool (cf ks))=gi aD V.bool (cf (ks.erase t))
 |[]=>rfl
 |k::ks=>by
  have ih:=PB t ks
  simp only[cf,gi]at ih⊢
  simp only[eo,iy,DD,az,beq_iff_eq,List.erase_cons]
  by_cases e:t=k
  ·subst e;simp
  ·rw[if_neg e,if_neg (fun h=>e h.symm),ih];rfl
theorem amU{ks:List Int}(h:ks.Nodup)(t:Int):(xq ks t).Nodup:=by
 unfold xq
 split
 ·exact h
 ·rename_i hn
  exact FM.2 ⟨h,by simp,fun x hx y hy=>by
   simp only[dA,sP,or_false]at hy
   subst hy
   exact fun q=>hn (q ▸ hx)⟩
theorem amV{ks:List Int}{t x:Int}:x∈xq ks t↔x∈ks\/x=t:=by
 unfold xq
 split
 ·rename_i h;exact⟨.inl,fun q=>q.elim id fun e=>e ▸ h⟩
 ·simp
def xr (hs:List gk)(ks:List Int):List Int:=hs.foldl (fun ks h=>xq ks h.Table) ks
theorem Ze:∀(hs:List gk) {ks:List Int},ks.Nodup->(xr hs ks).Nodup
 |[],_,h=>h
 | _::hs,_,h=>Ze hs (amU h _)
theorem Zf:∀(hs:List gk) {ks:List Int} {t:Int},t∈xr hs ks↔t∈ks\/∃h∈hs,h.Table=t
 |[],ks,t=>by simp[xr]
 |h::hs,ks,t=>by
  have:=Zf hs (ks:=xq ks h.Table) (t:=t)
  unfold xr at this⊢
  rw[qu,this,amV]
  simp only[dA,exists_eq_or_imp,or_assoc,eq_comm (a:=t)]
theorem amW (j:dN)(hl:j.Model.b7.l.length<=12):c0 (zv j) (0,[])=some (cf (xr j.Model.b7.l [])):=by
 have key:∀(n k:Nat) (ks:List Int),k+n=j.Model.b7.l.length->c0 (zv j) ((k:Int),cf ks)=some (cf (xr (j.Model.b7.l.drop k) ks)):=by
  intro n
  induction n with
  |zero=>
   intro k ks hk
   have e:k=j.Model.b7.l.length:=by omega
   rw[k4]
   subst e
   simp only[zv,mw,cond_false,List.drop_length];rfl
  |succ n ih=>
   intro k ks hk
   have aX:k<j.Model.b7.l.length:=by omega
   have hx:j.Model.b7.l[k]? =some j.Model.b7.l[k]:=by simp[aX]
   rw[k4]
   simp only[zv,k8 aX,cond_true,fP,hx,cg,Zc]
   rw[fN (by omega),ih (k+1) _ (by omega),wc aX]
   rfl
 exact key j.Model.b7.l.length 0 [] (by omega)
theorem amX (j:dN)(hl:j.Model.b7.l.length<=12)(t:Int)(ks:List Int):
  DM j.Model.b7 (fun h=>some ((h.Table==t)&&(iH (cf ks) h.da).getD false))=some (j.Model.b7.l.any fun h=>(h.Table==t)&&decide (h.da∈ks)):=by
 exact E5 j.Model.b7 (by omega) (fun h _=>by rw[Zd])
end
end Go.Abs.bw
