/- Texts of this claim, joined and written short by a program. -/
import Derived.Test.YtonmjjfciemcoaaGreatDoorP33
import Derived.Shelf.SlLaysE0
import Derived.Shelf.SlicesE.Kit
import Derived.Shelf.RegionOpenPlain
import Derived.WalkKit
import Derived.Deep.LoopGhost
import Derived.Deep.RegionLaw
import Derived.Lib.Walk
import Derived.Sort.WalkB12
import Derived.Lib.SliceRun
import Derived.Lib.SlicesDelete
import Derived.Test.YtonmjjfciemcoaaGreatDoorP08
import Derived.Test.YtonmjjfciemcoaaGreatDoorProg
import Derived.Test.YtonmjjfciemcoaaGreatDoorP31
import Derived.Test.YtonmjjfciemcoaaGreatDoorP26
import Derived.Test.YtonmjjfciemcoaaGreatDoorP00
set_option linter.unusedVariables false
set_option linter.unusedSimpArgs false
set_option linter.unusedSectionVars false
namespace Go.Abs.bz
open Go Go.Abs
noncomputable section
theorem ajJ{f:Int->Option (di Int (cz Unit Int))}{n:Nat}{p:Nat->Bool}(hn:n<=100000)(ag:∀k,k<n->f (k:Int)=some (bif p k then .next (aM ((k:Int)+1))else .out (.ret (k:Int))))(he:f (n:Int)=some (.out (.go ()))):
  ∀d k,k+d=n->((∀j,k<=j->j<n->p j=true)/\cd f (k:Int)=some (.go ()))\/∃(j:Nat) (i:Int),k<=j/\j<n/\p j=false/\cd f (k:Int)=some (.ret i):=by
 intro d
 induction d with
 |zero=>
  intro k hk;have hk:k=n:=by omega
  subst hk;exact .inl ⟨fun j h1 h2=>absurd h2 (Nat.not_lt.2 h1),by rw[fp,he]⟩
 |succ d ih=>
  intro k hk;have aT:k<n:=by omega
  cases hp:p k with
  |false=>exact .inr ⟨k,k,aH _,aT,hp,by rw[fp,ag k aT,hp];rfl⟩
  |true=>
   have e:cd f (k:Int)=cd f ((k+1:Nat):Int):=by
    rw[fp,ag k aT,hp];simp only[cond_true,eR (show k<4611686018427387904 by omega)]
   rcases ih (k+1) (by omega)with⟨h1,h2⟩|⟨j,i,h1,h2,ar,aS⟩
   ·refine .inl ⟨fun j q1 q2=> ?_,e.trans h2⟩
    by_cases q:j=k
    ·rw[q];exact hp
    ·exact h1 j (by omega) q2
   ·exact .inr ⟨j,i,by omega,h2,ar,e.trans aS⟩
def Wb (st:ae Int)(rs:List Row):Prop:=∀r∈rs,js (Constraint.mk 0 0 r 0 0) st=some true
def Wc (st:ae Int)(cs:List Constraint):Prop:=∀c∈cs,js c st=some true
def JN (st:ae Int)(rs:List Row)(k:Nat):Bool:=match rs[k]? with
 |some r=>(js (Constraint.mk 0 0 r 0 0) st).getD false
 |none=>true
def JO (st:ae Int)(cs:List Constraint)(k:Nat):Bool:=match cs[k]? with
 |some c=>(js c st).getD false
 |none=>true
theorem aCH{x:b4}(hx:Cx x)(hH:x.dd.l.length<=100000){st:ae Int}(dG:st.l.length<=100000):(Wb st x.dd.l/\cd (sR x st) 0=some (.go ()))\/(¬Wb st x.dd.l/\∃i,cd (sR x st) 0=some (.ret i)):=by
 have:=ajJ (f:=sR x st) (n:=x.dd.l.length) (p:=JN st x.dd.l) hH (fun k hk=>by
  have ba:=eg hk;obtain⟨b,hb⟩:=xS (Constraint.mk 0 0 x.dd.l[k] 0 0) st dG (hx.r _ (vP hk));have hp:JN st x.dd.l k=b:=by unfold JN;rw[ba];simp only[hb,oB]
  simp only[sR,gC hk,cond_true,ef,ba,bs,hb,hp];cases b<;>rfl) (by simp only[sR,hJ,cond_false]) x.dd.l.length 0 (by omega)
 rcases this with⟨h1,h2⟩|⟨j,i,-,h2,ar,aS⟩
 ·refine .inl ⟨fun r hr=> ?_,h2⟩
  obtain⟨k,hk,e⟩:=Wo.1 hr;have ba:x.dd.l[k]? =some r:=by rw[eg hk,e]
  obtain⟨b,hb⟩:=xS (Constraint.mk 0 0 r 0 0) st dG (hx.r _ hr);have:=h1 k (cJ _) hk;unfold JN at this;rw[ba]at this;simp only[hb,oB]at this;rw[hb,this]
 ·refine .inr ⟨fun h=> ?_,i,aS⟩
  have ba:=eg h2;unfold JN at ar;rw[ba]at ar;simp only[h _ (vP h2),oB]at ar;cases ar
theorem aCI{m:Model}(hb:il m=true){z:ae Int}(dG:z.l.length<=100000):(Wc z m.cN.l/\cd (pN m z) 0=some (.go ()))\/(¬Wc z m.cN.l/\∃i,cd (pN m z) 0=some (.ret i)):=by
 have b:=Ck hb
 have:=ajJ (f:=pN m z) (n:=m.cN.l.length) (p:=JO z m.cN.l) (by have:=b.cons;omega) (fun k hk=>by
  have ba:=eg hk;obtain⟨v,ad⟩:=xS m.cN.l[k] z dG ((uN b).rX _ (vP hk));have hp:JO z m.cN.l k=v:=by unfold JO;rw[ba];simp only[ad,oB]
  simp only[pN,gC hk,cond_true,ef,ba,bs,ad,hp];cases v<;>rfl) (by simp only[pN,hJ,cond_false]) m.cN.l.length 0 (by omega)
 rcases this with⟨h1,h2⟩|⟨j,i,-,h2,ar,aS⟩
 ·refine .inl ⟨fun r hr=> ?_,h2⟩
  obtain⟨k,hk,e⟩:=Wo.1 hr;have ba:m.cN.l[k]? =some r:=by rw[eg hk,e]
  obtain⟨v,ad⟩:=xS r z dG ((uN b).rX _ hr);have:=h1 k (cJ _) hk;unfold JO at this;rw[ba]at this;simp only[ad,oB]at this;rw[ad,this]
 ·refine .inr ⟨fun h=> ?_,i,aS⟩
  have ba:=eg h2;unfold JO at ar;rw[ba]at ar;simp only[h _ (vP h2),oB]at ar;cases ar
theorem ajK{m:Model}(hb:il m=true)(ad:iS m=true){x:b4}(hx:Cx x)(hH:x.dd.l.length<=100000){st:ae Int}(h:o7 m st)(hr:s6 st.len x=true){z:ae Int}(aR:rD st x.Delta=some z)(jW:z.l.length<=100000):
  ∃b,pO m x st=some b/\(b=true↔Wb st x.dd.l/\Wc z m.cN.l):=by
 have dG:=uO ad h.lv;unfold pO H6;rw[Cy hb ad h,aiW hx,hr];simp only[bs,cond_true];unfold oY;rcases aCH hx hH dG with⟨h1,h2⟩|⟨h1,i,h2⟩
 ·rcases aCI hb jW with⟨bQ,c6⟩|⟨bQ,i,c6⟩
  ·exact⟨true,by simp only[h2,bs,aR,c6];rfl,by simp[h1,bQ]⟩
  ·exact⟨false,by simp only[h2,bs,aR,c6];rfl,by simp[bQ]⟩
 ·exact⟨false,by simp only[h2,bs];rfl,by simp[h1]⟩
theorem aCJ{n:Int}{x y:b4}(hd:y.Delta=x.Delta)(hs:∀r∈y.dd.l,r∈x.dd.l)(h:s6 n x=true):s6 n y=true:=by
 unfold s6 at h⊢;simp only[b6,kB,zD]at h⊢;rw[hd];exact⟨h.1,fun r hr=>h.2 r (hs r hr)⟩
theorem Wd{m u:Model}{x y:b4}{st:ae Int}(hb:il m=true)(ad:iS m=true)(aCK:il u=true)(aCL:iS u=true)(hx:Cx x)(hH:x.dd.l.length<=100000)(vl:y.dd.l.length<=x.dd.l.length)(h:o7 m st)(hu:o7 u st)
  (hr:s6 st.len x=true) (hd:y.Delta=x.Delta) (hs:∀r∈y.dd.l,r∈x.dd.l) (hc:∀c∈u.cN.l,c∈m.cN.l) (hp:pO m x st=some true):pO u y st=some true:=by
 have dG:=uO ad h.lv;obtain⟨z,af,ak⟩:=E7 st x.Delta dG hx.d;have jW:z.l.length<=100000:=by rw[ak,Cu];exact dG
 obtain⟨b,p1,p2⟩:=ajK hb ad hx hH h hr af jW;rw[hp]at p1;obtain⟨q1,q2⟩:=p2.1 (te p1).symm;have hy:Cx y:=⟨by rw[hd];exact hx.d,by have:=hx.h;unfold b9 at this⊢; omega,fun r hr=>hx.r r (hs r hr)⟩;obtain⟨e1,p3,k8⟩:=ajK aCK aCL hy (by omega) hu (aCJ hd hs hr) (by rw[hd];exact af) jW;rw[p3,k8.2 ⟨fun r hr=>q1 r (hs r hr),fun c tr=>q2 c (hc c tr)⟩]
theorem aCM{m:Model}(hb:il m=true)(ad:iS m=true){k:Nat}(hk:2*(hU m.bH.l m.Tables.l true).length<=k)(wu:k<m.cN.l.length){cs:ae Constraint}(eV:cs.l=m.cN.l.take k++m.cN.l.drop (k+1)):
  il (Model.mk m.bH m.Tables m.ff cs m.Operations m.Actions m.cf)=true/\iS (Model.mk m.bH m.Tables m.ff cs m.Operations m.Actions m.cf)=true/\(∀c∈cs.l,c∈m.cN.l):=by
 have oS:∀c∈cs.l,c∈m.cN.l:=fun c hc=>by
  rw[eV]at hc;rcases iq.1 hc with q|q
  ·exact x3 q
  ·exact x2 q
 have hlen:cs.l.length+1=m.cN.l.length:=by
  rw[eV,eZ,nc,nK];omega
 refine⟨?_,?_,oS⟩
 ·unfold il EY at hb⊢
  simp only[b6,decide_eq_true_eq,ev]at hb⊢;obtain⟨⟨al,a2,a3,a4,a5⟩,b1,e3,iC⟩:=hb;exact⟨⟨al,a2,a3,by omega,a5⟩,b1,fun c hc=>e3 c (oS c hc),iC⟩
 ·unfold iS at ad⊢
  simp only[b6]at ad⊢;obtain⟨h1,h2,ar,aS,h5⟩:=ad;refine⟨h1,h2,ar,?_,h5⟩;unfold ES at aS⊢;simp only[b6,decide_eq_true_eq]at aS⊢;obtain⟨df,er,e2⟩:=aS;refine⟨by omega,by omega,xF.2 fun i c hi=> ?_⟩;rw[eV]at hi;by_cases q:i<k
  ·rw[e5 (by rw[nc];omega),Fl,if_pos q]at hi
   exact xF.1 e2 i c hi
  ·rw[pX (by rw[nc];omega),nc,CG]at hi
   have qo:m.cN.l[i+1]? =some c:=by rw[<-hi];congr 1;omega
   have:=xF.1 e2 (i+1) c qo;unfold Cd at this⊢;simp only[b6]at this⊢;refine⟨this.1,this.2.1,?_⟩;rw[decide_eq_false (by omega)];rfl
theorem ajL{α:Type}{x:ae α}{k:Nat}(hk:k<x.l.length)(dG:x.l.length<=100000){c:Int}(hc:c=(k:Int)+1):∃z,Ba x (k:Int) c=some z/\z.l=x.l.take k++x.l.drop (k+1):=by
 subst hc;cases x with
 |nil=>exact absurd hk (CI _)
 |emp=>exact absurd hk (CI _)
 |mk l=>
  have hk:k<l.length:=hk;have dG:l.length<=100000:=dG;refine⟨_,if_pos ⟨by omega,by omega,by omega,by omega⟩,?_⟩;show l.take (k:Int).toNat++l.drop ((k:Int)+1).toNat=_;rw[show((k:Int)).toNat=k by omega,show((k:Int)+1).toNat=k+1 by omega];rfl
theorem Fc{n:Int}(h1:0<=n)(h2:n<=1000000):aM n=n:=fi (by omega) (by omega)
theorem We{a:Int}(h1:0<=a)(h2:a<=255){n:Nat}(hn:0<n):∃k:Nat,tZ (aM a) (n:Int)=some (k:Int)/\k<n:=by
 rw[Fc h1 (by omega),ahm h1 (by omega)];have:=Int.emod_lt_of_pos a (show(0:Int)<n by omega);have h0:=Int.emod_nonneg a (show(n:Int)≠0 by omega);exact⟨(a%n).toNat,by rw[Int.toNat_of_nonneg h0],by omega⟩
theorem aCN (m:Model)(a b c:Int)(l:ae Int)(ha:0<=a/\a<=255)(fO:0<=b/\b<=255)(hc:0<=c/\c<=255)(hl:b9 l.l):Mt m a b c l=some true:=by
 unfold Mt;simp only[DZ,bs,cond_true,ahH,aiT l hl];cases hb:il m with
 |false=>rfl
 |true=>
 simp only[cond_true];cases ag:(l.l.all qT&&decide (l.l.length<=128))with
 |false=>rfl
 |true=>
 simp only[cond_true];simp only[b6,decide_eq_true_eq]at ag;obtain⟨v,oL,-⟩:=NX hb l (by omega);cases v with
 |false=>simp only[oL,bs];rfl
 |true=>
 obtain⟨ad,hV⟩:=ai2 hb (by omega) ag.1 oL;simp only[oL,bs,cond_true];have cv:=Ck hb;cases hA:(m.Actions.len==0)with
 |true=>rfl
 |false=>
 simp only[cond_false];have aCO:0<m.Actions.l.length:=by rw[du]at hA;have:=of_decide_eq_false hA;omega
 obtain⟨i,l2,i2⟩:=We ha.1 ha.2 aCO;have JP:=eg i2;generalize aEY:m.Actions.l[i]=act at JP;rw[du m.Actions,l2];simp only[bs,ef,JP];have bc:=(uN cv).act act (gg JP);have N8:Cx act.b4:=⟨bc.1,bc.2.1,bc.2.2⟩;have dG:=uO ad hV.lv;obtain⟨r,hr⟩:=aiQ (uN cv) bc l dG;have hlen:l.len=(((hU m.bH.l m.Tables.l true).length:Nat):Int):=by rw[du,hV.lv.len]
 have Fa:s6 l.len act.b4=true:=by rw[hlen];exact ai5 (ai4 hb ad JP)
 have CB:=ai6 hb ad N8 hV Fa hr;cases hk:(r.Kind==0)with
 |false=>rw[hk]at CB;simp only[CB,bs,cond_false]
 |true=>
 rw[hk]at CB;simp only[CB,bs,cond_true]
 have aEZ:act.b4.dd.l.length<=10:=by
  have pq:=hb;unfold il at pq;simp only[b6,ev]at pq;obtain⟨-,-,-,-,h⟩:=pq;have:=h act (gg JP);unfold Cj Jk at this;simp only[b6,decide_eq_true_eq]at this;omega
 have hy:∃xj:ae Row,((bif (decide (act.b4.dd.len>0))then((tZ (aM b) act.b4.dd.len).bind fun nA=>((pI 32 act.b4.dd).bind fun Sf=>((Ba Sf nA (aM (nA+1))).bind fun Sg=>some Sg)))else some act.b4.dd):Option (ae Row))=some xj/\
   (∀r∈xj.l,r∈act.b4.dd.l)/\xj.l.length<=act.b4.dd.l.length:=by
  cases hd:decide (act.b4.dd.len>0)with
  |false=>exact⟨_,rfl,fun _ h=>h,aH _⟩
  |true=>
   have hp:0<act.b4.dd.l.length:=by rw[du]at hd;have:=of_decide_eq_true hd;omega
   obtain⟨k,bQ,c6⟩:=We fO.1 fO.2 hp;obtain⟨s,s1,s2⟩:=Cv (gW:=32) (x:=act.b4.dd) (by omega) (by omega);obtain⟨z,la,z2⟩:=ajL (x:=s) (k:=k) (by rw[s2];exact c6) (by rw[s2];omega) (Fc (n:=(k:Int)+1) (by omega) (by omega));refine⟨z,?_,fun r hr=> ?_,?_⟩
   ·simp only[cond_true,du,bQ,bs,s1,la]
   ·rw[z2,s2]at hr
    rcases iq.1 hr with q|q
    ·exact x3 q
    ·exact x2 q
   ·rw[z2,s2,eZ,nc,nK];omega
 obtain⟨xj,yV,Bw,ajM⟩:=hy;rw[yV];simp only[bs]
 have hu:∃xk:ae Constraint,((bif (decide (m.cN.len>(aM (2*l.len))))then((tZ (aM c) (aM (m.cN.len-(aM (2*l.len))))).bind fun Ic=>((pI 64 m.cN).bind fun Sh=>((Ba Sh (aM ((aM (2*l.len))+Ic)) (aM ((aM ((aM (2*l.len))+Ic))+1))).bind fun Si=>some Si)))else some m.cN):Option (ae Constraint))=some xk/\
   il (Model.mk m.bH m.Tables m.ff xk m.Operations m.Actions m.cf)=true/\iS (Model.mk m.bH m.Tables m.ff xk m.Operations m.Actions m.cf)=true/\(∀c∈xk.l,c∈m.cN.l):=by
  have h2:aM (2*l.len)=((2*l.l.length:Nat):Int):=by rw[du,Fc (by omega) (by omega)];push_cast;rfl
  have fm:=cv.cons;rw[h2];cases hd:decide (m.cN.len>((2*l.l.length:Nat):Int))with
  |false=>exact⟨_,rfl,hb,ad,fun _ h=>h⟩
  |true=>
   have hp:2*l.l.length<m.cN.l.length:=by rw[du]at hd;have:=of_decide_eq_true hd;omega
   have ar:aM (m.cN.len-((2*l.l.length:Nat):Int))=((m.cN.l.length-2*l.l.length:Nat):Int):=by rw[du,Fc (by omega) (by omega)];omega
   obtain⟨k,bQ,c6⟩:=We hc.1 hc.2 (n:=m.cN.l.length-2*l.l.length) (by omega);have aS:aM (((2*l.l.length:Nat):Int)+(k:Int))=((2*l.l.length+k:Nat):Int):=by rw[Fc (by omega) (by omega)];push_cast;rfl
   obtain⟨s,s1,s2⟩:=Cv (gW:=64) (x:=m.cN) (by omega) (by omega);obtain⟨z,la,z2⟩:=ajL (x:=s) (k:=2*l.l.length+k) (by rw[s2];omega) (by rw[s2];omega) (Fc (n:=((2*l.l.length+k:Nat):Int)+1) (by omega) (by omega));rw[s2]at z2;refine⟨z,?_,aCM hb ad (by rw[<-hV.lv.len];omega) (by omega) z2⟩;simp only[cond_true,ar,bQ,bs,s1,aS,la]
 obtain⟨xk,jV,oF,Ln,GV⟩:=hu;rw[jV];simp only[bs];have ajN:o7 (Model.mk m.bH m.Tables m.ff xk m.Operations m.Actions m.cf) l:=⟨⟨hV.lv.len,hV.lv.NW⟩,fun c hc=>hV.rX c (GV c hc)⟩;have p1:=Wd (u:=m) (y:=b4.mk act.b4.Delta xj act.b4.hg) hb ad hb ad N8 (by omega) ajM hV hV Fa rfl Bw (fun _ h=>h) CB;have p2:=Wd (y:=act.b4) hb ad oF Ln N8 (by omega) (aH _) hV ajN Fa rfl (fun _ h=>h) GV CB;have p3:=Wd (y:=b4.mk act.b4.Delta xj act.b4.hg) hb ad oF Ln N8 (by omega) ajM hV ajN Fa rfl Bw GV CB;simp only[p1,p2,p3,bs,cond_true]
end
end Go.Abs.bz
namespace Go.Abs
open Go Go.Proofs
open Go.Shelf Go.RowKit Go.Lib Go.Sort
variable{P:Program}{ρ:Ren}
def lx (zs:List Value)(n:Nat):List Value:=(Builtin.zeroCells zs.toArray n).toList
theorem x0 (zs:List Value)(n:Nat):(lx zs n).length=n*zs.length:=by simp[lx,Builtin.zeroCells]
theorem aCP{zs:List Value}{n:Nat}{v:Value}(h:v∈lx zs n):v∈zs:=by
 unfold lx Builtin.zeroCells at h;simp only[Om,dZ,Array.toList_range,ta,zJ]at h;obtain⟨i,hi,rfl⟩:=h;have aR:0<zs.length:=Fm fun e=>by rw[e]at hi;simp at hi
 have hm:i%zs.length<zs.length:=Nat.mod_lt _ aR;rw[getElem!_pos zs.toArray (i%zs.length) (by simpa using hm)];simp
theorem Wf{zs:List Value}{n i:Nat}(h:i<n*zs.length):(lx zs n)[i]? =zs[i%zs.length]? :=by
 have aR:0<zs.length:=Fm fun e=>by rw[e]at h;simp at h
 have hm:i%zs.length<zs.length:=Nat.mod_lt _ aR;unfold lx Builtin.zeroCells;rw[Om,hL,Array.toList_range,ta,Wq h,nM,getElem!_pos zs.toArray (i%zs.length) (by simpa using hm),eg hm];simp
theorem aCQ (w:World)(t e ty:TypeId)(zs:List Value)(ht:P.underlying t=some (.slice e))(ad:∀w,(zeroValue e).run P w=.ok (.agg zs.toArray) w)(h1:∀v∈zs,v.oneCell'=true)(b o n c:Nat)(hn:0<n)
  (hc:∀j,j<n*zs.length->(w.cell? ⟨b,o+j,none⟩).isSome=true) (ag:∀j,j<n*zs.length->w.frozen? ⟨b,o+j,none⟩=false):
  (Builtin.clear_ #[t] ty #[.slice (some ⟨b,o,none⟩) n c]).run P w=.ok (.tuple #[]) (w.setCells b o (lx zs n)):=by
 have ct:=run_storeCells_cells (P:=P) b o (lx zs n) 0 w (by simpa[x0]using hc) (by simpa[x0]using ag) (by intro v wc;exact h1 v (aCP wc));simp only[x9]at ct;obtain⟨m,rfl⟩:∃m,n=m+1:=⟨n-1,by omega⟩;unfold lx at ct⊢;simp[Builtin.clear_,run_underlying ht,ad,Value.cells,ct]
theorem aCR{α:Type}(d:Array α)(i j:Nat)(Z:List α)(cF:i<=j)(hj:j<=d.size)(aCS:Z.length=j-i):
  lay (lay d i (d.toList.drop j)) (i+(d.size-j)) Z=(d.toList.take i++d.toList.drop j++Z).toArray:=by
 apply Array.ext_getElem?;intro t;have cb:(d.toList.take i).length=i:=by simp;omega
 have jk:(d.toList.drop j).length=d.size-j:=by simp
 rw[lay_get? _ _ _ _ (by rw[lay_size];omega),lay_get? _ _ _ _ (by rw[jk];omega),show(d.toList.take i++d.toList.drop j++Z).toArray[t]? =(d.toList.take i++d.toList.drop j++Z)[t]? from r1];simp only[jk,aCS];by_cases df:t<i
 ·rw[if_neg (by omega),if_neg (by omega),e5 (by simp;omega),e5 (by omega),Fl,if_pos df,fM]
 ·by_cases er:t<i+(d.size-j)
  ·rw[if_neg (by omega),if_pos (by omega),e5 (by simp;omega),pX (by omega),cb]
  ·rw[pX (by simp;omega)]
   simp only[eZ,cb,jk];by_cases e2:t<d.size
   ·rw[if_pos (by omega)]
   ·rw[if_neg (by omega),if_neg (by omega),zx (by omega),lQ (by omega)]
set_option maxHeartbeats 4000000 in
set_option maxRecDepth 1000000 in
theorem ajO (L:SlLaysE0.n45 P ρ)(k:Nat)(vf:0<k)(zs:List Value)(jB:zs.length=k)(Gg:∀v∈zs,v.oneCell'=true)(aE0:∀w,(isAgg (ρ.t 23)).run P w=.ok true w)(aE1:∀w,(Go.sizeOf (ρ.t 23)).run P w=.ok k w)
  (v23:∀w,(zeroValue (ρ.t 23)).run P w=.ok (.agg zs.toArray) w) (i0:TypeInfo) (tx:P.info? (ρ.t 23)=some i0) (Jo:i0.size=k) (blk cap n i j:Nat) (d:Array Value) (w:World) (hd:d.size=n*k) (Fe:∀v∈d.toList,v.oneCell'=true) (hH:Holds id w blk 0 d)
  (cF:i<=j) (hj:j<=n) (ea:n<=cap) (de:n<=9223372036854775807):
  Calls P (ρ.f 45) #[.slice (some ⟨blk,0,none⟩) n cap,.int .i64 i,.int .i64 j] w fun e w'=>e=.returned (.slice (some ⟨blk,0,none⟩) (n-(j-i)) cap)/\∃q,w'=putRow id (Sort.ahead w q) blk 0 (d.toList.take (i*k)++d.toList.drop (j*k)++lx zs (j-i)).toArray:=by
 have mixed:=L.mixed;have t0:=L.t0;have a0:=L.a0;have z0:=L.z0;have v0:=L.v0;have t3:=L.t3;have a3:=L.a3;have z3:=L.z3;have v3:=L.v3;have t4:=L.t4;have a4:=L.a4;have z4:=L.z4;have v4:=L.v4;have t22:=L.t22;have a22:=L.a22;have z22:=L.z22;have v22:=L.v22;by_cases heq:i=j
 ·subst heq
  have h0:Calls P (ρ.f 45) #[.slice (some ⟨blk,0,none⟩) n cap,.int .i64 i,.int .i64 i] w fun e w'=>e=.returned (.slice (some ⟨blk,0,none⟩) n cap)/\w'=w:=by
   clear hH;obtain⟨_,_,Wg⟩:=L.f45
   go_enter Wg,SlBodyN.n45_ntmps ρ
   go_wp2
   all_goals (go_ret;exact⟨rfl,rfl⟩)
  refine h0.mono ?_;rintro e w' ⟨rfl,rfl⟩;have eM:lx zs (i-i)=[]:=uR.1 (by rw[x0,Ft,vS]);have e:(d.toList.take (i*k)++d.toList.drop (i*k)++lx zs (i-i)).toArray=d:=by rw[eM];simp
  refine⟨by rw[Ft,Nat.sub_zero],0,?_⟩;rw[e];exact(putRow_self id (Sort.ahead w' 0) blk 0 d hH).symm
 ·have aT:i<j:=by omega
  have NI:i*k<=j*k:=x4 k cF;have hjk:j*k<=n*k:=x4 k hj;have oS:(n-j)*k=n*k-j*k:=Nat.sub_mul ..;have JQ:(j-i)*k=j*k-i*k:=Nat.sub_mul ..;have Ff:(i+(n-j))*k=i*k+(n*k-j*k):=by rw[p7,oS]
  obtain⟨news,JR⟩:∃news,news=d.toList.drop (j*k):=⟨_,rfl⟩;have hlen:news.length=(n-j)*k:=by rw[JR,nK,fw,hd,oS]
  have kn:∀t,t<(n-j)*k->news[t]? =some d[j*k+t]! :=by
   intro t ht;rw[JR,CG,fM,getElem!_pos d (j*k+t) (by omega),zv (by omega)]
  obtain⟨A,hA,tL⟩:∃A:Addr,(if cap=j then some (⟨blk,0,none⟩:Addr)else some ⟨blk,j*k,none⟩)=some A/\Hid (∀t u,news[t]? =some u->w.drew.cell? (A.add t)=some u):=by
   by_cases h:cap=j
   ·refine⟨⟨blk,0,none⟩,by simp[h],fun t u hu=> ?_⟩
    have aCT:n-j=0:=by omega
    have h0:news.length=0:=by rw[hlen,aCT,vS]
    rw[uR.1 h0]at hu;simp at hu
   ·refine⟨⟨blk,j*k,none⟩,by simp[h],fun t u hu=> ?_⟩
    have ht:t<(n-j)*k:=by
     have:=(fj.1 hu).1;rwa [hlen]at this
    rw[kn t ht]at hu;rw[Addr.add_lit];have:=(hH (j*k+t) (by omega)).1;rw[dA]at this;exact this.trans hu
  have s1:Hid (news.length=(n-j)*k):=hlen
  have s2:Hid (∀u∈news,u.oneCell'=true):=by
   intro u hu;rw[JR]at hu;exact Fe u (x2 hu)
  have e9:Hid (∀t,t<news.length->(w.drew.cell? ⟨blk,0+i*k+t,none⟩).isSome=true/\w.drew.frozen? ⟨blk,0+i*k+t,none⟩=false):=by
   intro t ht;rw[hlen]at ht;rw[qV];exact⟨by show(w.cell? _).isSome=true;rw[(hH (i*k+t) (by omega)).1];rfl,(hH (i*k+t) (by omega)).2⟩
  obtain⟨qL,B1⟩:∃qL,qL=w.drew.setCells blk (0+i*k) news:=⟨_,rfl⟩
  have N9:qL=putRow id (Sort.ahead w 1) blk 0 (lay d (i*k) (d.toList.drop (j*k))):=by
   rw[B1,JR,<-putRow_setCells id (Sort.ahead w 1) blk 0 _ d (i*k) (by simp;omega),putRow_self id (Sort.ahead w 1) blk 0 d (holds_ahead id w 1 blk 0 d hH),List.map_id];rfl
  have Dv:Holds id qL blk 0 (lay d (i*k) (d.toList.drop (j*k))):=by rw[N9];exact holds_putRow id _ blk 0 d _ (holds_ahead id w 1 blk 0 d hH) (lay_size _ _ _)
  have fm:∀ty,(Builtin.clear_ #[ρ.t 22] ty #[.slice (some ⟨blk,(i+(n-j))*k,none⟩) (j-i) (cap-(i+(n-j)))]).run P qL=.ok (.tuple #[]) (qL.setCells blk ((i+(n-j))*k) (lx zs (j-i))):=
   fun ty=>aCQ qL _ _ ty zs t22 v23 Gg blk _ _ _ (by omega) (fun t ht=>by
    have hb:(i+(n-j))*k+t<(lay d (i*k) (d.toList.drop (j*k))).size:=by
     rw[jB,JQ]at ht;rw[lay_size,hd,Ff];omega
    have:=(Dv _ hb).1;rw[dA]at this;rw[this];rfl) (fun t ht=>by
    have hb:(i+(n-j))*k+t<(lay d (i*k) (d.toList.drop (j*k))).size:=by
     rw[jB,JQ]at ht;rw[lay_size,hd,Ff];omega
    have:=(Dv _ hb).2;rw[dA]at this;exact this)
  have X:Aside (qL=putRow id (Sort.ahead w 1) blk 0 (lay d (i*k) (d.toList.drop (j*k)))):=N9;have hW:Hid (qL=w.drew.setCells blk (0+i*k) news):=B1;have aE2:i<=cap:=by omega
  have aE3:j<=cap:=by omega
  have aE4:n-j<=cap-j:=by omega
  have cH:Hid (d.size=n*k/\Ff=Ff):=⟨hd,rfl⟩;have dG:n-(i+(n-j))=j-i:=by omega
  have ig:Hid (qL.setCells blk ((i+(n-j))*k) (lx zs (j-i))=putRow id (Sort.ahead w 1) blk 0 (d.toList.take (i*k)++d.toList.drop (j*k)++lx zs (j-i)).toArray):=by
   show _=_;rw[<-aCR d (i*k) (j*k) (lx zs (j-i)) NI (by rw[hd];exact hjk) (by rw[x0,jB,JQ]),<-putRow_setCells id _ blk 0 _ _ (i*k+(d.size-j*k)) (by rw[lay_size,x0,jB,JQ,hd];omega),<-N9,List.map_id,dA,Ff,hd]
  clear B1 N9 Dv hH kn JR hlen Fe cH NI hjk oS JQ Ff;obtain⟨_,_,Wg⟩:=L.f45
  go_enter Wg,SlBodyN.n45_ntmps ρ
  go_wp2_with fail
  go_region_law_o (refine step_append_room rfl (.tmp 22) (.tmp 25) (ρ.t 22) rfl (ρ.t 23) i0 k t22 tx Jo blk 0 i cap (by simp[Act.eval,Act.put]) A (n-j) (cap-j) news (by simp[Act.eval,Act.put]) s1.out tL.out s2.out (by omega) e9.out ?_;rw[<-hW.out])
  go_wp2
  go_ret
  refine⟨by rw[show n-(j-i)=i+(n-j) by omega];rfl,1,ig.out⟩
end Go.Abs
namespace Go.Abs
open Go Go.Proofs
theorem ajP{k:Nat}:∀{ds:List V},(∀d∈ds,(aC d).length=k)->(ds.flatMap aC).length=ds.length*k
 |[],_=>by simp
 |d::ds,h=>by rw[im,eZ,h d (by simp),ajP fun y hy=>h y (by simp[hy]),gD,p7];omega
theorem ajQ{k:Nat}:∀{ds:List V} (n:Nat),(∀d∈ds,(aC d).length=k)->(ds.take n).flatMap aC=(ds.flatMap aC).take (n*k)
 | _,0,_=>by simp
 |[],n+1,_=>by simp
 |d::ds,n+1,h=>by
  have hd:=h d (by simp);rw[List.take_succ_cons,im,im,ajQ n fun y hy=>h y (by simp[hy]),show(n+1)*k=(aC d).length+n*k by rw[p7,hd];omega,List.take_length_add_append]
theorem ajR{k:Nat}:∀{ds:List V} (n:Nat),(∀d∈ds,(aC d).length=k)->(ds.drop n).flatMap aC=(ds.flatMap aC).drop (n*k)
 | _,0,_=>by simp
 |[],n+1,_=>by simp
 |d::ds,n+1,h=>by
  have hd:=h d (by simp);rw[List.drop_succ_cons,im,ajR n fun y hy=>h y (by simp[hy]),show(n+1)*k=(aC d).length+n*k by rw[p7,hd];omega,List.drop_length_add_append]
theorem aCU (zs:List Value)(n:Nat):lx zs (n+1)=zs++lx zs n:=by
 apply oA;intro i;have hm:(n+1)*zs.length=n*zs.length+zs.length:=by rw[p7,Nat.one_mul]
 by_cases h:i<zs.length
 ·rw[Wf (by omega),e5 h,Nat.mod_eq_of_lt h]
 ·rw[pX (by omega)]
  by_cases h2:i<(n+1)*zs.length
  ·rw[Wf h2,Wf (by omega)]
   congr 1;exact Nat.mod_eq_sub_mod (by omega)
  ·rw[lQ (by rw[x0];omega),lQ (by rw[x0];omega)]
theorem ajS{fid:Nat->Nat}{G:bX}{w:World}{b8:V}{zs:List Value}(h:a6 fid G w (aC b8) zs):∀n,a6 fid G w ((List.replicate n b8).flatMap aC) (lx zs n)
 |0=>by
  have e:lx zs 0=[]:=uR.1 (by rw[x0,vS]);rw[e];exact .nil
 |n+1=>by
  rw[zz,im,aCU];exact h.append (ajS h n)
theorem ajT{b8:V}(h:bI b8=true):∀n,cj (List.replicate n b8)=true
 |0=>rfl
 |n+1=>by rw[zz];simp[cj,h,ajT h n]
variable{C:Ctx}{fid:Nat->Nat}
def Wh (ds:List V)(a c:Int):List V:=ds.take a.toNat++ds.drop c.toNat
def qO (es:Nat)(b8:V):u2:=fun args H=>match args with
 |[.bJ l bN 0 n tag,.int .i64 a,.int .i64 c]=>match H[l]? with
  |some (.row e6 ds false)=>if bN=es/\e6=es/\ds.length=n/\n=tag/\n<=1099511627776/\0<=a/\a<=c/\c<=n/\cj ds=true/\bL (ds.flatMap aC)=true then
   some (.list es (Wh ds a c),[(l,.row es (Wh ds a c++List.replicate (c.toNat-a.toNat) b8) true)],[])else none
  | _=>none
 | _=>none
theorem aCV{es:Nat}{b8:V}{args:List V}{H:Heap}{v:V}{H':Heap}{low:Nat}(h:qZ (qO es b8) args H=some (v,H',low)):
  ∃(l:Nat) (ds:List V) (a c:Nat),args=[.bJ l es 0 ds.length ds.length,.int .i64 a,.int .i64 c]/\H[l]? =some (.row es ds false)/\ds.length<=1099511627776/\a<=c/\c<=ds.length/\cj ds=true/\bL (ds.flatMap aC)=true/\
   v=.list es (ds.take a++ds.drop c)/\H'=H.set l (.row es (ds.take a++ds.drop c++List.replicate (c-a) b8) true)/\low=min H.length l:=by
 obtain⟨r,hr,he⟩:=cA.1 h;unfold qO at hr;split at hr
 ·rename_i l bN n tag a c
  split at hr
  ·rename_i e6 ds hl
   split at hr
   ·rename_i hc
    obtain⟨rfl,rfl,rfl,rfl,hm,h0,h1,h2,hp,bc⟩:=hc;cases hr;simp only[qe,qf,p6,x8,lR,bx]at he;obtain⟨a,rfl⟩:=zw h0;obtain⟨c,rfl⟩:=zw (Int.le_trans h0 h1);exact⟨l,ds,a,c,rfl,hl,hm,by omega,by omega,hp,bc,he.1.symm,he.2.1.symm,he.2.2.symm⟩
   ·cases hr
  ·cases hr
 ·cases hr
theorem ajU{ft es:Nat}{b8:V}{zs:List Value}(aE5:0<es)(aCW:bI b8=true)(jW:(aC b8).length=es)(jB:zs.length=es)(Gg:∀v∈zs,v.oneCell'=true)(nq:∀G w,a6 fid G w (aC b8) zs)
  (c5:∀xs w,(callFunc ft xs).run C.P w=.ok (.enter ft xs) w)
  (aA:∀(blk cap n i j:Nat) (d:Array Value) (w:World),d.size=n*es->(∀v∈d.toList,v.oneCell'=true)->Sort.Holds id w blk 0 d->i<=j->j<=n->n<=cap->n<=9223372036854775807->
    Calls C.P ft #[.slice (some ⟨blk,0,none⟩) n cap,.int .i64 i,.int .i64 j] w fun e w'=>e=.returned (.slice (some ⟨blk,0,none⟩) (n-(j-i)) cap)/\∃q,w'=Sort.putRow id (Sort.ahead w q) blk 0 (d.toList.take (i*es)++d.toList.drop (j*es)++lx zs (j-i)).toArray):
  wM C fid ft (qO es b8):=by
 intro G H w args v H' low xs ab gi he;obtain⟨l,ds,i,j,rfl,hl,hm,cF,hj,hp,bc,rfl,rfl,rfl⟩:=aCV he
 obtain⟨x,rfl⟩:∃x,xs=[x,.int .i64 i,.int .i64 j]:=by
  cases gi with
  |cons _ x _ xs _ hs=>
   cases hs with
   |cons _ y _ xs h2 hs=>
    cases hs with
    |cons _ z _ xs ar hs=>
     cases hs;rw[h2.iW,ar.iW];exact⟨x,rfl⟩
 have hx:bh fid G w (.bJ l es 0 ds.length ds.length) x:=by cases gi;assumption
 obtain⟨h0,c8,cR,cap,hb,oH,gY,rfl⟩:=hx.nk;obtain⟨aV,ho,hr⟩:=ab.obj l h0 hb;rw[hl]at ho;cases ho;obtain⟨nr,wy,hfz,eo,iY,c,e,vals,rest,hc,eV,gv,ep⟩:=hr;obtain⟨rfl,rfl,lU,np⟩:=gY nr;rw[vS];rw[dA]at lU;have jl:=C9 ep bc;have hlen:vals.length=ds.length*es:=by rw[ep.length,ajP iY]
 have hblk:h0.b<w.heap.size:=ab.blk l h0 hb;have de:vals.length<=c.size:=by rw[<-fw,gv,eZ];omega
 have hH:Sort.Holds id w h0.b 0 vals.toArray:=by
  intro q bf;have ET:q<vals.length:=by simpa using bf
  refine⟨?_,?_⟩
  ·rw[dA,Lib.cell_of_heap hc,<-fM,gv,e5 ET,eg ET,getElem!_pos vals.toArray q bf]
   rfl
  ·rw[dA];exact Lib.frozen_of_heap hc q
 have bb:=aA h0.b cap ds.length i j vals.toArray w (by simpa using hlen) (by simpa using jl) hH cF hj np (by omega);refine⟨?_,_,_,c5 _ _⟩;rw[c5];show Calls C.P ft ⟨[.slice (some ⟨h0.b,0,none⟩) ds.length cap,.int .i64 i,.int .i64 j]⟩ w _;refine th bb ?_;rintro e' w' ⟨rfl,n,rfl⟩;rw[CF];have NI:i*es<=j*es:=x4 es cF;have hjk:j*es<=ds.length*es:=x4 es hj;have oS:(j-i)*es=j*es-i*es:=Nat.sub_mul ..;obtain⟨F,cH⟩:∃F,F=vals.take (i*es)++vals.drop (j*es)++lx zs (j-i):=⟨_,rfl⟩
 have aE6:F.length=vals.length:=by
  rw[cH,eZ,eZ,nc,nK,x0,jB,oS,hlen];omega
 rw[<-cH];obtain⟨kD,Fg⟩:∃kD,kD=ds.take i++ds.drop j++List.replicate (j-i) b8:=⟨_,rfl⟩
 have Wi:kD.length=ds.length:=by
  rw[Fg,eZ,eZ,nc,nK,CE];omega
 have sq:∀d∈kD,(aC d).length=es:=fun d hd=>by
  rw[Fg]at hd;rcases iq.1 hd with hd|hd
  ·rcases iq.1 hd with hd|hd
   ·exact iY d (x3 hd)
   ·exact iY d (x2 hd)
  ·rw[List.eq_of_mem_replicate hd];exact jW
 have u6:cj kD=true:=by
  rw[Fg,yi,yi,(KB hp).2,(KB hp).1,ajT aCW];rfl
 have Co:(Sort.putRow id (Sort.ahead w n) h0.b 0 F.toArray).heap[h0.b]? =some (.cells (Sort.putCells id 0 F.toArray c) e (0,0)):=by
  unfold Sort.putRow Sort.mapBlock;simp only[CD,if_true];show(w.heap[h0.b]?).map _=_;rw[hc];rfl
 have ql:∀b,b≠h0.b->(Sort.putRow id (Sort.ahead w n) h0.b 0 F.toArray).heap[b]? =w.heap[b]? :=fun b bg=>by
  unfold Sort.putRow Sort.mapBlock;simp only[CD];rw[if_neg fun q=>bg q.symm];rfl
 have ns:(Sort.putRow id (Sort.ahead w n) h0.b 0 F.toArray).heap.size=w.heap.size:=by
  unfold Sort.putRow Sort.mapBlock;simp[Sort.ahead]
 have gj:=Ext.write (h':=h0) ab hb hfz rfl (aH _) id rfl ns ql rfl rfl
 have GR:a6 fid G w (kD.flatMap aC) F:=by
  rw[Fg,cH,zA,zA,ajQ i iY,ajR j iY];exact((ep.take _).append (ep.drop _)).append (ajS (nq G w) _)
 have gy:a8 C fid ⟨cp G.β l h0,G.I⟩ (H.set l (.row es kD false)) (Sort.putRow id (Sort.ahead w n) h0.b 0 F.toArray):=by
  refine a8.write ab hb hfz rfl hfz (aH _) id rfl ns ql _ ?_;refine⟨by rw[Wi];exact nr,by rw[Wi];exact wy,hfz,eo,sq,_,e,F,rest,Co,?_,?_,GR.ext ab gj⟩
  ·rw[eV];simp[Sort.putCells]
  ·rw[ajB _ _ _ (by simp;omega)]
   rw[gv,List.drop_left' (by simp;omega),CF,List.map_id]
 obtain⟨aG,aCX⟩:∃aG,aG=Sort.putRow id (Sort.ahead w n) h0.b 0 F.toArray:=⟨_,rfl⟩;rw[<-aCX]at gy gj⊢;have aT:l<H.length:=ab.lt hb
 have Lb:bh fid ⟨cp G.β l h0,G.I⟩ aG (.bJ l es 0 (ds.length-(j-i)) ds.length) (.slice (some ⟨h0.b,0,none⟩) (ds.length-(j-i)) cap):=
  .bJ l es 0 _ _ h0 _ _ _ (by simp[cp]) (by rw[nr];exact aH _) fun _=>⟨by rw[vS],rfl,by rw[dA];exact lU,by omega⟩
 have kn:(H.set l (.row es kD false))[l]? =some (.row es kD false):=nI aT
 have Ch:kD.take (ds.length-(j-i))=ds.take i++ds.drop j:=by
  rw[Fg];exact List.take_left' (by rw[eZ,nc,nK];omega)
 have eQ:fF (H.set l (.row es kD false)) H.length (.bJ l es 0 (ds.length-(j-i)) ds.length)=some (.list es (ds.take i++ds.drop j),H.set l (.row es kD true),min H.length l):=by
  unfold fF;simp only[dR,bI,gq,if_false,kn,Wi,u6,CJ,Ch,dA,Nat.sub_le,and_self,if_true,List.set_set]
 obtain⟨bu,f1,f2⟩:=FX gy Lb eQ;refine⟨_,rfl,bu,by rw[<-Fg];exact f1.rel,fun m h7=> ?_,f2⟩;have k:=f1.ext m h7;rw[x7]at k;exact(gj.le (cY h7 (nJ _ _)) (aH _)).trans k
theorem ajV{aa:Nat->Option bU}{i es:Nat}{b8:V}(cH:aa i=some (.oC (qO es b8)))(H:Heap)(l:Nat)(ds:List V)(a c:Nat)(hl:H[l]? =some (.row es ds false))(hp:cj ds=true)(bc:bL (ds.flatMap aC)=true)(hm:ds.length<=1099511627776)(h1:a<=c)(h2:c<=ds.length):
  ∃kD,b0 aa (.fn i [] []) [.bJ l es 0 ds.length ds.length,.int .i64 a,.int .i64 c] H=some (.list es (ds.take a++ds.drop c),H.set l (.row es kD true),min H.length l):=by
 refine⟨ds.take a++ds.drop c++List.replicate (c-a) b8,?_⟩;rw[k3,cH];have ar:(c:Int)<=ds.length:=by omega
 have aS:(a:Int)<=c:=by omega
 simp[qZ,qO,hl,bc,hm,hp,h1,h2,qe,qf,Wh]
end Go.Abs
namespace Go.Proofs
open Go.Shelf
def Tryz.aCY:Go.Shelf.Ren:=⟨fun|45=>29|n=>n,fun|22=>32|23=>69|n=>n,fun|n=>n⟩
theorem Tryz.aCZ:Go.Proofs.SlLaysE0.n45 Tryz.prog Tryz.aCY:={
 mixed:=by kernel_rfl
 f45:=⟨Tryz.f29.name,by decide,Tryz.func29.trans (congrArg some (by kernel_rfl))⟩
 t0:=Tryz.underlying0
 a0:=Tryz.isAgg0
 z0:=Tryz.sizeOf0
 v0:=Tryz.zeroValue0
 t3:=Tryz.underlying3
 a3:=Tryz.isAgg3
 z3:=Tryz.sizeOf3
 v3:=Tryz.zeroValue3
 t4:=Tryz.underlying4
 a4:=Tryz.isAgg4
 z4:=Tryz.sizeOf4
 v4:=Tryz.zeroValue4
 t22:=Tryz.underlying32
 a22:=Tryz.isAgg32
 z22:=Tryz.sizeOf32
 v22:=Tryz.zeroValue32}
def Tryz.aC0:Go.Shelf.Ren:=⟨fun|45=>31|n=>n,fun|22=>25|23=>73|n=>n,fun|n=>n⟩
theorem Tryz.aC1:Go.Proofs.SlLaysE0.n45 Tryz.prog Tryz.aC0:={
 mixed:=by kernel_rfl
 f45:=⟨Tryz.f31.name,by decide,Tryz.func31.trans (congrArg some (by kernel_rfl))⟩
 t0:=Tryz.underlying0
 a0:=Tryz.isAgg0
 z0:=Tryz.sizeOf0
 v0:=Tryz.zeroValue0
 t3:=Tryz.underlying3
 a3:=Tryz.isAgg3
 z3:=Tryz.sizeOf3
 v3:=Tryz.zeroValue3
 t4:=Tryz.underlying4
 a4:=Tryz.isAgg4
 z4:=Tryz.sizeOf4
 v4:=Tryz.zeroValue4
 t22:=Tryz.underlying25
 a22:=Tryz.isAgg25
 z22:=Tryz.sizeOf25
 v22:=Tryz.zeroValue25}
end Go.Proofs
namespace Go.Abs.bz
open Go Go.Abs Go.Proofs
def Oa:V:=.agg [.aN,.int .i64 0]
def Ob:V:=.agg [.int .i64 0,.int .i64 0,.aN,.int .i64 0,.int .i64 0,.int .i64 0]
def Wj:List Value:=[.slice none 0 0,.int .i64 0]
def Wk:List Value:=[.int .i64 0,.int .i64 0,.slice none 0 0,.int .i64 0,.int .i64 0,.int .i64 0]
theorem Fh{G:bX}{w:World}:bh id G w (.int .i64 0) (.int .i64 0):=.p _ _ (.int _ _)
theorem ajW{G:bX}{w:World}:bh id G w .aN (.slice none 0 0):=.p _ _ .aN
theorem aC2 (G:bX)(w:World):a6 id G w (aC Oa) Wj:=.cons _ _ _ _ ajW (.cons _ _ _ _ Fh .nil)
theorem aC3 (G:bX)(w:World):a6 id G w (aC Ob) Wk:=.cons _ _ _ _ Fh (.cons _ _ _ _ Fh (.cons _ _ _ _ ajW (.cons _ _ _ _ Fh (.cons _ _ _ _ Fh (.cons _ _ _ _ Fh .nil)))))
theorem aC4:(Tryz.prog.info? 69).map (fun i=>i.size)=some 2:=by kernel_rfl
theorem aC5:(Tryz.prog.info? 73).map (fun i=>i.size)=some 6:=by kernel_rfl
end Go.Abs.bz
set_option maxRecDepth 100000
namespace Go.Abs.bz
open Go Go.Abs Go.Proofs
noncomputable section
variable{g:Nat->Option Obj}
theorem aC6:wM (C g) id 29 (Go.Abs.qO 2 Oa):=by
 obtain⟨i0,h0,h1⟩:=cA.1 aC4
 exact ajU (C:=C g) (fid:=id) (zs:=Wj) (by decide) rfl rfl rfl (by decide) aC2 (enters_of Tryz.func29 (by kernel_rfl) rfl) fun blk cap n i j d w hd Fe hH cF hj hc hn=>
  ajO Tryz.aCZ 2 (by decide) Wj rfl (by decide) Tryz.isAgg69 Tryz.sizeOf69 Tryz.zeroValue69 i0 h0 h1 blk cap n i j d w hd Fe hH cF hj hc hn
theorem aC7:wM (C g) id 31 (Go.Abs.qO 6 Ob):=by
 obtain⟨i0,h0,h1⟩:=cA.1 aC5
 exact ajU (C:=C g) (fid:=id) (zs:=Wk) (by decide) rfl rfl rfl (by decide) aC3 (enters_of Tryz.func31 (by kernel_rfl) rfl) fun blk cap n i j d w hd Fe hH cF hj hc hn=>
  ajO Tryz.aC1 6 (by decide) Wk rfl (by decide) Tryz.isAgg73 Tryz.sizeOf73 Tryz.zeroValue73 i0 h0 h1 blk cap n i j d w hd Fe hH cF hj hc hn
def ajX (g:Nat->Option Obj):Nat->Option bU:=vN (vN (eS g) 29 (Go.Abs.qO 2 Oa)) 31 (Go.Abs.qO 6 Ob)
theorem aC8 (h:c0 (C g) id (eS g)):c0 (C g) id (ajX g):=N7 (N7 h aC6) aC7
def cE (g:Nat->Option Obj):Nat->Option bU:=over (over (ajX g) 128 zm) 7 (AB [] (.bool true))
theorem aC9 (h:c0 (C g) id (eS g)):c0 (C g) id (cE g):=yw (yw (aC8 h) (aid h)) (ah7 h)
theorem aDa:Go.Abs.gB.sY aE (cE g) 29 (13,1):=(⟨fun H l ds a c=>ajV (b8:=Oa) (aa:=cE g) (i:=29) (by kernel_rfl) H l ds a c⟩:LQ (cE g) 29 2)
theorem aDb:Go.Abs.gB.sY aE (cE g) 31 (14,1):=(⟨fun H l ds a c=>ajV (b8:=Ob) (aa:=cE g) (i:=31) (by kernel_rfl) H l ds a c⟩:LQ (cE g) 31 6)
end
end Go.Abs.bz
