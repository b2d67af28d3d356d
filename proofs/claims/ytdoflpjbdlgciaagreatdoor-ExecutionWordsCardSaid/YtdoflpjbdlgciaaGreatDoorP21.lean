/- Texts of this claim, joined and written short by a program. -/
import Derived.Test.YtdoflpjbdlgciaaGreatDoorP19
import Derived.Test.YtdoflpjbdlgciaaGreatDoorP18
import Derived.Test.YtdoflpjbdlgciaaGreatDoorP00
set_option linter.unusedVariables false
set_option linter.unusedSimpArgs false
set_option linter.unusedSectionVars false
namespace Go.Abs
open Go
variable{ad:Nat->Option cb}
inductive ha:List Bool->List Bool->Prop
 |nil:ha [] []
 |cons {a c:Bool} {l r:List Bool} (h:a=true->c=true) (k:ha l r):ha (a::l) (c::r)
theorem ha.get{l r:List Bool}:ha l r->∀{i:Nat},l[i]? =some true->r[i]? =some true
 | .nil,_,h=>by simp at h
 | .cons h k,0,e=>by simp at e;subst e;simp[h rfl]
 | .cons h k,i+1,e=>by simpa using k.get (by simpa using e)
theorem ha.app{l r fS nu:List Bool}:ha l r->ha fS nu->ha (l++fS) (r++nu)
 | .nil,h=>h
 | .cons h k,h'=>.cons h (k.app h')
theorem ha.rev{l r:List Bool}:ha l r->ha l.reverse r.reverse
 | .nil=>.nil
 | .cons h k=>by rw[List.reverse_cons,List.reverse_cons];exact k.rev.app (.cons h .nil)
theorem ha.refl:∀l:List Bool,ha l l
 |[]=>.nil
 | _::r=>.cons id (ha.refl r)
theorem ha.take{l r:List Bool}:ha l r->∀n,ha (l.take n) (r.take n)
 | .nil,n=>by simp;exact .nil
 | .cons h k,0=>.nil
 | .cons h k,n+1=>.cons h (k.take n)
theorem ha.len{l r:List Bool}:ha l r->l.length=r.length
 | .nil=>rfl
 | .cons _ k=>by simp[k.len]
theorem ha.no{l r:List Bool}:ha l r->r.all (!·)=true->l.all (!·)=true
 | .nil,_=>rfl
 | .cons (a:=a) (c:=c) h k,e=>by
   simp only[Na,ca]at e⊢;refine⟨?_,k.no e.2⟩;cases a with
   |false=>rfl
   |true=>rw[h rfl]at e;cases e.1
theorem Q8{call:c1}(hc:my call){ops:List bP}{S:Nat->au}{bb:Nat->Bool}(hs:∀i bh,ops[i]? =some bh->mA call bh (S i) (S (i+1)) (bb i)){i:Nat}:∀{d:Nat},i+d<=ops.length->(∀x,i<=x->x<i+d->bb x=false)->(S (i+d)).H=(S i).H
 |0,_,_=>rfl
 |d+1,hd,ae=>by
  have:=(hs (i+d) ops[i+d] (jI (by omega))).still hc (ae (i+d) (by omega) (by omega));exact this.trans (Q8 hc hs (d:=d) (by omega) fun x h1 h2=>ae x h1 (by omega))
theorem aqr{call:c1}{bh:bP}{S lr:au}{bb:Bool}(h:mA call bh S lr bb)(ae:bb=false):jo call (bh,S,S.H)=true:=by
 unfold jo;rcases h with⟨h0,v,H1,bS,h1,-,h2⟩|⟨h0,-,-⟩
 ·simp only[h0,h1,Qa,dC,mb]
  exact h2.symm.trans ae
 ·simp only[h0]
theorem Q9{call:c1}:∀{ops:List bP} {st:au} {cq:List au},fA call ops st=some cq->cq.length=ops.length+1
 |[],st,cq,h=>by simp only[fA,aA]at h;subst h;rfl
 |o::r,st,cq,h=>by
  simp only[fA]at h;split at h
  ·split at h
   ·obtain⟨t,h1,rfl⟩:=cG.1 h
    simp[Q9 h1]
   ·cases h
  ·obtain⟨t,h1,rfl⟩:=cG.1 h
   simp[Q9 h1]
  ·cases h
theorem aqs{call:c1}:∀{ops:List bP} {st:au} {cq:List au},fA call ops st=some cq->cq[0]? =some st
 |[],st,cq,h=>by simp only[fA,aA]at h;subst h;rfl
 |o::r,st,cq,h=>by
  simp only[fA]at h;split at h
  ·split at h
   ·obtain⟨t,h1,rfl⟩:=cG.1 h;rfl
   ·cases h
  ·obtain⟨t,h1,rfl⟩:=cG.1 h;rfl
  ·cases h
inductive j5 (ad:Nat->Option cb) (b:Nat) (ms:cO):List bP->bY->bY->Heap->bY->bY->Heap->List Bool->Prop
 |nil {aq σ:bY} {H:Heap}:j5 ad b ms [] aq σ H aq σ H []
 |step {o:bP} {rest:List bP} {aq σ bp aV:bY} {H H':Heap} {v:V} {wr:List Bool} (hw:gQ aq σ o.guard=some true) (h:∀H,Own H ms->cf (cl ad) (bV aq σ) H H.length o.op=some (v,H,H.length)) (k:j5 ad b ms rest (gl aq o.dst v) (gm σ o.dst v) H bp aV H' wr):j5 ad b ms (o::rest) aq σ H bp aV H' (false::wr)
 |skip {o:bP} {rest:List bP} {aq σ bp aV:bY} {H H':Heap} {wr:List Bool} (hw:gQ aq σ o.guard=some false) (k:j5 ad b ms rest (gl aq o.dst (.bd [])) (gm σ o.dst (.bd [])) H bp aV H' wr):j5 ad b ms (o::rest) aq σ H bp aV H' (false::wr)
 |make {o:bP} {rest:List bP} {aq σ bp aV:bY} {H H1 H':Heap} {bS:Nat} {v:V} {wr:List Bool} (hw:gQ aq σ o.guard=some true) (h:cf (cl ad) (bV aq σ) H H.length o.op=some (v,H1,bS)) (hb:b<=bS) (hv:b<=H1.length) (aB:Own H1 ms) (k:j5 ad b ms rest (gl aq o.dst v) (gm σ o.dst v) H1 bp aV H' wr):j5 ad b ms (o::rest) aq σ H bp aV H' (true::wr)
theorem ic.aqt{b:Nat}{ms:cO}{A:List bP}{aq σ bp aV:bY}{H:Heap}(h:ic (cl ad) ms A aq σ bp aV):j5 ad b ms A aq σ H bp aV H (List.replicate A.length false):=by
 induction h with
 |nil=>exact .nil
 |step hw h k ih=>exact .step hw h ih
 |skip hw k ih=>exact .skip hw ih
theorem j5.append{b:Nat}{ms:cO}{A B:List bP}{aq σ eE cU Lr jA:bY}{H H1 H2:Heap}{w w':List Bool}(h:j5 ad b ms A aq σ H eE cU H1 w)(k:j5 ad b ms B eE cU H1 Lr jA H2 w'):j5 ad b ms (A++B) aq σ H Lr jA H2 (w++w'):=by
 induction h with
 |nil=>exact k
 |step hw h _ ih=>exact .step hw h (ih k)
 |skip hw _ ih=>exact .skip hw (ih k)
 |make hw h dQ fY aB _ ih=>exact .make hw h dQ fY aB (ih k)
theorem j5.len{b:Nat}{ms:cO}{A:List bP}{aq σ eE cU:bY}{H H1:Heap}{w:List Bool}(h:j5 ad b ms A aq σ H eE cU H1 w):w.length=A.length:=by
 induction h<;>simp_all
theorem j5.own{b:Nat}{ms:cO}{A:List bP}{aq σ eE cU:bY}{H H1:Heap}{w:List Bool}(h:j5 ad b ms A aq σ H eE cU H1 w)(aB:Own H ms)(hb:b<=H.length):Own H1 ms/\b<=H1.length:=by
 induction h with
 |nil=>exact⟨aB,hb⟩
 |step hw h _ ih=>exact ih aB hb
 |skip hw _ ih=>exact ih aB hb
 |make hw h dQ fY mJ _ ih=>exact ih mJ fY
theorem j5.run{b:Nat}{ms:cO}:∀{A:List bP} {aq σ bp aV:bY} {H H':Heap} {w:List Bool},j5 ad b ms A aq σ H bp aV H' w->∀{aG aw:Env} {low:Nat} {wr:List Bool} (B:List bP),Fits aG aq->Fits aw σ->Own H ms->b<=low->b<=H.length->
  ∃iM dv low' w',Fits iM bp/\Fits dv aV/\b<=low'/\b<=H'.length/\Own H' ms/\ha w' w/\c5 (cl ad) (A++B) ⟨aG,aw,H,low,none⟩ wr=c5 (cl ad) B ⟨iM,dv,H',low',none⟩ (w'.reverse++wr)/\
   ∀cq,fA (cl ad) (A++B) ⟨aG,aw,H,low,none⟩=some cq->∃kn lA,cq=kn++lA/\kn.length=A.length/\fA (cl ad) B ⟨iM,dv,H',low',none⟩=some lA/\(∀T∈kn,Own T.H ms)/\
    ∀(i:Nat) (o:bP) (T:au),A[i]? =some o->kn[i]? =some T->w[i]? =some false->∀H',Own H' ms->jo (cl ad) (o,T,H')=true
 |[],aq,σ,_,_,H,_,_,.nil,aG,aw,low,wr,B,h1,h2,aB,hb,hl=>⟨aG,aw,low,[],h1,h2,hb,hl,aB,.nil,rfl,fun cq h=>⟨[],cq,rfl,rfl,h,(fun _ h=>nomatch h),(fun i o T h=>by simp at h)⟩⟩
 |o::A,aq,σ,bp,aV,H,H',_,.step (v:=v) (wr:=w) hw h k,aG,aw,low,wr,B,h1,h2,aB,hb,hv=>by
  obtain⟨nn,k8,ag,e2,bI⟩:=vZ h1 h2 H (min low H.length) o.dst v;obtain⟨iM,dv,low',w',f1,f2,f0,f5,f6,f7,f3,f4⟩:=k.run (low:=min low H.length) (wr:=false::wr) B e2 bI aB (by omega) hv;have jh:=hw;rw[<-zA h1 h2]at jh;have hs:=h H aB;rw[<-sS h1 h2]at hs;refine⟨iM,dv,low',false::w',f1,f2,f0,f5,f6,.cons id f7,?_,fun cq ht=> ?_⟩
  ·simp only[ky,c5,jh,hs,lx]
   rw[ag,f3];simp
  ·simp only[ky,fA,jh,hs]at ht
   rw[ag]at ht;obtain⟨nE,eo,rfl⟩:=cG.1 ht;obtain⟨kn,lA,rfl,g1,g2,g0,g3⟩:=f4 nE eo;refine⟨_::kn,lA,rfl,by simp[g1],g2,fun T hT=>(dL.1 hT).elim (fun e=>e ▸ aB) (g0 T),fun i p T hp hT hi H' mJ=> ?_⟩;cases i with
   |zero=>
    simp only[n4,aA]at hp hT;subst hp;subst hT;have zs:=h H' mJ;rw[<-sS h1 h2]at zs;simp only[jo,jh,hs,zs,lx,mU,u0,Qa]
   |succ i=>
    simp only[Bd]at hp hT hi;exact g3 i p T hp hT hi H' mJ
 |o::A,aq,σ,bp,aV,H,H',_,.skip (wr:=w) hw k,aG,aw,low,wr,B,h1,h2,aB,hb,hv=>by
  obtain⟨nn,k8,ag,e2,bI⟩:=vZ h1 h2 H low o.dst (.bd []);obtain⟨iM,dv,low',w',f1,f2,f0,f5,f6,f7,f3,f4⟩:=k.run (wr:=false::wr) B e2 bI aB hb hv;have jh:=hw;rw[<-zA h1 h2]at jh;refine⟨iM,dv,low',false::w',f1,f2,f0,f5,f6,.cons id f7,?_,fun cq ht=> ?_⟩
  ·simp only[ky,c5,jh]
   rw[ag,f3];simp
  ·simp only[ky,fA,jh]at ht
   rw[ag]at ht;obtain⟨nE,eo,rfl⟩:=cG.1 ht;obtain⟨kn,lA,rfl,g1,g2,g0,g3⟩:=f4 nE eo;refine⟨_::kn,lA,rfl,by simp[g1],g2,fun T hT=>(dL.1 hT).elim (fun e=>e ▸ aB) (g0 T),fun i p T hp hT hi H' mJ=> ?_⟩;cases i with
   |zero=>
    simp only[n4,aA]at hp hT;subst hp;subst hT;simp only[jo,jh]
   |succ i=>
    simp only[Bd]at hp hT hi;exact g3 i p T hp hT hi H' mJ
 |o::A,aq,σ,bp,aV,H,H',_,.make (H1:=H1) (bS:=bS) (v:=v) (wr:=w) hw h dQ fY GK k,aG,aw,low,wr,B,h1,h2,aB,hb,hv=>by
  obtain⟨nn,k8,ag,e2,bI⟩:=vZ h1 h2 H1 (min low bS) o.dst v;obtain⟨iM,dv,low',w',f1,f2,f0,f5,f6,f7,f3,f4⟩:=k.run (low:=min low bS) (wr:=fm H H1 bS::wr) B e2 bI GK (by omega) fY;have jh:=hw;rw[<-zA h1 h2]at jh;have hs:=h;rw[<-sS h1 h2]at hs;refine⟨iM,dv,low',fm H H1 bS::w',f1,f2,f0,f5,f6,.cons (fun _=>rfl) f7,?_,fun cq ht=> ?_⟩
  ·simp only[ky,c5,jh,hs]
   rw[ag,f3];simp
  ·simp only[ky,fA,jh,hs]at ht
   rw[ag]at ht;obtain⟨nE,eo,rfl⟩:=cG.1 ht;obtain⟨kn,lA,rfl,g1,g2,g0,g3⟩:=f4 nE eo;refine⟨_::kn,lA,rfl,by simp[g1],g2,fun T hT=>(dL.1 hT).elim (fun e=>e ▸ aB) (g0 T),fun i p T hp hT hi H' mJ=> ?_⟩;cases i with
   |zero=>simp at hi
   |succ i=>
    simp only[Bd]at hp hT hi;exact g3 i p T hp hT hi H' mJ
def CZ (eB:List Nat)(ops:List bP)(w wr:List Bool):Bool:=
 wr.zipIdx.all fun(x,i)=>!x||ops.zipIdx.all fun(o,j)=>!gr o.op||i==j||pG eB i j||(Nat.blt i w.length&&Nat.blt j w.length&&!w.getD j true)
theorem aqu{eB:List Nat}{ops:List bP}{w wr mP:List Bool}(h:ha wr mP)(ho:CZ eB ops w mP=true):CZ eB ops w wr=true:=by
 unfold CZ at ho⊢;rw[eV]at ho⊢;rintro⟨x,i⟩ hx;cases x with
 |false=>rfl
 |true=>exact ho (true,i) (jm.2 (h.get (jm.1 hx)))
section
variable{b:Nat}{eE σ cU:bY}{H H1:Heap}{Q:X->bY->Heap->Prop}{ms:cO}
theorem aqv{A R ops:List bP}{eB:List Nat}(pX:A++R=ops)(aB:Own H ms)
  (dK:b<=H.length->∃eE cU H1 w,j5 ad b ms A nK σ H eE cU H1 w/\∀w',ha w' w->Op ad b R eE cU H1 w'.reverse (fun aV H' wr=>CZ eB ops w wr=true/\Q .normal aV H')):
  fg ad b (.region ops (some eB)) σ H Q:=fun aw low h1 h2 av=>by
 obtain⟨eE,cU,H1,w,hA,aa⟩:=dK av;obtain⟨nn,k8,ck,w',f1,f2,f0,f5,f6,f7,f3,f4⟩:=hA.run (low:=low) (wr:=[]) R sR h1 aB h2 av;obtain⟨aqw,Ra,Rb,Ab,Ac,Rc,ct,dN,jT,C0,ug,aqx⟩:=aa w' f7 nn k8 ck f1 f2 f0 f5;rw[pX,rk]at f3;rw[pX]at f4;have he:c5 (cl ad) ops ⟨[],aw,H,low,none⟩ []=some (⟨aqw,Ra,Rb,Ab,none⟩,Ac):=f3.trans ct;obtain⟨cq,o3⟩:=Fx he;obtain⟨kn,lA,t1,t2,t3,t4,t5⟩:=f4 cq o3;have Rd:=hA.len;have aqy:=aqs t3;obtain⟨S,bb,h0,hn,lS,hs⟩:=tQ _ _ _ _ _ he;obtain⟨lr,aBw,-,-,ab6,-⟩:=tQ _ _ _ _ _ ct;rw[List.reverse_reverse]at ab6;have rz:=Ji ops S bb cq hs (by rw[h0];exact o3);simp only[List.reverse_nil,ke]at lS
 have hw:∀{i},Ac[i]? =some true↔i<ops.length/\bb i=true:=fun {i}=>by
  rw[lS,kR];by_cases hi:i<ops.length
  ·rw[List.getElem?_range hi];simp[hi]
  ·rw[nt (by simpa using hi)];simp[hi]
 have ab7:∀{i},Ac.getD i false=true↔i<ops.length/\bb i=true:=fun {i}=>by
  rw[<-hw,yn];cases Ac[i]? with
  |none=>simp
  |some x=>simp
 have aqz:∀{i},i<w.length->Ac[i]? =some true->w[i]? =some true:=fun {i} hi h=>by
  rw[ab6,gM (by rw[f7.len];exact hi)]at h;exact f7.get h
 have cg:∀i,i<ops.length->bb i=true->∀j o',ops[j]? =some o'->gr o'.op=true->i≠j->pG eB i j=true\/(i<w.length/\j<w.length/\w[j]? =some false):=fun i hi ae j o' hj ht cW=>by
  unfold CZ at ug;rw[eV]at ug;have:=ug (true,i) (jm.2 (hw.2 ⟨hi,ae⟩));simp only[fQ,qp,eV]at this;have:=this (o',j) (jm.2 hj);simp only[ht,fQ,kz,ca,beq_iff_eq,cW,or_false,gN,false_or]at this;refine this.imp id fun⟨⟨q1,aT⟩,b3⟩=> ?_;have q1:=(Nat.blt_eq ..).mp q1;have aT:=(Nat.blt_eq ..).mp aT;refine⟨q1,aT,?_⟩;rw[yn,jI aT]at b3;rw[jI aT];simpa using b3
 have sP:rq (cl ad) eB ops Ac ⟨[],aw,H,low,none⟩=true:=by
  unfold rq;rw[o3];simp only[ca];constructor
  ·unfold Ih
   simp only[eV];rintro⟨x,i⟩ hi;cases x with
   |false=>rfl
   |true=>
    simp only[fQ,qp,eV];rintro⟨gx,j⟩ hj;cases gx with
    |false=>rfl
    |true=>
     have I6:=jm.1 hj;have hi:=hw.1 (jm.1 hi);have hj:=hw.1 I6;by_cases cW:i=j
     ·simp[cW]
     ·have ab8:=jI hj.1
      rcases cg i hi.1 hi.2 j _ ab8 ((hs j _ ab8).gr hj.2) cW with q|⟨q1,aT,b3⟩
      ·simp[q]
      ·rw[aqz aT I6]at b3;cases b3
  ·rw[eV]
   intro q bj;unfold Ii at bj;simp only[H5]at bj;obtain⟨⟨o',j⟩,hj,bj⟩:=bj;have hj:=jm.1 hj;simp only at hj bj;split at bj
   ·cases bj
   rename_i JB;simp only[kz,mb,not_or,M6,Bool.not_eq_true]at JB;obtain⟨ht,ia⟩:=JB;simp only[H5]at bj;obtain⟨⟨Bm,k⟩,ah,bj⟩:=bj;have ah:=jm.1 ah;simp only at ah bj;split at bj
   ·cases bj
   rename_i IW;have ob:j<ops.length:=(fF.1 hj).1
   have sG:k<=ops.length:=by
    have:=(fF.1 ah).1;rw[Q9 o3]at this;omega
   have ab9:=rz k sG;rw[ah]at ab9;cases ab9;rw[rz j (by omega)]at bj;simp only[DH]at bj;subst bj;simp only[kz,beq_iff_eq,ca,bne_iff_ne,ne_eq,mb,not_or,not_and,M6]at IW;obtain⟨⟨vA,EF⟩,Re⟩:=IW
   have hex:∀i,i<ops.length->bb i=true->i≠j->pG eB i j=true->(i<j↔i<k):=fun i hi ae cW aca=>by
    rw[<-decide_eq_decide];by_cases e:decide (i<j)=decide (i<k)
    ·exact e
    ·exact absurd (sd.2 ⟨(true,i),jm.2 (hw.2 ⟨hi,ae⟩),by simp[cW,aca,e]⟩) Re
   have acb:bb j=false:=by
    cases hx:bb j with
    |false=>rfl
    |true=>rw[ab7.2 ⟨ob,hx⟩]at ia;cases ia
   by_cases y9:j<w.length/\w[j]? =some false
   ·obtain⟨q1,aT⟩:=y9
    have aqA:j<A.length:=by omega
    have aBx:k<=A.length:=by
     by_cases pV:k=0
     ·omega
     ·obtain⟨C1,Ls⟩:=ab7.1 (EF pV)
      rcases gq (k-1) A.length with r|r
      ·omega
      ·rcases cg (k-1) C1 Ls j o' hj ht (by omega)with z|⟨z,-⟩
       ·have:=hex (k-1) C1 Ls (by omega) z
        omega
       ·omega
    have Qh:Own (S k).H ms:=by
     rw[t1]at ah;rcases gq k A.length with r|r
     ·rw[gM (by omega)]at ah
      exact t4 _ (e0 ah)
     ·obtain rfl:k=A.length:=by omega
      rw[w5 (by omega),t2,Nat.sub_self,aqy]at ah;rw[<-yv ah];exact f6
    have acd:=rz j (by omega);rw[<-pX,gM aqA]at hj;rw[t1,gM (by omega)]at acd;exact t5 j o' (S j) hj acd aT _ Qh
   ·have eD:∀x,x<ops.length->bb x=true->(x<j↔x<k):=fun x hx Lt=>by
     have sD:x≠j:=fun e=>by rw[e,acb]at Lt;cases Lt
     rcases cg x hx Lt j o' hj ht sD with q|⟨-,q⟩
     ·exact hex x hx Lt sD q
     ·exact absurd q y9
    have fo:(S k).H=(S j).H:=by
     have hc:=Qg ad
     have no:∀x,x<ops.length->(x<j/\k<=x\/x<k/\j<=x)->bb x=false:=fun x hx aca=>by
      cases en:bb x with
      |false=>rfl
      |true=>have:=eD x hx en;omega
     rcases Nat.le_total k j with aqB|EK
     ·obtain⟨d,rfl⟩:=n5 aqB
      exact(Q8 hc hs (by omega) fun x C1 Ls=>no x (by omega) (by omega)).symm
     ·obtain⟨d,rfl⟩:=n5 EK
      exact Q8 hc hs (by omega) fun x C1 Ls=>no x (by omega) (by omega)
    rw[fo];exact aqr (hs j o' hj) acb
 exact⟨.normal,Ra,Rb,Ab,Rc,by rw[kW];simp only[he,oO,sP,Ie,Ic,if_true,au.fT],dN,jT,C0,aqx⟩
end
end Go.Abs
namespace Go.Abs
variable{ad:Nat->Option cb}
theorem ace{α:Type}{es bytes b:Nat}{f:α->V}{s y ar:ak α}{iC ki:aj}{eN:V}{m:List (Nat × cD)}{ms:cO}{H:Heap}{ai:aj->V}(c6:b<=H.length)(k:Nat)
  (hs:jz bytes s y=some ar) (aB:Own H ms) (ah:ms[k]? =some m) (hr:iO b es f eN s m) (ao:ai iC=eN) (hb:ai ki=bU es f y) (hp:∀a,bQ (f a)=true) (hc:∀a,bX (aF (f a))=true):
  ∃v' H1 bS m',b<=bS/\b<=H1.length/\cf (cl ad) ai H H.length (.append es bytes iC ki)=some (v',H1,bS)/\iO b es f v' ar m'/\Own H1 (ms.set k m'):=by
 have rP:ms.set k m=ms:=by
  apply yp;intro i;by_cases e:k=i
  ·subst e;rw[tu (fF.1 ah).1,ah]
  ·rw[lG e]
 have hfz:e4 H H.length (y.l.map f)=some (y.l.map f,H,H.length):=xO (zF hp _);have we:=Fq hc y.l;unfold jz at hs;by_cases hy:y.l=[]
 ·rw[if_pos hy]at hs
  cases hs;refine⟨eN,H,H.length,m,c6,c6,?_,hr,by rw[rP];exact aB⟩;rw[xH];simp only[step,hb,wc];rw[hfz,hy];simp only[me,List.isEmpty_nil,if_true,ao];have fH:jy b es eN (s.map f) m:=hr;generalize wg:s.map f=lz at fH;cases fH with
  |nil=>rfl
  |emp=>rfl
  |row l ds h kg=>simp[aB.get k ah]
 ·rw[if_neg hy]at hs
  split at hs
  ·rename_i fb
   cases hs
   have bu:(y.l.map f).isEmpty=false:=by cases Fs:y.l with
    |nil=>exact absurd Fs hy
    |cons=>rfl
   have zG:(bX ((y.l.map f).flatMap aF)=false)=False:=by rw[we];simp
   have fH:jy b es eN (s.map f) m:=hr;generalize wg:s.map f=lz at fH;cases fH with
   |nil=>
    have gh:s.l=[]:=by cases s<;>simp_all [ak.map,ak.l]
    have wh:(y.l.map f).length*(bytes+1)<=2^40:=by simpa[gh]using fb
    refine⟨.b7 H.length es 0 (y.l.map f).length (y.l.map f).length,H++[.row es (y.l.map f) false],H.length,[(H.length,.row es (y.l.map f) false)],c6,by simp;omega,?_,?_,aB.fill k ah⟩
    ·rw[xH]
     simp only[step,hb,wc];rw[hfz];simp only[bu,gN,if_false,zG,ao,wh,if_true]
    ·simp only[gh,ke,ak.map]
     exact .row _ _ (by simpa using hy) c6
   |emp=>
    have gh:s.l=[]:=by cases s<;>simp_all [ak.map,ak.l]
    have wh:(y.l.map f).length*(bytes+1)<=2^40:=by simpa[gh]using fb
    refine⟨.b7 H.length es 0 (y.l.map f).length (y.l.map f).length,H++[.row es (y.l.map f) false],H.length,[(H.length,.row es (y.l.map f) false)],c6,by simp;omega,?_,?_,aB.fill k ah⟩
    ·rw[xH]
     simp only[step,hb,wc];rw[hfz];simp only[bu,gN,if_false,zG,ao,wh,if_true]
    ·simp only[gh,ke,ak.map]
     exact .row _ _ (by simpa using hy) c6
   |row l ds hd kg=>
    have gh:s.l.map f=ds:=by cases s<;>simp_all [ak.map,ak.l]
    have hlen:s.l.length=ds.length:=by rw[<-gh,jn]
    have bx:=aB.get k ah;have aH:=xM bx;refine⟨.b7 l es 0 (ds++y.l.map f).length (ds++y.l.map f).length,H.set l (.row es (ds++y.l.map f) false),l,[(l,.row es (ds++y.l.map f) false)],kg,by simpa using c6,?_,?_,aB.put k ah⟩
    ·rw[xH]
     simp only[step,hb,wc];rw[hfz];simp only[bu,gN,if_false,zG,ao,bx,e1];rw[if_pos ⟨trivial,trivial,trivial,trivial,trivial,by rw[hlen]at fb;simpa using fb⟩,tw (se aH)]
     done
    ·show jy b es _ (.mk ((s.l++y.l).map f)) _
     rw[lh,gh];exact .row _ _ (by simp[hd]) kg
  ·cases hs
theorem acf{α:Type}{es bytes:Nat}{f:α->V}{s y z:ak α}{iC ki:aj}{call:c1}{ai:aj->V}{H:Heap}{low:Nat}(hs:jz bytes s y=some z)(he:s=.nil\/s=.emp)(ao:ai iC=bU es f s)(hb:ai ki=bU es f y)(hp:∀a,bQ (f a)=true)(hc:∀a,bX (aF (f a))=true):
  cf call ai H low (.xe es bytes iC ki)=some (bU es f z,H,low):=by
 show step ai H low (.xe es bytes iC ki)=_;have hfz:cx (y.l.map f)=true:=zF hp _;have we:=Fq hc y.l;simp only[step,hb,wc,hfz];unfold jz at hs;by_cases hy:y.l=[]
 ·rw[if_pos hy]at hs
  cases hs;rw[ao,hy];rcases he with rfl|rfl<;>simp[bU]
 ·rw[if_neg hy]at hs
  split at hs
  ·rename_i fb
   cases hs
   have bu:(y.l.map f).isEmpty=false:=by cases Fs:y.l with
    |nil=>exact absurd Fs hy
    |cons=>rfl
   have gh:s.l=[]:=by rcases he with rfl|rfl<;>rfl
   have wh:(y.l.map f).length*(bytes+1)<=2^40:=by simpa[gh]using fb
   rw[ao];rcases he with rfl|rfl<;>simp only[bU,bu,we,wh,gN,if_false,and_self,if_true,Bool.true_eq_false,gh,ke]
  ·cases hs
end Go.Abs
namespace Go.Abs.hG
open Go Go.Abs
inductive aO (ay:Nat->Type):Type where
 |int (k:IntKind) (n:Int)
 |cy (b:Bool)
 |bo (i:Nat) (neg:Bool)
 |str (s:aW)
 |sl (t:Nat) (s:ak (ay t))
 |k (v:V)
 |agg (vs:List (aO ay))
 |bd (vs:List (aO ay))
 |dW (vs:List (aO ay)) (f:Nat)
 |ptr (o off:Nat)
 |row (o:Nat)
 |jk (o:Nat) (n:Int) (f:Nat)
 |fn (i:Nat) (caps:List (aO ay))
 |fv (j:Nat)
 |lb
structure iE where
 ay:Nat->Type
 es:Nat->Nat
 enc:(t:Nat)->ay t->V
 lz:(t:Nat)->ay t->Nat->aO ay
 xS:(t:Nat)->ay t->List Bool
 iR:(t:Nat)->aO ay->List Bool->Option (ay t)
 bb:Nat->Bool
 cT:Nat->Option Nat
 beq:(t:Nat)->ay t->ay t->Bool
 mp:Nat->Option (Nat × Nat)
 acg:∀c p,mp c=some p->ay c=List (ay p.1 × ay p.2)
section
variable (U:iE)(B:List Bool)(ρ:List V)(fs:List V)
mutual
inductive b5:aO U.ay->V->Prop
 |int {k:IntKind} {n:Int}:b5 (.int k n) (.int k n)
 |cy {b:Bool}:b5 (.cy b) (.bool b)
 |bo {i:Nat} {b neg:Bool} (h:B[i]? =some b):b5 (.bo i neg) (.bool (b != neg))
 |str {s:aW}:b5 (.str s) (.str s)
 |sl {t:Nat} {s:ak (U.ay t)}:b5 (.sl t s) (bU (U.es t) (U.enc t) s)
 |k {v:V}:b5 (.k v) v
 |agg {vs:List (aO U.ay)} {ws:List V} (h:bz vs ws):b5 (.agg vs) (.agg ws)
 |bd {vs:List (aO U.ay)} {ws:List V} (h:bz vs ws):b5 (.bd vs) (.bd ws)
 |dW {vs:List (aO U.ay)} {ws:List V} {f:Nat} (h:bz vs ws):b5 (.dW vs f) (.dW ws f)
 |ptr {o off a:Nat} (h:ρ[o]? =some (.ptr a 0)):b5 (.ptr o off) (.ptr a off)
 |row {o:Nat} {v:V} (h:ρ[o]? =some v):b5 (.row o) v
 |jk {o f l es N:Nat} {n:Int} (h:ρ[o]? =some (.b7 l es 0 N N)):b5 (.jk o n f) (.hg l es n.toNat f N)
 |fn {i:Nat} {cs:List (aO U.ay)} {ws:List V} (h:bz cs ws):b5 (.fn i cs) (.fn i [] ws)
 |fv {j:Nat} {v:V} (h:fs[j]? =some v):b5 (.fv j) v
 |lb {v:V}:b5 .lb v
inductive bz:List (aO U.ay)->List V->Prop
 |nil:bz [] []
 |cons {v:aO U.ay} {w:V} {vs:List (aO U.ay)} {ws:List V} (h:b5 v w) (r:bz vs ws):bz (v::vs) (w::ws)
end
end
section
variable{U:iE}{B s5:List Bool}{ρ cM fs:List V}
theorem nS{α:Type}{l fS:List α}(h:l <+: fS){i:Nat}{a:α}(hi:l[i]? =some a):fS[i]? =some a:=by
 obtain⟨t,rfl⟩:=h;rw[gM (fF.1 hi).1];exact hi
mutual
theorem b5.mono (dK:B <+: s5)(aR:ρ <+: cM):∀{v:aO U.ay} {w:V},b5 U B ρ fs v w->b5 U s5 cM fs v w
 | _,_,.int=>.int
 | _,_,.cy=>.cy
 | _,_,.bo h=>.bo (nS dK h)
 | _,_,.str=>.str
 | _,_,.sl=>.sl
 | _,_,.k=>.k
 | _,_,.agg h=>.agg (bz.mono dK aR h)
 | _,_,.bd h=>.bd (bz.mono dK aR h)
 | _,_,.dW h=>.dW (bz.mono dK aR h)
 | _,_,.ptr h=>.ptr (nS aR h)
 | _,_,.row h=>.row (nS aR h)
 | _,_,.jk h=>.jk (nS aR h)
 | _,_,.fn h=>.fn (bz.mono dK aR h)
 | _,_,.fv h=>.fv h
 | _,_,.lb=>.lb
theorem bz.mono (dK:B <+: s5)(aR:ρ <+: cM):∀{vs:List (aO U.ay)} {ws:List V},bz U B ρ fs vs ws->bz U s5 cM fs vs ws
 | _,_,.nil=>.nil
 | _,_,.cons h r=>.cons (b5.mono dK aR h) (bz.mono dK aR r)
end
mutual
theorem b5.back (dK:B <+: s5)(aR:ρ <+: cM):∀{v:aO U.ay} {w w':V},b5 U B ρ fs v w->b5 U s5 cM fs v w'->b5 U B ρ fs v w'
 | _,_,_,.int,.int=>.int
 | _,_,_,.cy,.cy=>.cy
 | _,_,_,.bo h,.bo h'=>by
   have:=nS dK h;rw[h']at this;cases this;exact .bo h
 | _,_,_,.str,.str=>.str
 | _,_,_,.sl,.sl=>.sl
 | _,_,_,.k,.k=>.k
 | _,_,_,.agg h,.agg h'=>.agg (bz.back dK aR h h')
 | _,_,_,.bd h,.bd h'=>.bd (bz.back dK aR h h')
 | _,_,_,.dW h,.dW h'=>.dW (bz.back dK aR h h')
 | _,_,_,.ptr h,.ptr h'=>by
   have:=nS aR h;rw[h']at this;cases this;exact .ptr h
 | _,_,_,.row h,.row h'=>by
   have:=nS aR h;rw[h']at this;cases this;exact .row h
 | _,_,_,.jk h,.jk h'=>by
   have:=nS aR h;rw[h']at this;cases this;exact .jk h
 | _,_,_,.fn h,.fn h'=>.fn (bz.back dK aR h h')
 | _,_,_,.fv h,.fv h'=>.fv h'
 | _,_,_,.lb,.lb=>.lb
theorem bz.back (dK:B <+: s5)(aR:ρ <+: cM):∀{vs:List (aO U.ay)} {ws eK:List V},bz U B ρ fs vs ws->bz U s5 cM fs vs eK->bz U B ρ fs vs eK
 | _,_,_,.nil,.nil=>.nil
 | _,_,_,.cons h r,.cons h' nu=>.cons (b5.back dK aR h h') (bz.back dK aR r nu)
end
theorem bz.length{vs:List (aO U.ay)}{ws:List V}:bz U B ρ fs vs ws->vs.length=ws.length
 | .nil=>rfl
 | .cons _ r=>by simp[r.length]
theorem bz.get{vs:List (aO U.ay)}{ws:List V}:bz U B ρ fs vs ws->∀{i:Nat} {v:aO U.ay},vs[i]? =some v->∃w,ws[i]? =some w/\b5 U B ρ fs v w
 | .nil,_,_,h=>by simp at h
 | .cons h r,0,_,e=>by simp at e;subst e;exact⟨_,rfl,h⟩
 | .cons h r,i+1,_,e=>by
   simp at e;obtain⟨w,ag,e2⟩:=r.get e;exact⟨w,by simpa using ag,e2⟩
theorem bz.drop{vs:List (aO U.ay)}{ws:List V}:bz U B ρ fs vs ws->∀i,bz U B ρ fs (vs.drop i) (ws.drop i)
 | .nil,i=>by cases i<;>exact .nil
 | .cons h r,0=>.cons h r
 | .cons h r,i+1=>r.drop i
theorem bz.take{vs:List (aO U.ay)}{ws:List V}:bz U B ρ fs vs ws->∀i,bz U B ρ fs (vs.take i) (ws.take i)
 | .nil,i=>by cases i<;>exact .nil
 | .cons h r,0=>.nil
 | .cons h r,i+1=>.cons h (r.take i)
theorem bz.set{vs:List (aO U.ay)}{ws:List V}:bz U B ρ fs vs ws->∀(i:Nat) {v:aO U.ay} {w:V},b5 U B ρ fs v w->bz U B ρ fs (vs.set i v) (ws.set i w)
 | .nil,i,_,_,_=>by cases i<;>exact .nil
 | .cons h r,0,_,_,h'=>.cons h' r
 | .cons h r,i+1,_,_,h'=>.cons h (r.set i h')
theorem bz.app{vs vs':List (aO U.ay)}{ws eK:List V}:bz U B ρ fs vs ws->bz U B ρ fs vs' eK->bz U B ρ fs (vs++vs') (ws++eK)
 | .nil,h=>h
 | .cons h r,h'=>.cons h (r.app h')
end
structure gD (U:iE):Prop where
 lz:∀(t:Nat) (x:U.ay t) (B:List Bool) (ρ fs:List V),b5 U (B++U.xS t x) ρ fs (U.lz t x B.length) (U.enc t x)
 iR:∀(t:Nat) (v:aO U.ay) (B:List Bool) (ρ fs:List V) (w:V) (x:U.ay t),b5 U B ρ fs v w->U.iR t v B=some x->w=U.enc t x
 bQ:∀(t:Nat) (x:U.ay t),bQ (U.enc t x)=true
 ok:∀(t:Nat) (x:U.ay t),bX (aF (U.enc t x))=true
 es:∀(t:Nat) (x:U.ay t),(aF (U.enc t x)).length=U.es t
 bb:∀(t:Nat) (x:U.ay t),U.bb t=true->flat (U.enc t x)=true
 ach:∀(t n:Nat),U.cT t=some n->∀a c:U.ay t,iZ n (U.enc t a) (U.enc t c)=some (U.beq t a c)
def bw{α:Type}:List (Nat × α)->Nat->Option α
 |[],_=>none
 |(k,a)::r,t=>match Nat.beq k t with
  |true=>some a
  |false=>bw r t
def nth{α:Type}:List α->Nat->Option α
 |[],_=>none
 |a::_,0=>some a
 | _::r,n+1=>nth r n
theorem wD{α:Type}:∀(l:List α) (n:Nat),nth l n=l[n]?
 |[],_=>by simp[nth]
 | _::_,0=>rfl
 | _::r,n+1=>by simp[nth,wD r n]
theorem gd{α:Type}(k t:Nat)(a:α)(r:List (Nat × α)):bw ((k,a)::r) t=if k=t then some a else bw r t:=by
 simp only[bw];cases hb:Nat.beq k t with
 |true=>rw[if_pos (e8 hb)]
 |false=>rw[if_neg (fun e=>by rw[e,Bk]at hb;cases hb)]
theorem C2{α:Type}(l r:List (Nat × α))(t:Nat):bw (l++r) t=match bw l t with
  |some a=>some a
  |none=>bw r t:=by
 induction l with
 |nil=>rfl
 |cons p l ih=>
  obtain⟨k,a⟩:=p;rw[ky,gd,gd];by_cases e:k=t
  ·rw[if_pos e,if_pos e]
  ·rw[if_neg e,if_neg e];exact ih
def mem (t:Nat):List Nat->Bool
 |[]=>false
 |k::r=>match Nat.beq k t with
  |true=>true
  |false=>mem t r
theorem mem_iff (t:Nat):∀l:List Nat,mem t l=true↔t∈l
 |[]=>by simp[mem]
 |k::r=>by
  simp only[mem,dL];cases hb:Nat.beq k t with
  |true=>simp[e8 hb]
  |false=>
   have:¬t=k:=fun e=>by rw[e,Bk]at hb;cases hb
   simp[this,mem_iff t r]
end Go.Abs.hG
namespace Go.Abs.hG
open Go Go.Abs
inductive cv (U:iE) where
 |cells (w:Bool) (cs:List (aO U.ay))
 |row (t:Nat) (s:ak (U.ay t))
 |mp (k w:Nat) (m:List (U.ay k × U.ay w))
structure bB (U:iE) where
 vs:List (Nat × aO U.ay)
 mem:List (Nat × cv U)
 aC:Nat
 aJ:List Bool
 ed:List (Nat × Bool)
 dS:List Nat
 cN:List (Nat × Nat)
section
variable{U:iE}
class aS (A:Type) where
 bad:A
 br:Nat->Bool->A->A->A
 c2:{α:Type}->Option α->(α->A)->A
instance{R:Type}:aS (Option R):=⟨none,fun _ c x y=>bif c then x else y,fun o f=>o.bind f⟩
inductive pr (A:Type) where
 |leaf (a:A)
 |br (i:Nat) (c:Bool) (t e:pr A)
 |bad
instance{R:Type}:aS (pr R):=⟨.bad,.br,fun _ _=>.bad⟩
mutual
def GL:V->aO U.ay
 | .bool b=>.cy b
 | .int k n=>.int k n
 | .str s=>.str s
 | .agg vs=>.agg (C3 vs)
 |v=>.k v
def C3:List V->List (aO U.ay)
 |[]=>[]
 |v::r=>GL v::C3 r
end
def r0:aO U.ay->Option (List (aO U.ay))
 | .agg vs=>some vs
 | .lb| .fv _| .bd _| .row _| .jk .. =>none
 | .k v=>match v with
   | .agg _=>none
   |v=>some [.k v]
 |v=>some [v]
def Lu:aO U.ay->Bool
 | .int .. | .cy _| .bo .. | .str _| .sl .. | .ptr .. | .fn .. =>true
 | .k v=>eH v
 | _=>false
def GM:List (aO U.ay)->Bool
 |[]=>true
 |v::r=>match Lu v with
  |true=>GM r
  |false=>false
abbrev kK (U:iE):=List (Nat × aO U.ay)
def ai (aq:kK U)(s:bB U):aj->Option (aO U.ay)
 | .tmp t=>bw aq t
 | .var t=>bw s.vs t
 | .const v=>some (GL v)
 | .func i=>some (.fn i [])
def wE (aq:kK U)(s:bB U):List aj->Option (List (aO U.ay))
 |[]=>some []
 |x::r=>match ai aq s x with
  |some v=>match wE aq s r with
   |some l=>some (v::l)
   |none=>none
  |none=>none
def split{A:Type}[aS A](s:bB U)(v:aO U.ay)(qb cB:bB U->A):A:=match v with
 | .cy true=>qb s
 | .cy false=>cB s
 | .bo i neg=>match bw s.ed i with
   |some b=>match b,neg with
    |true,false=>qb s
    |false,true=>qb s
    | _,_=>cB s
   |none=>match nth s.aJ i with
    |none=>aS.bad
    |some c=>match neg with
     |false=>aS.br i c (qb {s with ed:=(i,true)::s.ed}) (cB {s with ed:=(i,false)::s.ed})
     |true=>aS.br i c (cB {s with ed:=(i,true)::s.ed}) (qb {s with ed:=(i,false)::s.ed})
 | _=>aS.bad
def xT (s:bB U):aO U.ay->Option Bool
 | .cy b=>some b
 | .bo i neg=>match nth s.aJ i with
   |some c=>match neg with
    |false=>some c
    |true=>some (!c)
   |none=>none
 | _=>none
def name{A:Type}[aS A](s:bB U)(c:Bool)(neg:Bool)(k:aO U.ay->bB U->A):A:=k (.bo s.aJ.length neg) {s with aJ:=s.aJ++[c]}
def elem{A:Type}[aS A](t:Nat)(x:U.ay t)(s:bB U)(k:aO U.ay->bB U->A):A:=k (U.lz t x s.aJ.length) {s with aJ:=s.aJ++U.xS t x}
def cut (cs:List (aO U.ay))(off:Nat):Option Nat->Option (aO U.ay)
 |none=>nth cs off
 |some n=>match Nat.ble (off+n) cs.length with
  |true=>some (.agg ((cs.drop off).take n))
  |false=>none
def uh (cs:List (aO U.ay))(o:Nat):List (aO U.ay)->List (aO U.ay)
 |[]=>cs
 |x::xs=>uh (cs.set o x) (o+1) xs
def bin{A:Type}[aS A](s:bB U)(op:BinOp)(k:aO U.ay->bB U->A)(x y:aO U.ay):A:=match x,y with
 | .int b1 a,.int GN c=>match decide (b1=GN)with
   |false=>aS.bad
   |true=>match op with
    | .add=>k (.int b1 (b1.wrap (a+c))) s
    | .sub=>k (.int b1 (b1.wrap (a-c))) s
    | .mul=>k (.int b1 (b1.wrap (a*c))) s
    | .eql=>name s (a==c) false k
    | .neq=>name s (a != c) false k
    | .lss=>name s (decide (a<c)) false k
    | .leq=>name s (decide (a<=c)) false k
    | .gtr=>name s (decide (a>c)) false k
    | .geq=>name s (decide (a>=c)) false k
    | .and=>k (.int b1 (b1.wrap ((BitVec.ofInt b1.bits a &&& BitVec.ofInt b1.bits c).toNat))) s
    | .quo=>match b1 with
      | .i64=>aS.c2 (Cn a c) fun q=>k (.int .i64 q) s
      | _=>aS.bad
    | .rem=>match b1 with
      | .i64=>aS.c2 (Co a c) fun q=>k (.int .i64 q) s
      | _=>aS.bad
    | _=>aS.bad
 | .str a,.str c=>match op with
   | .add=>aS.c2 (da a c) fun q=>k (.str q) s
   | .eql=>name s (a==c) false k
   | .neq=>name s (a != c) false k
   | _=>aS.bad
 | _,_=>aS.bad
def Rf{A:Type}[aS A](s:bB U)(op:BinOp)(k:aO U.ay->bB U->A)(x:aO U.ay)(ui:IntKind)(c:Int):A:=match x with
 | .int b1 a=>match op with
   | .shl=>match decide (0<=c/\c.toNat<=b1.bits)with
     |true=>k (.int b1 (b1.wrap (a*2^c.toNat))) s
     |false=>aS.bad
   | .shr=>match decide (0<=c/\c.toNat<=b1.bits)with
     |true=>k (.int b1 (a/2^c.toNat)) s
     |false=>aS.bad
   | .quo=>match decide (b1=ui/\0<c)with
     |true=>k (.int b1 (b1.wrap (a.tdiv c))) s
     |false=>aS.bad
   | .rem=>match decide (b1=ui/\0<c)with
     |true=>k (.int b1 (a.tmod c)) s
     |false=>aS.bad
   |op=>bin s op k x (.int ui c)
 | _=>bin s op k x (.int ui c)
def uj (s:bB U):List Nat->List (aO U.ay)->List (aO U.ay)->Option Bool
 |[],[],[]=>some true
 |n::ks,x::xs,y::cL=>match uj s ks xs cL with
  |none=>none
  |some e=>match n,x,y with
   |0,.int k a,.int bE c=>match decide (k=bE)with
    |true=>some ((a==c)&&e)
    |false=>none
   |1,.str a,.str c=>some ((a==c)&&e)
   |2,x,y=>match xT s x,xT s y with
    |some a,some c=>some ((a==c)&&e)
    | _,_=>none
   | _,_,_=>none
 | _,_,_=>none
def Lv (z:List (aO U.ay))(aq:kK U)(s:bB U):List (Nat × Nat × aj)->Option (List (aO U.ay))
 |[]=>some z
 |(off,n,x)::r=>match ai aq s x with
  |none=>none
  |some v=>match r0 v with
   |none=>none
   |some cs=>match Nat.beq cs.length n,Nat.ble (off+n) z.length,GM cs with
    |true,true,true=>Lv (uh z off cs) aq s r
    | _,_,_=>none
def Lw:Nat->List (Nat × aj)->Bool
 | _,[]=>true
 |n,p::r=>match Nat.beq p.1 n with
  |true=>Lw (n+1) r
  |false=>false
def Lx (t:Nat)(B:List Bool):List (aO U.ay)->Option (List (U.ay t))
 |[]=>some []
 |v::r=>match U.iR t v B with
  |none=>none
  |some x=>match Lx t B r with
   |none=>none
   |some l=>some (x::l)
def e7{ay:Nat->Type}(t:Nat):aO ay->Option (ak (ay t))
 | .sl e9 s=>if h:e9=t then some (h ▸ s)else none
 | .k .aY=>some .nil
 | .k .emp=>some .emp
 | _=>none
def aci (z:List V):aO U.ay:=match z with
 |[v]=>GL v
 |z=>.agg (C3 z)
def Ly (k w:Nat)(m:List (U.ay k × U.ay w))(x:U.ay k):Option (U.ay w):=@jg _ _ ⟨U.beq k⟩ m x
def aqC (k w:Nat)(m:List (U.ay k × U.ay w))(x:U.ay k)(y:U.ay w):List (U.ay k × U.ay w):=@mI _ _ ⟨U.beq k⟩ m x y
def kindOf (k:Nat)(n:Nat):Bool:=match U.cT k with
 |some m=>Nat.beq m n
 |none=>false
def uk:aO U.ay->Option (aO U.ay)
 | .k .aY=>some (.k .aY)
 | .k .emp=>some (.k .emp)
 | .sl _ .nil=>some (.k .aY)
 | .sl _ .emp=>some (.k .emp)
 | _=>none
def GO{A:Type}[aS A](aq:kK U)(s:bB U)(ty:Option Nat)(k:aO U.ay->bB U->A):cS->A
 | .mv x=>match ai aq s x with
   |some v=>k v s
   |none=>aS.bad
 | .pick c a b=>match ai aq s c with
   |some c=>split s c (fun s=>match ai aq s a with|some v=>k v s|none=>aS.bad) (fun s=>match ai aq s b with|some v=>k v s|none=>aS.bad)
   |none=>aS.bad
 | .build z parts=>match Lv (C3 z) aq s parts with
   |some cs=>k (.agg cs) s
   |none=>aS.bad
 | .lit es z len parts jM=>match ty,jM with
   |some t,true=>match wE aq s (parts.map Prod.snd)with
    |none=>aS.bad
    |some vs=>match Lx t s.aJ vs,Lw 0 parts,Nat.beq vs.length len,Nat.beq (U.es t) es with
     |some l,true,true,true=>match l with
      |[]=>k (.sl t .emp) s
      |l=>k (.sl t (.mk l)) s
     | _,_,_,_=>aS.bad
   | _,_=>aS.bad
 | .load sh x=>match ai aq s x with
   |some (.dW cs f)=>match cut cs f sh with
    |some v=>k v s
    |none=>aS.bad
   |some (.ptr o f)=>match bw s.mem o with
    |some (.cells _ cs)=>match cut cs f sh with
     |some v=>k v s
     |none=>aS.bad
    | _=>aS.bad
   |some (.jk o n f)=>match bw s.mem o with
    |some (.row t a)=>aS.c2 (aP a.l n) fun e=>elem t e s fun v s=>match r0 v with
     |some cs=>match cut cs f sh with
      |some v=>k v s
      |none=>aS.bad
     |none=>aS.bad
    | _=>aS.bad
   | _=>aS.bad
 | .nilCheck x=>match ai aq s x with
   |some (.ptr o f)=>k (.ptr o f) s
   |some (.dW cs f)=>k (.dW cs f) s
   |some (.fn i cs)=>k (.fn i cs) s
   |some (.jk o n f)=>k (.jk o n f) s
   | _=>aS.bad
 | .bin op x (.const (.int ui c))=>match ai aq s x with
   |some v=>Rf s op k v ui c
   |none=>aS.bad
 | .bin op x y=>match ai aq s x,ai aq s y with
   |some v,some w=>bin s op k v w
   | _,_=>aS.bad
 | .yy neg ks x y=>match ai aq s x,ai aq s y with
   |some (.agg a),some (.agg c)=>match uj s ks a c with
    |some e=>name s e neg k
    |none=>aS.bad
   | _,_=>aS.bad
 | .rm kind neg x y=>match ai aq s x,ai aq s y with
   |some v,some w=>match kind,v,w with
    |1,.sl _ a,.k .aY=>name s a.isNil neg k
    |4,v,w=>match xT s v,xT s w with
     |some a,some c=>name s (a==c) neg k
     | _,_=>aS.bad
    | _,_,_=>aS.bad
   | _,_=>aS.bad
 | .un op x=>match op,ai aq s x with
   | .not,some (.cy b)=>k (.cy (!b)) s
   | .not,some (.bo i neg)=>k (.bo i (!neg)) s
   | .neg,some (.int b1 n)=>k (.int b1 (b1.wrap (0-n))) s
   | _,_=>aS.bad
 | .conv b1 x=>match ai aq s x with
   |some (.int _ n)=>k (.int b1 (b1.wrap n)) s
   | _=>aS.bad
 | .u1 mx x y=>match ai aq s x,ai aq s y with
   |some (.int b1 a),some (.int GN c)=>match decide (b1=GN)with
    |true=>match mx with
     |true=>k (.int b1 (max a c)) s
     |false=>k (.int b1 (min a c)) s
    |false=>aS.bad
   | _,_=>aS.bad
 | .tB i [] cs=>match wE aq s cs with
   |some vs=>k (.fn i vs) s
   |none=>aS.bad
 | .fieldAddr off x=>match ai aq s x with
   |some (.ptr o f)=>k (.ptr o (f+off)) s
   |some (.dW cs f)=>k (.dW cs (f+off)) s
   |some (.jk o n f)=>k (.jk o n (f+off)) s
   | _=>aS.bad
 | .field off sh x=>match ai aq s x with
   |some (.agg cs)=>match cut cs off sh with
    |some v=>k v s
    |none=>aS.bad
   | _=>aS.bad
 | .extract x i=>match ai aq s x with
   |some (.bd vs)=>match nth vs i with
    |some v=>k v s
    |none=>aS.bad
   | _=>aS.bad
 | .len kind x=>match kind,ai aq s x with
   |0,some (.str a)=>k (.int .i64 (a.length:Int)) s
   |1,some (.sl _ a)=>k (.int .i64 a.len) s
   |1,some (.row o)=>match bw s.mem o with
    |some (.row _ a)=>k (.int .i64 a.len) s
    | _=>aS.bad
   |2,some (.row o)=>match bw s.mem o with
    |some (.mp _ _ m)=>k (.int .i64 (m.length:Int)) s
    | _=>aS.bad
   |1,some (.k .aY)=>k (.int .i64 0) s
   |1,some (.k .emp)=>k (.int .i64 0) s
   | _,_=>aS.bad
 | .indexAddr es x i=>match ai aq s x,ai aq s i with
   |some (.sl t a),some (.int _ n)=>match Nat.beq (U.es t) es with
    |true=>aS.c2 (aP a.l n) fun e=>elem t e s fun v s=>match r0 v with
     |some cs=>k (.dW cs 0) s
     |none=>aS.bad
    |false=>aS.bad
   |some (.row o),some (.int _ n)=>match bw s.mem o with
    |some (.row t a)=>match Nat.beq (U.es t) es with
     |true=>aS.c2 (aP a.l n) fun _=>k (.jk o n 0) s
     |false=>aS.bad
    | _=>aS.bad
   | _,_=>aS.bad
 | .rn x i=>match ai aq s x,ai aq s i with
   |some (.str a),some (.int _ n)=>aS.c2 (aP a n) fun c=>k (.int .u8 (c.toNat:Int)) s
   | _,_=>aS.bad
 | .qs x lo hi=>match ai aq s x with
   |some (.str a)=>match lo.map (ai aq s),hi.map (ai aq s)with
    |none,none=>aS.c2 (qa a 0 (a.length:Int)) fun q=>k (.str q) s
    |some (some (.int .i64 n)),none=>aS.c2 (qa a n (a.length:Int)) fun q=>k (.str q) s
    |none,some (some (.int .i64 m))=>aS.c2 (qa a 0 m) fun q=>k (.str q) s
    |some (some (.int .i64 n)),some (some (.int .i64 m))=>aS.c2 (qa a n m) fun q=>k (.str q) s
    | _,_=>aS.bad
   | _=>aS.bad
 | .lookup kind z x i ok=>match ai aq s x,ai aq s i with
   |some (.row o),some v=>match bw s.mem o with
    |some (.mp eI j6 m)=>match U.iR eI v s.aJ,U.iR j6 (GL z) s.aJ,kindOf (U:=U) eI kind with
     |some x,some z,true=>match ok with
      |false=>elem j6 ((Ly eI j6 m x).getD z) s k
      |true=>elem j6 ((Ly eI j6 m x).getD z) s fun v s=>name s (Ly eI j6 m x).isSome false fun b s=>k (.bd [v,b]) s
     | _,_,_=>aS.bad
    | _=>aS.bad
   | _,_=>aS.bad
 | .tC es x lo hi none=>match ai aq s x with
   |some (.sl t a)=>match Nat.beq (U.es t) es with
    |true=>match lo.map (ai aq s),hi.map (ai aq s)with
     |none,none=>aS.c2 (qS a 0 a.len) fun q=>k (.sl t q) s
     |some (some (.int .i64 n)),none=>aS.c2 (qS a n a.len) fun q=>k (.sl t q) s
     |none,some (some (.int .i64 m))=>aS.c2 (qS a 0 m) fun q=>k (.sl t q) s
     |some (some (.int .i64 n)),some (some (.int .i64 m))=>aS.c2 (qS a n m) fun q=>k (.sl t q) s
     | _,_=>aS.bad
    |false=>aS.bad
   | _=>aS.bad
 | .xe es bytes a b=>match ai aq s a,ai aq s b with
   |some x,some (.sl t y)=>match Nat.beq (U.es t) es,uk x with
    |true,some (.k .aY)=>aS.c2 (jz bytes .nil y) fun z=>k (.sl t z) s
    |true,some (.k .emp)=>aS.c2 (jz bytes .emp y) fun z=>k (.sl t z) s
    | _,_=>aS.bad
   | _,_=>aS.bad
 | _=>aS.bad
end
end Go.Abs.hG
