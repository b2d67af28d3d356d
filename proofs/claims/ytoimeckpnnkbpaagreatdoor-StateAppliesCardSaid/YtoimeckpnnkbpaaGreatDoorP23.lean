/- Texts of this claim, joined and written short by a program. -/
import Derived.Test.YtoimeckpnnkbpaaGreatDoorP21
import Derived.Test.YtoimeckpnnkbpaaGreatDoorP20
import Derived.Test.YtoimeckpnnkbpaaGreatDoorP00
set_option linter.unusedVariables false
set_option linter.unusedSimpArgs false
set_option linter.unusedSectionVars false
namespace Go.Abs
open Go
variable{aa:Nat->Option bY}
inductive gD:List Bool->List Bool->Prop
 |nil:gD [] []
 |cons {a c:Bool} {l r:List Bool} (h:a=true->c=true) (k:gD l r):gD (a::l) (c::r)
theorem gD.get{l r:List Bool}:gD l r->∀{i:Nat},l[i]? =some true->r[i]? =some true
 | .nil,_,h=>by simp at h
 | .cons h k,0,e=>by simp at e;subst e;simp[h rfl]
 | .cons h k,i+1,e=>by simpa using k.get (by simpa using e)
theorem gD.app{l r l' mU:List Bool}:gD l r->gD l' mU->gD (l++l') (r++mU)
 | .nil,h=>h
 | .cons h k,h'=>.cons h (k.app h')
theorem gD.rev{l r:List Bool}:gD l r->gD l.reverse r.reverse
 | .nil=>.nil
 | .cons h k=>by rw[List.reverse_cons,List.reverse_cons];exact k.rev.app (.cons h .nil)
theorem gD.refl:∀l:List Bool,gD l l
 |[]=>.nil
 | _::r=>.cons id (gD.refl r)
theorem gD.take{l r:List Bool}:gD l r->∀n,gD (l.take n) (r.take n)
 | .nil,n=>by simp;exact .nil
 | .cons h k,0=>.nil
 | .cons h k,n+1=>.cons h (k.take n)
theorem gD.len{l r:List Bool}:gD l r->l.length=r.length
 | .nil=>rfl
 | .cons _ k=>by simp[k.len]
theorem gD.no{l r:List Bool}:gD l r->r.all (!·)=true->l.all (!·)=true
 | .nil,_=>rfl
 | .cons (a:=a) (c:=c) h k,e=>by
   simp only[xG,b8]at e⊢;refine⟨?_,k.no e.2⟩;cases a with
   |false=>rfl
   |true=>rw[h rfl]at e;cases e.1
theorem M9{call:cU}(hc:l3 call){ops:List bO}{S:Nat->aq}{aR:Nat->Bool}(hs:∀i aV,ops[i]? =some aV->l5 call aV (S i) (S (i+1)) (aR i)){i:Nat}:∀{d:Nat},i+d<=ops.length->(∀x,i<=x->x<i+d->aR x=false)->(S (i+d)).H=(S i).H
 |0,_,_=>rfl
 |d+1,hd,ab=>by
  have:=(hs (i+d) ops[i+d] (hX (by omega))).still hc (ab (i+d) (by omega) (by omega));exact this.trans (M9 hc hs (d:=d) (by omega) fun x h1 h2=>ab x h1 (by omega))
theorem ahM{call:cU}{aV:bO}{S ln:aq}{aR:Bool}(h:l5 call aV S ln aR)(ab:aR=false):jX call (aV,S,S.H)=true:=by
 unfold jX;rcases h with⟨h0,v,H1,bI,h1,-,h2⟩|⟨h0,-,-⟩
 ·simp only[h0,h1,V8,fI,nV]
  exact h2.symm.trans ab
 ·simp only[h0]
theorem Na{call:cU}:∀{ops:List bO} {st:aq} {cf:List aq},fx call ops st=some cf->cf.length=ops.length+1
 |[],st,cf,h=>by simp only[fx,az]at h;subst h;rfl
 |o::r,st,cf,h=>by
  simp only[fx]at h;split at h
  ·split at h
   ·obtain⟨t,h1,rfl⟩:=ct.1 h
    simp[Na h1]
   ·cases h
  ·obtain⟨t,h1,rfl⟩:=ct.1 h
   simp[Na h1]
  ·cases h
theorem ahN{call:cU}:∀{ops:List bO} {st:aq} {cf:List aq},fx call ops st=some cf->cf[0]? =some st
 |[],st,cf,h=>by simp only[fx,az]at h;subst h;rfl
 |o::r,st,cf,h=>by
  simp only[fx]at h;split at h
  ·split at h
   ·obtain⟨t,h1,rfl⟩:=ct.1 h;rfl
   ·cases h
  ·obtain⟨t,h1,rfl⟩:=ct.1 h;rfl
  ·cases h
inductive qp (aa:Nat->Option bY) (b:Nat) (ms:cN):List bO->bV->bV->Heap->bV->bV->Heap->List Bool->Prop
 |nil {aw σ:bV} {H:Heap}:qp aa b ms [] aw σ H aw σ H []
 |step {o:bO} {rest:List bO} {aw σ bB aN:bV} {H H':Heap} {v:V} {wr:List Bool} (hw:gJ aw σ o.guard=some true) (h:∀H,Own H ms->b2 (bZ aa) (bN aw σ) H H.length o.op=some (v,H,H.length)) (k:qp aa b ms rest (fV aw o.dst v) (fW σ o.dst v) H bB aN H' wr):qp aa b ms (o::rest) aw σ H bB aN H' (false::wr)
 |skip {o:bO} {rest:List bO} {aw σ bB aN:bV} {H H':Heap} {wr:List Bool} (hw:gJ aw σ o.guard=some false) (k:qp aa b ms rest (fV aw o.dst (.aU [])) (fW σ o.dst (.aU [])) H bB aN H' wr):qp aa b ms (o::rest) aw σ H bB aN H' (false::wr)
 |make {o:bO} {rest:List bO} {aw σ bB aN:bV} {H H1 H':Heap} {bI:Nat} {v:V} {wr:List Bool} (hw:gJ aw σ o.guard=some true) (h:b2 (bZ aa) (bN aw σ) H H.length o.op=some (v,H1,bI)) (hb:b<=bI) (iA:b<=H1.length) (aA:Own H1 ms) (k:qp aa b ms rest (fV aw o.dst v) (fW σ o.dst v) H1 bB aN H' wr):qp aa b ms (o::rest) aw σ H bB aN H' (true::wr)
theorem fC.aJi{b:Nat}{ms:cN}{A:List bO}{aw σ bB aN:bV}{H:Heap}(h:fC (bZ aa) ms A aw σ bB aN):qp aa b ms A aw σ H bB aN H (List.replicate A.length false):=by
 induction h with
 |nil=>exact .nil
 |step hw h k ih=>exact .step hw h ih
 |skip hw k ih=>exact .skip hw ih
theorem qp.append{b:Nat}{ms:cN}{A B:List bO}{aw σ fD c1 OS js:bV}{H H1 H2:Heap}{w w':List Bool}(h:qp aa b ms A aw σ H fD c1 H1 w)(k:qp aa b ms B fD c1 H1 OS js H2 w'):qp aa b ms (A++B) aw σ H OS js H2 (w++w'):=by
 induction h with
 |nil=>exact k
 |step hw h _ ih=>exact .step hw h (ih k)
 |skip hw _ ih=>exact .skip hw (ih k)
 |make hw h dm gy aA _ ih=>exact .make hw h dm gy aA (ih k)
theorem qp.len{b:Nat}{ms:cN}{A:List bO}{aw σ fD c1:bV}{H H1:Heap}{w:List Bool}(h:qp aa b ms A aw σ H fD c1 H1 w):w.length=A.length:=by
 induction h<;>simp_all
theorem qp.own{b:Nat}{ms:cN}{A:List bO}{aw σ fD c1:bV}{H H1:Heap}{w:List Bool}(h:qp aa b ms A aw σ H fD c1 H1 w)(aA:Own H ms)(hb:b<=H.length):Own H1 ms/\b<=H1.length:=by
 induction h with
 |nil=>exact⟨aA,hb⟩
 |step hw h _ ih=>exact ih aA hb
 |skip hw _ ih=>exact ih aA hb
 |make hw h dm gy tk _ ih=>exact ih tk gy
theorem qp.run{b:Nat}{ms:cN}:∀{A:List bO} {aw σ bB aN:bV} {H H':Heap} {w:List Bool},qp aa b ms A aw σ H bB aN H' w->∀{aG av:Env} {low:Nat} {wr:List Bool} (B:List bO),Fits aG aw->Fits av σ->Own H ms->b<=low->b<=H.length->
  ∃mM dD low' w',Fits mM bB/\Fits dD aN/\b<=low'/\b<=H'.length/\Own H' ms/\gD w' w/\cQ (bZ aa) (A++B) ⟨aG,av,H,low,none⟩ wr=cQ (bZ aa) B ⟨mM,dD,H',low',none⟩ (w'.reverse++wr)/\
   ∀cf,fx (bZ aa) (A++B) ⟨aG,av,H,low,none⟩=some cf->∃pQ q2,cf=pQ++q2/\pQ.length=A.length/\fx (bZ aa) B ⟨mM,dD,H',low',none⟩=some q2/\(∀T∈pQ,Own T.H ms)/\
    ∀(i:Nat) (o:bO) (T:aq),A[i]? =some o->pQ[i]? =some T->w[i]? =some false->∀H',Own H' ms->jX (bZ aa) (o,T,H')=true
 |[],aw,σ,_,_,H,_,_,.nil,aG,av,low,wr,B,h1,h2,aA,hb,hl=>⟨aG,av,low,[],h1,h2,hb,hl,aA,.nil,rfl,fun cf h=>⟨[],cf,rfl,rfl,h,(fun _ h=>nomatch h),(fun i o T h=>by simp at h)⟩⟩
 |o::A,aw,σ,bB,aN,H,H',_,.step (v:=v) (wr:=w) hw h k,aG,av,low,wr,B,h1,h2,aA,hb,iA=>by
  obtain⟨nJ,lC,af,e2,bT⟩:=yG h1 h2 H (min low H.length) o.dst v;obtain⟨mM,dD,low',w',f1,f2,f0,f5,f6,f7,f3,f4⟩:=k.run (low:=min low H.length) (wr:=false::wr) B e2 bT aA (by omega) iA;have oj:=hw;rw[<-DA h1 h2]at oj;have hs:=h H aA;rw[<-vf h1 h2]at hs;refine⟨mM,dD,low',false::w',f1,f2,f0,f5,f6,.cons id f7,?_,fun cf ht=> ?_⟩
  ·simp only[jz,cQ,oj,hs,iT]
   rw[af,f3];simp
  ·simp only[jz,fx,oj,hs]at ht
   rw[af]at ht;obtain⟨rS,eC,rfl⟩:=ct.1 ht;obtain⟨pQ,q2,rfl,g1,g2,g0,g3⟩:=f4 rS eC;refine⟨_::pQ,q2,rfl,by simp[g1],g2,fun T hT=>(dA.1 hT).elim (fun e=>e ▸ aA) (g0 T),fun i p T hp hT hi H' tk=> ?_⟩;cases i with
   |zero=>
    simp only[rr,az]at hp hT;subst hp;subst hT;have yC:=h H' tk;rw[<-vf h1 h2]at yC;simp only[jX,oj,hs,yC,iT,ue,xH,V8]
   |succ i=>
    simp only[Kh]at hp hT hi;exact g3 i p T hp hT hi H' tk
 |o::A,aw,σ,bB,aN,H,H',_,.skip (wr:=w) hw k,aG,av,low,wr,B,h1,h2,aA,hb,iA=>by
  obtain⟨nJ,lC,af,e2,bT⟩:=yG h1 h2 H low o.dst (.aU []);obtain⟨mM,dD,low',w',f1,f2,f0,f5,f6,f7,f3,f4⟩:=k.run (wr:=false::wr) B e2 bT aA hb iA;have oj:=hw;rw[<-DA h1 h2]at oj;refine⟨mM,dD,low',false::w',f1,f2,f0,f5,f6,.cons id f7,?_,fun cf ht=> ?_⟩
  ·simp only[jz,cQ,oj]
   rw[af,f3];simp
  ·simp only[jz,fx,oj]at ht
   rw[af]at ht;obtain⟨rS,eC,rfl⟩:=ct.1 ht;obtain⟨pQ,q2,rfl,g1,g2,g0,g3⟩:=f4 rS eC;refine⟨_::pQ,q2,rfl,by simp[g1],g2,fun T hT=>(dA.1 hT).elim (fun e=>e ▸ aA) (g0 T),fun i p T hp hT hi H' tk=> ?_⟩;cases i with
   |zero=>
    simp only[rr,az]at hp hT;subst hp;subst hT;simp only[jX,oj]
   |succ i=>
    simp only[Kh]at hp hT hi;exact g3 i p T hp hT hi H' tk
 |o::A,aw,σ,bB,aN,H,H',_,.make (H1:=H1) (bI:=bI) (v:=v) (wr:=w) hw h dm gy w0 k,aG,av,low,wr,B,h1,h2,aA,hb,iA=>by
  obtain⟨nJ,lC,af,e2,bT⟩:=yG h1 h2 H1 (min low bI) o.dst v;obtain⟨mM,dD,low',w',f1,f2,f0,f5,f6,f7,f3,f4⟩:=k.run (low:=min low bI) (wr:=eG H H1 bI::wr) B e2 bT w0 (by omega) gy;have oj:=hw;rw[<-DA h1 h2]at oj;have hs:=h;rw[<-vf h1 h2]at hs;refine⟨mM,dD,low',eG H H1 bI::w',f1,f2,f0,f5,f6,.cons (fun _=>rfl) f7,?_,fun cf ht=> ?_⟩
  ·simp only[jz,cQ,oj,hs]
   rw[af,f3];simp
  ·simp only[jz,fx,oj,hs]at ht
   rw[af]at ht;obtain⟨rS,eC,rfl⟩:=ct.1 ht;obtain⟨pQ,q2,rfl,g1,g2,g0,g3⟩:=f4 rS eC;refine⟨_::pQ,q2,rfl,by simp[g1],g2,fun T hT=>(dA.1 hT).elim (fun e=>e ▸ aA) (g0 T),fun i p T hp hT hi H' tk=> ?_⟩;cases i with
   |zero=>simp at hi
   |succ i=>
    simp only[Kh]at hp hT hi;exact g3 i p T hp hT hi H' tk
def av0 (dE:List Nat)(ops:List bO)(w wr:List Bool):Bool:=
 wr.zipIdx.all fun(x,i)=>!x||ops.zipIdx.all fun(o,j)=>!fw o.op||i==j||oL dE i j||(Nat.blt i w.length&&Nat.blt j w.length&&!w.getD j true)
theorem aJj{dE:List Nat}{ops:List bO}{w wr mq:List Bool}(h:gD wr mq)(ho:av0 dE ops w mq=true):av0 dE ops w wr=true:=by
 unfold av0 at ho⊢;rw[eV]at ho⊢;rintro⟨x,i⟩ hx;cases x with
 |false=>rfl
 |true=>exact ho (true,i) (ie.2 (h.get (ie.1 hx)))
section
variable{b:Nat}{fD σ c1:bV}{H H1:Heap}{Q:X->bV->Heap->Prop}{ms:cN}
theorem aJk{A R ops:List bO}{dE:List Nat}(mJ:A++R=ops)(aA:Own H ms)
  (dr:b<=H.length->∃fD c1 H1 w,qp aa b ms A mL σ H fD c1 H1 w/\∀w',gD w' w->Op aa b R fD c1 H1 w'.reverse (fun aN H' wr=>av0 dE ops w wr=true/\Q .normal aN H')):
  eS aa b (.region ops (some dE)) σ H Q:=fun av low h1 h2 ar=>by
 obtain⟨fD,c1,H1,w,hA,U⟩:=dr ar;obtain⟨nJ,lC,bF,w',f1,f2,f0,f5,f6,f7,f3,f4⟩:=hA.run (low:=low) (wr:=[]) R sb h1 aA h2 ar;obtain⟨ahP,Nb,Nc,pb,A4,Nd,cq,ee,k1,HE,yQ,ahQ⟩:=U w' f7 nJ lC bF f1 f2 f0 f5;rw[mJ,rz]at f3;rw[mJ]at f4;have he:cQ (bZ aa) ops ⟨[],av,H,low,none⟩ []=some (⟨ahP,Nb,Nc,pb,none⟩,A4):=f3.trans cq;obtain⟨cf,oc⟩:=DF he;obtain⟨pQ,q2,t1,t2,t3,t4,t5⟩:=f4 cf oc;have Xi:=hA.len;have ahS:=ahN t3;obtain⟨S,aR,h0,hn,mI,hs⟩:=uN _ _ _ _ _ he;obtain⟨ln,aNb,-,-,aDR,-⟩:=uN _ _ _ _ _ cq;rw[List.reverse_reverse]at aDR;have qC:=GA ops S aR cf hs (by rw[h0];exact oc);simp only[List.reverse_nil,jB]at mI
 have hw:∀{i},A4[i]? =some true↔i<ops.length/\aR i=true:=fun {i}=>by
  rw[mI,jy];by_cases hi:i<ops.length
  ·rw[List.getElem?_range hi];simp[hi]
  ·rw[lb (by simpa using hi)];simp[hi]
 have Wg:∀{i},A4.getD i false=true↔i<ops.length/\aR i=true:=fun {i}=>by
  rw[<-hw,tY];cases A4[i]? with
  |none=>simp
  |some x=>simp
 have aJl:∀{i},i<w.length->A4[i]? =some true->w[i]? =some true:=fun {i} hi h=>by
  rw[aDR,gE (by rw[f7.len];exact hi)]at h;exact f7.get h
 have cd:∀i,i<ops.length->aR i=true->∀j o',ops[j]? =some o'->fw o'.op=true->i≠j->oL dE i j=true\/(i<w.length/\j<w.length/\w[j]? =some false):=fun i hi ab j o' hj ht cK=>by
  unfold av0 at yQ;rw[eV]at yQ;have:=yQ (true,i) (ie.2 (hw.2 ⟨hi,ab⟩));simp only[hZ,qv,eV]at this;have:=this (o',j) (ie.2 hj);simp only[ht,hZ,ko,b8,beq_iff_eq,cK,or_false,hY,false_or]at this;refine this.imp id fun⟨⟨q1,aS⟩,b1⟩=> ?_;have q1:=(Nat.blt_eq ..).mp q1;have aS:=(Nat.blt_eq ..).mp aS;refine⟨q1,aS,?_⟩;rw[tY,hX aS]at b1;rw[hX aS];simpa using b1
 have r5:qx (bZ aa) dE ops A4 ⟨[],av,H,low,none⟩=true:=by
  unfold qx;rw[oc];simp only[b8];constructor
  ·unfold FW
   simp only[eV];rintro⟨x,i⟩ hi;cases x with
   |false=>rfl
   |true=>
    simp only[hZ,qv,eV];rintro⟨eI,j⟩ hj;cases eI with
    |false=>rfl
    |true=>
     have ac8:=ie.1 hj;have hi:=hw.1 (ie.1 hi);have hj:=hw.1 ac8;by_cases cK:i=j
     ·simp[cK]
     ·have Wh:=hX hj.1
      rcases cd i hi.1 hi.2 j _ Wh ((hs j _ Wh).fw hj.2) cK with q|⟨q1,aS,b1⟩
      ·simp[q]
      ·rw[aJl aS ac8]at b1;cases b1
  ·rw[eV]
   intro q bc;unfold FX at bc;simp only[Cd]at bc;obtain⟨⟨o',j⟩,hj,bc⟩:=bc;have hj:=ie.1 hj;simp only at hj bc;split at bc
   ·cases bc
   rename_i GX;simp only[ko,nV,not_or,Km,Bool.not_eq_true]at GX;obtain⟨ht,hH⟩:=GX;simp only[Cd]at bc;obtain⟨⟨z6,k⟩,cW,bc⟩:=bc;have cW:=ie.1 cW;simp only at cW bc;split at bc
   ·cases bc
   rename_i Gb;have mF:j<ops.length:=(pY.1 hj).1
   have rW:k<=ops.length:=by
    have:=(pY.1 cW).1;rw[Na oc]at this;omega
   have Wi:=qC k rW;rw[cW]at Wi;cases Wi;rw[qC j (by omega)]at bc;simp only[FI]at bc;subst bc;simp only[ko,beq_iff_eq,b8,bne_iff_ne,ne_eq,nV,not_or,not_and,Km]at Gb;obtain⟨⟨uS,AF⟩,Nf⟩:=Gb
   have hex:∀i,i<ops.length->aR i=true->i≠j->oL dE i j=true->(i<j↔i<k):=fun i hi ab cK Wj=>by
    rw[<-decide_eq_decide];by_cases e:decide (i<j)=decide (i<k)
    ·exact e
    ·exact absurd (ry.2 ⟨(true,i),ie.2 (hw.2 ⟨hi,ab⟩),by simp[cK,Wj,e]⟩) Nf
   have Wk:aR j=false:=by
    cases hx:aR j with
    |false=>rfl
    |true=>rw[Wg.2 ⟨mF,hx⟩]at hH;cases hH
   by_cases wH:j<w.length/\w[j]? =some false
   ·obtain⟨q1,aS⟩:=wH
    have Wl:j<A.length:=by omega
    have aNc:k<=A.length:=by
     by_cases AG:k=0
     ·omega
     ·obtain⟨nd,pR⟩:=Wg.1 (AF AG)
      rcases fX (k-1) A.length with r|r
      ·omega
      ·rcases cd (k-1) nd pR j o' hj ht (by omega)with z|⟨z,-⟩
       ·have:=hex (k-1) nd pR (by omega) z
        omega
       ·omega
    have HC:Own (S k).H ms:=by
     rw[t1]at cW;rcases fX k A.length with r|r
     ·rw[gE (by omega)]at cW
      exact t4 _ (hz cW)
     ·obtain rfl:k=A.length:=by omega
      rw[sJ (by omega),t2,Nat.sub_self,ahS]at cW;rw[<-rA cW];exact f6
    have HG:=qC j (by omega);rw[<-mJ,gE Wl]at hj;rw[t1,gE (by omega)]at HG;exact t5 j o' (S j) hj HG aS _ HC
   ·have eA:∀x,x<ops.length->aR x=true->(x<j↔x<k):=fun x hx HH=>by
     have rU:x≠j:=fun e=>by rw[e,Wk]at HH;cases HH
     rcases cd x hx HH j o' hj ht rU with q|⟨-,q⟩
     ·exact hex x hx HH rU q
     ·exact absurd q wH
    have e5:(S k).H=(S j).H:=by
     have hc:=M7 aa
     have no:∀x,x<ops.length->(x<j/\k<=x\/x<k/\j<=x)->aR x=false:=fun x hx Wj=>by
      cases dW:aR x with
      |false=>rfl
      |true=>have:=eA x hx dW;omega
     rcases Nat.le_total k j with ahT|CW
     ·obtain⟨d,rfl⟩:=mR ahT
      exact(M9 hc hs (by omega) fun x nd pR=>no x (by omega) (by omega)).symm
     ·obtain⟨d,rfl⟩:=mR CW
      exact M9 hc hs (by omega) fun x nd pR=>no x (by omega) (by omega)
    rw[e5];exact ahM (hs j o' hj) Wk
 exact⟨.normal,Nb,Nc,pb,Nd,by rw[h6];simp only[he,nY,r5,Bool.true_or,Bool.or_true,if_true,aq.fp],ee,k1,HE,ahQ⟩
end
end Go.Abs
namespace Go.Abs
variable{aa:Nat->Option bY}
theorem aqx{α:Type}{es bytes b:Nat}{f:α->V}{s y al:ak α}{iV lj:ag}{ek:V}{m:List (Nat × cc)}{ms:cN}{H:Heap}{ae:ag->V}(cY:b<=H.length)(k:Nat)
  (hs:lG bytes s y=some al) (aA:Own H ms) (cW:ms[k]? =some m) (hr:hf b es f ek s m) (ao:ae iV=ek) (hb:ae lj=bg es f y) (hp:∀a,bs (f a)=true) (hc:∀a,bS (aE (f a))=true):
  ∃v' H1 bI m',b<=bI/\b<=H1.length/\b2 (bZ aa) ae H H.length (.append es bytes iV lj)=some (v',H1,bI)/\hf b es f v' al m'/\Own H1 (ms.set k m'):=by
 have tc:ms.set k m=ms:=by
  apply wg;intro i;by_cases e:k=i
  ·subst e;rw[nU (pY.1 cW).1,cW]
  ·rw[gm e]
 have hfz:dX H H.length (y.l.map f)=some (y.l.map f,H,H.length):=tj (A1 hp _);have yN:=Hx hc y.l;unfold lG at hs;by_cases hy:y.l=[]
 ·rw[if_pos hy]at hs
  cases hs;refine⟨ek,H,H.length,m,cY,cY,?_,hr,by rw[tc];exact aA⟩;rw[th];simp only[step,hb,wW];rw[hfz,hy];simp only[mT,List.isEmpty_nil,if_true,ao];have gu:jr b es ek (s.map f) m:=hr;generalize vi:s.map f=k5 at gu;cases gu with
  |nil=>rfl
  |emp=>rfl
  |row l ds h j1=>simp[aA.get k cW]
 ·rw[if_neg hy]at hs
  split at hs
  ·rename_i e4
   cases hs
   have bf:(y.l.map f).isEmpty=false:=by cases MV:y.l with
    |nil=>exact absurd MV hy
    |cons=>rfl
   have yO:(bS ((y.l.map f).flatMap aE)=false)=False:=by rw[yN];simp
   have gu:jr b es ek (s.map f) m:=hr;generalize vi:s.map f=k5 at gu;cases gu with
   |nil=>
    have gY:s.l=[]:=by cases s<;>simp_all [ak.map,ak.l]
    have yP:(y.l.map f).length*(bytes+1)<=2^40:=by simpa[gY]using e4
    refine⟨.cz H.length es 0 (y.l.map f).length (y.l.map f).length,H++[.row es (y.l.map f) false],H.length,[(H.length,.row es (y.l.map f) false)],cY,by simp;omega,?_,?_,aA.fill k cW⟩
    ·rw[th]
     simp only[step,hb,wW];rw[hfz];simp only[bf,hY,if_false,yO,ao,yP,if_true]
    ·simp only[gY,jB,ak.map]
     exact .row _ _ (by simpa using hy) cY
   |emp=>
    have gY:s.l=[]:=by cases s<;>simp_all [ak.map,ak.l]
    have yP:(y.l.map f).length*(bytes+1)<=2^40:=by simpa[gY]using e4
    refine⟨.cz H.length es 0 (y.l.map f).length (y.l.map f).length,H++[.row es (y.l.map f) false],H.length,[(H.length,.row es (y.l.map f) false)],cY,by simp;omega,?_,?_,aA.fill k cW⟩
    ·rw[th]
     simp only[step,hb,wW];rw[hfz];simp only[bf,hY,if_false,yO,ao,yP,if_true]
    ·simp only[gY,jB,ak.map]
     exact .row _ _ (by simpa using hy) cY
   |row l ds hd j1=>
    have gY:s.l.map f=ds:=by cases s<;>simp_all [ak.map,ak.l]
    have hlen:s.l.length=ds.length:=by rw[<-gY,oG]
    have bj:=aA.get k cW;have aX:=wT bj;refine⟨.cz l es 0 (ds++y.l.map f).length (ds++y.l.map f).length,H.set l (.row es (ds++y.l.map f) false),l,[(l,.row es (ds++y.l.map f) false)],j1,by simpa using cY,?_,?_,aA.put k cW⟩
    ·rw[th]
     simp only[step,hb,wW];rw[hfz];simp only[bf,hY,if_false,yO,ao,bj,gM];rw[if_pos ⟨trivial,trivial,trivial,trivial,trivial,by rw[hlen]at e4;simpa using e4⟩,uc (xI aX)]
     done
    ·show jr b es _ (.mk ((s.l++y.l).map f)) _
     rw[nW,gY];exact .row _ _ (by simp[hd]) j1
  ·cases hs
theorem aaT{α:Type}{es bytes:Nat}{f:α->V}{s y z:ak α}{iV lj:ag}{call:cU}{ae:ag->V}{H:Heap}{low:Nat}(hs:lG bytes s y=some z)(he:s=.nil\/s=.emp)(ao:ae iV=bg es f s)(hb:ae lj=bg es f y)(hp:∀a,bs (f a)=true)(hc:∀a,bS (aE (f a))=true):
  b2 call ae H low (.xC es bytes iV lj)=some (bg es f z,H,low):=by
 show step ae H low (.xC es bytes iV lj)=_;have hfz:bW (y.l.map f)=true:=A1 hp _;have yN:=Hx hc y.l;simp only[step,hb,wW,hfz];unfold lG at hs;by_cases hy:y.l=[]
 ·rw[if_pos hy]at hs
  cases hs;rw[ao,hy];rcases he with rfl|rfl<;>simp[bg]
 ·rw[if_neg hy]at hs
  split at hs
  ·rename_i e4
   cases hs
   have bf:(y.l.map f).isEmpty=false:=by cases MV:y.l with
    |nil=>exact absurd MV hy
    |cons=>rfl
   have gY:s.l=[]:=by rcases he with rfl|rfl<;>rfl
   have yP:(y.l.map f).length*(bytes+1)<=2^40:=by simpa[gY]using e4
   rw[ao];rcases he with rfl|rfl<;>simp only[bg,bf,yN,yP,hY,if_false,and_self,if_true,Bool.true_eq_false,gY,jB]
  ·cases hs
end Go.Abs
namespace Go.Abs.gK
open Go Go.Abs
inductive aJ (ax:Nat->Type):Type where
 |int (k:IntKind) (n:Int)
 |b0 (b:Bool)
 |bo (i:Nat) (neg:Bool)
 |str (s:bH)
 |sl (t:Nat) (s:ak (ax t))
 |k (v:V)
 |agg (vs:List (aJ ax))
 |aU (vs:List (aJ ax))
 |dn (vs:List (aJ ax)) (f:Nat)
 |ptr (o off:Nat)
 |row (o:Nat)
 |iK (o:Nat) (n:Int) (f:Nat)
 |fn (i:Nat) (caps:List (aJ ax))
 |fv (j:Nat)
 |kL
structure ib where
 ax:Nat->Type
 es:Nat->Nat
 enc:(t:Nat)->ax t->V
 k5:(t:Nat)->ax t->Nat->aJ ax
 w8:(t:Nat)->ax t->List Bool
 iu:(t:Nat)->aJ ax->List Bool->Option (ax t)
 aR:Nat->Bool
 cA:Nat->Option Nat
 beq:(t:Nat)->ax t->ax t->Bool
 mp:Nat->Option (Nat × Nat)
 WE:∀c p,mp c=some p->ax c=List (ax p.1 × ax p.2)
section
variable (J:ib)(B:List Bool)(ρ:List V)(fs:List V)
mutual
inductive bU:aJ J.ax->V->Prop
 |int {k:IntKind} {n:Int}:bU (.int k n) (.int k n)
 |b0 {b:Bool}:bU (.b0 b) (.bool b)
 |bo {i:Nat} {b neg:Bool} (h:B[i]? =some b):bU (.bo i neg) (.bool (b != neg))
 |str {s:bH}:bU (.str s) (.str s)
 |sl {t:Nat} {s:ak (J.ax t)}:bU (.sl t s) (bg (J.es t) (J.enc t) s)
 |k {v:V}:bU (.k v) v
 |agg {vs:List (aJ J.ax)} {ws:List V} (h:bm vs ws):bU (.agg vs) (.agg ws)
 |aU {vs:List (aJ J.ax)} {ws:List V} (h:bm vs ws):bU (.aU vs) (.aU ws)
 |dn {vs:List (aJ J.ax)} {ws:List V} {f:Nat} (h:bm vs ws):bU (.dn vs f) (.dn ws f)
 |ptr {o off a:Nat} (h:ρ[o]? =some (.ptr a 0)):bU (.ptr o off) (.ptr a off)
 |row {o:Nat} {v:V} (h:ρ[o]? =some v):bU (.row o) v
 |iK {o f l es N:Nat} {n:Int} (h:ρ[o]? =some (.cz l es 0 N N)):bU (.iK o n f) (.gF l es n.toNat f N)
 |fn {i:Nat} {cs:List (aJ J.ax)} {ws:List V} (h:bm cs ws):bU (.fn i cs) (.fn i [] ws)
 |fv {j:Nat} {v:V} (h:fs[j]? =some v):bU (.fv j) v
 |kL {v:V}:bU .kL v
inductive bm:List (aJ J.ax)->List V->Prop
 |nil:bm [] []
 |cons {v:aJ J.ax} {w:V} {vs:List (aJ J.ax)} {ws:List V} (h:bU v w) (r:bm vs ws):bm (v::vs) (w::ws)
end
end
section
variable{J:ib}{B sn:List Bool}{ρ cy fs:List V}
theorem nh{α:Type}{l l':List α}(h:l <+: l'){i:Nat}{a:α}(hi:l[i]? =some a):l'[i]? =some a:=by
 obtain⟨t,rfl⟩:=h;rw[gE (pY.1 hi).1];exact hi
mutual
theorem bU.mono (dr:B <+: sn)(aL:ρ <+: cy):∀{v:aJ J.ax} {w:V},bU J B ρ fs v w->bU J sn cy fs v w
 | _,_,.int=>.int
 | _,_,.b0=>.b0
 | _,_,.bo h=>.bo (nh dr h)
 | _,_,.str=>.str
 | _,_,.sl=>.sl
 | _,_,.k=>.k
 | _,_,.agg h=>.agg (bm.mono dr aL h)
 | _,_,.aU h=>.aU (bm.mono dr aL h)
 | _,_,.dn h=>.dn (bm.mono dr aL h)
 | _,_,.ptr h=>.ptr (nh aL h)
 | _,_,.row h=>.row (nh aL h)
 | _,_,.iK h=>.iK (nh aL h)
 | _,_,.fn h=>.fn (bm.mono dr aL h)
 | _,_,.fv h=>.fv h
 | _,_,.kL=>.kL
theorem bm.mono (dr:B <+: sn)(aL:ρ <+: cy):∀{vs:List (aJ J.ax)} {ws:List V},bm J B ρ fs vs ws->bm J sn cy fs vs ws
 | _,_,.nil=>.nil
 | _,_,.cons h r=>.cons (bU.mono dr aL h) (bm.mono dr aL r)
end
mutual
theorem bU.back (dr:B <+: sn)(aL:ρ <+: cy):∀{v:aJ J.ax} {w w':V},bU J B ρ fs v w->bU J sn cy fs v w'->bU J B ρ fs v w'
 | _,_,_,.int,.int=>.int
 | _,_,_,.b0,.b0=>.b0
 | _,_,_,.bo h,.bo h'=>by
   have:=nh dr h;rw[h']at this;cases this;exact .bo h
 | _,_,_,.str,.str=>.str
 | _,_,_,.sl,.sl=>.sl
 | _,_,_,.k,.k=>.k
 | _,_,_,.agg h,.agg h'=>.agg (bm.back dr aL h h')
 | _,_,_,.aU h,.aU h'=>.aU (bm.back dr aL h h')
 | _,_,_,.dn h,.dn h'=>.dn (bm.back dr aL h h')
 | _,_,_,.ptr h,.ptr h'=>by
   have:=nh aL h;rw[h']at this;cases this;exact .ptr h
 | _,_,_,.row h,.row h'=>by
   have:=nh aL h;rw[h']at this;cases this;exact .row h
 | _,_,_,.iK h,.iK h'=>by
   have:=nh aL h;rw[h']at this;cases this;exact .iK h
 | _,_,_,.fn h,.fn h'=>.fn (bm.back dr aL h h')
 | _,_,_,.fv h,.fv h'=>.fv h'
 | _,_,_,.kL,.kL=>.kL
theorem bm.back (dr:B <+: sn)(aL:ρ <+: cy):∀{vs:List (aJ J.ax)} {ws eh:List V},bm J B ρ fs vs ws->bm J sn cy fs vs eh->bm J B ρ fs vs eh
 | _,_,_,.nil,.nil=>.nil
 | _,_,_,.cons h r,.cons h' mU=>.cons (bU.back dr aL h h') (bm.back dr aL r mU)
end
theorem bm.length{vs:List (aJ J.ax)}{ws:List V}:bm J B ρ fs vs ws->vs.length=ws.length
 | .nil=>rfl
 | .cons _ r=>by simp[r.length]
theorem bm.get{vs:List (aJ J.ax)}{ws:List V}:bm J B ρ fs vs ws->∀{i:Nat} {v:aJ J.ax},vs[i]? =some v->∃w,ws[i]? =some w/\bU J B ρ fs v w
 | .nil,_,_,h=>by simp at h
 | .cons h r,0,_,e=>by simp at e;subst e;exact⟨_,rfl,h⟩
 | .cons h r,i+1,_,e=>by
   simp at e;obtain⟨w,af,e2⟩:=r.get e;exact⟨w,by simpa using af,e2⟩
theorem bm.drop{vs:List (aJ J.ax)}{ws:List V}:bm J B ρ fs vs ws->∀i,bm J B ρ fs (vs.drop i) (ws.drop i)
 | .nil,i=>by cases i<;>exact .nil
 | .cons h r,0=>.cons h r
 | .cons h r,i+1=>r.drop i
theorem bm.take{vs:List (aJ J.ax)}{ws:List V}:bm J B ρ fs vs ws->∀i,bm J B ρ fs (vs.take i) (ws.take i)
 | .nil,i=>by cases i<;>exact .nil
 | .cons h r,0=>.nil
 | .cons h r,i+1=>.cons h (r.take i)
theorem bm.set{vs:List (aJ J.ax)}{ws:List V}:bm J B ρ fs vs ws->∀(i:Nat) {v:aJ J.ax} {w:V},bU J B ρ fs v w->bm J B ρ fs (vs.set i v) (ws.set i w)
 | .nil,i,_,_,_=>by cases i<;>exact .nil
 | .cons h r,0,_,_,h'=>.cons h' r
 | .cons h r,i+1,_,_,h'=>.cons h (r.set i h')
theorem bm.app{vs vs':List (aJ J.ax)}{ws eh:List V}:bm J B ρ fs vs ws->bm J B ρ fs vs' eh->bm J B ρ fs (vs++vs') (ws++eh)
 | .nil,h=>h
 | .cons h r,h'=>.cons h (r.app h')
end
structure gC (J:ib):Prop where
 k5:∀(t:Nat) (x:J.ax t) (B:List Bool) (ρ fs:List V),bU J (B++J.w8 t x) ρ fs (J.k5 t x B.length) (J.enc t x)
 iu:∀(t:Nat) (v:aJ J.ax) (B:List Bool) (ρ fs:List V) (w:V) (x:J.ax t),bU J B ρ fs v w->J.iu t v B=some x->w=J.enc t x
 bs:∀(t:Nat) (x:J.ax t),bs (J.enc t x)=true
 ok:∀(t:Nat) (x:J.ax t),bS (aE (J.enc t x))=true
 es:∀(t:Nat) (x:J.ax t),(aE (J.enc t x)).length=J.es t
 aR:∀(t:Nat) (x:J.ax t),J.aR t=true->flat (J.enc t x)=true
 WG:∀(t n:Nat),J.cA t=some n->∀a c:J.ax t,ix n (J.enc t a) (J.enc t c)=some (J.beq t a c)
def bd{α:Type}:List (Nat × α)->Nat->Option α
 |[],_=>none
 |(k,a)::r,t=>match Nat.beq k t with
  |true=>some a
  |false=>bd r t
def nth{α:Type}:List α->Nat->Option α
 |[],_=>none
 |a::_,0=>some a
 | _::r,n+1=>nth r n
theorem vx{α:Type}:∀(l:List α) (n:Nat),nth l n=l[n]?
 |[],_=>by simp[nth]
 | _::_,0=>rfl
 | _::r,n+1=>by simp[nth,vx r n]
theorem fm{α:Type}(k t:Nat)(a:α)(r:List (Nat × α)):bd ((k,a)::r) t=if k=t then some a else bd r t:=by
 simp only[bd];cases hb:Nat.beq k t with
 |true=>rw[if_pos (e8 hb)]
 |false=>rw[if_neg (fun e=>by rw[e,zX]at hb;cases hb)]
theorem IC{α:Type}(l r:List (Nat × α))(t:Nat):bd (l++r) t=match bd l t with
  |some a=>some a
  |none=>bd r t:=by
 induction l with
 |nil=>rfl
 |cons p l ih=>
  obtain⟨k,a⟩:=p;rw[jz,fm,fm];by_cases e:k=t
  ·rw[if_pos e,if_pos e]
  ·rw[if_neg e,if_neg e];exact ih
def mem (t:Nat):List Nat->Bool
 |[]=>false
 |k::r=>match Nat.beq k t with
  |true=>true
  |false=>mem t r
theorem mem_iff (t:Nat):∀l:List Nat,mem t l=true↔t∈l
 |[]=>by simp[mem]
 |k::r=>by
  simp only[mem,dA];cases hb:Nat.beq k t with
  |true=>simp[e8 hb]
  |false=>
   have:¬t=k:=fun e=>by rw[e,zX]at hb;cases hb
   simp[this,mem_iff t r]
end Go.Abs.gK
namespace Go.Abs.gK
open Go Go.Abs
inductive ch (J:ib) where
 |cells (w:Bool) (cs:List (aJ J.ax))
 |row (t:Nat) (s:ak (J.ax t))
 |mp (k w:Nat) (m:List (J.ax k × J.ax w))
structure bh (J:ib) where
 vs:List (Nat × aJ J.ax)
 mem:List (Nat × ch J)
 aB:Nat
 aI:List Bool
 dv:List (Nat × Bool)
 dw:List Nat
 cB:List (Nat × Nat)
section
variable{J:ib}
class aM (A:Type) where
 bad:A
 br:Nat->Bool->A->A->A
 c2:{α:Type}->Option α->(α->A)->A
instance{R:Type}:aM (Option R):=⟨none,fun _ c x y=>bif c then x else y,fun o f=>o.bind f⟩
inductive ow (A:Type) where
 |leaf (a:A)
 |br (i:Nat) (c:Bool) (t e:ow A)
 |bad
instance{R:Type}:aM (ow R):=⟨.bad,.br,fun _ _=>.bad⟩
mutual
def Em:V->aJ J.ax
 | .bool b=>.b0 b
 | .int k n=>.int k n
 | .str s=>.str s
 | .agg vs=>.agg (Bp vs)
 |v=>.k v
def Bp:List V->List (aJ J.ax)
 |[]=>[]
 |v::r=>Em v::Bp r
end
def q8:aJ J.ax->Option (List (aJ J.ax))
 | .agg vs=>some vs
 | .kL| .fv _| .aU _| .row _| .iK .. =>none
 | .k v=>match v with
   | .agg _=>none
   |v=>some [.k v]
 |v=>some [v]
def ID:aJ J.ax->Bool
 | .int .. | .b0 _| .bo .. | .str _| .sl .. | .ptr .. | .fn .. =>true
 | .k v=>ed v
 | _=>false
def En:List (aJ J.ax)->Bool
 |[]=>true
 |v::r=>match ID v with
  |true=>En r
  |false=>false
abbrev k6 (J:ib):=List (Nat × aJ J.ax)
def ae (aw:k6 J)(s:bh J):ag->Option (aJ J.ax)
 | .tmp t=>bd aw t
 | .var t=>bd s.vs t
 | .const v=>some (Em v)
 | .func i=>some (.fn i [])
def vy (aw:k6 J)(s:bh J):List ag->Option (List (aJ J.ax))
 |[]=>some []
 |x::r=>match ae aw s x with
  |some v=>match vy aw s r with
   |some l=>some (v::l)
   |none=>none
  |none=>none
def split{A:Type}[aM A](s:bh J)(v:aJ J.ax)(mi ca:bh J->A):A:=match v with
 | .b0 true=>mi s
 | .b0 false=>ca s
 | .bo i neg=>match bd s.dv i with
   |some b=>match b,neg with
    |true,false=>mi s
    |false,true=>mi s
    | _,_=>ca s
   |none=>match nth s.aI i with
    |none=>aM.bad
    |some c=>match neg with
     |false=>aM.br i c (mi {s with dv:=(i,true)::s.dv}) (ca {s with dv:=(i,false)::s.dv})
     |true=>aM.br i c (ca {s with dv:=(i,true)::s.dv}) (mi {s with dv:=(i,false)::s.dv})
 | _=>aM.bad
def w9 (s:bh J):aJ J.ax->Option Bool
 | .b0 b=>some b
 | .bo i neg=>match nth s.aI i with
   |some c=>match neg with
    |false=>some c
    |true=>some (!c)
   |none=>none
 | _=>none
def name{A:Type}[aM A](s:bh J)(c:Bool)(neg:Bool)(k:aJ J.ax->bh J->A):A:=k (.bo s.aI.length neg) {s with aI:=s.aI++[c]}
def elem{A:Type}[aM A](t:Nat)(x:J.ax t)(s:bh J)(k:aJ J.ax->bh J->A):A:=k (J.k5 t x s.aI.length) {s with aI:=s.aI++J.w8 t x}
def cut (cs:List (aJ J.ax))(off:Nat):Option Nat->Option (aJ J.ax)
 |none=>nth cs off
 |some n=>match Nat.ble (off+n) cs.length with
  |true=>some (.agg ((cs.drop off).take n))
  |false=>none
def tx (cs:List (aJ J.ax))(o:Nat):List (aJ J.ax)->List (aJ J.ax)
 |[]=>cs
 |x::xs=>tx (cs.set o x) (o+1) xs
def bin{A:Type}[aM A](s:bh J)(op:BinOp)(k:aJ J.ax->bh J->A)(x y:aJ J.ax):A:=match x,y with
 | .int bK a,.int Eo c=>match decide (bK=Eo)with
   |false=>aM.bad
   |true=>match op with
    | .add=>k (.int bK (bK.wrap (a+c))) s
    | .sub=>k (.int bK (bK.wrap (a-c))) s
    | .mul=>k (.int bK (bK.wrap (a*c))) s
    | .eql=>name s (a==c) false k
    | .neq=>name s (a != c) false k
    | .lss=>name s (decide (a<c)) false k
    | .leq=>name s (decide (a<=c)) false k
    | .gtr=>name s (decide (a>c)) false k
    | .geq=>name s (decide (a>=c)) false k
    | .and=>k (.int bK (bK.wrap ((BitVec.ofInt bK.bits a &&& BitVec.ofInt bK.bits c).toNat))) s
    | .quo=>match bK with
      | .i64=>aM.c2 (DB a c) fun q=>k (.int .i64 q) s
      | _=>aM.bad
    | .rem=>match bK with
      | .i64=>aM.c2 (DC a c) fun q=>k (.int .i64 q) s
      | _=>aM.bad
    | _=>aM.bad
 | .str a,.str c=>match op with
   | .add=>aM.c2 (vg a c) fun q=>k (.str q) s
   | .eql=>name s (a==c) false k
   | .neq=>name s (a != c) false k
   | _=>aM.bad
 | _,_=>aM.bad
def NN{A:Type}[aM A](s:bh J)(op:BinOp)(k:aJ J.ax->bh J->A)(x:aJ J.ax)(tz:IntKind)(c:Int):A:=match x with
 | .int bK a=>match op with
   | .shl=>match decide (0<=c/\c.toNat<=bK.bits)with
     |true=>k (.int bK (bK.wrap (a*2^c.toNat))) s
     |false=>aM.bad
   | .shr=>match decide (0<=c/\c.toNat<=bK.bits)with
     |true=>k (.int bK (a/2^c.toNat)) s
     |false=>aM.bad
   | .quo=>match decide (bK=tz/\0<c)with
     |true=>k (.int bK (bK.wrap (a.tdiv c))) s
     |false=>aM.bad
   | .rem=>match decide (bK=tz/\0<c)with
     |true=>k (.int bK (a.tmod c)) s
     |false=>aM.bad
   |op=>bin s op k x (.int tz c)
 | _=>bin s op k x (.int tz c)
def tA (s:bh J):List Nat->List (aJ J.ax)->List (aJ J.ax)->Option Bool
 |[],[],[]=>some true
 |n::ks,x::xs,y::cR=>match tA s ks xs cR with
  |none=>none
  |some e=>match n,x,y with
   |0,.int k a,.int bp c=>match decide (k=bp)with
    |true=>some ((a==c)&&e)
    |false=>none
   |1,.str a,.str c=>some ((a==c)&&e)
   |2,x,y=>match w9 s x,w9 s y with
    |some a,some c=>some ((a==c)&&e)
    | _,_=>none
   | _,_,_=>none
 | _,_,_=>none
def IE (z:List (aJ J.ax))(aw:k6 J)(s:bh J):List (Nat × Nat × ag)->Option (List (aJ J.ax))
 |[]=>some z
 |(off,n,x)::r=>match ae aw s x with
  |none=>none
  |some v=>match q8 v with
   |none=>none
   |some cs=>match Nat.beq cs.length n,Nat.ble (off+n) z.length,En cs with
    |true,true,true=>IE (tx z off cs) aw s r
    | _,_,_=>none
def IG:Nat->List (Nat × ag)->Bool
 | _,[]=>true
 |n,p::r=>match Nat.beq p.1 n with
  |true=>IG (n+1) r
  |false=>false
def IH (t:Nat)(B:List Bool):List (aJ J.ax)->Option (List (J.ax t))
 |[]=>some []
 |v::r=>match J.iu t v B with
  |none=>none
  |some x=>match IH t B r with
   |none=>none
   |some l=>some (x::l)
def e1{ax:Nat->Type}(t:Nat):aJ ax->Option (ak (ax t))
 | .sl eY s=>if h:eY=t then some (h ▸ s)else none
 | .k .cp=>some .nil
 | .k .emp=>some .emp
 | _=>none
def WH (z:List V):aJ J.ax:=match z with
 |[v]=>Em v
 |z=>.agg (Bp z)
def II (k w:Nat)(m:List (J.ax k × J.ax w))(x:J.ax k):Option (J.ax w):=@iH _ _ ⟨J.beq k⟩ m x
def ajx (k w:Nat)(m:List (J.ax k × J.ax w))(x:J.ax k)(y:J.ax w):List (J.ax k × J.ax w):=@mg _ _ ⟨J.beq k⟩ m x y
def kindOf (k:Nat)(n:Nat):Bool:=match J.cA k with
 |some m=>Nat.beq m n
 |none=>false
def xd:aJ J.ax->Option (aJ J.ax)
 | .k .cp=>some (.k .cp)
 | .k .emp=>some (.k .emp)
 | .sl _ .nil=>some (.k .cp)
 | .sl _ .emp=>some (.k .emp)
 | _=>none
def Ep{A:Type}[aM A](aw:k6 J)(s:bh J)(ty:Option Nat)(k:aJ J.ax->bh J->A):cH->A
 | .mv x=>match ae aw s x with
   |some v=>k v s
   |none=>aM.bad
 | .pick c a b=>match ae aw s c with
   |some c=>split s c (fun s=>match ae aw s a with|some v=>k v s|none=>aM.bad) (fun s=>match ae aw s b with|some v=>k v s|none=>aM.bad)
   |none=>aM.bad
 | .build z parts=>match IE (Bp z) aw s parts with
   |some cs=>k (.agg cs) s
   |none=>aM.bad
 | .lit es z len parts jc=>match ty,jc with
   |some t,true=>match vy aw s (parts.map Prod.snd)with
    |none=>aM.bad
    |some vs=>match IH t s.aI vs,IG 0 parts,Nat.beq vs.length len,Nat.beq (J.es t) es with
     |some l,true,true,true=>match l with
      |[]=>k (.sl t .emp) s
      |l=>k (.sl t (.mk l)) s
     | _,_,_,_=>aM.bad
   | _,_=>aM.bad
 | .load sh x=>match ae aw s x with
   |some (.dn cs f)=>match cut cs f sh with
    |some v=>k v s
    |none=>aM.bad
   |some (.ptr o f)=>match bd s.mem o with
    |some (.cells _ cs)=>match cut cs f sh with
     |some v=>k v s
     |none=>aM.bad
    | _=>aM.bad
   |some (.iK o n f)=>match bd s.mem o with
    |some (.row t a)=>aM.c2 (bQ a.l n) fun e=>elem t e s fun v s=>match q8 v with
     |some cs=>match cut cs f sh with
      |some v=>k v s
      |none=>aM.bad
     |none=>aM.bad
    | _=>aM.bad
   | _=>aM.bad
 | .nilCheck x=>match ae aw s x with
   |some (.ptr o f)=>k (.ptr o f) s
   |some (.dn cs f)=>k (.dn cs f) s
   |some (.fn i cs)=>k (.fn i cs) s
   |some (.iK o n f)=>k (.iK o n f) s
   | _=>aM.bad
 | .bin op x (.const (.int tz c))=>match ae aw s x with
   |some v=>NN s op k v tz c
   |none=>aM.bad
 | .bin op x y=>match ae aw s x,ae aw s y with
   |some v,some w=>bin s op k v w
   | _,_=>aM.bad
 | .xJ neg ks x y=>match ae aw s x,ae aw s y with
   |some (.agg a),some (.agg c)=>match tA s ks a c with
    |some e=>name s e neg k
    |none=>aM.bad
   | _,_=>aM.bad
 | .pt kind neg x y=>match ae aw s x,ae aw s y with
   |some v,some w=>match kind,v,w with
    |1,.sl _ a,.k .cp=>name s a.isNil neg k
    |4,v,w=>match w9 s v,w9 s w with
     |some a,some c=>name s (a==c) neg k
     | _,_=>aM.bad
    | _,_,_=>aM.bad
   | _,_=>aM.bad
 | .un op x=>match op,ae aw s x with
   | .not,some (.b0 b)=>k (.b0 (!b)) s
   | .not,some (.bo i neg)=>k (.bo i (!neg)) s
   | .neg,some (.int bK n)=>k (.int bK (bK.wrap (0-n))) s
   | _,_=>aM.bad
 | .conv bK x=>match ae aw s x with
   |some (.int _ n)=>k (.int bK (bK.wrap n)) s
   | _=>aM.bad
 | .ug mx x y=>match ae aw s x,ae aw s y with
   |some (.int bK a),some (.int Eo c)=>match decide (bK=Eo)with
    |true=>match mx with
     |true=>k (.int bK (max a c)) s
     |false=>k (.int bK (min a c)) s
    |false=>aM.bad
   | _,_=>aM.bad
 | .sS i [] cs=>match vy aw s cs with
   |some vs=>k (.fn i vs) s
   |none=>aM.bad
 | .fieldAddr off x=>match ae aw s x with
   |some (.ptr o f)=>k (.ptr o (f+off)) s
   |some (.dn cs f)=>k (.dn cs (f+off)) s
   |some (.iK o n f)=>k (.iK o n (f+off)) s
   | _=>aM.bad
 | .field off sh x=>match ae aw s x with
   |some (.agg cs)=>match cut cs off sh with
    |some v=>k v s
    |none=>aM.bad
   | _=>aM.bad
 | .extract x i=>match ae aw s x with
   |some (.aU vs)=>match nth vs i with
    |some v=>k v s
    |none=>aM.bad
   | _=>aM.bad
 | .len kind x=>match kind,ae aw s x with
   |0,some (.str a)=>k (.int .i64 (a.length:Int)) s
   |1,some (.sl _ a)=>k (.int .i64 a.len) s
   |1,some (.row o)=>match bd s.mem o with
    |some (.row _ a)=>k (.int .i64 a.len) s
    | _=>aM.bad
   |2,some (.row o)=>match bd s.mem o with
    |some (.mp _ _ m)=>k (.int .i64 (m.length:Int)) s
    | _=>aM.bad
   |1,some (.k .cp)=>k (.int .i64 0) s
   |1,some (.k .emp)=>k (.int .i64 0) s
   | _,_=>aM.bad
 | .indexAddr es x i=>match ae aw s x,ae aw s i with
   |some (.sl t a),some (.int _ n)=>match Nat.beq (J.es t) es with
    |true=>aM.c2 (bQ a.l n) fun e=>elem t e s fun v s=>match q8 v with
     |some cs=>k (.dn cs 0) s
     |none=>aM.bad
    |false=>aM.bad
   |some (.row o),some (.int _ n)=>match bd s.mem o with
    |some (.row t a)=>match Nat.beq (J.es t) es with
     |true=>aM.c2 (bQ a.l n) fun _=>k (.iK o n 0) s
     |false=>aM.bad
    | _=>aM.bad
   | _,_=>aM.bad
 | .qw x i=>match ae aw s x,ae aw s i with
   |some (.str a),some (.int _ n)=>aM.c2 (bQ a n) fun c=>k (.int .u8 (c.toNat:Int)) s
   | _,_=>aM.bad
 | .oI x lo hi=>match ae aw s x with
   |some (.str a)=>match lo.map (ae aw s),hi.map (ae aw s)with
    |none,none=>aM.c2 (q0 a 0 (a.length:Int)) fun q=>k (.str q) s
    |some (some (.int .i64 n)),none=>aM.c2 (q0 a n (a.length:Int)) fun q=>k (.str q) s
    |none,some (some (.int .i64 m))=>aM.c2 (q0 a 0 m) fun q=>k (.str q) s
    |some (some (.int .i64 n)),some (some (.int .i64 m))=>aM.c2 (q0 a n m) fun q=>k (.str q) s
    | _,_=>aM.bad
   | _=>aM.bad
 | .lookup kind z x i ok=>match ae aw s x,ae aw s i with
   |some (.row o),some v=>match bd s.mem o with
    |some (.mp ei ju m)=>match J.iu ei v s.aI,J.iu ju (Em z) s.aI,kindOf (J:=J) ei kind with
     |some x,some z,true=>match ok with
      |false=>elem ju ((II ei ju m x).getD z) s k
      |true=>elem ju ((II ei ju m x).getD z) s fun v s=>name s (II ei ju m x).isSome false fun b s=>k (.aU [v,b]) s
     | _,_,_=>aM.bad
    | _=>aM.bad
   | _,_=>aM.bad
 | .pw es x lo hi none=>match ae aw s x with
   |some (.sl t a)=>match Nat.beq (J.es t) es with
    |true=>match lo.map (ae aw s),hi.map (ae aw s)with
     |none,none=>aM.c2 (o8 a 0 a.len) fun q=>k (.sl t q) s
     |some (some (.int .i64 n)),none=>aM.c2 (o8 a n a.len) fun q=>k (.sl t q) s
     |none,some (some (.int .i64 m))=>aM.c2 (o8 a 0 m) fun q=>k (.sl t q) s
     |some (some (.int .i64 n)),some (some (.int .i64 m))=>aM.c2 (o8 a n m) fun q=>k (.sl t q) s
     | _,_=>aM.bad
    |false=>aM.bad
   | _=>aM.bad
 | .xC es bytes a b=>match ae aw s a,ae aw s b with
   |some x,some (.sl t y)=>match Nat.beq (J.es t) es,xd x with
    |true,some (.k .cp)=>aM.c2 (lG bytes .nil y) fun z=>k (.sl t z) s
    |true,some (.k .emp)=>aM.c2 (lG bytes .emp y) fun z=>k (.sl t z) s
    | _,_=>aM.bad
   | _,_=>aM.bad
 | _=>aM.bad
end
end Go.Abs.gK
