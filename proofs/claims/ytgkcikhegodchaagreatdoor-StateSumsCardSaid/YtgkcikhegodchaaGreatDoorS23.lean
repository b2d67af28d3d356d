/- Texts of this claim, joined and written short by a program. -/
import Derived.Test.YtgkcikhegodchaaGreatDoorS21
import Derived.Test.YtgkcikhegodchaaGreatDoorS20
import Derived.Test.YtgkcikhegodchaaGreatDoorS22
import Derived.Test.YtgkcikhegodchaaGreatDoorS00
set_option linter.unusedVariables false
set_option linter.unusedSimpArgs false
set_option linter.unusedSectionVars false
namespace Go.Abs
open Go
variable{aa:Nat->Option bV}
inductive gS:List Bool->List Bool->Prop
 |nil:gS [] []
 |cons {a c:Bool} {l r:List Bool} (h:a=true->c=true) (k:gS l r):gS (a::l) (c::r)
theorem gS.get{l r:List Bool}:gS l r->∀{i:Nat},l[i]? =some true->r[i]? =some true
 | .nil,_,h=>by simp at h
 | .cons h k,0,e=>by simp at e;subst e;simp[h rfl]
 | .cons h k,i+1,e=>by simpa using k.get (by simpa using e)
theorem gS.app{l r fc mS:List Bool}:gS l r->gS fc mS->gS (l++fc) (r++mS)
 | .nil,h=>h
 | .cons h k,h'=>.cons h (k.app h')
theorem gS.rev{l r:List Bool}:gS l r->gS l.reverse r.reverse
 | .nil=>.nil
 | .cons h k=>by rw[List.reverse_cons,List.reverse_cons];exact k.rev.app (.cons h .nil)
theorem gS.refl:∀l:List Bool,gS l l
 |[]=>.nil
 | _::r=>.cons id (gS.refl r)
theorem gS.take{l r:List Bool}:gS l r->∀n,gS (l.take n) (r.take n)
 | .nil,n=>by simp;exact .nil
 | .cons h k,0=>.nil
 | .cons h k,n+1=>.cons h (k.take n)
theorem gS.len{l r:List Bool}:gS l r->l.length=r.length
 | .nil=>rfl
 | .cons _ k=>by simp[k.len]
theorem gS.no{l r:List Bool}:gS l r->r.all (!·)=true->l.all (!·)=true
 | .nil,_=>rfl
 | .cons (a:=a) (c:=c) h k,e=>by
   simp only[Mt,cn]at e⊢;refine⟨?_,k.no e.2⟩;cases a with
   |false=>rfl
   |true=>rw[h rfl]at e;cases e.1
theorem Qd{call:cP}(hc:mu call){ops:List bI}{S:Nat->av}{aY:Nat->Bool}(hs:∀i a7,ops[i]? =some a7->my call a7 (S i) (S (i+1)) (aY i)){i:Nat}:∀{d:Nat},i+d<=ops.length->(∀x,i<=x->x<i+d->aY x=false)->(S (i+d)).H=(S i).H
 |0,_,_=>rfl
 |d+1,hd,ae=>by
  have:=(hs (i+d) ops[i+d] (gq (by omega))).still hc (ae (i+d) (by omega) (by omega));exact this.trans (Qd hc hs (d:=d) (by omega) fun x h1 h2=>ae x h1 (by omega))
theorem ao1{call:cP}{a7:bI}{S lB:av}{aY:Bool}(h:my call a7 S lB aY)(ae:aY=false):jx call (a7,S,S.H)=true:=by
 unfold jx;rcases h with⟨h0,v,H1,bG,h1,-,h2⟩|⟨h0,-,-⟩
 ·simp only[h0,h1,Pn,fF,mb]
  exact h2.symm.trans ae
 ·simp only[h0]
theorem Qe{call:cP}:∀{ops:List bI} {st:av} {cb:List av},fm call ops st=some cb->cb.length=ops.length+1
 |[],st,cb,h=>by simp only[fm,aA]at h;subst h;rfl
 |o::r,st,cb,h=>by
  simp only[fm]at h;split at h
  ·split at h
   ·obtain⟨t,h1,rfl⟩:=cj.1 h
    simp[Qe h1]
   ·cases h
  ·obtain⟨t,h1,rfl⟩:=cj.1 h
   simp[Qe h1]
  ·cases h
theorem ao2{call:cP}:∀{ops:List bI} {st:av} {cb:List av},fm call ops st=some cb->cb[0]? =some st
 |[],st,cb,h=>by simp only[fm,aA]at h;subst h;rfl
 |o::r,st,cb,h=>by
  simp only[fm]at h;split at h
  ·split at h
   ·obtain⟨t,h1,rfl⟩:=cj.1 h;rfl
   ·cases h
  ·obtain⟨t,h1,rfl⟩:=cj.1 h;rfl
  ·cases h
inductive j6 (aa:Nat->Option bV) (b:Nat) (ms:cy):List bI->bN->bN->Heap->bN->bN->Heap->List Bool->Prop
 |nil {aq σ:bN} {H:Heap}:j6 aa b ms [] aq σ H aq σ H []
 |step {o:bI} {rest:List bI} {aq σ aW aS:bN} {H H':Heap} {v:V} {wr:List Bool} (hw:ga aq σ o.guard=some true) (h:∀H,Own H ms->b3 (bY aa) (bn aq σ) H H.length o.op=some (v,H,H.length)) (k:j6 aa b ms rest (fw aq o.dst v) (fx σ o.dst v) H aW aS H' wr):j6 aa b ms (o::rest) aq σ H aW aS H' (false::wr)
 |skip {o:bI} {rest:List bI} {aq σ aW aS:bN} {H H':Heap} {wr:List Bool} (hw:ga aq σ o.guard=some false) (k:j6 aa b ms rest (fw aq o.dst (.aU [])) (fx σ o.dst (.aU [])) H aW aS H' wr):j6 aa b ms (o::rest) aq σ H aW aS H' (false::wr)
 |make {o:bI} {rest:List bI} {aq σ aW aS:bN} {H H1 H':Heap} {bG:Nat} {v:V} {wr:List Bool} (hw:ga aq σ o.guard=some true) (h:b3 (bY aa) (bn aq σ) H H.length o.op=some (v,H1,bG)) (hb:b<=bG) (fu:b<=H1.length) (aw:Own H1 ms) (k:j6 aa b ms rest (fw aq o.dst v) (fx σ o.dst v) H1 aW aS H' wr):j6 aa b ms (o::rest) aq σ H aW aS H' (true::wr)
theorem ij.ao3{b:Nat}{ms:cy}{A:List bI}{aq σ aW aS:bN}{H:Heap}(h:ij (bY aa) ms A aq σ aW aS):j6 aa b ms A aq σ H aW aS H (List.replicate A.length false):=by
 induction h with
 |nil=>exact .nil
 |step hw h k ih=>exact .step hw h ih
 |skip hw k ih=>exact .skip hw ih
theorem j6.append{b:Nat}{ms:cy}{A B:List bI}{aq σ eF cL Ku jH:bN}{H H1 H2:Heap}{w w':List Bool}(h:j6 aa b ms A aq σ H eF cL H1 w)(k:j6 aa b ms B eF cL H1 Ku jH H2 w'):j6 aa b ms (A++B) aq σ H Ku jH H2 (w++w'):=by
 induction h with
 |nil=>exact k
 |step hw h _ ih=>exact .step hw h (ih k)
 |skip hw _ ih=>exact .skip hw (ih k)
 |make hw h b1 ff aw _ ih=>exact .make hw h b1 ff aw (ih k)
theorem j6.len{b:Nat}{ms:cy}{A:List bI}{aq σ eF cL:bN}{H H1:Heap}{w:List Bool}(h:j6 aa b ms A aq σ H eF cL H1 w):w.length=A.length:=by
 induction h<;>simp_all
theorem j6.own{b:Nat}{ms:cy}{A:List bI}{aq σ eF cL:bN}{H H1:Heap}{w:List Bool}(h:j6 aa b ms A aq σ H eF cL H1 w)(aw:Own H ms)(hb:b<=H.length):Own H1 ms/\b<=H1.length:=by
 induction h with
 |nil=>exact⟨aw,hb⟩
 |step hw h _ ih=>exact ih aw hb
 |skip hw _ ih=>exact ih aw hb
 |make hw h b1 ff lI _ ih=>exact ih lI ff
theorem j6.run{b:Nat}{ms:cy}:∀{A:List bI} {aq σ aW aS:bN} {H H':Heap} {w:List Bool},j6 aa b ms A aq σ H aW aS H' w->∀{aC au:Env} {low:Nat} {wr:List Bool} (B:List bI),Fits aC aq->Fits au σ->Own H ms->b<=low->b<=H.length->
  ∃iT di low' w',Fits iT aW/\Fits di aS/\b<=low'/\b<=H'.length/\Own H' ms/\gS w' w/\cY (bY aa) (A++B) ⟨aC,au,H,low,none⟩ wr=cY (bY aa) B ⟨iT,di,H',low',none⟩ (w'.reverse++wr)/\
   ∀cb,fm (bY aa) (A++B) ⟨aC,au,H,low,none⟩=some cb->∃kl lH,cb=kl++lH/\kl.length=A.length/\fm (bY aa) B ⟨iT,di,H',low',none⟩=some lH/\(∀T∈kl,Own T.H ms)/\
    ∀(i:Nat) (o:bI) (T:av),A[i]? =some o->kl[i]? =some T->w[i]? =some false->∀H',Own H' ms->jx (bY aa) (o,T,H')=true
 |[],aq,σ,_,_,H,_,_,.nil,aC,au,low,wr,B,h1,h2,aw,hb,hl=>⟨aC,au,low,[],h1,h2,hb,hl,aw,.nil,rfl,fun cb h=>⟨[],cb,rfl,rfl,h,(fun _ h=>nomatch h),(fun i o T h=>by simp at h)⟩⟩
 |o::A,aq,σ,aW,aS,H,H',_,.step (v:=v) (wr:=w) hw h k,aC,au,low,wr,B,h1,h2,aw,hb,fu=>by
  obtain⟨nh,k9,ab,aj,bC⟩:=wc h1 h2 H (min low H.length) o.dst v;obtain⟨iT,di,low',w',f1,f2,f0,f5,f6,f7,f3,f4⟩:=k.run (low:=min low H.length) (wr:=false::wr) B aj bC aw (by omega) fu;have jm:=hw;rw[<-zL h1 h2]at jm;have hs:=h H aw;rw[<-tp h1 h2]at hs;refine⟨iT,di,low',false::w',f1,f2,f0,f5,f6,.cons id f7,?_,fun cb ht=> ?_⟩
  ·simp only[lN,cY,jm,hs,lD]
   rw[ab,f3];simp
  ·simp only[lN,fm,jm,hs]at ht
   rw[ab]at ht;obtain⟨nR,ed,rfl⟩:=cj.1 ht;obtain⟨kl,lH,rfl,g1,g2,g0,g3⟩:=f4 nR ed;refine⟨_::kl,lH,rfl,by simp[g1],g2,fun T hT=>(dp.1 hT).elim (fun e=>e ▸ aw) (g0 T),fun i p T hp hT hi H' lI=> ?_⟩;cases i with
   |zero=>
    simp only[nz,aA]at hp hT;subst hp;subst hT;have vY:=h H' lI;rw[<-tp h1 h2]at vY;simp only[jx,jm,hs,vY,lD,xc,Bk,Pn]
   |succ i=>
    simp only[yy]at hp hT hi;exact g3 i p T hp hT hi H' lI
 |o::A,aq,σ,aW,aS,H,H',_,.skip (wr:=w) hw k,aC,au,low,wr,B,h1,h2,aw,hb,fu=>by
  obtain⟨nh,k9,ab,aj,bC⟩:=wc h1 h2 H low o.dst (.aU []);obtain⟨iT,di,low',w',f1,f2,f0,f5,f6,f7,f3,f4⟩:=k.run (wr:=false::wr) B aj bC aw hb fu;have jm:=hw;rw[<-zL h1 h2]at jm;refine⟨iT,di,low',false::w',f1,f2,f0,f5,f6,.cons id f7,?_,fun cb ht=> ?_⟩
  ·simp only[lN,cY,jm]
   rw[ab,f3];simp
  ·simp only[lN,fm,jm]at ht
   rw[ab]at ht;obtain⟨nR,ed,rfl⟩:=cj.1 ht;obtain⟨kl,lH,rfl,g1,g2,g0,g3⟩:=f4 nR ed;refine⟨_::kl,lH,rfl,by simp[g1],g2,fun T hT=>(dp.1 hT).elim (fun e=>e ▸ aw) (g0 T),fun i p T hp hT hi H' lI=> ?_⟩;cases i with
   |zero=>
    simp only[nz,aA]at hp hT;subst hp;subst hT;simp only[jx,jm]
   |succ i=>
    simp only[yy]at hp hT hi;exact g3 i p T hp hT hi H' lI
 |o::A,aq,σ,aW,aS,H,H',_,.make (H1:=H1) (bG:=bG) (v:=v) (wr:=w) hw h b1 ff Gc k,aC,au,low,wr,B,h1,h2,aw,hb,fu=>by
  obtain⟨nh,k9,ab,aj,bC⟩:=wc h1 h2 H1 (min low bG) o.dst v;obtain⟨iT,di,low',w',f1,f2,f0,f5,f6,f7,f3,f4⟩:=k.run (low:=min low bG) (wr:=ei H H1 bG::wr) B aj bC Gc (by omega) ff;have jm:=hw;rw[<-zL h1 h2]at jm;have hs:=h;rw[<-tp h1 h2]at hs;refine⟨iT,di,low',ei H H1 bG::w',f1,f2,f0,f5,f6,.cons (fun _=>rfl) f7,?_,fun cb ht=> ?_⟩
  ·simp only[lN,cY,jm,hs]
   rw[ab,f3];simp
  ·simp only[lN,fm,jm,hs]at ht
   rw[ab]at ht;obtain⟨nR,ed,rfl⟩:=cj.1 ht;obtain⟨kl,lH,rfl,g1,g2,g0,g3⟩:=f4 nR ed;refine⟨_::kl,lH,rfl,by simp[g1],g2,fun T hT=>(dp.1 hT).elim (fun e=>e ▸ aw) (g0 T),fun i p T hp hT hi H' lI=> ?_⟩;cases i with
   |zero=>simp at hi
   |succ i=>
    simp only[yy]at hp hT hi;exact g3 i p T hp hT hi H' lI
def CS (er:List Nat)(ops:List bI)(w wr:List Bool):Bool:=
 wr.zipIdx.all fun(x,i)=>!x||ops.zipIdx.all fun(o,j)=>!gk o.op||i==j||pU er i j||(Nat.blt i w.length&&Nat.blt j w.length&&!w.getD j true)
theorem ao4{er:List Nat}{ops:List bI}{w wr mI:List Bool}(h:gS wr mI)(ho:CS er ops w mI=true):CS er ops w wr=true:=by
 unfold CS at ho⊢;rw[eU]at ho⊢;rintro⟨x,i⟩ hx;cases x with
 |false=>rfl
 |true=>exact ho (true,i) (js.2 (h.get (js.1 hx)))
section
variable{b:Nat}{eF σ cL:bN}{H H1:Heap}{Q:X->bN->Heap->Prop}{ms:cy}
theorem ao5{A R ops:List bI}{er:List Nat}(qc:A++R=ops)(aw:Own H ms)
  (cQ:b<=H.length->∃eF cL H1 w,j6 aa b ms A n3 σ H eF cL H1 w/\∀w',gS w' w->Op aa b R eF cL H1 w'.reverse (fun aS H' wr=>CS er ops w wr=true/\Q .normal aS H')):
  e8 aa b (.region ops (some er)) σ H Q:=fun au low h1 h2 ar=>by
 obtain⟨eF,cL,H1,w,hA,U⟩:=cQ ar;obtain⟨nh,k9,ch,w',f1,f2,f0,f5,f6,f7,f3,f4⟩:=hA.run (low:=low) (wr:=[]) R tn h1 aw h2 ar;obtain⟨ao6,Qf,Qg,Ad,Ae,Qh,b6,dI,kf,Kv,Af,ao7⟩:=U w' f7 nh k9 ch f1 f2 f0 f5;rw[qc,pP]at f3;rw[qc]at f4;have he:cY (bY aa) ops ⟨[],au,H,low,none⟩ []=some (⟨ao6,Qf,Qg,Ad,none⟩,Ae):=f3.trans b6;obtain⟨cb,po⟩:=Fg he;obtain⟨kl,lH,t1,t2,t3,t4,t5⟩:=f4 cb po;have Qi:=hA.len;have ao8:=ao2 t3;obtain⟨S,aY,h0,hn,k4,hs⟩:=uo _ _ _ _ _ he;obtain⟨lB,aAu,-,-,aaS,-⟩:=uo _ _ _ _ _ b6;rw[List.reverse_reverse]at aaS;have rM:=Iz ops S aY cb hs (by rw[h0];exact po);simp only[List.reverse_nil,iM]at k4
 have hw:∀{i},Ae[i]? =some true↔i<ops.length/\aY i=true:=fun {i}=>by
  rw[k4,h8];by_cases hi:i<ops.length
  ·rw[List.getElem?_range hi];simp[hi]
  ·rw[nA (by simpa using hi)];simp[hi]
 have aaT:∀{i},Ae.getD i false=true↔i<ops.length/\aY i=true:=fun {i}=>by
  rw[<-hw,iL];cases Ae[i]? with
  |none=>simp
  |some x=>simp
 have ao9:∀{i},i<w.length->Ae[i]? =some true->w[i]? =some true:=fun {i} hi h=>by
  rw[aaS,fB (by rw[f7.len];exact hi)]at h;exact f7.get h
 have b7:∀i,i<ops.length->aY i=true->∀j o',ops[j]? =some o'->gk o'.op=true->i≠j->pU er i j=true\/(i<w.length/\j<w.length/\w[j]? =some false):=fun i hi ae j o' hj ht cK=>by
  unfold CS at Af;rw[eU]at Af;have:=Af (true,i) (js.2 (hw.2 ⟨hi,ae⟩));simp only[iN,tZ,eU]at this;have:=this (o',j) (js.2 hj);simp only[ht,iN,jN,cn,beq_iff_eq,cK,or_false,fE,false_or]at this;refine this.imp id fun⟨⟨q1,q2⟩,cd⟩=> ?_;have q1:=(Nat.blt_eq ..).mp q1;have q2:=(Nat.blt_eq ..).mp q2;refine⟨q1,q2,?_⟩;rw[iL,gq q2]at cd;rw[gq q2];simpa using cd
 have th:rI (bY aa) er ops Ae ⟨[],au,H,low,none⟩=true:=by
  unfold rI;rw[po];simp only[cn];constructor
  ·unfold HY
   simp only[eU];rintro⟨x,i⟩ hi;cases x with
   |false=>rfl
   |true=>
    simp only[iN,tZ,eU];rintro⟨fJ,j⟩ hj;cases fJ with
    |false=>rfl
    |true=>
     have Io:=js.1 hj;have hi:=hw.1 (js.1 hi);have hj:=hw.1 Io;by_cases cK:i=j
     ·simp[cK]
     ·have aaU:=gq hj.1
      rcases b7 i hi.1 hi.2 j _ aaU ((hs j _ aaU).gk hj.2) cK with q|⟨q1,q2,cd⟩
      ·simp[q]
      ·rw[ao9 q2 Io]at cd;cases cd
  ·rw[eU]
   intro q bg;unfold HZ at bg;simp only[DI]at bg;obtain⟨⟨o',j⟩,hj,bg⟩:=bg;have hj:=js.1 hj;simp only at hj bg;split at bg
   ·cases bg
   rename_i r4;simp only[jN,mb,not_or,HM,Bool.not_eq_true]at r4;obtain⟨ht,ia⟩:=r4;simp only[DI]at bg;obtain⟨⟨Bo,k⟩,hk,bg⟩:=bg;have hk:=js.1 hk;simp only at hk bg;split at bg
   ·cases bg
   rename_i BC;have nP:j<ops.length:=(e0.1 hj).1
   have s7:k<=ops.length:=by
    have:=(e0.1 hk).1;rw[Qe po]at this;omega
   have aaV:=rM k s7;rw[hk]at aaV;cases aaV;rw[rM j (by omega)]at bg;simp only[yA]at bg;subst bg;simp only[jN,beq_iff_eq,cn,bne_iff_ne,ne_eq,mb,not_or,not_and,HM]at BC;obtain⟨⟨vF,Eu⟩,Qj⟩:=BC
   have hex:∀i,i<ops.length->aY i=true->i≠j->pU er i j=true->(i<j↔i<k):=fun i hi ae cK aaW=>by
    rw[<-decide_eq_decide];by_cases e:decide (i<j)=decide (i<k)
    ·exact e
    ·exact absurd (rD.2 ⟨(true,i),js.2 (hw.2 ⟨hi,ae⟩),by simp[cK,aaW,e]⟩) Qj
   have aaX:aY j=false:=by
    cases hx:aY j with
    |false=>rfl
    |true=>rw[aaT.2 ⟨nP,hx⟩]at ia;cases ia
   by_cases zk:j<w.length/\w[j]? =some false
   ·obtain⟨q1,q2⟩:=zk
    have apa:j<A.length:=by omega
    have aAv:k<=A.length:=by
     by_cases rY:k=0
     ·omega
     ·obtain⟨xX,lk⟩:=aaT.1 (Eu rY)
      rcases fV (k-1) A.length with r|r
      ·omega
      ·rcases b7 (k-1) xX lk j o' hj ht (by omega)with z|⟨z,-⟩
       ·have:=hex (k-1) xX lk (by omega) z
        omega
       ·omega
    have Pu:Own (S k).H ms:=by
     rw[t1]at hk;rcases fV k A.length with r|r
     ·rw[fB (by omega)]at hk
      exact t4 _ (gV hk)
     ·obtain rfl:k=A.length:=by omega
      rw[u0 (by omega),t2,Nat.sub_self,ao8]at hk;rw[<-u3 hk];exact f6
    have aaY:=rM j (by omega);rw[<-qc,fB apa]at hj;rw[t1,fB (by omega)]at aaY;exact t5 j o' (S j) hj aaY q2 _ Pu
   ·have eP:∀x,x<ops.length->aY x=true->(x<j↔x<k):=fun x hx Kw=>by
     have s4:x≠j:=fun e=>by rw[e,aaX]at Kw;cases Kw
     rcases b7 x hx Kw j o' hj ht s4 with q|⟨-,q⟩
     ·exact hex x hx Kw s4 q
     ·exact absurd q zk
    have hH:(S k).H=(S j).H:=by
     have hc:=Pt aa
     have no:∀x,x<ops.length->(x<j/\k<=x\/x<k/\j<=x)->aY x=false:=fun x hx aaW=>by
      cases dM:aY x with
      |false=>rfl
      |true=>have:=eP x hx dM;omega
     rcases Nat.le_total k j with apb|hjk
     ·obtain⟨d,rfl⟩:=oq apb
      exact(Qd hc hs (by omega) fun x xX lk=>no x (by omega) (by omega)).symm
     ·obtain⟨d,rfl⟩:=oq hjk
      exact Qd hc hs (by omega) fun x xX lk=>no x (by omega) (by omega)
    rw[hH];exact ao1 (hs j o' hj) aaX
 exact⟨.normal,Qf,Qg,Ad,Qh,by rw[kW];simp only[he,o2,th,Bool.true_or,Bool.or_true,if_true,av.fo],dI,kf,Kv,ao7⟩
end
end Go.Abs
namespace Go.Abs
variable{aa:Nat->Option bV}
theorem aaZ{α:Type}{es bytes b:Nat}{f:α->V}{s y ao:ad α}{dr fH:ai}{dt:V}{m:List (Nat × bU)}{ms:cy}{H:Heap}{ag:ai->V}(cp:b<=H.length)(k:Nat)
  (hs:gn bytes s y=some ao) (aw:Own H ms) (hk:ms[k]? =some m) (hr:ft b es f dt s m) (ha:ag dr=dt) (hb:ag fH=bb es f y) (hp:∀a,bx (f a)=true) (hc:∀a,bM (aE (f a))=true):
  ∃v' H1 bG m',b<=bG/\b<=H1.length/\b3 (bY aa) ag H H.length (.append es bytes dr fH)=some (v',H1,bG)/\ft b es f v' ao m'/\Own H1 (ms.set k m'):=by
 have nb:ms.set k m=ms:=by
  apply o0;intro i;by_cases e:k=i
  ·subst e;rw[mP (e0.1 hk).1,hk]
  ·rw[iv e]
 have hfz:eV H H.length (y.l.map f)=some (y.l.map f,H,H.length):=uw (tq hp _);have qZ:=wi hc y.l;unfold gn at hs;by_cases hy:y.l=[]
 ·rw[if_pos hy]at hs
  cases hs;refine⟨dt,H,H.length,m,cp,cp,?_,hr,by rw[nb];exact aw⟩;rw[n0];simp only[step,hb,wh];rw[hfz,hy];simp only[iO,Mp,if_true,ha];have da:e9 b es dt (s.map f) m:=hr;generalize oM:s.map f=gZ at da;cases da with
  |nil=>rfl
  |emp=>rfl
  |row l ds h gX=>simp[aw.get k hk]
 ·rw[if_neg hy]at hs
  split at hs
  ·rename_i ec
   cases hs
   have aZ:(y.l.map f).isEmpty=false:=by cases wj:y.l with
    |nil=>exact absurd wj hy
    |cons=>rfl
   have py:(bM ((y.l.map f).flatMap aE)=false)=False:=by rw[qZ];simp
   have da:e9 b es dt (s.map f) m:=hr;generalize oM:s.map f=gZ at da;cases da with
   |nil=>
    have dY:s.l=[]:=by cases s<;>simp_all [ad.map,ad.l]
    have n9:(y.l.map f).length*(bytes+1)<=2^40:=by simpa[dY]using ec
    refine⟨.ca H.length es 0 (y.l.map f).length (y.l.map f).length,H++[.row es (y.l.map f) false],H.length,[(H.length,.row es (y.l.map f) false)],cp,by simp;omega,?_,?_,aw.fill k hk⟩
    ·rw[n0]
     simp only[step,hb,wh];rw[hfz];simp only[aZ,fE,if_false,py,ha,n9,if_true]
    ·simp only[dY,iM,ad.map]
     exact .row _ _ (by simpa using hy) cp
   |emp=>
    have dY:s.l=[]:=by cases s<;>simp_all [ad.map,ad.l]
    have n9:(y.l.map f).length*(bytes+1)<=2^40:=by simpa[dY]using ec
    refine⟨.ca H.length es 0 (y.l.map f).length (y.l.map f).length,H++[.row es (y.l.map f) false],H.length,[(H.length,.row es (y.l.map f) false)],cp,by simp;omega,?_,?_,aw.fill k hk⟩
    ·rw[n0]
     simp only[step,hb,wh];rw[hfz];simp only[aZ,fE,if_false,py,ha,n9,if_true]
    ·simp only[dY,iM,ad.map]
     exact .row _ _ (by simpa using hy) cp
   |row l ds hd gX=>
    have dY:s.l.map f=ds:=by cases s<;>simp_all [ad.map,ad.l]
    have hlen:s.l.length=ds.length:=by rw[<-dY,ef]
    have a6:=aw.get k hk;have aK:=sc a6;refine⟨.ca l es 0 (ds++y.l.map f).length (ds++y.l.map f).length,H.set l (.row es (ds++y.l.map f) false),l,[(l,.row es (ds++y.l.map f) false)],gX,by simpa using cp,?_,?_,aw.put k hk⟩
    ·rw[n0]
     simp only[step,hb,wh];rw[hfz];simp only[aZ,fE,if_false,py,ha,a6,fD];rw[if_pos ⟨trivial,trivial,trivial,trivial,trivial,by rw[hlen]at ec;simpa using ec⟩,tX (qz aK)]
     done
    ·show e9 b es _ (.mk ((s.l++y.l).map f)) _
     rw[jP,dY];exact .row _ _ (by simp[hd]) gX
  ·cases hs
theorem apc{α:Type}{es bytes b:Nat}{f:α->V}{s y ao:ad α}{dr fH:ai}{dt:V}{m:List (Nat × bU)}{ms:cy}{H:Heap}{ag:ai->V}(cp:b<=H.length)(k:Nat)
  (hs:gn bytes s y=some ao) (aw:Own H ms) (hk:ms[k]? =some m) (hr:ft b es f dt s m) (ha:ag dr=dt) (hb:elems H es (ag fH)=some (y.l.map f)) (hp:∀a,bx (f a)=true) (hc:∀a,bM (aE (f a))=true):
  ∃v' H1 bG m',b<=bG/\b<=H1.length/\b3 (bY aa) ag H H.length (.append es bytes dr fH)=some (v',H1,bG)/\ft b es f v' ao m'/\Own H1 (ms.set k m'):=by
 have nb:ms.set k m=ms:=by
  apply o0;intro i;by_cases e:k=i
  ·subst e;rw[mP (e0.1 hk).1,hk]
  ·rw[iv e]
 have hfz:eV H H.length (y.l.map f)=some (y.l.map f,H,H.length):=uw (tq hp _);have qZ:=wi hc y.l;unfold gn at hs;by_cases hy:y.l=[]
 ·rw[if_pos hy]at hs
  cases hs;refine⟨dt,H,H.length,m,cp,cp,?_,hr,by rw[nb];exact aw⟩;rw[n0];simp only[step,hb];rw[hfz,hy];simp only[iO,Mp,if_true,ha];have da:e9 b es dt (s.map f) m:=hr;generalize oM:s.map f=gZ at da;cases da with
  |nil=>rfl
  |emp=>rfl
  |row l ds h gX=>simp[aw.get k hk]
 ·rw[if_neg hy]at hs
  split at hs
  ·rename_i ec
   cases hs
   have aZ:(y.l.map f).isEmpty=false:=by cases wj:y.l with
    |nil=>exact absurd wj hy
    |cons=>rfl
   have py:(bM ((y.l.map f).flatMap aE)=false)=False:=by rw[qZ];simp
   have da:e9 b es dt (s.map f) m:=hr;generalize oM:s.map f=gZ at da;cases da with
   |nil=>
    have dY:s.l=[]:=by cases s<;>simp_all [ad.map,ad.l]
    have n9:(y.l.map f).length*(bytes+1)<=2^40:=by simpa[dY]using ec
    refine⟨.ca H.length es 0 (y.l.map f).length (y.l.map f).length,H++[.row es (y.l.map f) false],H.length,[(H.length,.row es (y.l.map f) false)],cp,by simp;omega,?_,?_,aw.fill k hk⟩
    ·rw[n0]
     simp only[step,hb];rw[hfz];simp only[aZ,fE,if_false,py,ha,n9,if_true]
    ·simp only[dY,iM,ad.map]
     exact .row _ _ (by simpa using hy) cp
   |emp=>
    have dY:s.l=[]:=by cases s<;>simp_all [ad.map,ad.l]
    have n9:(y.l.map f).length*(bytes+1)<=2^40:=by simpa[dY]using ec
    refine⟨.ca H.length es 0 (y.l.map f).length (y.l.map f).length,H++[.row es (y.l.map f) false],H.length,[(H.length,.row es (y.l.map f) false)],cp,by simp;omega,?_,?_,aw.fill k hk⟩
    ·rw[n0]
     simp only[step,hb];rw[hfz];simp only[aZ,fE,if_false,py,ha,n9,if_true]
    ·simp only[dY,iM,ad.map]
     exact .row _ _ (by simpa using hy) cp
   |row l ds hd gX=>
    have dY:s.l.map f=ds:=by cases s<;>simp_all [ad.map,ad.l]
    have hlen:s.l.length=ds.length:=by rw[<-dY,ef]
    have a6:=aw.get k hk;have aK:=sc a6;refine⟨.ca l es 0 (ds++y.l.map f).length (ds++y.l.map f).length,H.set l (.row es (ds++y.l.map f) false),l,[(l,.row es (ds++y.l.map f) false)],gX,by simpa using cp,?_,?_,aw.put k hk⟩
    ·rw[n0]
     simp only[step,hb];rw[hfz];simp only[aZ,fE,if_false,py,ha,a6,fD];rw[if_pos ⟨trivial,trivial,trivial,trivial,trivial,by rw[hlen]at ec;simpa using ec⟩,tX (qz aK)]
     done
    ·show e9 b es _ (.mk ((s.l++y.l).map f)) _
     rw[jP,dY];exact .row _ _ (by simp[hd]) gX
  ·cases hs
theorem aa0{α:Type}{es bytes:Nat}{f:α->V}{s y z:ad α}{dr fH:ai}{call:cP}{ag:ai->V}{H:Heap}{low:Nat}(hs:gn bytes s y=some z)(he:s=.nil\/s=.emp)(ha:ag dr=bb es f s)(hb:ag fH=bb es f y)(hp:∀a,bx (f a)=true)(hc:∀a,bM (aE (f a))=true):
  b3 call ag H low (.xe es bytes dr fH)=some (bb es f z,H,low):=by
 show step ag H low (.xe es bytes dr fH)=_;have hfz:cg (y.l.map f)=true:=tq hp _;have qZ:=wi hc y.l;simp only[step,hb,wh,hfz];unfold gn at hs;by_cases hy:y.l=[]
 ·rw[if_pos hy]at hs
  cases hs;rw[ha,hy];rcases he with rfl|rfl<;>simp[bb]
 ·rw[if_neg hy]at hs
  split at hs
  ·rename_i ec
   cases hs
   have aZ:(y.l.map f).isEmpty=false:=by cases wj:y.l with
    |nil=>exact absurd wj hy
    |cons=>rfl
   have dY:s.l=[]:=by rcases he with rfl|rfl<;>rfl
   have n9:(y.l.map f).length*(bytes+1)<=2^40:=by simpa[dY]using ec
   rw[ha];rcases he with rfl|rfl<;>simp only[bb,aZ,qZ,n9,fE,if_false,and_self,if_true,Bool.true_eq_false,dY,iM]
  ·cases hs
end Go.Abs
namespace Go.Abs.hq
open Go Go.Abs
inductive aL (ax:Nat->Type):Type where
 |int (k:IntKind) (n:Int)
 |cX (b:Bool)
 |bo (i:Nat) (neg:Bool)
 |str (s:cf)
 |sl (t:Nat) (s:ad (ax t))
 |k (v:V)
 |agg (vs:List (aL ax))
 |aU (vs:List (aL ax))
 |dH (vs:List (aL ax)) (f:Nat)
 |ptr (o off:Nat)
 |row (o:Nat)
 |jq (o:Nat) (n:Int) (f:Nat)
 |ll (o:Nat) (a b:Int)
 |fn (i:Nat) (caps:List (aL ax))
 |fv (j:Nat)
 |ln
structure iI where
 ax:Nat->Type
 es:Nat->Nat
 enc:(t:Nat)->ax t->V
 gZ:(t:Nat)->ax t->Nat->aL ax
 xY:(t:Nat)->ax t->List Bool
 iJ:(t:Nat)->aL ax->List Bool->Option (ax t)
 aY:Nat->Bool
 cl:Nat->Option Nat
 beq:(t:Nat)->ax t->ax t->Bool
 mp:Nat->Option (Nat × Nat)
 aa1:∀c p,mp c=some p->ax c=List (ax p.1 × ax p.2)
section
variable (J:iI)(B:List Bool)(ρ:List V)(fs:List V)
inductive Ag:V->Nat->Nat->V->Prop
 |row (l es N a b:Nat) (h:a<b):Ag (.ca l es 0 N N) a b (.ca l es a (b-a) N)
 |aa2 (l es N a:Nat):Ag (.ca l es 0 N N) a a (.list es [])
 |nil:Ag .bX 0 0 .bX
 |emp:Ag .emp 0 0 .emp
mutual
inductive bS:aL J.ax->V->Prop
 |int {k:IntKind} {n:Int}:bS (.int k n) (.int k n)
 |cX {b:Bool}:bS (.cX b) (.bool b)
 |bo {i:Nat} {b neg:Bool} (h:B[i]? =some b):bS (.bo i neg) (.bool (b != neg))
 |str {s:cf}:bS (.str s) (.str s)
 |sl {t:Nat} {s:ad (J.ax t)}:bS (.sl t s) (bb (J.es t) (J.enc t) s)
 |k {v:V}:bS (.k v) v
 |agg {vs:List (aL J.ax)} {ws:List V} (h:bu vs ws):bS (.agg vs) (.agg ws)
 |aU {vs:List (aL J.ax)} {ws:List V} (h:bu vs ws):bS (.aU vs) (.aU ws)
 |dH {vs:List (aL J.ax)} {ws:List V} {f:Nat} (h:bu vs ws):bS (.dH vs f) (.dH ws f)
 |ptr {o off a:Nat} (h:ρ[o]? =some (.ptr a 0)):bS (.ptr o off) (.ptr a off)
 |row {o:Nat} {v:V} (h:ρ[o]? =some v):bS (.row o) v
 |jq {o f l es N:Nat} {n:Int} (h:ρ[o]? =some (.ca l es 0 N N)):bS (.jq o n f) (.gW l es n.toNat f N)
 |ll {o:Nat} {a b:Int} {v w:V} (h:ρ[o]? =some v) (hw:Ag v a.toNat b.toNat w):bS (.ll o a b) w
 |fn {i:Nat} {cs:List (aL J.ax)} {ws:List V} (h:bu cs ws):bS (.fn i cs) (.fn i [] ws)
 |fv {j:Nat} {v:V} (h:fs[j]? =some v):bS (.fv j) v
 |ln {v:V}:bS .ln v
inductive bu:List (aL J.ax)->List V->Prop
 |nil:bu [] []
 |cons {v:aL J.ax} {w:V} {vs:List (aL J.ax)} {ws:List V} (h:bS v w) (r:bu vs ws):bu (v::vs) (w::ws)
end
end
section
variable{J:iI}{B tw:List Bool}{ρ cH fs:List V}
theorem lK{α:Type}{l fc:List α}(h:l <+: fc){i:Nat}{a:α}(hi:l[i]? =some a):fc[i]? =some a:=by
 obtain⟨t,rfl⟩:=h;rw[fB (e0.1 hi).1];exact hi
mutual
theorem bS.mono (cQ:B <+: tw)(aN:ρ <+: cH):∀{v:aL J.ax} {w:V},bS J B ρ fs v w->bS J tw cH fs v w
 | _,_,.int=>.int
 | _,_,.cX=>.cX
 | _,_,.bo h=>.bo (lK cQ h)
 | _,_,.str=>.str
 | _,_,.sl=>.sl
 | _,_,.k=>.k
 | _,_,.agg h=>.agg (bu.mono cQ aN h)
 | _,_,.aU h=>.aU (bu.mono cQ aN h)
 | _,_,.dH h=>.dH (bu.mono cQ aN h)
 | _,_,.ptr h=>.ptr (lK aN h)
 | _,_,.row h=>.row (lK aN h)
 | _,_,.jq h=>.jq (lK aN h)
 | _,_,.ll h q=>.ll (lK aN h) q
 | _,_,.fn h=>.fn (bu.mono cQ aN h)
 | _,_,.fv h=>.fv h
 | _,_,.ln=>.ln
theorem bu.mono (cQ:B <+: tw)(aN:ρ <+: cH):∀{vs:List (aL J.ax)} {ws:List V},bu J B ρ fs vs ws->bu J tw cH fs vs ws
 | _,_,.nil=>.nil
 | _,_,.cons h r=>.cons (bS.mono cQ aN h) (bu.mono cQ aN r)
end
mutual
theorem bS.back (cQ:B <+: tw)(aN:ρ <+: cH):∀{v:aL J.ax} {w w':V},bS J B ρ fs v w->bS J tw cH fs v w'->bS J B ρ fs v w'
 | _,_,_,.int,.int=>.int
 | _,_,_,.cX,.cX=>.cX
 | _,_,_,.bo h,.bo h'=>by
   have:=lK cQ h;rw[h']at this;cases this;exact .bo h
 | _,_,_,.str,.str=>.str
 | _,_,_,.sl,.sl=>.sl
 | _,_,_,.k,.k=>.k
 | _,_,_,.agg h,.agg h'=>.agg (bu.back cQ aN h h')
 | _,_,_,.aU h,.aU h'=>.aU (bu.back cQ aN h h')
 | _,_,_,.dH h,.dH h'=>.dH (bu.back cQ aN h h')
 | _,_,_,.ptr h,.ptr h'=>by
   have:=lK aN h;rw[h']at this;cases this;exact .ptr h
 | _,_,_,.row h,.row h'=>by
   have:=lK aN h;rw[h']at this;cases this;exact .row h
 | _,_,_,.jq h,.jq h'=>by
   have:=lK aN h;rw[h']at this;cases this;exact .jq h
 | _,_,_,.ll h _,.ll h' q=>by
   have:=lK aN h;rw[h']at this;cases this;exact .ll h q
 | _,_,_,.fn h,.fn h'=>.fn (bu.back cQ aN h h')
 | _,_,_,.fv h,.fv h'=>.fv h'
 | _,_,_,.ln,.ln=>.ln
theorem bu.back (cQ:B <+: tw)(aN:ρ <+: cH):∀{vs:List (aL J.ax)} {ws eK:List V},bu J B ρ fs vs ws->bu J tw cH fs vs eK->bu J B ρ fs vs eK
 | _,_,_,.nil,.nil=>.nil
 | _,_,_,.cons h r,.cons h' mS=>.cons (bS.back cQ aN h h') (bu.back cQ aN r mS)
end
theorem bu.length{vs:List (aL J.ax)}{ws:List V}:bu J B ρ fs vs ws->vs.length=ws.length
 | .nil=>rfl
 | .cons _ r=>by simp[r.length]
theorem bu.get{vs:List (aL J.ax)}{ws:List V}:bu J B ρ fs vs ws->∀{i:Nat} {v:aL J.ax},vs[i]? =some v->∃w,ws[i]? =some w/\bS J B ρ fs v w
 | .nil,_,_,h=>by simp at h
 | .cons h r,0,_,e=>by simp at e;subst e;exact⟨_,rfl,h⟩
 | .cons h r,i+1,_,e=>by
   simp at e;obtain⟨w,ab,aj⟩:=r.get e;exact⟨w,by simpa using ab,aj⟩
theorem bu.drop{vs:List (aL J.ax)}{ws:List V}:bu J B ρ fs vs ws->∀i,bu J B ρ fs (vs.drop i) (ws.drop i)
 | .nil,i=>by cases i<;>exact .nil
 | .cons h r,0=>.cons h r
 | .cons h r,i+1=>r.drop i
theorem bu.take{vs:List (aL J.ax)}{ws:List V}:bu J B ρ fs vs ws->∀i,bu J B ρ fs (vs.take i) (ws.take i)
 | .nil,i=>by cases i<;>exact .nil
 | .cons h r,0=>.nil
 | .cons h r,i+1=>.cons h (r.take i)
theorem bu.set{vs:List (aL J.ax)}{ws:List V}:bu J B ρ fs vs ws->∀(i:Nat) {v:aL J.ax} {w:V},bS J B ρ fs v w->bu J B ρ fs (vs.set i v) (ws.set i w)
 | .nil,i,_,_,_=>by cases i<;>exact .nil
 | .cons h r,0,_,_,h'=>.cons h' r
 | .cons h r,i+1,_,_,h'=>.cons h (r.set i h')
theorem bu.app{vs vs':List (aL J.ax)}{ws eK:List V}:bu J B ρ fs vs ws->bu J B ρ fs vs' eK->bu J B ρ fs (vs++vs') (ws++eK)
 | .nil,h=>h
 | .cons h r,h'=>.cons h (r.app h')
end
structure gj (J:iI):Prop where
 gZ:∀(t:Nat) (x:J.ax t) (B:List Bool) (ρ fs:List V),bS J (B++J.xY t x) ρ fs (J.gZ t x B.length) (J.enc t x)
 iJ:∀(t:Nat) (v:aL J.ax) (B:List Bool) (ρ fs:List V) (w:V) (x:J.ax t),bS J B ρ fs v w->J.iJ t v B=some x->w=J.enc t x
 bx:∀(t:Nat) (x:J.ax t),bx (J.enc t x)=true
 ok:∀(t:Nat) (x:J.ax t),bM (aE (J.enc t x))=true
 es:∀(t:Nat) (x:J.ax t),(aE (J.enc t x)).length=J.es t
 aY:∀(t:Nat) (x:J.ax t),J.aY t=true->flat (J.enc t x)=true
 aa3:∀(t n:Nat),J.cl t=some n->∀a c:J.ax t,ix n (J.enc t a) (J.enc t c)=some (J.beq t a c)
def bc{α:Type}:List (Nat × α)->Nat->Option α
 |[],_=>none
 |(k,a)::r,t=>match Nat.beq k t with
  |true=>some a
  |false=>bc r t
def nth{α:Type}:List α->Nat->Option α
 |[],_=>none
 |a::_,0=>some a
 | _::r,n+1=>nth r n
theorem wC{α:Type}:∀(l:List α) (n:Nat),nth l n=l[n]?
 |[],_=>by simp[nth]
 | _::_,0=>rfl
 | _::r,n+1=>by simp[nth,wC r n]
theorem fT{α:Type}(k t:Nat)(a:α)(r:List (Nat × α)):bc ((k,a)::r) t=if k=t then some a else bc r t:=by
 simp only[bc];cases hb:Nat.beq k t with
 |true=>rw[if_pos (ey hb)]
 |false=>rw[if_neg (fun e=>by rw[e,yI]at hb;cases hb)]
theorem CT{α:Type}(l r:List (Nat × α))(t:Nat):bc (l++r) t=match bc l t with
  |some a=>some a
  |none=>bc r t:=by
 induction l with
 |nil=>rfl
 |cons p l ih=>
  obtain⟨k,a⟩:=p;rw[lN,fT,fT];by_cases e:k=t
  ·rw[if_pos e,if_pos e]
  ·rw[if_neg e,if_neg e];exact ih
def mem (t:Nat):List Nat->Bool
 |[]=>false
 |k::r=>match Nat.beq k t with
  |true=>true
  |false=>mem t r
theorem mem_iff (t:Nat):∀l:List Nat,mem t l=true↔t∈l
 |[]=>by simp[mem]
 |k::r=>by
  simp only[mem,dp];cases hb:Nat.beq k t with
  |true=>simp[ey hb]
  |false=>
   have:¬t=k:=fun e=>by rw[e,yI]at hb;cases hb
   simp[this,mem_iff t r]
end Go.Abs.hq
namespace Go.Abs.hq
open Go Go.Abs
inductive b8 (J:iI) where
 |cells (w:Bool) (cs:List (aL J.ax))
 |row (t:Nat) (s:ad (J.ax t))
 |fz (t:Nat) (s:ad (J.ax t))
 |mp (k w:Nat) (m:List (J.ax k × J.ax w))
structure bp (J:iI) where
 vs:List (Nat × aL J.ax)
 mem:List (Nat × b8 J)
 aB:Nat
 aH:List Bool
 dK:List (Nat × Bool)
 dE:List Nat
 cA:List (Nat × Nat)
section
variable{J:iI}
class aG (A:Type) where
 bad:A
 br:Nat->Bool->A->A->A
 ct:{α:Type}->Option α->(α->A)->A
instance{R:Type}:aG (Option R):=⟨none,fun _ c x y=>bif c then x else y,fun o f=>o.bind f⟩
inductive pD (A:Type) where
 |leaf (a:A)
 |br (i:Nat) (c:Bool) (t e:pD A)
 |bad
instance{R:Type}:aG (pD R):=⟨.bad,.br,fun _ _=>.bad⟩
mutual
def Gd:V->aL J.ax
 | .bool b=>.cX b
 | .int k n=>.int k n
 | .str s=>.str s
 | .agg vs=>.agg (CU vs)
 |v=>.k v
def CU:List V->List (aL J.ax)
 |[]=>[]
 |v::r=>Gd v::CU r
end
def sr:aL J.ax->Option (List (aL J.ax))
 | .agg vs=>some vs
 | .ln| .fv _| .aU _| .row _| .jq .. | .ll .. =>none
 | .k v=>match v with
   | .agg _=>none
   |v=>some [.k v]
 |v=>some [v]
def Kx:aL J.ax->Bool
 | .int .. | .cX _| .bo .. | .str _| .sl .. | .ptr .. | .fn .. =>true
 | .k v=>ez v
 | _=>false
def Ge:List (aL J.ax)->Bool
 |[]=>true
 |v::r=>match Kx v with
  |true=>Ge r
  |false=>false
abbrev kJ (J:iI):=List (Nat × aL J.ax)
def ag (aq:kJ J)(s:bp J):ai->Option (aL J.ax)
 | .tmp t=>bc aq t
 | .var t=>bc s.vs t
 | .const v=>some (Gd v)
 | .func i=>some (.fn i [])
def wD (aq:kJ J)(s:bp J):List ai->Option (List (aL J.ax))
 |[]=>some []
 |x::r=>match ag aq s x with
  |some v=>match wD aq s r with
   |some l=>some (v::l)
   |none=>none
  |none=>none
def split{A:Type}[aG A](s:bp J)(v:aL J.ax)(qm cr:bp J->A):A:=match v with
 | .cX true=>qm s
 | .cX false=>cr s
 | .bo i neg=>match bc s.dK i with
   |some b=>match b,neg with
    |true,false=>qm s
    |false,true=>qm s
    | _,_=>cr s
   |none=>match nth s.aH i with
    |none=>aG.bad
    |some c=>match neg with
     |false=>aG.br i c (qm {s with dK:=(i,true)::s.dK}) (cr {s with dK:=(i,false)::s.dK})
     |true=>aG.br i c (cr {s with dK:=(i,true)::s.dK}) (qm {s with dK:=(i,false)::s.dK})
 | _=>aG.bad
def xZ (s:bp J):aL J.ax->Option Bool
 | .cX b=>some b
 | .bo i neg=>match nth s.aH i with
   |some c=>match neg with
    |false=>some c
    |true=>some (!c)
   |none=>none
 | _=>none
def name{A:Type}[aG A](s:bp J)(c:Bool)(neg:Bool)(k:aL J.ax->bp J->A):A:=k (.bo s.aH.length neg) {s with aH:=s.aH++[c]}
def elem{A:Type}[aG A](t:Nat)(x:J.ax t)(s:bp J)(k:aL J.ax->bp J->A):A:=k (J.gZ t x s.aH.length) {s with aH:=s.aH++J.xY t x}
def cut (cs:List (aL J.ax))(off:Nat):Option Nat->Option (aL J.ax)
 |none=>nth cs off
 |some n=>match Nat.ble (off+n) cs.length with
  |true=>some (.agg ((cs.drop off).take n))
  |false=>none
def uG (cs:List (aL J.ax))(o:Nat):List (aL J.ax)->List (aL J.ax)
 |[]=>cs
 |x::xs=>uG (cs.set o x) (o+1) xs
def bin{A:Type}[aG A](s:bp J)(op:BinOp)(k:aL J.ax->bp J->A)(x y:aL J.ax):A:=match x,y with
 | .int bP a,.int Gf c=>match decide (bP=Gf)with
   |false=>aG.bad
   |true=>match op with
    | .add=>k (.int bP (bP.wrap (a+c))) s
    | .sub=>k (.int bP (bP.wrap (a-c))) s
    | .mul=>k (.int bP (bP.wrap (a*c))) s
    | .eql=>name s (a==c) false k
    | .neq=>name s (a != c) false k
    | .lss=>name s (decide (a<c)) false k
    | .leq=>name s (decide (a<=c)) false k
    | .gtr=>name s (decide (a>c)) false k
    | .geq=>name s (decide (a>=c)) false k
    | .and=>k (.int bP (bP.wrap ((BitVec.ofInt bP.bits a &&& BitVec.ofInt bP.bits c).toNat))) s
    | .quo=>match bP with
      | .i64=>aG.ct (E9 a c) fun q=>k (.int .i64 q) s
      | _=>aG.bad
    | .rem=>match bP with
      | .i64=>aG.ct (Fa a c) fun q=>k (.int .i64 q) s
      | _=>aG.bad
    | _=>aG.bad
 | .str a,.str c=>match op with
   | .add=>aG.ct (ZZ a c) fun q=>k (.str q) s
   | .eql=>name s (a==c) false k
   | .neq=>name s (a != c) false k
   | _=>aG.bad
 | _,_=>aG.bad
def Qk{A:Type}[aG A](s:bp J)(op:BinOp)(k:aL J.ax->bp J->A)(x:aL J.ax)(q6:IntKind)(c:Int):A:=match x with
 | .int bP a=>match op with
   | .shl=>match decide (0<=c/\c.toNat<=bP.bits)with
     |true=>k (.int bP (bP.wrap (a*2^c.toNat))) s
     |false=>aG.bad
   | .shr=>match decide (0<=c/\c.toNat<=bP.bits)with
     |true=>k (.int bP (a/2^c.toNat)) s
     |false=>aG.bad
   | .quo=>match decide (bP=q6/\0<c)with
     |true=>k (.int bP (bP.wrap (a.tdiv c))) s
     |false=>aG.bad
   | .rem=>match decide (bP=q6/\0<c)with
     |true=>k (.int bP (a.tmod c)) s
     |false=>aG.bad
   |op=>bin s op k x (.int q6 c)
 | _=>bin s op k x (.int q6 c)
def uH (s:bp J):List Nat->List (aL J.ax)->List (aL J.ax)->Option Bool
 |[],[],[]=>some true
 |n::ks,x::xs,y::cB=>match uH s ks xs cB with
  |none=>none
  |some e=>match n,x,y with
   |0,.int k a,.int bz c=>match decide (k=bz)with
    |true=>some ((a==c)&&e)
    |false=>none
   |1,.str a,.str c=>some ((a==c)&&e)
   |2,x,y=>match xZ s x,xZ s y with
    |some a,some c=>some ((a==c)&&e)
    | _,_=>none
   | _,_,_=>none
 | _,_,_=>none
def Ky (z:List (aL J.ax))(aq:kJ J)(s:bp J):List (Nat × Nat × ai)->Option (List (aL J.ax))
 |[]=>some z
 |(off,n,x)::r=>match ag aq s x with
  |none=>none
  |some v=>match sr v with
   |none=>none
   |some cs=>match Nat.beq cs.length n,Nat.ble (off+n) z.length,Ge cs with
    |true,true,true=>Ky (uG z off cs) aq s r
    | _,_,_=>none
def Kz:Nat->List (Nat × ai)->Bool
 | _,[]=>true
 |n,p::r=>match Nat.beq p.1 n with
  |true=>Kz (n+1) r
  |false=>false
def KA (t:Nat)(B:List Bool):List (aL J.ax)->Option (List (J.ax t))
 |[]=>some []
 |v::r=>match J.iJ t v B with
  |none=>none
  |some x=>match KA t B r with
   |none=>none
   |some l=>some (x::l)
def ev{ax:Nat->Type}(t:Nat):aL ax->Option (ad (ax t))
 | .sl ej s=>if h:ej=t then some (h ▸ s)else none
 | .k .bX=>some .nil
 | .k .emp=>some .emp
 | _=>none
def aa4 (z:List V):aL J.ax:=match z with
 |[v]=>Gd v
 |z=>.agg (CU z)
def KB (k w:Nat)(m:List (J.ax k × J.ax w))(x:J.ax k):Option (J.ax w):=@ie _ _ ⟨J.beq k⟩ m x
def apd (k w:Nat)(m:List (J.ax k × J.ax w))(x:J.ax k)(y:J.ax w):List (J.ax k × J.ax w):=@lF _ _ ⟨J.beq k⟩ m x y
def kindOf (k:Nat)(n:Nat):Bool:=match J.cl k with
 |some m=>Nat.beq m n
 |none=>false
def ss:aL J.ax->Option (aL J.ax)
 | .k .bX=>some (.k .bX)
 | .k .emp=>some (.k .emp)
 | .sl _ .nil=>some (.k .bX)
 | .sl _ .emp=>some (.k .emp)
 | _=>none
def Gg{A:Type}[aG A](aq:kJ J)(s:bp J)(ty:Option Nat)(k:aL J.ax->bp J->A):cN->A
 | .mv x=>match ag aq s x with
   |some v=>k v s
   |none=>aG.bad
 | .pick c a b=>match ag aq s c with
   |some c=>split s c (fun s=>match ag aq s a with|some v=>k v s|none=>aG.bad) (fun s=>match ag aq s b with|some v=>k v s|none=>aG.bad)
   |none=>aG.bad
 | .build z parts=>match Ky (CU z) aq s parts with
   |some cs=>k (.agg cs) s
   |none=>aG.bad
 | .lit es z len parts ju=>match ty,ju with
   |some t,true=>match wD aq s (parts.map Prod.snd)with
    |none=>aG.bad
    |some vs=>match KA t s.aH vs,Kz 0 parts,Nat.beq vs.length len,Nat.beq (J.es t) es with
     |some l,true,true,true=>match l with
      |[]=>k (.sl t .emp) s
      |l=>k (.sl t (.mk l)) s
     | _,_,_,_=>aG.bad
   | _,_=>aG.bad
 | .load sh x=>match ag aq s x with
   |some (.dH cs f)=>match cut cs f sh with
    |some v=>k v s
    |none=>aG.bad
   |some (.ptr o f)=>match bc s.mem o with
    |some (.cells _ cs)=>match cut cs f sh with
     |some v=>k v s
     |none=>aG.bad
    | _=>aG.bad
   |some (.jq o n f)=>match bc s.mem o with
    |some (.row t a)=>aG.ct (bj a.l n) fun e=>elem t e s fun v s=>match sr v with
     |some cs=>match cut cs f sh with
      |some v=>k v s
      |none=>aG.bad
     |none=>aG.bad
    | _=>aG.bad
   | _=>aG.bad
 | .nilCheck x=>match ag aq s x with
   |some (.ptr o f)=>k (.ptr o f) s
   |some (.dH cs f)=>k (.dH cs f) s
   |some (.fn i cs)=>k (.fn i cs) s
   |some (.jq o n f)=>k (.jq o n f) s
   | _=>aG.bad
 | .bin op x (.const (.int q6 c))=>match ag aq s x with
   |some v=>Qk s op k v q6 c
   |none=>aG.bad
 | .bin op x y=>match ag aq s x,ag aq s y with
   |some v,some w=>bin s op k v w
   | _,_=>aG.bad
 | .yK neg ks x y=>match ag aq s x,ag aq s y with
   |some (.agg a),some (.agg c)=>match uH s ks a c with
    |some e=>name s e neg k
    |none=>aG.bad
   | _,_=>aG.bad
 | .rF kind neg x y=>match ag aq s x,ag aq s y with
   |some v,some w=>match kind,v,w with
    |1,.sl _ a,.k .bX=>name s a.isNil neg k
    |4,v,w=>match xZ s v,xZ s w with
     |some a,some c=>name s (a==c) neg k
     | _,_=>aG.bad
    | _,_,_=>aG.bad
   | _,_=>aG.bad
 | .un op x=>match op,ag aq s x with
   | .not,some (.cX b)=>k (.cX (!b)) s
   | .not,some (.bo i neg)=>k (.bo i (!neg)) s
   | .neg,some (.int bP n)=>k (.int bP (bP.wrap (0-n))) s
   | _,_=>aG.bad
 | .conv bP x=>match ag aq s x with
   |some (.int _ n)=>k (.int bP (bP.wrap n)) s
   | _=>aG.bad
 | .u6 mx x y=>match ag aq s x,ag aq s y with
   |some (.int bP a),some (.int Gf c)=>match decide (bP=Gf)with
    |true=>match mx with
     |true=>k (.int bP (max a c)) s
     |false=>k (.int bP (min a c)) s
    |false=>aG.bad
   | _,_=>aG.bad
 | .ua i [] cs=>match wD aq s cs with
   |some vs=>k (.fn i vs) s
   |none=>aG.bad
 | .fieldAddr off x=>match ag aq s x with
   |some (.ptr o f)=>k (.ptr o (f+off)) s
   |some (.dH cs f)=>k (.dH cs (f+off)) s
   |some (.jq o n f)=>k (.jq o n (f+off)) s
   | _=>aG.bad
 | .field off sh x=>match ag aq s x with
   |some (.agg cs)=>match cut cs off sh with
    |some v=>k v s
    |none=>aG.bad
   | _=>aG.bad
 | .extract x i=>match ag aq s x with
   |some (.aU vs)=>match nth vs i with
    |some v=>k v s
    |none=>aG.bad
   | _=>aG.bad
 | .len kind x=>match kind,ag aq s x with
   |0,some (.str a)=>k (.int .i64 (a.length:Int)) s
   |1,some (.sl _ a)=>k (.int .i64 a.len) s
   |1,some (.row o)=>match bc s.mem o with
    |some (.row _ a)=>k (.int .i64 a.len) s
    | _=>aG.bad
   |2,some (.row o)=>match bc s.mem o with
    |some (.mp _ _ m)=>k (.int .i64 (m.length:Int)) s
    | _=>aG.bad
   |1,some (.k .bX)=>k (.int .i64 0) s
   |1,some (.k .emp)=>k (.int .i64 0) s
   | _,_=>aG.bad
 | .indexAddr es x i=>match ag aq s x,ag aq s i with
   |some (.sl t a),some (.int _ n)=>match Nat.beq (J.es t) es with
    |true=>aG.ct (bj a.l n) fun e=>elem t e s fun v s=>match sr v with
     |some cs=>k (.dH cs 0) s
     |none=>aG.bad
    |false=>aG.bad
   |some (.row o),some (.int _ n)=>match bc s.mem o with
    |some (.row t a)=>match Nat.beq (J.es t) es with
     |true=>aG.ct (bj a.l n) fun _=>k (.jq o n 0) s
     |false=>aG.bad
    | _=>aG.bad
   | _,_=>aG.bad
 | .rG x i=>match ag aq s x,ag aq s i with
   |some (.str a),some (.int _ n)=>aG.ct (bj a n) fun c=>k (.int .u8 (c.toNat:Int)) s
   | _,_=>aG.bad
 | .qB x lo hi=>match ag aq s x with
   |some (.str a)=>match lo.map (ag aq s),hi.map (ag aq s)with
    |none,none=>aG.ct (ql a 0 (a.length:Int)) fun q=>k (.str q) s
    |some (some (.int .i64 n)),none=>aG.ct (ql a n (a.length:Int)) fun q=>k (.str q) s
    |none,some (some (.int .i64 m))=>aG.ct (ql a 0 m) fun q=>k (.str q) s
    |some (some (.int .i64 n)),some (some (.int .i64 m))=>aG.ct (ql a n m) fun q=>k (.str q) s
    | _,_=>aG.bad
   | _=>aG.bad
 | .lookup kind z x i ok=>match ag aq s x,ag aq s i with
   |some (.row o),some v=>match bc s.mem o with
    |some (.mp eB j7 m)=>match J.iJ eB v s.aH,J.iJ j7 (Gd z) s.aH,kindOf (J:=J) eB kind with
     |some x,some z,true=>match ok with
      |false=>elem j7 ((KB eB j7 m x).getD z) s k
      |true=>elem j7 ((KB eB j7 m x).getD z) s fun v s=>name s (KB eB j7 m x).isSome false fun b s=>k (.aU [v,b]) s
     | _,_,_=>aG.bad
    | _=>aG.bad
   | _,_=>aG.bad
 | .sI es x lo hi none=>match ag aq s x with
   |some (.row o)=>match bc s.mem o with
    |some (.row t a)=>match Nat.beq (J.es t) es with
     |true=>match lo.map (ag aq s),hi.map (ag aq s)with
      |some (some (.int .i64 n)),none=>aG.ct (lZ a n a.len) fun _=>k (.ll o n a.len) s
      |none,some (some (.int .i64 m))=>aG.ct (lZ a 0 m) fun _=>k (.ll o 0 m) s
      | _,_=>aG.bad
     |false=>aG.bad
    | _=>aG.bad
   |some (.sl t a)=>match Nat.beq (J.es t) es with
    |true=>match lo.map (ag aq s),hi.map (ag aq s)with
     |none,none=>aG.ct (lZ a 0 a.len) fun q=>k (.sl t q) s
     |some (some (.int .i64 n)),none=>aG.ct (lZ a n a.len) fun q=>k (.sl t q) s
     |none,some (some (.int .i64 m))=>aG.ct (lZ a 0 m) fun q=>k (.sl t q) s
     |some (some (.int .i64 n)),some (some (.int .i64 m))=>aG.ct (lZ a n m) fun q=>k (.sl t q) s
     | _,_=>aG.bad
    |false=>aG.bad
   | _=>aG.bad
 | .xe es bytes a b=>match ag aq s a,ag aq s b with
   |some x,some (.sl t y)=>match Nat.beq (J.es t) es,ss x with
    |true,some (.k .bX)=>aG.ct (gn bytes .nil y) fun z=>k (.sl t z) s
    |true,some (.k .emp)=>aG.ct (gn bytes .emp y) fun z=>k (.sl t z) s
    | _,_=>aG.bad
   | _,_=>aG.bad
 | _=>aG.bad
end
end Go.Abs.hq
