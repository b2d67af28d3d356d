/- Texts of this claim, joined and written short by a program. -/
import Derived.Test.YtemakagmboeodaaGreatDoorP18
import Derived.Test.YtemakagmboeodaaGreatDoorP00
set_option linter.unusedVariables false
set_option linter.unusedSimpArgs false
set_option linter.unusedSectionVars false
namespace Go.Abs
open Go
inductive jg (call:cj) (ms:bV):List bl->bt->bt->bt->bt->Prop
 |nil {aj σ:bt}:jg call ms [] aj σ aj σ
 |step {o:bl} {rest:List bl} {aj σ aM bn:bt} {v:V} (hw:eF aj σ o.guard=some true) (h:∀H,Own H ms->bK call (ba aj σ) H H.length o.op=some (v,H,H.length)) (k:jg call ms rest (fq aj o.dst v) (fr σ o.dst v) aM bn):jg call ms (o::rest) aj σ aM bn
 |skip {o:bl} {rest:List bl} {aj σ aM bn:bt} (hw:eF aj σ o.guard=some false) (k:jg call ms rest (fq aj o.dst (.aR [])) (fr σ o.dst (.aR [])) aM bn):jg call ms (o::rest) aj σ aM bn
section
variable{call:cj}{ms:bV}{d:Option (Nat × Bool)}{op:b8}{rest:List bl}{aj σ aM bn:bt}{t:ah}{β w:Bool}
theorem jg.pE (c:β=false)(k:jg call ms rest (fq aj d (.aR [])) (fr σ d (.aR [])) aM bn)(ht:ba aj σ t=.bool β:=by exact rfl):jg call ms (⟨d,op,some (t,true)⟩::rest) aj σ aM bn:=.skip (BA ht c) k
theorem jg.qP (c:β=true)(k:jg call ms rest (fq aj d (.aR [])) (fr σ d (.aR [])) aM bn)(ht:ba aj σ t=.bool β:=by exact rfl):jg call ms (⟨d,op,some (t,false)⟩::rest) aj σ aM bn:=.skip (BB ht c) k
end
theorem Gx (v:V):de v v=true:=by
 have key:(∀v,de v v=true)/\(∀vs,hX vs vs=true):=by
  refine⟨fun v=> ?_,fun vs=> ?_⟩
  ·exact V.rec (motive_1:=fun v=>de v v=true) (motive_2:=fun vs=>hX vs vs=true)
    (by simp[de]) (by simp[de]) (by simp[de]) rfl rfl (by intro e ds h;simp[de,h]) (by intro vs h;simpa[de]using h) (by intro vs h;simpa[de]using h) rfl (by simp[de]) (by simp[de])
    (by intro vs f h;simp[de,h]) (by simp[de]) rfl (by simp[de]) rfl (by intro i a b h1 h2;simp[de,h1,h2]) (by simp[de]) rfl (by intro t v h;simp[de,h]) rfl rfl (by intro a r h1 h2;simp[hX,h1,h2]) v
  ·exact V.rec_1 (motive_1:=fun v=>de v v=true) (motive_2:=fun vs=>hX vs vs=true)
    (by simp[de]) (by simp[de]) (by simp[de]) rfl rfl (by intro e ds h;simp[de,h]) (by intro vs h;simpa[de]using h) (by intro vs h;simpa[de]using h) rfl (by simp[de]) (by simp[de])
    (by intro vs f h;simp[de,h]) (by simp[de]) rfl (by simp[de]) rfl (by intro i a b h1 h2;simp[de,h1,h2]) (by simp[de]) rfl (by intro t v h;simp[de,h]) rfl rfl (by intro a r h1 h2;simp[hX,h1,h2]) vs
 exact key.1 v
theorem yT{call:cj}:∀{ops:List bl} {st aV:au} {wr ep:List Bool},cX call ops st wr=some (aV,ep)->∃cg,ee call ops st=some cg
 |[],st,_,_,_,_=>⟨[st],rfl⟩
 |o::r,st,aV,wr,ep,h=>by
  simp only[cX]at h;simp only[ee];split at h
  ·split at h
   ·obtain⟨cg,e⟩:=yT h
    exact⟨_,by rw[e];rfl⟩
   ·cases h
  ·obtain⟨cg,e⟩:=yT h
   exact⟨_,by rw[e];rfl⟩
  ·cases h
theorem jg.run{call:cj}{ms:bV}:∀{A:List bl} {aj σ aM bn:bt},jg call ms A aj σ aM bn->∀{aH ax:Env} {H:Heap} {low b:Nat} {wr:List Bool} (B:List bl),Fits aH aj->Fits ax σ->Own H ms->b<=low->b<=H.length->
  ∃gL dQ low',Fits gL aM/\Fits dQ bn/\b<=low'/\cX call (A++B) ⟨aH,ax,H,low,none⟩ wr=cX call B ⟨gL,dQ,H,low',none⟩ (List.replicate A.length false++wr)/\
   ∀cg,ee call (A++B) ⟨aH,ax,H,low,none⟩=some cg->∃hI jh,cg=hI++jh/\hI.length=A.length/\ee call B ⟨gL,dQ,H,low',none⟩=some jh/\
    ∀H',Own H' ms->∀p∈A.zip hI,gF call (p.1,p.2,H')=true
 |[],aj,σ,_,_,.nil,aH,ax,H,low,b,wr,B,h1,h2,_,hb,_=>⟨aH,ax,low,h1,h2,hb,rfl,fun cg h=>⟨[],cg,rfl,rfl,h,fun _ _ p hp=>by cases hp⟩⟩
 |o::A,aj,σ,aM,bn,.step (v:=v) hw h k,aH,ax,H,low,b,wr,B,h1,h2,hO,hb,eN=>by
  obtain⟨kW,kX,ae,ai,bz⟩:=uo h1 h2 H (min low H.length) o.dst v;obtain⟨gL,dQ,low',f1,f2,f0,f3,f4⟩:=k.run (b:=b) (low:=min low H.length) (wr:=false::wr) B ai bz hO (by omega) eN;have gB:=hw;rw[<-uq h1 h2]at gB;have hs:=h H hO;rw[<-qK h1 h2]at hs;refine⟨gL,dQ,low',f1,f2,f0,?_,fun cg ht=> ?_⟩
  ·simp only[kE,cX,gB,hs,r5]
   rw[ae,f3];simp only[iN,List.replicate_succ'];rw[jl];rfl
  ·simp only[kE,ee,gB,hs]at ht
   rw[ae]at ht;obtain⟨kp,eE,rfl⟩:=bW.1 ht;obtain⟨hI,jh,rfl,g1,g2,g3⟩:=f4 kp eE;refine⟨_::hI,jh,rfl,by simp[g1],g2,fun H' lB p hp=> ?_⟩;rw[zS]at hp;rcases cY.1 hp with rfl|hp
   ·have qE:=h H' lB
    rw[<-qK h1 h2]at qE;simp only[gF,gB,hs,qE,r5,Bool.not_false,xn,Gx]
   ·exact g3 H' lB p hp
 |o::A,aj,σ,aM,bn,.skip hw k,aH,ax,H,low,b,wr,B,h1,h2,hO,hb,eN=>by
  obtain⟨kW,kX,ae,ai,bz⟩:=uo h1 h2 H low o.dst (.aR []);obtain⟨gL,dQ,low',f1,f2,f0,f3,f4⟩:=k.run (b:=b) (wr:=false::wr) B ai bz hO hb eN;have gB:=hw;rw[<-uq h1 h2]at gB;refine⟨gL,dQ,low',f1,f2,f0,?_,fun cg ht=> ?_⟩
  ·simp only[kE,cX,gB]
   rw[ae,f3];simp only[iN,List.replicate_succ'];rw[jl];rfl
  ·simp only[kE,ee,gB]at ht
   rw[ae]at ht;obtain⟨kp,eE,rfl⟩:=bW.1 ht;obtain⟨hI,jh,rfl,g1,g2,g3⟩:=f4 kp eE;refine⟨_::hI,jh,rfl,by simp[g1],g2,fun H' lB p hp=> ?_⟩;rw[zS]at hp;rcases cY.1 hp with rfl|hp
   ·simp only[gF,gB]
   ·exact g3 H' lB p hp
theorem Own.more{H:Heap}{ms:bV}(h:Own H ms)(X:Heap):Own (H++X) ms:=
 ⟨fun m hm p hp=>by rw[ft (h.lt hm hp)];exact h.1 m hm p hp,h.2⟩
theorem BK (aH ax:Env)(H:Heap)(ro:Option Nat)(d:Option (Nat × Bool))(v:V):∃kW kX,∀l:Nat,au.put ⟨aH,ax,H,l,ro⟩ d v=⟨kW,kX,H,l,ro⟩:=by
 match d with
 |none=>exact⟨aH,ax,fun _=>rfl⟩
 |some (t,true)=>exact⟨aH,dq ax t v,fun _=>rfl⟩
 |some (t,false)=>exact⟨(t,v)::aH,ax,fun _=>rfl⟩
theorem Gy{call:cj}(hc:jM call):∀{B:List bl} {st:au} {cg:List au},st.low<=st.H.length->ee call B st=some cg->∀T∈cg,T.low<=st.low
 |[],st,cg,hl,ht,T,hT=>by
  simp only[ee,ay]at ht;subst ht;simp only[cY,u7,or_false]at hT;subst hT;exact aI _
 |o::r,st,cg,hl,ht,T,hT=>by
  simp only[ee]at ht;split at ht
  ·split at ht
   ·rename_i v H1 bm hs
    obtain⟨t0,h0,rfl⟩:=bW.1 ht;rcases cY.1 hT with rfl|hT
    ·exact aI _
    ·have af:=tK hc (aI _) hs
     have hp:=jt {st with H:=H1,low:=min st.low bm} o.dst v;have:=Gy hc (by rw[hp.1,hp.2.1];have:=af.len;show min st.low bm<=H1.length;omega) h0 T hT;rw[hp.2.1]at this;exact cA this (ig _ _)
   ·cases ht
  ·obtain⟨t0,h0,rfl⟩:=bW.1 ht
   rcases cY.1 hT with rfl|hT
   ·exact aI _
   ·have hp:=jt st o.dst (.aR [])
    have:=Gy hc (by rw[hp.1,hp.2.1];exact hl) h0 T hT;rw[hp.2.1]at this;exact this
  ·cases ht
theorem Gz{call:cj}:∀{B:List bl} {st fin:au} {wr ep:List Bool},cX call B st wr=some (fin,ep)->fin.low<=st.low
 |[],st,fin,wr,ep,h=>by
  simp only[cX,ay,a6]at h;rw[h.1];exact aI _
 |o::r,st,fin,wr,ep,h=>by
  simp only[cX]at h;split at h
  ·split at h
   ·rename_i v H1 bm hs
    have:=Gz h;rw[(jt {st with H:=H1,low:=min st.low bm} o.dst v).2.1]at this;exact cA this (ig _ _)
   ·cases h
  ·have:=Gz h
   rw[(jt st o.dst (.aR [])).2.1]at this;exact this
  ·cases h
theorem GA{call:cj}:∀{B:List bl} {aH ax:Env} {H:Heap} {L:Nat} {ro:Option Nat} {wr ep:List Bool} {fin:au} (fJ:Nat),cX call B ⟨aH,ax,H,L,ro⟩ wr=some (fin,ep)->
  ∃wN,cX call B ⟨aH,ax,H,fJ,ro⟩ wr=some ({fin with low:=wN},ep)/\min fJ fin.low<=wN
 |[],aH,ax,H,L,ro,wr,ep,fin,fJ,h=>by
  simp only[cX,ay,a6]at h;obtain⟨rfl,rfl⟩:=h;exact⟨fJ,rfl,ig _ _⟩
 |o::r,aH,ax,H,L,ro,wr,ep,fin,fJ,h=>by
  simp only[cX]at h⊢;split at h
  ·split at h
   ·rename_i v H1 bm hs
    have ja:=BK aH ax H1 ro o.dst v;obtain⟨kW,kX,hp⟩:=ja;rw[hp]at h⊢;obtain⟨wN,e,hl⟩:=GA (min fJ bm) h;have hx:=Gz h;exact⟨wN,e,by simp only at hx;omega⟩
   ·cases h
  ·have ja:=BK aH ax H ro o.dst (.aR [])
   obtain⟨kW,kX,hp⟩:=ja;rw[hp]at h⊢;exact GA fJ h
  ·cases h
theorem GC{call:cj}:∀{B:List bl} {aH ax:Env} {H:Heap} {L:Nat} {ro:Option Nat} {cg:List au} (fJ:Nat),ee call B ⟨aH,ax,H,L,ro⟩=some cg->
  ∃kp,ee call B ⟨aH,ax,H,fJ,ro⟩=some kp/\kp.map (·.H)=cg.map (·.H)
 |[],aH,ax,H,L,ro,cg,fJ,h=>by
  simp only[ee,ay]at h;subst h;exact⟨_,rfl,rfl⟩
 |o::r,aH,ax,H,L,ro,cg,fJ,h=>by
  simp only[ee]at h⊢;split at h
  ·split at h
   ·rename_i v H1 bm hs
    have ja:=BK aH ax H1 ro o.dst v;obtain⟨kW,kX,hp⟩:=ja;rw[hp]at h⊢;obtain⟨t0,h0,rfl⟩:=bW.1 h;obtain⟨t1,ae,ai⟩:=GC (min fJ bm) h0;exact⟨_,by rw[ae];rfl,by simp[ai]⟩
   ·cases h
  ·have ja:=BK aH ax H ro o.dst (.aR [])
   obtain⟨kW,kX,hp⟩:=ja;rw[hp]at h⊢;obtain⟨t0,h0,rfl⟩:=bW.1 h;obtain⟨t1,ae,ai⟩:=GC fJ h0;exact⟨_,by rw[ae];rfl,by simp[ai]⟩
  ·cases h
theorem GD{call:cj}(hc:jM call):∀{B:List bl} {st fin:au} {wr ep:List Bool} {cg:List au},st.low<=st.H.length->cX call B st wr=some (fin,ep)->ee call B st=some cg->∀T∈cg,fin.low<=T.low/\∀l,l<T.low->T.H[l]? =st.H[l]?
 |[],st,fin,wr,ep,cg,hl,h,ht,T,hT=>by
  simp only[cX,ay,a6]at h;simp only[ee,ay]at ht;obtain⟨rfl,-⟩:=h;subst ht;simp only[cY,u7,or_false]at hT;subst hT;exact⟨aI _,fun _ _=>rfl⟩
 |o::r,st,fin,wr,ep,cg,hl,h,ht,T,hT=>by
  have gY:=(po hc _ _ _ _ _ hl h).1.low;simp only[cX]at h;simp only[ee]at ht;split at h
  ·rename_i hw
   split at h
   ·rename_i v H1 bm hs
    rw[hw]at ht;simp only[hs]at ht;obtain⟨t0,h0,rfl⟩:=bW.1 ht;rcases cY.1 hT with rfl|hT
    ·exact⟨gY,fun _ _=>rfl⟩
    ·have af:=tK hc (aI _) hs
     have hp:=jt {st with H:=H1,low:=min st.low bm} o.dst v
     have vZ:(({st with H:=H1,low:=min st.low bm}:au).put o.dst v).low<=(({st with H:=H1,low:=min st.low bm}:au).put o.dst v).H.length:=by
      rw[hp.1,hp.2.1];have:=af.len;show min st.low bm<=H1.length;omega
     obtain⟨q1,q2⟩:=GD hc vZ h h0 T hT;refine⟨q1,fun l aY=> ?_⟩
     have ai5:T.low<=min st.low bm:=by
      have:=Gy hc vZ h0 T hT;rw[hp.2.1]at this;exact this
     rw[q2 l aY,hp.1];exact af.same l (by omega)
   ·cases h
  ·rename_i hw
   rw[hw]at ht;simp only at ht;obtain⟨t0,h0,rfl⟩:=bW.1 ht;rcases cY.1 hT with rfl|hT
   ·exact⟨gY,fun _ _=>rfl⟩
   ·have hp:=jt st o.dst (.aR [])
    obtain⟨q1,q2⟩:=GD hc (by rw[hp.1,hp.2.1];exact hl) h h0 T hT;refine⟨q1,fun l aY=> ?_⟩;rw[q2 l aY,hp.1]
  ·cases h
theorem Rj{α β:Type}:∀(n:Nat) (l:List α) (r:List β),(l.zip r).take n=(l.take n).zip (r.take n)
 |0,_,_=>by simp
 |n+1,[],_=>by simp
 |n+1,_::_,[]=>by simp
 |n+1,a::l,b::r=>by simp[Rj n l r]
section
variable{ab:Nat->Option bQ}{b:Nat}{σ dA cz:bt}{H:Heap}{Q:X->bt->Heap->Prop}{ms:bV}
theorem GF (ab:Nat->Option bQ):jM (cp ab):=fun f args H v H' low' h=>by
 obtain⟨n,hn⟩:=p9.1 h;exact AM ab n f args H v H' low' hn
theorem acW{ops:List bl}{dw:List Nat}(n:Nat)(hO:Own H ms)(hn:im ops=n)(hA:jg (cp ab) ms (ops.take n) pC σ dA cz)
  (cw:b<=H.length->Op ab H.length (ops.drop n) dA cz H (List.replicate n false) (fun bn H' wr=>rl dw ops wr=true/\Q .normal bn H')):e6 ab b (.region ops (some dw)) σ H Q:=fun ax low h1 h2 aq=>by
 have ai6:n<=ops.length:=by rw[<-hn];exact Fl _ _
 have hlen:(ops.take n).length=n:=by rw[sI];omega
 have l9:ops.take n++ops.drop n=ops:=CX n ops;obtain⟨gL,dQ,low',f1,f2,f0,f3,f4⟩:=hA.run (b:=b) (wr:=[]) (ops.drop n) um h1 hO h2 aq;rw[l9,hlen,lQ]at f3;rw[l9]at f4;obtain⟨ai7,acX,cT,eH,L0,lC,ae,ai,bz,cn,dG,gW⟩:=cw aq gL dQ H.length f1 f2 (aI _) (aI _);obtain⟨wN,g1,g2⟩:=GA low' ae;obtain⟨acY,Rk⟩:=yT ae;have nB:=GD (GF ab) (aI _) ae Rk;rw[<-f3]at g1;obtain⟨cg,lr⟩:=yT g1;obtain⟨hI,jh,rfl,bM,dC,iv⟩:=f4 cg lr;obtain⟨ai8,q1,q2⟩:=GC low' Rk;rw[dC]at q1;cases q1
 have GG:∀T∈jh,Own T.H ms:=fun T hT=>by
  have hm:T.H∈acY.map (·.H):=by rw[<-q2];exact mm hT
  obtain⟨acZ,qs,e⟩:=dn.1 hm;rw[<-e];obtain⟨bq,cc⟩:=nB acZ qs;refine⟨fun m hm p hp=> ?_,hO.2⟩;have aY:=hO.lt hm hp;rw[cc p.1 (by simp only at bq;omega)];exact hO.1 m hm p hp
 have ub:k9 (cp ab) dw ops L0 ⟨[],ax,H,low,none⟩=true:=by
  unfold k9;rw[lr];simp only[dG,Df]
  have fw:(vc ops (hI++jh)).all (gF (cp ab))=true:=by
   unfold vc;rw[eV];intro q a8;simp only[zV,IV]at a8;obtain⟨T,hT,⟨o,s⟩,gg,GH⟩:=a8
   have aP:(ops.zip (hI++jh)).take (im ops)=(ops.take n).zip hI:=by
    rw[hn,Rj,List.take_left' (by rw[bM,hlen])]
   rw[aP]at gg
   have ac0:T∈jh:=by
    have hge:hI.length<=lV ops:=by rw[bM,hlen,<-hn];exact Ld ops
    rw[IY,List.drop_eq_nil_of_le hge,ij]at hT;exact zO hT
   split at GH
   ·cases GH
    exact iv _ (GG T ac0) _ gg
   ·cases GH
  rw[fw];simp
 refine⟨.normal,acX,cT,wN,lC,by rw[od];simp only[g1,ub,Bool.or_true,if_true,au.eu],ai,?_,cA aq cn,gW⟩;simp only at g2;have:=cA aq bz;omega
end
end Go.Abs
namespace Go.Abs
open Go
variable{ab:Nat->Option bQ}
def nO (n es bytes:Nat)(z:List V):gR:=⟨n,.seq (.region [⟨some (2,true),.mv (.const .ak),none⟩] none)
 (.seq (.seq (.region [⟨some (3,false),.mv (.var 0),none⟩,⟨some (4,true),.mY 1 false (.tmp 3) (.const .ak),none⟩] none)
   (.cond (.var 4) (.seq (.region [⟨some (2,true),.mv (.const .ak),none⟩] none) .ret) .skip))
   (.seq (.region [⟨some (5,false),.lit es z 0 [] true,none⟩,⟨some (6,false),.mv (.var 0),none⟩,⟨some (7,false),.append es bytes (.tmp 5) (.tmp 6),none⟩,⟨some (2,true),.mv (.tmp 7),none⟩] none) .ret)),[.tmp 2],true⟩
def wO{α:Type}(bytes:Nat):al α->Option (al α)
 | .nil=>some .nil
 |x=>et bytes .emp x
theorem ac1{i n es bytes:Nat}{z:List V}(cy:ab i=some (.code (nO n es bytes z)))(hn:1<=n)(H:Heap):cp ab (.fn i [] []) [.ak] H=some (.ak,H,H.length):=by
 rw[pd,cy];simp[fP,nO,hn,kI,od,qa,vj,s5,cX,bK,step,hU,au.put,ah.ag,fo,dq,cJ,hY,nd,finish,hR,ea,old,ec,mq]
theorem ac2{i n es bytes:Nat}{z:List V}(cy:ab i=some (.code (nO n es bytes z)))(hn:1<=n)(H:Heap):cp ab (.fn i [] []) [.emp] H=some (.emp,H,H.length):=by
 rw[pd,cy];simp[fP,nO,hn,kI,od,qa,vj,s5,cX,bK,step,hU,au.put,ah.ag,fo,dq,cJ,hY,nd,finish,hR,ea,eL,lT,cB,elems,old,ec,mq]
theorem ac3{i n es bytes:Nat}{z l:List V}(cy:ab i=some (.code (nO n es bytes z)))(hn:1<=n)(hp:cB l=true)(hc:b7 (l.flatMap aL)=true)(hl:l≠[])(hb:l.length*(bytes+1)<=2^40)(H:Heap):
  cp ab (.fn i [] []) [.list es l] H=some (.aN H.length es 0 l.length l.length,H++[.row es l false],H.length):=by
 have ho:olds H.length l=true:=wM hp;rw[pd,cy];simp[fP,nO,hn,kI,od,qa,vj,s5,cX,bK,step,hU,au.put,ah.ag,fo,dq,cJ,hY,nd,finish,hR,ea,eL,lT,cB,elems,old,ec,mq,uu hp,hl,hc,hb,ho]
theorem ac4{i n es bytes:Nat}{z:List V}(cy:ab i=some (.code (nO n es bytes z)))(hn:1<=n)(H:Heap):
  cp ab (.fn i [] []) [.list es []] H=some (.emp,H,H.length):=by
 rw[pd,cy];simp[fP,nO,hn,kI,od,qa,vj,s5,cX,bK,step,hU,au.put,ah.ag,fo,dq,cJ,hY,nd,finish,hR,ea,eL,lT,cB,elems,old,ec,mq]
section
variable{b:Nat}{aj σ:bt}{H:Heap}{wr:List Bool}{rest:List bl}
theorem Rl{α:Type}{i n es bytes:Nat}{f:α->V}{z:List V}{s y:al α}{gr x:ah}{ms:bV}
  (cy:ab i=some (.code (nO n es bytes z))) (hn:1<=n) (hs:wO bytes s=some y) (hO:Own H ms) (af:ba aj σ gr=.fn i [] []) (hx:ba aj σ x=b4 es f s) (hp:∀a,bS (f a)=true) (hc:∀a,b7 (aL (f a))=true) (hb:b<=H.length):
  ∃v H1 m',bK (cp ab) (ba aj σ) H H.length (.call true gr [x])=some (v,H1,H.length)/\dS b es f v y m'/\Own H1 (m'::ms)/\H.length<=H1.length:=by
 have key:∀v,cp ab (.fn i [] []) [b4 es f s] H=some (v,H,H.length)->dS b es f v y []->∃v H1 m',bK (cp ab) (ba aj σ) H H.length (.call true gr [x])=some (v,H1,H.length)/\dS b es f v y m'/\Own H1 (m'::ms)/\H.length<=H1.length:=fun v ew hr=>
  ⟨v,H,[],by rw[qG];simp[af,hx,ew],hr,hO.ins 0,aI _⟩
 cases s with
 |nil=>cases hs;exact key _ (ac1 cy hn H) .nil
 |emp=>cases hs;exact key _ (ac2 cy hn H) .emp
 |mk l=>
  have hs:et bytes .emp (al.mk l)=some y:=hs;unfold et at hs;by_cases hl:l=[]
  ·subst hl
   rw[if_pos (show(al.mk ([]:List α)).l=[]from rfl)]at hs;cases hs;exact key _ (ac4 cy hn H) .emp
  ·rw[if_neg (show ¬(al.mk l).l=[]from hl)]at hs
   split at hs
   ·rename_i bN
    cases hs;have ew:=ac3 cy hn (oK hp l) (qN hc l) (by simpa using hl) (by simpa[al.l]using bN) H;refine⟨.aN H.length es 0 (l.map f).length (l.map f).length,H++[.row es (l.map f) false],[(H.length,.row es (l.map f) false)],?_,.row _ _ (by simpa using hl) hb,hO.grow _,by simp⟩;rw[qG];simp only[cW,hP,af,hx,b4,ew,Nat.min_self]
   ·cases hs
theorem ac5{α:Type}{i n es bytes:Nat}{f:α->V}{z:List V}{s y:al α}{d:Option (Nat × Bool)}{g:Option (ah × Bool)}{gr x:ah}{Q:bt->Heap->List Bool->Prop}{ms:bV}(hw:eF aj σ g=some true)
  (cy:ab i=some (.code (nO n es bytes z))) (hn:1<=n) (hs:wO bytes s=some y) (hO:Own H ms) (af:ba aj σ gr=.fn i [] []) (hx:ba aj σ x=b4 es f s) (hp:∀a,bS (f a)=true) (hc:∀a,b7 (aL (f a))=true)
  (bE:∀H' v' m' mv,dS b es f v' y m'->Own H' (m'::ms)->Op ab b rest (fq aj d v') (fr σ d v') H' (mv::wr) Q):Op ab b (⟨d,.call true gr [x],g⟩::rest) aj σ H wr Q:=fun aH ax low h1 h2 aq bf=>by
 obtain⟨v,H1,m',ae,ai,bz,cn⟩:=Rl cy hn hs hO af hx hp hc bf;exact gM (o:=⟨d,.call true gr [x],g⟩) hw (fun hb=>⟨cA hb cn,H.length,hb,ae,rfl⟩) (bE H1 v m' _ ai bz) aH ax low h1 h2 aq bf
end
section
variable{b:Nat}{aj σ:bt}{H:Heap}{wr:List Bool}{rest:List bl}
theorem ac6{es:Nat}{z:List V}{x:ah}{v v':V}{d:Option (Nat × Bool)}{g:Option (ah × Bool)}{ms fb:bV}{Q:bt->Heap->List Bool->Prop}(hw:eF aj σ g=some true)(hO:Own H ms)(aP:jf b 16 ms v v' fb)(hx:ba aj σ x=v)
  (hp:bS v'=true) (hc:(aL v').length=es/\b7 (aL v')=true) (bE:∀H' mv,Own H' fb->Op ab b rest (fq aj d (.list es [v'])) (fr σ d (.list es [v'])) H' (mv::wr) Q):Op ab b (⟨d,.lit es z 1 [(0,x)] true,g⟩::rest) aj σ H wr Q:=fun aH ax low h1 h2 aq bf=>by
 obtain⟨H1,bm,ae,jS,b1⟩:=aP H H.length hO bf;have dL:hR H H.length v=some (v',H1,bm):=ae;have hl:=(vO dL).2;have af:=Gu (es:=es) (z:=jo z) [v'] [] (fun w hw=>by rw[oZ]at hw;subst hw;exact hc);refine gM (o:=⟨d,.lit es z 1 [(0,x)] true,g⟩) (v:=.list es [v']) (H1:=H1) (mv:=ec H H1 bm) hw (fun hb=>⟨by omega,bm,b1,?_,rfl⟩) (bE H1 _ jS) aH ax low h1 h2 aq bf;rw[Bi];simp only[step,cW,hP,hx,eL,dL,zS,List.zip_nil_right];simp only[ij,n3,List.length_singleton,List.range'_one,zS,List.zip_nil_right]at af;simp only[af,cB,hp,z1,if_true,Nat.one_ne_zero,if_false]
end
end Go.Abs
namespace Go.Abs
open Go
variable{ab:Nat->Option bQ}
structure GI (ab:Nat->Option bQ) (i es:Nat):Prop where
 nil:∀H,cp ab (.fn i [] []) [.ak] H=some (.aR [],H,H.length)
 emp:∀H,cp ab (.fn i [] []) [.emp] H=some (.aR [],H,H.length)
 row:∀(H:Heap) (l:Nat) (ds:List V),H[l]? =some (.row es ds false)->b7 (ds.flatMap aL)=true->ds.length<=1099511627776->cp ab (.fn i [] []) [.aN l es 0 ds.length ds.length] H=some (.aR [],H.set l (.row es ds.reverse false),min H.length l)
structure Rm (ab:Nat->Option bQ) (i es:Nat):Prop where
 row:∀(H:Heap) (l:Nat) (ds:List V) (a c:Nat),H[l]? =some (.row es ds false)->cB ds=true->b7 (ds.flatMap aL)=true->ds.length<=1099511627776->a<=c->c<=ds.length->
  ∃sV,cp ab (.fn i [] []) [.aN l es 0 ds.length ds.length,.int .i64 a,.int .i64 c] H=some (.list es (ds.take a++ds.drop c),H.set l (.row es sV true),min H.length l)
def Rn{α:Type}:al α->Option (al α)
 | .nil=>some .nil
 | .emp=>some .emp
 | .mk l=>if l.length<=1099511627776 then some (.mk l.reverse)else none
def Ro{α:Type}(s:al α)(a c:Int):Option (al α):=match s with
 | .mk l=>if 0<=a/\a<=c/\c<=l.length/\l.length<=1099511627776 then some (.mk (l.take a.toNat++l.drop c.toNat))else none
 | _=>none
section
variable{b:Nat}{aj σ:bt}{H:Heap}{wr:List Bool}{rest:List bl}
theorem Rp{α:Type}{l:List α}{k:Nat}{a:α}(h:l[k]? =some a):l.set k a=l:=by
 apply lP;intro i;by_cases e:k=i
 ·subst e;rw[mi (fu.1 h).1,h]
 ·rw[iL e]
theorem ac7{α:Type}{i es:Nat}{f:α->V}{s y:al α}{v:V}{m:List (Nat × bd)}{d:Option (Nat × Bool)}{g:Option (ah × Bool)}{gr x:ah}{Q:bt->Heap->List Bool->Prop}{ms:bV}(hw:eF aj σ g=some true)
  (cy:GI ab i es) (k:Nat) (hs:Rn s=some y) (hO:Own H ms) (hk:ms[k]? =some m) (hr:dS b es f v s m) (af:ba aj σ gr=.fn i [] []) (hx:ba aj σ x=v) (hc:∀a,b7 (aL (f a))=true)
  (bE:∀H' m' mv,dS b es f v y m'->Own H' (ms.set k m')->Op ab b rest (fq aj d (.aR [])) (fr σ d (.aR [])) H' (mv::wr) Q):Op ab b (⟨d,.call true gr [x],g⟩::rest) aj σ H wr Q:=by
 cases s with
 |nil=>
  cases hs;have cE:dz b es v .nil m:=hr;cases cE;refine gM (o:=⟨d,.call true gr [x],g⟩) (v:=.aR []) (H1:=H) (mv:=ec H H (min H.length H.length)) hw (fun hb=>⟨hb,_,by omega,?_,rfl⟩) (bE H [] _ .nil (by rw[Rp hk];exact hO));rw[qG];simp only[cW,hP,af,hx,cy.nil]
 |emp=>
  cases hs;have cE:dz b es v .emp m:=hr;cases cE;refine gM (o:=⟨d,.call true gr [x],g⟩) (v:=.aR []) (H1:=H) (mv:=ec H H (min H.length H.length)) hw (fun hb=>⟨hb,_,by omega,?_,rfl⟩) (bE H [] _ .emp (by rw[Rp hk];exact hO));rw[qG];simp only[cW,hP,af,hx,cy.emp]
 |mk l=>
  have cE:dz b es v (.mk (l.map f)) m:=hr;have hs:(if l.length<=1099511627776 then some (al.mk l.reverse)else none)=some y:=hs;split at hs
  ·rename_i hle
   cases hs;cases cE with
   |row a _ h hb=>
    have aT:=hO.get k hk;have aY:=oI aT;refine gM (o:=⟨d,.call true gr [x],g⟩) (v:=.aR []) (H1:=H.set a (.row es (l.map f).reverse false)) (mv:=true) hw (fun bN=>⟨by simpa using bN,min H.length (min H.length a),by omega,?_,?_⟩) (bE _ _ _ ?_ (hO.put k hk))
    ·rw[qG]
     simp only[cW,hP,af,hx,cy.row H a _ aT (qN hc l) (by simpa using hle)]
    ·simp only[ec,iO,decide_eq_true_eq]
     exact .inl (by omega)
    ·have:=dz.row (b:=b) (es:=es) a (l.map f).reverse (by simpa using h) hb
     rw[List.length_reverse]at this;show dz b es _ (.mk (l.reverse.map f)) _;rw[List.map_reverse];exact this
  ·cases hs
theorem Rq{α:Type}{es bytes:Nat}{f:α->V}{s y ao:al α}{d:Option (Nat × Bool)}{g:Option (ah × Bool)}{cQ ez:ah}{cR:V}{m:List (Nat × bd)}{Q:bt->Heap->List Bool->Prop}{ms:bV}(hw:eF aj σ g=some true)(k:Nat)
  (hs:et bytes s y=some ao) (hO:Own H ms) (hk:ms[k]? =some m) (hr:dS b es f cR s m) (ha:ba aj σ cQ=cR) (hb:elems H es (ba aj σ ez)=some (y.l.map f)) (hp:∀a,bS (f a)=true) (hc:∀a,b7 (aL (f a))=true)
  (bE:∀H' v' m' mv,dS b es f v' ao m'->Own H' (ms.set k m')->Op ab b rest (fq aj d v') (fr σ d v') H' (mv::wr) Q):Op ab b (⟨d,.append es bytes cQ ez,g⟩::rest) aj σ H wr Q:=by
 intro aH ax low h1 h2 aq bf
 have kT:ms.set k m=ms:=by
  apply lP;intro i;by_cases e:k=i
  ·subst e;rw[mi (fu.1 hk).1,hk]
  ·rw[iL e]
 have hfz:eL H H.length (y.l.map f)=some (y.l.map f,H,H.length):=uu (oK hp _);have mL:=qN hc y.l;unfold et at hs;by_cases hy:y.l=[]
 ·rw[if_pos hy]at hs
  cases hs;refine gM (o:=⟨d,.append es bytes cQ ez,g⟩) (mv:=false) (v:=cR) (H1:=H) hw (fun bN=>⟨bN,H.length,bN,?_,r5 H⟩) (bE H cR m false hr (by rw[kT];exact hO)) aH ax low h1 h2 aq bf;rw[kx];simp only[step,hb];rw[hfz,hy];simp only[hP,Db,if_true,ha];have cE:dz b es cR (s.map f) m:=hr;generalize kY:s.map f=e7 at cE;cases cE with
  |nil=>rfl
  |emp=>rfl
  |row l ds h fp=>simp[hO.get k hk]
 ·rw[if_neg hy]at hs
  split at hs
  ·rename_i dB
   cases hs
   have bb:(y.l.map f).isEmpty=false:=by cases qO:y.l with
    |nil=>exact absurd qO hy
    |cons=>rfl
   have lz:(b7 ((y.l.map f).flatMap aL)=false)=False:=by rw[mL];simp
   have cE:dz b es cR (s.map f) m:=hr;generalize kY:s.map f=e7 at cE;cases cE with
   |nil=>
    have ed:s.l=[]:=by cases s<;>simp_all [al.map,al.l]
    have kz:(y.l.map f).length*(bytes+1)<=2^40:=by simpa[ed]using dB
    refine gM (o:=⟨d,.append es bytes cQ ez,g⟩) (mv:=true) (v:=.aN H.length es 0 (y.l.map f).length (y.l.map f).length) (H1:=H++[.row es (y.l.map f) false]) hw
     (fun bN=>⟨by simp;omega,H.length,bN,?_,by simp[ec]⟩) (bE _ _ [(H.length,.row es (y.l.map f) false)] true ?_ (hO.fill k hk)) aH ax low h1 h2 aq bf
    ·rw[kx]
     simp only[step,hb];rw[hfz];simp only[bb,ga,if_false,lz,ha,kz,if_true]
    ·simp only[ed,ij,al.map]
     exact .row _ _ (by simpa using hy) bf
   |emp=>
    have ed:s.l=[]:=by cases s<;>simp_all [al.map,al.l]
    have kz:(y.l.map f).length*(bytes+1)<=2^40:=by simpa[ed]using dB
    refine gM (o:=⟨d,.append es bytes cQ ez,g⟩) (mv:=true) (v:=.aN H.length es 0 (y.l.map f).length (y.l.map f).length) (H1:=H++[.row es (y.l.map f) false]) hw
     (fun bN=>⟨by simp;omega,H.length,bN,?_,by simp[ec]⟩) (bE _ _ [(H.length,.row es (y.l.map f) false)] true ?_ (hO.fill k hk)) aH ax low h1 h2 aq bf
    ·rw[kx]
     simp only[step,hb];rw[hfz];simp only[bb,ga,if_false,lz,ha,kz,if_true]
    ·simp only[ed,ij,al.map]
     exact .row _ _ (by simpa using hy) bf
   |row l ds hd fp=>
    have ed:s.l.map f=ds:=by cases s<;>simp_all [al.map,al.l]
    have hlen:s.l.length=ds.length:=by rw[<-ed,eA]
    have aT:=hO.get k hk;have aY:=oI aT
    refine gM (o:=⟨d,.append es bytes cQ ez,g⟩) (mv:=true) (v:=.aN l es 0 (ds++y.l.map f).length (ds++y.l.map f).length) (H1:=H.set l (.row es (ds++y.l.map f) false)) hw
     (fun bN=>⟨by simpa using bN,l,fp,?_,by simp[ec,aY]⟩) (bE _ _ [(l,.row es (ds++y.l.map f) false)] true ?_ (hO.put k hk)) aH ax low h1 h2 aq bf
    ·rw[kx]
     simp only[step,hb];rw[hfz];simp only[bb,ga,if_false,lz,ha,aT,fO];rw[if_pos ⟨trivial,trivial,trivial,trivial,trivial,by rw[hlen]at dB;simpa using dB⟩,o3 (sM aY)]
     done
    ·show dz b es _ (.mk ((s.l++y.l).map f)) _
     rw[hM,ed];exact .row _ _ (by simp[hd]) fp
  ·cases hs
theorem ac8{i es:Nat}{d:Option (Nat × Bool)}{g:Option (ah × Bool)}{gr x:ah}{Q:bt->Heap->List Bool->Prop}(hw:eF aj σ g=some true)
  (cy:GI ab i es) (af:ba aj σ gr=.fn i [] []) (hx:ba aj σ x=.ak)
  (bE:∀mv,Op ab b rest (fq aj d (.aR [])) (fr σ d (.aR [])) H (mv::wr) Q):Op ab b (⟨d,.call true gr [x],g⟩::rest) aj σ H wr Q:=by
 refine gM (o:=⟨d,.call true gr [x],g⟩) (v:=.aR []) (H1:=H) (mv:=ec H H (min H.length H.length)) hw (fun hb=>⟨hb,_,by omega,?_,rfl⟩) (bE _);rw[qG];simp only[cW,hP,af,hx,cy.nil]
theorem ac9{α:Type}{i es:Nat}{f:α->V}{s y:al α}{v:V}{a c:Int}{m:List (Nat × bd)}{d:Option (Nat × Bool)}{g:Option (ah × Bool)}{gr x cQ kl:ah}{Q:bt->Heap->List Bool->Prop}{ms:bV}(hw:eF aj σ g=some true)
  (cy:Rm ab i es) (k:Nat) (hs:Ro s a c=some y) (hO:Own H ms) (hk:ms[k]? =some m) (hr:dS b es f v s m) (af:ba aj σ gr=.fn i [] []) (hx:ba aj σ x=v) (kA:ba aj σ cQ=.int .i64 a) (ada:ba aj σ kl=.int .i64 c) (hp:∀a,bS (f a)=true) (oj:∀a,b7 (aL (f a))=true)
  (bE:∀H' m' mv,Own H' (ms.set k m')->Op ab b rest (fq aj d (b4 es f y)) (fr σ d (b4 es f y)) H' (mv::wr) Q):Op ab b (⟨d,.call true gr [x,cQ,kl],g⟩::rest) aj σ H wr Q:=by
 cases s with
 |nil=>cases hs
 |emp=>cases hs
 |mk l=>
  have cE:dz b es v (.mk (l.map f)) m:=hr;have hs:(if 0<=a/\a<=c/\c<=l.length/\l.length<=1099511627776 then some (al.mk (l.take a.toNat++l.drop c.toNat))else none)=some y:=hs;split at hs
  ·rename_i hc
   obtain⟨h0,h1,h2,aq⟩:=hc;obtain⟨n,rfl⟩:=CU h0;obtain⟨q,rfl⟩:=CU (Int.le_trans h0 h1);cases hs;cases cE with
   |row a _ h hb=>
    have aT:=hO.get k hk;have aY:=oI aT;obtain⟨sV,e⟩:=cy.row H a _ n q aT (oK hp l) (qN oj l) (by simpa using aq) (by omega) (by rw[eA];omega);rw[<-List.map_take,<-List.map_drop,<-hM]at e;refine gM (o:=⟨d,.call true gr [x,cQ,kl],g⟩) (H1:=H.set a (.row es sV true)) (mv:=true) hw (fun bN=>⟨by simpa using bN,min H.length (min H.length a),by omega,?_,?_⟩) (bE _ _ _ (hO.put k hk))
    ·rw[qG]
     simp only[cW,hP,af,hx,kA,ada,e];rfl
    ·simp only[ec,iO,decide_eq_true_eq]
     exact .inl (by omega)
  ·cases hs
end
end Go.Abs
namespace Go.Abs
open Go
variable{ab:Nat->Option bQ}
theorem dz.low{b dE es:Nat}{v:V}{z:al V}{m:List (Nat × bd)}(hb:b<=dE)(h:dz dE es v z m):dz b es v z m:=by
 cases h with
 |nil=>exact .nil
 |emp=>exact .emp
 |row l ds q hl=>exact .row l ds q (cA hb hl)
theorem dS.of{α β:Type}{b es bG:Nat}{f:α->V}{g:β->V}{x:al α}{y:al β}{v:V}{m:List (Nat × bd)}(h:b4 es f x=b4 bG g y)(hr:dS b es f v x m):dS b bG g v y m:=by
 cases x<;>cases y<;>simp only[b4,reduceCtorEq,V.list.injEq]at h
 ·cases(show dz b es v .nil m from hr)
  exact .nil
 ·cases(show dz b es v .emp m from hr)
  exact .emp
 ·obtain⟨h1,h2⟩:=h
  subst h1;have cE:dz b es v (al.mk (List.map f _)) m:=hr;rw[h2]at cE;exact cE
end Go.Abs
namespace Go.Abs
open Go
variable{ab:Nat->Option bQ}
inductive fk:List Bool->List Bool->Prop
 |nil:fk [] []
 |cons {a c:Bool} {l r:List Bool} (h:a=true->c=true) (k:fk l r):fk (a::l) (c::r)
theorem fk.get{l r:List Bool}:fk l r->∀{i:Nat},l[i]? =some true->r[i]? =some true
 | .nil,_,h=>by simp at h
 | .cons h k,0,e=>by simp at e;subst e;simp[h rfl]
 | .cons h k,i+1,e=>by simpa using k.get (by simpa using e)
theorem fk.app{l r eB lS:List Bool}:fk l r->fk eB lS->fk (l++eB) (r++lS)
 | .nil,h=>h
 | .cons h k,h'=>.cons h (k.app h')
theorem fk.rev{l r:List Bool}:fk l r->fk l.reverse r.reverse
 | .nil=>.nil
 | .cons h k=>by rw[List.reverse_cons,List.reverse_cons];exact k.rev.app (.cons h .nil)
theorem fk.refl:∀l:List Bool,fk l l
 |[]=>.nil
 | _::r=>.cons id (fk.refl r)
theorem fk.take{l r:List Bool}:fk l r->∀n,fk (l.take n) (r.take n)
 | .nil,n=>by simp;exact .nil
 | .cons h k,0=>.nil
 | .cons h k,n+1=>.cons h (k.take n)
theorem fk.len{l r:List Bool}:fk l r->l.length=r.length
 | .nil=>rfl
 | .cons _ k=>by simp[k.len]
theorem fk.no{l r:List Bool}:fk l r->r.all (!·)=true->l.all (!·)=true
 | .nil,_=>rfl
 | .cons (a:=a) (c:=c) h k,e=>by
   simp only[List.all_cons,cH]at e⊢;refine⟨?_,k.no e.2⟩;cases a with
   |false=>rfl
   |true=>rw[h rfl]at e;cases e.1
theorem GJ{call:cj}(hc:jM call){ops:List bl}{S:Nat->au}{aO:Nat->Bool}(hs:∀i aU,ops[i]? =some aU->jN call aU (S i) (S (i+1)) (aO i)){i:Nat}:∀{d:Nat},i+d<=ops.length->(∀x,i<=x->x<i+d->aO x=false)->(S (i+d)).H=(S i).H
 |0,_,_=>rfl
 |d+1,hd,af=>by
  have:=(hs (i+d) ops[i+d] (gk (by omega))).still hc (af (i+d) (by omega) (by omega));exact this.trans (GJ hc hs (d:=d) (by omega) fun x h1 h2=>af x h1 (by omega))
theorem adb{call:cj}{aU:bl}{S iZ:au}{aO:Bool}(h:jN call aU S iZ aO)(af:aO=false):gF call (aU,S,S.H)=true:=by
 unfold gF;rcases h with⟨h0,v,H1,bm,h1,-,h2⟩|⟨h0,-,-⟩
 ·simp only[h0,h1,Gx,Df,o1]
  exact h2.symm.trans af
 ·simp only[h0]
theorem GK{call:cj}:∀{ops:List bl} {st:au} {cg:List au},ee call ops st=some cg->cg.length=ops.length+1
 |[],st,cg,h=>by simp only[ee,ay]at h;subst h;rfl
 |o::r,st,cg,h=>by
  simp only[ee]at h;split at h
  ·split at h
   ·obtain⟨t,h1,rfl⟩:=bW.1 h
    simp[GK h1]
   ·cases h
  ·obtain⟨t,h1,rfl⟩:=bW.1 h
   simp[GK h1]
  ·cases h
theorem ade{call:cj}:∀{ops:List bl} {st:au} {cg:List au},ee call ops st=some cg->cg[0]? =some st
 |[],st,cg,h=>by simp only[ee,ay]at h;subst h;rfl
 |o::r,st,cg,h=>by
  simp only[ee]at h;split at h
  ·split at h
   ·obtain⟨t,h1,rfl⟩:=bW.1 h;rfl
   ·cases h
  ·obtain⟨t,h1,rfl⟩:=bW.1 h;rfl
  ·cases h
inductive hg (ab:Nat->Option bQ) (b:Nat) (ms:bV):List bl->bt->bt->Heap->bt->bt->Heap->List Bool->Prop
 |nil {aj σ:bt} {H:Heap}:hg ab b ms [] aj σ H aj σ H []
 |step {o:bl} {rest:List bl} {aj σ aM bn:bt} {H H':Heap} {v:V} {wr:List Bool} (hw:eF aj σ o.guard=some true) (h:∀H,Own H ms->bK (cp ab) (ba aj σ) H H.length o.op=some (v,H,H.length)) (k:hg ab b ms rest (fq aj o.dst v) (fr σ o.dst v) H aM bn H' wr):hg ab b ms (o::rest) aj σ H aM bn H' (false::wr)
 |skip {o:bl} {rest:List bl} {aj σ aM bn:bt} {H H':Heap} {wr:List Bool} (hw:eF aj σ o.guard=some false) (k:hg ab b ms rest (fq aj o.dst (.aR [])) (fr σ o.dst (.aR [])) H aM bn H' wr):hg ab b ms (o::rest) aj σ H aM bn H' (false::wr)
 |make {o:bl} {rest:List bl} {aj σ aM bn:bt} {H H1 H':Heap} {bm:Nat} {v:V} {wr:List Bool} (hw:eF aj σ o.guard=some true) (h:bK (cp ab) (ba aj σ) H H.length o.op=some (v,H1,bm)) (hb:b<=bm) (eN:b<=H1.length) (hO:Own H1 ms) (k:hg ab b ms rest (fq aj o.dst v) (fr σ o.dst v) H1 aM bn H' wr):hg ab b ms (o::rest) aj σ H aM bn H' (true::wr)
theorem jg.adf{b:Nat}{ms:bV}{A:List bl}{aj σ aM bn:bt}{H:Heap}(h:jg (cp ab) ms A aj σ aM bn):hg ab b ms A aj σ H aM bn H (List.replicate A.length false):=by
 induction h with
 |nil=>exact .nil
 |step hw h k ih=>exact .step hw h ih
 |skip hw k ih=>exact .skip hw ih
theorem hg.append{b:Nat}{ms:bV}{A B:List bl}{aj σ dA cz BL lC:bt}{H H1 cT:Heap}{w w':List Bool}(h:hg ab b ms A aj σ H dA cz H1 w)(k:hg ab b ms B dA cz H1 BL lC cT w'):hg ab b ms (A++B) aj σ H BL lC cT (w++w'):=by
 induction h with
 |nil=>exact k
 |step hw h _ ih=>exact .step hw h (ih k)
 |skip hw _ ih=>exact .skip hw (ih k)
 |make hw h b1 fB hO _ ih=>exact .make hw h b1 fB hO (ih k)
theorem hg.len{b:Nat}{ms:bV}{A:List bl}{aj σ dA cz:bt}{H H1:Heap}{w:List Bool}(h:hg ab b ms A aj σ H dA cz H1 w):w.length=A.length:=by
 induction h<;>simp_all
theorem hg.own{b:Nat}{ms:bV}{A:List bl}{aj σ dA cz:bt}{H H1:Heap}{w:List Bool}(h:hg ab b ms A aj σ H dA cz H1 w)(hO:Own H ms)(hb:b<=H.length):Own H1 ms/\b<=H1.length:=by
 induction h with
 |nil=>exact⟨hO,hb⟩
 |step hw h _ ih=>exact ih hO hb
 |skip hw _ ih=>exact ih hO hb
 |make hw h b1 fB lB _ ih=>exact ih lB fB
theorem hg.run{b:Nat}{ms:bV}:∀{A:List bl} {aj σ aM bn:bt} {H H':Heap} {w:List Bool},hg ab b ms A aj σ H aM bn H' w->∀{aH ax:Env} {low:Nat} {wr:List Bool} (B:List bl),Fits aH aj->Fits ax σ->Own H ms->b<=low->b<=H.length->
  ∃gL dQ low' w',Fits gL aM/\Fits dQ bn/\b<=low'/\b<=H'.length/\Own H' ms/\fk w' w/\cX (cp ab) (A++B) ⟨aH,ax,H,low,none⟩ wr=cX (cp ab) B ⟨gL,dQ,H',low',none⟩ (w'.reverse++wr)/\
   ∀cg,ee (cp ab) (A++B) ⟨aH,ax,H,low,none⟩=some cg->∃hI jh,cg=hI++jh/\hI.length=A.length/\ee (cp ab) B ⟨gL,dQ,H',low',none⟩=some jh/\(∀T∈hI,Own T.H ms)/\
    ∀(i:Nat) (o:bl) (T:au),A[i]? =some o->hI[i]? =some T->w[i]? =some false->∀H',Own H' ms->gF (cp ab) (o,T,H')=true
 |[],aj,σ,_,_,H,_,_,.nil,aH,ax,low,wr,B,h1,h2,hO,hb,hl=>⟨aH,ax,low,[],h1,h2,hb,hl,hO,.nil,rfl,fun cg h=>⟨[],cg,rfl,rfl,h,(fun _ h=>nomatch h),(fun i o T h=>by simp at h)⟩⟩
 |o::A,aj,σ,aM,bn,H,H',_,.step (v:=v) (wr:=w) hw h k,aH,ax,low,wr,B,h1,h2,hO,hb,eN=>by
  obtain⟨kW,kX,ae,ai,bz⟩:=uo h1 h2 H (min low H.length) o.dst v;obtain⟨gL,dQ,low',w',f1,f2,f0,f5,f6,f7,f3,f4⟩:=k.run (low:=min low H.length) (wr:=false::wr) B ai bz hO (by omega) eN;have gB:=hw;rw[<-uq h1 h2]at gB;have hs:=h H hO;rw[<-qK h1 h2]at hs;refine⟨gL,dQ,low',false::w',f1,f2,f0,f5,f6,.cons id f7,?_,fun cg ht=> ?_⟩
  ·simp only[kE,cX,gB,hs,r5]
   rw[ae,f3];simp
  ·simp only[kE,ee,gB,hs]at ht
   rw[ae]at ht;obtain⟨kp,eE,rfl⟩:=bW.1 ht;obtain⟨hI,jh,rfl,g1,g2,g0,g3⟩:=f4 kp eE;refine⟨_::hI,jh,rfl,by simp[g1],g2,fun T hT=>(cY.1 hT).elim (fun e=>e ▸ hO) (g0 T),fun i p T hp hT hi H' lB=> ?_⟩;cases i with
   |zero=>
    simp only[lN,ay]at hp hT;subst hp;subst hT;have qE:=h H' lB;rw[<-qK h1 h2]at qE;simp only[gF,gB,hs,qE,r5,Bool.not_false,xn,Gx]
   |succ i=>
    simp only[sF]at hp hT hi;exact g3 i p T hp hT hi H' lB
 |o::A,aj,σ,aM,bn,H,H',_,.skip (wr:=w) hw k,aH,ax,low,wr,B,h1,h2,hO,hb,eN=>by
  obtain⟨kW,kX,ae,ai,bz⟩:=uo h1 h2 H low o.dst (.aR []);obtain⟨gL,dQ,low',w',f1,f2,f0,f5,f6,f7,f3,f4⟩:=k.run (wr:=false::wr) B ai bz hO hb eN;have gB:=hw;rw[<-uq h1 h2]at gB;refine⟨gL,dQ,low',false::w',f1,f2,f0,f5,f6,.cons id f7,?_,fun cg ht=> ?_⟩
  ·simp only[kE,cX,gB]
   rw[ae,f3];simp
  ·simp only[kE,ee,gB]at ht
   rw[ae]at ht;obtain⟨kp,eE,rfl⟩:=bW.1 ht;obtain⟨hI,jh,rfl,g1,g2,g0,g3⟩:=f4 kp eE;refine⟨_::hI,jh,rfl,by simp[g1],g2,fun T hT=>(cY.1 hT).elim (fun e=>e ▸ hO) (g0 T),fun i p T hp hT hi H' lB=> ?_⟩;cases i with
   |zero=>
    simp only[lN,ay]at hp hT;subst hp;subst hT;simp only[gF,gB]
   |succ i=>
    simp only[sF]at hp hT hi;exact g3 i p T hp hT hi H' lB
 |o::A,aj,σ,aM,bn,H,H',_,.make (H1:=H1) (bm:=bm) (v:=v) (wr:=w) hw h b1 fB yU k,aH,ax,low,wr,B,h1,h2,hO,hb,eN=>by
  obtain⟨kW,kX,ae,ai,bz⟩:=uo h1 h2 H1 (min low bm) o.dst v;obtain⟨gL,dQ,low',w',f1,f2,f0,f5,f6,f7,f3,f4⟩:=k.run (low:=min low bm) (wr:=ec H H1 bm::wr) B ai bz yU (by omega) fB;have gB:=hw;rw[<-uq h1 h2]at gB;have hs:=h;rw[<-qK h1 h2]at hs;refine⟨gL,dQ,low',ec H H1 bm::w',f1,f2,f0,f5,f6,.cons (fun _=>rfl) f7,?_,fun cg ht=> ?_⟩
  ·simp only[kE,cX,gB,hs]
   rw[ae,f3];simp
  ·simp only[kE,ee,gB,hs]at ht
   rw[ae]at ht;obtain⟨kp,eE,rfl⟩:=bW.1 ht;obtain⟨hI,jh,rfl,g1,g2,g0,g3⟩:=f4 kp eE;refine⟨_::hI,jh,rfl,by simp[g1],g2,fun T hT=>(cY.1 hT).elim (fun e=>e ▸ hO) (g0 T),fun i p T hp hT hi H' lB=> ?_⟩;cases i with
   |zero=>simp at hi
   |succ i=>
    simp only[sF]at hp hT hi;exact g3 i p T hp hT hi H' lB
def wP (dw:List Nat)(ops:List bl)(w wr:List Bool):Bool:=
 wr.zipIdx.all fun(x,i)=>!x||ops.zipIdx.all fun(o,j)=>!e2 o.op||i==j||lU dw i j||(Nat.blt i w.length&&Nat.blt j w.length&&!w.getD j true)
theorem adg{dw:List Nat}{ops:List bl}{w wr jT:List Bool}(h:fk wr jT)(ho:wP dw ops w jT=true):wP dw ops w wr=true:=by
 unfold wP at ho⊢;rw[eV]at ho⊢;rintro⟨x,i⟩ hx;cases x with
 |false=>rfl
 |true=>exact ho (true,i) (hz.2 (h.get (hz.1 hx)))
section
variable{b:Nat}{dA σ cz:bt}{H H1:Heap}{Q:X->bt->Heap->Prop}{ms:bV}
theorem adh{A R ops:List bl}{dw:List Nat}(l9:A++R=ops)(hO:Own H ms)
  (cw:b<=H.length->∃dA cz H1 w,hg ab b ms A pC σ H dA cz H1 w/\∀w',fk w' w->Op ab b R dA cz H1 w'.reverse (fun bn H' wr=>wP dw ops w wr=true/\Q .normal bn H')):
  e6 ab b (.region ops (some dw)) σ H Q:=fun ax low h1 h2 aq=>by
 obtain⟨dA,cz,H1,w,hA,aa⟩:=cw aq;obtain⟨kW,kX,dH,w',f1,f2,f0,f5,f6,f7,f3,f4⟩:=hA.run (low:=low) (wr:=[]) R um h1 hO h2 aq;obtain⟨adi,Rr,Rs,Rt,wQ,adj,bM,dC,iv,adk,GL,adl⟩:=aa w' f7 kW kX dH f1 f2 f0 f5;rw[l9,lQ]at f3;rw[l9]at f4;have he:cX (cp ab) ops ⟨[],ax,H,low,none⟩ []=some (⟨adi,Rr,Rs,Rt,none⟩,wQ):=f3.trans bM;obtain⟨cg,lr⟩:=yT he;obtain⟨hI,jh,t1,t2,t3,t4,t5⟩:=f4 cg lr;have GM:=hA.len;have adm:=ade t3;obtain⟨S,aO,h0,hn,ju,hs⟩:=pr _ _ _ _ _ he;obtain⟨iZ,ai9,-,-,Ru,-⟩:=pr _ _ _ _ _ bM;rw[List.reverse_reverse]at Ru;have np:=AO ops S aO cg hs (by rw[h0];exact lr);simp only[List.reverse_nil,ij]at ju
 have hw:∀{i},wQ[i]? =some true↔i<ops.length/\aO i=true:=fun {i}=>by
  rw[ju,iM];by_cases hi:i<ops.length
  ·rw[List.getElem?_range hi];simp[hi]
  ·rw[k6 (by simpa using hi)];simp[hi]
 have Rv:∀{i},wQ.getD i false=true↔i<ops.length/\aO i=true:=fun {i}=>by
  rw[<-hw,u4];cases wQ[i]? with
  |none=>simp
  |some x=>simp
 have adn:∀{i},i<w.length->wQ[i]? =some true->w[i]? =some true:=fun {i} hi h=>by
  rw[Ru,ft (by rw[f7.len];exact hi)]at h;exact f7.get h
 have cG:∀i,i<ops.length->aO i=true->∀j cC,ops[j]? =some cC->e2 cC.op=true->i≠j->lU dw i j=true\/(i<w.length/\j<w.length/\w[j]? =some false):=fun i hi af j cC hj ht b9=>by
  unfold wP at GL;rw[eV]at GL;have:=GL (true,i) (hz.2 (hw.2 ⟨hi,af⟩));simp only[oa,re,eV]at this;have:=this (cC,j) (hz.2 hj);simp only[ht,oa,iO,cH,beq_iff_eq,b9,or_false,ga,false_or]at this;refine this.imp id fun⟨⟨q1,q2⟩,dk⟩=> ?_;have q1:=(Nat.blt_eq ..).mp q1;have q2:=(Nat.blt_eq ..).mp q2;refine⟨q1,q2,?_⟩;rw[u4,gk q2]at dk;rw[gk q2];simpa using dk
 have ub:nc (cp ab) dw ops wQ ⟨[],ax,H,low,none⟩=true:=by
  unfold nc;rw[lr];simp only[cH];constructor
  ·unfold Ab
   simp only[eV];rintro⟨x,i⟩ hi;cases x with
   |false=>rfl
   |true=>
    simp only[oa,re,eV];rintro⟨fA,j⟩ hj;cases fA with
    |false=>rfl
    |true=>
     have AD:=hz.1 hj;have hi:=hw.1 (hz.1 hi);have hj:=hw.1 AD;by_cases b9:i=j
     ·simp[b9]
     ·have Rw:=gk hj.1
      rcases cG i hi.1 hi.2 j _ Rw ((hs j _ Rw).e2 hj.2) b9 with q|⟨q1,q2,dk⟩
      ·simp[q]
      ·rw[adn q2 AD]at dk;cases dk
  ·rw[eV]
   intro q a8;unfold Ac at a8;simp only[zV]at a8;obtain⟨⟨cC,j⟩,hj,a8⟩:=a8;have hj:=hz.1 hj;simp only at hj a8;split at a8
   ·cases a8
   rename_i wk;simp only[iO,o1,not_or,IX,Bool.not_eq_true]at wk;obtain⟨ht,fS⟩:=wk;simp only[zV]at a8;obtain⟨⟨vb,k⟩,hk,a8⟩:=a8;have hk:=hz.1 hk;simp only at hk a8;split at a8
   ·cases a8
   rename_i vu;have lk:j<ops.length:=(fu.1 hj).1
   have rX:k<=ops.length:=by
    have:=(fu.1 hk).1;rw[GK lr]at this;omega
   have Rx:=np k rX;rw[hk]at Rx;cases Rx;rw[np j (by omega)]at a8;simp only[oZ]at a8;subst a8;simp only[iO,beq_iff_eq,cH,bne_iff_ne,ne_eq,o1,not_or,not_and,IX]at vu;obtain⟨⟨qv,x9⟩,GN⟩:=vu
   have hex:∀i,i<ops.length->aO i=true->i≠j->lU dw i j=true->(i<j↔i<k):=fun i hi af b9 Ry=>by
    rw[<-decide_eq_decide];by_cases e:decide (i<j)=decide (i<k)
    ·exact e
    ·exact absurd (zT.2 ⟨(true,i),hz.2 (hw.2 ⟨hi,af⟩),by simp[b9,Ry,e]⟩) GN
   have Rz:aO j=false:=by
    cases hx:aO j with
    |false=>rfl
    |true=>rw[Rv.2 ⟨lk,hx⟩]at fS;cases fS
   by_cases ya:j<w.length/\w[j]? =some false
   ·obtain⟨q1,q2⟩:=ya
    have ado:j<A.length:=by omega
    have aja:k<=A.length:=by
     by_cases Fa:k=0
     ·omega
     ·obtain⟨BM,BN⟩:=Rv.1 (x9 Fa)
      rcases fF (k-1) A.length with r|r
      ·omega
      ·rcases cG (k-1) BM BN j cC hj ht (by omega)with z|⟨z,-⟩
       ·have:=hex (k-1) BM BN (by omega) z
        omega
       ·omega
    have GG:Own (S k).H ms:=by
     rw[t1]at hk;rcases fF k A.length with r|r
     ·rw[ft (by omega)]at hk
      exact t4 _ (ml hk)
     ·obtain rfl:k=A.length:=by omega
      rw[sD (by omega),t2,Nat.sub_self,adm]at hk;rw[<-xm hk];exact f6
    have RA:=np j (by omega);rw[<-l9,ft ado]at hj;rw[t1,ft (by omega)]at RA;exact t5 j cC (S j) hj RA q2 _ GG
   ·have fw:∀x,x<ops.length->aO x=true->(x<j↔x<k):=fun x hx BO=>by
     have oz:x≠j:=fun e=>by rw[e,Rz]at BO;cases BO
     rcases cG x hx BO j cC hj ht oz with q|⟨-,q⟩
     ·exact hex x hx BO oz q
     ·exact absurd q ya
    have hH:(S k).H=(S j).H:=by
     have hc:=GF ab
     have no:∀x,x<ops.length->(x<j/\k<=x\/x<k/\j<=x)->aO x=false:=fun x hx Ry=>by
      cases dV:aO x with
      |false=>rfl
      |true=>have:=fw x hx dV;omega
     rcases Nat.le_total k j with adp|hjk
     ·obtain⟨d,rfl⟩:=kD adp
      exact(GJ hc hs (by omega) fun x BM BN=>no x (by omega) (by omega)).symm
     ·obtain⟨d,rfl⟩:=kD hjk
      exact GJ hc hs (by omega) fun x BM BN=>no x (by omega) (by omega)
    rw[hH];exact adb (hs j cC hj) Rz
 exact⟨.normal,Rr,Rs,Rt,adj,by rw[od];simp only[he,k9,ub,Bool.true_or,Bool.or_true,if_true,au.eu],dC,iv,adk,adl⟩
end
end Go.Abs
namespace Go.Abs
variable{ab:Nat->Option bQ}
theorem RB{α:Type}{es bytes b:Nat}{f:α->V}{s y ao:al α}{cQ ez:ah}{cR:V}{m:List (Nat × bd)}{ms:bV}{H:Heap}{ag:ah->V}(bN:b<=H.length)(k:Nat)
  (hs:et bytes s y=some ao) (hO:Own H ms) (hk:ms[k]? =some m) (hr:dS b es f cR s m) (ha:ag cQ=cR) (hb:ag ez=b4 es f y) (hp:∀a,bS (f a)=true) (hc:∀a,b7 (aL (f a))=true):
  ∃v' H1 bm m',b<=bm/\b<=H1.length/\bK (cp ab) ag H H.length (.append es bytes cQ ez)=some (v',H1,bm)/\dS b es f v' ao m'/\Own H1 (ms.set k m'):=by
 have kT:ms.set k m=ms:=by
  apply lP;intro i;by_cases e:k=i
  ·subst e;rw[mi (fu.1 hk).1,hk]
  ·rw[iL e]
 have hfz:eL H H.length (y.l.map f)=some (y.l.map f,H,H.length):=uu (oK hp _);have mL:=qN hc y.l;unfold et at hs;by_cases hy:y.l=[]
 ·rw[if_pos hy]at hs
  cases hs;refine⟨cR,H,H.length,m,bN,bN,?_,hr,by rw[kT];exact hO⟩;rw[kx];simp only[step,hb,qM];rw[hfz,hy];simp only[hP,Db,if_true,ha];have cE:dz b es cR (s.map f) m:=hr;generalize kY:s.map f=e7 at cE;cases cE with
  |nil=>rfl
  |emp=>rfl
  |row l ds h fp=>simp[hO.get k hk]
 ·rw[if_neg hy]at hs
  split at hs
  ·rename_i dB
   cases hs
   have bb:(y.l.map f).isEmpty=false:=by cases qO:y.l with
    |nil=>exact absurd qO hy
    |cons=>rfl
   have lz:(b7 ((y.l.map f).flatMap aL)=false)=False:=by rw[mL];simp
   have cE:dz b es cR (s.map f) m:=hr;generalize kY:s.map f=e7 at cE;cases cE with
   |nil=>
    have ed:s.l=[]:=by cases s<;>simp_all [al.map,al.l]
    have kz:(y.l.map f).length*(bytes+1)<=2^40:=by simpa[ed]using dB
    refine⟨.aN H.length es 0 (y.l.map f).length (y.l.map f).length,H++[.row es (y.l.map f) false],H.length,[(H.length,.row es (y.l.map f) false)],bN,by simp;omega,?_,?_,hO.fill k hk⟩
    ·rw[kx]
     simp only[step,hb,qM];rw[hfz];simp only[bb,ga,if_false,lz,ha,kz,if_true]
    ·simp only[ed,ij,al.map]
     exact .row _ _ (by simpa using hy) bN
   |emp=>
    have ed:s.l=[]:=by cases s<;>simp_all [al.map,al.l]
    have kz:(y.l.map f).length*(bytes+1)<=2^40:=by simpa[ed]using dB
    refine⟨.aN H.length es 0 (y.l.map f).length (y.l.map f).length,H++[.row es (y.l.map f) false],H.length,[(H.length,.row es (y.l.map f) false)],bN,by simp;omega,?_,?_,hO.fill k hk⟩
    ·rw[kx]
     simp only[step,hb,qM];rw[hfz];simp only[bb,ga,if_false,lz,ha,kz,if_true]
    ·simp only[ed,ij,al.map]
     exact .row _ _ (by simpa using hy) bN
   |row l ds hd fp=>
    have ed:s.l.map f=ds:=by cases s<;>simp_all [al.map,al.l]
    have hlen:s.l.length=ds.length:=by rw[<-ed,eA]
    have aT:=hO.get k hk;have aY:=oI aT;refine⟨.aN l es 0 (ds++y.l.map f).length (ds++y.l.map f).length,H.set l (.row es (ds++y.l.map f) false),l,[(l,.row es (ds++y.l.map f) false)],fp,by simpa using bN,?_,?_,hO.put k hk⟩
    ·rw[kx]
     simp only[step,hb,qM];rw[hfz];simp only[bb,ga,if_false,lz,ha,aT,fO];rw[if_pos ⟨trivial,trivial,trivial,trivial,trivial,by rw[hlen]at dB;simpa using dB⟩,o3 (sM aY)]
     done
    ·show dz b es _ (.mk ((s.l++y.l).map f)) _
     rw[hM,ed];exact .row _ _ (by simp[hd]) fp
  ·cases hs
theorem adq{α:Type}{es bytes b:Nat}{f:α->V}{s y ao:al α}{cQ ez:ah}{cR:V}{m:List (Nat × bd)}{ms:bV}{H:Heap}{ag:ah->V}(bN:b<=H.length)(k:Nat)
  (hs:et bytes s y=some ao) (hO:Own H ms) (hk:ms[k]? =some m) (hr:dS b es f cR s m) (ha:ag cQ=cR) (hb:elems H es (ag ez)=some (y.l.map f)) (hp:∀a,bS (f a)=true) (hc:∀a,b7 (aL (f a))=true):
  ∃v' H1 bm m',b<=bm/\b<=H1.length/\bK (cp ab) ag H H.length (.append es bytes cQ ez)=some (v',H1,bm)/\dS b es f v' ao m'/\Own H1 (ms.set k m'):=by
 have kT:ms.set k m=ms:=by
  apply lP;intro i;by_cases e:k=i
  ·subst e;rw[mi (fu.1 hk).1,hk]
  ·rw[iL e]
 have hfz:eL H H.length (y.l.map f)=some (y.l.map f,H,H.length):=uu (oK hp _);have mL:=qN hc y.l;unfold et at hs;by_cases hy:y.l=[]
 ·rw[if_pos hy]at hs
  cases hs;refine⟨cR,H,H.length,m,bN,bN,?_,hr,by rw[kT];exact hO⟩;rw[kx];simp only[step,hb];rw[hfz,hy];simp only[hP,Db,if_true,ha];have cE:dz b es cR (s.map f) m:=hr;generalize kY:s.map f=e7 at cE;cases cE with
  |nil=>rfl
  |emp=>rfl
  |row l ds h fp=>simp[hO.get k hk]
 ·rw[if_neg hy]at hs
  split at hs
  ·rename_i dB
   cases hs
   have bb:(y.l.map f).isEmpty=false:=by cases qO:y.l with
    |nil=>exact absurd qO hy
    |cons=>rfl
   have lz:(b7 ((y.l.map f).flatMap aL)=false)=False:=by rw[mL];simp
   have cE:dz b es cR (s.map f) m:=hr;generalize kY:s.map f=e7 at cE;cases cE with
   |nil=>
    have ed:s.l=[]:=by cases s<;>simp_all [al.map,al.l]
    have kz:(y.l.map f).length*(bytes+1)<=2^40:=by simpa[ed]using dB
    refine⟨.aN H.length es 0 (y.l.map f).length (y.l.map f).length,H++[.row es (y.l.map f) false],H.length,[(H.length,.row es (y.l.map f) false)],bN,by simp;omega,?_,?_,hO.fill k hk⟩
    ·rw[kx]
     simp only[step,hb];rw[hfz];simp only[bb,ga,if_false,lz,ha,kz,if_true]
    ·simp only[ed,ij,al.map]
     exact .row _ _ (by simpa using hy) bN
   |emp=>
    have ed:s.l=[]:=by cases s<;>simp_all [al.map,al.l]
    have kz:(y.l.map f).length*(bytes+1)<=2^40:=by simpa[ed]using dB
    refine⟨.aN H.length es 0 (y.l.map f).length (y.l.map f).length,H++[.row es (y.l.map f) false],H.length,[(H.length,.row es (y.l.map f) false)],bN,by simp;omega,?_,?_,hO.fill k hk⟩
    ·rw[kx]
     simp only[step,hb];rw[hfz];simp only[bb,ga,if_false,lz,ha,kz,if_true]
    ·simp only[ed,ij,al.map]
     exact .row _ _ (by simpa using hy) bN
   |row l ds hd fp=>
    have ed:s.l.map f=ds:=by cases s<;>simp_all [al.map,al.l]
    have hlen:s.l.length=ds.length:=by rw[<-ed,eA]
    have aT:=hO.get k hk;have aY:=oI aT;refine⟨.aN l es 0 (ds++y.l.map f).length (ds++y.l.map f).length,H.set l (.row es (ds++y.l.map f) false),l,[(l,.row es (ds++y.l.map f) false)],fp,by simpa using bN,?_,?_,hO.put k hk⟩
    ·rw[kx]
     simp only[step,hb];rw[hfz];simp only[bb,ga,if_false,lz,ha,aT,fO];rw[if_pos ⟨trivial,trivial,trivial,trivial,trivial,by rw[hlen]at dB;simpa using dB⟩,o3 (sM aY)]
     done
    ·show dz b es _ (.mk ((s.l++y.l).map f)) _
     rw[hM,ed];exact .row _ _ (by simp[hd]) fp
  ·cases hs
theorem RC{α:Type}{es bytes:Nat}{f:α->V}{s y z:al α}{cQ ez:ah}{call:cj}{ag:ah->V}{H:Heap}{low:Nat}(hs:et bytes s y=some z)(he:s=.nil\/s=.emp)(ha:ag cQ=b4 es f s)(hb:ag ez=b4 es f y)(hp:∀a,bS (f a)=true)(hc:∀a,b7 (aL (f a))=true):
  bK call ag H low (.rh es bytes cQ ez)=some (b4 es f z,H,low):=by
 show step ag H low (.rh es bytes cQ ez)=_;have hfz:cB (y.l.map f)=true:=oK hp _;have mL:=qN hc y.l;simp only[step,hb,qM,hfz];unfold et at hs;by_cases hy:y.l=[]
 ·rw[if_pos hy]at hs
  cases hs;rw[ha,hy];rcases he with rfl|rfl<;>simp[b4]
 ·rw[if_neg hy]at hs
  split at hs
  ·rename_i dB
   cases hs
   have bb:(y.l.map f).isEmpty=false:=by cases qO:y.l with
    |nil=>exact absurd qO hy
    |cons=>rfl
   have ed:s.l=[]:=by rcases he with rfl|rfl<;>rfl
   have kz:(y.l.map f).length*(bytes+1)<=2^40:=by simpa[ed]using dB
   rw[ha];rcases he with rfl|rfl<;>simp only[b4,bb,mL,kz,ga,if_false,and_self,if_true,Bool.true_eq_false,ed,ij]
  ·cases hs
end Go.Abs
namespace Go.Abs.fM
open Go Go.Abs
inductive aD (ar:Nat->Type):Type where
 |int (k:IntKind) (n:Int)
 |eS (b:Bool)
 |bo (i:Nat) (neg:Bool)
 |str (s:mK)
 |sl (t:Nat) (s:al (ar t))
 |k (v:V)
 |agg (vs:List (aD ar))
 |aR (vs:List (aD ar))
 |dp (vs:List (aD ar)) (f:Nat)
 |ptr (o off:Nat)
 |row (o:Nat)
 |gC (o:Nat) (n:Int) (f:Nat)
 |iG (o:Nat) (a b:Int)
 |fn (i:Nat) (caps:List (aD ar))
 |fv (j:Nat)
 |iH
structure fW where
 ar:Nat->Type
 es:Nat->Nat
 enc:(t:Nat)->ar t->V
 e7:(t:Nat)->ar t->Nat->aD ar
 oM:(t:Nat)->ar t->List Bool
 gu:(t:Nat)->aD ar->List Bool->Option (ar t)
 aO:Nat->Bool
 bE:Nat->Option Nat
 beq:(t:Nat)->ar t->ar t->Bool
 mp:Nat->Option (Nat × Nat)
 RD:∀c p,mp c=some p->ar c=List (ar p.1 × ar p.2)
section
variable (U:fW)(B:List Bool)(ρ:List V)(fs:List V)
inductive uv:V->Nat->Nat->V->Prop
 |row (l es N a b:Nat) (h:a<b):uv (.aN l es 0 N N) a b (.aN l es a (b-a) N)
 |RE (l es N a:Nat):uv (.aN l es 0 N N) a a (.list es [])
 |nil:uv .ak 0 0 .ak
 |emp:uv .emp 0 0 .emp
mutual
inductive bp:aD U.ar->V->Prop
 |int {k:IntKind} {n:Int}:bp (.int k n) (.int k n)
 |eS {b:Bool}:bp (.eS b) (.bool b)
 |bo {i:Nat} {b neg:Bool} (h:B[i]? =some b):bp (.bo i neg) (.bool (b != neg))
 |str {s:mK}:bp (.str s) (.str s)
 |sl {t:Nat} {s:al (U.ar t)}:bp (.sl t s) (b4 (U.es t) (U.enc t) s)
 |k {v:V}:bp (.k v) v
 |agg {vs:List (aD U.ar)} {ws:List V} (h:bT vs ws):bp (.agg vs) (.agg ws)
 |aR {vs:List (aD U.ar)} {ws:List V} (h:bT vs ws):bp (.aR vs) (.aR ws)
 |dp {vs:List (aD U.ar)} {ws:List V} {f:Nat} (h:bT vs ws):bp (.dp vs f) (.dp ws f)
 |ptr {o off a:Nat} (h:ρ[o]? =some (.ptr a 0)):bp (.ptr o off) (.ptr a off)
 |row {o:Nat} {v:V} (h:ρ[o]? =some v):bp (.row o) v
 |gC {o f l es N:Nat} {n:Int} (h:ρ[o]? =some (.aN l es 0 N N)):bp (.gC o n f) (.fm l es n.toNat f N)
 |iG {o:Nat} {a b:Int} {v w:V} (h:ρ[o]? =some v) (hw:uv v a.toNat b.toNat w):bp (.iG o a b) w
 |fn {i:Nat} {cs:List (aD U.ar)} {ws:List V} (h:bT cs ws):bp (.fn i cs) (.fn i [] ws)
 |fv {j:Nat} {v:V} (h:fs[j]? =some v):bp (.fv j) v
 |iH {v:V}:bp .iH v
inductive bT:List (aD U.ar)->List V->Prop
 |nil:bT [] []
 |cons {v:aD U.ar} {w:V} {vs:List (aD U.ar)} {ws:List V} (h:bp v w) (r:bT vs ws):bT (v::vs) (w::ws)
end
end
section
variable{U:fW}{B oN:List Bool}{ρ b2 fs:List V}
theorem ji{α:Type}{l eB:List α}(h:l <+: eB){i:Nat}{a:α}(hi:l[i]? =some a):eB[i]? =some a:=by
 obtain⟨t,rfl⟩:=h;rw[ft (fu.1 hi).1];exact hi
mutual
theorem bp.mono (cw:B <+: oN)(aE:ρ <+: b2):∀{v:aD U.ar} {w:V},bp U B ρ fs v w->bp U oN b2 fs v w
 | _,_,.int=>.int
 | _,_,.eS=>.eS
 | _,_,.bo h=>.bo (ji cw h)
 | _,_,.str=>.str
 | _,_,.sl=>.sl
 | _,_,.k=>.k
 | _,_,.agg h=>.agg (bT.mono cw aE h)
 | _,_,.aR h=>.aR (bT.mono cw aE h)
 | _,_,.dp h=>.dp (bT.mono cw aE h)
 | _,_,.ptr h=>.ptr (ji aE h)
 | _,_,.row h=>.row (ji aE h)
 | _,_,.gC h=>.gC (ji aE h)
 | _,_,.iG h q=>.iG (ji aE h) q
 | _,_,.fn h=>.fn (bT.mono cw aE h)
 | _,_,.fv h=>.fv h
 | _,_,.iH=>.iH
theorem bT.mono (cw:B <+: oN)(aE:ρ <+: b2):∀{vs:List (aD U.ar)} {ws:List V},bT U B ρ fs vs ws->bT U oN b2 fs vs ws
 | _,_,.nil=>.nil
 | _,_,.cons h r=>.cons (bp.mono cw aE h) (bT.mono cw aE r)
end
mutual
theorem bp.back (cw:B <+: oN)(aE:ρ <+: b2):∀{v:aD U.ar} {w w':V},bp U B ρ fs v w->bp U oN b2 fs v w'->bp U B ρ fs v w'
 | _,_,_,.int,.int=>.int
 | _,_,_,.eS,.eS=>.eS
 | _,_,_,.bo h,.bo h'=>by
   have:=ji cw h;rw[h']at this;cases this;exact .bo h
 | _,_,_,.str,.str=>.str
 | _,_,_,.sl,.sl=>.sl
 | _,_,_,.k,.k=>.k
 | _,_,_,.agg h,.agg h'=>.agg (bT.back cw aE h h')
 | _,_,_,.aR h,.aR h'=>.aR (bT.back cw aE h h')
 | _,_,_,.dp h,.dp h'=>.dp (bT.back cw aE h h')
 | _,_,_,.ptr h,.ptr h'=>by
   have:=ji aE h;rw[h']at this;cases this;exact .ptr h
 | _,_,_,.row h,.row h'=>by
   have:=ji aE h;rw[h']at this;cases this;exact .row h
 | _,_,_,.gC h,.gC h'=>by
   have:=ji aE h;rw[h']at this;cases this;exact .gC h
 | _,_,_,.iG h _,.iG h' q=>by
   have:=ji aE h;rw[h']at this;cases this;exact .iG h q
 | _,_,_,.fn h,.fn h'=>.fn (bT.back cw aE h h')
 | _,_,_,.fv h,.fv h'=>.fv h'
 | _,_,_,.iH,.iH=>.iH
theorem bT.back (cw:B <+: oN)(aE:ρ <+: b2):∀{vs:List (aD U.ar)} {ws dD:List V},bT U B ρ fs vs ws->bT U oN b2 fs vs dD->bT U B ρ fs vs dD
 | _,_,_,.nil,.nil=>.nil
 | _,_,_,.cons h r,.cons h' lS=>.cons (bp.back cw aE h h') (bT.back cw aE r lS)
end
theorem bT.length{vs:List (aD U.ar)}{ws:List V}:bT U B ρ fs vs ws->vs.length=ws.length
 | .nil=>rfl
 | .cons _ r=>by simp[r.length]
theorem bT.get{vs:List (aD U.ar)}{ws:List V}:bT U B ρ fs vs ws->∀{i:Nat} {v:aD U.ar},vs[i]? =some v->∃w,ws[i]? =some w/\bp U B ρ fs v w
 | .nil,_,_,h=>by simp at h
 | .cons h r,0,_,e=>by simp at e;subst e;exact⟨_,rfl,h⟩
 | .cons h r,i+1,_,e=>by
   simp at e;obtain⟨w,ae,ai⟩:=r.get e;exact⟨w,by simpa using ae,ai⟩
theorem bT.drop{vs:List (aD U.ar)}{ws:List V}:bT U B ρ fs vs ws->∀i,bT U B ρ fs (vs.drop i) (ws.drop i)
 | .nil,i=>by cases i<;>exact .nil
 | .cons h r,0=>.cons h r
 | .cons h r,i+1=>r.drop i
theorem bT.take{vs:List (aD U.ar)}{ws:List V}:bT U B ρ fs vs ws->∀i,bT U B ρ fs (vs.take i) (ws.take i)
 | .nil,i=>by cases i<;>exact .nil
 | .cons h r,0=>.nil
 | .cons h r,i+1=>.cons h (r.take i)
theorem bT.set{vs:List (aD U.ar)}{ws:List V}:bT U B ρ fs vs ws->∀(i:Nat) {v:aD U.ar} {w:V},bp U B ρ fs v w->bT U B ρ fs (vs.set i v) (ws.set i w)
 | .nil,i,_,_,_=>by cases i<;>exact .nil
 | .cons h r,0,_,_,h'=>.cons h' r
 | .cons h r,i+1,_,_,h'=>.cons h (r.set i h')
theorem bT.app{vs vs':List (aD U.ar)}{ws dD:List V}:bT U B ρ fs vs ws->bT U B ρ fs vs' dD->bT U B ρ fs (vs++vs') (ws++dD)
 | .nil,h=>h
 | .cons h r,h'=>.cons h (r.app h')
end
structure eJ (U:fW):Prop where
 e7:∀(t:Nat) (x:U.ar t) (B:List Bool) (ρ fs:List V),bp U (B++U.oM t x) ρ fs (U.e7 t x B.length) (U.enc t x)
 gu:∀(t:Nat) (v:aD U.ar) (B:List Bool) (ρ fs:List V) (w:V) (x:U.ar t),bp U B ρ fs v w->U.gu t v B=some x->w=U.enc t x
 bS:∀(t:Nat) (x:U.ar t),bS (U.enc t x)=true
 ok:∀(t:Nat) (x:U.ar t),b7 (aL (U.enc t x))=true
 es:∀(t:Nat) (x:U.ar t),(aL (U.enc t x)).length=U.es t
 aO:∀(t:Nat) (x:U.ar t),U.aO t=true->flat (U.enc t x)=true
 RF:∀(t n:Nat),U.bE t=some n->∀a c:U.ar t,gS n (U.enc t a) (U.enc t c)=some (U.beq t a c)
def aX{α:Type}:List (Nat × α)->Nat->Option α
 |[],_=>none
 |(k,a)::r,t=>match Nat.beq k t with
  |true=>some a
  |false=>aX r t
def nth{α:Type}:List α->Nat->Option α
 |[],_=>none
 |a::_,0=>some a
 | _::r,n+1=>nth r n
theorem qQ{α:Type}:∀(l:List α) (n:Nat),nth l n=l[n]?
 |[],_=>by simp[nth]
 | _::_,0=>rfl
 | _::r,n+1=>by simp[nth,qQ r n]
theorem eG{α:Type}(k t:Nat)(a:α)(r:List (Nat × α)):aX ((k,a)::r) t=if k=t then some a else aX r t:=by
 simp only[aX];cases hb:Nat.beq k t with
 |true=>rw[if_pos (dm hb)]
 |false=>rw[if_neg (fun e=>by rw[e,sO]at hb;cases hb)]
theorem wR{α:Type}(l r:List (Nat × α))(t:Nat):aX (l++r) t=match aX l t with
  |some a=>some a
  |none=>aX r t:=by
 induction l with
 |nil=>rfl
 |cons p l ih=>
  obtain⟨k,a⟩:=p;rw[kE,eG,eG];by_cases e:k=t
  ·rw[if_pos e,if_pos e]
  ·rw[if_neg e,if_neg e];exact ih
def mem (t:Nat):List Nat->Bool
 |[]=>false
 |k::r=>match Nat.beq k t with
  |true=>true
  |false=>mem t r
theorem mem_iff (t:Nat):∀l:List Nat,mem t l=true↔t∈l
 |[]=>by simp[mem]
 |k::r=>by
  simp only[mem,cY];cases hb:Nat.beq k t with
  |true=>simp[dm hb]
  |false=>
   have:¬t=k:=fun e=>by rw[e,sO]at hb;cases hb
   simp[this,mem_iff t r]
end Go.Abs.fM
