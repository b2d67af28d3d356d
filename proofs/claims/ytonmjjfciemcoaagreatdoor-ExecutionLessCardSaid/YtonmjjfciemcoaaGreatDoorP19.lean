/- Texts of this claim, joined and written short by a program. -/
import Derived.Test.YtonmjjfciemcoaaGreatDoorP18
import Derived.Lib.Fields
import Derived.Lib.Bytealg
import Derived.KernelRfl
import Derived.Test.YtonmjjfciemcoaaGreatDoorP00
set_option linter.unusedVariables false
set_option linter.unusedSimpArgs false
set_option linter.unusedSectionVars false
namespace Go.Abs
open Go
inductive iA (call:cW) (ms:cG):List bS->bW->bW->bW->bW->Prop
 |nil {aq σ:bW}:iA call ms [] aq σ aq σ
 |step {o:bS} {rest:List bS} {aq σ a1 aW:bW} {v:V} (hw:gd aq σ o.guard=some true) (h:∀H,Own H ms->cc call (bw aq σ) H H.length o.op=some (v,H,H.length)) (k:iA call ms rest (fI aq o.dst v) (fJ σ o.dst v) a1 aW):iA call ms (o::rest) aq σ a1 aW
 |skip {o:bS} {rest:List bS} {aq σ a1 aW:bW} (hw:gd aq σ o.guard=some false) (k:iA call ms rest (fI aq o.dst (.aU [])) (fJ σ o.dst (.aU [])) a1 aW):iA call ms (o::rest) aq σ a1 aW
section
variable{call:cW}{ms:cG}{d:Option (Nat × Bool)}{op:cV}{rest:List bS}{aq σ a1 aW:bW}{t:aj}{β w:Bool}
theorem iA.pp (v:V)(k:iA call ms rest (fI aq d v) (fJ σ d v) a1 aW)(h:∀H,Own H ms->cc call (bw aq σ) H H.length op=some (v,H,H.length):=by exact fun _ _=>rfl):iA call ms (⟨d,op,none⟩::rest) aq σ a1 aW:=.step rfl h k
theorem iA.ph (v:V)(h:∀H,Own H ms->cc call (bw aq σ) H H.length op=some (v,H,H.length))(k:iA call ms rest (fI aq d v) (fJ σ d v) a1 aW):iA call ms (⟨d,op,none⟩::rest) aq σ a1 aW:=.step rfl h k
theorem iA.lj (v:V)(c:β=w)(h:∀H,Own H ms->cc call (bw aq σ) H H.length op=some (v,H,H.length))(k:iA call ms rest (fI aq d v) (fJ σ d v) a1 aW)(ht:bw aq σ t=.bool β:=by exact rfl):iA call ms (⟨d,op,some (t,w)⟩::rest) aq σ a1 aW:=.step (jo ht c) h k
theorem iA.qG (c:β=false)(k:iA call ms rest (fI aq d (.aU [])) (fJ σ d (.aU [])) a1 aW)(ht:bw aq σ t=.bool β:=by exact rfl):iA call ms (⟨d,op,some (t,true)⟩::rest) aq σ a1 aW:=.skip (LH ht c) k
theorem iA.cC (c:β=true)(k:iA call ms rest (fI aq d (.aU [])) (fJ σ d (.aU [])) a1 aW)(ht:bw aq σ t=.bool β:=by exact rfl):iA call ms (⟨d,op,some (t,false)⟩::rest) aq σ a1 aW:=.skip (LI ht c) k
end
theorem Rl (v:V):dS v v=true:=by
 have key:(∀v,dS v v=true)/\(∀vs,nN vs vs=true):=by
  refine⟨fun v=> ?_,fun vs=> ?_⟩
  ·exact V.rec (motive_1:=fun v=>dS v v=true) (motive_2:=fun vs=>nN vs vs=true)
    (by simp[dS]) (by simp[dS]) (by simp[dS]) rfl rfl (by intro e ds h;simp[dS,h]) (by intro vs h;simpa[dS]using h) (by intro vs h;simpa[dS]using h) rfl (by simp[dS]) (by simp[dS])
    (by intro vs f h;simp[dS,h]) (by simp[dS]) rfl (by simp[dS]) rfl (by intro i a b h1 h2;simp[dS,h1,h2]) (by simp[dS]) rfl (by intro t v h;simp[dS,h]) rfl rfl (by intro a r h1 h2;simp[nN,h1,h2]) v
  ·exact V.rec_1 (motive_1:=fun v=>dS v v=true) (motive_2:=fun vs=>nN vs vs=true)
    (by simp[dS]) (by simp[dS]) (by simp[dS]) rfl rfl (by intro e ds h;simp[dS,h]) (by intro vs h;simpa[dS]using h) (by intro vs h;simpa[dS]using h) rfl (by simp[dS]) (by simp[dS])
    (by intro vs f h;simp[dS,h]) (by simp[dS]) rfl (by simp[dS]) rfl (by intro i a b h1 h2;simp[dS,h1,h2]) (by simp[dS]) rfl (by intro t v h;simp[dS,h]) rfl rfl (by intro a r h1 h2;simp[nN,h1,h2]) vs
 exact key.1 v
theorem G9{call:cW}:∀{ops:List bS} {st aQ:av} {wr fq:List Bool},c3 call ops st wr=some (aQ,fq)->∃cl,fx call ops st=some cl
 |[],st,_,_,_,_=>⟨[st],rfl⟩
 |o::r,st,aQ,wr,fq,h=>by
  simp only[c3]at h;simp only[fx];split at h
  ·split at h
   ·obtain⟨cl,e⟩:=G9 h
    exact⟨_,by rw[e];rfl⟩
   ·cases h
  ·obtain⟨cl,e⟩:=G9 h
   exact⟨_,by rw[e];rfl⟩
  ·cases h
theorem iA.run{call:cW}{ms:cG}:∀{A:List bS} {aq σ a1 aW:bW},iA call ms A aq σ a1 aW->∀{aF au:Env} {H:Heap} {low b:Nat} {wr:List Bool} (B:List bS),Fits aF aq->Fits au σ->Own H ms->b<=low->b<=H.length->
  ∃ja dt low',Fits ja a1/\Fits dt aW/\b<=low'/\c3 call (A++B) ⟨aF,au,H,low,none⟩ wr=c3 call B ⟨ja,dt,H,low',none⟩ (List.replicate A.length false++wr)/\
   ∀cl,fx call (A++B) ⟨aF,au,H,low,none⟩=some cl->∃kt lL,cl=kt++lL/\kt.length=A.length/\fx call B ⟨ja,dt,H,low',none⟩=some lL/\
    ∀H',Own H' ms->∀p∈A.zip kt,jz call (p.1,p.2,H')=true
 |[],aq,σ,_,_,.nil,aF,au,H,low,b,wr,B,h1,h2,_,hb,_=>⟨aF,au,low,h1,h2,hb,rfl,fun cl h=>⟨[],cl,rfl,rfl,h,fun _ _ p hp=>by cases hp⟩⟩
 |o::A,aq,σ,a1,aW,.step (v:=v) hw h k,aF,au,H,low,b,wr,B,h1,h2,aw,hb,fO=>by
  obtain⟨ny,lh,af,ak,bK⟩:=w6 h1 h2 H (min low H.length) o.dst v;obtain⟨ja,dt,low',f1,f2,f0,f3,f4⟩:=k.run (b:=b) (low:=min low H.length) (wr:=false::wr) B ak bK aw (by omega) fO;have jr:=hw;rw[<-A3 h1 h2]at jr;have hs:=h H aw;rw[<-tY h1 h2]at hs;refine⟨ja,dt,low',f1,f2,f0,?_,fun cl ht=> ?_⟩
  ·simp only[mi,c3,jr,hs,lJ]
   rw[af,f3];simp only[gD,List.replicate_succ'];rw[kA];rfl
  ·simp only[mi,fx,jr,hs]at ht
   rw[af]at ht;obtain⟨nU,eh,rfl⟩:=cA.1 ht;obtain⟨kt,lL,rfl,g1,g2,g3⟩:=f4 nU eh;refine⟨_::kt,lL,rfl,by simp[g1],g2,fun H' lM p hp=> ?_⟩;rw[Fo]at hp;rcases dx.1 hp with rfl|hp
   ·have wZ:=h H' lM
    rw[<-tY h1 h2]at wZ;simp only[jz,jr,hs,wZ,lJ,vQ,uW,Rl]
   ·exact g3 H' lM p hp
 |o::A,aq,σ,a1,aW,.skip hw k,aF,au,H,low,b,wr,B,h1,h2,aw,hb,fO=>by
  obtain⟨ny,lh,af,ak,bK⟩:=w6 h1 h2 H low o.dst (.aU []);obtain⟨ja,dt,low',f1,f2,f0,f3,f4⟩:=k.run (b:=b) (wr:=false::wr) B ak bK aw hb fO;have jr:=hw;rw[<-A3 h1 h2]at jr;refine⟨ja,dt,low',f1,f2,f0,?_,fun cl ht=> ?_⟩
  ·simp only[mi,c3,jr]
   rw[af,f3];simp only[gD,List.replicate_succ'];rw[kA];rfl
  ·simp only[mi,fx,jr]at ht
   rw[af]at ht;obtain⟨nU,eh,rfl⟩:=cA.1 ht;obtain⟨kt,lL,rfl,g1,g2,g3⟩:=f4 nU eh;refine⟨_::kt,lL,rfl,by simp[g1],g2,fun H' lM p hp=> ?_⟩;rw[Fo]at hp;rcases dx.1 hp with rfl|hp
   ·simp only[jz,jr]
   ·exact g3 H' lM p hp
theorem Own.more{H:Heap}{ms:cG}(h:Own H ms)(X:Heap):Own (H++X) ms:=
 ⟨fun m hm p hp=>by rw[e5 (h.lt hm hp)];exact h.1 m hm p hp,h.2⟩
theorem LO (aF au:Env)(H:Heap)(ro:Option Nat)(d:Option (Nat × Bool))(v:V):∃ny lh,∀l:Nat,av.put ⟨aF,au,H,l,ro⟩ d v=⟨ny,lh,H,l,ro⟩:=by
 match d with
 |none=>exact⟨aF,au,fun _=>rfl⟩
 |some (t,true)=>exact⟨aF,dD au t v,fun _=>rfl⟩
 |some (t,false)=>exact⟨(t,v)::aF,au,fun _=>rfl⟩
theorem Rm{call:cW}(hc:mE call):∀{B:List bS} {st:av} {cl:List av},st.low<=st.H.length->fx call B st=some cl->∀T∈cl,T.low<=st.low
 |[],st,cl,hl,ht,T,hT=>by
  simp only[fx,aB]at ht;subst ht;simp only[dx,r4,or_false]at hT;subst hT;exact aH _
 |o::r,st,cl,hl,ht,T,hT=>by
  simp only[fx]at ht;split at ht
  ·split at ht
   ·rename_i v H1 bO hs
    obtain⟨t0,h0,rfl⟩:=cA.1 ht;rcases dx.1 hT with rfl|hT
    ·exact aH _
    ·have ag:=Aj hc (aH _) hs
     have hp:=kI {st with H:=H1,low:=min st.low bO} o.dst v;have:=Rm hc (by rw[hp.1,hp.2.1];have:=ag.len;show min st.low bO<=H1.length;omega) h0 T hT;rw[hp.2.1]at this;exact cY this (jM _ _)
   ·cases ht
  ·obtain⟨t0,h0,rfl⟩:=cA.1 ht
   rcases dx.1 hT with rfl|hT
   ·exact aH _
   ·have hp:=kI st o.dst (.aU [])
    have:=Rm hc (by rw[hp.1,hp.2.1];exact hl) h0 T hT;rw[hp.2.1]at this;exact this
  ·cases ht
theorem Rn{call:cW}:∀{B:List bS} {st fin:av} {wr fq:List Bool},c3 call B st wr=some (fin,fq)->fin.low<=st.low
 |[],st,fin,wr,fq,h=>by
  simp only[c3,aB,bx]at h;rw[h.1];exact aH _
 |o::r,st,fin,wr,fq,h=>by
  simp only[c3]at h;split at h
  ·split at h
   ·rename_i v H1 bO hs
    have:=Rn h;rw[(kI {st with H:=H1,low:=min st.low bO} o.dst v).2.1]at this;exact cY this (jM _ _)
   ·cases h
  ·have:=Rn h
   rw[(kI st o.dst (.aU [])).2.1]at this;exact this
  ·cases h
theorem Ro{call:cW}:∀{B:List bS} {aF au:Env} {H:Heap} {L:Nat} {ro:Option Nat} {wr fq:List Bool} {fin:av} (ib:Nat),c3 call B ⟨aF,au,H,L,ro⟩ wr=some (fin,fq)->
  ∃DT,c3 call B ⟨aF,au,H,ib,ro⟩ wr=some ({fin with low:=DT},fq)/\min ib fin.low<=DT
 |[],aF,au,H,L,ro,wr,fq,fin,ib,h=>by
  simp only[c3,aB,bx]at h;obtain⟨rfl,rfl⟩:=h;exact⟨ib,rfl,jM _ _⟩
 |o::r,aF,au,H,L,ro,wr,fq,fin,ib,h=>by
  simp only[c3]at h⊢;split at h
  ·split at h
   ·rename_i v H1 bO hs
    have lH:=LO aF au H1 ro o.dst v;obtain⟨ny,lh,hp⟩:=lH;rw[hp]at h⊢;obtain⟨DT,e,hl⟩:=Ro (min ib bO) h;have hx:=Rn h;exact⟨DT,e,by simp only at hx;omega⟩
   ·cases h
  ·have lH:=LO aF au H ro o.dst (.aU [])
   obtain⟨ny,lh,hp⟩:=lH;rw[hp]at h⊢;exact Ro ib h
  ·cases h
theorem Rp{call:cW}:∀{B:List bS} {aF au:Env} {H:Heap} {L:Nat} {ro:Option Nat} {cl:List av} (ib:Nat),fx call B ⟨aF,au,H,L,ro⟩=some cl->
  ∃nU,fx call B ⟨aF,au,H,ib,ro⟩=some nU/\nU.map (·.H)=cl.map (·.H)
 |[],aF,au,H,L,ro,cl,ib,h=>by
  simp only[fx,aB]at h;subst h;exact⟨_,rfl,rfl⟩
 |o::r,aF,au,H,L,ro,cl,ib,h=>by
  simp only[fx]at h⊢;split at h
  ·split at h
   ·rename_i v H1 bO hs
    have lH:=LO aF au H1 ro o.dst v;obtain⟨ny,lh,hp⟩:=lH;rw[hp]at h⊢;obtain⟨t0,h0,rfl⟩:=cA.1 h;obtain⟨t1,af,ak⟩:=Rp (min ib bO) h0;exact⟨_,by rw[af];rfl,by simp[ak]⟩
   ·cases h
  ·have lH:=LO aF au H ro o.dst (.aU [])
   obtain⟨ny,lh,hp⟩:=lH;rw[hp]at h⊢;obtain⟨t0,h0,rfl⟩:=cA.1 h;obtain⟨t1,af,ak⟩:=Rp ib h0;exact⟨_,by rw[af];rfl,by simp[ak]⟩
  ·cases h
theorem Rq{call:cW}(hc:mE call):∀{B:List bS} {st fin:av} {wr fq:List Bool} {cl:List av},st.low<=st.H.length->c3 call B st wr=some (fin,fq)->fx call B st=some cl->∀T∈cl,fin.low<=T.low/\∀l,l<T.low->T.H[l]? =st.H[l]?
 |[],st,fin,wr,fq,cl,hl,h,ht,T,hT=>by
  simp only[c3,aB,bx]at h;simp only[fx,aB]at ht;obtain⟨rfl,-⟩:=h;subst ht;simp only[dx,r4,or_false]at hT;subst hT;exact⟨aH _,fun _ _=>rfl⟩
 |o::r,st,fin,wr,fq,cl,hl,h,ht,T,hT=>by
  have ig:=(pw hc _ _ _ _ _ hl h).1.low;simp only[c3]at h;simp only[fx]at ht;split at h
  ·rename_i hw
   split at h
   ·rename_i v H1 bO hs
    rw[hw]at ht;simp only[hs]at ht;obtain⟨t0,h0,rfl⟩:=cA.1 ht;rcases dx.1 hT with rfl|hT
    ·exact⟨ig,fun _ _=>rfl⟩
    ·have ag:=Aj hc (aH _) hs
     have hp:=kI {st with H:=H1,low:=min st.low bO} o.dst v
     have Aw:(({st with H:=H1,low:=min st.low bO}:av).put o.dst v).low<=(({st with H:=H1,low:=min st.low bO}:av).put o.dst v).H.length:=by
      rw[hp.1,hp.2.1];have:=ag.len;show min st.low bO<=H1.length;omega
     obtain⟨q1,q2⟩:=Rq hc Aw h h0 T hT;refine⟨q1,fun l aT=> ?_⟩
     have aek:T.low<=min st.low bO:=by
      have:=Rm hc Aw h0 T hT;rw[hp.2.1]at this;exact this
     rw[q2 l aT,hp.1];exact ag.same l (by omega)
   ·cases h
  ·rename_i hw
   rw[hw]at ht;simp only at ht;obtain⟨t0,h0,rfl⟩:=cA.1 ht;rcases dx.1 hT with rfl|hT
   ·exact⟨ig,fun _ _=>rfl⟩
   ·have hp:=kI st o.dst (.aU [])
    obtain⟨q1,q2⟩:=Rq hc (by rw[hp.1,hp.2.1];exact hl) h h0 T hT;refine⟨q1,fun l aT=> ?_⟩;rw[q2 l aT,hp.1]
  ·cases h
theorem ael{α β:Type}:∀(n:Nat) (l:List α) (r:List β),(l.zip r).take n=(l.take n).zip (r.take n)
 |0,_,_=>by simp
 |n+1,[],_=>by simp
 |n+1,_::_,[]=>by simp
 |n+1,a::l,b::r=>by simp[ael n l r]
section
variable{aa:Nat->Option bU}{b:Nat}{σ eH cU:bW}{H:Heap}{Q:X->bW->Heap->Prop}{ms:cG}
theorem Rr (aa:Nat->Option bU):mE (b0 aa):=fun f args H v H' low' h=>by
 obtain⟨n,hn⟩:=tp.1 h;exact KU aa n f args H v H' low' hn
theorem aem{ops:List bS}{eC:List Nat}(n:Nat)(aw:Own H ms)(hn:k1 ops=n)(hA:iA (b0 aa) ms (ops.take n) n9 σ eH cU)
  (dc:b<=H.length->Op aa H.length (ops.drop n) eH cU H (List.replicate n false) (fun aW H' wr=>ye eC ops wr=true/\Q .normal aW H')):fc aa b (.region ops (some eC)) σ H Q:=fun au low h1 h2 ar=>by
 have arC:n<=ops.length:=by rw[<-hn];exact Qf _ _
 have hlen:(ops.take n).length=n:=by rw[nc];omega
 have qw:ops.take n++ops.drop n=ops:=Oe n ops;obtain⟨ja,dt,low',f1,f2,f0,f3,f4⟩:=hA.run (b:=b) (wr:=[]) (ops.drop n) tX h1 aw h2 ar;rw[qw,hlen,lR]at f3;rw[qw]at f4;obtain⟨aen,DU,H2,dH,QN,jG,af,ak,bK,cL,dF,hE⟩:=dc ar ja dt H.length f1 f2 (aH _) (aH _);obtain⟨DT,g1,g2⟩:=Ro low' af;obtain⟨arD,aeo⟩:=G9 af;have ns:=Rq (Rr aa) (aH _) af aeo;rw[<-f3]at g1;obtain⟨cl,py⟩:=G9 g1;obtain⟨kt,lL,rfl,bQ,c6,iX⟩:=f4 cl py;obtain⟨aD7,q1,q2⟩:=Rp low' aeo;rw[c6]at q1;cases q1
 have Rs:∀T∈lL,Own T.H ms:=fun T hT=>by
  have hm:T.H∈arD.map (·.H):=by rw[<-q2];exact r2 hT
  obtain⟨arE,wF,e⟩:=dZ.1 hm;rw[<-e];obtain⟨bB,ca⟩:=ns arE wF;refine⟨fun m hm p hp=> ?_,aw.2⟩;have aT:=aw.lt hm hp;rw[ca p.1 (by simp only at bB;omega)];exact aw.1 m hm p hp
 have tS:pb (b0 aa) eC ops QN ⟨[],au,H,low,none⟩=true:=by
  unfold pb;rw[py];simp only[dF,fU]
  have eP:(CN ops (kt++lL)).all (jz (b0 aa))=true:=by
   unfold CN;rw[ev];intro q bf;simp only[CH,Wu]at bf;obtain⟨T,hT,⟨o,s⟩,eW,Rt⟩:=bf
   have aR:(ops.zip (kt++lL)).take (k1 ops)=(ops.take n).zip kt:=by
    rw[hn,ael,List.take_left' (by rw[bQ,hlen])]
   rw[aR]at eW
   have arF:T∈lL:=by
    have hge:kt.length<=qd ops:=by rw[bQ,hlen,<-hn];exact YF ops
    rw[Oo,zy hge,jN]at hT;exact x2 hT
   split at Rt
   ·cases Rt
    exact iX _ (Rs T arF) _ eW
   ·cases Rt
  rw[eP];simp
 refine⟨.normal,DU,H2,DT,jG,by rw[k2];simp only[g1,tS,Bool.or_true,if_true,av.fy],ak,?_,cY ar cL,hE⟩;simp only at g2;have:=cY ar bK;omega
end
end Go.Abs
namespace Go.Abs
open Go
variable{aa:Nat->Option bU}
def sL (n es bytes:Nat)(z:List V):hY:=⟨n,.seq (.region [⟨some (2,true),.mv (.const .aN),none⟩] none)
 (.seq (.seq (.region [⟨some (3,false),.mv (.var 0),none⟩,⟨some (4,true),.r5 1 false (.tmp 3) (.const .aN),none⟩] none)
   (.cond (.var 4) (.seq (.region [⟨some (2,true),.mv (.const .aN),none⟩] none) .ret) .skip))
   (.seq (.region [⟨some (5,false),.lit es z 0 [] true,none⟩,⟨some (6,false),.mv (.var 0),none⟩,⟨some (7,false),.append es bytes (.tmp 5) (.tmp 6),none⟩,⟨some (2,true),.mv (.tmp 7),none⟩] none) .ret)),[.tmp 2],true⟩
def pI{α:Type}(bytes:Nat):ae α->Option (ae α)
 | .nil=>some .nil
 |x=>gz bytes .emp x
theorem arG{i n es bytes:Nat}{z:List V}(cH:aa i=some (.code (sL n es bytes z)))(hn:1<=n)(H:Heap):b0 aa (.fn i [] []) [.aN] H=some (.aN,H,H.length):=by
 rw[k3,cH];simp[gF,sL,hn,hM,k2,mn,nP,nO,c3,cc,step,gE,av.put,aj.ah,fl,dD,bG,gP,kl,finish,fF,dR,old,ew,qY]
theorem arH{i n es bytes:Nat}{z:List V}(cH:aa i=some (.code (sL n es bytes z)))(hn:1<=n)(H:Heap):b0 aa (.fn i [] []) [.emp] H=some (.emp,H,H.length):=by
 rw[k3,cH];simp[gF,sL,hn,hM,k2,mn,nP,nO,c3,cc,step,gE,av.put,aj.ah,fl,dD,bG,gP,kl,finish,fF,dR,e0,qb,cj,elems,old,ew,qY]
theorem arI{i n es bytes:Nat}{z l:List V}(cH:aa i=some (.code (sL n es bytes z)))(hn:1<=n)(hp:cj l=true)(hc:bL (l.flatMap aC)=true)(hl:l≠[])(hb:l.length*(bytes+1)<=2^40)(H:Heap):
  b0 aa (.fn i [] []) [.list es l] H=some (.bJ H.length es 0 l.length l.length,H++[.row es l false],H.length):=by
 have ho:olds H.length l=true:=DQ hp;rw[k3,cH];simp[gF,sL,hn,hM,k2,mn,nP,nO,c3,cc,step,gE,av.put,aj.ah,fl,dD,bG,gP,kl,finish,fF,dR,e0,qb,cj,elems,old,ew,qY,vk hp,hl,hc,hb,ho]
theorem arJ{i n es bytes:Nat}{z:List V}(cH:aa i=some (.code (sL n es bytes z)))(hn:1<=n)(H:Heap):
  b0 aa (.fn i [] []) [.list es []] H=some (.emp,H,H.length):=by
 rw[k3,cH];simp[gF,sL,hn,hM,k2,mn,nP,nO,c3,cc,step,gE,av.put,aj.ah,fl,dD,bG,gP,kl,finish,fF,dR,e0,qb,cj,elems,old,ew,qY]
section
variable{b:Nat}{aq σ:bW}{H:Heap}{wr:List Bool}{rest:List bS}
theorem aep{α:Type}{i n es bytes:Nat}{f:α->V}{z:List V}{s y:ae α}{kN x:aj}{ms:cG}
  (cH:aa i=some (.code (sL n es bytes z))) (hn:1<=n) (hs:pI bytes s=some y) (aw:Own H ms) (ag:bw aq σ kN=.fn i [] []) (hx:bw aq σ x=bn es f s) (hp:∀a,bI (f a)=true) (hc:∀a,bL (aC (f a))=true) (hb:b<=H.length):
  ∃v H1 m',cc (b0 aa) (bw aq σ) H H.length (.call true kN [x])=some (v,H1,H.length)/\fE b es f v y m'/\Own H1 (m'::ms)/\H.length<=H1.length:=by
 have key:∀v,b0 aa (.fn i [] []) [bn es f s] H=some (v,H,H.length)->fE b es f v y []->∃v H1 m',cc (b0 aa) (bw aq σ) H H.length (.call true kN [x])=some (v,H1,H.length)/\fE b es f v y m'/\Own H1 (m'::ms)/\H.length<=H1.length:=fun v fm hr=>
  ⟨v,H,[],by rw[nw];simp[ag,hx,fm],hr,aw.ins 0,aH _⟩
 cases s with
 |nil=>cases hs;exact key _ (arG cH hn H) .nil
 |emp=>cases hs;exact key _ (arH cH hn H) .emp
 |mk l=>
  have hs:gz bytes .emp (ae.mk l)=some y:=hs;unfold gz at hs;by_cases hl:l=[]
  ·subst hl
   rw[if_pos (show(ae.mk ([]:List α)).l=[]from rfl)]at hs;cases hs;exact key _ (arJ cH hn H) .emp
  ·rw[if_neg (show ¬(ae.mk l).l=[]from hl)]at hs
   split at hs
   ·rename_i cy
    cases hs;have fm:=arI cH hn (ua hp l) (xa hc l) (by simpa using hl) (by simpa[ae.l]using cy) H;refine⟨.bJ H.length es 0 (l.map f).length (l.map f).length,H++[.row es (l.map f) false],[(H.length,.row es (l.map f) false)],?_,.row _ _ (by simpa using hl) hb,aw.grow _,by simp⟩;rw[nw];simp only[dv,iT,ag,hx,bn,fm,tg]
   ·cases hs
theorem arK{α:Type}{i n es bytes:Nat}{f:α->V}{z:List V}{s y:ae α}{d:Option (Nat × Bool)}{g:Option (aj × Bool)}{kN x:aj}{Q:bW->Heap->List Bool->Prop}{ms:cG}(hw:gd aq σ g=some true)
  (cH:aa i=some (.code (sL n es bytes z))) (hn:1<=n) (hs:pI bytes s=some y) (aw:Own H ms) (ag:bw aq σ kN=.fn i [] []) (hx:bw aq σ x=bn es f s) (hp:∀a,bI (f a)=true) (hc:∀a,bL (aC (f a))=true)
  (cr:∀H' v' m' mv,fE b es f v' y m'->Own H' (m'::ms)->Op aa b rest (fI aq d v') (fJ σ d v') H' (mv::wr) Q):Op aa b (⟨d,.call true kN [x],g⟩::rest) aq σ H wr Q:=fun aF au low h1 h2 ar aS=>by
 obtain⟨v,H1,m',af,ak,bK,cL⟩:=aep cH hn hs aw ag hx hp hc aS;exact j5 (o:=⟨d,.call true kN [x],g⟩) hw (fun hb=>⟨cY hb cL,H.length,hb,af,rfl⟩) (cr H1 v m' _ ak bK) aF au low h1 h2 ar aS
end
section
variable{b:Nat}{aq σ:bW}{H:Heap}{wr:List Bool}{rest:List bS}
theorem arL{es:Nat}{z:List V}{x:aj}{v v':V}{d:Option (Nat × Bool)}{g:Option (aj × Bool)}{ms gT:cG}{Q:bW->Heap->List Bool->Prop}(hw:gd aq σ g=some true)(aw:Own H ms)(aR:lK b 16 ms v v' gT)(hx:bw aq σ x=v)
  (hp:bI v'=true) (hc:(aC v').length=es/\bL (aC v')=true) (cr:∀H' mv,Own H' gT->Op aa b rest (fI aq d (.list es [v'])) (fJ σ d (.list es [v'])) H' (mv::wr) Q):Op aa b (⟨d,.lit es z 1 [(0,x)] true,g⟩::rest) aq σ H wr Q:=fun aF au low h1 h2 ar aS=>by
 obtain⟨H1,bO,af,iP,b1⟩:=aR H H.length aw aS;have eQ:fF H H.length v=some (v',H1,bO):=af;have hl:=(Dq eQ).2;have ag:=Ri (es:=es) (z:=lz z) [v'] [] (fun w hw=>by rw[zB]at hw;subst hw;exact hc);refine j5 (o:=⟨d,.lit es z 1 [(0,x)] true,g⟩) (v:=.list es [v']) (H1:=H1) (mv:=ew H H1 bO) hw (fun hb=>⟨by omega,bO,b1,?_,rfl⟩) (cr H1 _ iP) aF au low h1 h2 ar aS;rw[Lq];simp only[step,dv,iT,hx,e0,eQ,Fo,List.zip_nil_right];simp only[jN,nL,List.length_singleton,List.range'_one,Fo,List.zip_nil_right]at ag;simp only[ag,cj,hp,zK,if_true,Nat.one_ne_zero,if_false]
end
end Go.Abs
namespace Go.Abs
open Go
variable{aa:Nat->Option bU}
structure LP (aa:Nat->Option bU) (i es:Nat):Prop where
 nil:∀H,b0 aa (.fn i [] []) [.aN] H=some (.aU [],H,H.length)
 emp:∀H,b0 aa (.fn i [] []) [.emp] H=some (.aU [],H,H.length)
 row:∀(H:Heap) (l:Nat) (ds:List V),H[l]? =some (.row es ds false)->bL (ds.flatMap aC)=true->ds.length<=1099511627776->b0 aa (.fn i [] []) [.bJ l es 0 ds.length ds.length] H=some (.aU [],H.set l (.row es ds.reverse false),min H.length l)
structure LQ (aa:Nat->Option bU) (i es:Nat):Prop where
 row:∀(H:Heap) (l:Nat) (ds:List V) (a c:Nat),H[l]? =some (.row es ds false)->cj ds=true->bL (ds.flatMap aC)=true->ds.length<=1099511627776->a<=c->c<=ds.length->
  ∃kD,b0 aa (.fn i [] []) [.bJ l es 0 ds.length ds.length,.int .i64 a,.int .i64 c] H=some (.list es (ds.take a++ds.drop c),H.set l (.row es kD true),min H.length l)
def A9{α:Type}:ae α->Option (ae α)
 | .nil=>some .nil
 | .emp=>some .emp
 | .mk l=>if l.length<=1099511627776 then some (.mk l.reverse)else none
def Ba{α:Type}(s:ae α)(a c:Int):Option (ae α):=match s with
 | .mk l=>if 0<=a/\a<=c/\c<=l.length/\l.length<=1099511627776 then some (.mk (l.take a.toNat++l.drop c.toNat))else none
 | _=>none
section
variable{b:Nat}{aq σ:bW}{H:Heap}{wr:List Bool}{rest:List bS}
theorem aeq{α:Type}{l:List α}{k:Nat}{a:α}(h:l[k]? =some a):l.set k a=l:=by
 apply oA;intro i;by_cases e:k=i
 ·subst e;rw[nI (fj.1 h).1,h]
 ·rw[jx e]
theorem arM{α:Type}{i es:Nat}{f:α->V}{s y:ae α}{v:V}{m:List (Nat × b5)}{d:Option (Nat × Bool)}{g:Option (aj × Bool)}{kN x:aj}{Q:bW->Heap->List Bool->Prop}{ms:cG}(hw:gd aq σ g=some true)
  (cH:LP aa i es) (k:Nat) (hs:A9 s=some y) (aw:Own H ms) (hk:ms[k]? =some m) (hr:fE b es f v s m) (ag:bw aq σ kN=.fn i [] []) (hx:bw aq σ x=v) (hc:∀a,bL (aC (f a))=true)
  (cr:∀H' m' mv,fE b es f v y m'->Own H' (ms.set k m')->Op aa b rest (fI aq d (.aU [])) (fJ σ d (.aU [])) H' (mv::wr) Q):Op aa b (⟨d,.call true kN [x],g⟩::rest) aq σ H wr Q:=by
 cases s with
 |nil=>
  cases hs;have dj:fe b es v .nil m:=hr;cases dj;refine j5 (o:=⟨d,.call true kN [x],g⟩) (v:=.aU []) (H1:=H) (mv:=ew H H (min H.length H.length)) hw (fun hb=>⟨hb,_,by omega,?_,rfl⟩) (cr H [] _ .nil (by rw[aeq hk];exact aw));rw[nw];simp only[dv,iT,ag,hx,cH.nil]
 |emp=>
  cases hs;have dj:fe b es v .emp m:=hr;cases dj;refine j5 (o:=⟨d,.call true kN [x],g⟩) (v:=.aU []) (H1:=H) (mv:=ew H H (min H.length H.length)) hw (fun hb=>⟨hb,_,by omega,?_,rfl⟩) (cr H [] _ .emp (by rw[aeq hk];exact aw));rw[nw];simp only[dv,iT,ag,hx,cH.emp]
 |mk l=>
  have dj:fe b es v (.mk (l.map f)) m:=hr;have hs:(if l.length<=1099511627776 then some (ae.mk l.reverse)else none)=some y:=hs;split at hs
  ·rename_i hle
   cases hs;cases dj with
   |row a _ h hb=>
    have ba:=aw.get k hk;have aT:=sI ba;refine j5 (o:=⟨d,.call true kN [x],g⟩) (v:=.aU []) (H1:=H.set a (.row es (l.map f).reverse false)) (mv:=true) hw (fun cy=>⟨by simpa using cy,min H.length (min H.length a),by omega,?_,?_⟩) (cr _ _ _ ?_ (aw.put k hk))
    ·rw[nw]
     simp only[dv,iT,ag,hx,cH.row H a _ ba (xa hc l) (by simpa using hle)]
    ·simp only[ew,iI,decide_eq_true_eq]
     exact .inl (by omega)
    ·have:=fe.row (b:=b) (es:=es) a (l.map f).reverse (by simpa using h) hb
     rw[JV]at this;show fe b es _ (.mk (l.reverse.map f)) _;rw[List.map_reverse];exact this
  ·cases hs
theorem aer{α:Type}{es bytes:Nat}{f:α->V}{s y ao:ae α}{d:Option (Nat × Bool)}{g:Option (aj × Bool)}{dB fP:aj}{dC:V}{m:List (Nat × b5)}{Q:bW->Heap->List Bool->Prop}{ms:cG}(hw:gd aq σ g=some true)(k:Nat)
  (hs:gz bytes s y=some ao) (aw:Own H ms) (hk:ms[k]? =some m) (hr:fE b es f dC s m) (ha:bw aq σ dB=dC) (hb:elems H es (bw aq σ fP)=some (y.l.map f)) (hp:∀a,bI (f a)=true) (hc:∀a,bL (aC (f a))=true)
  (cr:∀H' v' m' mv,fE b es f v' ao m'->Own H' (ms.set k m')->Op aa b rest (fI aq d v') (fJ σ d v') H' (mv::wr) Q):Op aa b (⟨d,.append es bytes dB fP,g⟩::rest) aq σ H wr Q:=by
 intro aF au low h1 h2 ar aS
 have oR:ms.set k m=ms:=by
  apply oA;intro i;by_cases e:k=i
  ·subst e;rw[nI (fj.1 hk).1,hk]
  ·rw[jx e]
 have hfz:e0 H H.length (y.l.map f)=some (y.l.map f,H,H.length):=vk (ua hp _);have ry:=xa hc y.l;unfold gz at hs;by_cases hy:y.l=[]
 ·rw[if_pos hy]at hs
  cases hs;refine j5 (o:=⟨d,.append es bytes dB fP,g⟩) (mv:=false) (v:=dC) (H1:=H) hw (fun cy=>⟨cy,H.length,cy,?_,lJ H⟩) (cr H dC m false hr (by rw[oR];exact aw)) aF au low h1 h2 ar aS;rw[n4];simp only[step,hb];rw[hfz,hy];simp only[iT,Oq,if_true,ha];have dj:fe b es dC (s.map f) m:=hr;generalize oW:s.map f=hS at dj;cases dj with
  |nil=>rfl
  |emp=>rfl
  |row l ds h hD=>simp[aw.get k hk]
 ·rw[if_neg hy]at hs
  split at hs
  ·rename_i ea
   cases hs
   have bg:(y.l.map f).isEmpty=false:=by cases vl:y.l with
    |nil=>exact absurd vl hy
    |cons=>rfl
   have pF:(bL ((y.l.map f).flatMap aC)=false)=False:=by rw[ry];simp
   have dj:fe b es dC (s.map f) m:=hr;generalize oW:s.map f=hS at dj;cases dj with
   |nil=>
    have ec:s.l=[]:=by cases s<;>simp_all [ae.map,ae.l]
    have oc:(y.l.map f).length*(bytes+1)<=2^40:=by simpa[ec]using ea
    refine j5 (o:=⟨d,.append es bytes dB fP,g⟩) (mv:=true) (v:=.bJ H.length es 0 (y.l.map f).length (y.l.map f).length) (H1:=H++[.row es (y.l.map f) false]) hw
     (fun cy=>⟨by simp;omega,H.length,cy,?_,by simp[ew]⟩) (cr _ _ [(H.length,.row es (y.l.map f) false)] true ?_ (aw.fill k hk)) aF au low h1 h2 ar aS
    ·rw[n4]
     simp only[step,hb];rw[hfz];simp only[bg,gq,if_false,pF,ha,oc,if_true]
    ·simp only[ec,jN,ae.map]
     exact .row _ _ (by simpa using hy) aS
   |emp=>
    have ec:s.l=[]:=by cases s<;>simp_all [ae.map,ae.l]
    have oc:(y.l.map f).length*(bytes+1)<=2^40:=by simpa[ec]using ea
    refine j5 (o:=⟨d,.append es bytes dB fP,g⟩) (mv:=true) (v:=.bJ H.length es 0 (y.l.map f).length (y.l.map f).length) (H1:=H++[.row es (y.l.map f) false]) hw
     (fun cy=>⟨by simp;omega,H.length,cy,?_,by simp[ew]⟩) (cr _ _ [(H.length,.row es (y.l.map f) false)] true ?_ (aw.fill k hk)) aF au low h1 h2 ar aS
    ·rw[n4]
     simp only[step,hb];rw[hfz];simp only[bg,gq,if_false,pF,ha,oc,if_true]
    ·simp only[ec,jN,ae.map]
     exact .row _ _ (by simpa using hy) aS
   |row l ds hd hD=>
    have ec:s.l.map f=ds:=by cases s<;>simp_all [ae.map,ae.l]
    have hlen:s.l.length=ds.length:=by rw[<-ec,eL]
    have ba:=aw.get k hk;have aT:=sI ba
    refine j5 (o:=⟨d,.append es bytes dB fP,g⟩) (mv:=true) (v:=.bJ l es 0 (ds++y.l.map f).length (ds++y.l.map f).length) (H1:=H.set l (.row es (ds++y.l.map f) false)) hw
     (fun cy=>⟨by simpa using cy,l,hD,?_,by simp[ew,aT]⟩) (cr _ _ [(l,.row es (ds++y.l.map f) false)] true ?_ (aw.put k hk)) aF au low h1 h2 ar aS
    ·rw[n4]
     simp only[step,hb];rw[hfz];simp only[bg,gq,if_false,pF,ha,ba,eZ];rw[if_pos ⟨trivial,trivial,trivial,trivial,trivial,by rw[hlen]at ea;simpa using ea⟩,uU (vR aT)]
     done
    ·show fe b es _ (.mk ((s.l++y.l).map f)) _
     rw[kk,ec];exact .row _ _ (by simp[hd]) hD
  ·cases hs
theorem arN{i es:Nat}{d:Option (Nat × Bool)}{g:Option (aj × Bool)}{kN x:aj}{Q:bW->Heap->List Bool->Prop}(hw:gd aq σ g=some true)
  (cH:LP aa i es) (ag:bw aq σ kN=.fn i [] []) (hx:bw aq σ x=.aN)
  (cr:∀mv,Op aa b rest (fI aq d (.aU [])) (fJ σ d (.aU [])) H (mv::wr) Q):Op aa b (⟨d,.call true kN [x],g⟩::rest) aq σ H wr Q:=by
 refine j5 (o:=⟨d,.call true kN [x],g⟩) (v:=.aU []) (H1:=H) (mv:=ew H H (min H.length H.length)) hw (fun hb=>⟨hb,_,by omega,?_,rfl⟩) (cr _);rw[nw];simp only[dv,iT,ag,hx,cH.nil]
theorem arO{α:Type}{i es:Nat}{f:α->V}{s y:ae α}{v:V}{a c:Int}{m:List (Nat × b5)}{d:Option (Nat × Bool)}{g:Option (aj × Bool)}{kN x dB lE:aj}{Q:bW->Heap->List Bool->Prop}{ms:cG}(hw:gd aq σ g=some true)
  (cH:LQ aa i es) (k:Nat) (hs:Ba s a c=some y) (aw:Own H ms) (hk:ms[k]? =some m) (hr:fE b es f v s m) (ag:bw aq σ kN=.fn i [] []) (hx:bw aq σ x=v) (oe:bw aq σ dB=.int .i64 a) (Ru:bw aq σ lE=.int .i64 c) (hp:∀a,bI (f a)=true) (tt:∀a,bL (aC (f a))=true)
  (cr:∀H' m' mv,Own H' (ms.set k m')->Op aa b rest (fI aq d (bn es f y)) (fJ σ d (bn es f y)) H' (mv::wr) Q):Op aa b (⟨d,.call true kN [x,dB,lE],g⟩::rest) aq σ H wr Q:=by
 cases s with
 |nil=>cases hs
 |emp=>cases hs
 |mk l=>
  have dj:fe b es v (.mk (l.map f)) m:=hr;have hs:(if 0<=a/\a<=c/\c<=l.length/\l.length<=1099511627776 then some (ae.mk (l.take a.toNat++l.drop c.toNat))else none)=some y:=hs;split at hs
  ·rename_i hc
   obtain⟨h0,h1,h2,ar⟩:=hc;obtain⟨n,rfl⟩:=zw h0;obtain⟨q,rfl⟩:=zw (Int.le_trans h0 h1);cases hs;cases dj with
   |row a _ h hb=>
    have ba:=aw.get k hk;have aT:=sI ba;obtain⟨kD,e⟩:=cH.row H a _ n q ba (ua hp l) (xa tt l) (by simpa using ar) (by omega) (by rw[eL];omega);rw[<-List.map_take,<-List.map_drop,<-kk]at e;refine j5 (o:=⟨d,.call true kN [x,dB,lE],g⟩) (H1:=H.set a (.row es kD true)) (mv:=true) hw (fun cy=>⟨by simpa using cy,min H.length (min H.length a),by omega,?_,?_⟩) (cr _ _ _ (aw.put k hk))
    ·rw[nw]
     simp only[dv,iT,ag,hx,oe,Ru,e];rfl
    ·simp only[ew,iI,decide_eq_true_eq]
     exact .inl (by omega)
  ·cases hs
end
end Go.Abs
set_option maxHeartbeats 2000000
namespace Go.Abs.bz
open Go Go.Abs
structure gM where
 Table:Int
 j6:Int
 dp:Int
 deriving Inhabited
def jH (x:gM):V:=.agg [aI x.Table,aI x.j6,aI x.dp]
@[simp] theorem arP (x : gM) : bI (jH x) = true := by simp [jH, bI, cj]
@[simp] theorem arQ (x : gM) : bL (aC (jH x)) = true := by simp [jH, aC, bL]
structure Range where
 jI:Int
 j7:Int
 deriving Inhabited
def rz (x:Range):V:=.agg [aI x.jI,aI x.j7]
@[simp] theorem arR (x : Range) : bI (rz x) = true := by simp [rz, bI, cj]
@[simp] theorem arS (x : Range) : bL (aC (rz x)) = true := by simp [rz, aC, bL]
structure Table where
 Name:dn
 Kind:Int
 ch:(ae Int)
 Range:Range
 dK:Int
 deriving Inhabited
def l8 (x:Table):V:=.agg [.str x.Name,aI x.Kind,bn 1 aI x.ch,aI x.Range.jI,aI x.Range.j7,aI x.dK]
@[simp] theorem arT (x : Table) : bI (l8 x) = true := by simp [l8, bI, cj]
@[simp] theorem arU (x : Table) : bL (aC (l8 x)) = true := by simp [l8, aC, bL]
structure Term where
 Cell:Int
 gA:Int
 deriving Inhabited
def oX (x:Term):V:=.agg [aI x.Cell,aI x.gA]
@[simp] theorem arV (x : Term) : bI (oX x) = true := by simp [oX, bI, cj]
@[simp] theorem arW (x : Term) : bL (aC (oX x)) = true := by simp [oX, aC, bL]
structure Row where
 dq:(ae Term)
 qH:Int
 deriving Inhabited
def vm (x:Row):V:=.agg [bn 2 oX x.dq,aI x.qH]
@[simp] theorem arX (x : Row) : bI (vm x) = true := by simp [vm, bI, cj]
@[simp] theorem arY (x : Row) : bL (aC (vm x)) = true := by simp [vm, aC, bL]
structure Constraint where
 Kind:Int
 Bb:Int
 Row:Row
 dK:Int
 fS:Int
 deriving Inhabited
def uc (x:Constraint):V:=.agg [aI x.Kind,aI x.Bb,bn 2 oX x.Row.dq,aI x.Row.qH,aI x.dK,aI x.fS]
@[simp] theorem arZ (x : Constraint) : bI (uc x) = true := by simp [uc, bI, cj]
@[simp] theorem ar0 (x : Constraint) : bL (aC (uc x)) = true := by simp [uc, aC, bL]
structure eu where
 Name:dn
 Ordered:Bool
 bH:(ae Int)
 deriving Inhabited
def ud (x:eu):V:=.agg [.str x.Name,.bool x.Ordered,bn 1 aI x.bH]
@[simp] theorem ar1 (x : eu) : bI (ud x) = true := by simp [ud, bI, cj]
@[simp] theorem ar2 (x : eu) : bL (aC (ud x)) = true := by simp [ud, aC, bL]
structure Change where
 Cell:Int
 Add:Int
 deriving Inhabited
def ue (x:Change):V:=.agg [aI x.Cell,aI x.Add]
@[simp] theorem ar3 (x : Change) : bI (ue x) = true := by simp [ue, bI, cj]
@[simp] theorem ar4 (x : Change) : bL (aC (ue x)) = true := by simp [ue, aC, bL]
structure mN where
 Kind:Int
 Cell:Int
 Value:Int
 deriving Inhabited
def vn (x:mN):V:=.agg [aI x.Kind,aI x.Cell,aI x.Value]
@[simp] theorem ar5 (x : mN) : bI (vn x) = true := by simp [vn, bI, cj]
@[simp] theorem ar6 (x : mN) : bL (aC (vn x)) = true := by simp [vn, aC, bL]
structure b4 where
 Delta:(ae Change)
 dd:(ae Row)
 hg:(ae mN)
 deriving Inhabited
def DV (x:b4):V:=.agg [bn 2 ue x.Delta,bn 2 vm x.dd,bn 3 vn x.hg]
@[simp] theorem ar7 (x : b4) : bI (DV x) = true := by simp [DV, bI, cj]
@[simp] theorem ar8 (x : b4) : bL (aC (DV x)) = true := by simp [DV, aC, bL]
structure Action where
 eu:Int
 gN:(ae Int)
 b4:b4
 deriving Inhabited
def uf (x:Action):V:=.agg [aI x.eu,bn 1 aI x.gN,bn 2 ue x.b4.Delta,bn 2 vm x.b4.dd,bn 3 vn x.b4.hg]
@[simp] theorem ar9 (x : Action) : bI (uf x) = true := by simp [uf, bI, cj]
@[simp] theorem asa (x : Action) : bL (aC (uf x)) = true := by simp [uf, aC, bL]
structure Model where
 bH:(ae Int)
 Tables:(ae Table)
 ff:(ae dn)
 cN:(ae Constraint)
 Operations:(ae eu)
 Actions:(ae Action)
 cf:(ae gM)
 deriving Inhabited
def ug (x:Model):V:=.agg [bn 1 aI x.bH,bn 6 l8 x.Tables,bn 1 V.str x.ff,bn 6 uc x.cN,bn 3 ud x.Operations,bn 5 uf x.Actions,bn 3 jH x.cf]
@[simp] theorem asb (x : Model) : bI (ug x) = true := by simp [ug, bI, cj]
@[simp] theorem asc (x : Model) : bL (aC (ug x)) = true := by simp [ug, aC, bL]
structure dV where
 Model:Model
 strict:(ae Range)
 deriving Inhabited
def Ha (x:dV):V:=.agg [bn 1 aI x.Model.bH,bn 6 l8 x.Model.Tables,bn 1 V.str x.Model.ff,bn 6 uc x.Model.cN,bn 3 ud x.Model.Operations,bn 5 uf x.Model.Actions,bn 3 jH x.Model.cf,bn 2 rz x.strict]
@[simp] theorem asd (x : dV) : bI (Ha x) = true := by simp [Ha, bI, cj]
@[simp] theorem ase (x : dV) : bL (aC (Ha x)) = true := by simp [Ha, aC, bL]
structure gU where
 Kind:Int
 Index:Int
 deriving Inhabited
def DW (x:gU):V:=.agg [aI x.Kind,aI x.Index]
@[simp] theorem asf (x : gU) : bI (DW x) = true := by simp [DW, bI, cj]
@[simp] theorem asg (x : gU) : bL (aC (DW x)) = true := by simp [DW, aC, bL]
end Go.Abs.bz
namespace Go.Abs.Lex
open Go
def vo (c:UInt8):Bool:=decide (97<=c.toNat)&&decide (c.toNat<=122)
def qI (c:UInt8):Bool:=decide (48<=c.toNat)&&decide (c.toNat<=57)
def vp (c:UInt8):Bool:=vo c||qI c||c.toNat==95
def rA (c:UInt8):Bool:=c.toNat==32||c.toNat==9||c.toNat==10||c.toNat==13
def pre (s w:List UInt8):Bool:=s.take w.length==w
def two:List (List UInt8):=[[61,61],[33,61],[60,61],[62,61],[46,46]]
def one:List UInt8:=[60,62,61,43,45,42,40,41,123,125,44,58,59]
def sym (s:List UInt8):Nat:=if two.any (pre s)then 2 else match s with
 |[]=>0
 |c::_=>if one.contains c then 1 else 0
theorem drop_cons{α:Type}{s r:List α}{k:Nat}{c:α}(h:s.drop k=c::r):s[k]? =some c/\s.drop (k+1)=r/\k<s.length:=by
 have hk:k<s.length:=by
  rcases gh k s.length with h1|h1
  ·exact h1
  ·rw[Od h1]at h;cases h
 rw[uQ hk]at h;injection h with h1 h2;exact⟨by rw[eg hk,h1],h2,hk⟩
theorem drop_nil{α:Type}{s:List α}{k:Nat}(h:s.drop k=[]):s.length<=k:=by
 have:=congrArg List.length h;simp at this;omega
def mO (p:UInt8->Bool)(s:List UInt8):Nat:=(s.takeWhile p).length
theorem LR (p:UInt8->Bool)(c:UInt8)(s:List UInt8):mO p (c::s)=if p c then mO p s+1 else 0:=by
 unfold mO;rw[List.takeWhile_cons];cases p c<;>simp
theorem Hb (p:UInt8->Bool):∀s:List UInt8,mO p s<=s.length
 |[]=>aH _
 |c::s=>by
  rw[LR];have:=Hb p s;split<;>simp;omega
def ku:Bool->List UInt8->Nat
 | _,[]=>0
 |false,c::r=>if rA c then ku false r+1 else if c.toNat=35 then ku true r+1 else 0
 |true,c::r=>if c.toNat != 10 then ku true r+1 else ku false r+1
theorem Hd:∀(b:Bool) (s:List UInt8),ku b s<=s.length
 |b,[]=>by cases b<;>simp[ku]
 |false,c::r=>by
  have h1:=Hd false r;have h2:=Hd true r;simp only[ku,gD];split
  ·omega
  ·split<;>omega
 |true,c::r=>by
  have h1:=Hd false r;have h2:=Hd true r;simp only[ku,gD];split<;>omega
theorem aes:∀s:List UInt8,ku true s=mO (fun c=>c.toNat != 10) s+ku false (s.drop (mO (fun c=>c.toNat != 10) s))
 |[]=>rfl
 |c::r=>by
  rw[LR];by_cases h:(c.toNat != 10)=true
  ·simp only[ku,h,if_true,List.drop_succ_cons]
   rw[aes r];omega
  ·have hw:rA c=true:=by
    simp at h;simp[rA,h]
   simp[ku,h,hw]
theorem ash (l:List UInt8)(c:UInt8):0<=Lib.indexByte l c↔c∈l:=by
 induction l with
 |nil=>exact⟨fun h=>absurd h (show ¬(0:Int)<=-1 by decide),fun h=>by cases h⟩
 |cons b l ih=>
  have hge:=Lib.indexByte_ge l c;show(0<=if(b==c)=true then 0 else if(Lib.indexByte l c==-1)=true then -1 else Lib.indexByte l c+1)↔_;by_cases h:b=c
  ·subst h;simp
  ·have h1:(b==c)=false:=by simp[h]
   rw[h1,dx,<-ih];simp only[gq,if_false];by_cases ar:Lib.indexByte l c=-1
   ·simp[ar,ly h]
   ·have aS:(Lib.indexByte l c==-1)=false:=by simp[ar]
    simp only[aS,gq,if_false];constructor
    ·intro _;right;omega
    ·rintro(h5|h5)
     ·exact absurd h5.symm h
     ·omega
theorem asi (l:List UInt8)(c:UInt8):decide (0<=Lib.indexByte l c)=l.contains c:=by
 rw[zG,decide_eq_true_iff,ash,s9]
def xc (s:List UInt8):Bool:=match s with
 |[]=>false
 |c::_=>vo c||qI c||decide (0<sym s)
def LS:List UInt8:=[115,111,114,116,32,114,101,108,97,116,105,111,110,32,99,111,117,110,116,101,114,32,115,101,116,32,114,101,103,105,115,116,101,114,32,105,110,118,97,114,105,97,110,116,32,111,112,101,114,97,116,105,111,110,32,107,101,121,32,114,101,102,101,114,101,110,99,101,32,116,111,32,99,111,117,110,116,32,97,99,121,99,108,105,99,32,97,108,108,32,115,117,109,32,105,110,32,97,100,100,119,105,110,115,32,114,101,109,111,118,101,119,105,110,115,32,108,97,115,116,32,109,117,108,116,105,32,104,105,100,101,32,111,114,100,101,114,101,100,32,114,101,113,117,105,114,101,32,104,111,108,100,32,105,110,115,101,114,116,32,100,101,108,101,116,101,32,97,100,100,32,102,114,111,109,32,112,117,116,32,100,114,111,112,32,97,115,115,105,103,110,32,102,111,114,32,119,104,101,114,101,32,97,110,100,32,111,114,32,110,111,116]
def kw:List (List UInt8):=Lib.fields LS
theorem aet:kw.length=35:=by kernel_rfl
def sM:List UInt8->Nat
 |[]=>0
 |c::r=>if rA c||c.toNat==35||xc (c::r)then 0 else sM r+1
theorem aeu:∀s:List UInt8,sM s<=s.length
 |[]=>aH _
 |c::r=>by
  have:=aeu r;simp only[sM,gD];split<;>omega
def lk:List UInt8->Nat
 |[]=>0
 |c::r=>if vo c then(if kw.contains ((c::r).take (mO vp (c::r)))then 2 else 1)else if qI c then 3 else if 0<sym (c::r)then 4 else 5
def og:List UInt8->Nat
 |[]=>0
 |c::r=>if vo c then mO vp (c::r)else if qI c then mO qI (c::r)else if 0<sym (c::r)then sym (c::r)else sM r+1
theorem asj{s w:List UInt8}(h:pre s w=true):w.length<=s.length:=by
 unfold pre at h;have:=eq_of_beq h;rw[<-this,nc];exact nJ _ _
theorem asl (s:List UInt8):sym s<=s.length:=by
 unfold sym;split
 ·rename_i h
  obtain⟨w,hw,hp⟩:=tc.1 h;have:=asj hp;have h2:∀w∈two,w.length=2:=by decide
  rw[h2 w hw]at this;exact this
 ·split
  ·exact aH _
  ·split<;>simp
theorem asm (s:List UInt8):og s<=s.length:=by
 cases s with
 |nil=>exact aH _
 |cons c r=>
  have h1:=Hb vp (c::r);have h2:=Hb qI (c::r);have ar:=asl (c::r);have aS:=aeu r;simp only[og];split
  ·exact h1
  ·split
   ·exact h2
   ·split
    ·exact ar
    ·simp;omega
def hh (s:List UInt8)(fK:Nat):Nat:=fK+ku false (s.drop fK)
def oh (s:List UInt8)(fK:Nat):Nat:=hh s fK+og (s.drop (hh s fK))
theorem aev{s:List UInt8}{k:Nat}(h:k<=s.length):hh s k<=s.length:=by
 have:=Hd false (s.drop k);rw[nK]at this;unfold hh;omega
theorem asn{s:List UInt8}{k:Nat}(h:k<=s.length):oh s k<=s.length:=by
 have h1:=aev h;have:=asm (s.drop (hh s k));rw[nK]at this;unfold oh;omega
def kindOf (w:List UInt8):Nat:=if w=[]\/4096<w.length then 0 else if hh w 0=0/\oh w 0=w.length then lk w else 0
end Go.Abs.Lex
namespace Go.Abs
open Go
def yI (x y:Int × Int):Bool:=decide (x.1<=y.1)
def mP (l:List (Int × Int)):List (Int × Int):=l.mergeSort yI
theorem DX (l:List (Int × Int)):(mP l).Perm l:=List.mergeSort_perm ..
theorem aew (l:List (Int × Int)):(mP l).Pairwise fun x y=>yI x y=true:=
 List.pairwise_mergeSort (fun a b c h1 h2=>by unfold yI at *; simp only[decide_eq_true_eq]at *; omega) (fun a b=>by unfold yI;simp only[iI,decide_eq_true_eq];omega) l
theorem aso{l:List (Int × Int)}(hn:(l.map (·.1)).Nodup){a b:Int × Int}(ha:a∈l)(hb:b∈l)(h:a.1=b.1):a=b:=by
 induction l with
 |nil=>cases ha
 |cons x l ih=>
  rw[dv,tf]at hn;rw[dx]at ha hb;rcases ha with rfl|ha
  ·rcases hb with rfl|hb
   ·rfl
   ·exact(hn.1 (dZ.2 ⟨b,hb,h.symm⟩)).elim
  ·rcases hb with rfl|hb
   ·exact(hn.1 (dZ.2 ⟨a,ha,h⟩)).elim
   ·exact ih hn.2 ha hb
theorem aex{l d:List (Int × Int)}(hn:(l.map (·.1)).Nodup)(hp:d.Perm l)(hs:d.Pairwise fun x y=>yI x y=true):d=mP l:=by
 refine List.Perm.eq_of_pairwise (le:=fun x y=>yI x y=true) (fun a b ha hb h1 h2=> ?_) hs (aew l) (hp.trans (DX l).symm);unfold yI at h1 h2;simp only[decide_eq_true_eq]at h1 h2;exact aso hn (hp.mem_iff.1 ha) ((DX l).mem_iff.1 hb) (by omega)
theorem Rv (l:List (Int × Int)):(mP l).length=l.length:=(DX l).length_eq
def Bc (k:Int):List (Int × Int)->Option Int
 |[]=>none
 |(j,v)::l=>if k=j then some v else Bc k l
def nz (k v:Int):List (Int × Int)->List (Int × Int)
 |[]=>[(k,v)]
 |(j,u)::l=>if k=j then(k,v)::l else(j,u)::nz k v l
def qJ (es:List (Int × Int))(t:Int × Int):List (Int × Int):=nz t.1 (aM ((Bc t.1 es).getD 0+t.2)) es
def jc (l:List (Int × Int)):List (Int × Int):=l.foldl qJ []
def j8 (l:List (Int × Int)):List (Int × Int):=mP ((jc l).filter fun p=>p.2 != 0)
theorem aey{k v:Int}:∀{es:List (Int × Int)},(nz k v es).map Prod.fst=if k∈es.map Prod.fst then es.map Prod.fst else es.map Prod.fst++[k]
 |[]=>by simp[nz]
 |(j,u)::es=>by
  simp only[nz];by_cases h:k=j
  ·subst h;simp
  ·have ih:=aey (k:=k) (v:=v) (es:=es)
   rw[if_neg h];simp only[dv,ih,dx,h,false_or];split<;>simp
theorem aez{k v:Int}{es:List (Int × Int)}(h:(es.map Prod.fst).Nodup):((nz k v es).map Prod.fst).Nodup:=by
 rw[aey];split
 ·exact h
 ·rename_i hk
  rw[uT];refine⟨h,by simp,fun a ha b hb=> ?_⟩;rw[zB]at hb;subst hb;exact fun e=>hk (e ▸ ha)
theorem aeA:∀(l es:List (Int × Int)),(es.map Prod.fst).Nodup->((l.foldl qJ es).map Prod.fst).Nodup
 |[],es,h=>h
 |t::l,es,h=>aeA l _ (aez h)
theorem asp (l:List (Int × Int)):((jc l).map Prod.fst).Nodup:=aeA l [] (by simp)
theorem aeB{k v:Int}:∀{es:List (Int × Int)},(nz k v es).length<=es.length+1
 |[]=>by simp[nz]
 |(j,u)::es=>by
  simp only[nz];split
  ·simp
  ·have:=aeB (k:=k) (v:=v) (es:=es)
   simp only[gD];omega
theorem aeC:∀(l es:List (Int × Int)),(l.foldl qJ es).length<=es.length+l.length
 |[],es=>by simp
 |t::l,es=>by
  have:=aeC l (qJ es t);have h2:(qJ es t).length<=es.length+1:=aeB;simp only[p6,gD];omega
theorem aeD (l:List (Int × Int)):(jc l).length<=l.length:=by
 have:=aeC l [];simpa[jc]using this
theorem asq{l:List (Int × Int)}(h:(l.map Prod.fst).Nodup)(q:Int × Int->Bool):((l.filter q).map Prod.fst).Nodup:=h.sublist ((List.filter_sublist).map _)
end Go.Abs
namespace Go.Abs.bz
open Go Go.Abs
noncomputable section
def LU (w:dn):Option Int:=some (Lex.kindOf w)
def DY (x:ae Range)(n:Int):Option (ae Range):=if x.l.length=1/\1<=n/\n<=1000 then some (.mk ((List.replicate n.toNat x.l).flatten))else none
def DZ:Option Bool:=some true
def strings_IndexByte (s:dn)(c:Int):Option Int:=some (Lib.indexByte s (UInt8.ofNat c.toNat))
def xd (ts:List Table)(h:gM):Bool:=
 (decide (h.Table>=0)&&decide (h.Table<ts.length))&&((decide (h.dp>=0)&&decide (h.dp<ts.length))&&(!(h.Table==h.dp)&&match ts[h.Table.toNat]?,ts[h.dp.toNat]? with
   |some t,some u=>(t.Kind==0)&&((u.Kind==0)&&((decide (h.j6>=0)&&decide (h.j6<t.ch.l.length))&&((u.ch.l.length==1)&&(u.ch.l.getD 0 0==t.ch.l.getD h.j6.toNat 0))))
   | _,_=>false))
def l9 (hs:List gM):Nat->Int->Int->Bool
 |0,a,b=>a==b
 |n+1,a,b=>(a==b)||hs.any fun h=>(h.Table==a)&&l9 hs n h.dp b
def LV (hs:List gM)(n:Nat):Bool:=hs.all fun h=>!l9 hs n h.dp h.Table
def He (ts:List Table)(hs:List gM):Bool:=decide (hs.length<=12)&&(hs.all (xd ts)&&LV hs ts.length)
def Rw (j:dV):Option Bool:=some (He j.Model.Tables.l j.Model.cf.l)
def uh (l:List (Int × Int)):ae Term:=if l.isEmpty then .nil else .mk (l.map fun p=>⟨p.1,p.2⟩)
def D0 (x:ae Term):Option (ae Term):=if x.l.length<1073741824 then some (uh (j8 (x.l.map fun t=>(t.Cell,t.gA))))else none
end
end Go.Abs.bz
namespace Go.Abs.bz
open Go Go.Abs
structure Rd (hs:List gM) (ks tu:List Int):Prop where
 sub:∀t∈tu,t∈ks
 dk:tu.Nodup
 next:∀t∈tu,∃h∈hs,h.Table=t/\h.dp∈ks
 keep:∀K:Int->Prop,(∀t,K t->t∈ks)->(∀t,K t->∃h∈hs,h.Table=t/\K h.dp)->∀t,K t->t∈tu
inductive rB (hs:List gM) (ks:List Int):Nat->List Int->Prop
 |zero:rB hs ks 0 ks
 |succ {n:Nat} {bQ c6:List Int}:rB hs ks n bQ->Rd hs bQ c6->rB hs ks (n+1) c6
variable{hs:List gM}{ks:List Int}
theorem rB.sub{n:Nat}{k:List Int}(h:rB hs ks n k):∀t∈k,t∈ks:=by
 induction h with
 |zero=>exact fun t h=>h
 |succ _ h2 ih=>exact fun t h=>ih t (h2.sub t h)
theorem rB.keep{n:Nat}{k:List Int}(h:rB hs ks n k)(K:Int->Prop)(h1:∀t,K t->t∈ks)(h2:∀t,K t->∃h∈hs,h.Table=t/\K h.dp):∀t,K t->t∈k:=by
 induction h with
 |zero=>exact h1
 |succ _ ar ih=>exact ar.keep K ih h2
theorem rB.walk{n:Nat}{k:List Int}(h:rB hs ks n k):∀t∈k,∃f:Nat->Int,f 0=t/\(∀i,i<=n->f i∈ks)/\∀i,i<n->∃h∈hs,h.Table=f i/\h.dp=f (i+1):=by
 induction h with
 |zero=>exact fun t ht=>⟨fun _=>t,rfl,fun _ _=>ht,fun i hi=>absurd hi (CI i)⟩
 |@succ n bQ c6 h1 h2 ih=>
  intro t ht;obtain⟨h,e8,af,ak⟩:=h2.next t ht
  obtain⟨f,f0,f1,f2⟩:=ih h.dp ak;refine⟨fun i=>match i with|0=>t|i+1=>f i,rfl,fun i hi=> ?_,fun i hi=> ?_⟩
  ·cases i with
   |zero=>exact h1.sub t (h2.sub t ht)
   |succ i=>exact f1 i (by omega)
  ·cases i with
   |zero=>exact⟨h,e8,af,f0.symm⟩
   |succ i=>exact f2 i (by omega)
theorem yJ{α:Type}[BEq α][LawfulBEq α]:∀{l k:List α},l.Nodup->(∀x∈l,x∈k)->l.length<=k.length
 |[],_,_,_=>cJ _
 |a::l,k,hn,hs=>by
  obtain⟨h1,h2⟩:=tf.1 hn;have ha:=hs a (by simp);have ih:=yJ (l:=l) (k:=k.erase a) h2 fun x hx=>(List.mem_erase_of_ne (fun e=>h1 (by rw[<-e];exact hx))).2 (hs x (by simp[hx]));rw[List.length_erase_of_mem ha]at ih;have:=List.length_pos_of_mem ha;simp only[gD];omega
theorem Rx{f:Nat->Int}{k:List Int}(h:∀i,i<=k.length->f i∈k):∃i j,i<j/\j<=k.length/\f i=f j:=by
 refine Classical.byContradiction fun hc=> ?_
 have hnd:((List.range (k.length+1)).map f).Nodup:=by
  unfold List.Nodup;rw[List.pairwise_map];refine List.pairwise_lt_range.imp_of_mem fun {a b} ha hb ra e=>hc ⟨a,b,ra,?_,e⟩;have:=zJ.1 hb;omega
 have:=yJ hnd (k:=k) fun x hx=>by
  obtain⟨i,hi,rfl⟩:=dZ.1 hx;have:=zJ.1 hi;exact h i (by omega)
 simp at this;omega
theorem asr{n:Nat}{a b:Int}:∀{a:Int},l9 hs n a b=true->l9 hs (n+1) a b=true:=by
 induction n with
 |zero=>intro a h;simp only[l9]at h⊢; simp[h]
 |succ n ih=>
  intro a h;rw[l9,iI]at h⊢;rcases h with h|h
  ·exact .inl h
  ·refine .inr ?_
   obtain⟨x,hx,h1⟩:=tc.1 h;simp only[b6]at h1;exact tc.2 ⟨x,hx,by simp only[b6];exact⟨h1.1,ih h1.2⟩⟩
theorem ass{n m:Nat}{a b:Int}(h:n<=m)(hl:l9 hs n a b=true):l9 hs m a b=true:=by
 induction h with
 |refl=>exact hl
 |step _ ih=>exact asr (a:=a) ih
theorem aeE{f:Nat->Int}{n:Nat}(h:∀i,i<n->∃h∈hs,h.Table=f i/\h.dp=f (i+1)):∀k a,a+k<=n->l9 hs k (f a) (f (a+k))=true
 |0,a,_=>by simp[l9]
 |k+1,a,hk=>by
  obtain⟨x,hx,af,ak⟩:=h a (by omega);have ih:=aeE h k (a+1) (by omega);rw[l9,iI];refine .inr (tc.2 ⟨x,hx,?_⟩);rw[af,ak];simp only[beq_self_eq_true,fU];rw[show a+(k+1)=a+1+k by omega];exact ih
theorem ast{n:Nat}{a b:Int}(ra:a≠b)(h:l9 hs n a b=true):∃x∈hs,x.Table=a/\∃m,l9 hs m x.dp b=true:=by
 cases n with
 |zero=>simp only[l9,beq_iff_eq]at h;exact absurd h ra
 |succ n=>
  rw[l9,iI]at h;rcases h with h|h
  ·exact absurd (eq_of_beq h) ra
  ·obtain⟨x,hx,h1⟩:=tc.1 h
   simp only[b6,beq_iff_eq]at h1;exact⟨x,hx,h1.1,n,h1.2⟩
theorem asu{N:Nat}{k:List Int}(hnd:ks.Nodup)(hm:∀t,t∈ks↔∃h∈hs,h.Table=t)(dG:∀h∈hs,0<=h.Table/\h.Table<N)(hr:rB hs ks hs.length k):decide (k.length=0)=LV hs N:=by
 have Aw:ks.length<=hs.length:=by
  have:=yJ hnd (k:=hs.map (·.Table)) fun x hx=>by
   obtain⟨h,h1,h2⟩:=(hm x).1 hx;exact dZ.2 ⟨h,h1,h2⟩
  simpa using this
 have C5:ks.length<=N:=by
  have:=yJ hnd (k:=(List.range N).map Int.ofNat) fun x hx=>by
   obtain⟨h,h1,rfl⟩:=(hm x).1 hx;have:=dG h h1;exact dZ.2 ⟨h.Table.toNat,zJ.2 (by omega),by simp;omega⟩
  simpa using this
 rw[zG,decide_eq_true_iff];unfold LV;rw[ev];constructor
 ·intro h0 h e8
  have hk:k=[]:=uR.1 h0;cases hl:l9 hs N h.dp h.Table with
  |false=>rfl
  |true=>
   have oO:∀t,(∃n,l9 hs n t h.Table=true)->∃x∈hs,x.Table=t/\∃n,l9 hs n x.dp h.Table=true:=by
    rintro t ⟨n,hn⟩;by_cases e:t=h.Table
    ·exact⟨h,e8,e.symm,N,hl⟩
    ·exact ast e hn
   have:=hr.keep (fun t=>∃n,l9 hs n t h.Table=true) (fun t ht=>by
    obtain⟨x,hx,e,-⟩:=oO t ht;exact(hm t).2 ⟨x,hx,e⟩) oO h.Table ⟨0,by simp[l9]⟩
   rw[hk]at this;cases this
 ·intro eP
  refine Classical.byContradiction fun bg=> ?_;obtain⟨t,ht⟩:=List.exists_mem_of_length_pos (l:=k) (by omega);obtain⟨f,-,f1,f2⟩:=hr.walk t ht;obtain⟨i,j,cF,hj,e⟩:=Rx (f:=f) (k:=ks) fun i hi=>f1 i (by omega);obtain⟨x,hx,af,ak⟩:=f2 i (by omega);have hw:=aeE (n:=hs.length) f2 (j-(i+1)) (i+1) (by omega);rw[show i+1+(j-(i+1))=j by omega,<-e,<-af,<-ak]at hw;have:=eP x hx;rw[ass (m:=N) (by omega) hw]at this;cases this
end Go.Abs.bz
