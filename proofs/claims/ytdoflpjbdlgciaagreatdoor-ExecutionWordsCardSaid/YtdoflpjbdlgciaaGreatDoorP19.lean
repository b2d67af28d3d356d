/- Texts of this claim, joined and written short by a program. -/
import Derived.Test.YtdoflpjbdlgciaaGreatDoorP18
import Derived.Lib.Fields
import Derived.Lib.Bytealg
import Derived.KernelRfl
import Derived.Lib.Join
import Derived.Lib.ItoaNum
import Derived.Lib.Atoi
import Derived.Test.YtdoflpjbdlgciaaGreatDoorP00
set_option linter.unusedVariables false
set_option linter.unusedSimpArgs false
set_option linter.unusedSectionVars false
namespace Go.Abs
open Go
inductive ic (call:c1) (ms:cO):List bP->bY->bY->bY->bY->Prop
 |nil {aq σ:bY}:ic call ms [] aq σ aq σ
 |step {o:bP} {rest:List bP} {aq σ bp aV:bY} {v:V} (hw:gQ aq σ o.guard=some true) (h:∀H,Own H ms->cf call (bV aq σ) H H.length o.op=some (v,H,H.length)) (k:ic call ms rest (gl aq o.dst v) (gm σ o.dst v) bp aV):ic call ms (o::rest) aq σ bp aV
 |skip {o:bP} {rest:List bP} {aq σ bp aV:bY} (hw:gQ aq σ o.guard=some false) (k:ic call ms rest (gl aq o.dst (.bd [])) (gm σ o.dst (.bd [])) bp aV):ic call ms (o::rest) aq σ bp aV
section
variable{call:c1}{ms:cO}{d:Option (Nat × Bool)}{op:cS}{rest:List bP}{aq σ bp aV:bY}{t:aj}{β w:Bool}
theorem ic.pp (v:V)(k:ic call ms rest (gl aq d v) (gm σ d v) bp aV)(h:∀H,Own H ms->cf call (bV aq σ) H H.length op=some (v,H,H.length):=by exact fun _ _=>rfl):ic call ms (⟨d,op,none⟩::rest) aq σ bp aV:=.step rfl h k
theorem ic.ph (v:V)(h:∀H,Own H ms->cf call (bV aq σ) H H.length op=some (v,H,H.length))(k:ic call ms rest (gl aq d v) (gm σ d v) bp aV):ic call ms (⟨d,op,none⟩::rest) aq σ bp aV:=.step rfl h k
theorem ic.k9 (v:V)(c:β=w)(h:∀H,Own H ms->cf call (bV aq σ) H H.length op=some (v,H,H.length))(k:ic call ms rest (gl aq d v) (gm σ d v) bp aV)(ht:bV aq σ t=.bool β:=by exact rfl):ic call ms (⟨d,op,some (t,w)⟩::rest) aq σ bp aV:=.step (jf ht c) h k
theorem ic.qb (c:β=false)(k:ic call ms rest (gl aq d (.bd [])) (gm σ d (.bd [])) bp aV)(ht:bV aq σ t=.bool β:=by exact rfl):ic call ms (⟨d,op,some (t,true)⟩::rest) aq σ bp aV:=.skip (J6 ht c) k
theorem ic.cB (c:β=true)(k:ic call ms rest (gl aq d (.bd [])) (gm σ d (.bd [])) bp aV)(ht:bV aq σ t=.bool β:=by exact rfl):ic call ms (⟨d,op,some (t,false)⟩::rest) aq σ bp aV:=.skip (J7 ht c) k
end
theorem Qa (v:V):ek v v=true:=by
 have key:(∀v,ek v v=true)/\(∀vs,nv vs vs=true):=by
  refine⟨fun v=> ?_,fun vs=> ?_⟩
  ·exact V.rec (motive_1:=fun v=>ek v v=true) (motive_2:=fun vs=>nv vs vs=true)
    (by simp[ek]) (by simp[ek]) (by simp[ek]) rfl rfl (by intro e ds h;simp[ek,h]) (by intro vs h;simpa[ek]using h) (by intro vs h;simpa[ek]using h) rfl (by simp[ek]) (by simp[ek])
    (by intro vs f h;simp[ek,h]) (by simp[ek]) rfl (by simp[ek]) rfl (by intro i a b h1 h2;simp[ek,h1,h2]) (by simp[ek]) rfl (by intro t v h;simp[ek,h]) rfl rfl (by intro a r h1 h2;simp[nv,h1,h2]) v
  ·exact V.rec_1 (motive_1:=fun v=>ek v v=true) (motive_2:=fun vs=>nv vs vs=true)
    (by simp[ek]) (by simp[ek]) (by simp[ek]) rfl rfl (by intro e ds h;simp[ek,h]) (by intro vs h;simpa[ek]using h) (by intro vs h;simpa[ek]using h) rfl (by simp[ek]) (by simp[ek])
    (by intro vs f h;simp[ek,h]) (by simp[ek]) rfl (by simp[ek]) rfl (by intro i a b h1 h2;simp[ek,h1,h2]) (by simp[ek]) rfl (by intro t v h;simp[ek,h]) rfl rfl (by intro a r h1 h2;simp[nv,h1,h2]) vs
 exact key.1 v
theorem Fx{call:c1}:∀{ops:List bP} {st aX:au} {wr fD:List Bool},c5 call ops st wr=some (aX,fD)->∃cq,fA call ops st=some cq
 |[],st,_,_,_,_=>⟨[st],rfl⟩
 |o::r,st,aX,wr,fD,h=>by
  simp only[c5]at h;simp only[fA];split at h
  ·split at h
   ·obtain⟨cq,e⟩:=Fx h
    exact⟨_,by rw[e];rfl⟩
   ·cases h
  ·obtain⟨cq,e⟩:=Fx h
   exact⟨_,by rw[e];rfl⟩
  ·cases h
theorem ic.run{call:c1}{ms:cO}:∀{A:List bP} {aq σ bp aV:bY},ic call ms A aq σ bp aV->∀{aG aw:Env} {H:Heap} {low b:Nat} {wr:List Bool} (B:List bP),Fits aG aq->Fits aw σ->Own H ms->b<=low->b<=H.length->
  ∃iM dv low',Fits iM bp/\Fits dv aV/\b<=low'/\c5 call (A++B) ⟨aG,aw,H,low,none⟩ wr=c5 call B ⟨iM,dv,H,low',none⟩ (List.replicate A.length false++wr)/\
   ∀cq,fA call (A++B) ⟨aG,aw,H,low,none⟩=some cq->∃kn lA,cq=kn++lA/\kn.length=A.length/\fA call B ⟨iM,dv,H,low',none⟩=some lA/\
    ∀H',Own H' ms->∀p∈A.zip kn,jo call (p.1,p.2,H')=true
 |[],aq,σ,_,_,.nil,aG,aw,H,low,b,wr,B,h1,h2,_,hb,_=>⟨aG,aw,low,h1,h2,hb,rfl,fun cq h=>⟨[],cq,rfl,rfl,h,fun _ _ p hp=>by cases hp⟩⟩
 |o::A,aq,σ,bp,aV,.step (v:=v) hw h k,aG,aw,H,low,b,wr,B,h1,h2,aB,hb,hv=>by
  obtain⟨nn,k8,ag,e2,bI⟩:=vZ h1 h2 H (min low H.length) o.dst v;obtain⟨iM,dv,low',f1,f2,f0,f3,f4⟩:=k.run (b:=b) (low:=min low H.length) (wr:=false::wr) B e2 bI aB (by omega) hv;have jh:=hw;rw[<-zA h1 h2]at jh;have hs:=h H aB;rw[<-sS h1 h2]at hs;refine⟨iM,dv,low',f1,f2,f0,?_,fun cq ht=> ?_⟩
  ·simp only[ky,c5,jh,hs,lx]
   rw[ag,f3];simp only[dE,TK];rw[jJ];rfl
  ·simp only[ky,fA,jh,hs]at ht
   rw[ag]at ht;obtain⟨nE,eo,rfl⟩:=cG.1 ht;obtain⟨kn,lA,rfl,g1,g2,g3⟩:=f4 nE eo;refine⟨_::kn,lA,rfl,by simp[g1],g2,fun H' mJ p hp=> ?_⟩;rw[DI]at hp;rcases dL.1 hp with rfl|hp
   ·have zs:=h H' mJ
    rw[<-sS h1 h2]at zs;simp only[jo,jh,hs,zs,lx,mU,u0,Qa]
   ·exact g3 H' mJ p hp
 |o::A,aq,σ,bp,aV,.skip hw k,aG,aw,H,low,b,wr,B,h1,h2,aB,hb,hv=>by
  obtain⟨nn,k8,ag,e2,bI⟩:=vZ h1 h2 H low o.dst (.bd []);obtain⟨iM,dv,low',f1,f2,f0,f3,f4⟩:=k.run (b:=b) (wr:=false::wr) B e2 bI aB hb hv;have jh:=hw;rw[<-zA h1 h2]at jh;refine⟨iM,dv,low',f1,f2,f0,?_,fun cq ht=> ?_⟩
  ·simp only[ky,c5,jh]
   rw[ag,f3];simp only[dE,TK];rw[jJ];rfl
  ·simp only[ky,fA,jh]at ht
   rw[ag]at ht;obtain⟨nE,eo,rfl⟩:=cG.1 ht;obtain⟨kn,lA,rfl,g1,g2,g3⟩:=f4 nE eo;refine⟨_::kn,lA,rfl,by simp[g1],g2,fun H' mJ p hp=> ?_⟩;rw[DI]at hp;rcases dL.1 hp with rfl|hp
   ·simp only[jo,jh]
   ·exact g3 H' mJ p hp
theorem Own.more{H:Heap}{ms:cO}(h:Own H ms)(X:Heap):Own (H++X) ms:=
 ⟨fun m hm p hp=>by rw[gM (h.lt hm hp)];exact h.1 m hm p hp,h.2⟩
theorem Kd (aG aw:Env)(H:Heap)(ro:Option Nat)(d:Option (Nat × Bool))(v:V):∃nn k8,∀l:Nat,au.put ⟨aG,aw,H,l,ro⟩ d v=⟨nn,k8,H,l,ro⟩:=by
 match d with
 |none=>exact⟨aG,aw,fun _=>rfl⟩
 |some (t,true)=>exact⟨aG,fN aw t v,fun _=>rfl⟩
 |some (t,false)=>exact⟨(t,v)::aG,aw,fun _=>rfl⟩
theorem Qb{call:c1}(hc:my call):∀{B:List bP} {st:au} {cq:List au},st.low<=st.H.length->fA call B st=some cq->∀T∈cq,T.low<=st.low
 |[],st,cq,hl,ht,T,hT=>by
  simp only[fA,aA]at ht;subst ht;simp only[dL,ys,or_false]at hT;subst hT;exact aM _
 |o::r,st,cq,hl,ht,T,hT=>by
  simp only[fA]at ht;split at ht
  ·split at ht
   ·rename_i v H1 bS hs
    obtain⟨t0,h0,rfl⟩:=cG.1 ht;rcases dL.1 hT with rfl|hT
    ·exact aM _
    ·have ae:=yZ hc (aM _) hs
     have hp:=kE {st with H:=H1,low:=min st.low bS} o.dst v;have:=Qb hc (by rw[hp.1,hp.2.1];have:=ae.len;show min st.low bS<=H1.length;omega) h0 T hT;rw[hp.2.1]at this;exact dc this (jK _ _)
   ·cases ht
  ·obtain⟨t0,h0,rfl⟩:=cG.1 ht
   rcases dL.1 hT with rfl|hT
   ·exact aM _
   ·have hp:=kE st o.dst (.bd [])
    have:=Qb hc (by rw[hp.1,hp.2.1];exact hl) h0 T hT;rw[hp.2.1]at this;exact this
  ·cases ht
theorem Qc{call:c1}:∀{B:List bP} {st fin:au} {wr fD:List Bool},c5 call B st wr=some (fin,fD)->fin.low<=st.low
 |[],st,fin,wr,fD,h=>by
  simp only[c5,aA,bC]at h;rw[h.1];exact aM _
 |o::r,st,fin,wr,fD,h=>by
  simp only[c5]at h;split at h
  ·split at h
   ·rename_i v H1 bS hs
    have:=Qc h;rw[(kE {st with H:=H1,low:=min st.low bS} o.dst v).2.1]at this;exact dc this (jK _ _)
   ·cases h
  ·have:=Qc h
   rw[(kE st o.dst (.bd [])).2.1]at this;exact this
  ·cases h
theorem Qd{call:c1}:∀{B:List bP} {aG aw:Env} {H:Heap} {L:Nat} {ro:Option Nat} {wr fD:List Bool} {fin:au} (hY:Nat),c5 call B ⟨aG,aw,H,L,ro⟩ wr=some (fin,fD)->
  ∃Cs,c5 call B ⟨aG,aw,H,hY,ro⟩ wr=some ({fin with low:=Cs},fD)/\min hY fin.low<=Cs
 |[],aG,aw,H,L,ro,wr,fD,fin,hY,h=>by
  simp only[c5,aA,bC]at h;obtain⟨rfl,rfl⟩:=h;exact⟨hY,rfl,jK _ _⟩
 |o::r,aG,aw,H,L,ro,wr,fD,fin,hY,h=>by
  simp only[c5]at h⊢;split at h
  ·split at h
   ·rename_i v H1 bS hs
    have mB:=Kd aG aw H1 ro o.dst v;obtain⟨nn,k8,hp⟩:=mB;rw[hp]at h⊢;obtain⟨Cs,e,hl⟩:=Qd (min hY bS) h;have hx:=Qc h;exact⟨Cs,e,by simp only at hx;omega⟩
   ·cases h
  ·have mB:=Kd aG aw H ro o.dst (.bd [])
   obtain⟨nn,k8,hp⟩:=mB;rw[hp]at h⊢;exact Qd hY h
  ·cases h
theorem Qe{call:c1}:∀{B:List bP} {aG aw:Env} {H:Heap} {L:Nat} {ro:Option Nat} {cq:List au} (hY:Nat),fA call B ⟨aG,aw,H,L,ro⟩=some cq->
  ∃nE,fA call B ⟨aG,aw,H,hY,ro⟩=some nE/\nE.map (·.H)=cq.map (·.H)
 |[],aG,aw,H,L,ro,cq,hY,h=>by
  simp only[fA,aA]at h;subst h;exact⟨_,rfl,rfl⟩
 |o::r,aG,aw,H,L,ro,cq,hY,h=>by
  simp only[fA]at h⊢;split at h
  ·split at h
   ·rename_i v H1 bS hs
    have mB:=Kd aG aw H1 ro o.dst v;obtain⟨nn,k8,hp⟩:=mB;rw[hp]at h⊢;obtain⟨t0,h0,rfl⟩:=cG.1 h;obtain⟨t1,ag,e2⟩:=Qe (min hY bS) h0;exact⟨_,by rw[ag];rfl,by simp[e2]⟩
   ·cases h
  ·have mB:=Kd aG aw H ro o.dst (.bd [])
   obtain⟨nn,k8,hp⟩:=mB;rw[hp]at h⊢;obtain⟨t0,h0,rfl⟩:=cG.1 h;obtain⟨t1,ag,e2⟩:=Qe hY h0;exact⟨_,by rw[ag];rfl,by simp[e2]⟩
  ·cases h
theorem Qf{call:c1}(hc:my call):∀{B:List bP} {st fin:au} {wr fD:List Bool} {cq:List au},st.low<=st.H.length->c5 call B st wr=some (fin,fD)->fA call B st=some cq->∀T∈cq,fin.low<=T.low/\∀l,l<T.low->T.H[l]? =st.H[l]?
 |[],st,fin,wr,fD,cq,hl,h,ht,T,hT=>by
  simp only[c5,aA,bC]at h;simp only[fA,aA]at ht;obtain⟨rfl,-⟩:=h;subst ht;simp only[dL,ys,or_false]at hT;subst hT;exact⟨aM _,fun _ _=>rfl⟩
 |o::r,st,fin,wr,fD,cq,hl,h,ht,T,hT=>by
  have je:=(o2 hc _ _ _ _ _ hl h).1.low;simp only[c5]at h;simp only[fA]at ht;split at h
  ·rename_i hw
   split at h
   ·rename_i v H1 bS hs
    rw[hw]at ht;simp only[hs]at ht;obtain⟨t0,h0,rfl⟩:=cG.1 ht;rcases dL.1 hT with rfl|hT
    ·exact⟨je,fun _ _=>rfl⟩
    ·have ae:=yZ hc (aM _) hs
     have hp:=kE {st with H:=H1,low:=min st.low bS} o.dst v
     have zb:(({st with H:=H1,low:=min st.low bS}:au).put o.dst v).low<=(({st with H:=H1,low:=min st.low bS}:au).put o.dst v).H.length:=by
      rw[hp.1,hp.2.1];have:=ae.len;show min st.low bS<=H1.length;omega
     obtain⟨q1,aT⟩:=Qf hc zb h h0 T hT;refine⟨q1,fun l aH=> ?_⟩
     have abK:T.low<=min st.low bS:=by
      have:=Qb hc zb h0 T hT;rw[hp.2.1]at this;exact this
     rw[aT l aH,hp.1];exact ae.same l (by omega)
   ·cases h
  ·rename_i hw
   rw[hw]at ht;simp only at ht;obtain⟨t0,h0,rfl⟩:=cG.1 ht;rcases dL.1 hT with rfl|hT
   ·exact⟨je,fun _ _=>rfl⟩
   ·have hp:=kE st o.dst (.bd [])
    obtain⟨q1,aT⟩:=Qf hc (by rw[hp.1,hp.2.1];exact hl) h h0 T hT;refine⟨q1,fun l aH=> ?_⟩;rw[aT l aH,hp.1]
  ·cases h
theorem abL{α β:Type}:∀(n:Nat) (l:List α) (r:List β),(l.zip r).take n=(l.take n).zip (r.take n)
 |0,_,_=>by simp
 |n+1,[],_=>by simp
 |n+1,_::_,[]=>by simp
 |n+1,a::l,b::r=>by simp[abL n l r]
section
variable{ad:Nat->Option cb}{b:Nat}{σ eE cU:bY}{H:Heap}{Q:X->bY->Heap->Prop}{ms:cO}
theorem Qg (ad:Nat->Option cb):my (cl ad):=fun f args H v H' low' h=>by
 obtain⟨n,hn⟩:=sq.1 h;exact Jh ad n f args H v H' low' hn
theorem abM{ops:List bP}{eB:List Nat}(n:Nat)(aB:Own H ms)(hn:kV ops=n)(hA:ic (cl ad) ms (ops.take n) nK σ eE cU)
  (dK:b<=H.length->Op ad H.length (ops.drop n) eE cU H (List.replicate n false) (fun aV H' wr=>xj eB ops wr=true/\Q .normal aV H')):fg ad b (.region ops (some eB)) σ H Q:=fun aw low h1 h2 av=>by
 have aBu:n<=ops.length:=by rw[<-hn];exact O2 _ _
 have hlen:(ops.take n).length=n:=by rw[mc];omega
 have pX:ops.take n++ops.drop n=ops:=MX n ops;obtain⟨iM,dv,low',f1,f2,f0,f3,f4⟩:=hA.run (b:=b) (wr:=[]) (ops.drop n) sR h1 aB h2 av;rw[pX,hlen,rk]at f3;rw[pX]at f4;obtain⟨abN,Ct,H2,dM,PF,jA,ag,e2,bI,cz,dF,hz⟩:=dK av iM dv H.length f1 f2 (aM _) (aM _);obtain⟨Cs,g1,g2⟩:=Qd low' ag;obtain⟨anY,abO⟩:=Fx ag;have sC:=Qf (Qg ad) (aM _) ag abO;rw[<-f3]at g1;obtain⟨cq,o3⟩:=Fx g1;obtain⟨kn,lA,rfl,ct,dN,jT⟩:=f4 cq o3;obtain⟨aBv,q1,aT⟩:=Qe low' abO;rw[dN]at q1;cases q1
 have Qh:∀T∈lA,Own T.H ms:=fun T hT=>by
  have hm:T.H∈anY.map (·.H):=by rw[<-aT];exact sa hT
  obtain⟨anZ,vx,e⟩:=eM.1 hm;rw[<-e];obtain⟨bH,cw⟩:=sC anZ vx;refine⟨fun m hm p hp=> ?_,aB.2⟩;have aH:=aB.lt hm hp;rw[cw p.1 (by simp only at bH;omega)];exact aB.1 m hm p hp
 have sP:oO (cl ad) eB ops PF ⟨[],aw,H,low,none⟩=true:=by
  unfold oO;rw[o3];simp only[dF,dC]
  have eD:(Bn ops (kn++lA)).all (jo (cl ad))=true:=by
   unfold Bn;rw[eV];intro q bj;simp only[H5,TV]at bj;obtain⟨T,hT,⟨o,s⟩,dG,Qi⟩:=bj
   have aI:(ops.zip (kn++lA)).take (kV ops)=(ops.take n).zip kn:=by
    rw[hn,abL,List.take_left' (by rw[ct,hlen])]
   rw[aI]at dG
   have an0:T∈lA:=by
    have hge:kn.length<=pH ops:=by rw[ct,hlen,<-hn];exact V9 ops
    rw[H4,uV hge,ke]at hT;exact HV hT
   split at Qi
   ·cases Qi
    exact jT _ (Qh T an0) _ dG
   ·cases Qi
  rw[eD];simp
 refine⟨.normal,Ct,H2,Cs,jA,by rw[kW];simp only[g1,sP,Ic,if_true,au.fT],e2,?_,dc av cz,hz⟩;simp only at g2;have:=dc av bI;omega
end
def oz{A R:Type}(F:(A->Option R)->A->Option R):Nat->A->Option R
 |0,_=>none
 |n+1,a=>F (oz F n) a
open Classical in
noncomputable def zH{A R:Type}(F:(A->Option R)->A->Option R)(a:A):Option R:=
 if h:∃n r,oz F n a=some r then some h.choose_spec.choose else none
theorem an1{A R:Type}{F:(A->Option R)->A->Option R}{a:A}{r:R}(h:zH F a=some r):∃n,oz F n a=some r:=by
 unfold zH at h;split at h
 ·rename_i hx
  cases h;exact⟨_,hx.choose_spec.choose_spec⟩
 ·cases h
theorem an2{A R:Type}{F:(A->Option R)->A->Option R}{a:A}{r:R}{n:Nat}(h:oz F n a=some r)(hu:∀m nu,oz F m a=some nu->nu=r):zH F a=some r:=by
 unfold zH;rw[dif_pos ⟨n,r,h⟩];have hx:∃n r,oz F n a=some r:=⟨n,r,h⟩;rw[hu _ _ hx.choose_spec.choose_spec]
end Go.Abs
namespace Go.Abs
open Go
variable{ad:Nat->Option cb}
def sU (n es bytes:Nat)(z:List V):hh:=⟨n,.seq (.region [⟨some (2,true),.mv (.const .aY),none⟩] none)
 (.seq (.seq (.region [⟨some (3,false),.mv (.var 0),none⟩,⟨some (4,true),.rm 1 false (.tmp 3) (.const .aY),none⟩] none)
   (.cond (.var 4) (.seq (.region [⟨some (2,true),.mv (.const .aY),none⟩] none) .ret) .skip))
   (.seq (.region [⟨some (5,false),.lit es z 0 [] true,none⟩,⟨some (6,false),.mv (.var 0),none⟩,⟨some (7,false),.append es bytes (.tmp 5) (.tmp 6),none⟩,⟨some (2,true),.mv (.tmp 7),none⟩] none) .ret)),[.tmp 2],true⟩
def Ke{α:Type}(bytes:Nat):ak α->Option (ak α)
 | .nil=>some .nil
 |x=>jz bytes .emp x
theorem an3{i n es bytes:Nat}{z:List V}(dm:ad i=some (.code (sU n es bytes z)))(hn:1<=n)(H:Heap):cl ad (.fn i [] []) [.aY] H=some (.aY,H,H.length):=by
 rw[ny,dm];simp[gu,sU,hn,hR,kW,mi,nx,nw,c5,cf,step,gE,au.put,aj.ai,gF,fN,bR,hK,kC,finish,fR,ei,old,fm,qv]
theorem an4{i n es bytes:Nat}{z:List V}(dm:ad i=some (.code (sU n es bytes z)))(hn:1<=n)(H:Heap):cl ad (.fn i [] []) [.emp] H=some (.emp,H,H.length):=by
 rw[ny,dm];simp[gu,sU,hn,hR,kW,mi,nx,nw,c5,cf,step,gE,au.put,aj.ai,gF,fN,bR,hK,kC,finish,fR,ei,e4,qw,cx,elems,old,fm,qv]
theorem an5{i n es bytes:Nat}{z l:List V}(dm:ad i=some (.code (sU n es bytes z)))(hn:1<=n)(hp:cx l=true)(hc:bX (l.flatMap aF)=true)(hl:l≠[])(hb:l.length*(bytes+1)<=2^40)(H:Heap):
  cl ad (.fn i [] []) [.list es l] H=some (.b7 H.length es 0 l.length l.length,H++[.row es l false],H.length):=by
 have ho:olds H.length l=true:=Cp hp;rw[ny,dm];simp[gu,sU,hn,hR,kW,mi,nx,nw,c5,cf,step,gE,au.put,aj.ai,gF,fN,bR,hK,kC,finish,fR,ei,e4,qw,cx,elems,old,fm,qv,xO hp,hl,hc,hb,ho]
theorem an6{i n es bytes:Nat}{z:List V}(dm:ad i=some (.code (sU n es bytes z)))(hn:1<=n)(H:Heap):
  cl ad (.fn i [] []) [.list es []] H=some (.emp,H,H.length):=by
 rw[ny,dm];simp[gu,sU,hn,hR,kW,mi,nx,nw,c5,cf,step,gE,au.put,aj.ai,gF,fN,bR,hK,kC,finish,fR,ei,e4,qw,cx,elems,old,fm,qv]
section
variable{b:Nat}{aq σ:bY}{H:Heap}{wr:List Bool}{rest:List bP}
theorem abP{α:Type}{i n es bytes:Nat}{f:α->V}{z:List V}{s y:ak α}{wj x:aj}{ms:cO}
  (dm:ad i=some (.code (sU n es bytes z))) (hn:1<=n) (hs:Ke bytes s=some y) (aB:Own H ms) (ae:bV aq σ wj=.fn i [] []) (hx:bV aq σ x=bU es f s) (hp:∀a,bQ (f a)=true) (hc:∀a,bX (aF (f a))=true) (hb:b<=H.length):
  ∃v H1 m',cf (cl ad) (bV aq σ) H H.length (.call true wj [x])=some (v,H1,H.length)/\iO b es f v y m'/\Own H1 (m'::ms)/\H.length<=H1.length:=by
 have key:∀v,cl ad (.fn i [] []) [bU es f s] H=some (v,H,H.length)->iO b es f v y []->∃v H1 m',cf (cl ad) (bV aq σ) H H.length (.call true wj [x])=some (v,H1,H.length)/\iO b es f v y m'/\Own H1 (m'::ms)/\H.length<=H1.length:=fun v h8 hr=>
  ⟨v,H,[],by rw[qP];simp[ae,hx,h8],hr,aB.ins 0,aM _⟩
 cases s with
 |nil=>cases hs;exact key _ (an3 dm hn H) .nil
 |emp=>cases hs;exact key _ (an4 dm hn H) .emp
 |mk l=>
  have hs:jz bytes .emp (ak.mk l)=some y:=hs;unfold jz at hs;by_cases hl:l=[]
  ·subst hl
   rw[if_pos (show(ak.mk ([]:List α)).l=[]from rfl)]at hs;cases hs;exact key _ (an6 dm hn H) .emp
  ·rw[if_neg (show ¬(ak.mk l).l=[]from hl)]at hs
   split at hs
   ·rename_i c6
    cases hs;have h8:=an5 dm hn (zF hp l) (Fq hc l) (by simpa using hl) (by simpa[ak.l]using c6) H;refine⟨.b7 H.length es 0 (l.map f).length (l.map f).length,H++[.row es (l.map f) false],[(H.length,.row es (l.map f) false)],?_,.row _ _ (by simpa using hl) hb,aB.grow _,by simp⟩;rw[qP];simp only[eG,me,ae,hx,bU,h8,sg]
   ·cases hs
theorem an7{α:Type}{i n es bytes:Nat}{f:α->V}{z:List V}{s y:ak α}{d:Option (Nat × Bool)}{g:Option (aj × Bool)}{wj x:aj}{Q:bY->Heap->List Bool->Prop}{ms:cO}(hw:gQ aq σ g=some true)
  (dm:ad i=some (.code (sU n es bytes z))) (hn:1<=n) (hs:Ke bytes s=some y) (aB:Own H ms) (ae:bV aq σ wj=.fn i [] []) (hx:bV aq σ x=bU es f s) (hp:∀a,bQ (f a)=true) (hc:∀a,bX (aF (f a))=true)
  (cT:∀H' v' m' mv,iO b es f v' y m'->Own H' (m'::ms)->Op ad b rest (gl aq d v') (gm σ d v') H' (mv::wr) Q):Op ad b (⟨d,.call true wj [x],g⟩::rest) aq σ H wr Q:=fun aG aw low h1 h2 av bc=>by
 obtain⟨v,H1,m',ag,e2,bI,cz⟩:=abP dm hn hs aB ae hx hp hc bc;exact oy (o:=⟨d,.call true wj [x],g⟩) hw (fun hb=>⟨dc hb cz,H.length,hb,ag,rfl⟩) (cT H1 v m' _ e2 bI) aG aw low h1 h2 av bc
end
section
variable{b:Nat}{aq σ:bY}{H:Heap}{wr:List Bool}{rest:List bP}
theorem an8{es:Nat}{z:List V}{x:aj}{v v':V}{d:Option (Nat × Bool)}{g:Option (aj × Bool)}{ms gR:cO}{Q:bY->Heap->List Bool->Prop}(hw:gQ aq σ g=some true)(aB:Own H ms)(aI:nL b 16 ms v v' gR)(hx:bV aq σ x=v)
  (hp:bQ v'=true) (hc:(aF v').length=es/\bX (aF v')=true) (cT:∀H' mv,Own H' gR->Op ad b rest (gl aq d (.list es [v'])) (gm σ d (.list es [v'])) H' (mv::wr) Q):Op ad b (⟨d,.lit es z 1 [(0,x)] true,g⟩::rest) aq σ H wr Q:=fun aG aw low h1 h2 av bc=>by
 obtain⟨H1,bS,ag,gS,dQ⟩:=aI H H.length aB bc;have eP:fR H H.length v=some (v',H1,bS):=ag;have hl:=(B1 eP).2;have ae:=P6 (es:=es) (z:=lJ z) [v'] [] (fun w hw=>by rw[DH]at hw;subst hw;exact hc);refine oy (o:=⟨d,.lit es z 1 [(0,x)] true,g⟩) (v:=.list es [v']) (H1:=H1) (mv:=fm H H1 bS) hw (fun hb=>⟨by omega,bS,dQ,?_,rfl⟩) (cT H1 _ gS) aG aw low h1 h2 av bc;rw[JP];simp only[step,eG,me,hx,e4,eP,DI,List.zip_nil_right];simp only[ke,eF,List.length_singleton,List.range'_one,DI,List.zip_nil_right]at ae;simp only[ae,cx,hp,xd,if_true,Nat.one_ne_zero,if_false]
end
end Go.Abs
set_option maxHeartbeats 2000000
namespace Go.Abs.bZ
open Go Go.Abs
structure gz where
 Table:Int
 fP:Int
 cj:Int
 deriving Inhabited
def jB (x:gz):V:=.agg [aQ x.Table,aQ x.fP,aQ x.cj]
@[simp] theorem an9 (x : gz) : bQ (jB x) = true := by simp [jB, bQ, cx]
@[simp] theorem aoa (x : gz) : bX (aF (jB x)) = true := by simp [jB, aF, bX]
structure Range where
 fh:Int
 fi:Int
 deriving Inhabited
def qV (x:Range):V:=.agg [aQ x.fh,aQ x.fi]
@[simp] theorem aob (x : Range) : bQ (qV x) = true := by simp [qV, bQ, cx]
@[simp] theorem aoc (x : Range) : bX (aF (qV x)) = true := by simp [qV, aF, bX]
structure Table where
 Name:aW
 Kind:Int
 ba:(ak Int)
 Range:Range
 cF:Int
 deriving Inhabited
def lZ (x:Table):V:=.agg [.str x.Name,aQ x.Kind,bU 1 aQ x.ba,aQ x.Range.fh,aQ x.Range.fi,aQ x.cF]
@[simp] theorem aod (x : Table) : bQ (lZ x) = true := by simp [lZ, bQ, cx]
@[simp] theorem aoe (x : Table) : bX (aF (lZ x)) = true := by simp [lZ, aF, bX]
structure Term where
 Cell:Int
 dB:Int
 deriving Inhabited
def ua (x:Term):V:=.agg [aQ x.Cell,aQ x.dB]
@[simp] theorem aof (x : Term) : bQ (ua x) = true := by simp [ua, bQ, cx]
@[simp] theorem aog (x : Term) : bX (aF (ua x)) = true := by simp [ua, aF, bX]
structure Row where
 cd:(ak Term)
 gA:Int
 deriving Inhabited
def ub (x:Row):V:=.agg [bU 2 ua x.cd,aQ x.gA]
@[simp] theorem aoh (x : Row) : bQ (ub x) = true := by simp [ub, bQ, cx]
@[simp] theorem aoi (x : Row) : bX (aF (ub x)) = true := by simp [ub, aF, bX]
structure Constraint where
 Kind:Int
 j3:Int
 Row:Row
 cF:Int
 rX:Int
 deriving Inhabited
def sV (x:Constraint):V:=.agg [aQ x.Kind,aQ x.j3,bU 2 ua x.Row.cd,aQ x.Row.gA,aQ x.cF,aQ x.rX]
@[simp] theorem aoj (x : Constraint) : bQ (sV x) = true := by simp [sV, bQ, cx]
@[simp] theorem aok (x : Constraint) : bX (aF (sV x)) = true := by simp [sV, aF, bX]
structure cV where
 Name:aW
 Ordered:Bool
 aL:(ak Int)
 deriving Inhabited
def sW (x:cV):V:=.agg [.str x.Name,.bool x.Ordered,bU 1 aQ x.aL]
@[simp] theorem aol (x : cV) : bQ (sW x) = true := by simp [sW, bQ, cx]
@[simp] theorem aom (x : cV) : bX (aF (sW x)) = true := by simp [sW, aF, bX]
structure Change where
 Cell:Int
 Add:Int
 deriving Inhabited
def uc (x:Change):V:=.agg [aQ x.Cell,aQ x.Add]
@[simp] theorem aon (x : Change) : bQ (uc x) = true := by simp [uc, bQ, cx]
@[simp] theorem aoo (x : Change) : bX (aF (uc x)) = true := by simp [uc, aF, bX]
structure ko where
 Kind:Int
 Cell:Int
 Value:Int
 deriving Inhabited
def ud (x:ko):V:=.agg [aQ x.Kind,aQ x.Cell,aQ x.Value]
@[simp] theorem aop (x : ko) : bQ (ud x) = true := by simp [ud, bQ, cx]
@[simp] theorem aoq (x : ko) : bX (aF (ud x)) = true := by simp [ud, aF, bX]
structure c7 where
 Delta:(ak Change)
 de:(ak Row)
 eQ:(ak ko)
 deriving Inhabited
def wk (x:c7):V:=.agg [bU 2 uc x.Delta,bU 2 ub x.de,bU 3 ud x.eQ]
@[simp] theorem aor (x : c7) : bQ (wk x) = true := by simp [wk, bQ, cx]
@[simp] theorem aos (x : c7) : bX (aF (wk x)) = true := by simp [wk, aF, bX]
structure Action where
 cV:Int
 dR:(ak Int)
 c7:c7
 deriving Inhabited
def sX (x:Action):V:=.agg [aQ x.cV,bU 1 aQ x.dR,bU 2 uc x.c7.Delta,bU 2 ub x.c7.de,bU 3 ud x.c7.eQ]
@[simp] theorem aot (x : Action) : bQ (sX x) = true := by simp [sX, bQ, cx]
@[simp] theorem aou (x : Action) : bX (aF (sX x)) = true := by simp [sX, aF, bX]
structure Model where
 aL:(ak Int)
 Tables:(ak Table)
 dI:(ak aW)
 c4:(ak Constraint)
 Operations:(ak cV)
 Actions:(ak Action)
 bA:(ak gz)
 deriving Inhabited
def wm (x:Model):V:=.agg [bU 1 aQ x.aL,bU 6 lZ x.Tables,bU 1 V.str x.dI,bU 6 sV x.c4,bU 3 sW x.Operations,bU 5 sX x.Actions,bU 3 jB x.bA]
@[simp] theorem aov (x : Model) : bQ (wm x) = true := by simp [wm, bQ, cx]
@[simp] theorem aow (x : Model) : bX (aF (wm x)) = true := by simp [wm, aF, bX]
structure eg where
 Model:Model
 strict:(ak Range)
 deriving Inhabited
def Fy (x:eg):V:=.agg [bU 1 aQ x.Model.aL,bU 6 lZ x.Model.Tables,bU 1 V.str x.Model.dI,bU 6 sV x.Model.c4,bU 3 sW x.Model.Operations,bU 5 sX x.Model.Actions,bU 3 jB x.Model.bA,bU 2 qV x.strict]
@[simp] theorem aox (x : eg) : bQ (Fy x) = true := by simp [Fy, bQ, cx]
@[simp] theorem aoy (x : eg) : bX (aF (Fy x)) = true := by simp [Fy, aF, bX]
structure rY where
 Kind:Int
 Index:Int
 deriving Inhabited
def wo (x:rY):V:=.agg [aQ x.Kind,aQ x.Index]
@[simp] theorem aoz (x : rY) : bQ (wo x) = true := by simp [wo, bQ, cx]
@[simp] theorem aoA (x : rY) : bX (aF (wo x)) = true := by simp [wo, aF, bX]
structure Token where
 Kind:Int
 abQ:Int
 At:Int
 End:Int
 deriving Inhabited
def Cu (x:Token):V:=.agg [aQ x.Kind,aQ x.abQ,aQ x.At,aQ x.End]
@[simp] theorem aoB (x : Token) : bQ (Cu x) = true := by simp [Cu, bQ, cx]
@[simp] theorem aoC (x : Token) : bX (aF (Cu x)) = true := by simp [Cu, aF, bX]
end Go.Abs.bZ
namespace Go.Abs.Lex
open Go
def mK (c:UInt8):Bool:=decide (97<=c.toNat)&&decide (c.toNat<=122)
def ji (c:UInt8):Bool:=decide (48<=c.toNat)&&decide (c.toNat<=57)
def l0 (c:UInt8):Bool:=mK c||ji c||c.toNat==95
def iP (c:UInt8):Bool:=c.toNat==32||c.toNat==9||c.toNat==10||c.toNat==13
def pre (s w:List UInt8):Bool:=s.take w.length==w
def two:List (List UInt8):=[[61,61],[33,61],[60,61],[62,61],[46,46]]
def one:List UInt8:=[60,62,61,43,45,42,40,41,123,125,44,58,59]
def sym (s:List UInt8):Nat:=if two.any (pre s)then 2 else match s with
 |[]=>0
 |c::_=>if one.contains c then 1 else 0
theorem drop_cons{α:Type}{s r:List α}{k:Nat}{c:α}(h:s.drop k=c::r):s[k]? =some c/\s.drop (k+1)=r/\k<s.length:=by
 have ah:k<s.length:=by
  rcases gq k s.length with h1|h1
  ·exact h1
  ·rw[MW h1]at h;cases h
 rw[qm ah]at h;injection h with h1 h2;exact⟨by rw[jI ah,h1],h2,ah⟩
theorem drop_nil{α:Type}{s:List α}{k:Nat}(h:s.drop k=[]):s.length<=k:=by
 have:=congrArg List.length h;simp at this;omega
def hP (p:UInt8->Bool)(s:List UInt8):Nat:=(s.takeWhile p).length
theorem zI (p:UInt8->Bool)(c:UInt8)(s:List UInt8):hP p (c::s)=if p c then hP p s+1 else 0:=by
 unfold hP;rw[List.takeWhile_cons];cases p c<;>simp
theorem xP (p:UInt8->Bool):∀s:List UInt8,hP p s<=s.length
 |[]=>aM _
 |c::s=>by
  rw[zI];have:=xP p s;split<;>simp;omega
def hE:Bool->List UInt8->Nat
 | _,[]=>0
 |false,c::r=>if iP c then hE false r+1 else if c.toNat=35 then hE true r+1 else 0
 |true,c::r=>if c.toNat != 10 then hE true r+1 else hE false r+1
theorem Fz:∀(b:Bool) (s:List UInt8),hE b s<=s.length
 |b,[]=>by cases b<;>simp[hE]
 |false,c::r=>by
  have h1:=Fz false r;have h2:=Fz true r;simp only[hE,dE];split
  ·omega
  ·split<;>omega
 |true,c::r=>by
  have h1:=Fz false r;have h2:=Fz true r;simp only[hE,dE];split<;>omega
theorem Kf:∀s:List UInt8,hE true s=hP (fun c=>c.toNat != 10) s+hE false (s.drop (hP (fun c=>c.toNat != 10) s))
 |[]=>rfl
 |c::r=>by
  rw[zI];by_cases h:(c.toNat != 10)=true
  ·simp only[hE,h,if_true,TN]
   rw[Kf r];omega
  ·have hw:iP c=true:=by
    simp at h;simp[iP,h]
   simp[hE,h,hw]
theorem aoD (l:List UInt8)(c:UInt8):0<=Lib.indexByte l c↔c∈l:=by
 induction l with
 |nil=>exact⟨fun h=>absurd h (show ¬(0:Int)<=-1 by decide),fun h=>by cases h⟩
 |cons b l ih=>
  have hge:=Lib.indexByte_ge l c;show(0<=if(b==c)=true then 0 else if(Lib.indexByte l c==-1)=true then -1 else Lib.indexByte l c+1)↔_;by_cases h:b=c
  ·subst h;simp
  ·have h1:(b==c)=false:=by simp[h]
   rw[h1,dL,<-ih];simp only[gN,if_false];by_cases av:Lib.indexByte l c=-1
   ·simp[av,lj h]
   ·have bc:(Lib.indexByte l c==-1)=false:=by simp[av]
    simp only[bc,gN,if_false];constructor
    ·intro _;right;omega
    ·rintro(h5|h5)
     ·exact absurd h5.symm h
     ·omega
theorem aoE (l:List UInt8)(c:UInt8):decide (0<=Lib.indexByte l c)=l.contains c:=by
 rw[Bi,decide_eq_true_iff,aoD,uW]
def oA (s:List UInt8):Bool:=match s with
 |[]=>false
 |c::_=>mK c||ji c||decide (0<sym s)
def Kg:List UInt8:=[115,111,114,116,32,114,101,108,97,116,105,111,110,32,99,111,117,110,116,101,114,32,115,101,116,32,114,101,103,105,115,116,101,114,32,105,110,118,97,114,105,97,110,116,32,111,112,101,114,97,116,105,111,110,32,107,101,121,32,114,101,102,101,114,101,110,99,101,32,116,111,32,99,111,117,110,116,32,97,99,121,99,108,105,99,32,97,108,108,32,115,117,109,32,105,110,32,97,100,100,119,105,110,115,32,114,101,109,111,118,101,119,105,110,115,32,108,97,115,116,32,109,117,108,116,105,32,104,105,100,101,32,111,114,100,101,114,101,100,32,114,101,113,117,105,114,101,32,104,111,108,100,32,105,110,115,101,114,116,32,100,101,108,101,116,101,32,97,100,100,32,102,114,111,109,32,112,117,116,32,100,114,111,112,32,97,115,115,105,103,110,32,102,111,114,32,119,104,101,114,101,32,97,110,100,32,111,114,32,110,111,116]
def kw:List (List UInt8):=Lib.fields Kg
theorem Qj:kw.length=35:=by kernel_rfl
def l1:List UInt8->Nat
 |[]=>0
 |c::r=>if iP c||c.toNat==35||oA (c::r)then 0 else l1 r+1
theorem abR:∀s:List UInt8,l1 s<=s.length
 |[]=>aM _
 |c::r=>by
  have:=abR r;simp only[l1,dE];split<;>omega
def iQ:List UInt8->Nat
 |[]=>0
 |c::r=>if mK c then(if kw.contains ((c::r).take (hP l0 (c::r)))then 2 else 1)else if ji c then 3 else if 0<sym (c::r)then 4 else 5
def la:List UInt8->Nat
 |[]=>0
 |c::r=>if mK c then hP l0 (c::r)else if ji c then hP ji (c::r)else if 0<sym (c::r)then sym (c::r)else l1 r+1
theorem aoF{s w:List UInt8}(h:pre s w=true):w.length<=s.length:=by
 unfold pre at h;have:=eq_of_beq h;rw[<-this,mc];exact pC _ _
theorem abS (s:List UInt8):sym s<=s.length:=by
 unfold sym;split
 ·rename_i h
  obtain⟨w,hw,hp⟩:=sd.1 h;have:=aoF hp;have h2:∀w∈two,w.length=2:=by decide
  rw[h2 w hw]at this;exact this
 ·split
  ·exact aM _
  ·split<;>simp
theorem aoG (s:List UInt8):la s<=s.length:=by
 cases s with
 |nil=>exact aM _
 |cons c r=>
  have h1:=xP l0 (c::r);have h2:=xP ji (c::r);have av:=abS (c::r);have bc:=abR r;simp only[la];split
  ·exact h1
  ·split
   ·exact h2
   ·split
    ·exact av
    ·simp;omega
def dJ (s:List UInt8)(fL:Nat):Nat:=fL+hE false (s.drop fL)
def hF (s:List UInt8)(fL:Nat):Nat:=dJ s fL+la (s.drop (dJ s fL))
theorem Qk{s:List UInt8}{k:Nat}(h:k<=s.length):dJ s k<=s.length:=by
 have:=Fz false (s.drop k);rw[pD]at this;unfold dJ;omega
theorem Ql{s:List UInt8}{k:Nat}(h:k<=s.length):hF s k<=s.length:=by
 have h1:=Qk h;have:=aoG (s.drop (dJ s k));rw[pD]at this;unfold hF;omega
def kindOf (w:List UInt8):Nat:=if w=[]\/4096<w.length then 0 else if dJ w 0=0/\hF w 0=w.length then iQ w else 0
def syms:List (List UInt8):=two++one.map fun c=>[c]
def wq (r:List UInt8):List (List UInt8)->Nat
 |[]=>0
 |w::ws=>if pre r w then w.length else wq r ws
theorem abT (r:List UInt8)(vs:List (List UInt8)):∀(ws:List (List UInt8)),(∀w∈ws,w.length=2)->wq r (ws++vs)=if ws.any (pre r)then 2 else wq r vs
 |[],_=>rfl
 |w::ws,h=>by
  have ih:=abT r vs ws (fun w hw=>h w (by simp[hw]));have vP:=h w (by simp);simp only[ky,wq];by_cases hp:pre r w=true
  ·have Kh:(w::ws).any (pre r)=true:=by simp[hp]
   rw[if_pos hp,if_pos Kh,vP]
  ·have Kh:(w::ws).any (pre r)=ws.any (pre r):=by simp[hp]
   rw[if_neg hp,ih,Kh]
def abU (cs:List UInt8):List UInt8->Nat
 |[]=>0
 |c::_=>if cs.contains c then 1 else 0
theorem abV (r:List UInt8):∀(cs:List UInt8),wq r (cs.map fun c=>[c])=abU cs r
 |[]=>by cases r<;>rfl
 |d::cs=>by
  have ih:=abV r cs;simp only[eG,wq];rw[ih];cases r with
  |nil=>rfl
  |cons c r=>
   have e:pre (c::r) [d]=(c==d):=by
    unfold pre;simp only[dE,eF,er,List.take_succ_cons,List.take_zero];rw[Bi];simp
   simp only[e,abU,List.contains_cons];by_cases abW:c=d
   ·subst abW;simp
   ·have:(c==d)=false:=by simp[abW]
    rw[this];simp
theorem aoH (r:List UInt8):wq r syms=sym r:=by
 unfold syms;rw[abT r _ two (by decide),abV];cases r<;>rfl
theorem aoI{s w:List UInt8}{k:Nat}(ah:k<=s.length):(decide (k+w.length<=s.length)&&((s.take (k+w.length)).drop k==w))=pre (s.drop k) w:=by
 unfold pre;have e:(s.take (k+w.length)).drop k=(s.drop k).take w.length:=by rw[List.drop_take];congr 1;omega
 rw[e];by_cases h:k+w.length<=s.length
 ·simp[h]
 ·have:((s.drop k).take w.length==w)=false:=by
   rw[Bool.eq_false_iff];intro eS;have:=congrArg List.length (eq_of_beq eS);simp at this;omega
  rw[this];simp
end Go.Abs.Lex
namespace Go.Abs.bZ
open Go Go.Abs
noncomputable section
def Ki (w:aW):Option Int:=some (Lex.kindOf w)
def FA (x:ak Range)(n:Int):Option (ak Range):=if x.l.length=1/\1<=n/\n<=1000 then some (.mk ((List.replicate n.toNat x.l).flatten))else none
def Qm:Option Bool:=some true
def strings_IndexByte (s:aW)(c:Int):Option Int:=some (Lib.indexByte s (UInt8.ofNat c.toNat))
def strconv_Itoa (n:Int):Option aW:=if -9223372036854775808<=n/\n<=9223372036854775807 then some (Lib.itoa n)else none
def rZ (n:Int):Option aW:=if 0<=n/\n<=9223372036854775807 then some (Lib.itoa n)else none
def strings_Join (x:ak aW)(sep:aW):Option aW:=match x with
 | .nil=>some []
 | .emp=>none
 | .mk l=>if l≠[]/\l.length<=4096/\(Lib.join l sep).length<=1000000 then some (Lib.join l sep)else none
def qc (ts:List Table)(h:gz):Bool:=
 (decide (h.Table>=0)&&decide (h.Table<ts.length))&&((decide (h.cj>=0)&&decide (h.cj<ts.length))&&(!(h.Table==h.cj)&&match ts[h.Table.toNat]?,ts[h.cj.toNat]? with
   |some t,some u=>(t.Kind==0)&&((u.Kind==0)&&((decide (h.fP>=0)&&decide (h.fP<t.ba.l.length))&&((u.ba.l.length==1)&&(u.ba.l.getD 0 0==t.ba.l.getD h.fP.toNat 0))))
   | _,_=>false))
def fZ (hs:List gz):Nat->Int->Int->Bool
 |0,a,b=>a==b
 |n+1,a,b=>(a==b)||hs.any fun h=>(h.Table==a)&&fZ hs n h.cj b
def FB (hs:List gz)(n:Nat):Bool:=hs.all fun h=>!fZ hs n h.cj h.Table
def zJ (ts:List Table)(hs:List gz):Bool:=decide (hs.length<=12)&&(hs.all (qc ts)&&FB hs ts.length)
def abX (j:eg):Option Bool:=some (zJ j.Model.Tables.l j.Model.bA.l)
end
end Go.Abs.bZ
namespace Go.Abs.bZ
open Go Go.Abs
structure FC (hs:List gz) (ks su:List Int):Prop where
 sub:∀t∈su,t∈ks
 dx:su.Nodup
 next:∀t∈su,∃h∈hs,h.Table=t/\h.cj∈ks
 ey:∀K:Int->Prop,(∀t,K t->t∈ks)->(∀t,K t->∃h∈hs,h.Table=t/\K h.cj)->∀t,K t->t∈su
inductive qW (hs:List gz) (ks:List Int):Nat->List Int->Prop
 |zero:qW hs ks 0 ks
 |succ {n:Nat} {ct dN:List Int}:qW hs ks n ct->FC hs ct dN->qW hs ks (n+1) dN
variable{hs:List gz}{ks:List Int}
theorem qW.sub{n:Nat}{k:List Int}(h:qW hs ks n k):∀t∈k,t∈ks:=by
 induction h with
 |zero=>exact fun t h=>h
 |succ _ h2 ih=>exact fun t h=>ih t (h2.sub t h)
theorem qW.ey{n:Nat}{k:List Int}(h:qW hs ks n k)(K:Int->Prop)(h1:∀t,K t->t∈ks)(h2:∀t,K t->∃h∈hs,h.Table=t/\K h.cj):∀t,K t->t∈k:=by
 induction h with
 |zero=>exact h1
 |succ _ av ih=>exact av.ey K ih h2
theorem qW.walk{n:Nat}{k:List Int}(h:qW hs ks n k):∀t∈k,∃f:Nat->Int,f 0=t/\(∀i,i<=n->f i∈ks)/\∀i,i<n->∃h∈hs,h.Table=f i/\h.cj=f (i+1):=by
 induction h with
 |zero=>exact fun t ht=>⟨fun _=>t,rfl,fun _ _=>ht,fun i hi=>absurd hi (Nat.not_lt_zero i)⟩
 |@succ n ct dN h1 h2 ih=>
  intro t ht;obtain⟨h,eS,ag,e2⟩:=h2.next t ht
  obtain⟨f,f0,f1,f2⟩:=ih h.cj e2;refine⟨fun i=>match i with|0=>t|i+1=>f i,rfl,fun i hi=> ?_,fun i hi=> ?_⟩
  ·cases i with
   |zero=>exact h1.sub t (h2.sub t ht)
   |succ i=>exact f1 i (by omega)
  ·cases i with
   |zero=>exact⟨h,eS,ag,f0.symm⟩
   |succ i=>exact f2 i (by omega)
theorem Kj{α:Type}[BEq α][LawfulBEq α]:∀{l k:List α},l.Nodup->(∀x∈l,x∈k)->l.length<=k.length
 |[],_,_,_=>cI _
 |a::l,k,hn,hs=>by
  obtain⟨h1,h2⟩:=xc.1 hn;have ao:=hs a (by simp);have ih:=Kj (l:=l) (k:=k.erase a) h2 fun x hx=>(List.mem_erase_of_ne (fun e=>h1 (by rw[<-e];exact hx))).2 (hs x (by simp[hx]));rw[List.length_erase_of_mem ao]at ih;have:=List.length_pos_of_mem ao;simp only[dE];omega
theorem aoJ{f:Nat->Int}{k:List Int}(h:∀i,i<=k.length->f i∈k):∃i j,i<j/\j<=k.length/\f i=f j:=by
 refine Classical.byContradiction fun hc=> ?_
 have hnd:((List.range (k.length+1)).map f).Nodup:=by
  unfold List.Nodup;rw[List.pairwise_map];refine List.pairwise_lt_range.imp_of_mem fun {a b} ao hb lP e=>hc ⟨a,b,lP,?_,e⟩;have:=M9.1 hb;omega
 have:=Kj hnd (k:=k) fun x hx=>by
  obtain⟨i,hi,rfl⟩:=eM.1 hx;have:=M9.1 hi;exact h i (by omega)
 simp at this;omega
theorem aoK{n:Nat}{a b:Int}:∀{a:Int},fZ hs n a b=true->fZ hs (n+1) a b=true:=by
 induction n with
 |zero=>intro a h;simp only[fZ]at h⊢; simp[h]
 |succ n ih=>
  intro a h;rw[fZ,kz]at h⊢;rcases h with h|h
  ·exact .inl h
  ·refine .inr ?_
   obtain⟨x,hx,h1⟩:=sd.1 h;simp only[ca]at h1;exact sd.2 ⟨x,hx,by simp only[ca];exact⟨h1.1,ih h1.2⟩⟩
theorem aoL{n m:Nat}{a b:Int}(h:n<=m)(hl:fZ hs n a b=true):fZ hs m a b=true:=by
 induction h with
 |refl=>exact hl
 |step _ ih=>exact aoK (a:=a) ih
theorem abY{f:Nat->Int}{n:Nat}(h:∀i,i<n->∃h∈hs,h.Table=f i/\h.cj=f (i+1)):∀k a,a+k<=n->fZ hs k (f a) (f (a+k))=true
 |0,a,_=>by simp[fZ]
 |k+1,a,ah=>by
  obtain⟨x,hx,ag,e2⟩:=h a (by omega);have ih:=abY h k (a+1) (by omega);rw[fZ,kz];refine .inr (sd.2 ⟨x,hx,?_⟩);rw[ag,e2];simp only[beq_self_eq_true,dC];rw[show a+(k+1)=a+1+k by omega];exact ih
theorem aoM{n:Nat}{a b:Int}(lP:a≠b)(h:fZ hs n a b=true):∃x∈hs,x.Table=a/\∃m,fZ hs m x.cj b=true:=by
 cases n with
 |zero=>simp only[fZ,beq_iff_eq]at h;exact absurd h lP
 |succ n=>
  rw[fZ,kz]at h;rcases h with h|h
  ·exact absurd (eq_of_beq h) lP
  ·obtain⟨x,hx,h1⟩:=sd.1 h
   simp only[ca,beq_iff_eq]at h1;exact⟨x,hx,h1.1,n,h1.2⟩
theorem aoN{N:Nat}{k:List Int}(hnd:ks.Nodup)(hm:∀t,t∈ks↔∃h∈hs,h.Table=t)(hZ:∀h∈hs,0<=h.Table/\h.Table<N)(hr:qW hs ks hs.length k):decide (k.length=0)=FB hs N:=by
 have zb:ks.length<=hs.length:=by
  have:=Kj hnd (k:=hs.map (·.Table)) fun x hx=>by
   obtain⟨h,h1,h2⟩:=(hm x).1 hx;exact eM.2 ⟨h,h1,h2⟩
  simpa using this
 have BI:ks.length<=N:=by
  have:=Kj hnd (k:=(List.range N).map Int.ofNat) fun x hx=>by
   obtain⟨h,h1,rfl⟩:=(hm x).1 hx;have:=hZ h h1;exact eM.2 ⟨h.Table.toNat,M9.2 (by omega),by simp;omega⟩
  simpa using this
 rw[Bi,decide_eq_true_iff];unfold FB;rw[eV];constructor
 ·intro h0 h eS
  have ah:k=[]:=yo.1 h0;cases hl:fZ hs N h.cj h.Table with
  |false=>rfl
  |true=>
   have oi:∀t,(∃n,fZ hs n t h.Table=true)->∃x∈hs,x.Table=t/\∃n,fZ hs n x.cj h.Table=true:=by
    rintro t ⟨n,hn⟩;by_cases e:t=h.Table
    ·exact⟨h,eS,e.symm,N,hl⟩
    ·exact aoM e hn
   have:=hr.ey (fun t=>∃n,fZ hs n t h.Table=true) (fun t ht=>by
    obtain⟨x,hx,e,-⟩:=oi t ht;exact(hm t).2 ⟨x,hx,e⟩) oi h.Table ⟨0,by simp[fZ]⟩
   rw[ah]at this;cases this
 ·intro eD
  refine Classical.byContradiction fun bu=> ?_;obtain⟨t,ht⟩:=List.exists_mem_of_length_pos (l:=k) (by omega);obtain⟨f,-,f1,f2⟩:=hr.walk t ht;obtain⟨i,j,cW,hj,e⟩:=aoJ (f:=f) (k:=ks) fun i hi=>f1 i (by omega);obtain⟨x,hx,ag,e2⟩:=f2 i (by omega);have hw:=abY (n:=hs.length) f2 (j-(i+1)) (i+1) (by omega);rw[show i+1+(j-(i+1))=j by omega,<-e,<-ag,<-e2]at hw;have:=eD x hx;rw[aoL (m:=N) (by omega) hw]at this;cases this
end Go.Abs.bZ
