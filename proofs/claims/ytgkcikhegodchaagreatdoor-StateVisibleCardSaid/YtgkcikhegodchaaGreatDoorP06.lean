/- Texts of this claim, joined and written short by a program. -/
import Derived.Test.YtgkcikhegodchaaGreatDoorP05
import Derived.Test.YtgkcikhegodchaaGreatDoorP00
set_option linter.unusedVariables false
set_option linter.unusedSimpArgs false
set_option linter.unusedSectionVars false
namespace Go.Abs
open Go
variable{C:Ctx}{fid:Nat->Nat}{w w':World}{G G':cg}{H H':Heap}
def dT (vars:List Nat)(st:aw)(t:Nat):V:=if vars.contains t then bZ st.ay t else bZ st.aM t
theorem Xf (e:Env)(t ed:Nat)(v:V):bZ (ga e t v) ed=if ed=t then v else bZ e ed:=by
 induction e with
 |nil=>
  by_cases h:ed=t
  ·subst h;simp[ga,bZ]
  ·simp[ga,bZ,h,lI h]
 |cons p r ih=>
  obtain⟨k,u⟩:=p;simp only[ga];split
  ·rename_i hk
   subst hk;by_cases h:ed=k
   ·subst h;simp[bZ]
   ·simp[bZ,h,lI h]
  ·rename_i hk
   simp only[bZ];split
   ·rename_i h
    rw[if_neg (by omega)]
   ·exact ih
theorem Fk (vars:List Nat)(st:aw)(d:Nat)(v:V)(t:Nat):dT vars (st.put (some (d,vars.contains d)) v) t=if t=d then v else dT vars st t:=by
 unfold dT;cases hd:vars.contains d
 ·simp only[aw.put]
  by_cases h:t=d
  ·subst h;rw[if_neg (by rw[hd];exact Bool.false_ne_true),if_pos rfl];simp[bZ]
  ·rw[if_neg h]
   simp only[bZ,if_neg (lI h)]
 ·simp only[aw.put,Xf]
  by_cases h:t=d
  ·subst h;simp only[hd,if_true]
  ·simp only[if_neg h]
theorem Pf (a:Act)(d:Nat)(x:Value)(t:Nat)(hd:d<a.tmps.size):(a.put (some d) x).tmps.getD t undef=if t=d then x else a.tmps.getD t undef:=by
 simp only[Act.put];by_cases h:t=d
 ·subst h;simp[Array.getD,hd]
 ·rw[if_neg h]
  simp only[xL,Vk (lI h)]
theorem yi (a:Act)(d:Option Tmp)(x:Value):(a.put d x).tmps.size=a.tmps.size:=by cases d<;>simp[Act.put]
theorem put_defers (a:Act)(d:Option Tmp)(x:Value):(a.put d x).defers=a.defers:=by cases d<;>simp[Act.put]
structure u0 (C:Ctx) (vars:List Nat) (N:Nat) (ops:Array Oper) (o:Oper) (bh:bU):Prop where
 op:bh.op=C.op vars o.pos o.op
 dst:(o.dst=none/\bh.dst=none)\/∃d,d<N/\o.dst=some d/\bh.dst=some (d,vars.contains d)
 guard:Ctx.guard vars ops o.guard=some bh.guard
theorem CU{vars:List Nat}{N:Nat}{ops:Array Oper}{o:Oper}{bh:bU}(h:C.oper vars N ops o=some bh):u0 C vars N ops o bh:=by
 unfold Ctx.oper at h;split at h
 ·rename_i g bb
  split at h
  ·rename_i hd
   cases h;exact⟨rfl,.inl ⟨hd,rfl⟩,bb⟩
  ·rename_i d hd
   split at h
   ·rename_i aG
    cases h;exact⟨rfl,.inr ⟨d,aG,hd,rfl⟩,bb⟩
   ·cases h
 ·cases h
def mP (call:c5)(bh:bU)(S lP:aw)(bc:Bool):Prop:=
 (gS S.aM S.ay bh.guard=some true/\∃v H' low',ch call (ai.ah S.aM S.ay) S.H S.H.length bh.op=some (v,H',low')/\
   lP=({S with H:=H',low:=min S.low low'}:aw).put bh.dst v/\bc=eG S.H H' low')\/
 (gS S.aM S.ay bh.guard=some false/\lP=S.put bh.dst (.aF [])/\bc=false)
theorem u1{call:c5}:∀(bR:List bU) (st bf:aw) (wr fD:List Bool),c8 call bR st wr=some (bf,fD)->
  ∃(S:Nat->aw) (bc:Nat->Bool),S 0=st/\S bR.length=bf/\fD=wr.reverse++(List.range bR.length).map bc/\∀i bh,bR[i]? =some bh->mP call bh (S i) (S (i+1)) (bc i)
 |[],st,bf,wr,fD,he=>by
  simp only[c8,aD,bH]at he;obtain⟨rfl,rfl⟩:=he;exact⟨fun _=>st,fun _=>false,rfl,rfl,by simp,fun i bh h=>by simp at h⟩
 |o::r,st,bf,wr,fD,he=>by
  have key:∀(st1:aw) (b:Bool),mP call o st st1 b->c8 call r st1 (b::wr)=some (bf,fD)->∃(S:Nat->aw) (bc:Nat->Bool),S 0=st/\S (o::r).length=bf/\
    fD=wr.reverse++(List.range (o::r).length).map bc/\∀i bh,(o::r)[i]? =some bh->mP call bh (S i) (S (i+1)) (bc i):=fun st1 b hs h=>by
   obtain⟨S,bc,h0,h1,h2,au⟩:=u1 r _ _ _ _ h;refine⟨fun i=>match i with|0=>st|i+1=>S i,fun i=>match i with|0=>b|i+1=>bc i,rfl,by simpa using h1,?_,fun i bh hi=> ?_⟩
   ·rw[h2,iI,List.range_succ_eq_map,dX,pC,List.reverse_cons,kR]
    rfl
   ·cases i with
    |zero=>
     simp only[nO,aD]at hi;subst hi;simpa[h0]using hs
    |succ i=>exact au i bh (by simpa using hi)
  simp only[c8]at he;split at he
  ·rename_i hw
   split at he
   ·rename_i v H1 bL h1
    exact key _ _ (.inl ⟨hw,v,H1,bL,h1,rfl,rfl⟩) he
   ·cases he
  ·rename_i hw
   exact key _ _ (.inr ⟨hw,rfl,rfl⟩) he
  ·cases he
mutual
theorem wy:∀a b:V,ep a b=true->a=b
 | .bool a,.bool b,h=>by simp only[ep,beq_iff_eq]at h;rw[h]
 | .int k n,.int bJ m,h=>by simp only[ep,cm,decide_eq_true_eq]at h;rw[h.1,h.2]
 | .str s,.str ar,h=>by simp only[ep,decide_eq_true_eq]at h;rw[h]
 | .cu,.cu,_=>rfl
 | .emp,.emp,_=>rfl
 | .jj,.jj,_=>rfl
 | .jk,.jk,_=>rfl
 | .kr,.kr,_=>rfl
 | .j5,.j5,_=>rfl
 | .undef,.undef,_=>rfl
 | .list e ds,.list e' ds',h=>by simp only[ep,cm,decide_eq_true_eq]at h;rw[h.1,u2 _ _ h.2]
 | .agg a,.agg b,h=>by simp only[ep]at h;rw[u2 _ _ h]
 | .aF a,.aF b,h=>by simp only[ep]at h;rw[u2 _ _ h]
 | .ptr l o,.ptr fB o',h=>by simp only[ep,cm,decide_eq_true_eq]at h;rw[h.1,h.2]
 | .hz a b c d e,.hz bn eN c' d' e',h=>by simp only[ep,cm,decide_eq_true_eq]at h;rw[h.1,h.2.1,h.2.2.1,h.2.2.2.1,h.2.2.2.2]
 | .dz vs f,.dz vs' mB,h=>by simp only[ep,cm,decide_eq_true_eq]at h;rw[u2 _ _ h.1,h.2]
 | .cB a b c d e,.cB bn eN c' d' e',h=>by simp only[ep,cm,decide_eq_true_eq]at h;rw[h.1,h.2.1,h.2.2.1,h.2.2.2.1,h.2.2.2.2]
 | .map l,.map fB,h=>by simp only[ep,decide_eq_true_eq]at h;rw[h]
 | .yield l,.yield fB,h=>by simp only[ep,decide_eq_true_eq]at h;rw[h]
 | .fn i a b,.fn zC bn eN,h=>by simp only[ep,cm,decide_eq_true_eq]at h;rw[h.1,u2 _ _ h.2.1,u2 _ _ h.2.2]
 | .iface t v,.iface ed v',h=>by simp only[ep,cm,decide_eq_true_eq]at h;rw[h.1,wy _ _ h.2]
theorem u2:∀a b:List V,nQ a b=true->a=b
 |[],[],_=>rfl
 |a::r,b::s,h=>by simp only[nQ,cm]at h;rw[wy _ _ h.1,u2 _ _ h.2]
end
theorem JT{call:c5}:∀(bR:List bU) (S:Nat->aw) (bc:Nat->Bool) (cv:List aw),(∀(i:Nat) bh,bR[i]? =some bh->mP call bh (S i) (S (i+1)) (bc i))->fH call bR (S 0)=some cv->
  ∀k,k<=bR.length->cv[k]? =some (S k)
 |[],S,bc,cv,hs,ht,k,hk=>by
  simp only[fH,aD]at ht;subst ht;have:k=0:=by simpa using hk
  subst this;rfl
 |o::r,S,bc,cv,hs,ht,k,hk=>by
  have h0:=hs 0 o rfl;have Fl:∀nZ,fH call r (S 1)=some nZ->∀k,k<=r.length->nZ[k]? =some (S (k+1)):=fun nZ h=>JT r (fun i=>S (i+1)) (fun i=>bc (i+1)) nZ (fun i bh hi=>hs (i+1) bh (by simpa using hi)) h;simp only[fH]at ht
  have fin:∀Pg,Pg=S 1->(fH call r Pg).map (S 0:: ·)=some cv->cv[k]? =some (S k):=fun Pg e h=>by
   subst e;obtain⟨x,hx,rfl⟩:=cD.1 h;cases k with
   |zero=>rfl
   |succ k=>simpa using Fl x hx k (by simpa using hk)
  rcases h0 with⟨hw,v,H1,bL,h1,e,-⟩|⟨hw,e,-⟩
  ·rw[hw]at ht
   simp only[h1]at ht;exact fin _ e.symm ht
  ·rw[hw]at ht
   simp only at ht;exact fin _ e.symm ht
theorem mP.b7{call:c5}(hc:mN call){bh:bU}{S lP:aw}{bc:Bool}(h:mP call bh S lP bc):gN S lP:=by
 rcases h with⟨-,v,H1,bL,h1,rfl,-⟩|⟨-,rfl,-⟩
 ·have hp:=kX {S with H:=H1,low:=min S.low bL} bh.dst v
  exact⟨by rw[hp.1,hp.2.1];exact(zZ hc (aN _) h1).lift _,hp.2.2⟩
 ·have hp:=kX S bh.dst (.aF [])
  exact⟨by rw[hp.1,hp.2.1];exact .refl _ _,hp.2.2⟩
theorem mP.still{call:c5}(hc:mN call){bh:bU}{S lP:aw}{bc:Bool}(h:mP call bh S lP bc)(ag:bc=false):lP.H=S.H:=by
 rcases h with⟨-,v,H1,bL,h1,rfl,h2⟩|⟨-,rfl,-⟩
 ·have hp:=kX {S with H:=H1,low:=min S.low bL} bh.dst v
  rw[hp.1];exact O5 (zZ hc (aN _) h1) (h2.symm.trans ag)
 ·exact(kX S bh.dst (.aF [])).1
theorem mP.gE{call:c5}{bh:bU}{S lP:aw}{bc:Bool}(h:mP call bh S lP bc)(ag:bc=true):gE bh.op=true:=by
 rcases h with⟨-,v,H1,bL,h1,rfl,h2⟩|⟨-,rfl,h2⟩
 ·cases ht:Abs.gE bh.op with
  |true=>rfl
  |false=>
   exfalso;have bq:∀raw f args,bh.op≠ .call raw f args:=fun raw f args e=>by rw[e]at ht;simp[Abs.gE]at ht
   rw[zY bq]at h1;obtain⟨rfl,rfl,-⟩:=Xa ht h1;rw[ag]at h2;simp[eG]at h2
 ·rw[h2]at ag;cases ag
theorem mP.look{call:c5}{vars:List Nat}{N:Nat}{ops:Array Oper}{o:Oper}{bh:bU}{S lP:aw}{bc:Bool}(h:mP call bh S lP bc)(gy:u0 C vars N ops o bh){t:Nat}(ht:o.dst≠some t):
  dT vars lP t=dT vars S t:=by
 have key:∀(st:aw) (v:V),dT vars (st.put bh.dst v) t=dT vars st t:=fun st v=>by
  rcases gy.dst with⟨-,h2⟩|⟨d,-,h1,h2⟩
  ·rw[h2];rfl
  ·rw[h2,Fk,if_neg (fun e=>ht (by rw[h1,e]))]
 rcases h with⟨-,v,H1,bL,h1,rfl,-⟩|⟨-,rfl,-⟩
 ·rw[key];rfl
 ·rw[key]
def JU (T:Nat->Prop):ai->Prop
 | .tmp t| .var t=>T t
 | _=>True
theorem aj1{vars:List Nat}{ops:Array Oper}{o:Oper}{hg:Option (ai × Bool)}(bb:Ctx.guard vars ops o.guard=some hg){S:aw}{a:Act}{b:Bool}
  (hs:∀j want d,o.guard=some (j,want)->(ops[j]?).bind (·.dst)=some d->bw fid G w (dT vars S d) (a.tmps.getD d undef)) (hw:gS S.aM S.ay hg=some b):
  Region.wanted o (yielded ops a.tmps)=b:=by
 unfold Region.wanted;cases z6:o.guard with
 |none=>
  rw[z6]at bb;simp only[Ctx.guard,aD]at bb;subst bb;simp only[gS,aD]at hw;exact hw
 |some p=>
  obtain⟨j,want⟩:=p;rw[z6]at bb;simp only[Ctx.guard]at bb;split at bb
  ·rename_i d hd
   simp only[aD]at bb;subst bb;have af:=hs j want d z6 hd
   have CV:((if vars.contains d then ai.var d else ai.tmp d).ah S.aM S.ay)=dT vars S d:=by
    unfold dT;split<;>rfl
   simp only[gS,CV]at hw
   have hy:yielded ops a.tmps j=match a.tmps.getD d undef with| .bool c=>some c| _=>none:=by
    unfold yielded;rw[hd];simp only[aS,xL];cases a.tmps[d]? with
    |none=>rfl
    |some x=>cases x<;>rfl
   dsimp only;rw[hy];split at hw
   ·rename_i c hc
    rw[hc]at af;rw[af.ln];simp only[aD]at hw;rw[<-hw];cases c<;>cases want<;>rfl
   ·rename_i hc
    rw[hc]at af;obtain⟨vals,hx,hr⟩:=af.Oo;rw[hx];simp only[aD]at hw;rw[<-hw];rfl
   ·cases hw
  ·cases bb
theorem z7{vars:List Nat}{N:Nat}{ops:Array Oper}{o:Oper}{bh:bU}{S lP:aw}{bc:Bool}{call:c5}{j:Nat}{Hc:Heap}{a:Act}{T:Nat->Prop}{K:Act->World->Prop}
  {Q:Exit->Act->World->Prop} {ro:Option Nat} (bP:fl C fid) (bm:hD C fid call) (ho:ops[j]? =some o) (gy:u0 C vars N ops o bh) (ca:mP call bh S lP bc)
  (U:bd C fid G Hc w) (hH:gE bh.op=true->Hc=S.H\/(bc=false/\(gS S.aM S.ay bh.guard=some true->∀v H1 bL,ch call (ai.ah S.aM S.ay) S.H S.H.length bh.op=some (v,H1,bL)->∃H2 dL,ch call (ai.ah S.aM S.ay) Hc Hc.length bh.op=some (v,H2,dL)/\eG Hc H2 dL=false))) (jL:S.low<=Hc.length)
  (sG:∀t,T t->bw fid G w (dT vars S t) (a.tmps.getD t undef))
  (hT:∀x∈bh.op.operands,JU T x) (aj2:∀k want d,o.guard=some (k,want)->(ops[k]?).bind (·.dst)=some d->T d) (dr:a.tmps.size=N)
  (oU:∀x w' G',bd C fid G' (if bc then lP.H else Hc) w'->(∀m,m<=lP.low->Ext G w G' w' m Hc.length)->(∀t,o.dst=some t->bw fid G' w' (dT vars lP t) x)->K (a.put o.dst x) w'):
  wpOpIn (eV ro) 0 C.P ops Q j K a w:=by
 have Xg:∀b,gS S.aM S.ay bh.guard=some b->Region.wanted o (yielded ops a.tmps)=b:=fun b hb=>
  aj1 (fid:=fid) (G:=G) (w:=w) gy.guard (S:=S) (a:=a) (fun k want d h1 h2=>sG d (aj2 k want d h1 h2)) hb
 have mQ:∀(st:aw) (v:V) (t:Nat),o.dst=some t->dT vars (st.put bh.dst v) t=v:=fun st v t ht=>by
  rcases gy.dst with⟨h1,-⟩|⟨d,-,h1,h2⟩
  ·rw[h1]at ht;cases ht
  ·rw[h1]at ht;cases ht
   rw[h2,Fk,if_pos rfl]
 unfold wpOpIn;rw[ho];rcases ca with⟨hw,v,H1,bL,h1,rfl,kx⟩|⟨hw,rfl,kx⟩
 ·simp only[Xg _ hw,if_true]
  refine⟨fun _ _=>trivial,?_⟩;let hU:ai->V:=fun cO=>open Classical in if cO∈bh.op.operands then ai.ah S.aM S.ay cO else .undef
  have Ph:∀H low,ch call (ai.ah S.aM S.ay) H low bh.op=ch call hU H low bh.op:=fun H low=>ajW fun x hx=>by simp[hU,hx]
  have aU:fK C fid vars G w hU a.eval:=fun x cO hx=>by
   by_cases hin:cO∈bh.op.operands
   ·have wz:=hT cO hin
    simp only[hU,hin,if_true];cases x with
    |tmp t=>
     simp only[Ctx.cl,aD]at hx;have Pj:T t:=by rw[<-hx]at wz;split at wz<;>exact wz
     have:=sG t Pj;have e:cO.ah S.aM S.ay=dT vars S t:=by rw[<-hx];unfold dT;split<;>rfl
     rw[e];exact this
    |const u=>
     simp only[Ctx.cl]at hx;obtain⟨Xh,jq,rfl⟩:=cD.1 hx;rcases EW (I:=G.I) (w:=w) u jq with rfl|hp
     ·exact .undef _
     ·exact .p _ _ hp
    |func f=>exact Oy bP hx
    |global g=>simp[Ctx.cl]at hx
   ·simp only[hU,hin,if_false];exact .undef _
  have aj3:o.semAt (eV ro).round a.eval=execOp a.eval o:=Oper.semAt_eq _ _ _ fun c hc=>by
   rw[gy.op,hc]at h1;simp[Ctx.op,Ctx.c2,ch,step]at h1
  rw[aj3];have gz:=kX {S with H:=H1,low:=min S.low bL} bh.dst v;by_cases ht:gE bh.op=true
  ·rcases hH ht with e|⟨aj4,eC⟩
   case inr=>
    obtain⟨H2,dL,h2,Pk⟩:=eC hw v H1 bL h1;have aj5:=zZ bm.b7 (aN _) h2;have JV:=O5 aj5 Pk
    have z8:Hc.length<=dL:=by
     unfold eG at Pk;simp only[Ny,decide_eq_false_iff_not]at Pk;omega
    rw[JV]at h2;rw[Ph,gy.op]at h2;refine O8 (R:=lO C fid G Hc w v Hc dL) (fun x bQ hp=> ?_) (Pa bP bm U aU (aN _) h2);obtain⟨bC,p1,p2,p3⟩:=hp;refine oU x bQ bC (by rw[aj4];exact p1) (fun m hm=>p2 m ?_) (fun t ht=>by rw[mQ _ _ _ ht];exact p3);rw[gz.2.1]at hm;have:m<=S.low:=c4 hm (j3 _ _);omega
   subst e;rw[Ph,gy.op]at h1;refine O8 (R:=lO C fid G S.H w v H1 bL) (fun x bQ hp=> ?_) (Pa bP bm U aU (aN _) h1);obtain⟨bC,p1,p2,p3⟩:=hp;refine oU x bQ bC ?_ (fun m hm=>p2 m (by rw[gz.2.1]at hm;exact c4 hm (oC _ _))) (fun t ht=>by rw[mQ _ _ _ ht];exact p3);rw[gz.1];cases bc with
   |true=>exact p1
   |false=>
    have:=O5 (zZ bm.b7 (aN _) h1) kx.symm;rw[this]at p1;exact p1
  ·have ey:gE bh.op=false:=by simpa using ht
   have bq:∀raw f args,bh.op≠ .call raw f args:=fun raw f args e=>by rw[e]at ey;simp[gE]at ey
   have Xi:=h1;rw[zY bq]at Xi;obtain⟨rfl,rfl,eC⟩:=Xa ey Xi;have aj6:bc=false:=by rw[kx];simp[eG]
   have h2:=eC Hc Hc.length;rw[<-zY (call:=call) bq,Ph,gy.op]at h2;refine O8 (R:=lO C fid G Hc w v Hc Hc.length) (fun x bQ hp=> ?_) (Pa bP bm U aU (aN _) h2);obtain⟨bC,p1,p2,p3⟩:=hp;refine oU x bQ bC (by rw[aj6];exact p1) (fun m hm=>p2 m ?_) (fun t ht=>by rw[mQ _ _ _ ht];exact p3);rw[gz.2.1]at hm;have:m<=S.low:=c4 hm (j3 _ _);omega
 ·have:=Xg _ hw
  dsimp only;rw[if_neg (by rw[this];simp)];refine⟨fun _ _=>trivial,?_⟩;refine oU undef w G ?_ (fun m _=>.refl _ _ _ _) (fun t ht=> ?_)
  ·rw[kx];exact U
  ·rw[mQ _ _ _ ht];exact .aF [] [] .nil
end Go.Abs
namespace Go.Abs
open Go
variable{C:Ctx}{fid:Nat->Nat}{w w':World}{G G':cg}{H H':Heap}
structure dN (C:Ctx) (fid:Nat->Nat) (vars:List Nat) (N:Nat) (G:cg) (st:aw) (a:Act) (w:World):Prop where
 rel:bd C fid G st.H w
 env:∀t,bw fid G w (dT vars st t) (a.tmps.getD t undef)
 size:a.tmps.size=N
 low:st.low<=st.H.length
structure lq (C:Ctx) (vars:List Nat) (N:Nat) (ops:Array Oper) (bR:List bU) (call:c5) (S:Nat->aw) (bc:Nat->Bool):Prop where
 len:bR.length=ops.size
 ok:∀(i:Nat) o bh,ops[i]? =some o->bR[i]? =some bh->u0 C vars N ops o bh
 step:∀(i:Nat) bh,bR[i]? =some bh->mP call bh (S i) (S (i+1)) (bc i)
section
variable{vars:List Nat}{N:Nat}{ops:Array Oper}{bR:List bU}{call:c5}{S:Nat->aw}{bc:Nat->Bool}
theorem lq.get (h:lq C vars N ops bR call S bc){i:Nat}(hi:i<ops.size):∃o bh,ops[i]? =some o/\bR[i]? =some bh/\u0 C vars N ops o bh/\mP call bh (S i) (S (i+1)) (bc i):=by
 have h1:ops[i]? =some ops[i]:=by simp[hi]
 have h2:bR[i]? =some (bR[i]'(by rw[h.len];exact hi)):=by simp
 exact⟨_,_,h1,h2,h.ok i _ _ h1 h2,h.step i _ h2⟩
theorem lq.of (hm:ee (C.oper vars N ops) ops.toList=some bR)(hs:∀(i:Nat) bh,bR[i]? =some bh->mP call bh (S i) (S (i+1)) (bc i)):lq C vars N ops bR call S bc:=
 ⟨by rw[wm _ hm];simp,fun i o bh h1 h2=>CU (wo _ hm (by rw[iG];exact h1) h2),hs⟩
theorem lq.b7 (h:lq C vars N ops bR call S bc)(hc:mN call){i:Nat}:∀{k:Nat},i+k<=ops.size->gN (S i) (S (i+k))
 |0,_=>.refl _
 |k+1,hk=>by
  obtain⟨o,bh,-,-,-,hs⟩:=h.get (i:=i+k) (by omega);exact(h.b7 hc (k:=k) (by omega)).trans (hs.b7 hc)
theorem lq.n0 (h:lq C vars N ops bR call S bc)(hc:mN call){i j:Nat}(cY:i<=j)(hj:j<=ops.size):gN (S i) (S j):=by
 obtain⟨k,rfl⟩:=oz cY;exact h.b7 hc hj
theorem lq.heap (h:lq C vars N ops bR call S bc)(hc:mN call){i:Nat}:∀{k:Nat},i+k<=ops.size->(∀x,i<=x->x<i+k->bc x=false)->(S (i+k)).H=(S i).H
 |0,_,_=>rfl
 |k+1,hk,ag=>by
  obtain⟨o,bh,-,-,-,hs⟩:=h.get (i:=i+k) (by omega);have:=hs.still hc (ag (i+k) (by omega) (by omega));exact this.trans (h.heap hc (k:=k) (by omega) fun x h1 h2=>ag x h1 (by omega))
theorem lq.slot (h:lq C vars N ops bR call S bc){t:Nat}{i:Nat}:∀{k:Nat},i+k<=ops.size->(∀(x:Nat) o,i<=x->x<i+k->ops[x]? =some o->o.dst≠some t)->dT vars (S (i+k)) t=dT vars (S i) t
 |0,_,_=>rfl
 |k+1,hk,ag=>by
  obtain⟨o,bh,ho,-,a1,hs⟩:=h.get (i:=i+k) (by omega);have:=hs.look (t:=t) a1 (ag (i+k) o (by omega) (by omega) ho);exact this.trans (h.slot (k:=k) (by omega) fun x o h1 h2=>ag x o h1 (by omega))
theorem aj7 (vars:List Nat)(st:aw)(t:Nat):dT vars {st with aM:=[]} t=dT vars st t\/dT vars {st with aM:=[]} t=.undef:=by
 unfold dT;split
 ·exact .inl rfl
 ·exact .inr rfl
theorem dN.clear{st:aw}{a:Act}(h:dN C fid vars N G st a w):dN C fid vars N G {st with aM:=[]} a w:=
 ⟨h.rel,fun t=>by rcases aj7 vars st t with e|e<;>rw[e];exact h.env t;exact .undef _,h.size,h.low⟩
theorem dN.jo{st:aw}{a:Act}(h:dN C fid vars N G st a w)(e:w'.heap=w.heap):dN C fid vars N G st a w':=
 ⟨h.rel.jo e,fun t=>(h.env t).mono (.refl _) fun b hb=>⟨hb,by rw[e]⟩,h.size,h.low⟩
theorem Aa{o:Oper}{a:Act}{x:Value}{t:Nat}{bC:cg}{bQ:World}(hd:∀d,o.dst=some d->d<a.tmps.size){v:V}(h1:o.dst=some t->bw fid bC bQ v x)
  (h2:o.dst≠some t->bw fid bC bQ v (a.tmps.getD t undef)):bw fid bC bQ v ((a.put o.dst x).tmps.getD t undef):=by
 cases CW:o.dst with
 |none=>simp only[Act.put];exact h2 (by rw[CW];simp)
 |some d=>
  rw[Pf _ _ _ _ (hd d CW)];by_cases e:t=d
  ·subst e;rw[if_pos rfl];exact h1 CW
  ·rw[if_neg e];exact h2 (by rw[CW];simpa using lI e)
theorem u0.lt{o:Oper}{bh:bU}(h:u0 C vars N ops o bh):∀d,o.dst=some d->d<N:=fun d hd=>by
 rcases h.dst with⟨h1,-⟩|⟨d',h0,h1,-⟩
 ·rw[h1]at hd;cases hd
 ·rw[h1]at hd;cases hd;exact h0
theorem aj8{id:Nat}{st bf:aw}{wr:List Bool}{a:Act}{Q:Exit->Act->World->Prop}{ro:Option Nat}(bP:fl C fid)(bm:hD C fid call)(hm:ee (C.oper vars N ops) ops.toList=some bR)
  (he:c8 call bR {st with aM:=[]} []=some (bf,wr)) (U:dN C fid vars N G st a w)
  (dO:∀G' bn w',dN C fid vars N G' bf bn w'->(∀m,m<=bf.low->Ext G w G' w' m st.H.length)->bn.defers=a.defers->Q .normal bn w'):
  (Code.region id ops false).wpIn (eV ro) 0 C.P Q a w:=by
 obtain⟨S,bc,h0,hn,-,hs⟩:=u1 _ _ _ _ _ he;have T:lq C vars N ops bR call S bc:=.of hm hs
 have key:∀k j,j+k=ops.size->∀aB ak aH,dN C fid vars N aB (S j) ak aH->(∀m,m<=(S j).low->Ext G w aB aH m st.H.length)->ak.defers=a.defers->st.H.length<=(S j).H.length->
   wpOpsIn (eV ro) 0 C.P ops Q (List.range' j k) ak aH:=by
  intro k
  induction k with
  |zero=>
   intro j hj aB ak aH bI cq e6 _;have e:j=bR.length:=by rw[T.len];omega
   subst e;rw[hn]at bI cq;exact dO aB ak aH bI cq e6
  |succ k ih=>
   intro j hj aB ak aH bI cq e6 gU;obtain⟨o,bh,ho,gy,a1,ca⟩:=T.get (i:=j) (by omega);rw[uM,wpOpsIn_cons];have eR:=ca.b7 bm.b7;refine z7 (T:=fun _=>True) bP bm ho a1 ca bI.rel (fun _=>.inl rfl) bI.low (fun t _=>bI.env t) (fun x _=>by cases x<;>trivial) (fun _ _ _ _ _=>trivial) bI.size ?_;intro x bQ bC p1 p2 p3
   have Ab:bd C fid bC (S (j+1)).H bQ:=by
    cases ag:bc j with
    |true=>rw[ag]at p1;exact p1
    |false=>rw[ag]at p1;rw[ca.still bm.b7 ag];exact p1
   have nx:=p2 0 (cN _)
   refine ih (j+1) (by omega) bC _ bQ ⟨Ab,fun t=> ?_,by rw[yi];exact bI.size,eR.bound bI.low⟩ (fun m hm=>(cq m (c4 hm eR.1.low)).trans ((p2 m hm).le (aN _) gU)) (by rw[put_defers];exact e6)
    (c4 gU eR.1.len)
   refine Aa (fun d hd=>by rw[bI.size];exact a1.lt d hd) (fun h=>p3 t h) (fun h=> ?_);rw[ca.look a1 h];exact(bI.env t).ext bI.rel nx
 refine wpIn_region ?_;rw[I5];have jO:=U.clear;rw[<-h0]at jO;exact key ops.size 0 (by omega) G a w jO (fun m _=>.refl _ _ _ _) rfl (by rw[h0];exact aN _)
theorem Xj:∀(l:List Oper) (A:Array Nat),let B:=l.foldl (fun acc o=>acc.push (CheckFast.one (fun i=>acc.getD i 0) o)) A
  B.size=A.size+l.length/\(∀i,i<A.size->B.getD i 0=A.getD i 0)/\∀k o,l[k]? =some o->B.getD (A.size+k) 0=CheckFast.one (fun i=>if i<A.size+k then B.getD i 0 else 0) o
 |[],A=>⟨by simp,fun _ _=>rfl,fun k o h=>by simp at h⟩
 |o::l,A=>by
  intro B;obtain⟨h1,h2,au⟩:=Xj l (A.push (CheckFast.one (fun i=>A.getD i 0) o));have dM:B=l.foldl (fun acc o=>acc.push (CheckFast.one (fun i=>acc.getD i 0) o)) (A.push (CheckFast.one (fun i=>A.getD i 0) o)):=rfl;rw[<-dM]at h1 h2 au;simp only[Array.size_push]at h1 h2 au
  have hA:∀i,i<A.size->B.getD i 0=A.getD i 0:=fun i hi=>by
   rw[h2 i (by omega)];simp only[xL,Array.getElem?_push,if_neg (re hi)]
  refine⟨by simp only[iI];omega,hA,fun k p hk=> ?_⟩;cases k with
  |zero=>
   simp only[nO,aD]at hk;subst hk;rw[zw,h2 A.size (by omega)];simp only[xL,Array.getElem?_push,if_pos,xO];congr 1;funext i;by_cases hi:i<A.size
   ·rw[if_pos hi]
    have:=hA i hi;simp only[xL]at this;exact this.symm
   ·rw[if_neg hi];simp[I2 (Nat.le_of_not_lt hi)]
  |succ k=>
   have:=au k p (by simpa using hk);rw[I9]at this;rw[<-rb];exact this
theorem aj9{look:Nat->Nat}{o:Oper}{i:Nat}(h:(CheckFast.one look o).testBit i=true):∃e∈o.after,Region.binds .any e=true/\(i=e.on\/(look e.on).testBit i=true):=by
 unfold CheckFast.one at h;rw[<-Vr]at h
 have key:∀(l:List Edge) (s:Nat),(l.foldl (fun s e=>if Region.binds .any e then s ||| 2^e.on ||| look e.on else s) s).testBit i=true->s.testBit i=true\/∃e∈l,Region.binds .any e=true/\(i=e.on\/(look e.on).testBit i=true):=by
  intro l
  induction l with
  |nil=>exact fun s h=>.inl h
  |cons e l ih=>
   intro s h;rw[ti]at h;rcases ih _ h with h1|⟨e',he',h2⟩
   ·split at h1
    ·rename_i hb
     rw[Nat.testBit_or,Nat.testBit_or,Nat.testBit_two_pow]at h1;simp only[j2,decide_eq_true_eq]at h1;rcases h1 with(h1|h1)|h1
     ·exact .inl h1
     ·exact .inr ⟨e,by simp,hb,.inl h1.symm⟩
     ·exact .inr ⟨e,by simp,hb,.inr h1⟩
    ·exact .inl h1
   ·exact .inr ⟨e',by simp[he'],h2⟩
 rcases key _ _ h with h1|⟨e,he,h2⟩
 ·simp at h1
 ·exact⟨e,Array.mem_toList_iff.1 he,h2⟩
theorem Pl{ops:Array Oper}{j i:Nat}{o:Oper}(ho:ops[j]? =some o)(h:((CheckFast.beforeF ops).getD j 0).testBit i=true):
  ∃e∈o.after,Region.binds .any e=true/\(i=e.on\/((CheckFast.beforeF ops).getD e.on 0).testBit i=true):=by
 rw[CheckFast.beforeF_eq]at h⊢;have hb:=Xj ops.toList #[]
 have e:Region.before ops=ops.toList.foldl (fun acc o=>acc.push (CheckFast.one (fun i=>acc.getD i 0) o)) #[]:=by
  unfold Region.before;rw[<-Vr];rfl
 rw[<-e]at hb;have au:=hb.2.2 j o (by rw[iG];exact ho);rw[vJ,oD,eo]at au;rw[au]at h;obtain⟨x,hx,Xk,a7⟩:=aj9 h;refine⟨x,hx,Xk,a7.imp id fun h5=> ?_⟩;split at h5
 ·exact h5
 ·simp at h5
theorem Pm (h:Ctx.zI ops=true){i j:Nat}{o p:Oper}(ho:ops[j]? =some o)(hp:ops[i]? =some p){d:Nat}(hd:p.dst=some d)(cY:i≠j)(hn:o.dst=some d\/d∈Ctx.gd ops o):
  ((CheckFast.beforeF ops).getD (max i j) 0).testBit (min i j)=true:=by
 unfold Ctx.zI at h;simp only[eE]at h;have h1:=h (o,j) (jC.2 (by rw[iG];exact ho)) (p,i) (jC.2 (by rw[iG];exact hp));simp only[hd]at h1;simp only[j2,beq_iff_eq,oB,Ny,beq_eq_false_iff_ne,List.contains_eq_mem,decide_eq_false_iff_not]at h1;rcases h1 with(h1|⟨h1,h2⟩)|h1
 ·exact absurd h1 cY
 ·rcases hn with hn|hn
  ·exact absurd hn h1
  ·exact absurd hn h2
 ·exact h1
theorem Pn (h:Ctx.zH ops=true){j:Nat}{o:Oper}(ho:ops[j]? =some o){e:Edge}(he:e∈o.after)(hb:Region.binds .any e=true):e.on<j:=by
 unfold Ctx.zH at h;simp only[eE]at h;have h1:=h (o,j) (jC.2 (by rw[iG];exact ho));simp only[Array.all_eq_true_iff_forall_mem]at h1;have h2:=h1 e he;unfold Region.binds at hb;cases bb:e.ground<;>simp_all
theorem Po{l:List Nat}{p q:Nat->Bool}(Ac:∀x∈l,p x=true->q x=true){a:Nat}(al:a∈l)(bu:q a=true)(hp:p a=false):l.countP p<l.countP q:=by
 induction l with
 |nil=>cases al
 |cons x l ih=>
  have hle:l.countP p<=l.countP q:=List.countP_mono_left fun y hy=>Ac y (by simp[hy]);rw[List.countP_cons,List.countP_cons];rcases dG.1 al with rfl|hf
  ·rw[hp,bu];simp;omega
  ·have:=ih (fun y hy=>Ac y (by simp[hy])) hf
   have h2:=Ac x (by simp);cases hx:p x
   ·simp only[fV,if_false];split<;>omega
   ·rw[h2 hx];simp;omega
end
end Go.Abs
namespace Go.Abs
open Go
variable{C:Ctx}{fid:Nat->Nat}{w w':World}{G G':cg}{H H':Heap}
variable{vars:List Nat}{N:Nat}{ops:Array Oper}{bR:List bU}{call:c5}{S:Nat->aw}{bc:Nat->Bool}
structure Inv (C:Ctx) (fid:Nat->Nat) (vars:List Nat) (N:Nat) (ops:Array Oper) (S:Nat->aw) (bc:Nat->Bool) (G:cg) (w:World) (a:Act) (pV:Nat)
  (L:Array Bool) (k:Nat) (aB:cg) (ak:Act) (aH:World):Prop where
 size:L.size=ops.size
 closed:∀x,L.getD x false=true->∀i,((CheckFast.beforeF ops).getD x 0).testBit i=true->L.getD i false=true
 wA:k<=ops.size
 sH:∀i,i<ops.size->bc i=true->(L.getD i false=true↔i<k)
 rel:bd C fid aB (S k).H aH
 env:∀t m,m<=ops.size->(∀(i:Nat) o,ops[i]? =some o->o.dst=some t->(L.getD i false=true↔i<m))->bw fid aB aH (dT vars (S m) t) (ak.tmps.getD t undef)
 qJ:ak.tmps.size=N
 defers:ak.defers=a.defers
 ext:∀m,m<=(S ops.size).low->Ext G w aB aH m pV
theorem wB{L:Array Bool}{i j:Nat}(hj:j<L.size):(L.setIfInBounds j true).getD i false=true↔i=j\/L.getD i false=true:=by
 by_cases h:i=j
 ·subst h;simp[Array.getD,hj]
 ·rw[getD_set_ne false (lI h)];simp[h]
theorem aka{ej:List Nat}{wr:List Bool}(h:xV ej bR wr=true){i j:Nat}{bh:bU}(hi:wr[i]? =some true)(hj:bR[j]? =some bh)(ht:gE bh.op=true)(cY:i≠j):
  if j<i then(ej.getD i 0).testBit j=true else(ej.getD j 0).testBit i=true:=by
 unfold xV at h;rw[if_pos (uL.2 ⟨true,eZ hi,rfl⟩)]at h;simp only[eE]at h;have h1:=h (true,i) (jC.2 hi);simp only[fZ,tj,eE]at h1;have h2:=h1 (bh,j) (jC.2 hj);simp only[ht,fZ,tj,j2,beq_iff_eq,cY,false_or]at h2;split at h2
 ·rename_i aG;rw[if_pos aG];exact h2
 ·rename_i aG;rw[if_neg aG];exact h2
theorem JW{ej:List Nat}{i j:Nat}:qv ej i j=true↔(if j<i then(ej.getD i 0).testBit j=true else(ej.getD j 0).testBit i=true):=by
 unfold qv;split<;>rfl
theorem akb{ej:List Nat}{wr:List Bool}(h:Jm ej wr=true){i j:Nat}(hi:wr[i]? =some true)(hj:wr[j]? =some true)(cY:i≠j):qv ej i j=true:=by
 unfold Jm at h;simp only[eE]at h;have h1:=h (true,i) (jC.2 hi);simp only[fZ,tj,eE]at h1;have h2:=h1 (true,j) (jC.2 hj);simpa[cY]using h2
theorem akc{ej:List Nat}{ops:List bU}{wr:List Bool}{cv:List aw}{o:bU}{j k:Nat}{Jo Co:aw}(ho:ops[j]? =some o)(ht:gE o.op=true)(hw:wr.getD j false=false)(hj:cv[j]? =some Jo)(hk:cv[k]? =some Co)
  (wC:k≠j) (Fm:k=0\/wr.getD (k-1) false=true) (ny:∀i,wr[i]? =some true->i≠j->qv ej i j=true->(i<j↔i<k)):(o,Jo,Co.H)∈Jn ej ops wr cv:=by
 unfold Jn;simp only[Jd];refine⟨(o,j),jC.2 ho,?_⟩;simp only[ht,fZ,hw,zx,fV,if_false,Jd];refine⟨(Co,k),jC.2 hk,?_⟩;simp only;rw[if_neg]
 ·rw[hj];simp
 ·intro h
  simp only[j2,beq_iff_eq,wC,false_or,cm,bne_iff_ne,ne_eq,oB]at h;rcases h with h|h
  ·rcases Fm with h0|h0
   ·exact h.1 h0
   ·rw[h0]at h;cases h.2
  rw[uL]at h;obtain⟨⟨w,i⟩,hm,h⟩:=h;simp only[cm,bne_iff_ne,ne_eq]at h;obtain⟨h1,h2,au,a7⟩:=h;have hi:=jC.1 hm;simp only at hi;rw[h1]at hi;have:=ny i hi h2 au;apply a7;rw[decide_eq_decide];exact this
theorem Xl (bc:Nat->Bool):∀(k:Nat),∃bJ,bJ<=k/\(bJ=0\/bc (bJ-1)=true)/\∀x,bJ<=x->x<k->bc x=false
 |0=>⟨0,aN _,.inl rfl,fun x h1 h2=>by omega⟩
 |k+1=>by
  cases ag:bc k with
  |true=>exact⟨k+1,aN _,.inr ag,fun x h1 h2=>by omega⟩
  |false=>
   obtain⟨bJ,h1,h2,au⟩:=Xl bc k;refine⟨bJ,by omega,h2,fun x q1 q2=> ?_⟩;by_cases hx:x=k
   ·rw[hx];exact ag
   ·exact au x q1 (by omega)
theorem akd{id:Nat}{st bf:aw}{wr:List Bool}{a:Act}{Q:Exit->Act->World->Prop}{ro:Option Nat}(cW:C.P.follows .mixedOrders=true)(bP:fl C fid)(bm:hD C fid call)
  (hm:ee (C.oper vars N ops) ops.toList=some bR) (ky:Ctx.zH ops=true) (mJ:Ctx.zI ops=true) (sG:(ops.toList.zip bR).all (fun(o,a)=>Ctx.xZ ops o a)=true)
  (he:c8 call bR {st with aM:=[]} []=some (bf,wr)) (hin:(xV (CheckFast.beforeF ops).toList bR wr||ss call (CheckFast.beforeF ops).toList bR wr {st with aM:=[]})=true) (U:dN C fid vars N G st a w)
  (dO:∀G' bn w',dN C fid vars N G' bf bn w'->(∀m,m<=bf.low->Ext G w G' w' m st.H.length)->bn.defers=a.defers->Q .normal bn w'):
  (Code.region id ops true).wpIn (eV ro) 0 C.P Q a w:=by
 obtain⟨S,bc,h0,hn,lr,hs⟩:=u1 _ _ _ _ _ he;have T:lq C vars N ops bR call S bc:=.of hm hs;rw[T.len]at hn lr;simp only[List.reverse_nil,j4]at lr
 have hC:∀i,(CheckFast.beforeF ops).toList.getD i 0=(CheckFast.beforeF ops).getD i 0:=fun i=>by
  rw[nq,iG,xL]
 have Ad:∀i j,(if j<i then((CheckFast.beforeF ops).toList.getD i 0).testBit j=true else((CheckFast.beforeF ops).toList.getD j 0).testBit i=true)->((CheckFast.beforeF ops).getD (max i j) 0).testBit (min i j)=true:=fun i j this=>by
  rw[hC,hC]at this;split at this
  ·rw[Jh (by omega),sf (by omega)];exact this
  ·rw[Je (by omega),pz (by omega)];exact this
 have aAf:∀i j,((CheckFast.beforeF ops).getD (max i j) 0).testBit (min i j)=true\/qv (CheckFast.beforeF ops).toList i j=false:=fun i j=>by
  cases ho:qv (CheckFast.beforeF ops).toList i j with
  |false=>exact .inr rfl
  |true=>exact .inl (Ad i j (JW.1 ho))
 have Ae:(∀i,i<ops.size->bc i=true->∀(j:Nat) bh,bR[j]? =some bh->gE bh.op=true->i≠j->((CheckFast.beforeF ops).getD (max i j) 0).testBit (min i j)=true)\/
   ((∀i,i<ops.size->bc i=true->∀j,j<ops.size->bc j=true->i≠j->((CheckFast.beforeF ops).getD (max i j) 0).testBit (min i j)=true)/\
    ∀(j:Nat) bh k,bR[j]? =some bh->j<ops.size->k<=ops.size->gE bh.op=true->bc j=false->(∀i,i<ops.size->bc i=true->i≠j->((CheckFast.beforeF ops).getD (max i j) 0).testBit (min i j)=true->(i<j↔i<k))->(S k).H=(S j).H\/jH call (bh,S j,(S k).H)=true):=by
  rw[j2]at hin;rcases hin with hin|hin
  ·left
   intro i hi ag j bh hj ht cY;exact Ad i j (aka hin (i:=i) (by rw[lr];simp[hi,ag]) hj ht cY)
  ·right
   unfold ss at hin;split at hin
   ·rename_i cv pW
    simp only[cm]at hin;rw[<-h0]at pW;have oK:=JT bR S bc cv hs pW;rw[T.len]at oK;refine⟨fun i hi ag j hj iz cY=>Ad i j (JW.1 (akb hin.1 (i:=i) (j:=j) (by rw[lr];simp[hi,ag]) (by rw[lr];simp[hj,iz]) cY)),fun j bh k hj iX hk ht iz ny=> ?_⟩;obtain⟨bJ,hk',rv,JX⟩:=Xl bc k
    have Xm:(S k).H=(S bJ).H:=by
     obtain⟨d,rfl⟩:=oz hk';exact T.heap bm.b7 (by omega) fun x h1 h2=>JX x h1 h2
    by_cases wC:bJ=j
    ·left;rw[Xm,wC]
    right;rw[Xm]
    have Fm:bJ=0\/wr.getD (bJ-1) false=true:=by
     rcases Vs bJ with q|q
     ·exact .inl q
     ·rcases rv with q'|q'
      ·omega
      ·right
       rw[lr,nq,iH,NA (by omega:bJ-1<ops.size)];exact q'
    have dD:=akc (ej:=(CheckFast.beforeF ops).toList) (ops:=bR) (wr:=wr) (cv:=cv) (o:=bh) (j:=j) (k:=bJ) hj ht (by rw[lr];simp[iX,iz]) (oK j (by omega)) (oK bJ (by omega)) wC Fm (fun i hi cY ho=>by
     have Pp:i<ops.size:=by
      rcases gD i ops.size with h|h
      ·exact h
      ·rw[lr,nP (by simpa using h)]at hi;cases hi
     have ry:bc i=true:=by rw[lr]at hi;simpa[Pp]using hi
     refine(ny i Pp ry cY (Ad i j (JW.1 ho))).trans ⟨fun h=> ?_,fun h=>by omega⟩;rcases gD i bJ with q|q
     ·exact q
     ·rw[JX i q h]at ry;cases ry)
    exact eE.1 hin.2 _ dD
   ·cases hin
 have pX:st.H=(S 0).H/\st.low=(S 0).low:=by rw[h0];exact⟨rfl,rfl⟩
 have Fo:st.low<=st.H.length:=U.low
 have oV:∀L k aB ak aH,Inv C fid vars N ops S bc G w a st.H.length L k aB ak aH->(∀i,i<ops.size->L.getD i false=true)->Q .normal ak aH:=by
  intro L k aB ak aH I eC
  have hk:(S ops.size).H=(S k).H:=by
   obtain⟨d,hd⟩:=oz I.wA;rw[hd];refine T.heap bm.b7 (by omega) fun x h1 h2=> ?_;cases ag:bc x with
   |false=>rfl
   |true=>have:=(I.sH x (by omega) ag).1 (eC x (by omega));omega
  refine dO aB ak aH ?_ (fun m hm=>I.ext m (by rw[hn];exact hm)) I.defers;rw[<-hn];refine⟨by rw[hk];exact I.rel,fun t=>I.env t ops.size (aN _) fun i o ho _=> ?_,I.qJ,?_⟩
  ·have:i<ops.size:=(uI.1 ho).1
   simp[this,eC i this]
  ·exact(T.n0 bm.b7 (cN _) (aN _)).bound (by rw[<-pX.1,<-pX.2];exact Fo)
 have Fp:∀L k aB ak aH,Inv C fid vars N ops S bc G w a st.H.length L k aB ak aH->Region.ready .any ops L=[]->∀i,i<ops.size->L.getD i false=true:=by
  intro L k aB ak aH I hr i
  induction i using Nat.strongRecOn with
  | _ i ih=>
    intro hi;cases dP:L.getD i false with
    |true=>rfl
    |false=>
     exfalso
     have:i∈Region.ready .any ops L:=mem_ready.2 ⟨by
      have:i<L.size:=by rw[I.size];exact hi
      simp only[Array.getD,this,dif_pos]at dP⊢; exact dP,ops[i],by simp[hi],fun e he hb=>by
       have aG:=Pn ky (j:=i) (o:=ops[i]) (by simp[hi]) he hb;exact ih e.on aG (by omega)⟩
     rw[hr]at this;cases this
 have mG:∀(fuel:Nat) (L:Array Bool) (k:Nat) (aB:cg) (ak:Act) (aH:World) (j:Nat),Inv C fid vars N ops S bc G w a st.H.length L k aB ak aH->j∈Region.ready .any ops L->
   (∀ik bJ G' bn w',Inv C fid vars N ops S bc G w a st.H.length ik bJ G' bn w'->ik=L.setIfInBounds j true->wpAnyIn (eV ro) 0 C.P .any ops Q fuel ik bn w')->
   wpOpIn (eV ro) 0 C.P ops Q j (wpAnyIn (eV ro) 0 C.P .any ops Q fuel (L.setIfInBounds j true)) ak aH:=by
  intro fuel L k aB ak aH j I hj yj;obtain⟨yk,o,ho,Fq⟩:=mem_ready.1 hj;have iX:j<ops.size:=(uI.1 ho).1;have l9:j<L.size:=by rw[I.size];exact iX
  have pJ:L.getD j false=false:=by simp only[Array.getD,l9,dif_pos]at yk⊢; exact yk
  obtain⟨o',bh,ka,gy,a1,ca⟩:=T.get iX;rw[ho]at ka;cases ka
  have yl:∀i,((CheckFast.beforeF ops).getD j 0).testBit i=true->L.getD i false=true:=fun i hb=>by
   obtain⟨e,mH,nV,qK⟩:=Pl ho hb;have hl:=Fq e mH nV;rcases qK with rfl|qK
   ·exact hl
   ·exact I.closed e.on hl i qK
  have ny:∀i,i≠j->((CheckFast.beforeF ops).getD (max i j) 0).testBit (min i j)=true->(L.getD i false=true↔i<j):=by
   intro i cY hb;rcases gD i j with aG|hge
   ·rw[Je (by omega),pz (by omega)]at hb
    exact⟨fun _=>aG,fun _=>yl i hb⟩
   ·rw[Jh hge,sf hge]at hb
    refine⟨fun dP=> ?_,fun h=>by omega⟩;have:=I.closed i dP j hb;rw[pJ]at this;cases this
  have Xn:bc j=true->∀i,i<ops.size->bc i=true->i≠j->(L.getD i false=true↔i<j):=fun iz i hi ag cY=>ny i cY (by
   rcases Ae with hc|⟨hc,-⟩
   ·exact hc i hi ag j bh gy (ca.gE iz) cY
   ·exact hc i hi ag j iX iz cY)
  have ym:∀t,(o.dst=some t\/t∈Ctx.gd ops o)->∀(i:Nat) p,ops[i]? =some p->p.dst=some t->i≠j->(L.getD i false=true↔i<j):=fun t ht i p hp hd cY=>
   ny i cY (Pm mJ ho hp hd cY ht)
  have tC:(∀i,i<ops.size->bc i=true->i≠j->(L.getD i false=true↔i<j))->(S k).H=(S j).H:=by
   intro Fs;have hk:=I.wA;rcases Nat.le_total k j with wC|hjk
   ·obtain⟨d,rfl⟩:=oz wC
    refine(T.heap bm.b7 (by omega) fun x h1 h2=> ?_).symm;cases ag:bc x with
    |false=>rfl
    |true=>
     have ak:=(Fs x (by omega) ag (by omega)).2 (by omega);have a2:=(I.sH x (by omega) ag).1 ak;omega
   ·obtain⟨d,rfl⟩:=oz hjk
    refine T.heap bm.b7 (by omega) fun x h1 h2=> ?_;cases ag:bc x with
    |false=>rfl
    |true=>
     have a2:=(I.sH x (by omega) ag).2 (by omega);by_cases hx:x=j
     ·subst hx;rw[pJ]at a2;cases a2
     ·have:=(Fs x (by omega) ag hx).1 a2;omega
  have Pq:gE bh.op=true->(S k).H=(S j).H\/(bc j=false/\(gS (S j).aM (S j).ay bh.guard=some true->∀v H1 bL,ch call (ai.ah (S j).aM (S j).ay) (S j).H (S j).H.length bh.op=some (v,H1,bL)->∃H2 dL,ch call (ai.ah (S j).aM (S j).ay) (S k).H (S k).H.length bh.op=some (v,H2,dL)/\eG (S k).H H2 dL=false)):=by
   intro ht;rcases Ae with hc|⟨-,hc⟩
   ·exact .inl (tC fun i hi ag cY=>ny i cY (hc i hi ag j bh gy ht cY))
   ·cases iz:bc j with
    |true=>exact .inl (tC (Xn iz))
    |false=>
     rcases hc j bh k gy iX I.wA ht iz (fun i hi ag cY hb=>by
      rw[<-ny i cY hb];exact I.sH i hi ag)with n1|n1
     ·exact .inl n1
     refine .inr ⟨rfl,fun hw v H1 bL h1=> ?_⟩;unfold jH at n1;simp only[hw,h1]at n1;split at n1
     ·rename_i v' H2 dL h2
      simp only[cm,oB]at n1;have:=wy _ _ n1.1;subst this;exact⟨H2,dL,h2,n1.2⟩
     ·cases n1
  have eR:=ca.b7 bm.b7
  have Pr:(S j).low<=(S k).H.length:=by
   have ad:=(T.n0 bm.b7 (i:=0) (j:=j) (cN _) (by omega)).1.low;have e2:=(T.n0 bm.b7 (i:=0) (j:=k) (cN _) I.wA).1.len;rw[<-pX.2]at ad;rw[<-pX.1]at e2;omega
  have CX:∀x∈bh.op.operands,JU (fun t=>t∈Ctx.gd ops o) x:=by
   intro x hx;have h1:(o,bh)∈ops.toList.zip bR:=py.2 ⟨j,by rw[Ch];exact⟨by rw[iG];exact ho,gy⟩⟩;have h2:=eE.1 sG _ h1;simp only[Ctx.xZ,eE]at h2;have au:=h2 x hx;cases x with
   |tmp t=>exact uK.1 au
   |var t=>exact uK.1 au
   |const v=>trivial
   |func i=>trivial
  refine z7 (T:=fun t=>t∈Ctx.gd ops o) bP bm ho a1 ca I.rel Pq Pr (fun t ht=> ?_) CX (fun q want d bb hd=> ?_) I.qJ ?_
  ·refine I.env t j (by omega) fun i p hp hd=> ?_
   by_cases cY:i=j
   ·subst cY;simp[pJ]
   ·exact ym t (.inr ht) i p hp hd cY
  ·simp only[Ctx.gd,kq]
   right;rw[bb];simp only[];rw[hd];simp
  ·intro x bQ bC p1 p2 p3
   have nx:=p2 0 (cN _);have kE:∀i,(L.setIfInBounds j true).getD i false=true↔i=j\/L.getD i false=true:=fun i=>wB l9;refine yj _ (if bc j then j+1 else k) bC _ bQ ⟨by simp[I.size],fun x hx i hb=> ?_,?_,fun i hi ag=> ?_,?_,fun t m hm eB=> ?_,by rw[yi];exact I.qJ,by rw[put_defers];exact I.defers,fun m hm=> ?_⟩ rfl
   ·rw[kE]at hx⊢
    rcases hx with rfl|hx
    ·exact .inr (yl i hb)
    ·exact .inr (I.closed x hx i hb)
   ·split
    ·omega
    ·exact I.wA
   ·rw[kE]
    by_cases cY:i=j
    ·subst cY;simp[ag]
    ·cases iz:bc j with
     |true=>
      have:=Xn iz i hi ag cY;simp only[cY,false_or,if_true];rw[this];omega
     |false=>simp only[cY,false_or,fV,if_false];exact I.sH i hi ag
   ·cases iz:bc j with
    |true=>rw[iz]at p1;exact p1
    |false=>rw[iz]at p1;exact p1
   ·refine Aa (fun d hd=>by rw[I.qJ];exact a1.lt d hd) (fun h=> ?_) (fun h=> ?_)
    ·have Ft:j<m:=(eB j o ho h).1 ((kE j).2 (.inl rfl))
     have e:dT vars (S m) t=dT vars (S (j+1)) t:=by
      obtain⟨d,rfl⟩:=oz (show j+1<=m from Ft);refine T.slot (by omega) fun x p h1 h2 hp hd=> ?_;have tD:x≠j:=by omega
      have ak:=(kE x).1 ((eB x p hp hd).2 h2);have a2:=(ym t (.inl h) x p hp hd tD).1 (ak.resolve_left tD);omega
     rw[e];exact p3 t h
    ·refine(I.env t m hm fun i p hp hd=> ?_).ext I.rel nx
     have cY:i≠j:=fun e=>by subst e;rw[ho]at hp;cases hp;exact h hd
     rw[<-eB i p hp hd,kE];simp[cY]
   ·have ad:=(T.n0 bm.b7 (i:=j+1) (j:=ops.size) iX (aN _)).1.low
    have e2:=(T.n0 bm.b7 (i:=0) (j:=k) (cN _) I.wA).1.len;rw[<-pX.1]at e2;exact(I.ext m hm).trans ((p2 m (by omega)).le (aN _) e2)
 have key:∀(fuel:Nat) (L:Array Bool) (k:Nat) (aB:cg) (ak:Act) (aH:World),Inv C fid vars N ops S bc G w a st.H.length L k aB ak aH->(List.range ops.size).countP (fun i=>!L.getD i false)<=fuel->
   wpAnyIn (eV ro) 0 C.P .any ops Q fuel L ak aH:=by
  intro fuel
  induction fuel with
  |zero=>
   intro L k aB ak aH I hc
   have eC:∀i,i<ops.size->L.getD i false=true:=fun i hi=>by
     have h1:=List.countP_eq_zero.1 (Nat.le_zero.1 hc) i (by simpa using hi);simpa using h1
   refine⟨?_,oV _ _ _ _ _ I eC⟩;cases hr:Region.ready .any ops L with
   |nil=>rfl
   |cons i r=>
    obtain⟨h1,o,ho,-⟩:=mem_ready.1 (show i∈Region.ready .any ops L by rw[hr];simp);have hi:i<ops.size:=(uI.1 ho).1;have h2:=eC i hi;have:i<L.size:=by rw[I.size];exact hi
    simp only[Array.getD,this,dif_pos]at h1 h2;rw[h1]at h2;cases h2
  |succ fuel ih=>
   intro L k aB ak aH I hc;refine⟨fun hr=>oV _ _ _ _ _ I (Fp _ _ _ _ _ I hr),fun j hj=>mG fuel L k aB ak aH j I hj fun ik bJ G' bn w' sw e=>ih ik bJ G' bn w' sw ?_⟩;subst e;obtain⟨h1,o,ho,-⟩:=mem_ready.1 hj;have iX:j<ops.size:=(uI.1 ho).1;have l9:j<L.size:=by rw[I.size];exact iX
   have aG:(List.range ops.size).countP (fun i=>!(L.setIfInBounds j true).getD i false)<(List.range ops.size).countP (fun i=>!L.getD i false):=by
     refine Po (a:=j) (fun x _ hx=> ?_) (by simpa using iX) ?_ ?_
     ·cases af:L.getD x false with
      |false=>rfl
      |true=>
       have:=(wB (i:=x) l9).2 (.inr af);rw[this]at hx;cases hx
     ·simp only[Array.getD,l9,dif_pos]at h1⊢; rw[h1];rfl
     ·have:=(wB (i:=j) l9).2 (.inl rfl)
      rw[this];rfl
   omega
 refine wpIn_region_any cW ?_;have hw:({w with drawn:=w.drawn+1}:World).heap=w.heap:=rfl;have jO:=(U.clear).jo hw;rw[<-h0]at jO
 have kc:∀i,(Array.replicate ops.size false).getD i false=false:=fun i=>by
  by_cases h:i<ops.size
  ·simp[h]
  ·simp[h]
 refine key ops.size (Array.replicate ops.size false) 0 G a {w with drawn:=w.drawn+1} ⟨by simp,fun x hx=>absurd hx (by rw[kc];simp),cN _,fun i hi ag=>by rw[kc];simp,jO.rel,fun t m hm eB=> ?_,jO.size,rfl,fun m _=>Ext.jo hw rfl rfl m _⟩ ?_
 ·have e:dT vars (S m) t=dT vars (S 0) t:=by
   have:=T.slot (t:=t) (i:=0) (k:=m) (by omega) fun x p h1 h2 hp hd=>by
     have:=(eB x p hp hd).2 (by omega);rw[kc]at this;cases this
   rw[eo]at this;exact this
  rw[e];exact jO.env t
 ·refine c4 List.countP_le_length (by simp)
end Go.Abs
