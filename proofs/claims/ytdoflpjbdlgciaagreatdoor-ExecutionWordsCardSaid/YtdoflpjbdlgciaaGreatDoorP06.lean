/- Texts of this claim, joined and written short by a program. -/
import Derived.Test.YtdoflpjbdlgciaaGreatDoorP05
import Derived.Test.YtdoflpjbdlgciaaGreatDoorP00
set_option linter.unusedVariables false
set_option linter.unusedSimpArgs false
set_option linter.unusedSectionVars false
namespace Go.Abs
open Go
variable{C:Ctx}{fid:Nat->Nat}{w w':World}{G G':cc}{H H':Heap}
def dX (vars:List Nat)(st:au)(t:Nat):V:=if vars.contains t then bR st.aw t else bR st.aG t
theorem VK (e:Env)(t e9:Nat)(v:V):bR (fN e t v) e9=if e9=t then v else bR e e9:=by
 induction e with
 |nil=>
  by_cases h:e9=t
  ·subst h;simp[fN,bR]
  ·simp[fN,bR,h,lj h]
 |cons p r ih=>
  obtain⟨k,u⟩:=p;simp only[fN];split
  ·rename_i ah
   subst ah;by_cases h:e9=k
   ·subst h;simp[bR]
   ·simp[bR,h,lj h]
  ·rename_i ah
   simp only[bR];split
   ·rename_i h
    rw[if_neg (by omega)]
   ·exact ih
theorem EE (vars:List Nat)(st:au)(d:Nat)(v:V)(t:Nat):dX vars (st.put (some (d,vars.contains d)) v) t=if t=d then v else dX vars st t:=by
 unfold dX;cases hd:vars.contains d
 ·simp only[au.put]
  by_cases h:t=d
  ·subst h;rw[if_neg (by rw[hd];exact Bool.false_ne_true),if_pos rfl];simp[bR]
  ·rw[if_neg h]
   simp only[bR,if_neg (lj h)]
 ·simp only[au.put,VK]
  by_cases h:t=d
  ·subst h;simp only[hd,if_true]
  ·simp only[if_neg h]
theorem OJ (a:Act)(d:Nat)(x:Value)(t:Nat)(hd:d<a.tmps.size):(a.put (some d) x).tmps.getD t undef=if t=d then x else a.tmps.getD t undef:=by
 simp only[Act.put];by_cases h:t=d
 ·subst h;simp[Array.getD,hd]
 ·rw[if_neg h]
  simp only[w4,TH (lj h)]
theorem xx (a:Act)(d:Option Tmp)(x:Value):(a.put d x).tmps.size=a.tmps.size:=by cases d<;>simp[Act.put]
theorem put_defers (a:Act)(d:Option Tmp)(x:Value):(a.put d x).defers=a.defers:=by cases d<;>simp[Act.put]
structure tP (C:Ctx) (vars:List Nat) (N:Nat) (ops:Array Oper) (o:Oper) (bh:bP):Prop where
 op:bh.op=C.op vars o.pos o.op
 dst:(o.dst=none/\bh.dst=none)\/∃d,d<N/\o.dst=some d/\bh.dst=some (d,vars.contains d)
 guard:Ctx.guard vars ops o.guard=some bh.guard
theorem B2{vars:List Nat}{N:Nat}{ops:Array Oper}{o:Oper}{bh:bP}(h:C.oper vars N ops o=some bh):tP C vars N ops o bh:=by
 unfold Ctx.oper at h;split at h
 ·rename_i g bx
  split at h
  ·rename_i hd
   cases h;exact⟨rfl,.inl ⟨hd,rfl⟩,bx⟩
  ·rename_i d hd
   split at h
   ·rename_i aH
    cases h;exact⟨rfl,.inr ⟨d,aH,hd,rfl⟩,bx⟩
   ·cases h
 ·cases h
def mA (call:c1)(bh:bP)(S lr:au)(bb:Bool):Prop:=
 (gE S.aG S.aw bh.guard=some true/\∃v H' low',cf call (aj.ai S.aG S.aw) S.H S.H.length bh.op=some (v,H',low')/\
   lr=({S with H:=H',low:=min S.low low'}:au).put bh.dst v/\bb=fm S.H H' low')\/
 (gE S.aG S.aw bh.guard=some false/\lr=S.put bh.dst (.bd [])/\bb=false)
theorem tQ{call:c1}:∀(bK:List bP) (st aX:au) (wr fD:List Bool),c5 call bK st wr=some (aX,fD)->
  ∃(S:Nat->au) (bb:Nat->Bool),S 0=st/\S bK.length=aX/\fD=wr.reverse++(List.range bK.length).map bb/\∀i bh,bK[i]? =some bh->mA call bh (S i) (S (i+1)) (bb i)
 |[],st,aX,wr,fD,he=>by
  simp only[c5,aA,bC]at he;obtain⟨rfl,rfl⟩:=he;exact⟨fun _=>st,fun _=>false,rfl,rfl,by simp,fun i bh h=>by simp at h⟩
 |o::r,st,aX,wr,fD,he=>by
  have key:∀(cm:au) (b:Bool),mA call o st cm b->c5 call r cm (b::wr)=some (aX,fD)->∃(S:Nat->au) (bb:Nat->Bool),S 0=st/\S (o::r).length=aX/\
    fD=wr.reverse++(List.range (o::r).length).map bb/\∀i bh,(o::r)[i]? =some bh->mA call bh (S i) (S (i+1)) (bb i):=fun cm b hs h=>by
   obtain⟨S,bb,h0,h1,h2,av⟩:=tQ r _ _ _ _ h;refine⟨fun i=>match i with|0=>st|i+1=>S i,fun i=>match i with|0=>b|i+1=>bb i,rfl,by simpa using h1,?_,fun i bh hi=> ?_⟩
   ·rw[h2,dE,List.range_succ_eq_map,eG,sf,List.reverse_cons,jJ]
    rfl
   ·cases i with
    |zero=>
     simp only[n4,aA]at hi;subst hi;simpa[h0]using hs
    |succ i=>exact av i bh (by simpa using hi)
  simp only[c5]at he;split at he
  ·rename_i hw
   split at he
   ·rename_i v H1 bS h1
    exact key _ _ (.inl ⟨hw,v,H1,bS,h1,rfl,rfl⟩) he
   ·cases he
  ·rename_i hw
   exact key _ _ (.inr ⟨hw,rfl,rfl⟩) he
  ·cases he
mutual
theorem vw:∀a b:V,ek a b=true->a=b
 | .bool a,.bool b,h=>by simp only[ek,beq_iff_eq]at h;rw[h]
 | .int k n,.int bE m,h=>by simp only[ek,ca,decide_eq_true_eq]at h;rw[h.1,h.2]
 | .str s,.str ar,h=>by simp only[ek,decide_eq_true_eq]at h;rw[h]
 | .aY,.aY,_=>rfl
 | .emp,.emp,_=>rfl
 | .iY,.iY,_=>rfl
 | .h7,.h7,_=>rfl
 | .kA,.kA,_=>rfl
 | .jL,.jL,_=>rfl
 | .undef,.undef,_=>rfl
 | .list e ds,.list e' ds',h=>by simp only[ek,ca,decide_eq_true_eq]at h;rw[h.1,tR _ _ h.2]
 | .agg a,.agg b,h=>by simp only[ek]at h;rw[tR _ _ h]
 | .bd a,.bd b,h=>by simp only[ek]at h;rw[tR _ _ h]
 | .ptr l o,.ptr fS o',h=>by simp only[ek,ca,decide_eq_true_eq]at h;rw[h.1,h.2]
 | .hg a b c d e,.hg bl e3 c' d' e',h=>by simp only[ek,ca,decide_eq_true_eq]at h;rw[h.1,h.2.1,h.2.2.1,h.2.2.2.1,h.2.2.2.2]
 | .dW vs f,.dW vs' mg,h=>by simp only[ek,ca,decide_eq_true_eq]at h;rw[tR _ _ h.1,h.2]
 | .b7 a b c d e,.b7 bl e3 c' d' e',h=>by simp only[ek,ca,decide_eq_true_eq]at h;rw[h.1,h.2.1,h.2.2.1,h.2.2.2.1,h.2.2.2.2]
 | .map l,.map fS,h=>by simp only[ek,decide_eq_true_eq]at h;rw[h]
 | .yield l,.yield fS,h=>by simp only[ek,decide_eq_true_eq]at h;rw[h]
 | .fn i a b,.fn yB bl e3,h=>by simp only[ek,ca,decide_eq_true_eq]at h;rw[h.1,tR _ _ h.2.1,tR _ _ h.2.2]
 | .iface t v,.iface e9 v',h=>by simp only[ek,ca,decide_eq_true_eq]at h;rw[h.1,vw _ _ h.2]
theorem tR:∀a b:List V,nv a b=true->a=b
 |[],[],_=>rfl
 |a::r,b::s,h=>by simp only[nv,ca]at h;rw[vw _ _ h.1,tR _ _ h.2]
end
theorem Ji{call:c1}:∀(bK:List bP) (S:Nat->au) (bb:Nat->Bool) (cq:List au),(∀(i:Nat) bh,bK[i]? =some bh->mA call bh (S i) (S (i+1)) (bb i))->fA call bK (S 0)=some cq->
  ∀k,k<=bK.length->cq[k]? =some (S k)
 |[],S,bb,cq,hs,ht,k,ah=>by
  simp only[fA,aA]at ht;subst ht;have:k=0:=by simpa using ah
  subst this;rfl
 |o::r,S,bb,cq,hs,ht,k,ah=>by
  have h0:=hs 0 o rfl;have y1:∀nE,fA call r (S 1)=some nE->∀k,k<=r.length->nE[k]? =some (S (k+1)):=fun nE h=>Ji r (fun i=>S (i+1)) (fun i=>bb (i+1)) nE (fun i bh hi=>hs (i+1) bh (by simpa using hi)) h;simp only[fA]at ht
  have fin:∀OK,OK=S 1->(fA call r OK).map (S 0:: ·)=some cq->cq[k]? =some (S k):=fun OK e h=>by
   subst e;obtain⟨x,hx,rfl⟩:=cG.1 h;cases k with
   |zero=>rfl
   |succ k=>simpa using y1 x hx k (by simpa using ah)
  rcases h0 with⟨hw,v,H1,bS,h1,e,-⟩|⟨hw,e,-⟩
  ·rw[hw]at ht
   simp only[h1]at ht;exact fin _ e.symm ht
  ·rw[hw]at ht
   simp only at ht;exact fin _ e.symm ht
theorem mA.b2{call:c1}(hc:my call){bh:bP}{S lr:au}{bb:Bool}(h:mA call bh S lr bb):gG S lr:=by
 rcases h with⟨-,v,H1,bS,h1,rfl,-⟩|⟨-,rfl,-⟩
 ·have hp:=kE {S with H:=H1,low:=min S.low bS} bh.dst v
  exact⟨by rw[hp.1,hp.2.1];exact(yZ hc (aM _) h1).lift _,hp.2.2⟩
 ·have hp:=kE S bh.dst (.bd [])
  exact⟨by rw[hp.1,hp.2.1];exact .refl _ _,hp.2.2⟩
theorem mA.still{call:c1}(hc:my call){bh:bP}{S lr:au}{bb:Bool}(h:mA call bh S lr bb)(ae:bb=false):lr.H=S.H:=by
 rcases h with⟨-,v,H1,bS,h1,rfl,h2⟩|⟨-,rfl,-⟩
 ·have hp:=kE {S with H:=H1,low:=min S.low bS} bh.dst v
  rw[hp.1];exact OA (yZ hc (aM _) h1) (h2.symm.trans ae)
 ·exact(kE S bh.dst (.bd [])).1
theorem mA.gr{call:c1}{bh:bP}{S lr:au}{bb:Bool}(h:mA call bh S lr bb)(ae:bb=true):gr bh.op=true:=by
 rcases h with⟨-,v,H1,bS,h1,rfl,h2⟩|⟨-,rfl,h2⟩
 ·cases ht:Abs.gr bh.op with
  |true=>rfl
  |false=>
   exfalso;have bu:∀raw f args,bh.op≠ .call raw f args:=fun raw f args e=>by rw[e]at ht;simp[Abs.gr]at ht
   rw[yY bu]at h1;obtain⟨rfl,rfl,-⟩:=VF ht h1;rw[ae]at h2;simp[fm]at h2
 ·rw[h2]at ae;cases ae
theorem mA.look{call:c1}{vars:List Nat}{N:Nat}{ops:Array Oper}{o:Oper}{bh:bP}{S lr:au}{bb:Bool}(h:mA call bh S lr bb)(gi:tP C vars N ops o bh){t:Nat}(ht:o.dst≠some t):
  dX vars lr t=dX vars S t:=by
 have key:∀(st:au) (v:V),dX vars (st.put bh.dst v) t=dX vars st t:=fun st v=>by
  rcases gi.dst with⟨-,h2⟩|⟨d,-,h1,h2⟩
  ·rw[h2];rfl
  ·rw[h2,EE,if_neg (fun e=>ht (by rw[h1,e]))]
 rcases h with⟨-,v,H1,bS,h1,rfl,-⟩|⟨-,rfl,-⟩
 ·rw[key];rfl
 ·rw[key]
def Jj (T:Nat->Prop):aj->Prop
 | .tmp t| .var t=>T t
 | _=>True
theorem ais{vars:List Nat}{ops:Array Oper}{o:Oper}{gV:Option (aj × Bool)}(bx:Ctx.guard vars ops o.guard=some gV){S:au}{a:Act}{b:Bool}
  (hs:∀j want d,o.guard=some (j,want)->(ops[j]?).bind (·.dst)=some d->bq fid G w (dX vars S d) (a.tmps.getD d undef)) (hw:gE S.aG S.aw gV=some b):
  Region.wanted o (yielded ops a.tmps)=b:=by
 unfold Region.wanted;cases y2:o.guard with
 |none=>
  rw[y2]at bx;simp only[Ctx.guard,aA]at bx;subst bx;simp only[gE,aA]at hw;exact hw
 |some p=>
  obtain⟨j,want⟩:=p;rw[y2]at bx;simp only[Ctx.guard]at bx;split at bx
  ·rename_i d hd
   simp only[aA]at bx;subst bx;have af:=hs j want d y2 hd
   have B3:((if vars.contains d then aj.var d else aj.tmp d).ai S.aG S.aw)=dX vars S d:=by
    unfold dX;split<;>rfl
   simp only[gE,B3]at hw
   have hy:yielded ops a.tmps j=match a.tmps.getD d undef with| .bool c=>some c| _=>none:=by
    unfold yielded;rw[hd];simp only[aK,w4];cases a.tmps[d]? with
    |none=>rfl
    |some x=>cases x<;>rfl
   dsimp only;rw[hy];split at hw
   ·rename_i c hc
    rw[hc]at af;rw[af.k1];simp only[aA]at hw;rw[<-hw];cases c<;>cases want<;>rfl
   ·rename_i hc
    rw[hc]at af;obtain⟨vals,hx,hr⟩:=af.NP;rw[hx];simp only[aA]at hw;rw[<-hw];rfl
   ·cases hw
  ·cases bx
theorem y3{vars:List Nat}{N:Nat}{ops:Array Oper}{o:Oper}{bh:bP}{S lr:au}{bb:Bool}{call:c1}{j:Nat}{Hc:Heap}{a:Act}{T:Nat->Prop}{K:Act->World->Prop}
  {Q:Exit->Act->World->Prop} {ro:Option Nat} (bF:fp C fid) (bn:hB C fid call) (ho:ops[j]? =some o) (gi:tP C vars N ops o bh) (cg:mA call bh S lr bb)
  (aa:bf C fid G Hc w) (fo:gr bh.op=true->Hc=S.H\/(bb=false/\(gE S.aG S.aw bh.guard=some true->∀v H1 bS,cf call (aj.ai S.aG S.aw) S.H S.H.length bh.op=some (v,H1,bS)->∃H2 dM,cf call (aj.ai S.aG S.aw) Hc Hc.length bh.op=some (v,H2,dM)/\fm Hc H2 dM=false))) (jq:S.low<=Hc.length)
  (rJ:∀t,T t->bq fid G w (dX vars S t) (a.tmps.getD t undef))
  (hT:∀x∈bh.op.operands,Jj T x) (ait:∀k want d,o.guard=some (k,want)->(ops[k]?).bind (·.dst)=some d->T d) (ea:a.tmps.size=N)
  (oi:∀x w' G',bf C fid G' (if bb then lr.H else Hc) w'->(∀m,m<=lr.low->Ext G w G' w' m Hc.length)->(∀t,o.dst=some t->bq fid G' w' (dX vars lr t) x)->K (a.put o.dst x) w'):
  wpOpIn (eJ ro) 0 C.P ops Q j K a w:=by
 have VL:∀b,gE S.aG S.aw bh.guard=some b->Region.wanted o (yielded ops a.tmps)=b:=fun b hb=>
  ais (fid:=fid) (G:=G) (w:=w) gi.guard (S:=S) (a:=a) (fun k want d h1 h2=>rJ d (ait k want d h1 h2)) hb
 have mB:∀(st:au) (v:V) (t:Nat),o.dst=some t->dX vars (st.put bh.dst v) t=v:=fun st v t ht=>by
  rcases gi.dst with⟨h1,-⟩|⟨d,-,h1,h2⟩
  ·rw[h1]at ht;cases ht
  ·rw[h1]at ht;cases ht
   rw[h2,EE,if_pos rfl]
 unfold wpOpIn;rw[ho];rcases cg with⟨hw,v,H1,bS,h1,rfl,ll⟩|⟨hw,rfl,ll⟩
 ·simp only[VL _ hw,if_true]
  refine⟨fun _ _=>trivial,?_⟩;let hM:aj->V:=fun cJ=>open Classical in if cJ∈bh.op.operands then aj.ai S.aG S.aw cJ else .undef
  have OL:∀H low,cf call (aj.ai S.aG S.aw) H low bh.op=cf call hM H low bh.op:=fun H low=>ain fun x hx=>by simp[hM,hx]
  have aR:fC C fid vars G w hM a.eval:=fun x cJ hx=>by
   by_cases hin:cJ∈bh.op.operands
   ·have vx:=hT cJ hin
    simp only[hM,hin,if_true];cases x with
    |tmp t=>
     simp only[Ctx.ch,aA]at hx;have OM:T t:=by rw[<-hx]at vx;split at vx<;>exact vx
     have:=rJ t OM;have e:cJ.ai S.aG S.aw=dX vars S t:=by rw[<-hx];unfold dX;split<;>rfl
     rw[e];exact this
    |const u=>
     simp only[Ctx.ch]at hx;obtain⟨VM,jS,rfl⟩:=cG.1 hx;rcases Eh (I:=G.I) (w:=w) u jS with rfl|hp
     ·exact .undef _
     ·exact .p _ _ hp
    |func f=>exact NW bF hx
    |global g=>simp[Ctx.ch]at hx
   ·simp only[hM,hin,if_false];exact .undef _
  have aiu:o.semAt (eJ ro).round a.eval=execOp a.eval o:=Oper.semAt_eq _ _ _ fun c hc=>by
   rw[gi.op,hc]at h1;simp[Ctx.op,Ctx.cY,cf,step]at h1
  rw[aiu];have gj:=kE {S with H:=H1,low:=min S.low bS} bh.dst v;by_cases ht:gr bh.op=true
  ·rcases fo ht with e|⟨aiv,eD⟩
   case inr=>
    obtain⟨H2,dM,h2,ON⟩:=eD hw v H1 bS h1;have aiw:=yZ bn.b2 (aM _) h2;have Jk:=OA aiw ON
    have y4:Hc.length<=dM:=by
     unfold fm at ON;simp only[uX,decide_eq_false_iff_not]at ON;omega
    rw[Jk]at h2;rw[OL,gi.op]at h2;refine OD (R:=lq C fid G Hc w v Hc dM) (fun x bG hp=> ?_) (OG bF bn aa aR (aM _) h2);obtain⟨bD,p1,p2,p3⟩:=hp;refine oi x bG bD (by rw[aiv];exact p1) (fun m hm=>p2 m ?_) (fun t ht=>by rw[mB _ _ _ ht];exact p3);rw[gj.2.1]at hm;have:m<=S.low:=dc hm (jK _ _);omega
   subst e;rw[OL,gi.op]at h1;refine OD (R:=lq C fid G S.H w v H1 bS) (fun x bG hp=> ?_) (OG bF bn aa aR (aM _) h1);obtain⟨bD,p1,p2,p3⟩:=hp;refine oi x bG bD ?_ (fun m hm=>p2 m (by rw[gj.2.1]at hm;exact dc hm (pC _ _))) (fun t ht=>by rw[mB _ _ _ ht];exact p3);rw[gj.1];cases bb with
   |true=>exact p1
   |false=>
    have:=OA (yZ bn.b2 (aM _) h1) ll.symm;rw[this]at p1;exact p1
  ·have eo:gr bh.op=false:=by simpa using ht
   have bu:∀raw f args,bh.op≠ .call raw f args:=fun raw f args e=>by rw[e]at eo;simp[gr]at eo
   have VN:=h1;rw[yY bu]at VN;obtain⟨rfl,rfl,eD⟩:=VF eo VN;have aix:bb=false:=by rw[ll];simp[fm]
   have h2:=eD Hc Hc.length;rw[<-yY (call:=call) bu,OL,gi.op]at h2;refine OD (R:=lq C fid G Hc w v Hc Hc.length) (fun x bG hp=> ?_) (OG bF bn aa aR (aM _) h2);obtain⟨bD,p1,p2,p3⟩:=hp;refine oi x bG bD (by rw[aix];exact p1) (fun m hm=>p2 m ?_) (fun t ht=>by rw[mB _ _ _ ht];exact p3);rw[gj.2.1]at hm;have:m<=S.low:=dc hm (jK _ _);omega
 ·have:=VL _ hw
  dsimp only;rw[if_neg (by rw[this];simp)];refine⟨fun _ _=>trivial,?_⟩;refine oi undef w G ?_ (fun m _=>.refl _ _ _ _) (fun t ht=> ?_)
  ·rw[ll];exact aa
  ·rw[mB _ _ _ ht];exact .bd [] [] .nil
end Go.Abs
namespace Go.Abs
open Go
variable{C:Ctx}{fid:Nat->Nat}{w w':World}{G G':cc}{H H':Heap}
structure dO (C:Ctx) (fid:Nat->Nat) (vars:List Nat) (N:Nat) (G:cc) (st:au) (a:Act) (w:World):Prop where
 rel:bf C fid G st.H w
 env:∀t,bq fid G w (dX vars st t) (a.tmps.getD t undef)
 size:a.tmps.size=N
 low:st.low<=st.H.length
structure k3 (C:Ctx) (vars:List Nat) (N:Nat) (ops:Array Oper) (bK:List bP) (call:c1) (S:Nat->au) (bb:Nat->Bool):Prop where
 len:bK.length=ops.size
 ok:∀(i:Nat) o bh,ops[i]? =some o->bK[i]? =some bh->tP C vars N ops o bh
 step:∀(i:Nat) bh,bK[i]? =some bh->mA call bh (S i) (S (i+1)) (bb i)
section
variable{vars:List Nat}{N:Nat}{ops:Array Oper}{bK:List bP}{call:c1}{S:Nat->au}{bb:Nat->Bool}
theorem k3.get (h:k3 C vars N ops bK call S bb){i:Nat}(hi:i<ops.size):∃o bh,ops[i]? =some o/\bK[i]? =some bh/\tP C vars N ops o bh/\mA call bh (S i) (S (i+1)) (bb i):=by
 have h1:ops[i]? =some ops[i]:=by simp[hi]
 have h2:bK[i]? =some (bK[i]'(by rw[h.len];exact hi)):=by simp
 exact⟨_,_,h1,h2,h.ok i _ _ h1 h2,h.step i _ h2⟩
theorem k3.of (hm:ee (C.oper vars N ops) ops.toList=some bK)(hs:∀(i:Nat) bh,bK[i]? =some bh->mA call bh (S i) (S (i+1)) (bb i)):k3 C vars N ops bK call S bb:=
 ⟨by rw[vn _ hm];simp,fun i o bh h1 h2=>B2 (vo _ hm (by rw[iX];exact h1) h2),hs⟩
theorem k3.b2 (h:k3 C vars N ops bK call S bb)(hc:my call){i:Nat}:∀{k:Nat},i+k<=ops.size->gG (S i) (S (i+k))
 |0,_=>.refl _
 |k+1,ah=>by
  obtain⟨o,bh,-,-,-,hs⟩:=h.get (i:=i+k) (by omega);exact(h.b2 hc (k:=k) (by omega)).trans (hs.b2 hc)
theorem k3.nF (h:k3 C vars N ops bK call S bb)(hc:my call){i j:Nat}(cW:i<=j)(hj:j<=ops.size):gG (S i) (S j):=by
 obtain⟨k,rfl⟩:=n5 cW;exact h.b2 hc hj
theorem k3.heap (h:k3 C vars N ops bK call S bb)(hc:my call){i:Nat}:∀{k:Nat},i+k<=ops.size->(∀x,i<=x->x<i+k->bb x=false)->(S (i+k)).H=(S i).H
 |0,_,_=>rfl
 |k+1,ah,ae=>by
  obtain⟨o,bh,-,-,-,hs⟩:=h.get (i:=i+k) (by omega);have:=hs.still hc (ae (i+k) (by omega) (by omega));exact this.trans (h.heap hc (k:=k) (by omega) fun x h1 h2=>ae x h1 (by omega))
theorem k3.slot (h:k3 C vars N ops bK call S bb){t:Nat}{i:Nat}:∀{k:Nat},i+k<=ops.size->(∀(x:Nat) o,i<=x->x<i+k->ops[x]? =some o->o.dst≠some t)->dX vars (S (i+k)) t=dX vars (S i) t
 |0,_,_=>rfl
 |k+1,ah,ae=>by
  obtain⟨o,bh,ho,-,aZ,hs⟩:=h.get (i:=i+k) (by omega);have:=hs.look (t:=t) aZ (ae (i+k) o (by omega) (by omega) ho);exact this.trans (h.slot (k:=k) (by omega) fun x o h1 h2=>ae x o h1 (by omega))
theorem aiy (vars:List Nat)(st:au)(t:Nat):dX vars {st with aG:=[]} t=dX vars st t\/dX vars {st with aG:=[]} t=.undef:=by
 unfold dX;split
 ·exact .inl rfl
 ·exact .inr rfl
theorem dO.clear{st:au}{a:Act}(h:dO C fid vars N G st a w):dO C fid vars N G {st with aG:=[]} a w:=
 ⟨h.rel,fun t=>by rcases aiy vars st t with e|e<;>rw[e];exact h.env t;exact .undef _,h.size,h.low⟩
theorem dO.jR{st:au}{a:Act}(h:dO C fid vars N G st a w)(e:w'.heap=w.heap):dO C fid vars N G st a w':=
 ⟨h.rel.jR e,fun t=>(h.env t).mono (.refl _) fun b hb=>⟨hb,by rw[e]⟩,h.size,h.low⟩
theorem y5{o:Oper}{a:Act}{x:Value}{t:Nat}{bD:cc}{bG:World}(hd:∀d,o.dst=some d->d<a.tmps.size){v:V}(h1:o.dst=some t->bq fid bD bG v x)
  (h2:o.dst≠some t->bq fid bD bG v (a.tmps.getD t undef)):bq fid bD bG v ((a.put o.dst x).tmps.getD t undef):=by
 cases B4:o.dst with
 |none=>simp only[Act.put];exact h2 (by rw[B4];simp)
 |some d=>
  rw[OJ _ _ _ _ (hd d B4)];by_cases e:t=d
  ·subst e;rw[if_pos rfl];exact h1 B4
  ·rw[if_neg e];exact h2 (by rw[B4];simpa using lj e)
theorem tP.lt{o:Oper}{bh:bP}(h:tP C vars N ops o bh):∀d,o.dst=some d->d<N:=fun d hd=>by
 rcases h.dst with⟨h1,-⟩|⟨d',h0,h1,-⟩
 ·rw[h1]at hd;cases hd
 ·rw[h1]at hd;cases hd;exact h0
theorem aiz{id:Nat}{st aX:au}{wr:List Bool}{a:Act}{Q:Exit->Act->World->Prop}{ro:Option Nat}(bF:fp C fid)(bn:hB C fid call)(hm:ee (C.oper vars N ops) ops.toList=some bK)
  (he:c5 call bK {st with aG:=[]} []=some (aX,wr)) (aa:dO C fid vars N G st a w)
  (dP:∀G' bl w',dO C fid vars N G' aX bl w'->(∀m,m<=aX.low->Ext G w G' w' m st.H.length)->bl.defers=a.defers->Q .normal bl w'):
  (Code.region id ops false).wpIn (eJ ro) 0 C.P Q a w:=by
 obtain⟨S,bb,h0,hn,-,hs⟩:=tQ _ _ _ _ _ he;have T:k3 C vars N ops bK call S bb:=.of hm hs
 have key:∀k j,j+k=ops.size->∀az al aE,dO C fid vars N az (S j) al aE->(∀m,m<=(S j).low->Ext G w az aE m st.H.length)->al.defers=a.defers->st.H.length<=(S j).H.length->
   wpOpsIn (eJ ro) 0 C.P ops Q (List.range' j k) al aE:=by
  intro k
  induction k with
  |zero=>
   intro j hj az al aE bH cw ff _;have e:j=bK.length:=by rw[T.len];omega
   subst e;rw[hn]at bH cw;exact dP az al aE bH cw ff
  |succ k ih=>
   intro j hj az al aE bH cw ff gW;obtain⟨o,bh,ho,gi,aZ,cg⟩:=T.get (i:=j) (by omega);rw[uZ,wpOpsIn_cons];have eP:=cg.b2 bn.b2;refine y3 (T:=fun _=>True) bF bn ho aZ cg bH.rel (fun _=>.inl rfl) bH.low (fun t _=>bH.env t) (fun x _=>by cases x<;>trivial) (fun _ _ _ _ _=>trivial) bH.size ?_;intro x bG bD p1 p2 p3
   have y6:bf C fid bD (S (j+1)).H bG:=by
    cases ae:bb j with
    |true=>rw[ae]at p1;exact p1
    |false=>rw[ae]at p1;rw[cg.still bn.b2 ae];exact p1
   have oj:=p2 0 (cI _)
   refine ih (j+1) (by omega) bD _ bG ⟨y6,fun t=> ?_,by rw[xx];exact bH.size,eP.bound bH.low⟩ (fun m hm=>(cw m (dc hm eP.1.low)).trans ((p2 m hm).le (aM _) gW)) (by rw[put_defers];exact ff)
    (dc gW eP.1.len)
   refine y5 (fun d hd=>by rw[bH.size];exact aZ.lt d hd) (fun h=>p3 t h) (fun h=> ?_);rw[cg.look aZ h];exact(bH.env t).ext bH.rel oj
 refine wpIn_region ?_;rw[HW];have ju:=aa.clear;rw[<-h0]at ju;exact key ops.size 0 (by omega) G a w ju (fun m _=>.refl _ _ _ _) rfl (by rw[h0];exact aM _)
theorem VO:∀(l:List Oper) (A:Array Nat),let B:=l.foldl (fun acc o=>acc.push (CheckFast.one (fun i=>acc.getD i 0) o)) A
  B.size=A.size+l.length/\(∀i,i<A.size->B.getD i 0=A.getD i 0)/\∀k o,l[k]? =some o->B.getD (A.size+k) 0=CheckFast.one (fun i=>if i<A.size+k then B.getD i 0 else 0) o
 |[],A=>⟨by simp,fun _ _=>rfl,fun k o h=>by simp at h⟩
 |o::l,A=>by
  intro B;obtain⟨h1,h2,av⟩:=VO l (A.push (CheckFast.one (fun i=>A.getD i 0) o));have dK:B=l.foldl (fun acc o=>acc.push (CheckFast.one (fun i=>acc.getD i 0) o)) (A.push (CheckFast.one (fun i=>A.getD i 0) o)):=rfl;rw[<-dK]at h1 h2 av;simp only[Array.size_push]at h1 h2 av
  have hA:∀i,i<A.size->B.getD i 0=A.getD i 0:=fun i hi=>by
   rw[h2 i (by omega)];simp only[w4,Array.getElem?_push,if_neg (qq hi)]
  refine⟨by simp only[dE];omega,hA,fun k p ah=> ?_⟩;cases k with
  |zero=>
   simp only[n4,aA]at ah;subst ah;rw[yx,h2 A.size (by omega)];simp only[w4,Array.getElem?_push,if_pos,w8];congr 1;funext i;by_cases hi:i<A.size
   ·rw[if_pos hi]
    have:=hA i hi;simp only[w4]at this;exact this.symm
   ·rw[if_neg hi];simp[HU (Nat.le_of_not_lt hi)]
  |succ k=>
   have:=av k p (by simpa using ah);rw[HY]at this;rw[<-rl];exact this
theorem aiA{look:Nat->Nat}{o:Oper}{i:Nat}(h:(CheckFast.one look o).testBit i=true):∃e∈o.after,Region.binds .any e=true/\(i=e.on\/(look e.on).testBit i=true):=by
 unfold CheckFast.one at h;rw[<-TT]at h
 have key:∀(l:List Edge) (s:Nat),(l.foldl (fun s e=>if Region.binds .any e then s ||| 2^e.on ||| look e.on else s) s).testBit i=true->s.testBit i=true\/∃e∈l,Region.binds .any e=true/\(i=e.on\/(look e.on).testBit i=true):=by
  intro l
  induction l with
  |nil=>exact fun s h=>.inl h
  |cons e l ih=>
   intro s h;rw[xb]at h;rcases ih _ h with h1|⟨e',he',h2⟩
   ·split at h1
    ·rename_i hb
     rw[Nat.testBit_or,Nat.testBit_or,Nat.testBit_two_pow]at h1;simp only[kz,decide_eq_true_eq]at h1;rcases h1 with(h1|h1)|h1
     ·exact .inl h1
     ·exact .inr ⟨e,by simp,hb,.inl h1.symm⟩
     ·exact .inr ⟨e,by simp,hb,.inr h1⟩
    ·exact .inl h1
   ·exact .inr ⟨e',by simp[he'],h2⟩
 rcases key _ _ h with h1|⟨e,he,h2⟩
 ·simp at h1
 ·exact⟨e,Array.mem_toList_iff.1 he,h2⟩
theorem OO{ops:Array Oper}{j i:Nat}{o:Oper}(ho:ops[j]? =some o)(h:((CheckFast.beforeF ops).getD j 0).testBit i=true):
  ∃e∈o.after,Region.binds .any e=true/\(i=e.on\/((CheckFast.beforeF ops).getD e.on 0).testBit i=true):=by
 rw[CheckFast.beforeF_eq]at h⊢;have hb:=VO ops.toList #[]
 have e:Region.before ops=ops.toList.foldl (fun acc o=>acc.push (CheckFast.one (fun i=>acc.getD i 0) o)) #[]:=by
  unfold Region.before;rw[<-TT];rfl
 rw[<-e]at hb;have av:=hb.2.2 j o (by rw[iX];exact ho);rw[uY,eF,er]at av;rw[av]at h;obtain⟨x,hx,VP,bc⟩:=aiA h;refine⟨x,hx,VP,bc.imp id fun h5=> ?_⟩;split at h5
 ·exact h5
 ·simp at h5
theorem OP (h:Ctx.yE ops=true){i j:Nat}{o p:Oper}(ho:ops[j]? =some o)(hp:ops[i]? =some p){d:Nat}(hd:p.dst=some d)(cW:i≠j)(hn:o.dst=some d\/d∈Ctx.fU ops o):
  ((CheckFast.beforeF ops).getD (max i j) 0).testBit (min i j)=true:=by
 unfold Ctx.yE at h;simp only[eV]at h;have h1:=h (o,j) (jm.2 (by rw[iX];exact ho)) (p,i) (jm.2 (by rw[iX];exact hp));simp only[hd]at h1;simp only[kz,beq_iff_eq,mb,uX,beq_eq_false_iff_ne,List.contains_eq_mem,decide_eq_false_iff_not]at h1;rcases h1 with(h1|⟨h1,h2⟩)|h1
 ·exact absurd h1 cW
 ·rcases hn with hn|hn
  ·exact absurd hn h1
  ·exact absurd hn h2
 ·exact h1
theorem OQ (h:Ctx.yD ops=true){j:Nat}{o:Oper}(ho:ops[j]? =some o){e:Edge}(he:e∈o.after)(hb:Region.binds .any e=true):e.on<j:=by
 unfold Ctx.yD at h;simp only[eV]at h;have h1:=h (o,j) (jm.2 (by rw[iX];exact ho));simp only[Array.all_eq_true_iff_forall_mem]at h1;have h2:=h1 e he;unfold Region.binds at hb;cases bx:e.ground<;>simp_all
theorem OR{l:List Nat}{p q:Nat->Bool}(y7:∀x∈l,p x=true->q x=true){a:Nat}(ao:a∈l)(bj:q a=true)(hp:p a=false):l.countP p<l.countP q:=by
 induction l with
 |nil=>cases ao
 |cons x l ih=>
  have hle:l.countP p<=l.countP q:=List.countP_mono_left fun y hy=>y7 y (by simp[hy]);rw[List.countP_cons,List.countP_cons];rcases dL.1 ao with rfl|gU
  ·rw[hp,bj];simp;omega
  ·have:=ih (fun y hy=>y7 y (by simp[hy])) gU
   have h2:=y7 x (by simp);cases hx:p x
   ·simp only[gN,if_false];split<;>omega
   ·rw[h2 hx];simp;omega
end
end Go.Abs
namespace Go.Abs
open Go
variable{C:Ctx}{fid:Nat->Nat}{w w':World}{G G':cc}{H H':Heap}
variable{vars:List Nat}{N:Nat}{ops:Array Oper}{bK:List bP}{call:c1}{S:Nat->au}{bb:Nat->Bool}
structure Inv (C:Ctx) (fid:Nat->Nat) (vars:List Nat) (N:Nat) (ops:Array Oper) (S:Nat->au) (bb:Nat->Bool) (G:cc) (w:World) (a:Act) (om:Nat)
  (L:Array Bool) (k:Nat) (az:cc) (al:Act) (aE:World):Prop where
 size:L.size=ops.size
 closed:∀x,L.getD x false=true->∀i,((CheckFast.beforeF ops).getD x 0).testBit i=true->L.getD i false=true
 vy:k<=ops.size
 rK:∀i,i<ops.size->bb i=true->(L.getD i false=true↔i<k)
 rel:bf C fid az (S k).H aE
 env:∀t m,m<=ops.size->(∀(i:Nat) o,ops[i]? =some o->o.dst=some t->(L.getD i false=true↔i<m))->bq fid az aE (dX vars (S m) t) (al.tmps.getD t undef)
 pU:al.tmps.size=N
 defers:al.defers=a.defers
 ext:∀m,m<=(S ops.size).low->Ext G w az aE m om
theorem vz{L:Array Bool}{i j:Nat}(hj:j<L.size):(L.setIfInBounds j true).getD i false=true↔i=j\/L.getD i false=true:=by
 by_cases h:i=j
 ·subst h;simp[Array.getD,hj]
 ·rw[getD_set_ne false (lj h)];simp[h]
theorem aiB{eh:List Nat}{wr:List Bool}(h:xh eh bK wr=true){i j:Nat}{bh:bP}(hi:wr[i]? =some true)(hj:bK[j]? =some bh)(ht:gr bh.op=true)(cW:i≠j):
  if j<i then(eh.getD i 0).testBit j=true else(eh.getD j 0).testBit i=true:=by
 unfold xh at h;rw[if_pos (sd.2 ⟨true,e0 hi,rfl⟩)]at h;simp only[eV]at h;have h1:=h (true,i) (jm.2 hi);simp only[fQ,qp,eV]at h1;have h2:=h1 (bh,j) (jm.2 hj);simp only[ht,fQ,qp,kz,beq_iff_eq,cW,false_or]at h2;split at h2
 ·rename_i aH;rw[if_pos aH];exact h2
 ·rename_i aH;rw[if_neg aH];exact h2
theorem Jl{eh:List Nat}{i j:Nat}:pG eh i j=true↔(if j<i then(eh.getD i 0).testBit j=true else(eh.getD j 0).testBit i=true):=by
 unfold pG;split<;>rfl
theorem aiC{eh:List Nat}{wr:List Bool}(h:Ih eh wr=true){i j:Nat}(hi:wr[i]? =some true)(hj:wr[j]? =some true)(cW:i≠j):pG eh i j=true:=by
 unfold Ih at h;simp only[eV]at h;have h1:=h (true,i) (jm.2 hi);simp only[fQ,qp,eV]at h1;have h2:=h1 (true,j) (jm.2 hj);simpa[cW]using h2
theorem aiD{eh:List Nat}{ops:List bP}{wr:List Bool}{cq:List au}{o:bP}{j k:Nat}{Ij Bm:au}(ho:ops[j]? =some o)(ht:gr o.op=true)(hw:wr.getD j false=false)(hj:cq[j]? =some Ij)(ah:cq[k]? =some Bm)
  (vA:k≠j) (EF:k=0\/wr.getD (k-1) false=true) (nd:∀i,wr[i]? =some true->i≠j->pG eh i j=true->(i<j↔i<k)):(o,Ij,Bm.H)∈Ii eh ops wr cq:=by
 unfold Ii;simp only[H5];refine⟨(o,j),jm.2 ho,?_⟩;simp only[ht,fQ,hw,Bj,gN,if_false,H5];refine⟨(Bm,k),jm.2 ah,?_⟩;simp only;rw[if_neg]
 ·rw[hj];simp
 ·intro h
  simp only[kz,beq_iff_eq,vA,false_or,ca,bne_iff_ne,ne_eq,mb]at h;rcases h with h|h
  ·rcases EF with h0|h0
   ·exact h.1 h0
   ·rw[h0]at h;cases h.2
  rw[sd]at h;obtain⟨⟨w,i⟩,hm,h⟩:=h;simp only[ca,bne_iff_ne,ne_eq]at h;obtain⟨h1,h2,av,bc⟩:=h;have hi:=jm.1 hm;simp only at hi;rw[h1]at hi;have:=nd i hi h2 av;apply bc;rw[decide_eq_decide];exact this
theorem VQ (bb:Nat->Bool):∀(k:Nat),∃bE,bE<=k/\(bE=0\/bb (bE-1)=true)/\∀x,bE<=x->x<k->bb x=false
 |0=>⟨0,aM _,.inl rfl,fun x h1 h2=>by omega⟩
 |k+1=>by
  cases ae:bb k with
  |true=>exact⟨k+1,aM _,.inr ae,fun x h1 h2=>by omega⟩
  |false=>
   obtain⟨bE,h1,h2,av⟩:=VQ bb k;refine⟨bE,by omega,h2,fun x q1 aT=> ?_⟩;by_cases hx:x=k
   ·rw[hx];exact ae
   ·exact av x q1 (by omega)
theorem aiE{id:Nat}{st aX:au}{wr:List Bool}{a:Act}{Q:Exit->Act->World->Prop}{ro:Option Nat}(cR:C.P.follows .mixedOrders=true)(bF:fp C fid)(bn:hB C fid call)
  (hm:ee (C.oper vars N ops) ops.toList=some bK) (kh:Ctx.yD ops=true) (mr:Ctx.yE ops=true) (rJ:(ops.toList.zip bK).all (fun(o,a)=>Ctx.xl ops o a)=true)
  (he:c5 call bK {st with aG:=[]} []=some (aX,wr)) (hin:(xh (CheckFast.beforeF ops).toList bK wr||rq call (CheckFast.beforeF ops).toList bK wr {st with aG:=[]})=true) (aa:dO C fid vars N G st a w)
  (dP:∀G' bl w',dO C fid vars N G' aX bl w'->(∀m,m<=aX.low->Ext G w G' w' m st.H.length)->bl.defers=a.defers->Q .normal bl w'):
  (Code.region id ops true).wpIn (eJ ro) 0 C.P Q a w:=by
 obtain⟨S,bb,h0,hn,lS,hs⟩:=tQ _ _ _ _ _ he;have T:k3 C vars N ops bK call S bb:=.of hm hs;rw[T.len]at hn lS;simp only[List.reverse_nil,ke]at lS
 have kg:∀i,(CheckFast.beforeF ops).toList.getD i 0=(CheckFast.beforeF ops).getD i 0:=fun i=>by
  rw[yn,iX,w4]
 have y8:∀i j,(if j<i then((CheckFast.beforeF ops).toList.getD i 0).testBit j=true else((CheckFast.beforeF ops).toList.getD j 0).testBit i=true)->((CheckFast.beforeF ops).getD (max i j) 0).testBit (min i j)=true:=fun i j this=>by
  rw[kg,kg]at this;split at this
  ·rw[H8 (by omega),tw (by omega)];exact this
  ·rw[H6 (by omega),n6 (by omega)];exact this
 have aAH:∀i j,((CheckFast.beforeF ops).getD (max i j) 0).testBit (min i j)=true\/pG (CheckFast.beforeF ops).toList i j=false:=fun i j=>by
  cases ho:pG (CheckFast.beforeF ops).toList i j with
  |false=>exact .inr rfl
  |true=>exact .inl (y8 i j (Jl.1 ho))
 have y9:(∀i,i<ops.size->bb i=true->∀(j:Nat) bh,bK[j]? =some bh->gr bh.op=true->i≠j->((CheckFast.beforeF ops).getD (max i j) 0).testBit (min i j)=true)\/
   ((∀i,i<ops.size->bb i=true->∀j,j<ops.size->bb j=true->i≠j->((CheckFast.beforeF ops).getD (max i j) 0).testBit (min i j)=true)/\
    ∀(j:Nat) bh k,bK[j]? =some bh->j<ops.size->k<=ops.size->gr bh.op=true->bb j=false->(∀i,i<ops.size->bb i=true->i≠j->((CheckFast.beforeF ops).getD (max i j) 0).testBit (min i j)=true->(i<j↔i<k))->(S k).H=(S j).H\/jo call (bh,S j,(S k).H)=true):=by
  rw[kz]at hin;rcases hin with hin|hin
  ·left
   intro i hi ae j bh hj ht cW;exact y8 i j (aiB hin (i:=i) (by rw[lS];simp[hi,ae]) hj ht cW)
  ·right
   unfold rq at hin;split at hin
   ·rename_i cq o3
    simp only[ca]at hin;rw[<-h0]at o3;have rz:=Ji bK S bb cq hs o3;rw[T.len]at rz;refine⟨fun i hi ae j hj ia cW=>y8 i j (Jl.1 (aiC hin.1 (i:=i) (j:=j) (by rw[lS];simp[hi,ae]) (by rw[lS];simp[hj,ia]) cW)),fun j bh k hj iJ ah ht ia nd=> ?_⟩;obtain⟨bE,hk',pV,OS⟩:=VQ bb k
    have VR:(S k).H=(S bE).H:=by
     obtain⟨d,rfl⟩:=n5 hk';exact T.heap bn.b2 (by omega) fun x h1 h2=>OS x h1 h2
    by_cases vA:bE=j
    ·left;rw[VR,vA]
    right;rw[VR]
    have EF:bE=0\/wr.getD (bE-1) false=true:=by
     rcases TU bE with q|q
     ·exact .inl q
     ·rcases pV with q'|q'
      ·omega
      ·right
       rw[lS,yn,kR,List.getElem?_range (by omega:bE-1<ops.size)];exact q'
    have dG:=aiD (eh:=(CheckFast.beforeF ops).toList) (ops:=bK) (wr:=wr) (cq:=cq) (o:=bh) (j:=j) (k:=bE) hj ht (by rw[lS];simp[iJ,ia]) (rz j (by omega)) (rz bE (by omega)) vA EF (fun i hi cW ho=>by
     have OT:i<ops.size:=by
      rcases gq i ops.size with h|h
      ·exact h
      ·rw[lS,nt (by simpa using h)]at hi;cases hi
     have sB:bb i=true:=by rw[lS]at hi;simpa[OT]using hi
     refine(nd i OT sB cW (y8 i j (Jl.1 ho))).trans ⟨fun h=> ?_,fun h=>by omega⟩;rcases gq i bE with q|q
     ·exact q
     ·rw[OS i q h]at sB;cases sB)
    exact eV.1 hin.2 _ dG
   ·cases hin
 have o4:st.H=(S 0).H/\st.low=(S 0).low:=by rw[h0];exact⟨rfl,rfl⟩
 have EG:st.low<=st.H.length:=aa.low
 have oo:∀L k az al aE,Inv C fid vars N ops S bb G w a st.H.length L k az al aE->(∀i,i<ops.size->L.getD i false=true)->Q .normal al aE:=by
  intro L k az al aE I eD
  have ah:(S ops.size).H=(S k).H:=by
   obtain⟨d,hd⟩:=n5 I.vy;rw[hd];refine T.heap bn.b2 (by omega) fun x h1 h2=> ?_;cases ae:bb x with
   |false=>rfl
   |true=>have:=(I.rK x (by omega) ae).1 (eD x (by omega));omega
  refine dP az al aE ?_ (fun m hm=>I.ext m (by rw[hn];exact hm)) I.defers;rw[<-hn];refine⟨by rw[ah];exact I.rel,fun t=>I.env t ops.size (aM _) fun i o ho _=> ?_,I.pU,?_⟩
  ·have:i<ops.size:=(tt.1 ho).1
   simp[this,eD i this]
  ·exact(T.nF bn.b2 (cI _) (aM _)).bound (by rw[<-o4.1,<-o4.2];exact EG)
 have EH:∀L k az al aE,Inv C fid vars N ops S bb G w a st.H.length L k az al aE->Region.ready .any ops L=[]->∀i,i<ops.size->L.getD i false=true:=by
  intro L k az al aE I hr i
  induction i using Nat.strongRecOn with
  | _ i ih=>
    intro hi;cases dY:L.getD i false with
    |true=>rfl
    |false=>
     exfalso
     have:i∈Region.ready .any ops L:=mem_ready.2 ⟨by
      have:i<L.size:=by rw[I.size];exact hi
      simp only[Array.getD,this,dif_pos]at dY⊢; exact dY,ops[i],by simp[hi],fun e he hb=>by
       have aH:=OQ kh (j:=i) (o:=ops[i]) (by simp[hi]) he hb;exact ih e.on aH (by omega)⟩
     rw[hr]at this;cases this
 have nz:∀(fuel:Nat) (L:Array Bool) (k:Nat) (az:cc) (al:Act) (aE:World) (j:Nat),Inv C fid vars N ops S bb G w a st.H.length L k az al aE->j∈Region.ready .any ops L->
   (∀hY bE G' bl w',Inv C fid vars N ops S bb G w a st.H.length hY bE G' bl w'->hY=L.setIfInBounds j true->wpAnyIn (eJ ro) 0 C.P .any ops Q fuel hY bl w')->
   wpOpIn (eJ ro) 0 C.P ops Q j (wpAnyIn (eJ ro) 0 C.P .any ops Q fuel (L.setIfInBounds j true)) al aE:=by
  intro fuel L k az al aE j I hj rL;obtain⟨xy,o,ho,EI⟩:=mem_ready.1 hj;have iJ:j<ops.size:=(tt.1 ho).1;have lT:j<L.size:=by rw[I.size];exact iJ
  have oS:L.getD j false=false:=by simp only[Array.getD,lT,dif_pos]at xy⊢; exact xy
  obtain⟨o',bh,kZ,gi,aZ,cg⟩:=T.get iJ;rw[ho]at kZ;cases kZ
  have xz:∀i,((CheckFast.beforeF ops).getD j 0).testBit i=true->L.getD i false=true:=fun i hb=>by
   obtain⟨e,mo,nC,pW⟩:=OO ho hb;have hl:=EI e mo nC;rcases pW with rfl|pW
   ·exact hl
   ·exact I.closed e.on hl i pW
  have nd:∀i,i≠j->((CheckFast.beforeF ops).getD (max i j) 0).testBit (min i j)=true->(L.getD i false=true↔i<j):=by
   intro i cW hb;rcases gq i j with aH|hge
   ·rw[H6 (by omega),n6 (by omega)]at hb
    exact⟨fun _=>aH,fun _=>xz i hb⟩
   ·rw[H8 hge,tw hge]at hb
    refine⟨fun dY=> ?_,fun h=>by omega⟩;have:=I.closed i dY j hb;rw[oS]at this;cases this
  have VS:bb j=true->∀i,i<ops.size->bb i=true->i≠j->(L.getD i false=true↔i<j):=fun ia i hi ae cW=>nd i cW (by
   rcases y9 with hc|⟨hc,-⟩
   ·exact hc i hi ae j bh gi (cg.gr ia) cW
   ·exact hc i hi ae j iJ ia cW)
  have xA:∀t,(o.dst=some t\/t∈Ctx.fU ops o)->∀(i:Nat) p,ops[i]? =some p->p.dst=some t->i≠j->(L.getD i false=true↔i<j):=fun t ht i p hp hd cW=>
   nd i cW (OP mr ho hp hd cW ht)
  have sC:(∀i,i<ops.size->bb i=true->i≠j->(L.getD i false=true↔i<j))->(S k).H=(S j).H:=by
   intro EJ;have ah:=I.vy;rcases Nat.le_total k j with vA|EK
   ·obtain⟨d,rfl⟩:=n5 vA
    refine(T.heap bn.b2 (by omega) fun x h1 h2=> ?_).symm;cases ae:bb x with
    |false=>rfl
    |true=>
     have al:=(EJ x (by omega) ae (by omega)).2 (by omega);have a2:=(I.rK x (by omega) ae).1 al;omega
   ·obtain⟨d,rfl⟩:=n5 EK
    refine T.heap bn.b2 (by omega) fun x h1 h2=> ?_;cases ae:bb x with
    |false=>rfl
    |true=>
     have a2:=(I.rK x (by omega) ae).2 (by omega);by_cases hx:x=j
     ·subst hx;rw[oS]at a2;cases a2
     ·have:=(EJ x (by omega) ae hx).1 a2;omega
  have OU:gr bh.op=true->(S k).H=(S j).H\/(bb j=false/\(gE (S j).aG (S j).aw bh.guard=some true->∀v H1 bS,cf call (aj.ai (S j).aG (S j).aw) (S j).H (S j).H.length bh.op=some (v,H1,bS)->∃H2 dM,cf call (aj.ai (S j).aG (S j).aw) (S k).H (S k).H.length bh.op=some (v,H2,dM)/\fm (S k).H H2 dM=false)):=by
   intro ht;rcases y9 with hc|⟨-,hc⟩
   ·exact .inl (sC fun i hi ae cW=>nd i cW (hc i hi ae j bh gi ht cW))
   ·cases ia:bb j with
    |true=>exact .inl (sC (VS ia))
    |false=>
     rcases hc j bh k gi iJ I.vy ht ia (fun i hi ae cW hb=>by
      rw[<-nd i cW hb];exact I.rK i hi ae)with nG|nG
     ·exact .inl nG
     refine .inr ⟨rfl,fun hw v H1 bS h1=> ?_⟩;unfold jo at nG;simp only[hw,h1]at nG;split at nG
     ·rename_i v' H2 dM h2
      simp only[ca,mb]at nG;have:=vw _ _ nG.1;subst this;exact⟨H2,dM,h2,nG.2⟩
     ·cases nG
  have eP:=cg.b2 bn.b2
  have OV:(S j).low<=(S k).H.length:=by
   have ag:=(T.nF bn.b2 (i:=0) (j:=j) (cI _) (by omega)).1.low;have e2:=(T.nF bn.b2 (i:=0) (j:=k) (cI _) I.vy).1.len;rw[<-o4.2]at ag;rw[<-o4.1]at e2;omega
  have B5:∀x∈bh.op.operands,Jj (fun t=>t∈Ctx.fU ops o) x:=by
   intro x hx;have h1:(o,bh)∈ops.toList.zip bK:=oN.2 ⟨j,by rw[Bc];exact⟨by rw[iX];exact ho,gi⟩⟩;have h2:=eV.1 rJ _ h1;simp only[Ctx.xl,eV]at h2;have av:=h2 x hx;cases x with
   |tmp t=>exact uW.1 av
   |var t=>exact uW.1 av
   |const v=>trivial
   |func i=>trivial
  refine y3 (T:=fun t=>t∈Ctx.fU ops o) bF bn ho aZ cg I.rel OU OV (fun t ht=> ?_) B5 (fun q want d bx hd=> ?_) I.pU ?_
  ·refine I.env t j (by omega) fun i p hp hd=> ?_
   by_cases cW:i=j
   ·subst cW;simp[oS]
   ·exact xA t (.inr ht) i p hp hd cW
  ·simp only[Ctx.fU,kS]
   right;rw[bx];simp only[];rw[hd];simp
  ·intro x bG bD p1 p2 p3
   have oj:=p2 0 (cI _);have k4:∀i,(L.setIfInBounds j true).getD i false=true↔i=j\/L.getD i false=true:=fun i=>vz lT;refine rL _ (if bb j then j+1 else k) bD _ bG ⟨by simp[I.size],fun x hx i hb=> ?_,?_,fun i hi ae=> ?_,?_,fun t m hm ev=> ?_,by rw[xx];exact I.pU,by rw[put_defers];exact I.defers,fun m hm=> ?_⟩ rfl
   ·rw[k4]at hx⊢
    rcases hx with rfl|hx
    ·exact .inr (xz i hb)
    ·exact .inr (I.closed x hx i hb)
   ·split
    ·omega
    ·exact I.vy
   ·rw[k4]
    by_cases cW:i=j
    ·subst cW;simp[ae]
    ·cases ia:bb j with
     |true=>
      have:=VS ia i hi ae cW;simp only[cW,false_or,if_true];rw[this];omega
     |false=>simp only[cW,false_or,gN,if_false];exact I.rK i hi ae
   ·cases ia:bb j with
    |true=>rw[ia]at p1;exact p1
    |false=>rw[ia]at p1;exact p1
   ·refine y5 (fun d hd=>by rw[I.pU];exact aZ.lt d hd) (fun h=> ?_) (fun h=> ?_)
    ·have EL:j<m:=(ev j o ho h).1 ((k4 j).2 (.inl rfl))
     have e:dX vars (S m) t=dX vars (S (j+1)) t:=by
      obtain⟨d,rfl⟩:=n5 (show j+1<=m from EL);refine T.slot (by omega) fun x p h1 h2 hp hd=> ?_;have sD:x≠j:=by omega
      have al:=(k4 x).1 ((ev x p hp hd).2 h2);have a2:=(xA t (.inl h) x p hp hd sD).1 (al.resolve_left sD);omega
     rw[e];exact p3 t h
    ·refine(I.env t m hm fun i p hp hd=> ?_).ext I.rel oj
     have cW:i≠j:=fun e=>by subst e;rw[ho]at hp;cases hp;exact h hd
     rw[<-ev i p hp hd,k4];simp[cW]
   ·have ag:=(T.nF bn.b2 (i:=j+1) (j:=ops.size) iJ (aM _)).1.low
    have e2:=(T.nF bn.b2 (i:=0) (j:=k) (cI _) I.vy).1.len;rw[<-o4.1]at e2;exact(I.ext m hm).trans ((p2 m (by omega)).le (aM _) e2)
 have key:∀(fuel:Nat) (L:Array Bool) (k:Nat) (az:cc) (al:Act) (aE:World),Inv C fid vars N ops S bb G w a st.H.length L k az al aE->(List.range ops.size).countP (fun i=>!L.getD i false)<=fuel->
   wpAnyIn (eJ ro) 0 C.P .any ops Q fuel L al aE:=by
  intro fuel
  induction fuel with
  |zero=>
   intro L k az al aE I hc
   have eD:∀i,i<ops.size->L.getD i false=true:=fun i hi=>by
     have h1:=List.countP_eq_zero.1 (Nat.le_zero.1 hc) i (by simpa using hi);simpa using h1
   refine⟨?_,oo _ _ _ _ _ I eD⟩;cases hr:Region.ready .any ops L with
   |nil=>rfl
   |cons i r=>
    obtain⟨h1,o,ho,-⟩:=mem_ready.1 (show i∈Region.ready .any ops L by rw[hr];simp);have hi:i<ops.size:=(tt.1 ho).1;have h2:=eD i hi;have:i<L.size:=by rw[I.size];exact hi
    simp only[Array.getD,this,dif_pos]at h1 h2;rw[h1]at h2;cases h2
  |succ fuel ih=>
   intro L k az al aE I hc;refine⟨fun hr=>oo _ _ _ _ _ I (EH _ _ _ _ _ I hr),fun j hj=>nz fuel L k az al aE j I hj fun hY bE G' bl w' ry e=>ih hY bE G' bl w' ry ?_⟩;subst e;obtain⟨h1,o,ho,-⟩:=mem_ready.1 hj;have iJ:j<ops.size:=(tt.1 ho).1;have lT:j<L.size:=by rw[I.size];exact iJ
   have aH:(List.range ops.size).countP (fun i=>!(L.setIfInBounds j true).getD i false)<(List.range ops.size).countP (fun i=>!L.getD i false):=by
     refine OR (a:=j) (fun x _ hx=> ?_) (by simpa using iJ) ?_ ?_
     ·cases af:L.getD x false with
      |false=>rfl
      |true=>
       have:=(vz (i:=x) lT).2 (.inr af);rw[this]at hx;cases hx
     ·simp only[Array.getD,lT,dif_pos]at h1⊢; rw[h1];rfl
     ·have:=(vz (i:=j) lT).2 (.inl rfl)
      rw[this];rfl
   omega
 refine wpIn_region_any cR ?_;have hw:({w with drawn:=w.drawn+1}:World).heap=w.heap:=rfl;have ju:=(aa.clear).jR hw;rw[<-h0]at ju
 have jU:∀i,(Array.replicate ops.size false).getD i false=false:=fun i=>by
  by_cases h:i<ops.size
  ·simp[h]
  ·simp[h]
 refine key ops.size (Array.replicate ops.size false) 0 G a {w with drawn:=w.drawn+1} ⟨by simp,fun x hx=>absurd hx (by rw[jU];simp),cI _,fun i hi ae=>by rw[jU];simp,ju.rel,fun t m hm ev=> ?_,ju.size,rfl,fun m _=>Ext.jR hw rfl rfl m _⟩ ?_
 ·have e:dX vars (S m) t=dX vars (S 0) t:=by
   have:=T.slot (t:=t) (i:=0) (k:=m) (by omega) fun x p h1 h2 hp hd=>by
     have:=(ev x p hp hd).2 (by omega);rw[jU]at this;cases this
   rw[er]at this;exact this
  rw[e];exact ju.env t
 ·refine dc List.countP_le_length (by simp)
end Go.Abs
