/- Texts of this claim, joined and written short by a program. -/
import Derived.Test.YtemakagmboeodaaGreatDoorP05
import Derived.Test.YtemakagmboeodaaGreatDoorP00
set_option linter.unusedVariables false
set_option linter.unusedSimpArgs false
set_option linter.unusedSectionVars false
namespace Go.Abs
open Go
variable{C:Ctx}{fid:Nat->Nat}{w w':World}{G G':bw}{H H':Heap}
def df (vars:List Nat)(st:au)(t:Nat):V:=if vars.contains t then cJ st.ax t else cJ st.aH t
theorem KN (e:Env)(t dr:Nat)(v:V):cJ (dq e t v) dr=if dr=t then v else cJ e dr:=by
 induction e with
 |nil=>
  by_cases h:dr=t
  ·subst h;simp[dq,cJ]
  ·simp[dq,cJ,h,jn h]
 |cons p r ih=>
  obtain⟨k,u⟩:=p;simp only[dq];split
  ·rename_i hk
   subst hk;by_cases h:dr=k
   ·subst h;simp[cJ]
   ·simp[cJ,h,jn h]
  ·rename_i hk
   simp only[cJ];split
   ·rename_i h
    rw[if_neg (by omega)]
   ·exact ih
theorem x7 (vars:List Nat)(st:au)(d:Nat)(v:V)(t:Nat):df vars (st.put (some (d,vars.contains d)) v) t=if t=d then v else df vars st t:=by
 unfold df;cases hd:vars.contains d
 ·simp only[au.put]
  by_cases h:t=d
  ·subst h;rw[if_neg (by rw[hd];exact Bool.false_ne_true),if_pos rfl];simp[cJ]
  ·rw[if_neg h]
   simp only[cJ,if_neg (jn h)]
 ·simp only[au.put,KN]
  by_cases h:t=d
  ·subst h;simp only[hd,if_true]
  ·simp only[if_neg h]
theorem EZ (a:Act)(d:Nat)(x:Value)(t:Nat)(hd:d<a.tmps.size):(a.put (some d) x).tmps.getD t undef=if t=d then x else a.tmps.getD t undef:=by
 simp only[Act.put];by_cases h:t=d
 ·subst h;simp[Array.getD,hd]
 ·rw[if_neg h]
  simp only[q8,Ui (jn h)]
theorem rR (a:Act)(d:Option Tmp)(x:Value):(a.put d x).tmps.size=a.tmps.size:=by cases d<;>simp[Act.put]
theorem put_defers (a:Act)(d:Option Tmp)(x:Value):(a.put d x).defers=a.defers:=by cases d<;>simp[Act.put]
structure pq (C:Ctx) (vars:List Nat) (N:Nat) (ops:Array Oper) (o:Oper) (aU:bl):Prop where
 op:aU.op=C.op vars o.pos o.op
 dst:(o.dst=none/\aU.dst=none)\/∃d,d<N/\o.dst=some d/\aU.dst=some (d,vars.contains d)
 guard:Ctx.guard vars ops o.guard=some aU.guard
theorem vP{vars:List Nat}{N:Nat}{ops:Array Oper}{o:Oper}{aU:bl}(h:C.oper vars N ops o=some aU):pq C vars N ops o aU:=by
 unfold Ctx.oper at h;split at h
 ·rename_i g aT
  split at h
  ·rename_i hd
   cases h;exact⟨rfl,.inl ⟨hd,rfl⟩,aT⟩
  ·rename_i d hd
   split at h
   ·rename_i aY
    cases h;exact⟨rfl,.inr ⟨d,aY,hd,rfl⟩,aT⟩
   ·cases h
 ·cases h
def jN (call:cj)(aU:bl)(S iZ:au)(aO:Bool):Prop:=
 (hU S.aH S.ax aU.guard=some true/\∃v H' low',bK call (ah.ag S.aH S.ax) S.H S.H.length aU.op=some (v,H',low')/\
   iZ=({S with H:=H',low:=min S.low low'}:au).put aU.dst v/\aO=ec S.H H' low')\/
 (hU S.aH S.ax aU.guard=some false/\iZ=S.put aU.dst (.aR [])/\aO=false)
theorem pr{call:cj}:∀(bj:List bl) (st aV:au) (wr ep:List Bool),cX call bj st wr=some (aV,ep)->
  ∃(S:Nat->au) (aO:Nat->Bool),S 0=st/\S bj.length=aV/\ep=wr.reverse++(List.range bj.length).map aO/\∀i aU,bj[i]? =some aU->jN call aU (S i) (S (i+1)) (aO i)
 |[],st,aV,wr,ep,he=>by
  simp only[cX,ay,a6]at he;obtain⟨rfl,rfl⟩:=he;exact⟨fun _=>st,fun _=>false,rfl,rfl,by simp,fun i aU h=>by simp at h⟩
 |o::r,st,aV,wr,ep,he=>by
  have key:∀(st1:au) (b:Bool),jN call o st st1 b->cX call r st1 (b::wr)=some (aV,ep)->∃(S:Nat->au) (aO:Nat->Bool),S 0=st/\S (o::r).length=aV/\
    ep=wr.reverse++(List.range (o::r).length).map aO/\∀i aU,(o::r)[i]? =some aU->jN call aU (S i) (S (i+1)) (aO i):=fun st1 b hs h=>by
   obtain⟨S,aO,h0,h1,h2,aq⟩:=pr r _ _ _ _ h;refine⟨fun i=>match i with|0=>st|i+1=>S i,fun i=>match i with|0=>b|i+1=>aO i,rfl,by simpa using h1,?_,fun i aU hi=> ?_⟩
   ·rw[h2,iN,List.range_succ_eq_map,cW,jm,List.reverse_cons,jl]
    rfl
   ·cases i with
    |zero=>
     simp only[lN,ay]at hi;subst hi;simpa[h0]using hs
    |succ i=>exact aq i aU (by simpa using hi)
  simp only[cX]at he;split at he
  ·rename_i hw
   split at he
   ·rename_i v H1 bm h1
    exact key _ _ (.inl ⟨hw,v,H1,bm,h1,rfl,rfl⟩) he
   ·cases he
  ·rename_i hw
   exact key _ _ (.inr ⟨hw,rfl,rfl⟩) he
  ·cases he
mutual
theorem rS:∀a b:V,de a b=true->a=b
 | .bool a,.bool b,h=>by simp only[de,beq_iff_eq]at h;rw[h]
 | .int k n,.int bJ m,h=>by simp only[de,cH,decide_eq_true_eq]at h;rw[h.1,h.2]
 | .str s,.str ao,h=>by simp only[de,decide_eq_true_eq]at h;rw[h]
 | .ak,.ak,_=>rfl
 | .emp,.emp,_=>rfl
 | .gy,.gy,_=>rfl
 | .hQ,.hQ,_=>rfl
 | .ik,.ik,_=>rfl
 | .gP,.gP,_=>rfl
 | .undef,.undef,_=>rfl
 | .list e ds,.list e' ds',h=>by simp only[de,cH,decide_eq_true_eq]at h;rw[h.1,mB _ _ h.2]
 | .agg a,.agg b,h=>by simp only[de]at h;rw[mB _ _ h]
 | .aR a,.aR b,h=>by simp only[de]at h;rw[mB _ _ h]
 | .ptr l o,.ptr eB cC,h=>by simp only[de,cH,decide_eq_true_eq]at h;rw[h.1,h.2]
 | .fm a b c d e,.fm bg dE c' d' e',h=>by simp only[de,cH,decide_eq_true_eq]at h;rw[h.1,h.2.1,h.2.2.1,h.2.2.2.1,h.2.2.2.2]
 | .dp vs f,.dp vs' jD,h=>by simp only[de,cH,decide_eq_true_eq]at h;rw[mB _ _ h.1,h.2]
 | .aN a b c d e,.aN bg dE c' d' e',h=>by simp only[de,cH,decide_eq_true_eq]at h;rw[h.1,h.2.1,h.2.2.1,h.2.2.2.1,h.2.2.2.2]
 | .map l,.map eB,h=>by simp only[de,decide_eq_true_eq]at h;rw[h]
 | .yield l,.yield eB,h=>by simp only[de,decide_eq_true_eq]at h;rw[h]
 | .fn i a b,.fn xv bg dE,h=>by simp only[de,cH,decide_eq_true_eq]at h;rw[h.1,mB _ _ h.2.1,mB _ _ h.2.2]
 | .iface t v,.iface dr v',h=>by simp only[de,cH,decide_eq_true_eq]at h;rw[h.1,rS _ _ h.2]
theorem mB:∀a b:List V,hX a b=true->a=b
 |[],[],_=>rfl
 |a::r,b::s,h=>by simp only[hX,cH]at h;rw[rS _ _ h.1,mB _ _ h.2]
end
theorem AO{call:cj}:∀(bj:List bl) (S:Nat->au) (aO:Nat->Bool) (cg:List au),(∀(i:Nat) aU,bj[i]? =some aU->jN call aU (S i) (S (i+1)) (aO i))->ee call bj (S 0)=some cg->
  ∀k,k<=bj.length->cg[k]? =some (S k)
 |[],S,aO,cg,hs,ht,k,hk=>by
  simp only[ee,ay]at ht;subst ht;have:k=0:=by simpa using hk
  subst this;rfl
 |o::r,S,aO,cg,hs,ht,k,hk=>by
  have h0:=hs 0 o rfl;have Wu:∀kp,ee call r (S 1)=some kp->∀k,k<=r.length->kp[k]? =some (S (k+1)):=fun kp h=>AO r (fun i=>S (i+1)) (fun i=>aO (i+1)) kp (fun i aU hi=>hs (i+1) aU (by simpa using hi)) h;simp only[ee]at ht
  have fin:∀E0,E0=S 1->(ee call r E0).map (S 0:: ·)=some cg->cg[k]? =some (S k):=fun E0 e h=>by
   subst e;obtain⟨x,hx,rfl⟩:=bW.1 h;cases k with
   |zero=>rfl
   |succ k=>simpa using Wu x hx k (by simpa using hk)
  rcases h0 with⟨hw,v,H1,bm,h1,e,-⟩|⟨hw,e,-⟩
  ·rw[hw]at ht
   simp only[h1]at ht;exact fin _ e.symm ht
  ·rw[hw]at ht
   simp only at ht;exact fin _ e.symm ht
theorem jN.bD{call:cj}(hc:jM call){aU:bl}{S iZ:au}{aO:Bool}(h:jN call aU S iZ aO):fh S iZ:=by
 rcases h with⟨-,v,H1,bm,h1,rfl,-⟩|⟨-,rfl,-⟩
 ·have hp:=jt {S with H:=H1,low:=min S.low bm} aU.dst v
  exact⟨by rw[hp.1,hp.2.1];exact(tK hc (aI _) h1).lift _,hp.2.2⟩
 ·have hp:=jt S aU.dst (.aR [])
  exact⟨by rw[hp.1,hp.2.1];exact .refl _ _,hp.2.2⟩
theorem jN.still{call:cj}(hc:jM call){aU:bl}{S iZ:au}{aO:Bool}(h:jN call aU S iZ aO)(af:aO=false):iZ.H=S.H:=by
 rcases h with⟨-,v,H1,bm,h1,rfl,h2⟩|⟨-,rfl,-⟩
 ·have hp:=jt {S with H:=H1,low:=min S.low bm} aU.dst v
  rw[hp.1];exact ER (tK hc (aI _) h1) (h2.symm.trans af)
 ·exact(jt S aU.dst (.aR [])).1
theorem jN.e2{call:cj}{aU:bl}{S iZ:au}{aO:Bool}(h:jN call aU S iZ aO)(af:aO=true):e2 aU.op=true:=by
 rcases h with⟨-,v,H1,bm,h1,rfl,h2⟩|⟨-,rfl,h2⟩
 ·cases ht:Abs.e2 aU.op with
  |true=>rfl
  |false=>
   exfalso;have bb:∀raw f args,aU.op≠ .call raw f args:=fun raw f args e=>by rw[e]at ht;simp[Abs.e2]at ht
   rw[tJ bb]at h1;obtain⟨rfl,rfl,-⟩:=KI ht h1;rw[af]at h2;simp[ec]at h2
 ·rw[h2]at af;cases af
theorem jN.look{call:cj}{vars:List Nat}{N:Nat}{ops:Array Oper}{o:Oper}{aU:bl}{S iZ:au}{aO:Bool}(h:jN call aU S iZ aO)(eP:pq C vars N ops o aU){t:Nat}(ht:o.dst≠some t):
  df vars iZ t=df vars S t:=by
 have key:∀(st:au) (v:V),df vars (st.put aU.dst v) t=df vars st t:=fun st v=>by
  rcases eP.dst with⟨-,h2⟩|⟨d,-,h1,h2⟩
  ·rw[h2];rfl
  ·rw[h2,x7,if_neg (fun e=>ht (by rw[h1,e]))]
 rcases h with⟨-,v,H1,bm,h1,rfl,-⟩|⟨-,rfl,-⟩
 ·rw[key];rfl
 ·rw[key]
def AP (T:Nat->Prop):ah->Prop
 | .tmp t| .var t=>T t
 | _=>True
theorem Wv{vars:List Nat}{ops:Array Oper}{o:Oper}{fi:Option (ah × Bool)}(aT:Ctx.guard vars ops o.guard=some fi){S:au}{a:Act}{b:Bool}
  (hs:∀j want d,o.guard=some (j,want)->(ops[j]?).bind (·.dst)=some d->aZ fid G w (df vars S d) (a.tmps.getD d undef)) (hw:hU S.aH S.ax fi=some b):
  Region.wanted o (yielded ops a.tmps)=b:=by
 unfold Region.wanted;cases tM:o.guard with
 |none=>
  rw[tM]at aT;simp only[Ctx.guard,ay]at aT;subst aT;simp only[hU,ay]at hw;exact hw
 |some p=>
  obtain⟨j,want⟩:=p;rw[tM]at aT;simp only[Ctx.guard]at aT;split at aT
  ·rename_i d hd
   simp only[ay]at aT;subst aT;have ad:=hs j want d tM hd
   have E1:((if vars.contains d then ah.var d else ah.tmp d).ag S.aH S.ax)=df vars S d:=by
    unfold df;split<;>rfl
   simp only[hU,E1]at hw
   have hy:yielded ops a.tmps j=match a.tmps.getD d undef with| .bool c=>some c| _=>none:=by
    unfold yielded;rw[hd];simp only[dM,q8];cases a.tmps[d]? with
    |none=>rfl
    |some x=>cases x<;>rfl
   dsimp only;rw[hy];split at hw
   ·rename_i c hc
    rw[hc]at ad;rw[ad.j6];simp only[ay]at hw;rw[<-hw];cases c<;>cases want<;>rfl
   ·rename_i hc
    rw[hc]at ad;obtain⟨vals,hx,hr⟩:=ad.D4;rw[hx];simp only[ay]at hw;rw[<-hw];rfl
   ·cases hw
  ·cases aT
theorem tN{vars:List Nat}{N:Nat}{ops:Array Oper}{o:Oper}{aU:bl}{S iZ:au}{aO:Bool}{call:cj}{j:Nat}{Hc:Heap}{a:Act}{T:Nat->Prop}{K:Act->World->Prop}
  {Q:Exit->Act->World->Prop} {ro:Option Nat} (bu:eh C fid) (bh:gh C fid call) (ho:ops[j]? =some o) (eP:pq C vars N ops o aU) (cG:jN call aU S iZ aO)
  (aa:aQ C fid G Hc w) (hH:e2 aU.op=true->Hc=S.H\/(aO=false/\(hU S.aH S.ax aU.guard=some true->∀v H1 bm,bK call (ah.ag S.aH S.ax) S.H S.H.length aU.op=some (v,H1,bm)->∃cT eH,bK call (ah.ag S.aH S.ax) Hc Hc.length aU.op=some (v,cT,eH)/\ec Hc cT eH=false))) (jI:S.low<=Hc.length)
  (ny:∀t,T t->aZ fid G w (df vars S t) (a.tmps.getD t undef))
  (hT:∀x∈aU.op.operands,AP T x) (Ww:∀k want d,o.guard=some (k,want)->(ops[k]?).bind (·.dst)=some d->T d) (du:a.tmps.size=N)
  (nz:∀x w' G',aQ C fid G' (if aO then iZ.H else Hc) w'->(∀m,m<=iZ.low->Ext G w G' w' m Hc.length)->(∀t,o.dst=some t->aZ fid G' w' (df vars iZ t) x)->K (a.put o.dst x) w'):
  wpOpIn (dO ro) 0 C.P ops Q j K a w:=by
 have KO:∀b,hU S.aH S.ax aU.guard=some b->Region.wanted o (yielded ops a.tmps)=b:=fun b hb=>
  Wv (fid:=fid) (G:=G) (w:=w) eP.guard (S:=S) (a:=a) (fun k want d h1 h2=>ny d (Ww k want d h1 h2)) hb
 have ja:∀(st:au) (v:V) (t:Nat),o.dst=some t->df vars (st.put aU.dst v) t=v:=fun st v t ht=>by
  rcases eP.dst with⟨h1,-⟩|⟨d,-,h1,h2⟩
  ·rw[h1]at ht;cases ht
  ·rw[h1]at ht;cases ht
   rw[h2,x7,if_pos rfl]
 unfold wpOpIn;rw[ho];rcases cG with⟨hw,v,H1,bm,h1,rfl,hB⟩|⟨hw,rfl,hB⟩
 ·simp only[KO _ hw,if_true]
  refine⟨fun _ _=>trivial,?_⟩;let fy:ah->V:=fun bY=>open Classical in if bY∈aU.op.operands then ah.ag S.aH S.ax bY else .undef
  have E2:∀H low,bK call (ah.ag S.aH S.ax) H low aU.op=bK call fy H low aU.op:=fun H low=>Wp fun x hx=>by simp[fy,hx]
  have aE:eo C fid vars G w fy a.eval:=fun x bY hx=>by
   by_cases hin:bY∈aU.op.operands
   ·have qs:=hT bY hin
    simp only[fy,hin,if_true];cases x with
    |tmp t=>
     simp only[Ctx.bF,ay]at hx;have E3:T t:=by rw[<-hx]at qs;split at qs<;>exact qs
     have:=ny t E3;have e:bY.ag S.aH S.ax=df vars S t:=by rw[<-hx];unfold df;split<;>rfl
     rw[e];exact this
    |const u=>
     simp only[Ctx.bF]at hx;obtain⟨KP,gd,rfl⟩:=bW.1 hx;rcases xH (I:=G.I) (w:=w) u gd with rfl|hp
     ·exact .undef _
     ·exact .p _ _ hp
    |func f=>exact Eb bu hx
    |global g=>simp[Ctx.bF]at hx
   ·simp only[fy,hin,if_false];exact .undef _
  have Wx:o.semAt (dO ro).round a.eval=execOp a.eval o:=Oper.semAt_eq _ _ _ fun c hc=>by
   rw[eP.op,hc]at h1;simp[Ctx.op,Ctx.ca,bK,step]at h1
  rw[Wx];have iz:=jt {S with H:=H1,low:=min S.low bm} aU.dst v;by_cases ht:e2 aU.op=true
  ·rcases hH ht with e|⟨Wy,fw⟩
   case inr=>
    obtain⟨cT,eH,h2,E4⟩:=fw hw v H1 bm h1;have Wz:=tK bh.bD (aI _) h2;have WA:=ER Wz E4
    have E5:Hc.length<=eH:=by
     unfold ec at E4;simp only[IJ,decide_eq_false_iff_not]at E4;omega
    rw[WA]at h2;rw[E2,eP.op]at h2;refine EU (R:=iY C fid G Hc w v Hc eH) (fun x bs hp=> ?_) (EW bu bh aa aE (aI _) h2);obtain⟨a7,p1,cN,ei⟩:=hp;refine nz x bs a7 (by rw[Wy];exact p1) (fun m hm=>cN m ?_) (fun t ht=>by rw[ja _ _ _ ht];exact ei);rw[iz.2.1]at hm;have:m<=S.low:=cA hm (ig _ _);omega
   subst e;rw[E2,eP.op]at h1;refine EU (R:=iY C fid G S.H w v H1 bm) (fun x bs hp=> ?_) (EW bu bh aa aE (aI _) h1);obtain⟨a7,p1,cN,ei⟩:=hp;refine nz x bs a7 ?_ (fun m hm=>cN m (by rw[iz.2.1]at hm;exact cA hm (mn _ _))) (fun t ht=>by rw[ja _ _ _ ht];exact ei);rw[iz.1];cases aO with
   |true=>exact p1
   |false=>
    have:=ER (tK bh.bD (aI _) h1) hB.symm;rw[this]at p1;exact p1
  ·have eE:e2 aU.op=false:=by simpa using ht
   have bb:∀raw f args,aU.op≠ .call raw f args:=fun raw f args e=>by rw[e]at eE;simp[e2]at eE
   have KQ:=h1;rw[tJ bb]at KQ;obtain⟨rfl,rfl,fw⟩:=KI eE KQ;have WB:aO=false:=by rw[hB];simp[ec]
   have h2:=fw Hc Hc.length;rw[<-tJ (call:=call) bb,E2,eP.op]at h2;refine EU (R:=iY C fid G Hc w v Hc Hc.length) (fun x bs hp=> ?_) (EW bu bh aa aE (aI _) h2);obtain⟨a7,p1,cN,ei⟩:=hp;refine nz x bs a7 (by rw[WB];exact p1) (fun m hm=>cN m ?_) (fun t ht=>by rw[ja _ _ _ ht];exact ei);rw[iz.2.1]at hm;have:m<=S.low:=cA hm (ig _ _);omega
 ·have:=KO _ hw
  dsimp only;rw[if_neg (by rw[this];simp)];refine⟨fun _ _=>trivial,?_⟩;refine nz undef w G ?_ (fun m _=>.refl _ _ _ _) (fun t ht=> ?_)
  ·rw[hB];exact aa
  ·rw[ja _ _ _ ht];exact .aR [] [] .nil
end Go.Abs
namespace Go.Abs
open Go
variable{C:Ctx}{fid:Nat->Nat}{w w':World}{G G':bw}{H H':Heap}
structure dj (C:Ctx) (fid:Nat->Nat) (vars:List Nat) (N:Nat) (G:bw) (st:au) (a:Act) (w:World):Prop where
 rel:aQ C fid G st.H w
 env:∀t,aZ fid G w (df vars st t) (a.tmps.getD t undef)
 size:a.tmps.size=N
 low:st.low<=st.H.length
structure iA (C:Ctx) (vars:List Nat) (N:Nat) (ops:Array Oper) (bj:List bl) (call:cj) (S:Nat->au) (aO:Nat->Bool):Prop where
 len:bj.length=ops.size
 ok:∀(i:Nat) o aU,ops[i]? =some o->bj[i]? =some aU->pq C vars N ops o aU
 step:∀(i:Nat) aU,bj[i]? =some aU->jN call aU (S i) (S (i+1)) (aO i)
section
variable{vars:List Nat}{N:Nat}{ops:Array Oper}{bj:List bl}{call:cj}{S:Nat->au}{aO:Nat->Bool}
theorem iA.get (h:iA C vars N ops bj call S aO){i:Nat}(hi:i<ops.size):∃o aU,ops[i]? =some o/\bj[i]? =some aU/\pq C vars N ops o aU/\jN call aU (S i) (S (i+1)) (aO i):=by
 have h1:ops[i]? =some ops[i]:=by simp[hi]
 have h2:bj[i]? =some (bj[i]'(by rw[h.len];exact hi)):=by simp
 exact⟨_,_,h1,h2,h.ok i _ _ h1 h2,h.step i _ h2⟩
theorem iA.of (hm:c7 (C.oper vars N ops) ops.toList=some bj)(hs:∀(i:Nat) aU,bj[i]? =some aU->jN call aU (S i) (S (i+1)) (aO i)):iA C vars N ops bj call S aO:=
 ⟨by rw[ql _ hm];simp,fun i o aU h1 h2=>vP (qm _ hm (by rw[fN];exact h1) h2),hs⟩
theorem iA.bD (h:iA C vars N ops bj call S aO)(hc:jM call){i:Nat}:∀{k:Nat},i+k<=ops.size->fh (S i) (S (i+k))
 |0,_=>.refl _
 |k+1,hk=>by
  obtain⟨o,aU,-,-,-,hs⟩:=h.get (i:=i+k) (by omega);exact(h.bD hc (k:=k) (by omega)).trans (hs.bD hc)
theorem iA.kq (h:iA C vars N ops bj call S aO)(hc:jM call){i j:Nat}(b9:i<=j)(hj:j<=ops.size):fh (S i) (S j):=by
 obtain⟨k,rfl⟩:=kD b9;exact h.bD hc hj
theorem iA.heap (h:iA C vars N ops bj call S aO)(hc:jM call){i:Nat}:∀{k:Nat},i+k<=ops.size->(∀x,i<=x->x<i+k->aO x=false)->(S (i+k)).H=(S i).H
 |0,_,_=>rfl
 |k+1,hk,af=>by
  obtain⟨o,aU,-,-,-,hs⟩:=h.get (i:=i+k) (by omega);have:=hs.still hc (af (i+k) (by omega) (by omega));exact this.trans (h.heap hc (k:=k) (by omega) fun x h1 h2=>af x h1 (by omega))
theorem iA.slot (h:iA C vars N ops bj call S aO){t:Nat}{i:Nat}:∀{k:Nat},i+k<=ops.size->(∀(x:Nat) o,i<=x->x<i+k->ops[x]? =some o->o.dst≠some t)->df vars (S (i+k)) t=df vars (S i) t
 |0,_,_=>rfl
 |k+1,hk,af=>by
  obtain⟨o,aU,ho,-,bx,hs⟩:=h.get (i:=i+k) (by omega);have:=hs.look (t:=t) bx (af (i+k) o (by omega) (by omega) ho);exact this.trans (h.slot (k:=k) (by omega) fun x o h1 h2=>af x o h1 (by omega))
theorem WC (vars:List Nat)(st:au)(t:Nat):df vars {st with aH:=[]} t=df vars st t\/df vars {st with aH:=[]} t=.undef:=by
 unfold df;split
 ·exact .inl rfl
 ·exact .inr rfl
theorem dj.clear{st:au}{a:Act}(h:dj C fid vars N G st a w):dj C fid vars N G {st with aH:=[]} a w:=
 ⟨h.rel,fun t=>by rcases WC vars st t with e|e<;>rw[e];exact h.env t;exact .undef _,h.size,h.low⟩
theorem dj.hZ{st:au}{a:Act}(h:dj C fid vars N G st a w)(e:w'.heap=w.heap):dj C fid vars N G st a w':=
 ⟨h.rel.hZ e,fun t=>(h.env t).mono (.refl _) fun b hb=>⟨hb,by rw[e]⟩,h.size,h.low⟩
theorem tO{o:Oper}{a:Act}{x:Value}{t:Nat}{a7:bw}{bs:World}(hd:∀d,o.dst=some d->d<a.tmps.size){v:V}(h1:o.dst=some t->aZ fid a7 bs v x)
  (h2:o.dst≠some t->aZ fid a7 bs v (a.tmps.getD t undef)):aZ fid a7 bs v ((a.put o.dst x).tmps.getD t undef):=by
 cases vQ:o.dst with
 |none=>simp only[Act.put];exact h2 (by rw[vQ];simp)
 |some d=>
  rw[EZ _ _ _ _ (hd d vQ)];by_cases e:t=d
  ·subst e;rw[if_pos rfl];exact h1 vQ
  ·rw[if_neg e];exact h2 (by rw[vQ];simpa using jn e)
theorem pq.lt{o:Oper}{aU:bl}(h:pq C vars N ops o aU):∀d,o.dst=some d->d<N:=fun d hd=>by
 rcases h.dst with⟨h1,-⟩|⟨d',h0,h1,-⟩
 ·rw[h1]at hd;cases hd
 ·rw[h1]at hd;cases hd;exact h0
theorem WD{id:Nat}{st aV:au}{wr:List Bool}{a:Act}{Q:Exit->Act->World->Prop}{ro:Option Nat}(bu:eh C fid)(bh:gh C fid call)(hm:c7 (C.oper vars N ops) ops.toList=some bj)
  (he:cX call bj {st with aH:=[]} []=some (aV,wr)) (aa:dj C fid vars N G st a w)
  (c9:∀G' bg w',dj C fid vars N G' aV bg w'->(∀m,m<=aV.low->Ext G w G' w' m st.H.length)->bg.defers=a.defers->Q .normal bg w'):
  (Code.region id ops false).wpIn (dO ro) 0 C.P Q a w:=by
 obtain⟨S,aO,h0,hn,-,hs⟩:=pr _ _ _ _ _ he;have T:iA C vars N ops bj call S aO:=.of hm hs
 have key:∀k j,j+k=ops.size->∀az av aG,dj C fid vars N az (S j) av aG->(∀m,m<=(S j).low->Ext G w az aG m st.H.length)->av.defers=a.defers->st.H.length<=(S j).H.length->
   wpOpsIn (dO ro) 0 C.P ops Q (List.range' j k) av aG:=by
  intro k
  induction k with
  |zero=>
   intro j hj az av aG bq cc eY _;have e:j=bj.length:=by rw[T.len];omega
   subst e;rw[hn]at bq cc;exact c9 az av aG bq cc eY
  |succ k ih=>
   intro j hj az av aG bq cc eY hE;obtain⟨o,aU,ho,eP,bx,cG⟩:=T.get (i:=j) (by omega);rw[sK,wpOpsIn_cons];have dL:=cG.bD bh.bD;refine tN (T:=fun _=>True) bu bh ho bx cG bq.rel (fun _=>.inl rfl) bq.low (fun t _=>bq.env t) (fun x _=>by cases x<;>trivial) (fun _ _ _ _ _=>trivial) bq.size ?_;intro x bs a7 p1 cN ei
   have tP:aQ C fid a7 (S (j+1)).H bs:=by
    cases af:aO j with
    |true=>rw[af]at p1;exact p1
    |false=>rw[af]at p1;rw[cG.still bh.bD af];exact p1
   have mC:=cN 0 (ct _)
   refine ih (j+1) (by omega) a7 _ bs ⟨tP,fun t=> ?_,by rw[rR];exact bq.size,dL.bound bq.low⟩ (fun m hm=>(cc m (cA hm dL.1.low)).trans ((cN m hm).le (aI _) hE)) (by rw[put_defers];exact eY)
    (cA hE dL.1.len)
   refine tO (fun d hd=>by rw[bq.size];exact bx.lt d hd) (fun h=>ei t h) (fun h=> ?_);rw[cG.look bx h];exact(bq.env t).ext bq.rel mC
 refine wpIn_region ?_;rw[IK];have gK:=aa.clear;rw[<-h0]at gK;exact key ops.size 0 (by omega) G a w gK (fun m _=>.refl _ _ _ _) rfl (by rw[h0];exact aI _)
theorem KR:∀(l:List Oper) (A:Array Nat),let B:=l.foldl (fun acc o=>acc.push (CheckFast.one (fun i=>acc.getD i 0) o)) A
  B.size=A.size+l.length/\(∀i,i<A.size->B.getD i 0=A.getD i 0)/\∀k o,l[k]? =some o->B.getD (A.size+k) 0=CheckFast.one (fun i=>if i<A.size+k then B.getD i 0 else 0) o
 |[],A=>⟨by simp,fun _ _=>rfl,fun k o h=>by simp at h⟩
 |o::l,A=>by
  intro B;obtain⟨h1,h2,aq⟩:=KR l (A.push (CheckFast.one (fun i=>A.getD i 0) o));have cw:B=l.foldl (fun acc o=>acc.push (CheckFast.one (fun i=>acc.getD i 0) o)) (A.push (CheckFast.one (fun i=>A.getD i 0) o)):=rfl;rw[<-cw]at h1 h2 aq;simp only[Array.size_push]at h1 h2 aq
  have hA:∀i,i<A.size->B.getD i 0=A.getD i 0:=fun i hi=>by
   rw[h2 i (by omega)];simp only[q8,Array.getElem?_push,if_neg (mo hi)]
  refine⟨by simp only[iN];omega,hA,fun k p hk=> ?_⟩;cases k with
  |zero=>
   simp only[lN,ay]at hk;subst hk;rw[sN,h2 A.size (by omega)];simp only[q8,Array.getElem?_push,if_pos,sJ];congr 1;funext i;by_cases hi:i<A.size
   ·rw[if_pos hi]
    have:=hA i hi;simp only[q8]at this;exact this.symm
   ·rw[if_neg hi];simp[u6 (Nat.le_of_not_lt hi)]
  |succ k=>
   have:=aq k p (by simpa using hk);rw[zR]at this;rw[<-n9];exact this
theorem WE{look:Nat->Nat}{o:Oper}{i:Nat}(h:(CheckFast.one look o).testBit i=true):∃e∈o.after,Region.binds .any e=true/\(i=e.on\/(look e.on).testBit i=true):=by
 unfold CheckFast.one at h;rw[<-IQ]at h
 have key:∀(l:List Edge) (s:Nat),(l.foldl (fun s e=>if Region.binds .any e then s ||| 2^e.on ||| look e.on else s) s).testBit i=true->s.testBit i=true\/∃e∈l,Region.binds .any e=true/\(i=e.on\/(look e.on).testBit i=true):=by
  intro l
  induction l with
  |nil=>exact fun s h=>.inl h
  |cons e l ih=>
   intro s h;rw[xl]at h;rcases ih _ h with h1|⟨e',ov,h2⟩
   ·split at h1
    ·rename_i hb
     rw[Nat.testBit_or,Nat.testBit_or,Nat.testBit_two_pow]at h1;simp only[iO,decide_eq_true_eq]at h1;rcases h1 with(h1|h1)|h1
     ·exact .inl h1
     ·exact .inr ⟨e,by simp,hb,.inl h1.symm⟩
     ·exact .inr ⟨e,by simp,hb,.inr h1⟩
    ·exact .inl h1
   ·exact .inr ⟨e',by simp[ov],h2⟩
 rcases key _ _ h with h1|⟨e,he,h2⟩
 ·simp at h1
 ·exact⟨e,Array.mem_toList_iff.1 he,h2⟩
theorem E6{ops:Array Oper}{j i:Nat}{o:Oper}(ho:ops[j]? =some o)(h:((CheckFast.beforeF ops).getD j 0).testBit i=true):
  ∃e∈o.after,Region.binds .any e=true/\(i=e.on\/((CheckFast.beforeF ops).getD e.on 0).testBit i=true):=by
 rw[CheckFast.beforeF_eq]at h⊢;have hb:=KR ops.toList #[]
 have e:Region.before ops=ops.toList.foldl (fun acc o=>acc.push (CheckFast.one (fun i=>acc.getD i 0) o)) #[]:=by
  unfold Region.before;rw[<-IQ];rfl
 rw[<-e]at hb;have aq:=hb.2.2 j o (by rw[fN];exact ho);rw[pW,n3,dK]at aq;rw[aq]at h;obtain⟨x,hx,KS,bf⟩:=WE h;refine⟨x,hx,KS,bf.imp id fun fe=> ?_⟩;split at fe
 ·exact fe
 ·simp at fe
theorem E7 (h:Ctx.sZ ops=true){i j:Nat}{o p:Oper}(ho:ops[j]? =some o)(hp:ops[i]? =some p){d:Nat}(hd:p.dst=some d)(b9:i≠j)(hn:o.dst=some d\/d∈Ctx.eC ops o):
  ((CheckFast.beforeF ops).getD (max i j) 0).testBit (min i j)=true:=by
 unfold Ctx.sZ at h;simp only[eV]at h;have h1:=h (o,j) (hz.2 (by rw[fN];exact ho)) (p,i) (hz.2 (by rw[fN];exact hp));simp only[hd]at h1;simp only[iO,beq_iff_eq,o1,IJ,beq_eq_false_iff_ne,List.contains_eq_mem,decide_eq_false_iff_not]at h1;rcases h1 with(h1|⟨h1,h2⟩)|h1
 ·exact absurd h1 b9
 ·rcases hn with hn|hn
  ·exact absurd hn h1
  ·exact absurd hn h2
 ·exact h1
theorem E8 (h:Ctx.sY ops=true){j:Nat}{o:Oper}(ho:ops[j]? =some o){e:Edge}(he:e∈o.after)(hb:Region.binds .any e=true):e.on<j:=by
 unfold Ctx.sY at h;simp only[eV]at h;have h1:=h (o,j) (hz.2 (by rw[fN];exact ho));simp only[Array.all_eq_true_iff_forall_mem]at h1;have h2:=h1 e he;unfold Region.binds at hb;cases aT:e.ground<;>simp_all
theorem E9{l:List Nat}{p q:Nat->Bool}(tQ:∀x∈l,p x=true->q x=true){a:Nat}(ha:a∈l)(a8:q a=true)(hp:p a=false):l.countP p<l.countP q:=by
 induction l with
 |nil=>cases ha
 |cons x l ih=>
  have hle:l.countP p<=l.countP q:=List.countP_mono_left fun y hy=>tQ y (by simp[hy]);rw[List.countP_cons,List.countP_cons];rcases cY.1 ha with rfl|ff
  ·rw[hp,a8];simp;omega
  ·have:=ih (fun y hy=>tQ y (by simp[hy])) ff
   have h2:=tQ x (by simp);cases hx:p x
   ·simp only[ga,if_false];split<;>omega
   ·rw[h2 hx];simp;omega
end
end Go.Abs
namespace Go.Abs
open Go
variable{C:Ctx}{fid:Nat->Nat}{w w':World}{G G':bw}{H H':Heap}
variable{vars:List Nat}{N:Nat}{ops:Array Oper}{bj:List bl}{call:cj}{S:Nat->au}{aO:Nat->Bool}
structure Inv (C:Ctx) (fid:Nat->Nat) (vars:List Nat) (N:Nat) (ops:Array Oper) (S:Nat->au) (aO:Nat->Bool) (G:bw) (w:World) (a:Act) (x8:Nat)
  (L:Array Bool) (k:Nat) (az:bw) (av:Act) (aG:World):Prop where
 size:L.size=ops.size
 closed:∀x,L.getD x false=true->∀i,((CheckFast.beforeF ops).getD x 0).testBit i=true->L.getD i false=true
 qt:k<=ops.size
 nA:∀i,i<ops.size->aO i=true->(L.getD i false=true↔i<k)
 rel:aQ C fid az (S k).H aG
 env:∀t m,m<=ops.size->(∀(i:Nat) o,ops[i]? =some o->o.dst=some t->(L.getD i false=true↔i<m))->aZ fid az aG (df vars (S m) t) (av.tmps.getD t undef)
 l6:av.tmps.size=N
 defers:av.defers=a.defers
 ext:∀m,m<=(S ops.size).low->Ext G w az aG m x8
theorem qu{L:Array Bool}{i j:Nat}(hj:j<L.size):(L.setIfInBounds j true).getD i false=true↔i=j\/L.getD i false=true:=by
 by_cases h:i=j
 ·subst h;simp[Array.getD,hj]
 ·rw[getD_set_ne false (jn h)];simp[h]
theorem WG{dc:List Nat}{wr:List Bool}(h:xu dc bj wr=true){i j:Nat}{aU:bl}(hi:wr[i]? =some true)(hj:bj[j]? =some aU)(ht:e2 aU.op=true)(b9:i≠j):
  if j<i then(dc.getD i 0).testBit j=true else(dc.getD j 0).testBit i=true:=by
 unfold xu at h;rw[if_pos (zT.2 ⟨true,ml hi,rfl⟩)]at h;simp only[eV]at h;have h1:=h (true,i) (hz.2 hi);simp only[oa,re,eV]at h1;have h2:=h1 (aU,j) (hz.2 hj);simp only[ht,oa,re,iO,beq_iff_eq,b9,false_or]at h2;split at h2
 ·rename_i aY;rw[if_pos aY];exact h2
 ·rename_i aY;rw[if_neg aY];exact h2
theorem AQ{dc:List Nat}{i j:Nat}:lU dc i j=true↔(if j<i then(dc.getD i 0).testBit j=true else(dc.getD j 0).testBit i=true):=by
 unfold lU;split<;>rfl
theorem WH{dc:List Nat}{wr:List Bool}(h:Ab dc wr=true){i j:Nat}(hi:wr[i]? =some true)(hj:wr[j]? =some true)(b9:i≠j):lU dc i j=true:=by
 unfold Ab at h;simp only[eV]at h;have h1:=h (true,i) (hz.2 hi);simp only[oa,re,eV]at h1;have h2:=h1 (true,j) (hz.2 hj);simpa[b9]using h2
theorem WI{dc:List Nat}{ops:List bl}{wr:List Bool}{cg:List au}{o:bl}{j k:Nat}{Ad vb:au}(ho:ops[j]? =some o)(ht:e2 o.op=true)(hw:wr.getD j false=false)(hj:cg[j]? =some Ad)(hk:cg[k]? =some vb)
  (qv:k≠j) (x9:k=0\/wr.getD (k-1) false=true) (l7:∀i,wr[i]? =some true->i≠j->lU dc i j=true->(i<j↔i<k)):(o,Ad,vb.H)∈Ac dc ops wr cg:=by
 unfold Ac;simp only[zV];refine⟨(o,j),hz.2 ho,?_⟩;simp only[ht,oa,hw,Bool.or_self,ga,if_false,zV];refine⟨(vb,k),hz.2 hk,?_⟩;simp only;rw[if_neg]
 ·rw[hj];simp
 ·intro h
  simp only[iO,beq_iff_eq,qv,false_or,cH,bne_iff_ne,ne_eq,o1]at h;rcases h with h|h
  ·rcases x9 with h0|h0
   ·exact h.1 h0
   ·rw[h0]at h;cases h.2
  rw[zT]at h;obtain⟨⟨w,i⟩,hm,h⟩:=h;simp only[cH,bne_iff_ne,ne_eq]at h;obtain⟨h1,h2,aq,bf⟩:=h;have hi:=hz.1 hm;simp only at hi;rw[h1]at hi;have:=l7 i hi h2 aq;apply bf;rw[decide_eq_decide];exact this
theorem KT (aO:Nat->Bool):∀(k:Nat),∃bJ,bJ<=k/\(bJ=0\/aO (bJ-1)=true)/\∀x,bJ<=x->x<k->aO x=false
 |0=>⟨0,aI _,.inl rfl,fun x h1 h2=>by omega⟩
 |k+1=>by
  cases af:aO k with
  |true=>exact⟨k+1,aI _,.inr af,fun x h1 h2=>by omega⟩
  |false=>
   obtain⟨bJ,h1,h2,aq⟩:=KT aO k;refine⟨bJ,by omega,h2,fun x q1 q2=> ?_⟩;by_cases hx:x=k
   ·rw[hx];exact af
   ·exact aq x q1 (by omega)
theorem WJ{id:Nat}{st aV:au}{wr:List Bool}{a:Act}{Q:Exit->Act->World->Prop}{ro:Option Nat}(cr:C.P.follows .mixedOrders=true)(bu:eh C fid)(bh:gh C fid call)
  (hm:c7 (C.oper vars N ops) ops.toList=some bj) (gV:Ctx.sY ops=true) (jK:Ctx.sZ ops=true) (ny:(ops.toList.zip bj).all (fun(o,a)=>Ctx.rp ops o a)=true)
  (he:cX call bj {st with aH:=[]} []=some (aV,wr)) (hin:(xu (CheckFast.beforeF ops).toList bj wr||nc call (CheckFast.beforeF ops).toList bj wr {st with aH:=[]})=true) (aa:dj C fid vars N G st a w)
  (c9:∀G' bg w',dj C fid vars N G' aV bg w'->(∀m,m<=aV.low->Ext G w G' w' m st.H.length)->bg.defers=a.defers->Q .normal bg w'):
  (Code.region id ops true).wpIn (dO ro) 0 C.P Q a w:=by
 obtain⟨S,aO,h0,hn,ju,hs⟩:=pr _ _ _ _ _ he;have T:iA C vars N ops bj call S aO:=.of hm hs;rw[T.len]at hn ju;simp only[List.reverse_nil,ij]at ju
 have fp:∀i,(CheckFast.beforeF ops).toList.getD i 0=(CheckFast.beforeF ops).getD i 0:=fun i=>by
  rw[u4,fN,q8]
 have tR:∀i j,(if j<i then((CheckFast.beforeF ops).toList.getD i 0).testBit j=true else((CheckFast.beforeF ops).toList.getD j 0).testBit i=true)->((CheckFast.beforeF ops).getD (max i j) 0).testBit (min i j)=true:=fun i j this=>by
  rw[fp,fp]at this;split at this
  ·rw[zX (by omega),o3 (by omega)];exact this
  ·rw[zW (by omega),rb (by omega)];exact this
 have aia:∀i j,((CheckFast.beforeF ops).getD (max i j) 0).testBit (min i j)=true\/lU (CheckFast.beforeF ops).toList i j=false:=fun i j=>by
  cases ho:lU (CheckFast.beforeF ops).toList i j with
  |false=>exact .inr rfl
  |true=>exact .inl (tR i j (AQ.1 ho))
 have ya:(∀i,i<ops.size->aO i=true->∀(j:Nat) aU,bj[j]? =some aU->e2 aU.op=true->i≠j->((CheckFast.beforeF ops).getD (max i j) 0).testBit (min i j)=true)\/
   ((∀i,i<ops.size->aO i=true->∀j,j<ops.size->aO j=true->i≠j->((CheckFast.beforeF ops).getD (max i j) 0).testBit (min i j)=true)/\
    ∀(j:Nat) aU k,bj[j]? =some aU->j<ops.size->k<=ops.size->e2 aU.op=true->aO j=false->(∀i,i<ops.size->aO i=true->i≠j->((CheckFast.beforeF ops).getD (max i j) 0).testBit (min i j)=true->(i<j↔i<k))->(S k).H=(S j).H\/gF call (aU,S j,(S k).H)=true):=by
  rw[iO]at hin;rcases hin with hin|hin
  ·left
   intro i hi af j aU hj ht b9;exact tR i j (WG hin (i:=i) (by rw[ju];simp[hi,af]) hj ht b9)
  ·right
   unfold nc at hin;split at hin
   ·rename_i cg lr
    simp only[cH]at hin;rw[<-h0]at lr;have np:=AO bj S aO cg hs lr;rw[T.len]at np;refine⟨fun i hi af j hj fS b9=>tR i j (AQ.1 (WH hin.1 (i:=i) (j:=j) (by rw[ju];simp[hi,af]) (by rw[ju];simp[hj,fS]) b9)),fun j aU k hj gm hk ht fS l7=> ?_⟩;obtain⟨bJ,hk',Fa,Fb⟩:=KT aO k
    have KU:(S k).H=(S bJ).H:=by
     obtain⟨d,rfl⟩:=kD hk';exact T.heap bh.bD (by omega) fun x h1 h2=>Fb x h1 h2
    by_cases qv:bJ=j
    ·left;rw[KU,qv]
    right;rw[KU]
    have x9:bJ=0\/wr.getD (bJ-1) false=true:=by
     rcases IU bJ with q|q
     ·exact .inl q
     ·rcases Fa with q'|q'
      ·omega
      ·right
       rw[ju,u4,iM,List.getElem?_range (by omega:bJ-1<ops.size)];exact q'
    have gg:=WI (dc:=(CheckFast.beforeF ops).toList) (ops:=bj) (wr:=wr) (cg:=cg) (o:=aU) (j:=j) (k:=bJ) hj ht (by rw[ju];simp[gm,fS]) (np j (by omega)) (np bJ (by omega)) qv x9 (fun i hi b9 ho=>by
     have KV:i<ops.size:=by
      rcases fF i ops.size with h|h
      ·exact h
      ·rw[ju,k6 (by simpa using h)]at hi;cases hi
     have oy:aO i=true:=by rw[ju]at hi;simpa[KV]using hi
     refine(l7 i KV oy b9 (tR i j (AQ.1 ho))).trans ⟨fun h=> ?_,fun h=>by omega⟩;rcases fF i bJ with q|q
     ·exact q
     ·rw[Fb i q h]at oy;cases oy)
    exact eV.1 hin.2 _ gg
   ·cases hin
 have lu:st.H=(S 0).H/\st.low=(S 0).low:=by rw[h0];exact⟨rfl,rfl⟩
 have yb:st.low<=st.H.length:=aa.low
 have mD:∀L k az av aG,Inv C fid vars N ops S aO G w a st.H.length L k az av aG->(∀i,i<ops.size->L.getD i false=true)->Q .normal av aG:=by
  intro L k az av aG I fw
  have hk:(S ops.size).H=(S k).H:=by
   obtain⟨d,hd⟩:=kD I.qt;rw[hd];refine T.heap bh.bD (by omega) fun x h1 h2=> ?_;cases af:aO x with
   |false=>rfl
   |true=>have:=(I.nA x (by omega) af).1 (fw x (by omega));omega
  refine c9 az av aG ?_ (fun m hm=>I.ext m (by rw[hn];exact hm)) I.defers;rw[<-hn];refine⟨by rw[hk];exact I.rel,fun t=>I.env t ops.size (aI _) fun i o ho _=> ?_,I.l6,?_⟩
  ·have:i<ops.size:=(oX.1 ho).1
   simp[this,fw i this]
  ·exact(T.kq bh.bD (ct _) (aI _)).bound (by rw[<-lu.1,<-lu.2];exact yb)
 have yc:∀L k az av aG,Inv C fid vars N ops S aO G w a st.H.length L k az av aG->Region.ready .any ops L=[]->∀i,i<ops.size->L.getD i false=true:=by
  intro L k az av aG I hr i
  induction i using Nat.strongRecOn with
  | _ i ih=>
    intro hi;cases eI:L.getD i false with
    |true=>rfl
    |false=>
     exfalso
     have:i∈Region.ready .any ops L:=mem_ready.2 ⟨by
      have:i<L.size:=by rw[I.size];exact hi
      simp only[Array.getD,this,dif_pos]at eI⊢; exact eI,ops[i],by simp[hi],fun e he hb=>by
       have aY:=E8 gV (j:=i) (o:=ops[i]) (by simp[hi]) he hb;exact ih e.on aY (by omega)⟩
     rw[hr]at this;cases this
 have jG:∀(fuel:Nat) (L:Array Bool) (k:Nat) (az:bw) (av:Act) (aG:World) (j:Nat),Inv C fid vars N ops S aO G w a st.H.length L k az av aG->j∈Region.ready .any ops L->
   (∀fJ bJ G' bg w',Inv C fid vars N ops S aO G w a st.H.length fJ bJ G' bg w'->fJ=L.setIfInBounds j true->wpAnyIn (dO ro) 0 C.P .any ops Q fuel fJ bg w')->
   wpOpIn (dO ro) 0 C.P ops Q j (wpAnyIn (dO ro) 0 C.P .any ops Q fuel (L.setIfInBounds j true)) av aG:=by
  intro fuel L k az av aG j I hj rT;obtain⟨rU,o,ho,yd⟩:=mem_ready.1 hj;have gm:j<ops.size:=(oX.1 ho).1;have jv:j<L.size:=by rw[I.size];exact gm
  have lf:L.getD j false=false:=by simp only[Array.getD,jv,dif_pos]at rU⊢; exact rU
  obtain⟨cC,aU,gU,eP,bx,cG⟩:=T.get gm;rw[ho]at gU;cases gU
  have rV:∀i,((CheckFast.beforeF ops).getD j 0).testBit i=true->L.getD i false=true:=fun i hb=>by
   obtain⟨e,jJ,kk,l8⟩:=E6 ho hb;have hl:=yd e jJ kk;rcases l8 with rfl|l8
   ·exact hl
   ·exact I.closed e.on hl i l8
  have l7:∀i,i≠j->((CheckFast.beforeF ops).getD (max i j) 0).testBit (min i j)=true->(L.getD i false=true↔i<j):=by
   intro i b9 hb;rcases fF i j with aY|hge
   ·rw[zW (by omega),rb (by omega)]at hb
    exact⟨fun _=>aY,fun _=>rV i hb⟩
   ·rw[zX hge,o3 hge]at hb
    refine⟨fun eI=> ?_,fun h=>by omega⟩;have:=I.closed i eI j hb;rw[lf]at this;cases this
  have KW:aO j=true->∀i,i<ops.size->aO i=true->i≠j->(L.getD i false=true↔i<j):=fun fS i hi af b9=>l7 i b9 (by
   rcases ya with hc|⟨hc,-⟩
   ·exact hc i hi af j aU eP (cG.e2 fS) b9
   ·exact hc i hi af j gm fS b9)
  have rW:∀t,(o.dst=some t\/t∈Ctx.eC ops o)->∀(i:Nat) p,ops[i]? =some p->p.dst=some t->i≠j->(L.getD i false=true↔i<j):=fun t ht i p hp hd b9=>
   l7 i b9 (E7 jK ho hp hd b9 ht)
  have nB:(∀i,i<ops.size->aO i=true->i≠j->(L.getD i false=true↔i<j))->(S k).H=(S j).H:=by
   intro ye;have hk:=I.qt;rcases Nat.le_total k j with qv|hjk
   ·obtain⟨d,rfl⟩:=kD qv
    refine(T.heap bh.bD (by omega) fun x h1 h2=> ?_).symm;cases af:aO x with
    |false=>rfl
    |true=>
     have av:=(ye x (by omega) af (by omega)).2 (by omega);have a2:=(I.nA x (by omega) af).1 av;omega
   ·obtain⟨d,rfl⟩:=kD hjk
    refine T.heap bh.bD (by omega) fun x h1 h2=> ?_;cases af:aO x with
    |false=>rfl
    |true=>
     have a2:=(I.nA x (by omega) af).2 (by omega);by_cases hx:x=j
     ·subst hx;rw[lf]at a2;cases a2
     ·have:=(ye x (by omega) af hx).1 a2;omega
  have Fc:e2 aU.op=true->(S k).H=(S j).H\/(aO j=false/\(hU (S j).aH (S j).ax aU.guard=some true->∀v H1 bm,bK call (ah.ag (S j).aH (S j).ax) (S j).H (S j).H.length aU.op=some (v,H1,bm)->∃cT eH,bK call (ah.ag (S j).aH (S j).ax) (S k).H (S k).H.length aU.op=some (v,cT,eH)/\ec (S k).H cT eH=false)):=by
   intro ht;rcases ya with hc|⟨-,hc⟩
   ·exact .inl (nB fun i hi af b9=>l7 i b9 (hc i hi af j aU eP ht b9))
   ·cases fS:aO j with
    |true=>exact .inl (nB (KW fS))
    |false=>
     rcases hc j aU k eP gm I.qt ht fS (fun i hi af b9 hb=>by
      rw[<-l7 i b9 hb];exact I.nA i hi af)with kr|kr
     ·exact .inl kr
     refine .inr ⟨rfl,fun hw v H1 bm h1=> ?_⟩;unfold gF at kr;simp only[hw,h1]at kr;split at kr
     ·rename_i v' cT eH h2
      simp only[cH,o1]at kr;have:=rS _ _ kr.1;subst this;exact⟨cT,eH,h2,kr.2⟩
     ·cases kr
  have dL:=cG.bD bh.bD
  have Fe:(S j).low<=(S k).H.length:=by
   have ae:=(T.kq bh.bD (i:=0) (j:=j) (ct _) (by omega)).1.low;have ai:=(T.kq bh.bD (i:=0) (j:=k) (ct _) I.qt).1.len;rw[<-lu.2]at ae;rw[<-lu.1]at ai;omega
  have vR:∀x∈aU.op.operands,AP (fun t=>t∈Ctx.eC ops o) x:=by
   intro x hx;have h1:(o,aU)∈ops.toList.zip bj:=oY.2 ⟨j,by rw[CT];exact⟨by rw[fN];exact ho,eP⟩⟩;have h2:=eV.1 ny _ h1;simp only[Ctx.rp,eV]at h2;have aq:=h2 x hx;cases x with
   |tmp t=>exact q9.1 aq
   |var t=>exact q9.1 aq
   |const v=>trivial
   |func i=>trivial
  refine tN (T:=fun t=>t∈Ctx.eC ops o) bu bh ho bx cG I.rel Fc Fe (fun t ht=> ?_) vR (fun q want d aT hd=> ?_) I.l6 ?_
  ·refine I.env t j (by omega) fun i p hp hd=> ?_
   by_cases b9:i=j
   ·subst b9;simp[lf]
   ·exact rW t (.inr ht) i p hp hd b9
  ·simp only[Ctx.eC,hN]
   right;rw[aT];simp only[];rw[hd];simp
  ·intro x bs a7 p1 cN ei
   have mC:=cN 0 (ct _);have iB:∀i,(L.setIfInBounds j true).getD i false=true↔i=j\/L.getD i false=true:=fun i=>qu jv;refine rT _ (if aO j then j+1 else k) a7 _ bs ⟨by simp[I.size],fun x hx i hb=> ?_,?_,fun i hi af=> ?_,?_,fun t m hm dy=> ?_,by rw[rR];exact I.l6,by rw[put_defers];exact I.defers,fun m hm=> ?_⟩ rfl
   ·rw[iB]at hx⊢
    rcases hx with rfl|hx
    ·exact .inr (rV i hb)
    ·exact .inr (I.closed x hx i hb)
   ·split
    ·omega
    ·exact I.qt
   ·rw[iB]
    by_cases b9:i=j
    ·subst b9;simp[af]
    ·cases fS:aO j with
     |true=>
      have:=KW fS i hi af b9;simp only[b9,false_or,if_true];rw[this];omega
     |false=>simp only[b9,false_or,ga,if_false];exact I.nA i hi af
   ·cases fS:aO j with
    |true=>rw[fS]at p1;exact p1
    |false=>rw[fS]at p1;exact p1
   ·refine tO (fun d hd=>by rw[I.l6];exact bx.lt d hd) (fun h=> ?_) (fun h=> ?_)
    ·have yf:j<m:=(dy j o ho h).1 ((iB j).2 (.inl rfl))
     have e:df vars (S m) t=df vars (S (j+1)) t:=by
      obtain⟨d,rfl⟩:=kD (show j+1<=m from yf);refine T.slot (by omega) fun x p h1 h2 hp hd=> ?_;have oz:x≠j:=by omega
      have av:=(iB x).1 ((dy x p hp hd).2 h2);have a2:=(rW t (.inl h) x p hp hd oz).1 (av.resolve_left oz);omega
     rw[e];exact ei t h
    ·refine(I.env t m hm fun i p hp hd=> ?_).ext I.rel mC
     have b9:i≠j:=fun e=>by subst e;rw[ho]at hp;cases hp;exact h hd
     rw[<-dy i p hp hd,iB];simp[b9]
   ·have ae:=(T.kq bh.bD (i:=j+1) (j:=ops.size) gm (aI _)).1.low
    have ai:=(T.kq bh.bD (i:=0) (j:=k) (ct _) I.qt).1.len;rw[<-lu.1]at ai;exact(I.ext m hm).trans ((cN m (by omega)).le (aI _) ai)
 have key:∀(fuel:Nat) (L:Array Bool) (k:Nat) (az:bw) (av:Act) (aG:World),Inv C fid vars N ops S aO G w a st.H.length L k az av aG->(List.range ops.size).countP (fun i=>!L.getD i false)<=fuel->
   wpAnyIn (dO ro) 0 C.P .any ops Q fuel L av aG:=by
  intro fuel
  induction fuel with
  |zero=>
   intro L k az av aG I hc
   have fw:∀i,i<ops.size->L.getD i false=true:=fun i hi=>by
     have h1:=List.countP_eq_zero.1 (Nat.le_zero.1 hc) i (by simpa using hi);simpa using h1
   refine⟨?_,mD _ _ _ _ _ I fw⟩;cases hr:Region.ready .any ops L with
   |nil=>rfl
   |cons i r=>
    obtain⟨h1,o,ho,-⟩:=mem_ready.1 (show i∈Region.ready .any ops L by rw[hr];simp);have hi:i<ops.size:=(oX.1 ho).1;have h2:=fw i hi;have:i<L.size:=by rw[I.size];exact hi
    simp only[Array.getD,this,dif_pos]at h1 h2;rw[h1]at h2;cases h2
  |succ fuel ih=>
   intro L k az av aG I hc;refine⟨fun hr=>mD _ _ _ _ _ I (yc _ _ _ _ _ I hr),fun j hj=>jG fuel L k az av aG j I hj fun fJ bJ G' bg w' nj e=>ih fJ bJ G' bg w' nj ?_⟩;subst e;obtain⟨h1,o,ho,-⟩:=mem_ready.1 hj;have gm:j<ops.size:=(oX.1 ho).1;have jv:j<L.size:=by rw[I.size];exact gm
   have aY:(List.range ops.size).countP (fun i=>!(L.setIfInBounds j true).getD i false)<(List.range ops.size).countP (fun i=>!L.getD i false):=by
     refine E9 (a:=j) (fun x _ hx=> ?_) (by simpa using gm) ?_ ?_
     ·cases ad:L.getD x false with
      |false=>rfl
      |true=>
       have:=(qu (i:=x) jv).2 (.inr ad);rw[this]at hx;cases hx
     ·simp only[Array.getD,jv,dif_pos]at h1⊢; rw[h1];rfl
     ·have:=(qu (i:=j) jv).2 (.inl rfl)
      rw[this];rfl
   omega
 refine wpIn_region_any cr ?_;have hw:({w with drawn:=w.drawn+1}:World).heap=w.heap:=rfl;have gK:=(aa.clear).hZ hw;rw[<-h0]at gK
 have js:∀i,(Array.replicate ops.size false).getD i false=false:=fun i=>by
  by_cases h:i<ops.size
  ·simp[h]
  ·simp[h]
 refine key ops.size (Array.replicate ops.size false) 0 G a {w with drawn:=w.drawn+1} ⟨by simp,fun x hx=>absurd hx (by rw[js];simp),ct _,fun i hi af=>by rw[js];simp,gK.rel,fun t m hm dy=> ?_,gK.size,rfl,fun m _=>Ext.hZ hw rfl rfl m _⟩ ?_
 ·have e:df vars (S m) t=df vars (S 0) t:=by
   have:=T.slot (t:=t) (i:=0) (k:=m) (by omega) fun x p h1 h2 hp hd=>by
     have:=(dy x p hp hd).2 (by omega);rw[js]at this;cases this
   rw[dK]at this;exact this
  rw[e];exact gK.env t
 ·refine cA List.countP_le_length (by simp)
end Go.Abs
