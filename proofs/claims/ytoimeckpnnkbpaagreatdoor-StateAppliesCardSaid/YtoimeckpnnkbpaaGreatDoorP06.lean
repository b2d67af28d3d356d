/- Texts of this claim, joined and written short by a program. -/
import Derived.Test.YtoimeckpnnkbpaaGreatDoorP05
import Derived.Test.YtoimeckpnnkbpaaGreatDoorP00
set_option linter.unusedVariables false
set_option linter.unusedSimpArgs false
set_option linter.unusedSectionVars false
namespace Go.Abs
open Go
variable{C:Ctx}{fid:Nat->Nat}{w w':World}{G G':bX}{H H':Heap}
def dC (vars:List Nat)(st:aq)(t:Nat):V:=if vars.contains t then bk st.av t else bk st.aG t
theorem Su (e:Env)(t eY:Nat)(v:V):bk (ec e t v) eY=if eY=t then v else bk e eY:=by
 induction e with
 |nil=>
  by_cases h:eY=t
  ·subst h;simp[ec,bk]
  ·simp[ec,bk,h,kp h]
 |cons p r ih=>
  obtain⟨k,u⟩:=p;simp only[ec];split
  ·rename_i cW
   subst cW;by_cases h:eY=k
   ·subst h;simp[bk]
   ·simp[bk,h,kp h]
  ·rename_i cW
   simp only[bk];split
   ·rename_i h
    rw[if_neg (by omega)]
   ·exact ih
theorem CR (vars:List Nat)(st:aq)(d:Nat)(v:V)(t:Nat):dC vars (st.put (some (d,vars.contains d)) v) t=if t=d then v else dC vars st t:=by
 unfold dC;cases hd:vars.contains d
 ·simp only[aq.put]
  by_cases h:t=d
  ·subst h;rw[if_neg (by rw[hd];exact Bool.false_ne_true),if_pos rfl];simp[bk]
  ·rw[if_neg h]
   simp only[bk,if_neg (kp h)]
 ·simp only[aq.put,Su]
  by_cases h:t=d
  ·subst h;simp only[hd,if_true]
  ·simp only[if_neg h]
theorem LD (a:Act)(d:Nat)(x:Value)(t:Nat)(hd:d<a.tmps.size):(a.put (some d) x).tmps.getD t undef=if t=d then x else a.tmps.getD t undef:=by
 simp only[Act.put];by_cases h:t=d
 ·subst h;simp[Array.getD,hd]
 ·rw[if_neg h]
  simp only[v8,QC (kp h)]
theorem wG (a:Act)(d:Option Tmp)(x:Value):(a.put d x).tmps.size=a.tmps.size:=by cases d<;>simp[Act.put]
theorem put_defers (a:Act)(d:Option Tmp)(x:Value):(a.put d x).defers=a.defers:=by cases d<;>simp[Act.put]
structure s7 (C:Ctx) (vars:List Nat) (N:Nat) (ops:Array Oper) (o:Oper) (aV:bO):Prop where
 op:aV.op=C.op vars o.pos o.op
 dst:(o.dst=none/\aV.dst=none)\/∃d,d<N/\o.dst=some d/\aV.dst=some (d,vars.contains d)
 guard:Ctx.guard vars ops o.guard=some aV.guard
theorem AB{vars:List Nat}{N:Nat}{ops:Array Oper}{o:Oper}{aV:bO}(h:C.oper vars N ops o=some aV):s7 C vars N ops o aV:=by
 unfold Ctx.oper at h;split at h
 ·rename_i g bj
  split at h
  ·rename_i hd
   cases h;exact⟨rfl,.inl ⟨hd,rfl⟩,bj⟩
  ·rename_i d hd
   split at h
   ·rename_i aX
    cases h;exact⟨rfl,.inr ⟨d,aX,hd,rfl⟩,bj⟩
   ·cases h
 ·cases h
def l5 (call:cU)(aV:bO)(S ln:aq)(aR:Bool):Prop:=
 (e3 S.aG S.av aV.guard=some true/\∃v H' low',b2 call (ag.ae S.aG S.av) S.H S.H.length aV.op=some (v,H',low')/\
   ln=({S with H:=H',low:=min S.low low'}:aq).put aV.dst v/\aR=eG S.H H' low')\/
 (e3 S.aG S.av aV.guard=some false/\ln=S.put aV.dst (.aU [])/\aR=false)
theorem uN{call:cU}:∀(bz:List bO) (st aF:aq) (wr e6:List Bool),cQ call bz st wr=some (aF,e6)->
  ∃(S:Nat->aq) (aR:Nat->Bool),S 0=st/\S bz.length=aF/\e6=wr.reverse++(List.range bz.length).map aR/\∀i aV,bz[i]? =some aV->l5 call aV (S i) (S (i+1)) (aR i)
 |[],st,aF,wr,e6,he=>by
  simp only[cQ,az,bt]at he;obtain⟨rfl,rfl⟩:=he;exact⟨fun _=>st,fun _=>false,rfl,rfl,by simp,fun i aV h=>by simp at h⟩
 |o::r,st,aF,wr,e6,he=>by
  have key:∀(b4:aq) (b:Bool),l5 call o st b4 b->cQ call r b4 (b::wr)=some (aF,e6)->∃(S:Nat->aq) (aR:Nat->Bool),S 0=st/\S (o::r).length=aF/\
    e6=wr.reverse++(List.range (o::r).length).map aR/\∀i aV,(o::r)[i]? =some aV->l5 call aV (S i) (S (i+1)) (aR i):=fun b4 b hs h=>by
   obtain⟨S,aR,h0,h1,h2,ar⟩:=uN r _ _ _ _ h;refine⟨fun i=>match i with|0=>st|i+1=>S i,fun i=>match i with|0=>b|i+1=>aR i,rfl,by simpa using h1,?_,fun i aV hi=> ?_⟩
   ·rw[h2,ev,List.range_succ_eq_map,eo,rB,List.reverse_cons,mS]
    rfl
   ·cases i with
    |zero=>
     simp only[rr,az]at hi;subst hi;simpa[h0]using hs
    |succ i=>exact ar i aV (by simpa using hi)
  simp only[cQ]at he;split at he
  ·rename_i hw
   split at he
   ·rename_i v H1 bI h1
    exact key _ _ (.inl ⟨hw,v,H1,bI,h1,rfl,rfl⟩) he
   ·cases he
  ·rename_i hw
   exact key _ _ (.inr ⟨hw,rfl,rfl⟩) he
  ·cases he
mutual
theorem uO:∀a b:V,dP a b=true->a=b
 | .bool a,.bool b,h=>by simp only[dP,beq_iff_eq]at h;rw[h]
 | .int k n,.int bp m,h=>by simp only[dP,b8,decide_eq_true_eq]at h;rw[h.1,h.2]
 | .str s,.str al,h=>by simp only[dP,decide_eq_true_eq]at h;rw[h]
 | .cp,.cp,_=>rfl
 | .emp,.emp,_=>rfl
 | .jb,.jb,_=>rfl
 | .iw,.iw,_=>rfl
 | .jV,.jV,_=>rfl
 | .ig,.ig,_=>rfl
 | .undef,.undef,_=>rfl
 | .list e ds,.list e' ds',h=>by simp only[dP,b8,decide_eq_true_eq]at h;rw[h.1,s8 _ _ h.2]
 | .agg a,.agg b,h=>by simp only[dP]at h;rw[s8 _ _ h]
 | .aU a,.aU b,h=>by simp only[dP]at h;rw[s8 _ _ h]
 | .ptr l o,.ptr l' o',h=>by simp only[dP,b8,decide_eq_true_eq]at h;rw[h.1,h.2]
 | .gF a b c d e,.gF a7 eL c' d' e',h=>by simp only[dP,b8,decide_eq_true_eq]at h;rw[h.1,h.2.1,h.2.2.1,h.2.2.2.1,h.2.2.2.2]
 | .dn vs f,.dn vs' lR,h=>by simp only[dP,b8,decide_eq_true_eq]at h;rw[s8 _ _ h.1,h.2]
 | .cz a b c d e,.cz a7 eL c' d' e',h=>by simp only[dP,b8,decide_eq_true_eq]at h;rw[h.1,h.2.1,h.2.2.1,h.2.2.2.1,h.2.2.2.2]
 | .map l,.map l',h=>by simp only[dP,decide_eq_true_eq]at h;rw[h]
 | .yield l,.yield l',h=>by simp only[dP,decide_eq_true_eq]at h;rw[h]
 | .fn i a b,.fn z1 a7 eL,h=>by simp only[dP,b8,decide_eq_true_eq]at h;rw[h.1,s8 _ _ h.2.1,s8 _ _ h.2.2]
 | .iface t v,.iface eY v',h=>by simp only[dP,b8,decide_eq_true_eq]at h;rw[h.1,uO _ _ h.2]
theorem s8:∀a b:List V,mV a b=true->a=b
 |[],[],_=>rfl
 |a::r,b::s,h=>by simp only[mV,b8]at h;rw[uO _ _ h.1,s8 _ _ h.2]
end
theorem GA{call:cU}:∀(bz:List bO) (S:Nat->aq) (aR:Nat->Bool) (cf:List aq),(∀(i:Nat) aV,bz[i]? =some aV->l5 call aV (S i) (S (i+1)) (aR i))->fx call bz (S 0)=some cf->
  ∀k,k<=bz.length->cf[k]? =some (S k)
 |[],S,aR,cf,hs,ht,k,cW=>by
  simp only[fx,az]at ht;subst ht;have:k=0:=by simpa using cW
  subst this;rfl
 |o::r,S,aR,cf,hs,ht,k,cW=>by
  have h0:=hs 0 o rfl;have adA:∀rS,fx call r (S 1)=some rS->∀k,k<=r.length->rS[k]? =some (S (k+1)):=fun rS h=>GA r (fun i=>S (i+1)) (fun i=>aR (i+1)) rS (fun i aV hi=>hs (i+1) aV (by simpa using hi)) h;simp only[fx]at ht
  have fin:∀LF,LF=S 1->(fx call r LF).map (S 0:: ·)=some cf->cf[k]? =some (S k):=fun LF e h=>by
   subst e;obtain⟨x,hx,rfl⟩:=ct.1 h;cases k with
   |zero=>rfl
   |succ k=>simpa using adA x hx k (by simpa using cW)
  rcases h0 with⟨hw,v,H1,bI,h1,e,-⟩|⟨hw,e,-⟩
  ·rw[hw]at ht
   simp only[h1]at ht;exact fin _ e.symm ht
  ·rw[hw]at ht
   simp only at ht;exact fin _ e.symm ht
theorem l5.bM{call:cU}(hc:l3 call){aV:bO}{S ln:aq}{aR:Bool}(h:l5 call aV S ln aR):gb S ln:=by
 rcases h with⟨-,v,H1,bI,h1,rfl,-⟩|⟨-,rfl,-⟩
 ·have hp:=j5 {S with H:=H1,low:=min S.low bI} aV.dst v
  exact⟨by rw[hp.1,hp.2.1];exact(yb hc (aK _) h1).lift _,hp.2.2⟩
 ·have hp:=j5 S aV.dst (.aU [])
  exact⟨by rw[hp.1,hp.2.1];exact .refl _ _,hp.2.2⟩
theorem l5.still{call:cU}(hc:l3 call){aV:bO}{S ln:aq}{aR:Bool}(h:l5 call aV S ln aR)(ab:aR=false):ln.H=S.H:=by
 rcases h with⟨-,v,H1,bI,h1,rfl,h2⟩|⟨-,rfl,-⟩
 ·have hp:=j5 {S with H:=H1,low:=min S.low bI} aV.dst v
  rw[hp.1];exact Lv (yb hc (aK _) h1) (h2.symm.trans ab)
 ·exact(j5 S aV.dst (.aU [])).1
theorem l5.fw{call:cU}{aV:bO}{S ln:aq}{aR:Bool}(h:l5 call aV S ln aR)(ab:aR=true):fw aV.op=true:=by
 rcases h with⟨-,v,H1,bI,h1,rfl,h2⟩|⟨-,rfl,h2⟩
 ·cases ht:Abs.fw aV.op with
  |true=>rfl
  |false=>
   exfalso;have bf:∀raw f args,aV.op≠ .call raw f args:=fun raw f args e=>by rw[e]at ht;simp[Abs.fw]at ht
   rw[ya bf]at h1;obtain⟨rfl,rfl,-⟩:=Sq ht h1;rw[ab]at h2;simp[eG]at h2
 ·rw[h2]at ab;cases ab
theorem l5.look{call:cU}{vars:List Nat}{N:Nat}{ops:Array Oper}{o:Oper}{aV:bO}{S ln:aq}{aR:Bool}(h:l5 call aV S ln aR)(fK:s7 C vars N ops o aV){t:Nat}(ht:o.dst≠some t):
  dC vars ln t=dC vars S t:=by
 have key:∀(st:aq) (v:V),dC vars (st.put aV.dst v) t=dC vars st t:=fun st v=>by
  rcases fK.dst with⟨-,h2⟩|⟨d,-,h1,h2⟩
  ·rw[h2];rfl
  ·rw[h2,CR,if_neg (fun e=>ht (by rw[h1,e]))]
 rcases h with⟨-,v,H1,bI,h1,rfl,-⟩|⟨-,rfl,-⟩
 ·rw[key];rfl
 ·rw[key]
def GC (T:Nat->Prop):ag->Prop
 | .tmp t| .var t=>T t
 | _=>True
theorem adB{vars:List Nat}{ops:Array Oper}{o:Oper}{gw:Option (ag × Bool)}(bj:Ctx.guard vars ops o.guard=some gw){S:aq}{a:Act}{b:Bool}
  (hs:∀j want d,o.guard=some (j,want)->(ops[j]?).bind (·.dst)=some d->a8 fid G w (dC vars S d) (a.tmps.getD d undef)) (hw:e3 S.aG S.av gw=some b):
  Region.wanted o (yielded ops a.tmps)=b:=by
 unfold Region.wanted;cases yd:o.guard with
 |none=>
  rw[yd]at bj;simp only[Ctx.guard,az]at bj;subst bj;simp only[e3,az]at hw;exact hw
 |some p=>
  obtain⟨j,want⟩:=p;rw[yd]at bj;simp only[Ctx.guard]at bj;split at bj
  ·rename_i d hd
   simp only[az]at bj;subst bj;have ad:=hs j want d yd hd
   have AD:((if vars.contains d then ag.var d else ag.tmp d).ae S.aG S.av)=dC vars S d:=by
    unfold dC;split<;>rfl
   simp only[e3,AD]at hw
   have hy:yielded ops a.tmps j=match a.tmps.getD d undef with| .bool c=>some c| _=>none:=by
    unfold yielded;rw[hd];simp only[cg,v8];cases a.tmps[d]? with
    |none=>rfl
    |some x=>cases x<;>rfl
   dsimp only;rw[hy];split at hw
   ·rename_i c hc
    rw[hc]at ad;rw[ad.kz];simp only[az]at hw;rw[<-hw];cases c<;>cases want<;>rfl
   ·rename_i hc
    rw[hc]at ad;obtain⟨vals,hx,hr⟩:=ad.KP;rw[hx];simp only[az]at hw;rw[<-hw];rfl
   ·cases hw
  ·cases bj
theorem ye{vars:List Nat}{N:Nat}{ops:Array Oper}{o:Oper}{aV:bO}{S ln:aq}{aR:Bool}{call:cU}{j:Nat}{Hc:Heap}{a:Act}{T:Nat->Prop}{K:Act->World->Prop}
  {Q:Exit->Act->World->Prop} {ro:Option Nat} (bu:eZ C fid) (a6:gH C fid call) (ho:ops[j]? =some o) (fK:s7 C vars N ops o aV) (cd:l5 call aV S ln aR)
  (U:aZ C fid G Hc w) (e5:fw aV.op=true->Hc=S.H\/(aR=false/\(e3 S.aG S.av aV.guard=some true->∀v H1 bI,b2 call (ag.ae S.aG S.av) S.H S.H.length aV.op=some (v,H1,bI)->∃H2 c5,b2 call (ag.ae S.aG S.av) Hc Hc.length aV.op=some (v,H2,c5)/\eG Hc H2 c5=false))) (jZ:S.low<=Hc.length)
  (qL:∀t,T t->a8 fid G w (dC vars S t) (a.tmps.getD t undef))
  (hT:∀x∈aV.op.operands,GC T x) (adC:∀k want d,o.guard=some (k,want)->(ops[k]?).bind (·.dst)=some d->T d) (dJ:a.tmps.size=N)
  (kC:∀x w' G',aZ C fid G' (if aR then ln.H else Hc) w'->(∀m,m<=ln.low->Ext G w G' w' m Hc.length)->(∀t,o.dst=some t->a8 fid G' w' (dC vars ln t) x)->K (a.put o.dst x) w'):
  wpOpIn (en ro) 0 C.P ops Q j K a w:=by
 have Sv:∀b,e3 S.aG S.av aV.guard=some b->Region.wanted o (yielded ops a.tmps)=b:=fun b hb=>
  adB (fid:=fid) (G:=G) (w:=w) fK.guard (S:=S) (a:=a) (fun k want d h1 h2=>qL d (adC k want d h1 h2)) hb
 have l6:∀(st:aq) (v:V) (t:Nat),o.dst=some t->dC vars (st.put aV.dst v) t=v:=fun st v t ht=>by
  rcases fK.dst with⟨h1,-⟩|⟨d,-,h1,h2⟩
  ·rw[h1]at ht;cases ht
  ·rw[h1]at ht;cases ht
   rw[h2,CR,if_pos rfl]
 unfold wpOpIn;rw[ho];rcases cd with⟨hw,v,H1,bI,h1,rfl,kA⟩|⟨hw,rfl,kA⟩
 ·simp only[Sv _ hw,if_true]
  refine⟨fun _ _=>trivial,?_⟩;let gP:ag->V:=fun cv=>open Classical in if cv∈aV.op.operands then ag.ae S.aG S.av cv else .undef
  have LG:∀H low,b2 call (ag.ae S.aG S.av) H low aV.op=b2 call gP H low aV.op:=fun H low=>adw fun x hx=>by simp[gP,hx]
  have aL:fh C fid vars G w gP a.eval:=fun x cv hx=>by
   by_cases hin:cv∈aV.op.operands
   ·have uP:=hT cv hin
    simp only[gP,hin,if_true];cases x with
    |tmp t=>
     simp only[Ctx.b3,az]at hx;have LH:T t:=by rw[<-hx]at uP;split at uP<;>exact uP
     have:=qL t LH;have e:cv.ae S.aG S.av=dC vars S t:=by rw[<-hx];unfold dC;split<;>rfl
     rw[e];exact this
    |const u=>
     simp only[Ctx.b3]at hx;obtain⟨Sw,kU,rfl⟩:=ct.1 hx;rcases Cw (I:=G.I) (w:=w) u kU with rfl|hp
     ·exact .undef _
     ·exact .p _ _ hp
    |func f=>exact KW bu hx
    |global g=>simp[Ctx.b3]at hx
   ·simp only[gP,hin,if_false];exact .undef _
  have adD:o.semAt (en ro).round a.eval=execOp a.eval o:=Oper.semAt_eq _ _ _ fun c hc=>by
   rw[fK.op,hc]at h1;simp[Ctx.op,Ctx.cI,b2,step]at h1
  rw[adD];have fL:=j5 {S with H:=H1,low:=min S.low bI} aV.dst v;by_cases ht:fw aV.op=true
  ·rcases e5 ht with e|⟨adE,eA⟩
   case inr=>
    obtain⟨H2,c5,h2,LI⟩:=eA hw v H1 bI h1;have adF:=yb a6.bM (aK _) h2;have GD:=Lv adF LI
    have yf:Hc.length<=c5:=by
     unfold eG at LI;simp only[B9,decide_eq_false_iff_not]at LI;omega
    rw[GD]at h2;rw[LG,fK.op]at h2;refine Ly (R:=ll C fid G Hc w v Hc c5) (fun x bG hp=> ?_) (LA bu a6 U aL (aK _) h2);obtain⟨bl,p1,p2,p3⟩:=hp;refine kC x bG bl (by rw[adE];exact p1) (fun m hm=>p2 m ?_) (fun t ht=>by rw[l6 _ _ _ ht];exact p3);rw[fL.2.1]at hm;have:m<=S.low:=cV hm (jU _ _);omega
   subst e;rw[LG,fK.op]at h1;refine Ly (R:=ll C fid G S.H w v H1 bI) (fun x bG hp=> ?_) (LA bu a6 U aL (aK _) h1);obtain⟨bl,p1,p2,p3⟩:=hp;refine kC x bG bl ?_ (fun m hm=>p2 m (by rw[fL.2.1]at hm;exact cV hm (qt _ _))) (fun t ht=>by rw[l6 _ _ _ ht];exact p3);rw[fL.1];cases aR with
   |true=>exact p1
   |false=>
    have:=Lv (yb a6.bM (aK _) h1) kA.symm;rw[this]at p1;exact p1
  ·have eC:fw aV.op=false:=by simpa using ht
   have bf:∀raw f args,aV.op≠ .call raw f args:=fun raw f args e=>by rw[e]at eC;simp[fw]at eC
   have Sx:=h1;rw[ya bf]at Sx;obtain⟨rfl,rfl,eA⟩:=Sq eC Sx;have adG:aR=false:=by rw[kA];simp[eG]
   have h2:=eA Hc Hc.length;rw[<-ya (call:=call) bf,LG,fK.op]at h2;refine Ly (R:=ll C fid G Hc w v Hc Hc.length) (fun x bG hp=> ?_) (LA bu a6 U aL (aK _) h2);obtain⟨bl,p1,p2,p3⟩:=hp;refine kC x bG bl (by rw[adG];exact p1) (fun m hm=>p2 m ?_) (fun t ht=>by rw[l6 _ _ _ ht];exact p3);rw[fL.2.1]at hm;have:m<=S.low:=cV hm (jU _ _);omega
 ·have:=Sv _ hw
  dsimp only;rw[if_neg (by rw[this];simp)];refine⟨fun _ _=>trivial,?_⟩;refine kC undef w G ?_ (fun m _=>.refl _ _ _ _) (fun t ht=> ?_)
  ·rw[kA];exact U
  ·rw[l6 _ _ _ ht];exact .aU [] [] .nil
end Go.Abs
namespace Go.Abs
open Go
variable{C:Ctx}{fid:Nat->Nat}{w w':World}{G G':bX}{H H':Heap}
structure dy (C:Ctx) (fid:Nat->Nat) (vars:List Nat) (N:Nat) (G:bX) (st:aq) (a:Act) (w:World):Prop where
 rel:aZ C fid G st.H w
 env:∀t,a8 fid G w (dC vars st t) (a.tmps.getD t undef)
 size:a.tmps.size=N
 low:st.low<=st.H.length
structure kD (C:Ctx) (vars:List Nat) (N:Nat) (ops:Array Oper) (bz:List bO) (call:cU) (S:Nat->aq) (aR:Nat->Bool):Prop where
 len:bz.length=ops.size
 ok:∀(i:Nat) o aV,ops[i]? =some o->bz[i]? =some aV->s7 C vars N ops o aV
 step:∀(i:Nat) aV,bz[i]? =some aV->l5 call aV (S i) (S (i+1)) (aR i)
section
variable{vars:List Nat}{N:Nat}{ops:Array Oper}{bz:List bO}{call:cU}{S:Nat->aq}{aR:Nat->Bool}
theorem kD.get (h:kD C vars N ops bz call S aR){i:Nat}(hi:i<ops.size):∃o aV,ops[i]? =some o/\bz[i]? =some aV/\s7 C vars N ops o aV/\l5 call aV (S i) (S (i+1)) (aR i):=by
 have h1:ops[i]? =some ops[i]:=by simp[hi]
 have h2:bz[i]? =some (bz[i]'(by rw[h.len];exact hi)):=by simp
 exact⟨_,_,h1,h2,h.ok i _ _ h1 h2,h.step i _ h2⟩
theorem kD.of (hm:dH (C.oper vars N ops) ops.toList=some bz)(hs:∀(i:Nat) aV,bz[i]? =some aV->l5 call aV (S i) (S (i+1)) (aR i)):kD C vars N ops bz call S aR:=
 ⟨by rw[uF _ hm];simp,fun i o aV h1 h2=>AB (uG _ hm (by rw[auF];exact h1) h2),hs⟩
theorem kD.bM (h:kD C vars N ops bz call S aR)(hc:l3 call){i:Nat}:∀{k:Nat},i+k<=ops.size->gb (S i) (S (i+k))
 |0,_=>.refl _
 |k+1,cW=>by
  obtain⟨o,aV,-,-,-,hs⟩:=h.get (i:=i+k) (by omega);exact(h.bM hc (k:=k) (by omega)).trans (hs.bM hc)
theorem kD.na (h:kD C vars N ops bz call S aR)(hc:l3 call){i j:Nat}(cK:i<=j)(hj:j<=ops.size):gb (S i) (S j):=by
 obtain⟨k,rfl⟩:=mR cK;exact h.bM hc hj
theorem kD.heap (h:kD C vars N ops bz call S aR)(hc:l3 call){i:Nat}:∀{k:Nat},i+k<=ops.size->(∀x,i<=x->x<i+k->aR x=false)->(S (i+k)).H=(S i).H
 |0,_,_=>rfl
 |k+1,cW,ab=>by
  obtain⟨o,aV,-,-,-,hs⟩:=h.get (i:=i+k) (by omega);have:=hs.still hc (ab (i+k) (by omega) (by omega));exact this.trans (h.heap hc (k:=k) (by omega) fun x h1 h2=>ab x h1 (by omega))
theorem kD.slot (h:kD C vars N ops bz call S aR){t:Nat}{i:Nat}:∀{k:Nat},i+k<=ops.size->(∀(x:Nat) o,i<=x->x<i+k->ops[x]? =some o->o.dst≠some t)->dC vars (S (i+k)) t=dC vars (S i) t
 |0,_,_=>rfl
 |k+1,cW,ab=>by
  obtain⟨o,aV,ho,-,bx,hs⟩:=h.get (i:=i+k) (by omega);have:=hs.look (t:=t) bx (ab (i+k) o (by omega) (by omega) ho);exact this.trans (h.slot (k:=k) (by omega) fun x o h1 h2=>ab x o h1 (by omega))
theorem adH (vars:List Nat)(st:aq)(t:Nat):dC vars {st with aG:=[]} t=dC vars st t\/dC vars {st with aG:=[]} t=.undef:=by
 unfold dC;split
 ·exact .inl rfl
 ·exact .inr rfl
theorem dy.clear{st:aq}{a:Act}(h:dy C fid vars N G st a w):dy C fid vars N G {st with aG:=[]} a w:=
 ⟨h.rel,fun t=>by rcases adH vars st t with e|e<;>rw[e];exact h.env t;exact .undef _,h.size,h.low⟩
theorem dy.lU{st:aq}{a:Act}(h:dy C fid vars N G st a w)(e:w'.heap=w.heap):dy C fid vars N G st a w':=
 ⟨h.rel.lU e,fun t=>(h.env t).mono (.refl _) fun b hb=>⟨hb,by rw[e]⟩,h.size,h.low⟩
theorem yg{o:Oper}{a:Act}{x:Value}{t:Nat}{bl:bX}{bG:World}(hd:∀d,o.dst=some d->d<a.tmps.size){v:V}(h1:o.dst=some t->a8 fid bl bG v x)
  (h2:o.dst≠some t->a8 fid bl bG v (a.tmps.getD t undef)):a8 fid bl bG v ((a.put o.dst x).tmps.getD t undef):=by
 cases AE:o.dst with
 |none=>simp only[Act.put];exact h2 (by rw[AE];simp)
 |some d=>
  rw[LD _ _ _ _ (hd d AE)];by_cases e:t=d
  ·subst e;rw[if_pos rfl];exact h1 AE
  ·rw[if_neg e];exact h2 (by rw[AE];simpa using kp e)
theorem s7.lt{o:Oper}{aV:bO}(h:s7 C vars N ops o aV):∀d,o.dst=some d->d<N:=fun d hd=>by
 rcases h.dst with⟨h1,-⟩|⟨d',h0,h1,-⟩
 ·rw[h1]at hd;cases hd
 ·rw[h1]at hd;cases hd;exact h0
theorem adI{id:Nat}{st aF:aq}{wr:List Bool}{a:Act}{Q:Exit->Act->World->Prop}{ro:Option Nat}(bu:eZ C fid)(a6:gH C fid call)(hm:dH (C.oper vars N ops) ops.toList=some bz)
  (he:cQ call bz {st with aG:=[]} []=some (aF,wr)) (U:dy C fid vars N G st a w)
  (dz:∀G' a7 w',dy C fid vars N G' aF a7 w'->(∀m,m<=aF.low->Ext G w G' w' m st.H.length)->a7.defers=a.defers->Q .normal a7 w'):
  (Code.region id ops false).wpIn (en ro) 0 C.P Q a w:=by
 obtain⟨S,aR,h0,hn,-,hs⟩:=uN _ _ _ _ _ he;have T:kD C vars N ops bz call S aR:=.of hm hs
 have key:∀k j,j+k=ops.size->∀ay ai aH,dy C fid vars N ay (S j) ai aH->(∀m,m<=(S j).low->Ext G w ay aH m st.H.length)->ai.defers=a.defers->st.H.length<=(S j).H.length->
   wpOpsIn (en ro) 0 C.P ops Q (List.range' j k) ai aH:=by
  intro k
  induction k with
  |zero=>
   intro j hj ay ai aH bA b9 eD _;have e:j=bz.length:=by rw[T.len];omega
   subst e;rw[hn]at bA b9;exact dz ay ai aH bA b9 eD
  |succ k ih=>
   intro j hj ay ai aH bA b9 eD gx;obtain⟨o,aV,ho,fK,bx,cd⟩:=T.get (i:=j) (by omega);rw[ub,wpOpsIn_cons];have er:=cd.bM a6.bM;refine ye (T:=fun _=>True) bu a6 ho bx cd bA.rel (fun _=>.inl rfl) bA.low (fun t _=>bA.env t) (fun x _=>by cases x<;>trivial) (fun _ _ _ _ _=>trivial) bA.size ?_;intro x bG bl p1 p2 p3
   have yh:aZ C fid bl (S (j+1)).H bG:=by
    cases ab:aR j with
    |true=>rw[ab]at p1;exact p1
    |false=>rw[ab]at p1;rw[cd.still a6.bM ab];exact p1
   have nB:=p2 0 (cx _)
   refine ih (j+1) (by omega) bl _ bG ⟨yh,fun t=> ?_,by rw[wG];exact bA.size,er.bound bA.low⟩ (fun m hm=>(b9 m (cV hm er.1.low)).trans ((p2 m hm).le (aK _) gx)) (by rw[put_defers];exact eD)
    (cV gx er.1.len)
   refine yg (fun d hd=>by rw[bA.size];exact bx.lt d hd) (fun h=>p3 t h) (fun h=> ?_);rw[cd.look bx h];exact(bA.env t).ext bA.rel nB
 refine wpIn_region ?_;rw[FH];have iQ:=U.clear;rw[<-h0]at iQ;exact key ops.size 0 (by omega) G a w iQ (fun m _=>.refl _ _ _ _) rfl (by rw[h0];exact aK _)
theorem Sy:∀(l:List Oper) (A:Array Nat),let B:=l.foldl (fun acc o=>acc.push (CheckFast.one (fun i=>acc.getD i 0) o)) A
  B.size=A.size+l.length/\(∀i,i<A.size->B.getD i 0=A.getD i 0)/\∀k o,l[k]? =some o->B.getD (A.size+k) 0=CheckFast.one (fun i=>if i<A.size+k then B.getD i 0 else 0) o
 |[],A=>⟨by simp,fun _ _=>rfl,fun k o h=>by simp at h⟩
 |o::l,A=>by
  intro B;obtain⟨h1,h2,ar⟩:=Sy l (A.push (CheckFast.one (fun i=>A.getD i 0) o));have dr:B=l.foldl (fun acc o=>acc.push (CheckFast.one (fun i=>acc.getD i 0) o)) (A.push (CheckFast.one (fun i=>A.getD i 0) o)):=rfl;rw[<-dr]at h1 h2 ar;simp only[Array.size_push]at h1 h2 ar
  have hA:∀i,i<A.size->B.getD i 0=A.getD i 0:=fun i hi=>by
   rw[h2 i (by omega)];simp only[v8,Array.getElem?_push,if_neg (oH hi)]
  refine⟨by simp only[ev];omega,hA,fun k p cW=> ?_⟩;cases k with
  |zero=>
   simp only[rr,az]at cW;subst cW;rw[zW,h2 A.size (by omega)];simp only[v8,Array.getElem?_push,if_pos,sO];congr 1;funext i;by_cases hi:i<A.size
   ·rw[if_pos hi]
    have:=hA i hi;simp only[v8]at this;exact this.symm
   ·rw[if_neg hi];simp[FG (Nat.le_of_not_lt hi)]
  |succ k=>
   have:=ar k p (by simpa using cW);rw[FJ]at this;rw[<-pr];exact this
theorem adJ{look:Nat->Nat}{o:Oper}{i:Nat}(h:(CheckFast.one look o).testBit i=true):∃e∈o.after,Region.binds .any e=true/\(i=e.on\/(look e.on).testBit i=true):=by
 unfold CheckFast.one at h;rw[<-QM]at h
 have key:∀(l:List Edge) (s:Nat),(l.foldl (fun s e=>if Region.binds .any e then s ||| 2^e.on ||| look e.on else s) s).testBit i=true->s.testBit i=true\/∃e∈l,Region.binds .any e=true/\(i=e.on\/(look e.on).testBit i=true):=by
  intro l
  induction l with
  |nil=>exact fun s h=>.inl h
  |cons e l ih=>
   intro s h;rw[qu]at h;rcases ih _ h with h1|⟨e',he',h2⟩
   ·split at h1
    ·rename_i hb
     rw[Nat.testBit_or,Nat.testBit_or,Nat.testBit_two_pow]at h1;simp only[ko,decide_eq_true_eq]at h1;rcases h1 with(h1|h1)|h1
     ·exact .inl h1
     ·exact .inr ⟨e,by simp,hb,.inl h1.symm⟩
     ·exact .inr ⟨e,by simp,hb,.inr h1⟩
    ·exact .inl h1
   ·exact .inr ⟨e',by simp[he'],h2⟩
 rcases key _ _ h with h1|⟨e,he,h2⟩
 ·simp at h1
 ·exact⟨e,Array.mem_toList_iff.1 he,h2⟩
theorem LJ{ops:Array Oper}{j i:Nat}{o:Oper}(ho:ops[j]? =some o)(h:((CheckFast.beforeF ops).getD j 0).testBit i=true):
  ∃e∈o.after,Region.binds .any e=true/\(i=e.on\/((CheckFast.beforeF ops).getD e.on 0).testBit i=true):=by
 rw[CheckFast.beforeF_eq]at h⊢;have hb:=Sy ops.toList #[]
 have e:Region.before ops=ops.toList.foldl (fun acc o=>acc.push (CheckFast.one (fun i=>acc.getD i 0) o)) #[]:=by
  unfold Region.before;rw[<-QM];rfl
 rw[<-e]at hb;have ar:=hb.2.2 j o (by rw[auF];exact ho);rw[zR,ja,eO]at ar;rw[ar]at h;obtain⟨x,hx,Sz,aQ⟩:=adJ h;refine⟨x,hx,Sz,aQ.imp id fun h5=> ?_⟩;split at h5
 ·exact h5
 ·simp at h5
theorem LK (h:Ctx.xQ ops=true){i j:Nat}{o p:Oper}(ho:ops[j]? =some o)(hp:ops[i]? =some p){d:Nat}(hd:p.dst=some d)(cK:i≠j)(hn:o.dst=some d\/d∈Ctx.fq ops o):
  ((CheckFast.beforeF ops).getD (max i j) 0).testBit (min i j)=true:=by
 unfold Ctx.xQ at h;simp only[eV]at h;have h1:=h (o,j) (ie.2 (by rw[auF];exact ho)) (p,i) (ie.2 (by rw[auF];exact hp));simp only[hd]at h1;simp only[ko,beq_iff_eq,nV,B9,beq_eq_false_iff_ne,List.contains_eq_mem,decide_eq_false_iff_not]at h1;rcases h1 with(h1|⟨h1,h2⟩)|h1
 ·exact absurd h1 cK
 ·rcases hn with hn|hn
  ·exact absurd hn h1
  ·exact absurd hn h2
 ·exact h1
theorem LL (h:Ctx.xP ops=true){j:Nat}{o:Oper}(ho:ops[j]? =some o){e:Edge}(he:e∈o.after)(hb:Region.binds .any e=true):e.on<j:=by
 unfold Ctx.xP at h;simp only[eV]at h;have h1:=h (o,j) (ie.2 (by rw[auF];exact ho));simp only[Array.all_eq_true_iff_forall_mem]at h1;have h2:=h1 e he;unfold Region.binds at hb;cases bj:e.ground<;>simp_all
theorem LM{l:List Nat}{p q:Nat->Bool}(yi:∀x∈l,p x=true->q x=true){a:Nat}(ao:a∈l)(bc:q a=true)(hp:p a=false):l.countP p<l.countP q:=by
 induction l with
 |nil=>cases ao
 |cons x l ih=>
  have hle:l.countP p<=l.countP q:=List.countP_mono_left fun y hy=>yi y (by simp[hy]);rw[List.countP_cons,List.countP_cons];rcases dA.1 ao with rfl|gv
  ·rw[hp,bc];simp;omega
  ·have:=ih (fun y hy=>yi y (by simp[hy])) gv
   have h2:=yi x (by simp);cases hx:p x
   ·simp only[hY,if_false];split<;>omega
   ·rw[h2 hx];simp;omega
end
end Go.Abs
namespace Go.Abs
open Go
variable{C:Ctx}{fid:Nat->Nat}{w w':World}{G G':bX}{H H':Heap}
variable{vars:List Nat}{N:Nat}{ops:Array Oper}{bz:List bO}{call:cU}{S:Nat->aq}{aR:Nat->Bool}
structure Inv (C:Ctx) (fid:Nat->Nat) (vars:List Nat) (N:Nat) (ops:Array Oper) (S:Nat->aq) (aR:Nat->Bool) (G:bX) (w:World) (a:Act) (ob:Nat)
  (L:Array Bool) (k:Nat) (ay:bX) (ai:Act) (aH:World):Prop where
 size:L.size=ops.size
 closed:∀x,L.getD x false=true->∀i,((CheckFast.beforeF ops).getD x 0).testBit i=true->L.getD i false=true
 uQ:k<=ops.size
 qM:∀i,i<ops.size->aR i=true->(L.getD i false=true↔i<k)
 rel:aZ C fid ay (S k).H aH
 env:∀t m,m<=ops.size->(∀(i:Nat) o,ops[i]? =some o->o.dst=some t->(L.getD i false=true↔i<m))->a8 fid ay aH (dC vars (S m) t) (ai.tmps.getD t undef)
 o0:ai.tmps.size=N
 defers:ai.defers=a.defers
 ext:∀m,m<=(S ops.size).low->Ext G w ay aH m ob
theorem uR{L:Array Bool}{i j:Nat}(hj:j<L.size):(L.setIfInBounds j true).getD i false=true↔i=j\/L.getD i false=true:=by
 by_cases h:i=j
 ·subst h;simp[Array.getD,hj]
 ·rw[getD_set_ne false (kp h)];simp[h]
theorem adK{dO:List Nat}{wr:List Bool}(h:rD dO bz wr=true){i j:Nat}{aV:bO}(hi:wr[i]? =some true)(hj:bz[j]? =some aV)(ht:fw aV.op=true)(cK:i≠j):
  if j<i then(dO.getD i 0).testBit j=true else(dO.getD j 0).testBit i=true:=by
 unfold rD at h;rw[if_pos (ry.2 ⟨true,hz hi,rfl⟩)]at h;simp only[eV]at h;have h1:=h (true,i) (ie.2 hi);simp only[hZ,qv,eV]at h1;have h2:=h1 (aV,j) (ie.2 hj);simp only[ht,hZ,qv,ko,beq_iff_eq,cK,false_or]at h2;split at h2
 ·rename_i aX;rw[if_pos aX];exact h2
 ·rename_i aX;rw[if_neg aX];exact h2
theorem GF{dO:List Nat}{i j:Nat}:oL dO i j=true↔(if j<i then(dO.getD i 0).testBit j=true else(dO.getD j 0).testBit i=true):=by
 unfold oL;split<;>rfl
theorem adL{dO:List Nat}{wr:List Bool}(h:FW dO wr=true){i j:Nat}(hi:wr[i]? =some true)(hj:wr[j]? =some true)(cK:i≠j):oL dO i j=true:=by
 unfold FW at h;simp only[eV]at h;have h1:=h (true,i) (ie.2 hi);simp only[hZ,qv,eV]at h1;have h2:=h1 (true,j) (ie.2 hj);simpa[cK]using h2
theorem adM{dO:List Nat}{ops:List bO}{wr:List Bool}{cf:List aq}{o:bO}{j k:Nat}{FY z6:aq}(ho:ops[j]? =some o)(ht:fw o.op=true)(hw:wr.getD j false=false)(hj:cf[j]? =some FY)(cW:cf[k]? =some z6)
  (uS:k≠j) (AF:k=0\/wr.getD (k-1) false=true) (mH:∀i,wr[i]? =some true->i≠j->oL dO i j=true->(i<j↔i<k)):(o,FY,z6.H)∈FX dO ops wr cf:=by
 unfold FX;simp only[Cd];refine⟨(o,j),ie.2 ho,?_⟩;simp only[ht,hZ,hw,FU,hY,if_false,Cd];refine⟨(z6,k),ie.2 cW,?_⟩;simp only;rw[if_neg]
 ·rw[hj];simp
 ·intro h
  simp only[ko,beq_iff_eq,uS,false_or,b8,bne_iff_ne,ne_eq,nV]at h;rcases h with h|h
  ·rcases AF with h0|h0
   ·exact h.1 h0
   ·rw[h0]at h;cases h.2
  rw[ry]at h;obtain⟨⟨w,i⟩,hm,h⟩:=h;simp only[b8,bne_iff_ne,ne_eq]at h;obtain⟨h1,h2,ar,aQ⟩:=h;have hi:=ie.1 hm;simp only at hi;rw[h1]at hi;have:=mH i hi h2 ar;apply aQ;rw[decide_eq_decide];exact this
theorem SA (aR:Nat->Bool):∀(k:Nat),∃bp,bp<=k/\(bp=0\/aR (bp-1)=true)/\∀x,bp<=x->x<k->aR x=false
 |0=>⟨0,aK _,.inl rfl,fun x h1 h2=>by omega⟩
 |k+1=>by
  cases ab:aR k with
  |true=>exact⟨k+1,aK _,.inr ab,fun x h1 h2=>by omega⟩
  |false=>
   obtain⟨bp,h1,h2,ar⟩:=SA aR k;refine⟨bp,by omega,h2,fun x q1 aS=> ?_⟩;by_cases hx:x=k
   ·rw[hx];exact ab
   ·exact ar x q1 (by omega)
theorem adN{id:Nat}{st aF:aq}{wr:List Bool}{a:Act}{Q:Exit->Act->World->Prop}{ro:Option Nat}(cD:C.P.follows .mixedOrders=true)(bu:eZ C fid)(a6:gH C fid call)
  (hm:dH (C.oper vars N ops) ops.toList=some bz) (jG:Ctx.xP ops=true) (lZ:Ctx.xQ ops=true) (qL:(ops.toList.zip bz).all (fun(o,a)=>Ctx.wo ops o a)=true)
  (he:cQ call bz {st with aG:=[]} []=some (aF,wr)) (hin:(rD (CheckFast.beforeF ops).toList bz wr||qx call (CheckFast.beforeF ops).toList bz wr {st with aG:=[]})=true) (U:dy C fid vars N G st a w)
  (dz:∀G' a7 w',dy C fid vars N G' aF a7 w'->(∀m,m<=aF.low->Ext G w G' w' m st.H.length)->a7.defers=a.defers->Q .normal a7 w'):
  (Code.region id ops true).wpIn (en ro) 0 C.P Q a w:=by
 obtain⟨S,aR,h0,hn,mI,hs⟩:=uN _ _ _ _ _ he;have T:kD C vars N ops bz call S aR:=.of hm hs;rw[T.len]at hn mI;simp only[List.reverse_nil,jB]at mI
 have j1:∀i,(CheckFast.beforeF ops).toList.getD i 0=(CheckFast.beforeF ops).getD i 0:=fun i=>by
  rw[tY,auF,v8]
 have yj:∀i j,(if j<i then((CheckFast.beforeF ops).toList.getD i 0).testBit j=true else((CheckFast.beforeF ops).toList.getD j 0).testBit i=true)->((CheckFast.beforeF ops).getD (max i j) 0).testBit (min i j)=true:=fun i j this=>by
  rw[j1,j1]at this;split at this
  ·rw[FQ (by omega),uc (by omega)];exact this
  ·rw[FO (by omega),lP (by omega)];exact this
 have asM:∀i j,((CheckFast.beforeF ops).getD (max i j) 0).testBit (min i j)=true\/oL (CheckFast.beforeF ops).toList i j=false:=fun i j=>by
  cases ho:oL (CheckFast.beforeF ops).toList i j with
  |false=>exact .inr rfl
  |true=>exact .inl (yj i j (GF.1 ho))
 have wH:(∀i,i<ops.size->aR i=true->∀(j:Nat) aV,bz[j]? =some aV->fw aV.op=true->i≠j->((CheckFast.beforeF ops).getD (max i j) 0).testBit (min i j)=true)\/
   ((∀i,i<ops.size->aR i=true->∀j,j<ops.size->aR j=true->i≠j->((CheckFast.beforeF ops).getD (max i j) 0).testBit (min i j)=true)/\
    ∀(j:Nat) aV k,bz[j]? =some aV->j<ops.size->k<=ops.size->fw aV.op=true->aR j=false->(∀i,i<ops.size->aR i=true->i≠j->((CheckFast.beforeF ops).getD (max i j) 0).testBit (min i j)=true->(i<j↔i<k))->(S k).H=(S j).H\/jX call (aV,S j,(S k).H)=true):=by
  rw[ko]at hin;rcases hin with hin|hin
  ·left
   intro i hi ab j aV hj ht cK;exact yj i j (adK hin (i:=i) (by rw[mI];simp[hi,ab]) hj ht cK)
  ·right
   unfold qx at hin;split at hin
   ·rename_i cf oc
    simp only[b8]at hin;rw[<-h0]at oc;have qC:=GA bz S aR cf hs oc;rw[T.len]at qC;refine⟨fun i hi ab j hj hH cK=>yj i j (GF.1 (adL hin.1 (i:=i) (j:=j) (by rw[mI];simp[hi,ab]) (by rw[mI];simp[hj,hH]) cK)),fun j aV k hj iq cW ht hH mH=> ?_⟩;obtain⟨bp,hk',AG,LN⟩:=SA aR k
    have SB:(S k).H=(S bp).H:=by
     obtain⟨d,rfl⟩:=mR hk';exact T.heap a6.bM (by omega) fun x h1 h2=>LN x h1 h2
    by_cases uS:bp=j
    ·left;rw[SB,uS]
    right;rw[SB]
    have AF:bp=0\/wr.getD (bp-1) false=true:=by
     rcases U2 bp with q|q
     ·exact .inl q
     ·rcases AG with q'|q'
      ·omega
      ·right
       rw[mI,tY,jy,List.getElem?_range (by omega:bp-1<ops.size)];exact q'
    have eB:=adM (dO:=(CheckFast.beforeF ops).toList) (ops:=bz) (wr:=wr) (cf:=cf) (o:=aV) (j:=j) (k:=bp) hj ht (by rw[mI];simp[iq,hH]) (qC j (by omega)) (qC bp (by omega)) uS AF (fun i hi cK ho=>by
     have SC:i<ops.size:=by
      rcases fX i ops.size with h|h
      ·exact h
      ·rw[mI,lb (by simpa using h)]at hi;cases hi
     have rT:aR i=true:=by rw[mI]at hi;simpa[SC]using hi
     refine(mH i SC rT cK (yj i j (GF.1 ho))).trans ⟨fun h=> ?_,fun h=>by omega⟩;rcases fX i bp with q|q
     ·exact q
     ·rw[LN i q h]at rT;cases rT)
    exact eV.1 hin.2 _ eB
   ·cases hin
 have od:st.H=(S 0).H/\st.low=(S 0).low:=by rw[h0];exact⟨rfl,rfl⟩
 have CS:st.low<=st.H.length:=U.low
 have oe:∀L k ay ai aH,Inv C fid vars N ops S aR G w a st.H.length L k ay ai aH->(∀i,i<ops.size->L.getD i false=true)->Q .normal ai aH:=by
  intro L k ay ai aH I eA
  have cW:(S ops.size).H=(S k).H:=by
   obtain⟨d,hd⟩:=mR I.uQ;rw[hd];refine T.heap a6.bM (by omega) fun x h1 h2=> ?_;cases ab:aR x with
   |false=>rfl
   |true=>have:=(I.qM x (by omega) ab).1 (eA x (by omega));omega
  refine dz ay ai aH ?_ (fun m hm=>I.ext m (by rw[hn];exact hm)) I.defers;rw[<-hn];refine⟨by rw[cW];exact I.rel,fun t=>I.env t ops.size (aK _) fun i o ho _=> ?_,I.o0,?_⟩
  ·have:i<ops.size:=(sI.1 ho).1
   simp[this,eA i this]
  ·exact(T.na a6.bM (cx _) (aK _)).bound (by rw[<-od.1,<-od.2];exact CS)
 have CT:∀L k ay ai aH,Inv C fid vars N ops S aR G w a st.H.length L k ay ai aH->Region.ready .any ops L=[]->∀i,i<ops.size->L.getD i false=true:=by
  intro L k ay ai aH I hr i
  induction i using Nat.strongRecOn with
  | _ i ih=>
    intro hi;cases df:L.getD i false with
    |true=>rfl
    |false=>
     exfalso
     have:i∈Region.ready .any ops L:=mem_ready.2 ⟨by
      have:i<L.size:=by rw[I.size];exact hi
      simp only[Array.getD,this,dif_pos]at df⊢; exact df,ops[i],by simp[hi],fun e he hb=>by
       have aX:=LL jG (j:=i) (o:=ops[i]) (by simp[hi]) he hb;exact ih e.on aX (by omega)⟩
     rw[hr]at this;cases this
 have sW:∀(fuel:Nat) (L:Array Bool) (k:Nat) (ay:bX) (ai:Act) (aH:World) (j:Nat),Inv C fid vars N ops S aR G w a st.H.length L k ay ai aH->j∈Region.ready .any ops L->
   (∀gZ bp G' a7 w',Inv C fid vars N ops S aR G w a st.H.length gZ bp G' a7 w'->gZ=L.setIfInBounds j true->wpAnyIn (en ro) 0 C.P .any ops Q fuel gZ a7 w')->
   wpOpIn (en ro) 0 C.P ops Q j (wpAnyIn (en ro) 0 C.P .any ops Q fuel (L.setIfInBounds j true)) ai aH:=by
  intro fuel L k ay ai aH j I hj wI;obtain⟨wJ,o,ho,CU⟩:=mem_ready.1 hj;have iq:j<ops.size:=(sI.1 ho).1;have lp:j<L.size:=by rw[I.size];exact iq
  have n2:L.getD j false=false:=by simp only[Array.getD,lp,dif_pos]at wJ⊢; exact wJ
  obtain⟨o',aV,kx,fK,bx,cd⟩:=T.get iq;rw[ho]at kx;cases kx
  have wK:∀i,((CheckFast.beforeF ops).getD j 0).testBit i=true->L.getD i false=true:=fun i hb=>by
   obtain⟨e,lY,mX,o1⟩:=LJ ho hb;have hl:=CU e lY mX;rcases o1 with rfl|o1
   ·exact hl
   ·exact I.closed e.on hl i o1
  have mH:∀i,i≠j->((CheckFast.beforeF ops).getD (max i j) 0).testBit (min i j)=true->(L.getD i false=true↔i<j):=by
   intro i cK hb;rcases fX i j with aX|hge
   ·rw[FO (by omega),lP (by omega)]at hb
    exact⟨fun _=>aX,fun _=>wK i hb⟩
   ·rw[FQ hge,uc hge]at hb
    refine⟨fun df=> ?_,fun h=>by omega⟩;have:=I.closed i df j hb;rw[n2]at this;cases this
  have SD:aR j=true->∀i,i<ops.size->aR i=true->i≠j->(L.getD i false=true↔i<j):=fun hH i hi ab cK=>mH i cK (by
   rcases wH with hc|⟨hc,-⟩
   ·exact hc i hi ab j aV fK (cd.fw hH) cK
   ·exact hc i hi ab j iq hH cK)
  have wL:∀t,(o.dst=some t\/t∈Ctx.fq ops o)->∀(i:Nat) p,ops[i]? =some p->p.dst=some t->i≠j->(L.getD i false=true↔i<j):=fun t ht i p hp hd cK=>
   mH i cK (LK lZ ho hp hd cK ht)
  have uT:(∀i,i<ops.size->aR i=true->i≠j->(L.getD i false=true↔i<j))->(S k).H=(S j).H:=by
   intro CV;have cW:=I.uQ;rcases Nat.le_total k j with uS|CW
   ·obtain⟨d,rfl⟩:=mR uS
    refine(T.heap a6.bM (by omega) fun x h1 h2=> ?_).symm;cases ab:aR x with
    |false=>rfl
    |true=>
     have ai:=(CV x (by omega) ab (by omega)).2 (by omega);have a2:=(I.qM x (by omega) ab).1 ai;omega
   ·obtain⟨d,rfl⟩:=mR CW
    refine T.heap a6.bM (by omega) fun x h1 h2=> ?_;cases ab:aR x with
    |false=>rfl
    |true=>
     have a2:=(I.qM x (by omega) ab).2 (by omega);by_cases hx:x=j
     ·subst hx;rw[n2]at a2;cases a2
     ·have:=(CV x (by omega) ab hx).1 a2;omega
  have LO:fw aV.op=true->(S k).H=(S j).H\/(aR j=false/\(e3 (S j).aG (S j).av aV.guard=some true->∀v H1 bI,b2 call (ag.ae (S j).aG (S j).av) (S j).H (S j).H.length aV.op=some (v,H1,bI)->∃H2 c5,b2 call (ag.ae (S j).aG (S j).av) (S k).H (S k).H.length aV.op=some (v,H2,c5)/\eG (S k).H H2 c5=false)):=by
   intro ht;rcases wH with hc|⟨-,hc⟩
   ·exact .inl (uT fun i hi ab cK=>mH i cK (hc i hi ab j aV fK ht cK))
   ·cases hH:aR j with
    |true=>exact .inl (uT (SD hH))
    |false=>
     rcases hc j aV k fK iq I.uQ ht hH (fun i hi ab cK hb=>by
      rw[<-mH i cK hb];exact I.qM i hi ab)with nb|nb
     ·exact .inl nb
     refine .inr ⟨rfl,fun hw v H1 bI h1=> ?_⟩;unfold jX at nb;simp only[hw,h1]at nb;split at nb
     ·rename_i v' H2 c5 h2
      simp only[b8,nV]at nb;have:=uO _ _ nb.1;subst this;exact⟨H2,c5,h2,nb.2⟩
     ·cases nb
  have er:=cd.bM a6.bM
  have LP:(S j).low<=(S k).H.length:=by
   have af:=(T.na a6.bM (i:=0) (j:=j) (cx _) (by omega)).1.low;have e2:=(T.na a6.bM (i:=0) (j:=k) (cx _) I.uQ).1.len;rw[<-od.2]at af;rw[<-od.1]at e2;omega
  have AH:∀x∈aV.op.operands,GC (fun t=>t∈Ctx.fq ops o) x:=by
   intro x hx;have h1:(o,aV)∈ops.toList.zip bz:=ns.2 ⟨j,by rw[xD];exact⟨by rw[auF];exact ho,fK⟩⟩;have h2:=eV.1 qL _ h1;simp only[Ctx.wo,eV]at h2;have ar:=h2 x hx;cases x with
   |tmp t=>exact ua.1 ar
   |var t=>exact ua.1 ar
   |const v=>trivial
   |func i=>trivial
  refine ye (T:=fun t=>t∈Ctx.fq ops o) bu a6 ho bx cd I.rel LO LP (fun t ht=> ?_) AH (fun q want d bj hd=> ?_) I.o0 ?_
  ·refine I.env t j (by omega) fun i p hp hd=> ?_
   by_cases cK:i=j
   ·subst cK;simp[n2]
   ·exact wL t (.inr ht) i p hp hd cK
  ·simp only[Ctx.fq,jA]
   right;rw[bj];simp only[];rw[hd];simp
  ·intro x bG bl p1 p2 p3
   have nB:=p2 0 (cx _);have kE:∀i,(L.setIfInBounds j true).getD i false=true↔i=j\/L.getD i false=true:=fun i=>uR lp;refine wI _ (if aR j then j+1 else k) bl _ bG ⟨by simp[I.size],fun x hx i hb=> ?_,?_,fun i hi ab=> ?_,?_,fun t m hm ep=> ?_,by rw[wG];exact I.o0,by rw[put_defers];exact I.defers,fun m hm=> ?_⟩ rfl
   ·rw[kE]at hx⊢
    rcases hx with rfl|hx
    ·exact .inr (wK i hb)
    ·exact .inr (I.closed x hx i hb)
   ·split
    ·omega
    ·exact I.uQ
   ·rw[kE]
    by_cases cK:i=j
    ·subst cK;simp[ab]
    ·cases hH:aR j with
     |true=>
      have:=SD hH i hi ab cK;simp only[cK,false_or,if_true];rw[this];omega
     |false=>simp only[cK,false_or,hY,if_false];exact I.qM i hi ab
   ·cases hH:aR j with
    |true=>rw[hH]at p1;exact p1
    |false=>rw[hH]at p1;exact p1
   ·refine yg (fun d hd=>by rw[I.o0];exact bx.lt d hd) (fun h=> ?_) (fun h=> ?_)
    ·have CX:j<m:=(ep j o ho h).1 ((kE j).2 (.inl rfl))
     have e:dC vars (S m) t=dC vars (S (j+1)) t:=by
      obtain⟨d,rfl⟩:=mR (show j+1<=m from CX);refine T.slot (by omega) fun x p h1 h2 hp hd=> ?_;have rU:x≠j:=by omega
      have ai:=(kE x).1 ((ep x p hp hd).2 h2);have a2:=(wL t (.inl h) x p hp hd rU).1 (ai.resolve_left rU);omega
     rw[e];exact p3 t h
    ·refine(I.env t m hm fun i p hp hd=> ?_).ext I.rel nB
     have cK:i≠j:=fun e=>by subst e;rw[ho]at hp;cases hp;exact h hd
     rw[<-ep i p hp hd,kE];simp[cK]
   ·have af:=(T.na a6.bM (i:=j+1) (j:=ops.size) iq (aK _)).1.low
    have e2:=(T.na a6.bM (i:=0) (j:=k) (cx _) I.uQ).1.len;rw[<-od.1]at e2;exact(I.ext m hm).trans ((p2 m (by omega)).le (aK _) e2)
 have key:∀(fuel:Nat) (L:Array Bool) (k:Nat) (ay:bX) (ai:Act) (aH:World),Inv C fid vars N ops S aR G w a st.H.length L k ay ai aH->(List.range ops.size).countP (fun i=>!L.getD i false)<=fuel->
   wpAnyIn (en ro) 0 C.P .any ops Q fuel L ai aH:=by
  intro fuel
  induction fuel with
  |zero=>
   intro L k ay ai aH I hc
   have eA:∀i,i<ops.size->L.getD i false=true:=fun i hi=>by
     have h1:=List.countP_eq_zero.1 (Nat.le_zero.1 hc) i (by simpa using hi);simpa using h1
   refine⟨?_,oe _ _ _ _ _ I eA⟩;cases hr:Region.ready .any ops L with
   |nil=>rfl
   |cons i r=>
    obtain⟨h1,o,ho,-⟩:=mem_ready.1 (show i∈Region.ready .any ops L by rw[hr];simp);have hi:i<ops.size:=(sI.1 ho).1;have h2:=eA i hi;have:i<L.size:=by rw[I.size];exact hi
    simp only[Array.getD,this,dif_pos]at h1 h2;rw[h1]at h2;cases h2
  |succ fuel ih=>
   intro L k ay ai aH I hc;refine⟨fun hr=>oe _ _ _ _ _ I (CT _ _ _ _ _ I hr),fun j hj=>sW fuel L k ay ai aH j I hj fun gZ bp G' a7 w' qA e=>ih gZ bp G' a7 w' qA ?_⟩;subst e;obtain⟨h1,o,ho,-⟩:=mem_ready.1 hj;have iq:j<ops.size:=(sI.1 ho).1;have lp:j<L.size:=by rw[I.size];exact iq
   have aX:(List.range ops.size).countP (fun i=>!(L.setIfInBounds j true).getD i false)<(List.range ops.size).countP (fun i=>!L.getD i false):=by
     refine LM (a:=j) (fun x _ hx=> ?_) (by simpa using iq) ?_ ?_
     ·cases ad:L.getD x false with
      |false=>rfl
      |true=>
       have:=(uR (i:=x) lp).2 (.inr ad);rw[this]at hx;cases hx
     ·simp only[Array.getD,lp,dif_pos]at h1⊢; rw[h1];rfl
     ·have:=(uR (i:=j) lp).2 (.inl rfl)
      rw[this];rfl
   omega
 refine wpIn_region_any cD ?_;have hw:({w with drawn:=w.drawn+1}:World).heap=w.heap:=rfl;have iQ:=(U.clear).lU hw;rw[<-h0]at iQ
 have jh:∀i,(Array.replicate ops.size false).getD i false=false:=fun i=>by
  by_cases h:i<ops.size
  ·simp[h]
  ·simp[h]
 refine key ops.size (Array.replicate ops.size false) 0 G a {w with drawn:=w.drawn+1} ⟨by simp,fun x hx=>absurd hx (by rw[jh];simp),cx _,fun i hi ab=>by rw[jh];simp,iQ.rel,fun t m hm ep=> ?_,iQ.size,rfl,fun m _=>Ext.lU hw rfl rfl m _⟩ ?_
 ·have e:dC vars (S m) t=dC vars (S 0) t:=by
   have:=T.slot (t:=t) (i:=0) (k:=m) (by omega) fun x p h1 h2 hp hd=>by
     have:=(ep x p hp hd).2 (by omega);rw[jh]at this;cases this
   rw[eO]at this;exact this
  rw[e];exact iQ.env t
 ·refine cV List.countP_le_length (by simp)
end Go.Abs
