/- Texts of this claim, joined and written short by a program. -/
import Derived.Test.YtonmjjfciemcoaaGreatDoorP05
import Derived.Test.YtonmjjfciemcoaaGreatDoorP00
set_option linter.unusedVariables false
set_option linter.unusedSimpArgs false
set_option linter.unusedSectionVars false
namespace Go.Abs
open Go
variable{C:Ctx}{fid:Nat->Nat}{w w':World}{G G':bX}{H H':Heap}
def dP (vars:List Nat)(st:av)(t:Nat):V:=if vars.contains t then bG st.au t else bG st.aF t
theorem Yg (e:Env)(t ey:Nat)(v:V):bG (dD e t v) ey=if ey=t then v else bG e ey:=by
 induction e with
 |nil=>
  by_cases h:ey=t
  ·subst h;simp[dD,bG]
  ·simp[dD,bG,h,ly h]
 |cons p r ih=>
  obtain⟨k,u⟩:=p;simp only[dD];split
  ·rename_i hk
   subst hk;by_cases h:ey=k
   ·subst h;simp[bG]
   ·simp[bG,h,ly h]
  ·rename_i hk
   simp only[bG];split
   ·rename_i h
    rw[if_neg (by omega)]
   ·exact ih
theorem Gk (vars:List Nat)(st:av)(d:Nat)(v:V)(t:Nat):dP vars (st.put (some (d,vars.contains d)) v) t=if t=d then v else dP vars st t:=by
 unfold dP;cases hd:vars.contains d
 ·simp only[av.put]
  by_cases h:t=d
  ·subst h;rw[if_neg (by rw[hd];exact Bool.false_ne_true),if_pos rfl];simp[bG]
  ·rw[if_neg h]
   simp only[bG,if_neg (ly h)]
 ·simp only[av.put,Yg]
  by_cases h:t=d
  ·subst h;simp only[hd,if_true]
  ·simp only[if_neg h]
theorem PZ (a:Act)(d:Nat)(x:Value)(t:Nat)(hd:d<a.tmps.size):(a.put (some d) x).tmps.getD t undef=if t=d then x else a.tmps.getD t undef:=by
 simp only[Act.put];by_cases h:t=d
 ·subst h;simp[Array.getD,hd]
 ·rw[if_neg h]
  simp only[x1,Wl (ly h)]
theorem yq (a:Act)(d:Option Tmp)(x:Value):(a.put d x).tmps.size=a.tmps.size:=by cases d<;>simp[Act.put]
theorem put_defers (a:Act)(d:Option Tmp)(x:Value):(a.put d x).defers=a.defers:=by cases d<;>simp[Act.put]
structure vc (C:Ctx) (vars:List Nat) (N:Nat) (ops:Array Oper) (o:Oper) (bd:bS):Prop where
 op:bd.op=C.op vars o.pos o.op
 dst:(o.dst=none/\bd.dst=none)\/∃d,d<N/\o.dst=some d/\bd.dst=some (d,vars.contains d)
 guard:Ctx.guard vars ops o.guard=some bd.guard
theorem Dr{vars:List Nat}{N:Nat}{ops:Array Oper}{o:Oper}{bd:bS}(h:C.oper vars N ops o=some bd):vc C vars N ops o bd:=by
 unfold Ctx.oper at h;split at h
 ·rename_i g ba
  split at h
  ·rename_i hd
   cases h;exact⟨rfl,.inl ⟨hd,rfl⟩,ba⟩
  ·rename_i d hd
   split at h
   ·rename_i aT
    cases h;exact⟨rfl,.inr ⟨d,aT,hd,rfl⟩,ba⟩
   ·cases h
 ·cases h
def mG (call:cW)(bd:bS)(S lG:av)(a7:Bool):Prop:=
 (gE S.aF S.au bd.guard=some true/\∃v H' low',cc call (aj.ah S.aF S.au) S.H S.H.length bd.op=some (v,H',low')/\
   lG=({S with H:=H',low:=min S.low low'}:av).put bd.dst v/\a7=ew S.H H' low')\/
 (gE S.aF S.au bd.guard=some false/\lG=S.put bd.dst (.aU [])/\a7=false)
theorem vd{call:cW}:∀(bM:List bS) (st aQ:av) (wr fq:List Bool),c3 call bM st wr=some (aQ,fq)->
  ∃(S:Nat->av) (a7:Nat->Bool),S 0=st/\S bM.length=aQ/\fq=wr.reverse++(List.range bM.length).map a7/\∀i bd,bM[i]? =some bd->mG call bd (S i) (S (i+1)) (a7 i)
 |[],st,aQ,wr,fq,he=>by
  simp only[c3,aB,bx]at he;obtain⟨rfl,rfl⟩:=he;exact⟨fun _=>st,fun _=>false,rfl,rfl,by simp,fun i bd h=>by simp at h⟩
 |o::r,st,aQ,wr,fq,he=>by
  have key:∀(st1:av) (b:Bool),mG call o st st1 b->c3 call r st1 (b::wr)=some (aQ,fq)->∃(S:Nat->av) (a7:Nat->Bool),S 0=st/\S (o::r).length=aQ/\
    fq=wr.reverse++(List.range (o::r).length).map a7/\∀i bd,(o::r)[i]? =some bd->mG call bd (S i) (S (i+1)) (a7 i):=fun st1 b hs h=>by
   obtain⟨S,a7,h0,h1,h2,ar⟩:=vd r _ _ _ _ h;refine⟨fun i=>match i with|0=>st|i+1=>S i,fun i=>match i with|0=>b|i+1=>a7 i,rfl,by simpa using h1,?_,fun i bd hi=> ?_⟩
   ·rw[h2,gD,List.range_succ_eq_map,dv,kX,JZ,kA]
    rfl
   ·cases i with
    |zero=>
     simp only[o8,aB]at hi;subst hi;simpa[h0]using hs
    |succ i=>exact ar i bd (by simpa using hi)
  simp only[c3]at he;split at he
  ·rename_i hw
   split at he
   ·rename_i v H1 bO h1
    exact key _ _ (.inl ⟨hw,v,H1,bO,h1,rfl,rfl⟩) he
   ·cases he
  ·rename_i hw
   exact key _ _ (.inr ⟨hw,rfl,rfl⟩) he
  ·cases he
mutual
theorem wE:∀a b:V,dS a b=true->a=b
 | .bool a,.bool b,h=>by simp only[dS,beq_iff_eq]at h;rw[h]
 | .int k n,.int bF m,h=>by simp only[dS,b6,decide_eq_true_eq]at h;rw[h.1,h.2]
 | .str s,.str ao,h=>by simp only[dS,decide_eq_true_eq]at h;rw[h]
 | .aN,.aN,_=>rfl
 | .emp,.emp,_=>rfl
 | .ji,.ji,_=>rfl
 | .iu,.iu,_=>rfl
 | .kC,.kC,_=>rfl
 | .jO,.jO,_=>rfl
 | .undef,.undef,_=>rfl
 | .list e ds,.list e' ds',h=>by simp only[dS,b6,decide_eq_true_eq]at h;rw[h.1,ve _ _ h.2]
 | .agg a,.agg b,h=>by simp only[dS]at h;rw[ve _ _ h]
 | .aU a,.aU b,h=>by simp only[dS]at h;rw[ve _ _ h]
 | .ptr l o,.ptr fk o',h=>by simp only[dS,b6,decide_eq_true_eq]at h;rw[h.1,h.2]
 | .hz a b c d e,.hz bk e1 c' d' e',h=>by simp only[dS,b6,decide_eq_true_eq]at h;rw[h.1,h.2.1,h.2.2.1,h.2.2.2.1,h.2.2.2.2]
 | .dO vs f,.dO vs' ml,h=>by simp only[dS,b6,decide_eq_true_eq]at h;rw[ve _ _ h.1,h.2]
 | .bJ a b c d e,.bJ bk e1 c' d' e',h=>by simp only[dS,b6,decide_eq_true_eq]at h;rw[h.1,h.2.1,h.2.2.1,h.2.2.2.1,h.2.2.2.2]
 | .map l,.map fk,h=>by simp only[dS,decide_eq_true_eq]at h;rw[h]
 | .yield l,.yield fk,h=>by simp only[dS,decide_eq_true_eq]at h;rw[h]
 | .fn i a b,.fn CL bk e1,h=>by simp only[dS,b6,decide_eq_true_eq]at h;rw[h.1,ve _ _ h.2.1,ve _ _ h.2.2]
 | .iface t v,.iface ey v',h=>by simp only[dS,b6,decide_eq_true_eq]at h;rw[h.1,wE _ _ h.2]
theorem ve:∀a b:List V,nN a b=true->a=b
 |[],[],_=>rfl
 |a::r,b::s,h=>by simp only[nN,b6]at h;rw[wE _ _ h.1,ve _ _ h.2]
end
theorem KV{call:cW}:∀(bM:List bS) (S:Nat->av) (a7:Nat->Bool) (cl:List av),(∀(i:Nat) bd,bM[i]? =some bd->mG call bd (S i) (S (i+1)) (a7 i))->fx call bM (S 0)=some cl->
  ∀k,k<=bM.length->cl[k]? =some (S k)
 |[],S,a7,cl,hs,ht,k,hk=>by
  simp only[fx,aB]at ht;subst ht;have:k=0:=by simpa using hk
  subst this;rfl
 |o::r,S,a7,cl,hs,ht,k,hk=>by
  have h0:=hs 0 o rfl;have ami:∀nU,fx call r (S 1)=some nU->∀k,k<=r.length->nU[k]? =some (S (k+1)):=fun nU h=>KV r (fun i=>S (i+1)) (fun i=>a7 (i+1)) nU (fun i bd hi=>hs (i+1) bd (by simpa using hi)) h;simp only[fx]at ht
  have fin:∀P0,P0=S 1->(fx call r P0).map (S 0:: ·)=some cl->cl[k]? =some (S k):=fun P0 e h=>by
   subst e;obtain⟨x,hx,rfl⟩:=cA.1 h;cases k with
   |zero=>rfl
   |succ k=>simpa using ami x hx k (by simpa using hk)
  rcases h0 with⟨hw,v,H1,bO,h1,e,-⟩|⟨hw,e,-⟩
  ·rw[hw]at ht
   simp only[h1]at ht;exact fin _ e.symm ht
  ·rw[hw]at ht
   simp only at ht;exact fin _ e.symm ht
theorem mG.b2{call:cW}(hc:mE call){bd:bS}{S lG:av}{a7:Bool}(h:mG call bd S lG a7):gH S lG:=by
 rcases h with⟨-,v,H1,bO,h1,rfl,-⟩|⟨-,rfl,-⟩
 ·have hp:=kI {S with H:=H1,low:=min S.low bO} bd.dst v
  exact⟨by rw[hp.1,hp.2.1];exact(Aj hc (aH _) h1).lift _,hp.2.2⟩
 ·have hp:=kI S bd.dst (.aU [])
  exact⟨by rw[hp.1,hp.2.1];exact .refl _ _,hp.2.2⟩
theorem mG.still{call:cW}(hc:mE call){bd:bS}{S lG:av}{a7:Bool}(h:mG call bd S lG a7)(ag:a7=false):lG.H=S.H:=by
 rcases h with⟨-,v,H1,bO,h1,rfl,h2⟩|⟨-,rfl,-⟩
 ·have hp:=kI {S with H:=H1,low:=min S.low bO} bd.dst v
  rw[hp.1];exact PR (Aj hc (aH _) h1) (h2.symm.trans ag)
 ·exact(kI S bd.dst (.aU [])).1
theorem mG.gr{call:cW}{bd:bS}{S lG:av}{a7:Bool}(h:mG call bd S lG a7)(ag:a7=true):gr bd.op=true:=by
 rcases h with⟨-,v,H1,bO,h1,rfl,h2⟩|⟨-,rfl,h2⟩
 ·cases ht:Abs.gr bd.op with
  |true=>rfl
  |false=>
   exfalso;have bg:∀raw f args,bd.op≠ .call raw f args:=fun raw f args e=>by rw[e]at ht;simp[Abs.gr]at ht
   rw[Ai bg]at h1;obtain⟨rfl,rfl,-⟩:=Yb ht h1;rw[ag]at h2;simp[ew]at h2
 ·rw[h2]at ag;cases ag
theorem mG.look{call:cW}{vars:List Nat}{N:Nat}{ops:Array Oper}{o:Oper}{bd:bS}{S lG:av}{a7:Bool}(h:mG call bd S lG a7)(gk:vc C vars N ops o bd){t:Nat}(ht:o.dst≠some t):
  dP vars lG t=dP vars S t:=by
 have key:∀(st:av) (v:V),dP vars (st.put bd.dst v) t=dP vars st t:=fun st v=>by
  rcases gk.dst with⟨-,h2⟩|⟨d,-,h1,h2⟩
  ·rw[h2];rfl
  ·rw[h2,Gk,if_neg (fun e=>ht (by rw[h1,e]))]
 rcases h with⟨-,v,H1,bO,h1,rfl,-⟩|⟨-,rfl,-⟩
 ·rw[key];rfl
 ·rw[key]
def KW (T:Nat->Prop):aj->Prop
 | .tmp t| .var t=>T t
 | _=>True
theorem amj{vars:List Nat}{ops:Array Oper}{o:Oper}{gZ:Option (aj × Bool)}(ba:Ctx.guard vars ops o.guard=some gZ){S:av}{a:Act}{b:Bool}
  (hs:∀j want d,o.guard=some (j,want)->(ops[j]?).bind (·.dst)=some d->bh fid G w (dP vars S d) (a.tmps.getD d undef)) (hw:gE S.aF S.au gZ=some b):
  Region.wanted o (yielded ops a.tmps)=b:=by
 unfold Region.wanted;cases Al:o.guard with
 |none=>
  rw[Al]at ba;simp only[Ctx.guard,aB]at ba;subst ba;simp only[gE,aB]at hw;exact hw
 |some p=>
  obtain⟨j,want⟩:=p;rw[Al]at ba;simp only[Ctx.guard]at ba;split at ba
  ·rename_i d hd
   simp only[aB]at ba;subst ba;have ad:=hs j want d Al hd
   have Ds:((if vars.contains d then aj.var d else aj.tmp d).ah S.aF S.au)=dP vars S d:=by
    unfold dP;split<;>rfl
   simp only[gE,Ds]at hw
   have hy:yielded ops a.tmps j=match a.tmps.getD d undef with| .bool c=>some c| _=>none:=by
    unfold yielded;rw[hd];simp only[bs,x1];cases a.tmps[d]? with
    |none=>rfl
    |some x=>cases x<;>rfl
   dsimp only;rw[hy];split at hw
   ·rename_i c hc
    rw[hc]at ad;rw[ad.k5];simp only[aB]at hw;rw[<-hw];cases c<;>cases want<;>rfl
   ·rename_i hc
    rw[hc]at ad;obtain⟨vals,hx,hr⟩:=ad.O7;rw[hx];simp only[aB]at hw;rw[<-hw];rfl
   ·cases hw
  ·cases ba
theorem Am{vars:List Nat}{N:Nat}{ops:Array Oper}{o:Oper}{bd:bS}{S lG:av}{a7:Bool}{call:cW}{j:Nat}{Hc:Heap}{a:Act}{T:Nat->Prop}{K:Act->World->Prop}
  {Q:Exit->Act->World->Prop} {ro:Option Nat} (bC:e7 C fid) (bb:gS C fid call) (ho:ops[j]? =some o) (gk:vc C vars N ops o bd) (ct:mG call bd S lG a7)
  (ab:a8 C fid G Hc w) (hH:gr bd.op=true->Hc=S.H\/(a7=false/\(gE S.aF S.au bd.guard=some true->∀v H1 bO,cc call (aj.ah S.aF S.au) S.H S.H.length bd.op=some (v,H1,bO)->∃H2 dH,cc call (aj.ah S.aF S.au) Hc Hc.length bd.op=some (v,H2,dH)/\ew Hc H2 dH=false))) (kH:S.low<=Hc.length)
  (su:∀t,T t->bh fid G w (dP vars S t) (a.tmps.getD t undef))
  (hT:∀x∈bd.op.operands,KW T x) (amk:∀k want d,o.guard=some (k,want)->(ops[k]?).bind (·.dst)=some d->T d) (de:a.tmps.size=N)
  (oO:∀x w' G',a8 C fid G' (if a7 then lG.H else Hc) w'->(∀m,m<=lG.low->Ext G w G' w' m Hc.length)->(∀t,o.dst=some t->bh fid G' w' (dP vars lG t) x)->K (a.put o.dst x) w'):
  wpOpIn (eJ ro) 0 C.P ops Q j K a w:=by
 have Yh:∀b,gE S.aF S.au bd.guard=some b->Region.wanted o (yielded ops a.tmps)=b:=fun b hb=>
  amj (fid:=fid) (G:=G) (w:=w) gk.guard (S:=S) (a:=a) (fun k want d h1 h2=>su d (amk k want d h1 h2)) hb
 have lH:∀(st:av) (v:V) (t:Nat),o.dst=some t->dP vars (st.put bd.dst v) t=v:=fun st v t ht=>by
  rcases gk.dst with⟨h1,-⟩|⟨d,-,h1,h2⟩
  ·rw[h1]at ht;cases ht
  ·rw[h1]at ht;cases ht
   rw[h2,Gk,if_pos rfl]
 unfold wpOpIn;rw[ho];rcases ct with⟨hw,v,H1,bO,h1,rfl,km⟩|⟨hw,rfl,km⟩
 ·simp only[Yh _ hw,if_true]
  refine⟨fun _ _=>trivial,?_⟩;let hN:aj->V:=fun cO=>open Classical in if cO∈bd.op.operands then aj.ah S.aF S.au cO else .undef
  have P1:∀H low,cc call (aj.ah S.aF S.au) H low bd.op=cc call hN H low bd.op:=fun H low=>amd fun x hx=>by simp[hN,hx]
  have aP:fB C fid vars G w hN a.eval:=fun x cO hx=>by
   by_cases hin:cO∈bd.op.operands
   ·have wF:=hT cO hin
    simp only[hN,hin,if_true];cases x with
    |tmp t=>
     simp only[Ctx.cg,aB]at hx;have P2:T t:=by rw[<-hx]at wF;split at wF<;>exact wF
     have:=su t P2;have e:cO.ah S.aF S.au=dP vars S t:=by rw[<-hx];unfold dP;split<;>rfl
     rw[e];exact this
    |const u=>
     simp only[Ctx.cg]at hx;obtain⟨Yi,gv,rfl⟩:=cA.1 hx;rcases FY (I:=G.I) (w:=w) u gv with rfl|hp
     ·exact .undef _
     ·exact .p _ _ hp
    |func f=>exact Pg bC hx
    |global g=>simp[Ctx.cg]at hx
   ·simp only[hN,hin,if_false];exact .undef _
  have aml:o.semAt (eJ ro).round a.eval=execOp a.eval o:=Oper.semAt_eq _ _ _ fun c hc=>by
   rw[gk.op,hc]at h1;simp[Ctx.op,Ctx.cX,cc,step]at h1
  rw[aml];have gl:=kI {S with H:=H1,low:=min S.low bO} bd.dst v;by_cases ht:gr bd.op=true
  ·rcases hH ht with e|⟨amm,eP⟩
   case inr=>
    obtain⟨H2,dH,h2,P3⟩:=eP hw v H1 bO h1;have amn:=Aj bb.b2 (aH _) h2;have KX:=PR amn P3
    have An:Hc.length<=dH:=by
     unfold ew at P3;simp only[vO,decide_eq_false_iff_not]at P3;omega
    rw[KX]at h2;rw[P1,gk.op]at h2;refine PU (R:=k7 C fid G Hc w v Hc dH) (fun x bR hp=> ?_) (PW bC bb ab aP (aH _) h2);obtain⟨bu,p1,p2,p3⟩:=hp;refine oO x bR bu (by rw[amm];exact p1) (fun m hm=>p2 m ?_) (fun t ht=>by rw[lH _ _ _ ht];exact p3);rw[gl.2.1]at hm;have:m<=S.low:=cY hm (jM _ _);omega
   subst e;rw[P1,gk.op]at h1;refine PU (R:=k7 C fid G S.H w v H1 bO) (fun x bR hp=> ?_) (PW bC bb ab aP (aH _) h1);obtain⟨bu,p1,p2,p3⟩:=hp;refine oO x bR bu ?_ (fun m hm=>p2 m (by rw[gl.2.1]at hm;exact cY hm (nJ _ _))) (fun t ht=>by rw[lH _ _ _ ht];exact p3);rw[gl.1];cases a7 with
   |true=>exact p1
   |false=>
    have:=PR (Aj bb.b2 (aH _) h1) km.symm;rw[this]at p1;exact p1
  ·have eh:gr bd.op=false:=by simpa using ht
   have bg:∀raw f args,bd.op≠ .call raw f args:=fun raw f args e=>by rw[e]at eh;simp[gr]at eh
   have Yj:=h1;rw[Ai bg]at Yj;obtain⟨rfl,rfl,eP⟩:=Yb eh Yj;have amo:a7=false:=by rw[km];simp[ew]
   have h2:=eP Hc Hc.length;rw[<-Ai (call:=call) bg,P1,gk.op]at h2;refine PU (R:=k7 C fid G Hc w v Hc Hc.length) (fun x bR hp=> ?_) (PW bC bb ab aP (aH _) h2);obtain⟨bu,p1,p2,p3⟩:=hp;refine oO x bR bu (by rw[amo];exact p1) (fun m hm=>p2 m ?_) (fun t ht=>by rw[lH _ _ _ ht];exact p3);rw[gl.2.1]at hm;have:m<=S.low:=cY hm (jM _ _);omega
 ·have:=Yh _ hw
  dsimp only;rw[if_neg (by rw[this];simp)];refine⟨fun _ _=>trivial,?_⟩;refine oO undef w G ?_ (fun m _=>.refl _ _ _ _) (fun t ht=> ?_)
  ·rw[km];exact ab
  ·rw[lH _ _ _ ht];exact .aU [] [] .nil
end Go.Abs
namespace Go.Abs
open Go
variable{C:Ctx}{fid:Nat->Nat}{w w':World}{G G':bX}{H H':Heap}
structure dI (C:Ctx) (fid:Nat->Nat) (vars:List Nat) (N:Nat) (G:bX) (st:av) (a:Act) (w:World):Prop where
 rel:a8 C fid G st.H w
 env:∀t,bh fid G w (dP vars st t) (a.tmps.getD t undef)
 size:a.tmps.size=N
 low:st.low<=st.H.length
structure ia (C:Ctx) (vars:List Nat) (N:Nat) (ops:Array Oper) (bM:List bS) (call:cW) (S:Nat->av) (a7:Nat->Bool):Prop where
 len:bM.length=ops.size
 ok:∀(i:Nat) o bd,ops[i]? =some o->bM[i]? =some bd->vc C vars N ops o bd
 step:∀(i:Nat) bd,bM[i]? =some bd->mG call bd (S i) (S (i+1)) (a7 i)
section
variable{vars:List Nat}{N:Nat}{ops:Array Oper}{bM:List bS}{call:cW}{S:Nat->av}{a7:Nat->Bool}
theorem ia.get (h:ia C vars N ops bM call S a7){i:Nat}(hi:i<ops.size):∃o bd,ops[i]? =some o/\bM[i]? =some bd/\vc C vars N ops o bd/\mG call bd (S i) (S (i+1)) (a7 i):=by
 have h1:ops[i]? =some ops[i]:=by simp[hi]
 have h2:bM[i]? =some (bM[i]'(by rw[h.len];exact hi)):=by simp
 exact⟨_,_,h1,h2,h.ok i _ _ h1 h2,h.step i _ h2⟩
theorem ia.of (hm:dM (C.oper vars N ops) ops.toList=some bM)(hs:∀(i:Nat) bd,bM[i]? =some bd->mG call bd (S i) (S (i+1)) (a7 i)):ia C vars N ops bM call S a7:=
 ⟨by rw[wv _ hm];simp,fun i o bd h1 h2=>Dr (wx _ hm (by rw[fM];exact h1) h2),hs⟩
theorem ia.b2 (h:ia C vars N ops bM call S a7)(hc:mE call){i:Nat}:∀{k:Nat},i+k<=ops.size->gH (S i) (S (i+k))
 |0,_=>.refl _
 |k+1,hk=>by
  obtain⟨o,bd,-,-,-,hs⟩:=h.get (i:=i+k) (by omega);exact(h.b2 hc (k:=k) (by omega)).trans (hs.b2 hc)
theorem ia.nV (h:ia C vars N ops bM call S a7)(hc:mE call){i j:Nat}(cF:i<=j)(hj:j<=ops.size):gH (S i) (S j):=by
 obtain⟨k,rfl⟩:=oz cF;exact h.b2 hc hj
theorem ia.heap (h:ia C vars N ops bM call S a7)(hc:mE call){i:Nat}:∀{k:Nat},i+k<=ops.size->(∀x,i<=x->x<i+k->a7 x=false)->(S (i+k)).H=(S i).H
 |0,_,_=>rfl
 |k+1,hk,ag=>by
  obtain⟨o,bd,-,-,-,hs⟩:=h.get (i:=i+k) (by omega);have:=hs.still hc (ag (i+k) (by omega) (by omega));exact this.trans (h.heap hc (k:=k) (by omega) fun x h1 h2=>ag x h1 (by omega))
theorem ia.slot (h:ia C vars N ops bM call S a7){t:Nat}{i:Nat}:∀{k:Nat},i+k<=ops.size->(∀(x:Nat) o,i<=x->x<i+k->ops[x]? =some o->o.dst≠some t)->dP vars (S (i+k)) t=dP vars (S i) t
 |0,_,_=>rfl
 |k+1,hk,ag=>by
  obtain⟨o,bd,ho,-,bc,hs⟩:=h.get (i:=i+k) (by omega);have:=hs.look (t:=t) bc (ag (i+k) o (by omega) (by omega) ho);exact this.trans (h.slot (k:=k) (by omega) fun x o h1 h2=>ag x o h1 (by omega))
theorem amp (vars:List Nat)(st:av)(t:Nat):dP vars {st with aF:=[]} t=dP vars st t\/dP vars {st with aF:=[]} t=.undef:=by
 unfold dP;split
 ·exact .inl rfl
 ·exact .inr rfl
theorem dI.clear{st:av}{a:Act}(h:dI C fid vars N G st a w):dI C fid vars N G {st with aF:=[]} a w:=
 ⟨h.rel,fun t=>by rcases amp vars st t with e|e<;>rw[e];exact h.env t;exact .undef _,h.size,h.low⟩
theorem dI.jT{st:av}{a:Act}(h:dI C fid vars N G st a w)(e:w'.heap=w.heap):dI C fid vars N G st a w':=
 ⟨h.rel.jT e,fun t=>(h.env t).mono (.refl _) fun b hb=>⟨hb,by rw[e]⟩,h.size,h.low⟩
theorem Ao{o:Oper}{a:Act}{x:Value}{t:Nat}{bu:bX}{bR:World}(hd:∀d,o.dst=some d->d<a.tmps.size){v:V}(h1:o.dst=some t->bh fid bu bR v x)
  (h2:o.dst≠some t->bh fid bu bR v (a.tmps.getD t undef)):bh fid bu bR v ((a.put o.dst x).tmps.getD t undef):=by
 cases Dt:o.dst with
 |none=>simp only[Act.put];exact h2 (by rw[Dt];simp)
 |some d=>
  rw[PZ _ _ _ _ (hd d Dt)];by_cases e:t=d
  ·subst e;rw[if_pos rfl];exact h1 Dt
  ·rw[if_neg e];exact h2 (by rw[Dt];simpa using ly e)
theorem vc.lt{o:Oper}{bd:bS}(h:vc C vars N ops o bd):∀d,o.dst=some d->d<N:=fun d hd=>by
 rcases h.dst with⟨h1,-⟩|⟨d',h0,h1,-⟩
 ·rw[h1]at hd;cases hd
 ·rw[h1]at hd;cases hd;exact h0
theorem amq{id:Nat}{st aQ:av}{wr:List Bool}{a:Act}{Q:Exit->Act->World->Prop}{ro:Option Nat}(bC:e7 C fid)(bb:gS C fid call)(hm:dM (C.oper vars N ops) ops.toList=some bM)
  (he:c3 call bM {st with aF:=[]} []=some (aQ,wr)) (ab:dI C fid vars N G st a w)
  (dJ:∀G' bk w',dI C fid vars N G' aQ bk w'->(∀m,m<=aQ.low->Ext G w G' w' m st.H.length)->bk.defers=a.defers->Q .normal bk w'):
  (Code.region id ops false).wpIn (eJ ro) 0 C.P Q a w:=by
 obtain⟨S,a7,h0,hn,-,hs⟩:=vd _ _ _ _ _ he;have T:ia C vars N ops bM call S a7:=.of hm hs
 have key:∀k j,j+k=ops.size->∀az al aG,dI C fid vars N az (S j) al aG->(∀m,m<=(S j).low->Ext G w az aG m st.H.length)->al.defers=a.defers->st.H.length<=(S j).H.length->
   wpOpsIn (eJ ro) 0 C.P ops Q (List.range' j k) al aG:=by
  intro k
  induction k with
  |zero=>
   intro j hj az al aG bB ca ez _;have e:j=bM.length:=by rw[T.len];omega
   subst e;rw[hn]at bB ca;exact dJ az al aG bB ca ez
  |succ k ih=>
   intro j hj az al aG bB ca ez fC;obtain⟨o,bd,ho,gk,bc,ct⟩:=T.get (i:=j) (by omega);rw[td,wpOpsIn_cons];have eQ:=ct.b2 bb.b2;refine Am (T:=fun _=>True) bC bb ho bc ct bB.rel (fun _=>.inl rfl) bB.low (fun t _=>bB.env t) (fun x _=>by cases x<;>trivial) (fun _ _ _ _ _=>trivial) bB.size ?_;intro x bR bu p1 p2 p3
   have Ap:a8 C fid bu (S (j+1)).H bR:=by
    cases ag:a7 j with
    |true=>rw[ag]at p1;exact p1
    |false=>rw[ag]at p1;rw[ct.still bb.b2 ag];exact p1
   have oP:=p2 0 (cJ _)
   refine ih (j+1) (by omega) bu _ bR ⟨Ap,fun t=> ?_,by rw[yq];exact bB.size,eQ.bound bB.low⟩ (fun m hm=>(ca m (cY hm eQ.1.low)).trans ((p2 m hm).le (aH _) fC)) (by rw[put_defers];exact ez)
    (cY fC eQ.1.len)
   refine Ao (fun d hd=>by rw[bB.size];exact bc.lt d hd) (fun h=>p3 t h) (fun h=> ?_);rw[ct.look bc h];exact(bB.env t).ext bB.rel oP
 refine wpIn_region ?_;rw[Fk];have jD:=ab.clear;rw[<-h0]at jD;exact key ops.size 0 (by omega) G a w jD (fun m _=>.refl _ _ _ _) rfl (by rw[h0];exact aH _)
theorem Yk:∀(l:List Oper) (A:Array Nat),let B:=l.foldl (fun acc o=>acc.push (CheckFast.one (fun i=>acc.getD i 0) o)) A
  B.size=A.size+l.length/\(∀i,i<A.size->B.getD i 0=A.getD i 0)/\∀k o,l[k]? =some o->B.getD (A.size+k) 0=CheckFast.one (fun i=>if i<A.size+k then B.getD i 0 else 0) o
 |[],A=>⟨by simp,fun _ _=>rfl,fun k o h=>by simp at h⟩
 |o::l,A=>by
  intro B;obtain⟨h1,h2,ar⟩:=Yk l (A.push (CheckFast.one (fun i=>A.getD i 0) o));have dc:B=l.foldl (fun acc o=>acc.push (CheckFast.one (fun i=>acc.getD i 0) o)) (A.push (CheckFast.one (fun i=>A.getD i 0) o)):=rfl;rw[<-dc]at h1 h2 ar;simp only[Array.size_push]at h1 h2 ar
  have hA:∀i,i<A.size->B.getD i 0=A.getD i 0:=fun i hi=>by
   rw[h2 i (by omega)];simp only[x1,Array.getElem?_push,if_neg (qW hi)]
  refine⟨by simp only[gD];omega,hA,fun k p hk=> ?_⟩;cases k with
  |zero=>
   simp only[o8,aB]at hk;subst hk;rw[x9,h2 A.size (by omega)];simp only[x1,Array.getElem?_push,if_pos,oB];congr 1;funext i;by_cases hi:i<A.size
   ·rw[if_pos hi]
    have:=hA i hi;simp only[x1]at this;exact this.symm
   ·rw[if_neg hi];simp[zx (Nat.le_of_not_lt hi)]
  |succ k=>
   have:=ar k p (by simpa using hk);rw[JX]at this;rw[<-qV];exact this
theorem amr{look:Nat->Nat}{o:Oper}{i:Nat}(h:(CheckFast.one look o).testBit i=true):∃e∈o.after,Region.binds .any e=true/\(i=e.on\/(look e.on).testBit i=true):=by
 unfold CheckFast.one at h;rw[<-Ws]at h
 have key:∀(l:List Edge) (s:Nat),(l.foldl (fun s e=>if Region.binds .any e then s ||| 2^e.on ||| look e.on else s) s).testBit i=true->s.testBit i=true\/∃e∈l,Region.binds .any e=true/\(i=e.on\/(look e.on).testBit i=true):=by
  intro l
  induction l with
  |nil=>exact fun s h=>.inl h
  |cons e l ih=>
   intro s h;rw[p6]at h;rcases ih _ h with h1|⟨e',qq,h2⟩
   ·split at h1
    ·rename_i hb
     rw[Nat.testBit_or,Nat.testBit_or,Nat.testBit_two_pow]at h1;simp only[iI,decide_eq_true_eq]at h1;rcases h1 with(h1|h1)|h1
     ·exact .inl h1
     ·exact .inr ⟨e,by simp,hb,.inl h1.symm⟩
     ·exact .inr ⟨e,by simp,hb,.inr h1⟩
    ·exact .inl h1
   ·exact .inr ⟨e',by simp[qq],h2⟩
 rcases key _ _ h with h1|⟨e,he,h2⟩
 ·simp at h1
 ·exact⟨e,Array.mem_toList_iff.1 he,h2⟩
theorem P4{ops:Array Oper}{j i:Nat}{o:Oper}(ho:ops[j]? =some o)(h:((CheckFast.beforeF ops).getD j 0).testBit i=true):
  ∃e∈o.after,Region.binds .any e=true/\(i=e.on\/((CheckFast.beforeF ops).getD e.on 0).testBit i=true):=by
 rw[CheckFast.beforeF_eq]at h⊢;have hb:=Yk ops.toList #[]
 have e:Region.before ops=ops.toList.foldl (fun acc o=>acc.push (CheckFast.one (fun i=>acc.getD i 0) o)) #[]:=by
  unfold Region.before;rw[<-Ws];rfl
 rw[<-e]at hb;have ar:=hb.2.2 j o (by rw[fM];exact ho);rw[ta,nL,dA]at ar;rw[ar]at h;obtain⟨x,hx,Yl,aS⟩:=amr h;refine⟨x,hx,Yl,aS.imp id fun h5=> ?_⟩;split at h5
 ·exact h5
 ·simp at h5
theorem P5 (h:Ctx.zU ops=true){i j:Nat}{o p:Oper}(ho:ops[j]? =some o)(hp:ops[i]? =some p){d:Nat}(hd:p.dst=some d)(cF:i≠j)(hn:o.dst=some d\/d∈Ctx.fV ops o):
  ((CheckFast.beforeF ops).getD (max i j) 0).testBit (min i j)=true:=by
 unfold Ctx.zU at h;simp only[ev]at h;have h1:=h (o,j) (jw.2 (by rw[fM];exact ho)) (p,i) (jw.2 (by rw[fM];exact hp));simp only[hd]at h1;simp only[iI,beq_iff_eq,kB,vO,beq_eq_false_iff_ne,List.contains_eq_mem,decide_eq_false_iff_not]at h1;rcases h1 with(h1|⟨h1,h2⟩)|h1
 ·exact absurd h1 cF
 ·rcases hn with hn|hn
  ·exact absurd hn h1
  ·exact absurd hn h2
 ·exact h1
theorem P6 (h:Ctx.zT ops=true){j:Nat}{o:Oper}(ho:ops[j]? =some o){e:Edge}(he:e∈o.after)(hb:Region.binds .any e=true):e.on<j:=by
 unfold Ctx.zT at h;simp only[ev]at h;have h1:=h (o,j) (jw.2 (by rw[fM];exact ho));simp only[Array.all_eq_true_iff_forall_mem]at h1;have h2:=h1 e he;unfold Region.binds at hb;cases ba:e.ground<;>simp_all
theorem P7{l:List Nat}{p q:Nat->Bool}(Aq:∀x∈l,p x=true->q x=true){a:Nat}(ha:a∈l)(bf:q a=true)(hp:p a=false):l.countP p<l.countP q:=by
 induction l with
 |nil=>cases ha
 |cons x l ih=>
  have hle:l.countP p<=l.countP q:=List.countP_mono_left fun y hy=>Aq y (by simp[hy]);rw[List.countP_cons,List.countP_cons];rcases dx.1 ha with rfl|gQ
  ·rw[hp,bf];simp;omega
  ·have:=ih (fun y hy=>Aq y (by simp[hy])) gQ
   have h2:=Aq x (by simp);cases hx:p x
   ·simp only[gq,if_false];split<;>omega
   ·rw[h2 hx];simp;omega
end
end Go.Abs
namespace Go.Abs
open Go
variable{C:Ctx}{fid:Nat->Nat}{w w':World}{G G':bX}{H H':Heap}
variable{vars:List Nat}{N:Nat}{ops:Array Oper}{bM:List bS}{call:cW}{S:Nat->av}{a7:Nat->Bool}
structure Inv (C:Ctx) (fid:Nat->Nat) (vars:List Nat) (N:Nat) (ops:Array Oper) (S:Nat->av) (a7:Nat->Bool) (G:bX) (w:World) (a:Act) (px:Nat)
  (L:Array Bool) (k:Nat) (az:bX) (al:Act) (aG:World):Prop where
 size:L.size=ops.size
 closed:∀x,L.getD x false=true->∀i,((CheckFast.beforeF ops).getD x 0).testBit i=true->L.getD i false=true
 wG:k<=ops.size
 sv:∀i,i<ops.size->a7 i=true->(L.getD i false=true↔i<k)
 rel:a8 C fid az (S k).H aG
 env:∀t m,m<=ops.size->(∀(i:Nat) o,ops[i]? =some o->o.dst=some t->(L.getD i false=true↔i<m))->bh fid az aG (dP vars (S m) t) (al.tmps.getD t undef)
 qu:al.tmps.size=N
 defers:al.defers=a.defers
 ext:∀m,m<=(S ops.size).low->Ext G w az aG m px
theorem wH{L:Array Bool}{i j:Nat}(hj:j<L.size):(L.setIfInBounds j true).getD i false=true↔i=j\/L.getD i false=true:=by
 by_cases h:i=j
 ·subst h;simp[Array.getD,hj]
 ·rw[getD_set_ne false (ly h)];simp[h]
theorem ams{dX:List Nat}{wr:List Bool}(h:yc dX bM wr=true){i j:Nat}{bd:bS}(hi:wr[i]? =some true)(hj:bM[j]? =some bd)(ht:gr bd.op=true)(cF:i≠j):
  if j<i then(dX.getD i 0).testBit j=true else(dX.getD j 0).testBit i=true:=by
 unfold yc at h;rw[if_pos (tc.2 ⟨true,gg hi,rfl⟩)]at h;simp only[ev]at h;have h1:=h (true,i) (jw.2 hi);simp only[hX,uX,ev]at h1;have h2:=h1 (bd,j) (jw.2 hj);simp only[ht,hX,uX,iI,beq_iff_eq,cF,false_or]at h2;split at h2
 ·rename_i aT;rw[if_pos aT];exact h2
 ·rename_i aT;rw[if_neg aT];exact h2
theorem KY{dX:List Nat}{i j:Nat}:qc dX i j=true↔(if j<i then(dX.getD i 0).testBit j=true else(dX.getD j 0).testBit i=true):=by
 unfold qc;split<;>rfl
theorem amt{dX:List Nat}{wr:List Bool}(h:J9 dX wr=true){i j:Nat}(hi:wr[i]? =some true)(hj:wr[j]? =some true)(cF:i≠j):qc dX i j=true:=by
 unfold J9 at h;simp only[ev]at h;have h1:=h (true,i) (jw.2 hi);simp only[hX,uX,ev]at h1;have h2:=h1 (true,j) (jw.2 hj);simpa[cF]using h2
theorem amu{dX:List Nat}{ops:List bS}{wr:List Bool}{cl:List av}{o:bS}{j k:Nat}{Kb CM:av}(ho:ops[j]? =some o)(ht:gr o.op=true)(hw:wr.getD j false=false)(hj:cl[j]? =some Kb)(hk:cl[k]? =some CM)
  (wI:k≠j) (Gl:k=0\/wr.getD (k-1) false=true) (oQ:∀i,wr[i]? =some true->i≠j->qc dX i j=true->(i<j↔i<k)):(o,Kb,CM.H)∈Ka dX ops wr cl:=by
 unfold Ka;simp only[CH];refine⟨(o,j),jw.2 ho,?_⟩;simp only[ht,hX,hw,Bool.or_self,gq,if_false,CH];refine⟨(CM,k),jw.2 hk,?_⟩;simp only;rw[if_neg]
 ·rw[hj];simp
 ·intro h
  simp only[iI,beq_iff_eq,wI,false_or,b6,bne_iff_ne,ne_eq,kB]at h;rcases h with h|h
  ·rcases Gl with h0|h0
   ·exact h.1 h0
   ·rw[h0]at h;cases h.2
  rw[tc]at h;obtain⟨⟨w,i⟩,hm,h⟩:=h;simp only[b6,bne_iff_ne,ne_eq]at h;obtain⟨h1,h2,ar,aS⟩:=h;have hi:=jw.1 hm;simp only at hi;rw[h1]at hi;have:=oQ i hi h2 ar;apply aS;rw[decide_eq_decide];exact this
theorem Ym (a7:Nat->Bool):∀(k:Nat),∃bF,bF<=k/\(bF=0\/a7 (bF-1)=true)/\∀x,bF<=x->x<k->a7 x=false
 |0=>⟨0,aH _,.inl rfl,fun x h1 h2=>by omega⟩
 |k+1=>by
  cases ag:a7 k with
  |true=>exact⟨k+1,aH _,.inr ag,fun x h1 h2=>by omega⟩
  |false=>
   obtain⟨bF,h1,h2,ar⟩:=Ym a7 k;refine⟨bF,by omega,h2,fun x q1 q2=> ?_⟩;by_cases hx:x=k
   ·rw[hx];exact ag
   ·exact ar x q1 (by omega)
theorem amv{id:Nat}{st aQ:av}{wr:List Bool}{a:Act}{Q:Exit->Act->World->Prop}{ro:Option Nat}(cD:C.P.follows .mixedOrders=true)(bC:e7 C fid)(bb:gS C fid call)
  (hm:dM (C.oper vars N ops) ops.toList=some bM) (jm:Ctx.zT ops=true) (mB:Ctx.zU ops=true) (su:(ops.toList.zip bM).all (fun(o,a)=>Ctx.yf ops o a)=true)
  (he:c3 call bM {st with aF:=[]} []=some (aQ,wr)) (hin:(yc (CheckFast.beforeF ops).toList bM wr||r8 call (CheckFast.beforeF ops).toList bM wr {st with aF:=[]})=true) (ab:dI C fid vars N G st a w)
  (dJ:∀G' bk w',dI C fid vars N G' aQ bk w'->(∀m,m<=aQ.low->Ext G w G' w' m st.H.length)->bk.defers=a.defers->Q .normal bk w'):
  (Code.region id ops true).wpIn (eJ ro) 0 C.P Q a w:=by
 obtain⟨S,a7,h0,hn,lW,hs⟩:=vd _ _ _ _ _ he;have T:ia C vars N ops bM call S a7:=.of hm hs;rw[T.len]at hn lW;simp only[List.reverse_nil,jN]at lW
 have hD:∀i,(CheckFast.beforeF ops).toList.getD i 0=(CheckFast.beforeF ops).getD i 0:=fun i=>by
  rw[kj,fM,x1]
 have Ar:∀i j,(if j<i then((CheckFast.beforeF ops).toList.getD i 0).testBit j=true else((CheckFast.beforeF ops).toList.getD j 0).testBit i=true)->((CheckFast.beforeF ops).getD (max i j) 0).testBit (min i j)=true:=fun i j this=>by
  rw[hD,hD]at this;split at this
  ·rw[J5 (by omega),uU (by omega)];exact this
  ·rw[J2 (by omega),qU (by omega)];exact this
 have aDk:∀i j,((CheckFast.beforeF ops).getD (max i j) 0).testBit (min i j)=true\/qc (CheckFast.beforeF ops).toList i j=false:=fun i j=>by
  cases ho:qc (CheckFast.beforeF ops).toList i j with
  |false=>exact .inr rfl
  |true=>exact .inl (Ar i j (KY.1 ho))
 have As:(∀i,i<ops.size->a7 i=true->∀(j:Nat) bd,bM[j]? =some bd->gr bd.op=true->i≠j->((CheckFast.beforeF ops).getD (max i j) 0).testBit (min i j)=true)\/
   ((∀i,i<ops.size->a7 i=true->∀j,j<ops.size->a7 j=true->i≠j->((CheckFast.beforeF ops).getD (max i j) 0).testBit (min i j)=true)/\
    ∀(j:Nat) bd k,bM[j]? =some bd->j<ops.size->k<=ops.size->gr bd.op=true->a7 j=false->(∀i,i<ops.size->a7 i=true->i≠j->((CheckFast.beforeF ops).getD (max i j) 0).testBit (min i j)=true->(i<j↔i<k))->(S k).H=(S j).H\/jz call (bd,S j,(S k).H)=true):=by
  rw[iI]at hin;rcases hin with hin|hin
  ·left
   intro i hi ag j bd hj ht cF;exact Ar i j (ams hin (i:=i) (by rw[lW];simp[hi,ag]) hj ht cF)
  ·right
   unfold r8 at hin;split at hin
   ·rename_i cl py
    simp only[b6]at hin;rw[<-h0]at py;have kn:=KV bM S a7 cl hs py;rw[T.len]at kn;refine⟨fun i hi ag j hj iw cF=>Ar i j (KY.1 (amt hin.1 (i:=i) (j:=j) (by rw[lW];simp[hi,ag]) (by rw[lW];simp[hj,iw]) cF)),fun j bd k hj i6 hk ht iw oQ=> ?_⟩;obtain⟨bF,hk',vf,P8⟩:=Ym a7 k
    have Yn:(S k).H=(S bF).H:=by
     obtain⟨d,rfl⟩:=oz hk';exact T.heap bb.b2 (by omega) fun x h1 h2=>P8 x h1 h2
    by_cases wI:bF=j
    ·left;rw[Yn,wI]
    right;rw[Yn]
    have Gl:bF=0\/wr.getD (bF-1) false=true:=by
     rcases Wt bF with q|q
     ·exact .inl q
     ·rcases vf with q'|q'
      ·omega
      ·right
       rw[lW,kj,hL,Wq (by omega:bF-1<ops.size)];exact q'
    have eW:=amu (dX:=(CheckFast.beforeF ops).toList) (ops:=bM) (wr:=wr) (cl:=cl) (o:=bd) (j:=j) (k:=bF) hj ht (by rw[lW];simp[i6,iw]) (kn j (by omega)) (kn bF (by omega)) wI Gl (fun i hi cF ho=>by
     have Yo:i<ops.size:=by
      rcases gh i ops.size with h|h
      ·exact h
      ·rw[lW,lQ (by simpa using h)]at hi;cases hi
     have tE:a7 i=true:=by rw[lW]at hi;simpa[Yo]using hi
     refine(oQ i Yo tE cF (Ar i j (KY.1 ho))).trans ⟨fun h=> ?_,fun h=>by omega⟩;rcases gh i bF with q|q
     ·exact q
     ·rw[P8 i q h]at tE;cases tE)
    exact ev.1 hin.2 _ eW
   ·cases hin
 have pz:st.H=(S 0).H/\st.low=(S 0).low:=by rw[h0];exact⟨rfl,rfl⟩
 have Gm:st.low<=st.H.length:=ab.low
 have nW:∀L k az al aG,Inv C fid vars N ops S a7 G w a st.H.length L k az al aG->(∀i,i<ops.size->L.getD i false=true)->Q .normal al aG:=by
  intro L k az al aG I eP
  have hk:(S ops.size).H=(S k).H:=by
   obtain⟨d,hd⟩:=oz I.wG;rw[hd];refine T.heap bb.b2 (by omega) fun x h1 h2=> ?_;cases ag:a7 x with
   |false=>rfl
   |true=>have:=(I.sv x (by omega) ag).1 (eP x (by omega));omega
  refine dJ az al aG ?_ (fun m hm=>I.ext m (by rw[hn];exact hm)) I.defers;rw[<-hn];refine⟨by rw[hk];exact I.rel,fun t=>I.env t ops.size (aH _) fun i o ho _=> ?_,I.qu,?_⟩
  ·have:i<ops.size:=(uP.1 ho).1
   simp[this,eP i this]
  ·exact(T.nV bb.b2 (cJ _) (aH _)).bound (by rw[<-pz.1,<-pz.2];exact Gm)
 have Gn:∀L k az al aG,Inv C fid vars N ops S a7 G w a st.H.length L k az al aG->Region.ready .any ops L=[]->∀i,i<ops.size->L.getD i false=true:=by
  intro L k az al aG I hr i
  induction i using Nat.strongRecOn with
  | _ i ih=>
    intro hi;cases ei:L.getD i false with
    |true=>rfl
    |false=>
     exfalso
     have:i∈Region.ready .any ops L:=mem_ready.2 ⟨by
      have:i<L.size:=by rw[I.size];exact hi
      simp only[Array.getD,this,dif_pos]at ei⊢; exact ei,ops[i],by simp[hi],fun e he hb=>by
       have aT:=P6 jm (j:=i) (o:=ops[i]) (by simp[hi]) he hb;exact ih e.on aT (by omega)⟩
     rw[hr]at this;cases this
 have jl:∀(fuel:Nat) (L:Array Bool) (k:Nat) (az:bX) (al:Act) (aG:World) (j:Nat),Inv C fid vars N ops S a7 G w a st.H.length L k az al aG->j∈Region.ready .any ops L->
   (∀ib bF G' bk w',Inv C fid vars N ops S a7 G w a st.H.length ib bF G' bk w'->ib=L.setIfInBounds j true->wpAnyIn (eJ ro) 0 C.P .any ops Q fuel ib bk w')->
   wpOpIn (eJ ro) 0 C.P ops Q j (wpAnyIn (eJ ro) 0 C.P .any ops Q fuel (L.setIfInBounds j true)) al aG:=by
  intro fuel L k az al aG j I hj yr;obtain⟨ys,o,ho,Gp⟩:=mem_ready.1 hj;have i6:j<ops.size:=(uP.1 ho).1;have lX:j<L.size:=by rw[I.size];exact i6
  have pf:L.getD j false=false:=by simp only[Array.getD,lX,dif_pos]at ys⊢; exact ys
  obtain⟨o',bd,jU,gk,bc,ct⟩:=T.get i6;rw[ho]at jU;cases jU
  have yt:∀i,((CheckFast.beforeF ops).getD j 0).testBit i=true->L.getD i false=true:=fun i hb=>by
   obtain⟨e,mz,nR,qv⟩:=P4 ho hb;have hl:=Gp e mz nR;rcases qv with rfl|qv
   ·exact hl
   ·exact I.closed e.on hl i qv
  have oQ:∀i,i≠j->((CheckFast.beforeF ops).getD (max i j) 0).testBit (min i j)=true->(L.getD i false=true↔i<j):=by
   intro i cF hb;rcases gh i j with aT|hge
   ·rw[J2 (by omega),qU (by omega)]at hb
    exact⟨fun _=>aT,fun _=>yt i hb⟩
   ·rw[J5 hge,uU hge]at hb
    refine⟨fun ei=> ?_,fun h=>by omega⟩;have:=I.closed i ei j hb;rw[pf]at this;cases this
  have Yp:a7 j=true->∀i,i<ops.size->a7 i=true->i≠j->(L.getD i false=true↔i<j):=fun iw i hi ag cF=>oQ i cF (by
   rcases As with hc|⟨hc,-⟩
   ·exact hc i hi ag j bd gk (ct.gr iw) cF
   ·exact hc i hi ag j i6 iw cF)
  have yu:∀t,(o.dst=some t\/t∈Ctx.fV ops o)->∀(i:Nat) p,ops[i]? =some p->p.dst=some t->i≠j->(L.getD i false=true↔i<j):=fun t ht i p hp hd cF=>
   oQ i cF (P5 mB ho hp hd cF ht)
  have ns:(∀i,i<ops.size->a7 i=true->i≠j->(L.getD i false=true↔i<j))->(S k).H=(S j).H:=by
   intro Gq;have hk:=I.wG;rcases Nat.le_total k j with wI|hjk
   ·obtain⟨d,rfl⟩:=oz wI
    refine(T.heap bb.b2 (by omega) fun x h1 h2=> ?_).symm;cases ag:a7 x with
    |false=>rfl
    |true=>
     have al:=(Gq x (by omega) ag (by omega)).2 (by omega);have a2:=(I.sv x (by omega) ag).1 al;omega
   ·obtain⟨d,rfl⟩:=oz hjk
    refine T.heap bb.b2 (by omega) fun x h1 h2=> ?_;cases ag:a7 x with
    |false=>rfl
    |true=>
     have a2:=(I.sv x (by omega) ag).2 (by omega);by_cases hx:x=j
     ·subst hx;rw[pf]at a2;cases a2
     ·have:=(Gq x (by omega) ag hx).1 a2;omega
  have P9:gr bd.op=true->(S k).H=(S j).H\/(a7 j=false/\(gE (S j).aF (S j).au bd.guard=some true->∀v H1 bO,cc call (aj.ah (S j).aF (S j).au) (S j).H (S j).H.length bd.op=some (v,H1,bO)->∃H2 dH,cc call (aj.ah (S j).aF (S j).au) (S k).H (S k).H.length bd.op=some (v,H2,dH)/\ew (S k).H H2 dH=false)):=by
   intro ht;rcases As with hc|⟨-,hc⟩
   ·exact .inl (ns fun i hi ag cF=>oQ i cF (hc i hi ag j bd gk ht cF))
   ·cases iw:a7 j with
    |true=>exact .inl (ns (Yp iw))
    |false=>
     rcases hc j bd k gk i6 I.wG ht iw (fun i hi ag cF hb=>by
      rw[<-oQ i cF hb];exact I.sv i hi ag)with nX|nX
     ·exact .inl nX
     refine .inr ⟨rfl,fun hw v H1 bO h1=> ?_⟩;unfold jz at nX;simp only[hw,h1]at nX;split at nX
     ·rename_i v' H2 dH h2
      simp only[b6,kB]at nX;have:=wE _ _ nX.1;subst this;exact⟨H2,dH,h2,nX.2⟩
     ·cases nX
  have eQ:=ct.b2 bb.b2
  have Qa:(S j).low<=(S k).H.length:=by
   have af:=(T.nV bb.b2 (i:=0) (j:=j) (cJ _) (by omega)).1.low;have ak:=(T.nV bb.b2 (i:=0) (j:=k) (cJ _) I.wG).1.len;rw[<-pz.2]at af;rw[<-pz.1]at ak;omega
  have Du:∀x∈bd.op.operands,KW (fun t=>t∈Ctx.fV ops o) x:=by
   intro x hx;have h1:(o,bd)∈ops.toList.zip bM:=pY.2 ⟨j,by rw[Fi];exact⟨by rw[fM];exact ho,gk⟩⟩;have h2:=ev.1 su _ h1;simp only[Ctx.yf,ev]at h2;have ar:=h2 x hx;cases x with
   |tmp t=>exact s9.1 ar
   |var t=>exact s9.1 ar
   |const v=>trivial
   |func i=>trivial
  refine Am (T:=fun t=>t∈Ctx.fV ops o) bC bb ho bc ct I.rel P9 Qa (fun t ht=> ?_) Du (fun q want d ba hd=> ?_) I.qu ?_
  ·refine I.env t j (by omega) fun i p hp hd=> ?_
   by_cases cF:i=j
   ·subst cF;simp[pf]
   ·exact yu t (.inr ht) i p hp hd cF
  ·simp only[Ctx.fV,iq]
   right;rw[ba];simp only[];rw[hd];simp
  ·intro x bR bu p1 p2 p3
   have oP:=p2 0 (cJ _);have kq:∀i,(L.setIfInBounds j true).getD i false=true↔i=j\/L.getD i false=true:=fun i=>wH lX;refine yr _ (if a7 j then j+1 else k) bu _ bR ⟨by simp[I.size],fun x hx i hb=> ?_,?_,fun i hi ag=> ?_,?_,fun t m hm et=> ?_,by rw[yq];exact I.qu,by rw[put_defers];exact I.defers,fun m hm=> ?_⟩ rfl
   ·rw[kq]at hx⊢
    rcases hx with rfl|hx
    ·exact .inr (yt i hb)
    ·exact .inr (I.closed x hx i hb)
   ·split
    ·omega
    ·exact I.wG
   ·rw[kq]
    by_cases cF:i=j
    ·subst cF;simp[ag]
    ·cases iw:a7 j with
     |true=>
      have:=Yp iw i hi ag cF;simp only[cF,false_or,if_true];rw[this];omega
     |false=>simp only[cF,false_or,gq,if_false];exact I.sv i hi ag
   ·cases iw:a7 j with
    |true=>rw[iw]at p1;exact p1
    |false=>rw[iw]at p1;exact p1
   ·refine Ao (fun d hd=>by rw[I.qu];exact bc.lt d hd) (fun h=> ?_) (fun h=> ?_)
    ·have Gr:j<m:=(et j o ho h).1 ((kq j).2 (.inl rfl))
     have e:dP vars (S m) t=dP vars (S (j+1)) t:=by
      obtain⟨d,rfl⟩:=oz (show j+1<=m from Gr);refine T.slot (by omega) fun x p h1 h2 hp hd=> ?_;have tF:x≠j:=by omega
      have al:=(kq x).1 ((et x p hp hd).2 h2);have a2:=(yu t (.inl h) x p hp hd tF).1 (al.resolve_left tF);omega
     rw[e];exact p3 t h
    ·refine(I.env t m hm fun i p hp hd=> ?_).ext I.rel oP
     have cF:i≠j:=fun e=>by subst e;rw[ho]at hp;cases hp;exact h hd
     rw[<-et i p hp hd,kq];simp[cF]
   ·have af:=(T.nV bb.b2 (i:=j+1) (j:=ops.size) i6 (aH _)).1.low
    have ak:=(T.nV bb.b2 (i:=0) (j:=k) (cJ _) I.wG).1.len;rw[<-pz.1]at ak;exact(I.ext m hm).trans ((p2 m (by omega)).le (aH _) ak)
 have key:∀(fuel:Nat) (L:Array Bool) (k:Nat) (az:bX) (al:Act) (aG:World),Inv C fid vars N ops S a7 G w a st.H.length L k az al aG->(List.range ops.size).countP (fun i=>!L.getD i false)<=fuel->
   wpAnyIn (eJ ro) 0 C.P .any ops Q fuel L al aG:=by
  intro fuel
  induction fuel with
  |zero=>
   intro L k az al aG I hc
   have eP:∀i,i<ops.size->L.getD i false=true:=fun i hi=>by
     have h1:=List.countP_eq_zero.1 (Nat.le_zero.1 hc) i (by simpa using hi);simpa using h1
   refine⟨?_,nW _ _ _ _ _ I eP⟩;cases hr:Region.ready .any ops L with
   |nil=>rfl
   |cons i r=>
    obtain⟨h1,o,ho,-⟩:=mem_ready.1 (show i∈Region.ready .any ops L by rw[hr];simp);have hi:i<ops.size:=(uP.1 ho).1;have h2:=eP i hi;have:i<L.size:=by rw[I.size];exact hi
    simp only[Array.getD,this,dif_pos]at h1 h2;rw[h1]at h2;cases h2
  |succ fuel ih=>
   intro L k az al aG I hc;refine⟨fun hr=>nW _ _ _ _ _ I (Gn _ _ _ _ _ I hr),fun j hj=>jl fuel L k az al aG j I hj fun ib bF G' bk w' sc e=>ih ib bF G' bk w' sc ?_⟩;subst e;obtain⟨h1,o,ho,-⟩:=mem_ready.1 hj;have i6:j<ops.size:=(uP.1 ho).1;have lX:j<L.size:=by rw[I.size];exact i6
   have aT:(List.range ops.size).countP (fun i=>!(L.setIfInBounds j true).getD i false)<(List.range ops.size).countP (fun i=>!L.getD i false):=by
     refine P7 (a:=j) (fun x _ hx=> ?_) (by simpa using i6) ?_ ?_
     ·cases ad:L.getD x false with
      |false=>rfl
      |true=>
       have:=(wH (i:=x) lX).2 (.inr ad);rw[this]at hx;cases hx
     ·simp only[Array.getD,lX,dif_pos]at h1⊢; rw[h1];rfl
     ·have:=(wH (i:=j) lX).2 (.inl rfl)
      rw[this];rfl
   omega
 refine wpIn_region_any cD ?_;have hw:({w with drawn:=w.drawn+1}:World).heap=w.heap:=rfl;have jD:=(ab.clear).jT hw;rw[<-h0]at jD
 have jX:∀i,(Array.replicate ops.size false).getD i false=false:=fun i=>by
  by_cases h:i<ops.size
  ·simp[h]
  ·simp[h]
 refine key ops.size (Array.replicate ops.size false) 0 G a {w with drawn:=w.drawn+1} ⟨by simp,fun x hx=>absurd hx (by rw[jX];simp),cJ _,fun i hi ag=>by rw[jX];simp,jD.rel,fun t m hm et=> ?_,jD.size,rfl,fun m _=>Ext.jT hw rfl rfl m _⟩ ?_
 ·have e:dP vars (S m) t=dP vars (S 0) t:=by
   have:=T.slot (t:=t) (i:=0) (k:=m) (by omega) fun x p h1 h2 hp hd=>by
     have:=(et x p hp hd).2 (by omega);rw[jX]at this;cases this
   rw[dA]at this;exact this
  rw[e];exact jD.env t
 ·refine cY List.countP_le_length (by simp)
end Go.Abs
