/- Texts of this claim, joined and written short by a program. -/
import Derived.Test.YtgkcikhegodchaaGreatDoorS05
import Derived.Test.YtgkcikhegodchaaGreatDoorS00
set_option linter.unusedVariables false
set_option linter.unusedSimpArgs false
set_option linter.unusedSectionVars false
namespace Go.Abs
open Go
variable{C:Ctx}{fid:Nat->Nat}{w w':World}{G G':bT}{H H':Heap}
def dJ (vars:List Nat)(st:av)(t:Nat):V:=if vars.contains t then bA st.au t else bA st.aC t
theorem UO (e:Env)(t ej:Nat)(v:V):bA (dw e t v) ej=if ej=t then v else bA e ej:=by
 induction e with
 |nil=>
  by_cases h:ej=t
  ·subst h;simp[dw,bA]
  ·simp[dw,bA,h,kS h]
 |cons p r ih=>
  obtain⟨k,u⟩:=p;simp only[dw];split
  ·rename_i hk
   subst hk;by_cases h:ej=k
   ·subst h;simp[bA]
   ·simp[bA,h,kS h]
  ·rename_i hk
   simp only[bA];split
   ·rename_i h
    rw[if_neg (by omega)]
   ·exact ih
theorem Et (vars:List Nat)(st:av)(d:Nat)(v:V)(t:Nat):dJ vars (st.put (some (d,vars.contains d)) v) t=if t=d then v else dJ vars st t:=by
 unfold dJ;cases hd:vars.contains d
 ·simp only[av.put]
  by_cases h:t=d
  ·subst h;rw[if_neg (by rw[hd];exact Bool.false_ne_true),if_pos rfl];simp[bA]
  ·rw[if_neg h]
   simp only[bA,if_neg (kS h)]
 ·simp only[av.put,UO]
  by_cases h:t=d
  ·subst h;simp only[hd,if_true]
  ·simp only[if_neg h]
theorem NT (a:Act)(d:Nat)(x:Value)(t:Nat)(hd:d<a.tmps.size):(a.put (some d) x).tmps.getD t undef=if t=d then x else a.tmps.getD t undef:=by
 simp only[Act.put];by_cases h:t=d
 ·subst h;simp[Array.getD,hd]
 ·rw[if_neg h]
  simp only[w8,SS (kS h)]
theorem xB (a:Act)(d:Option Tmp)(x:Value):(a.put d x).tmps.size=a.tmps.size:=by cases d<;>simp[Act.put]
theorem put_defers (a:Act)(d:Option Tmp)(x:Value):(a.put d x).defers=a.defers:=by cases d<;>simp[Act.put]
structure um (C:Ctx) (vars:List Nat) (N:Nat) (ops:Array Oper) (o:Oper) (a7:bI):Prop where
 op:a7.op=C.op vars o.pos o.op
 dst:(o.dst=none/\a7.dst=none)\/∃d,d<N/\o.dst=some d/\a7.dst=some (d,vars.contains d)
 guard:Ctx.guard vars ops o.guard=some a7.guard
theorem BX{vars:List Nat}{N:Nat}{ops:Array Oper}{o:Oper}{a7:bI}(h:C.oper vars N ops o=some a7):um C vars N ops o a7:=by
 unfold Ctx.oper at h;split at h
 ·rename_i g a6
  split at h
  ·rename_i hd
   cases h;exact⟨rfl,.inl ⟨hd,rfl⟩,a6⟩
  ·rename_i d hd
   split at h
   ·rename_i aK
    cases h;exact⟨rfl,.inr ⟨d,aK,hd,rfl⟩,a6⟩
   ·cases h
 ·cases h
def my (call:cP)(a7:bI)(S lB:av)(aY:Bool):Prop:=
 (gu S.aC S.au a7.guard=some true/\∃v H' low',b3 call (ai.ag S.aC S.au) S.H S.H.length a7.op=some (v,H',low')/\
   lB=({S with H:=H',low:=min S.low low'}:av).put a7.dst v/\aY=ei S.H H' low')\/
 (gu S.aC S.au a7.guard=some false/\lB=S.put a7.dst (.aU [])/\aY=false)
theorem uo{call:cP}:∀(bF:List bI) (st aV:av) (wr fh:List Bool),cY call bF st wr=some (aV,fh)->
  ∃(S:Nat->av) (aY:Nat->Bool),S 0=st/\S bF.length=aV/\fh=wr.reverse++(List.range bF.length).map aY/\∀i a7,bF[i]? =some a7->my call a7 (S i) (S (i+1)) (aY i)
 |[],st,aV,wr,fh,he=>by
  simp only[cY,aA,bq]at he;obtain⟨rfl,rfl⟩:=he;exact⟨fun _=>st,fun _=>false,rfl,rfl,by simp,fun i a7 h=>by simp at h⟩
 |o::r,st,aV,wr,fh,he=>by
  have key:∀(st1:av) (b:Bool),my call o st st1 b->cY call r st1 (b::wr)=some (aV,fh)->∃(S:Nat->av) (aY:Nat->Bool),S 0=st/\S (o::r).length=aV/\
    fh=wr.reverse++(List.range (o::r).length).map aY/\∀i a7,(o::r)[i]? =some a7->my call a7 (S i) (S (i+1)) (aY i):=fun st1 b hs h=>by
   obtain⟨S,aY,h0,h1,h2,ar⟩:=uo r _ _ _ _ h;refine⟨fun i=>match i with|0=>st|i+1=>S i,fun i=>match i with|0=>b|i+1=>aY i,rfl,by simpa using h1,?_,fun i a7 hi=> ?_⟩
   ·rw[h2,fl,List.range_succ_eq_map,de,kR,List.reverse_cons,kr]
    rfl
   ·cases i with
    |zero=>
     simp only[nz,aA]at hi;subst hi;simpa[h0]using hs
    |succ i=>exact ar i a7 (by simpa using hi)
  simp only[cY]at he;split at he
  ·rename_i hw
   split at he
   ·rename_i v H1 bG h1
    exact key _ _ (.inl ⟨hw,v,H1,bG,h1,rfl,rfl⟩) he
   ·cases he
  ·rename_i hw
   exact key _ _ (.inr ⟨hw,rfl,rfl⟩) he
  ·cases he
mutual
theorem vB:∀a b:V,dL a b=true->a=b
 | .bool a,.bool b,h=>by simp only[dL,beq_iff_eq]at h;rw[h]
 | .int k n,.int bz m,h=>by simp only[dL,cn,decide_eq_true_eq]at h;rw[h.1,h.2]
 | .str s,.str ao,h=>by simp only[dL,decide_eq_true_eq]at h;rw[h]
 | .bX,.bX,_=>rfl
 | .emp,.emp,_=>rfl
 | .jd,.jd,_=>rfl
 | .jt,.jt,_=>rfl
 | .kt,.kt,_=>rfl
 | .jQ,.jQ,_=>rfl
 | .undef,.undef,_=>rfl
 | .list e ds,.list e' ds',h=>by simp only[dL,cn,decide_eq_true_eq]at h;rw[h.1,uq _ _ h.2]
 | .agg a,.agg b,h=>by simp only[dL]at h;rw[uq _ _ h]
 | .aU a,.aU b,h=>by simp only[dL]at h;rw[uq _ _ h]
 | .ptr l o,.ptr fc o',h=>by simp only[dL,cn,decide_eq_true_eq]at h;rw[h.1,h.2]
 | .gW a b c d e,.gW a8 eA c' d' e',h=>by simp only[dL,cn,decide_eq_true_eq]at h;rw[h.1,h.2.1,h.2.2.1,h.2.2.2.1,h.2.2.2.2]
 | .dH vs f,.dH vs' me,h=>by simp only[dL,cn,decide_eq_true_eq]at h;rw[uq _ _ h.1,h.2]
 | .ca a b c d e,.ca a8 eA c' d' e',h=>by simp only[dL,cn,decide_eq_true_eq]at h;rw[h.1,h.2.1,h.2.2.1,h.2.2.2.1,h.2.2.2.2]
 | .map l,.map fc,h=>by simp only[dL,decide_eq_true_eq]at h;rw[h]
 | .yield l,.yield fc,h=>by simp only[dL,decide_eq_true_eq]at h;rw[h]
 | .fn i a b,.fn Bn a8 eA,h=>by simp only[dL,cn,decide_eq_true_eq]at h;rw[h.1,uq _ _ h.2.1,uq _ _ h.2.2]
 | .iface t v,.iface ej v',h=>by simp only[dL,cn,decide_eq_true_eq]at h;rw[h.1,vB _ _ h.2]
theorem uq:∀a b:List V,nC a b=true->a=b
 |[],[],_=>rfl
 |a::r,b::s,h=>by simp only[nC,cn]at h;rw[vB _ _ h.1,uq _ _ h.2]
end
theorem Iz{call:cP}:∀(bF:List bI) (S:Nat->av) (aY:Nat->Bool) (cb:List av),(∀(i:Nat) a7,bF[i]? =some a7->my call a7 (S i) (S (i+1)) (aY i))->fm call bF (S 0)=some cb->
  ∀k,k<=bF.length->cb[k]? =some (S k)
 |[],S,aY,cb,hs,ht,k,hk=>by
  simp only[fm,aA]at ht;subst ht;have:k=0:=by simpa using hk
  subst this;rfl
 |o::r,S,aY,cb,hs,ht,k,hk=>by
  have h0:=hs 0 o rfl;have ahQ:∀nR,fm call r (S 1)=some nR->∀k,k<=r.length->nR[k]? =some (S (k+1)):=fun nR h=>Iz r (fun i=>S (i+1)) (fun i=>aY (i+1)) nR (fun i a7 hi=>hs (i+1) a7 (by simpa using hi)) h;simp only[fm]at ht
  have fin:∀NU,NU=S 1->(fm call r NU).map (S 0:: ·)=some cb->cb[k]? =some (S k):=fun NU e h=>by
   subst e;obtain⟨x,hx,rfl⟩:=cj.1 h;cases k with
   |zero=>rfl
   |succ k=>simpa using ahQ x hx k (by simpa using hk)
  rcases h0 with⟨hw,v,H1,bG,h1,e,-⟩|⟨hw,e,-⟩
  ·rw[hw]at ht
   simp only[h1]at ht;exact fin _ e.symm ht
  ·rw[hw]at ht
   simp only at ht;exact fin _ e.symm ht
theorem my.bQ{call:cP}(hc:mu call){a7:bI}{S lB:av}{aY:Bool}(h:my call a7 S lB aY):gy S lB:=by
 rcases h with⟨-,v,H1,bG,h1,rfl,-⟩|⟨-,rfl,-⟩
 ·have hp:=kD {S with H:=H1,low:=min S.low bG} a7.dst v
  exact⟨by rw[hp.1,hp.2.1];exact(zb hc (aF _) h1).lift _,hp.2.2⟩
 ·have hp:=kD S a7.dst (.aU [])
  exact⟨by rw[hp.1,hp.2.1];exact .refl _ _,hp.2.2⟩
theorem my.still{call:cP}(hc:mu call){a7:bI}{S lB:av}{aY:Bool}(h:my call a7 S lB aY)(ae:aY=false):lB.H=S.H:=by
 rcases h with⟨-,v,H1,bG,h1,rfl,h2⟩|⟨-,rfl,-⟩
 ·have hp:=kD {S with H:=H1,low:=min S.low bG} a7.dst v
  rw[hp.1];exact NK (zb hc (aF _) h1) (h2.symm.trans ae)
 ·exact(kD S a7.dst (.aU [])).1
theorem my.gk{call:cP}{a7:bI}{S lB:av}{aY:Bool}(h:my call a7 S lB aY)(ae:aY=true):gk a7.op=true:=by
 rcases h with⟨-,v,H1,bG,h1,rfl,h2⟩|⟨-,rfl,h2⟩
 ·cases ht:Abs.gk a7.op with
  |true=>rfl
  |false=>
   exfalso;have aZ:∀raw f args,a7.op≠ .call raw f args:=fun raw f args e=>by rw[e]at ht;simp[Abs.gk]at ht
   rw[za aZ]at h1;obtain⟨rfl,rfl,-⟩:=UJ ht h1;rw[ae]at h2;simp[ei]at h2
 ·rw[h2]at ae;cases ae
theorem my.look{call:cP}{vars:List Nat}{N:Nat}{ops:Array Oper}{o:Oper}{a7:bI}{S lB:av}{aY:Bool}(h:my call a7 S lB aY)(gd:um C vars N ops o a7){t:Nat}(ht:o.dst≠some t):
  dJ vars lB t=dJ vars S t:=by
 have key:∀(st:av) (v:V),dJ vars (st.put a7.dst v) t=dJ vars st t:=fun st v=>by
  rcases gd.dst with⟨-,h2⟩|⟨d,-,h1,h2⟩
  ·rw[h2];rfl
  ·rw[h2,Et,if_neg (fun e=>ht (by rw[h1,e]))]
 rcases h with⟨-,v,H1,bG,h1,rfl,-⟩|⟨-,rfl,-⟩
 ·rw[key];rfl
 ·rw[key]
def IA (T:Nat->Prop):ai->Prop
 | .tmp t| .var t=>T t
 | _=>True
theorem ahR{vars:List Nat}{ops:Array Oper}{o:Oper}{gQ:Option (ai × Bool)}(a6:Ctx.guard vars ops o.guard=some gQ){S:av}{a:Act}{b:Bool}
  (hs:∀j want d,o.guard=some (j,want)->(ops[j]?).bind (·.dst)=some d->bd fid G w (dJ vars S d) (a.tmps.getD d undef)) (hw:gu S.aC S.au gQ=some b):
  Region.wanted o (yielded ops a.tmps)=b:=by
 unfold Region.wanted;cases zd:o.guard with
 |none=>
  rw[zd]at a6;simp only[Ctx.guard,aA]at a6;subst a6;simp only[gu,aA]at hw;exact hw
 |some p=>
  obtain⟨j,want⟩:=p;rw[zd]at a6;simp only[Ctx.guard]at a6;split at a6
  ·rename_i d hd
   simp only[aA]at a6;subst a6;have af:=hs j want d zd hd
   have BZ:((if vars.contains d then ai.var d else ai.tmp d).ag S.aC S.au)=dJ vars S d:=by
    unfold dJ;split<;>rfl
   simp only[gu,BZ]at hw
   have hy:yielded ops a.tmps j=match a.tmps.getD d undef with| .bool c=>some c| _=>none:=by
    unfold yielded;rw[hd];simp only[bm,w8];cases a.tmps[d]? with
    |none=>rfl
    |some x=>cases x<;>rfl
   dsimp only;rw[hy];split at hw
   ·rename_i c hc
    rw[hc]at af;rw[af.kY];simp only[aA]at hw;rw[<-hw];cases c<;>cases want<;>rfl
   ·rename_i hc
    rw[hc]at af;obtain⟨vals,hx,hr⟩:=af.M0;rw[hx];simp only[aA]at hw;rw[<-hw];rfl
   ·cases hw
  ·cases a6
theorem ze{vars:List Nat}{N:Nat}{ops:Array Oper}{o:Oper}{a7:bI}{S lB:av}{aY:Bool}{call:cP}{j:Nat}{Hc:Heap}{a:Act}{T:Nat->Prop}{K:Act->World->Prop}
  {Q:Exit->Act->World->Prop} {ro:Option Nat} (bw:eW C fid) (ba:gL C fid call) (ho:ops[j]? =some o) (gd:um C vars N ops o a7) (b7:my call a7 S lB aY)
  (U:aX C fid G Hc w) (hH:gk a7.op=true->Hc=S.H\/(aY=false/\(gu S.aC S.au a7.guard=some true->∀v H1 bG,b3 call (ai.ag S.aC S.au) S.H S.H.length a7.op=some (v,H1,bG)->∃H2 dB,b3 call (ai.ag S.aC S.au) Hc Hc.length a7.op=some (v,H2,dB)/\ei Hc H2 dB=false))) (kB:S.low<=Hc.length)
  (rW:∀t,T t->bd fid G w (dJ vars S t) (a.tmps.getD t undef))
  (hT:∀x∈a7.op.operands,IA T x) (ahS:∀k want d,o.guard=some (k,want)->(ops[k]?).bind (·.dst)=some d->T d) (dk:a.tmps.size=N)
  (mZ:∀x w' G',aX C fid G' (if aY then lB.H else Hc) w'->(∀m,m<=lB.low->Ext G w G' w' m Hc.length)->(∀t,o.dst=some t->bd fid G' w' (dJ vars lB t) x)->K (a.put o.dst x) w'):
  wpOpIn (eH ro) 0 C.P ops Q j K a w:=by
 have UP:∀b,gu S.aC S.au a7.guard=some b->Region.wanted o (yielded ops a.tmps)=b:=fun b hb=>
  ahR (fid:=fid) (G:=G) (w:=w) gd.guard (S:=S) (a:=a) (fun k want d h1 h2=>rW d (ahS k want d h1 h2)) hb
 have k2:∀(st:av) (v:V) (t:Nat),o.dst=some t->dJ vars (st.put a7.dst v) t=v:=fun st v t ht=>by
  rcases gd.dst with⟨h1,-⟩|⟨d,-,h1,h2⟩
  ·rw[h1]at ht;cases ht
  ·rw[h1]at ht;cases ht
   rw[h2,Et,if_pos rfl]
 unfold wpOpIn;rw[ho];rcases b7 with⟨hw,v,H1,bG,h1,rfl,lu⟩|⟨hw,rfl,lu⟩
 ·simp only[UP _ hw,if_true]
  refine⟨fun _ _=>trivial,?_⟩;let hE:ai->V:=fun cE=>open Classical in if cE∈a7.op.operands then ai.ag S.aC S.au cE else .undef
  have NV:∀H low,b3 call (ai.ag S.aC S.au) H low a7.op=b3 call hE H low a7.op:=fun H low=>ahL fun x hx=>by simp[hE,hx]
  have aN:fr C fid vars G w hE a.eval:=fun x cE hx=>by
   by_cases hin:cE∈a7.op.operands
   ·have vC:=hT cE hin
    simp only[hE,hin,if_true];cases x with
    |tmp t=>
     simp only[Ctx.b5,aA]at hx;have NW:T t:=by rw[<-hx]at vC;split at vC<;>exact vC
     have:=rW t NW;have e:cE.ag S.aC S.au=dJ vars S t:=by rw[<-hx];unfold dJ;split<;>rfl
     rw[e];exact this
    |const u=>
     simp only[Ctx.b5]at hx;obtain⟨UQ,hM,rfl⟩:=cj.1 hx;rcases D5 (I:=G.I) (w:=w) u hM with rfl|hp
     ·exact .undef _
     ·exact .p _ _ hp
    |func f=>exact M8 bw hx
    |global g=>simp[Ctx.b5]at hx
   ·simp only[hE,hin,if_false];exact .undef _
  have ahT:o.semAt (eH ro).round a.eval=execOp a.eval o:=Oper.semAt_eq _ _ _ fun c hc=>by
   rw[gd.op,hc]at h1;simp[Ctx.op,Ctx.cO,b3,step]at h1
  rw[ahT];have gf:=kD {S with H:=H1,low:=min S.low bG} a7.dst v;by_cases ht:gk a7.op=true
  ·rcases hH ht with e|⟨ahU,eP⟩
   case inr=>
    obtain⟨H2,dB,h2,NX⟩:=eP hw v H1 bG h1;have ahV:=zb ba.bQ (aF _) h2;have IB:=NK ahV NX
    have zf:Hc.length<=dB:=by
     unfold ei at NX;simp only[yz,decide_eq_false_iff_not]at NX;omega
    rw[IB]at h2;rw[NV,gd.op]at h2;refine NN (R:=k1 C fid G Hc w v Hc dB) (fun x bJ hp=> ?_) (NQ bw ba U aN (aF _) h2);obtain⟨bl,p1,p2,p3⟩:=hp;refine mZ x bJ bl (by rw[ahU];exact p1) (fun m hm=>p2 m ?_) (fun t ht=>by rw[k2 _ _ _ ht];exact p3);rw[gf.2.1]at hm;have:m<=S.low:=cM hm (jO _ _);omega
   subst e;rw[NV,gd.op]at h1;refine NN (R:=k1 C fid G S.H w v H1 bG) (fun x bJ hp=> ?_) (NQ bw ba U aN (aF _) h1);obtain⟨bl,p1,p2,p3⟩:=hp;refine mZ x bJ bl ?_ (fun m hm=>p2 m (by rw[gf.2.1]at hm;exact cM hm (nB _ _))) (fun t ht=>by rw[k2 _ _ _ ht];exact p3);rw[gf.1];cases aY with
   |true=>exact p1
   |false=>
    have:=NK (zb ba.bQ (aF _) h1) lu.symm;rw[this]at p1;exact p1
  ·have ed:gk a7.op=false:=by simpa using ht
   have aZ:∀raw f args,a7.op≠ .call raw f args:=fun raw f args e=>by rw[e]at ed;simp[gk]at ed
   have UR:=h1;rw[za aZ]at UR;obtain⟨rfl,rfl,eP⟩:=UJ ed UR;have ahW:aY=false:=by rw[lu];simp[ei]
   have h2:=eP Hc Hc.length;rw[<-za (call:=call) aZ,NV,gd.op]at h2;refine NN (R:=k1 C fid G Hc w v Hc Hc.length) (fun x bJ hp=> ?_) (NQ bw ba U aN (aF _) h2);obtain⟨bl,p1,p2,p3⟩:=hp;refine mZ x bJ bl (by rw[ahW];exact p1) (fun m hm=>p2 m ?_) (fun t ht=>by rw[k2 _ _ _ ht];exact p3);rw[gf.2.1]at hm;have:m<=S.low:=cM hm (jO _ _);omega
 ·have:=UP _ hw
  dsimp only;rw[if_neg (by rw[this];simp)];refine⟨fun _ _=>trivial,?_⟩;refine mZ undef w G ?_ (fun m _=>.refl _ _ _ _) (fun t ht=> ?_)
  ·rw[lu];exact U
  ·rw[k2 _ _ _ ht];exact .aU [] [] .nil
end Go.Abs
namespace Go.Abs
open Go
variable{C:Ctx}{fid:Nat->Nat}{w w':World}{G G':bT}{H H':Heap}
structure dC (C:Ctx) (fid:Nat->Nat) (vars:List Nat) (N:Nat) (G:bT) (st:av) (a:Act) (w:World):Prop where
 rel:aX C fid G st.H w
 env:∀t,bd fid G w (dJ vars st t) (a.tmps.getD t undef)
 size:a.tmps.size=N
 low:st.low<=st.H.length
structure k3 (C:Ctx) (vars:List Nat) (N:Nat) (ops:Array Oper) (bF:List bI) (call:cP) (S:Nat->av) (aY:Nat->Bool):Prop where
 len:bF.length=ops.size
 ok:∀(i:Nat) o a7,ops[i]? =some o->bF[i]? =some a7->um C vars N ops o a7
 step:∀(i:Nat) a7,bF[i]? =some a7->my call a7 (S i) (S (i+1)) (aY i)
section
variable{vars:List Nat}{N:Nat}{ops:Array Oper}{bF:List bI}{call:cP}{S:Nat->av}{aY:Nat->Bool}
theorem k3.get (h:k3 C vars N ops bF call S aY){i:Nat}(hi:i<ops.size):∃o a7,ops[i]? =some o/\bF[i]? =some a7/\um C vars N ops o a7/\my call a7 (S i) (S (i+1)) (aY i):=by
 have h1:ops[i]? =some ops[i]:=by simp[hi]
 have h2:bF[i]? =some (bF[i]'(by rw[h.len];exact hi)):=by simp
 exact⟨_,_,h1,h2,h.ok i _ _ h1 h2,h.step i _ h2⟩
theorem k3.of (hm:dF (C.oper vars N ops) ops.toList=some bF)(hs:∀(i:Nat) a7,bF[i]? =some a7->my call a7 (S i) (S (i+1)) (aY i)):k3 C vars N ops bF call S aY:=
 ⟨by rw[vr _ hm];simp,fun i o a7 h1 h2=>BX (vt _ hm (by rw[gr];exact h1) h2),hs⟩
theorem k3.bQ (h:k3 C vars N ops bF call S aY)(hc:mu call){i:Nat}:∀{k:Nat},i+k<=ops.size->gy (S i) (S (i+k))
 |0,_=>.refl _
 |k+1,hk=>by
  obtain⟨o,a7,-,-,-,hs⟩:=h.get (i:=i+k) (by omega);exact(h.bQ hc (k:=k) (by omega)).trans (hs.bQ hc)
theorem k3.nS (h:k3 C vars N ops bF call S aY)(hc:mu call){i j:Nat}(cK:i<=j)(hj:j<=ops.size):gy (S i) (S j):=by
 obtain⟨k,rfl⟩:=oq cK;exact h.bQ hc hj
theorem k3.heap (h:k3 C vars N ops bF call S aY)(hc:mu call){i:Nat}:∀{k:Nat},i+k<=ops.size->(∀x,i<=x->x<i+k->aY x=false)->(S (i+k)).H=(S i).H
 |0,_,_=>rfl
 |k+1,hk,ae=>by
  obtain⟨o,a7,-,-,-,hs⟩:=h.get (i:=i+k) (by omega);have:=hs.still hc (ae (i+k) (by omega) (by omega));exact this.trans (h.heap hc (k:=k) (by omega) fun x h1 h2=>ae x h1 (by omega))
theorem k3.slot (h:k3 C vars N ops bF call S aY){t:Nat}{i:Nat}:∀{k:Nat},i+k<=ops.size->(∀(x:Nat) o,i<=x->x<i+k->ops[x]? =some o->o.dst≠some t)->dJ vars (S (i+k)) t=dJ vars (S i) t
 |0,_,_=>rfl
 |k+1,hk,ae=>by
  obtain⟨o,a7,ho,-,bh,hs⟩:=h.get (i:=i+k) (by omega);have:=hs.look (t:=t) bh (ae (i+k) o (by omega) (by omega) ho);exact this.trans (h.slot (k:=k) (by omega) fun x o h1 h2=>ae x o h1 (by omega))
theorem ahX (vars:List Nat)(st:av)(t:Nat):dJ vars {st with aC:=[]} t=dJ vars st t\/dJ vars {st with aC:=[]} t=.undef:=by
 unfold dJ;split
 ·exact .inl rfl
 ·exact .inr rfl
theorem dC.clear{st:av}{a:Act}(h:dC C fid vars N G st a w):dC C fid vars N G {st with aC:=[]} a w:=
 ⟨h.rel,fun t=>by rcases ahX vars st t with e|e<;>rw[e];exact h.env t;exact .undef _,h.size,h.low⟩
theorem dC.jf{st:av}{a:Act}(h:dC C fid vars N G st a w)(e:w'.heap=w.heap):dC C fid vars N G st a w':=
 ⟨h.rel.jf e,fun t=>(h.env t).mono (.refl _) fun b hb=>⟨hb,by rw[e]⟩,h.size,h.low⟩
theorem zg{o:Oper}{a:Act}{x:Value}{t:Nat}{bl:bT}{bJ:World}(hd:∀d,o.dst=some d->d<a.tmps.size){v:V}(h1:o.dst=some t->bd fid bl bJ v x)
  (h2:o.dst≠some t->bd fid bl bJ v (a.tmps.getD t undef)):bd fid bl bJ v ((a.put o.dst x).tmps.getD t undef):=by
 cases B0:o.dst with
 |none=>simp only[Act.put];exact h2 (by rw[B0];simp)
 |some d=>
  rw[NT _ _ _ _ (hd d B0)];by_cases e:t=d
  ·subst e;rw[if_pos rfl];exact h1 B0
  ·rw[if_neg e];exact h2 (by rw[B0];simpa using kS e)
theorem um.lt{o:Oper}{a7:bI}(h:um C vars N ops o a7):∀d,o.dst=some d->d<N:=fun d hd=>by
 rcases h.dst with⟨h1,-⟩|⟨d',h0,h1,-⟩
 ·rw[h1]at hd;cases hd
 ·rw[h1]at hd;cases hd;exact h0
theorem ahY{id:Nat}{st aV:av}{wr:List Bool}{a:Act}{Q:Exit->Act->World->Prop}{ro:Option Nat}(bw:eW C fid)(ba:gL C fid call)(hm:dF (C.oper vars N ops) ops.toList=some bF)
  (he:cY call bF {st with aC:=[]} []=some (aV,wr)) (U:dC C fid vars N G st a w)
  (dD:∀G' a8 w',dC C fid vars N G' aV a8 w'->(∀m,m<=aV.low->Ext G w G' w' m st.H.length)->a8.defers=a.defers->Q .normal a8 w'):
  (Code.region id ops false).wpIn (eH ro) 0 C.P Q a w:=by
 obtain⟨S,aY,h0,hn,-,hs⟩:=uo _ _ _ _ _ he;have T:k3 C vars N ops bF call S aY:=.of hm hs
 have key:∀k j,j+k=ops.size->∀ay al aD,dC C fid vars N ay (S j) al aD->(∀m,m<=(S j).low->Ext G w ay aD m st.H.length)->al.defers=a.defers->st.H.length<=(S j).H.length->
   wpOpsIn (eH ro) 0 C.P ops Q (List.range' j k) al aD:=by
  intro k
  induction k with
  |zero=>
   intro j hj ay al aD bB b4 eI _;have e:j=bF.length:=by rw[T.len];omega
   subst e;rw[hn]at bB b4;exact dD ay al aD bB b4 eI
  |succ k ih=>
   intro j hj ay al aD bB b4 eI gM;obtain⟨o,a7,ho,gd,bh,b7⟩:=T.get (i:=j) (by omega);rw[qw,wpOpsIn_cons];have eN:=b7.bQ ba.bQ;refine ze (T:=fun _=>True) bw ba ho bh b7 bB.rel (fun _=>.inl rfl) bB.low (fun t _=>bB.env t) (fun x _=>by cases x<;>trivial) (fun _ _ _ _ _=>trivial) bB.size ?_;intro x bJ bl p1 p2 p3
   have zh:aX C fid bl (S (j+1)).H bJ:=by
    cases ae:aY j with
    |true=>rw[ae]at p1;exact p1
    |false=>rw[ae]at p1;rw[b7.still ba.bQ ae];exact p1
   have oF:=p2 0 (cD _)
   refine ih (j+1) (by omega) bl _ bJ ⟨zh,fun t=> ?_,by rw[xB];exact bB.size,eN.bound bB.low⟩ (fun m hm=>(b4 m (cM hm eN.1.low)).trans ((p2 m hm).le (aF _) gM)) (by rw[put_defers];exact eI)
    (cM gM eN.1.len)
   refine zg (fun d hd=>by rw[bB.size];exact bh.lt d hd) (fun h=>p3 t h) (fun h=> ?_);rw[b7.look bh h];exact(bB.env t).ext bB.rel oF
 refine wpIn_region ?_;rw[DD];have jD:=U.clear;rw[<-h0]at jD;exact key ops.size 0 (by omega) G a w jD (fun m _=>.refl _ _ _ _) rfl (by rw[h0];exact aF _)
theorem US:∀(l:List Oper) (A:Array Nat),let B:=l.foldl (fun acc o=>acc.push (CheckFast.one (fun i=>acc.getD i 0) o)) A
  B.size=A.size+l.length/\(∀i,i<A.size->B.getD i 0=A.getD i 0)/\∀k o,l[k]? =some o->B.getD (A.size+k) 0=CheckFast.one (fun i=>if i<A.size+k then B.getD i 0 else 0) o
 |[],A=>⟨by simp,fun _ _=>rfl,fun k o h=>by simp at h⟩
 |o::l,A=>by
  intro B;obtain⟨h1,h2,ar⟩:=US l (A.push (CheckFast.one (fun i=>A.getD i 0) o));have cQ:B=l.foldl (fun acc o=>acc.push (CheckFast.one (fun i=>acc.getD i 0) o)) (A.push (CheckFast.one (fun i=>A.getD i 0) o)):=rfl;rw[<-cQ]at h1 h2 ar;simp only[Array.size_push]at h1 h2 ar
  have hA:∀i,i<A.size->B.getD i 0=A.getD i 0:=fun i hi=>by
   rw[h2 i (by omega)];simp only[w8,Array.getElem?_push,if_neg (qA hi)]
  refine⟨by simp only[fl];omega,hA,fun k p hk=> ?_⟩;cases k with
  |zero=>
   simp only[nz,aA]at hk;subst hk;rw[yH,h2 A.size (by omega)];simp only[w8,Array.getElem?_push,if_pos,tW];congr 1;funext i;by_cases hi:i<A.size
   ·rw[if_pos hi]
    have:=hA i hi;simp only[w8]at this;exact this.symm
   ·rw[if_neg hi];simp[Be (Nat.le_of_not_lt hi)]
  |succ k=>
   have:=ar k p (by simpa using hk);rw[HI]at this;rw[<-qy];exact this
theorem ahZ{look:Nat->Nat}{o:Oper}{i:Nat}(h:(CheckFast.one look o).testBit i=true):∃e∈o.after,Region.binds .any e=true/\(i=e.on\/(look e.on).testBit i=true):=by
 unfold CheckFast.one at h;rw[<-S1]at h
 have key:∀(l:List Edge) (s:Nat),(l.foldl (fun s e=>if Region.binds .any e then s ||| 2^e.on ||| look e.on else s) s).testBit i=true->s.testBit i=true\/∃e∈l,Region.binds .any e=true/\(i=e.on\/(look e.on).testBit i=true):=by
  intro l
  induction l with
  |nil=>exact fun s h=>.inl h
  |cons e l ih=>
   intro s h;rw[ot]at h;rcases ih _ h with h1|⟨e',p8,h2⟩
   ·split at h1
    ·rename_i hb
     rw[Nat.testBit_or,Nat.testBit_or,Nat.testBit_two_pow]at h1;simp only[jN,decide_eq_true_eq]at h1;rcases h1 with(h1|h1)|h1
     ·exact .inl h1
     ·exact .inr ⟨e,by simp,hb,.inl h1.symm⟩
     ·exact .inr ⟨e,by simp,hb,.inr h1⟩
    ·exact .inl h1
   ·exact .inr ⟨e',by simp[p8],h2⟩
 rcases key _ _ h with h1|⟨e,he,h2⟩
 ·simp at h1
 ·exact⟨e,Array.mem_toList_iff.1 he,h2⟩
theorem NY{ops:Array Oper}{j i:Nat}{o:Oper}(ho:ops[j]? =some o)(h:((CheckFast.beforeF ops).getD j 0).testBit i=true):
  ∃e∈o.after,Region.binds .any e=true/\(i=e.on\/((CheckFast.beforeF ops).getD e.on 0).testBit i=true):=by
 rw[CheckFast.beforeF_eq]at h⊢;have hb:=US ops.toList #[]
 have e:Region.before ops=ops.toList.foldl (fun acc o=>acc.push (CheckFast.one (fun i=>acc.getD i 0) o)) #[]:=by
  unfold Region.before;rw[<-S1];rfl
 rw[<-e]at hb;have ar:=hb.2.2 j o (by rw[gr];exact ho);rw[u2,mQ,dP]at ar;rw[ar]at h;obtain⟨x,hx,UT,aR⟩:=ahZ h;refine⟨x,hx,UT,aR.imp id fun h5=> ?_⟩;split at h5
 ·exact h5
 ·simp at h5
theorem NZ (h:Ctx.yT ops=true){i j:Nat}{o p:Oper}(ho:ops[j]? =some o)(hp:ops[i]? =some p){d:Nat}(hd:p.dst=some d)(cK:i≠j)(hn:o.dst=some d\/d∈Ctx.fO ops o):
  ((CheckFast.beforeF ops).getD (max i j) 0).testBit (min i j)=true:=by
 unfold Ctx.yT at h;simp only[eU]at h;have h1:=h (o,j) (js.2 (by rw[gr];exact ho)) (p,i) (js.2 (by rw[gr];exact hp));simp only[hd]at h1;simp only[jN,beq_iff_eq,mb,yz,beq_eq_false_iff_ne,List.contains_eq_mem,decide_eq_false_iff_not]at h1;rcases h1 with(h1|⟨h1,h2⟩)|h1
 ·exact absurd h1 cK
 ·rcases hn with hn|hn
  ·exact absurd hn h1
  ·exact absurd hn h2
 ·exact h1
theorem N0 (h:Ctx.yS ops=true){j:Nat}{o:Oper}(ho:ops[j]? =some o){e:Edge}(he:e∈o.after)(hb:Region.binds .any e=true):e.on<j:=by
 unfold Ctx.yS at h;simp only[eU]at h;have h1:=h (o,j) (js.2 (by rw[gr];exact ho));simp only[Array.all_eq_true_iff_forall_mem]at h1;have h2:=h1 e he;unfold Region.binds at hb;cases a6:e.ground<;>simp_all
theorem N1{l:List Nat}{p q:Nat->Bool}(zi:∀x∈l,p x=true->q x=true){a:Nat}(ha:a∈l)(bg:q a=true)(hp:p a=false):l.countP p<l.countP q:=by
 induction l with
 |nil=>cases ha
 |cons x l ih=>
  have hle:l.countP p<=l.countP q:=List.countP_mono_left fun y hy=>zi y (by simp[hy]);rw[List.countP_cons,List.countP_cons];rcases dp.1 ha with rfl|gJ
  ·rw[hp,bg];simp;omega
  ·have:=ih (fun y hy=>zi y (by simp[hy])) gJ
   have h2:=zi x (by simp);cases hx:p x
   ·simp only[fE,if_false];split<;>omega
   ·rw[h2 hx];simp;omega
end
end Go.Abs
namespace Go.Abs
open Go
variable{C:Ctx}{fid:Nat->Nat}{w w':World}{G G':bT}{H H':Heap}
variable{vars:List Nat}{N:Nat}{ops:Array Oper}{bF:List bI}{call:cP}{S:Nat->av}{aY:Nat->Bool}
structure Inv (C:Ctx) (fid:Nat->Nat) (vars:List Nat) (N:Nat) (ops:Array Oper) (S:Nat->av) (aY:Nat->Bool) (G:bT) (w:World) (a:Act) (pn:Nat)
  (L:Array Bool) (k:Nat) (ay:bT) (al:Act) (aD:World):Prop where
 size:L.size=ops.size
 closed:∀x,L.getD x false=true->∀i,((CheckFast.beforeF ops).getD x 0).testBit i=true->L.getD i false=true
 vD:k<=ops.size
 rX:∀i,i<ops.size->aY i=true->(L.getD i false=true↔i<k)
 rel:aX C fid ay (S k).H aD
 env:∀t m,m<=ops.size->(∀(i:Nat) o,ops[i]? =some o->o.dst=some t->(L.getD i false=true↔i<m))->bd fid ay aD (dJ vars (S m) t) (al.tmps.getD t undef)
 qa:al.tmps.size=N
 defers:al.defers=a.defers
 ext:∀m,m<=(S ops.size).low->Ext G w ay aD m pn
theorem vE{L:Array Bool}{i j:Nat}(hj:j<L.size):(L.setIfInBounds j true).getD i false=true↔i=j\/L.getD i false=true:=by
 by_cases h:i=j
 ·subst h;simp[Array.getD,hj]
 ·rw[getD_set_ne false (kS h)];simp[h]
theorem ah0{dT:List Nat}{wr:List Bool}(h:xg dT bF wr=true){i j:Nat}{a7:bI}(hi:wr[i]? =some true)(hj:bF[j]? =some a7)(ht:gk a7.op=true)(cK:i≠j):
  if j<i then(dT.getD i 0).testBit j=true else(dT.getD j 0).testBit i=true:=by
 unfold xg at h;rw[if_pos (rD.2 ⟨true,gV hi,rfl⟩)]at h;simp only[eU]at h;have h1:=h (true,i) (js.2 hi);simp only[iN,tZ,eU]at h1;have h2:=h1 (a7,j) (js.2 hj);simp only[ht,iN,tZ,jN,beq_iff_eq,cK,false_or]at h2;split at h2
 ·rename_i aK;rw[if_pos aK];exact h2
 ·rename_i aK;rw[if_neg aK];exact h2
theorem IC{dT:List Nat}{i j:Nat}:pU dT i j=true↔(if j<i then(dT.getD i 0).testBit j=true else(dT.getD j 0).testBit i=true):=by
 unfold pU;split<;>rfl
theorem ah1{dT:List Nat}{wr:List Bool}(h:HY dT wr=true){i j:Nat}(hi:wr[i]? =some true)(hj:wr[j]? =some true)(cK:i≠j):pU dT i j=true:=by
 unfold HY at h;simp only[eU]at h;have h1:=h (true,i) (js.2 hi);simp only[iN,tZ,eU]at h1;have h2:=h1 (true,j) (js.2 hj);simpa[cK]using h2
theorem ah2{dT:List Nat}{ops:List bI}{wr:List Bool}{cb:List av}{o:bI}{j k:Nat}{H3 Bo:av}(ho:ops[j]? =some o)(ht:gk o.op=true)(hw:wr.getD j false=false)(hj:cb[j]? =some H3)(hk:cb[k]? =some Bo)
  (vF:k≠j) (Eu:k=0\/wr.getD (k-1) false=true) (oG:∀i,wr[i]? =some true->i≠j->pU dT i j=true->(i<j↔i<k)):(o,H3,Bo.H)∈HZ dT ops wr cb:=by
 unfold HZ;simp only[DI];refine⟨(o,j),js.2 ho,?_⟩;simp only[ht,iN,hw,Bool.or_self,fE,if_false,DI];refine⟨(Bo,k),js.2 hk,?_⟩;simp only;rw[if_neg]
 ·rw[hj];simp
 ·intro h
  simp only[jN,beq_iff_eq,vF,false_or,cn,bne_iff_ne,ne_eq,mb]at h;rcases h with h|h
  ·rcases Eu with h0|h0
   ·exact h.1 h0
   ·rw[h0]at h;cases h.2
  rw[rD]at h;obtain⟨⟨w,i⟩,hm,h⟩:=h;simp only[cn,bne_iff_ne,ne_eq]at h;obtain⟨h1,h2,ar,aR⟩:=h;have hi:=js.1 hm;simp only at hi;rw[h1]at hi;have:=oG i hi h2 ar;apply aR;rw[decide_eq_decide];exact this
theorem UU (aY:Nat->Bool):∀(k:Nat),∃bz,bz<=k/\(bz=0\/aY (bz-1)=true)/\∀x,bz<=x->x<k->aY x=false
 |0=>⟨0,aF _,.inl rfl,fun x h1 h2=>by omega⟩
 |k+1=>by
  cases ae:aY k with
  |true=>exact⟨k+1,aF _,.inr ae,fun x h1 h2=>by omega⟩
  |false=>
   obtain⟨bz,h1,h2,ar⟩:=UU aY k;refine⟨bz,by omega,h2,fun x q1 q2=> ?_⟩;by_cases hx:x=k
   ·rw[hx];exact ae
   ·exact ar x q1 (by omega)
theorem ah3{id:Nat}{st aV:av}{wr:List Bool}{a:Act}{Q:Exit->Act->World->Prop}{ro:Option Nat}(cw:C.P.follows .mixedOrders=true)(bw:eW C fid)(ba:gL C fid call)
  (hm:dF (C.oper vars N ops) ops.toList=some bF) (jg:Ctx.yS ops=true) (mo:Ctx.yT ops=true) (rW:(ops.toList.zip bF).all (fun(o,a)=>Ctx.xm ops o a)=true)
  (he:cY call bF {st with aC:=[]} []=some (aV,wr)) (hin:(xg (CheckFast.beforeF ops).toList bF wr||rI call (CheckFast.beforeF ops).toList bF wr {st with aC:=[]})=true) (U:dC C fid vars N G st a w)
  (dD:∀G' a8 w',dC C fid vars N G' aV a8 w'->(∀m,m<=aV.low->Ext G w G' w' m st.H.length)->a8.defers=a.defers->Q .normal a8 w'):
  (Code.region id ops true).wpIn (eH ro) 0 C.P Q a w:=by
 obtain⟨S,aY,h0,hn,k4,hs⟩:=uo _ _ _ _ _ he;have T:k3 C vars N ops bF call S aY:=.of hm hs;rw[T.len]at hn k4;simp only[List.reverse_nil,iM]at k4
 have gX:∀i,(CheckFast.beforeF ops).toList.getD i 0=(CheckFast.beforeF ops).getD i 0:=fun i=>by
  rw[iL,gr,w8]
 have zj:∀i j,(if j<i then((CheckFast.beforeF ops).toList.getD i 0).testBit j=true else((CheckFast.beforeF ops).toList.getD j 0).testBit i=true)->((CheckFast.beforeF ops).getD (max i j) 0).testBit (min i j)=true:=fun i j this=>by
  rw[gX,gX]at this;split at this
  ·rw[HR (by omega),tX (by omega)];exact this
  ·rw[HP (by omega),qx (by omega)];exact this
 have azz:∀i j,((CheckFast.beforeF ops).getD (max i j) 0).testBit (min i j)=true\/pU (CheckFast.beforeF ops).toList i j=false:=fun i j=>by
  cases ho:pU (CheckFast.beforeF ops).toList i j with
  |false=>exact .inr rfl
  |true=>exact .inl (zj i j (IC.1 ho))
 have zk:(∀i,i<ops.size->aY i=true->∀(j:Nat) a7,bF[j]? =some a7->gk a7.op=true->i≠j->((CheckFast.beforeF ops).getD (max i j) 0).testBit (min i j)=true)\/
   ((∀i,i<ops.size->aY i=true->∀j,j<ops.size->aY j=true->i≠j->((CheckFast.beforeF ops).getD (max i j) 0).testBit (min i j)=true)/\
    ∀(j:Nat) a7 k,bF[j]? =some a7->j<ops.size->k<=ops.size->gk a7.op=true->aY j=false->(∀i,i<ops.size->aY i=true->i≠j->((CheckFast.beforeF ops).getD (max i j) 0).testBit (min i j)=true->(i<j↔i<k))->(S k).H=(S j).H\/jx call (a7,S j,(S k).H)=true):=by
  rw[jN]at hin;rcases hin with hin|hin
  ·left
   intro i hi ae j a7 hj ht cK;exact zj i j (ah0 hin (i:=i) (by rw[k4];simp[hi,ae]) hj ht cK)
  ·right
   unfold rI at hin;split at hin
   ·rename_i cb po
    simp only[cn]at hin;rw[<-h0]at po;have rM:=Iz bF S aY cb hs po;rw[T.len]at rM;refine⟨fun i hi ae j hj ia cK=>zj i j (IC.1 (ah1 hin.1 (i:=i) (j:=j) (by rw[k4];simp[hi,ae]) (by rw[k4];simp[hj,ia]) cK)),fun j a7 k hj iR hk ht ia oG=> ?_⟩;obtain⟨bz,hk',rY,N2⟩:=UU aY k
    have UW:(S k).H=(S bz).H:=by
     obtain⟨d,rfl⟩:=oq hk';exact T.heap ba.bQ (by omega) fun x h1 h2=>N2 x h1 h2
    by_cases vF:bz=j
    ·left;rw[UW,vF]
    right;rw[UW]
    have Eu:bz=0\/wr.getD (bz-1) false=true:=by
     rcases S2 bz with q|q
     ·exact .inl q
     ·rcases rY with q'|q'
      ·omega
      ·right
       rw[k4,iL,h8,List.getElem?_range (by omega:bz-1<ops.size)];exact q'
    have eQ:=ah2 (dT:=(CheckFast.beforeF ops).toList) (ops:=bF) (wr:=wr) (cb:=cb) (o:=a7) (j:=j) (k:=bz) hj ht (by rw[k4];simp[iR,ia]) (rM j (by omega)) (rM bz (by omega)) vF Eu (fun i hi cK ho=>by
     have UX:i<ops.size:=by
      rcases fV i ops.size with h|h
      ·exact h
      ·rw[k4,nA (by simpa using h)]at hi;cases hi
     have s3:aY i=true:=by rw[k4]at hi;simpa[UX]using hi
     refine(oG i UX s3 cK (zj i j (IC.1 ho))).trans ⟨fun h=> ?_,fun h=>by omega⟩;rcases fV i bz with q|q
     ·exact q
     ·rw[N2 i q h]at s3;cases s3)
    exact eU.1 hin.2 _ eQ
   ·cases hin
 have pq:st.H=(S 0).H/\st.low=(S 0).low:=by rw[h0];exact⟨rfl,rfl⟩
 have Ev:st.low<=st.H.length:=U.low
 have oH:∀L k ay al aD,Inv C fid vars N ops S aY G w a st.H.length L k ay al aD->(∀i,i<ops.size->L.getD i false=true)->Q .normal al aD:=by
  intro L k ay al aD I eP
  have hk:(S ops.size).H=(S k).H:=by
   obtain⟨d,hd⟩:=oq I.vD;rw[hd];refine T.heap ba.bQ (by omega) fun x h1 h2=> ?_;cases ae:aY x with
   |false=>rfl
   |true=>have:=(I.rX x (by omega) ae).1 (eP x (by omega));omega
  refine dD ay al aD ?_ (fun m hm=>I.ext m (by rw[hn];exact hm)) I.defers;rw[<-hn];refine⟨by rw[hk];exact I.rel,fun t=>I.env t ops.size (aF _) fun i o ho _=> ?_,I.qa,?_⟩
  ·have:i<ops.size:=(tS.1 ho).1
   simp[this,eP i this]
  ·exact(T.nS ba.bQ (cD _) (aF _)).bound (by rw[<-pq.1,<-pq.2];exact Ev)
 have Ew:∀L k ay al aD,Inv C fid vars N ops S aY G w a st.H.length L k ay al aD->Region.ready .any ops L=[]->∀i,i<ops.size->L.getD i false=true:=by
  intro L k ay al aD I hr i
  induction i using Nat.strongRecOn with
  | _ i ih=>
    intro hi;cases ee:L.getD i false with
    |true=>rfl
    |false=>
     exfalso
     have:i∈Region.ready .any ops L:=mem_ready.2 ⟨by
      have:i<L.size:=by rw[I.size];exact hi
      simp only[Array.getD,this,dif_pos]at ee⊢; exact ee,ops[i],by simp[hi],fun e he hb=>by
       have aK:=N0 jg (j:=i) (o:=ops[i]) (by simp[hi]) he hb;exact ih e.on aK (by omega)⟩
     rw[hr]at this;cases this
 have kA:∀(fuel:Nat) (L:Array Bool) (k:Nat) (ay:bT) (al:Act) (aD:World) (j:Nat),Inv C fid vars N ops S aY G w a st.H.length L k ay al aD->j∈Region.ready .any ops L->
   (∀hS bz G' a8 w',Inv C fid vars N ops S aY G w a st.H.length hS bz G' a8 w'->hS=L.setIfInBounds j true->wpAnyIn (eH ro) 0 C.P .any ops Q fuel hS a8 w')->
   wpOpIn (eH ro) 0 C.P ops Q j (wpAnyIn (eH ro) 0 C.P .any ops Q fuel (L.setIfInBounds j true)) al aD:=by
  intro fuel L k ay al aD j I hj xC;obtain⟨xD,o,ho,Ex⟩:=mem_ready.1 hj;have iR:j<ops.size:=(tS.1 ho).1;have lR:j<L.size:=by rw[I.size];exact iR
  have o6:L.getD j false=false:=by simp only[Array.getD,lR,dif_pos]at xD⊢; exact xD
  obtain⟨o',a7,jU,gd,bh,b7⟩:=T.get iR;rw[ho]at jU;cases jU
  have xE:∀i,((CheckFast.beforeF ops).getD j 0).testBit i=true->L.getD i false=true:=fun i hb=>by
   obtain⟨e,mm,nM,qb⟩:=NY ho hb;have hl:=Ex e mm nM;rcases qb with rfl|qb
   ·exact hl
   ·exact I.closed e.on hl i qb
  have oG:∀i,i≠j->((CheckFast.beforeF ops).getD (max i j) 0).testBit (min i j)=true->(L.getD i false=true↔i<j):=by
   intro i cK hb;rcases fV i j with aK|hge
   ·rw[HP (by omega),qx (by omega)]at hb
    exact⟨fun _=>aK,fun _=>xE i hb⟩
   ·rw[HR hge,tX hge]at hb
    refine⟨fun ee=> ?_,fun h=>by omega⟩;have:=I.closed i ee j hb;rw[o6]at this;cases this
  have UY:aY j=true->∀i,i<ops.size->aY i=true->i≠j->(L.getD i false=true↔i<j):=fun ia i hi ae cK=>oG i cK (by
   rcases zk with hc|⟨hc,-⟩
   ·exact hc i hi ae j a7 gd (b7.gk ia) cK
   ·exact hc i hi ae j iR ia cK)
  have xF:∀t,(o.dst=some t\/t∈Ctx.fO ops o)->∀(i:Nat) p,ops[i]? =some p->p.dst=some t->i≠j->(L.getD i false=true↔i<j):=fun t ht i p hp hd cK=>
   oG i cK (NZ mo ho hp hd cK ht)
  have rZ:(∀i,i<ops.size->aY i=true->i≠j->(L.getD i false=true↔i<j))->(S k).H=(S j).H:=by
   intro Ey;have hk:=I.vD;rcases Nat.le_total k j with vF|hjk
   ·obtain⟨d,rfl⟩:=oq vF
    refine(T.heap ba.bQ (by omega) fun x h1 h2=> ?_).symm;cases ae:aY x with
    |false=>rfl
    |true=>
     have al:=(Ey x (by omega) ae (by omega)).2 (by omega);have a2:=(I.rX x (by omega) ae).1 al;omega
   ·obtain⟨d,rfl⟩:=oq hjk
    refine T.heap ba.bQ (by omega) fun x h1 h2=> ?_;cases ae:aY x with
    |false=>rfl
    |true=>
     have a2:=(I.rX x (by omega) ae).2 (by omega);by_cases hx:x=j
     ·subst hx;rw[o6]at a2;cases a2
     ·have:=(Ey x (by omega) ae hx).1 a2;omega
  have N3:gk a7.op=true->(S k).H=(S j).H\/(aY j=false/\(gu (S j).aC (S j).au a7.guard=some true->∀v H1 bG,b3 call (ai.ag (S j).aC (S j).au) (S j).H (S j).H.length a7.op=some (v,H1,bG)->∃H2 dB,b3 call (ai.ag (S j).aC (S j).au) (S k).H (S k).H.length a7.op=some (v,H2,dB)/\ei (S k).H H2 dB=false)):=by
   intro ht;rcases zk with hc|⟨-,hc⟩
   ·exact .inl (rZ fun i hi ae cK=>oG i cK (hc i hi ae j a7 gd ht cK))
   ·cases ia:aY j with
    |true=>exact .inl (rZ (UY ia))
    |false=>
     rcases hc j a7 k gd iR I.vD ht ia (fun i hi ae cK hb=>by
      rw[<-oG i cK hb];exact I.rX i hi ae)with nT|nT
     ·exact .inl nT
     refine .inr ⟨rfl,fun hw v H1 bG h1=> ?_⟩;unfold jx at nT;simp only[hw,h1]at nT;split at nT
     ·rename_i v' H2 dB h2
      simp only[cn,mb]at nT;have:=vB _ _ nT.1;subst this;exact⟨H2,dB,h2,nT.2⟩
     ·cases nT
  have eN:=b7.bQ ba.bQ
  have N4:(S j).low<=(S k).H.length:=by
   have ab:=(T.nS ba.bQ (i:=0) (j:=j) (cD _) (by omega)).1.low;have aj:=(T.nS ba.bQ (i:=0) (j:=k) (cD _) I.vD).1.len;rw[<-pq.2]at ab;rw[<-pq.1]at aj;omega
  have B1:∀x∈a7.op.operands,IA (fun t=>t∈Ctx.fO ops o) x:=by
   intro x hx;have h1:(o,a7)∈ops.toList.zip bF:=pL.2 ⟨j,by rw[Dz];exact⟨by rw[gr];exact ho,gd⟩⟩;have h2:=eU.1 rW _ h1;simp only[Ctx.xm,eU]at h2;have ar:=h2 x hx;cases x with
   |tmp t=>exact sE.1 ar
   |var t=>exact sE.1 ar
   |const v=>trivial
   |func i=>trivial
  refine ze (T:=fun t=>t∈Ctx.fO ops o) bw ba ho bh b7 I.rel N3 N4 (fun t ht=> ?_) B1 (fun q want d a6 hd=> ?_) I.qa ?_
  ·refine I.env t j (by omega) fun i p hp hd=> ?_
   by_cases cK:i=j
   ·subst cK;simp[o6]
   ·exact xF t (.inr ht) i p hp hd cK
  ·simp only[Ctx.fO,jc]
   right;rw[a6];simp only[];rw[hd];simp
  ·intro x bJ bl p1 p2 p3
   have oF:=p2 0 (cD _);have k5:∀i,(L.setIfInBounds j true).getD i false=true↔i=j\/L.getD i false=true:=fun i=>vE lR;refine xC _ (if aY j then j+1 else k) bl _ bJ ⟨by simp[I.size],fun x hx i hb=> ?_,?_,fun i hi ae=> ?_,?_,fun t m hm eh=> ?_,by rw[xB];exact I.qa,by rw[put_defers];exact I.defers,fun m hm=> ?_⟩ rfl
   ·rw[k5]at hx⊢
    rcases hx with rfl|hx
    ·exact .inr (xE i hb)
    ·exact .inr (I.closed x hx i hb)
   ·split
    ·omega
    ·exact I.vD
   ·rw[k5]
    by_cases cK:i=j
    ·subst cK;simp[ae]
    ·cases ia:aY j with
     |true=>
      have:=UY ia i hi ae cK;simp only[cK,false_or,if_true];rw[this];omega
     |false=>simp only[cK,false_or,fE,if_false];exact I.rX i hi ae
   ·cases ia:aY j with
    |true=>rw[ia]at p1;exact p1
    |false=>rw[ia]at p1;exact p1
   ·refine zg (fun d hd=>by rw[I.qa];exact bh.lt d hd) (fun h=> ?_) (fun h=> ?_)
    ·have Ez:j<m:=(eh j o ho h).1 ((k5 j).2 (.inl rfl))
     have e:dJ vars (S m) t=dJ vars (S (j+1)) t:=by
      obtain⟨d,rfl⟩:=oq (show j+1<=m from Ez);refine T.slot (by omega) fun x p h1 h2 hp hd=> ?_;have s4:x≠j:=by omega
      have al:=(k5 x).1 ((eh x p hp hd).2 h2);have a2:=(xF t (.inl h) x p hp hd s4).1 (al.resolve_left s4);omega
     rw[e];exact p3 t h
    ·refine(I.env t m hm fun i p hp hd=> ?_).ext I.rel oF
     have cK:i≠j:=fun e=>by subst e;rw[ho]at hp;cases hp;exact h hd
     rw[<-eh i p hp hd,k5];simp[cK]
   ·have ab:=(T.nS ba.bQ (i:=j+1) (j:=ops.size) iR (aF _)).1.low
    have aj:=(T.nS ba.bQ (i:=0) (j:=k) (cD _) I.vD).1.len;rw[<-pq.1]at aj;exact(I.ext m hm).trans ((p2 m (by omega)).le (aF _) aj)
 have key:∀(fuel:Nat) (L:Array Bool) (k:Nat) (ay:bT) (al:Act) (aD:World),Inv C fid vars N ops S aY G w a st.H.length L k ay al aD->(List.range ops.size).countP (fun i=>!L.getD i false)<=fuel->
   wpAnyIn (eH ro) 0 C.P .any ops Q fuel L al aD:=by
  intro fuel
  induction fuel with
  |zero=>
   intro L k ay al aD I hc
   have eP:∀i,i<ops.size->L.getD i false=true:=fun i hi=>by
     have h1:=List.countP_eq_zero.1 (Nat.le_zero.1 hc) i (by simpa using hi);simpa using h1
   refine⟨?_,oH _ _ _ _ _ I eP⟩;cases hr:Region.ready .any ops L with
   |nil=>rfl
   |cons i r=>
    obtain⟨h1,o,ho,-⟩:=mem_ready.1 (show i∈Region.ready .any ops L by rw[hr];simp);have hi:i<ops.size:=(tS.1 ho).1;have h2:=eP i hi;have:i<L.size:=by rw[I.size];exact hi
    simp only[Array.getD,this,dif_pos]at h1 h2;rw[h1]at h2;cases h2
  |succ fuel ih=>
   intro L k ay al aD I hc;refine⟨fun hr=>oH _ _ _ _ _ I (Ew _ _ _ _ _ I hr),fun j hj=>kA fuel L k ay al aD j I hj fun hS bz G' a8 w' rK e=>ih hS bz G' a8 w' rK ?_⟩;subst e;obtain⟨h1,o,ho,-⟩:=mem_ready.1 hj;have iR:j<ops.size:=(tS.1 ho).1;have lR:j<L.size:=by rw[I.size];exact iR
   have aK:(List.range ops.size).countP (fun i=>!(L.setIfInBounds j true).getD i false)<(List.range ops.size).countP (fun i=>!L.getD i false):=by
     refine N1 (a:=j) (fun x _ hx=> ?_) (by simpa using iR) ?_ ?_
     ·cases af:L.getD x false with
      |false=>rfl
      |true=>
       have:=(vE (i:=x) lR).2 (.inr af);rw[this]at hx;cases hx
     ·simp only[Array.getD,lR,dif_pos]at h1⊢; rw[h1];rfl
     ·have:=(vE (i:=j) lR).2 (.inl rfl)
      rw[this];rfl
   omega
 refine wpIn_region_any cw ?_;have hw:({w with drawn:=w.drawn+1}:World).heap=w.heap:=rfl;have jD:=(U.clear).jf hw;rw[<-h0]at jD
 have jW:∀i,(Array.replicate ops.size false).getD i false=false:=fun i=>by
  by_cases h:i<ops.size
  ·simp[h]
  ·simp[h]
 refine key ops.size (Array.replicate ops.size false) 0 G a {w with drawn:=w.drawn+1} ⟨by simp,fun x hx=>absurd hx (by rw[jW];simp),cD _,fun i hi ae=>by rw[jW];simp,jD.rel,fun t m hm eh=> ?_,jD.size,rfl,fun m _=>Ext.jf hw rfl rfl m _⟩ ?_
 ·have e:dJ vars (S m) t=dJ vars (S 0) t:=by
   have:=T.slot (t:=t) (i:=0) (k:=m) (by omega) fun x p h1 h2 hp hd=>by
     have:=(eh x p hp hd).2 (by omega);rw[jW]at this;cases this
   rw[dP]at this;exact this
  rw[e];exact jD.env t
 ·refine cM List.countP_le_length (by simp)
end Go.Abs
