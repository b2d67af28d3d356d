/- Texts of this claim, joined and written short by a program. -/
import Derived.Test.YtdiodnpdllkbaaaGreatDoorP10
import Derived.Test.YtdiodnpdllkbaaaGreatDoorP00
set_option linter.unusedVariables false
set_option linter.unusedSimpArgs false
set_option linter.unusedSectionVars false
namespace Go.Abs
open Go
variable{C:Ctx}{fid:Nat->Nat}{w w':World}{G G':bX}{H H':Heap}
theorem adS{vars:List Nat}{pos:String}{op:Op}{z:List V}(hc:C.op vars pos op=.alloc z):∃t,op=.alloc t/\C.zeroCells t=some z:=by
 have cw:C.cI vars pos op=some (.alloc z):=by
  unfold Ctx.op at hc
  cases h:C.cI vars pos op with
  |none=>rw[h]at hc;cases hc
  |some a=>rw[h]at hc;simp only[sO]at hc;rw[hc]
 cases ho:op with
 |alloc t=>
  rw[ho]at cw
  simp only[Ctx.cI]at cw
  obtain⟨SF,h1,h2⟩:=ct.1 cw
  cases h2
  exact⟨t,rfl,h1⟩
 |call c=>
  exfalso
  rw[ho]at cw
  obtain⟨callee,args,dK⟩:=c
  cases callee with
  |value f=>
   simp only[Ctx.cI]at cw
   split at cw<;>simp at cw
  |builtin b=>
   simp only[Ctx.cI]at cw
   unfold Ctx.builtin at cw
   repeat' split at cw
   all_goals first
    |(cases cw;done)
    |(simp only[az,reduceCtorEq]at cw;done)
    |(obtain⟨_,_,h⟩:=ct.1 cw;cases h;done)
  |invoke r n=>simp[Ctx.cI]at cw
 |binOp a b c d e=>
  exfalso
  rw[ho]at cw
  simp only[Ctx.cI,Ctx.xO]at cw
  repeat' split at cw
  all_goals first
   |(cases cw;done)
   |(obtain⟨_,_,h⟩:=ct.1 cw;cases h;done)
 |makeFunc g a b=>
  exfalso
  rw[ho]at cw
  cases g with
  |func f=>
   simp only[Ctx.cI]at cw
   split at cw<;>simp at cw
  | _=>simp[Ctx.cI]at cw
 |makeMap t r=>
  exfalso
  rw[ho]at cw
  cases r<;>simp[Ctx.cI]at cw
 | _=>
   exfalso
   rw[ho]at cw
   simp only[Ctx.cI]at cw
   repeat' split at cw
   all_goals first
    |(cases cw;done)
    |(obtain⟨_,_,h⟩:=ct.1 cw;cases h;done)
theorem adT{vars:List Nat}{ρ:Operand->Value}{o:Oper}{pos:String}{z:List V}(c4:C.op vars pos o.op=.alloc z):
  ∃t cells,o.op=.alloc t/\(execOp ρ o).run C.P w=.ok (.value (.pointer (some ⟨w.heap.size,0,none⟩))) (w.alloc (.cells cells t))/\∀G' w',aY fid G' w' z cells.toList:=by
 obtain⟨t,ho,aT⟩:=adS c4
 obtain⟨cE,ny,n9,-,i,hi,-⟩:=CI (fid:=fid) aT
 refine⟨t,cE.cells,ho,?_,n9⟩
 unfold execOp;rw[ho]
 simp only[Instr.alloc,Sem.run_bind,ny,Result.andThen_ok,Sem.run_pure,newVar,newRow,run_newObj,World.alloc_eq]
section
variable{vars:List Nat}{N:Nat}{ops:Array Oper}{bz:List bO}{call:cU}{S:Nat->aq}{aR:Nat->Bool}
structure GK (ops:Array Oper) (bz:List bO) (call:cU) (S:Nat->aq) (aR:Nat->Bool) (p q:Nat):Prop where
 adU:p<=q
 SL:q<=ops.size
 still:∀i,i<p->aR i=false
 writer:∀i,q<=i->i<ops.size->aR i=true->∀(j:Nat) aV,p<=j->bz[j]? =some aV->fw aV.op=true->i≠j->((CheckFast.beforeF ops).getD (max i j) 0).testBit (min i j)=true
 behind:∀(j:Nat) aV,q<=j->bz[j]? =some aV->fw aV.op=true->∀i,p<=i->i<q->((CheckFast.beforeF ops).getD j 0).testBit i=true
 alloc:∀i,p<=i->i<q->∃aV z,bz[i]? =some aV/\aV.op=.alloc z/\aV.guard=none
 jX:∀(j:Nat) aV k,j<p->q<=k->k<=ops.size->bz[j]? =some aV->fw aV.op=true->jX call (aV,S j,(S k).H)=true
structure CZ (C:Ctx) (fid:Nat->Nat) (vars:List Nat) (N:Nat) (ops:Array Oper) (S:Nat->aq) (aR:Nat->Bool) (p q:Nat) (G:bX) (w:World) (a:Act) (ob:Nat)
  (L:Array Bool) (k:Nat) (ay:bX) (ai:Act) (aH:World):Prop where
 size:L.size=ops.size
 closed:∀x,L.getD x false=true->∀i,((CheckFast.beforeF ops).getD x 0).testBit i=true->L.getD i false=true
 SM:q<=k
 uQ:k<=ops.size
 qM:∀i,q<=i->i<ops.size->aR i=true->(L.getD i false=true↔i<k)
 rel:aZ C fid ay (S k).H aH
 free:∀i,p<=i->i<q->L.getD i false=false->ay.β (S i).H.length=Option.none
 env:∀t m,m<=ops.size->(∀(i:Nat) o,ops[i]? =some o->o.dst=some t->(L.getD i false=true↔i<m))->a8 fid ay aH (dC vars (S m) t) (ai.tmps.getD t undef)
 o0:ai.tmps.size=N
 defers:ai.defers=a.defers
 ext:∀m,m<=(S ops.size).low->Ext G w ay aH m ob
theorem GL (T:kD C vars N ops bz call S aR){p q:Nat}(hl:GK ops bz call S aR p q){i:Nat}(h1:p<=i)(h2:i<q):
  aR i=true/\∃z,(S (i+1)).H=(S i).H++[.cells z]/\∃aV,bz[i]? =some aV/\aV.op=.alloc z/\aV.guard=none/\S (i+1)=({S i with H:=(S i).H++[.cells z],low:=min (S i).low (S i).H.length}:aq).put aV.dst (.ptr (S i).H.length 0):=by
 have SN:=hl.SL
 obtain⟨aV,z,ao,c4,bj⟩:=hl.alloc i h1 h2
 obtain⟨o,adV,ho,fK,bx,cd⟩:=T.get (i:=i) (by omega)
 rw[ao]at fK;cases fK
 rcases cd with⟨hw,v,H1,bI,af,aC,kA⟩|⟨hw,-,-⟩
 case inr=>rw[bj]at hw;simp[e3]at hw
 rw[c4]at af
 have GJ:step (ag.ae (S i).aG (S i).av) (S i).H (S i).H.length (.alloc z)=some (v,H1,bI):=af
 simp only[step,az,bt]at GJ
 obtain⟨rfl,rfl,rfl⟩:=GJ
 refine⟨by rw[kA];simp[eG],z,?_,aV,ao,c4,bj,aC⟩
 rw[aC];exact(j5 _ _ _).1
theorem LU (T:kD C vars N ops bz call S aR){p q:Nat}(hl:GK ops bz call S aR p q){i:Nat}(h1:p<=i):∀{k:Nat},i+k<=q->∀(l:Nat) (o:cc),(S i).H[l]? =some o->(S (i+k)).H[l]? =some o
 |0,_,l,o,h=>h
 |k+1,hk,l,o,h=>by
  have ih:=LU T hl h1 (k:=k) (by omega) l o h
  obtain⟨-,z,e,-⟩:=GL T hl (i:=i+k) (by omega) (by omega)
  show(S (i+k+1)).H[l]? =some o
  rw[e,gE ((e2.1 ih).1)];exact ih
theorem adW{id:Nat}{st aF:aq}{a:Act}{Q:Exit->Act->World->Prop}{ro:Option Nat}(cD:C.P.follows .mixedOrders=true)(bu:eZ C fid)(a6:gH C fid call)
  (hm:dH (C.oper vars N ops) ops.toList=some bz) (jG:Ctx.xP ops=true) (lZ:Ctx.xQ ops=true) (qL:(ops.toList.zip bz).all (fun(o,a)=>Ctx.wo ops o a)=true)
  {S:Nat->aq} {aR:Nat->Bool} (h0:S 0={st with aG:=[]}) (hn:S ops.size=aF) (T:kD C vars N ops bz call S aR) {p q:Nat} (hl:GK ops bz call S aR p q) (U:dy C fid vars N G st a w)
  (dz:∀G' a7 w',dy C fid vars N G' aF a7 w'->(∀m,m<=aF.low->Ext G w G' w' m st.H.length)->a7.defers=a.defers->Q .normal a7 w'):
  (Code.region id ops true).wpIn (en ro) 0 C.P Q a w:=by
 have od:st.H=(S 0).H/\st.low=(S 0).low:=by rw[h0];exact⟨rfl,rfl⟩
 have CS:st.low<=st.H.length:=U.low
 have yi:=hl.adU
 have SN:=hl.SL
 have pJ:∀k,k<=ops.size->st.H.length<=(S k).H.length:=fun k hk=>by
  have:=(T.na a6.bM (i:=0) (j:=k) (cx _) hk).1.len
  rw[<-od.1]at this;exact this
 have adX:∀j,j<=p->(S j).H=(S 0).H:=fun j hj=>by
  have:=T.heap a6.bM (i:=0) (k:=j) (by omega) fun x _ h2=>hl.still x (by omega)
  rw[eO]at this;exact this
 have adY:∀i,p<=i->i<q->∀k,q<=k->k<=ops.size->(S i).H.length<(S k).H.length:=fun i h1 h2 k ar aQ=>by
  obtain⟨-,z,e,-⟩:=GL T hl h1 h2
  have:=(T.na a6.bM (i:=i+1) (j:=k) (by omega) aQ).1.len
  rw[e]at this;simp at this;omega
 have oe:∀L k ay ai aH,CZ C fid vars N ops S aR p q G w a st.H.length L k ay ai aH->(∀i,i<ops.size->L.getD i false=true)->Q .normal ai aH:=by
  intro L k ay ai aH I eA
  have hk:(S ops.size).H=(S k).H:=by
   have AJ:=I.SM
   obtain⟨d,hd⟩:=mR I.uQ
   rw[hd]
   refine T.heap a6.bM (by omega) fun x h1 h2=> ?_
   cases ab:aR x with
   |false=>rfl
   |true=>have:=(I.qM x (by omega) (by omega) ab).1 (eA x (by omega));omega
  refine dz ay ai aH ?_ (fun m hm=>I.ext m (by rw[hn];exact hm)) I.defers
  rw[<-hn]
  refine⟨by rw[hk];exact I.rel,fun t=>I.env t ops.size (aK _) fun i o ho _=> ?_,I.o0,?_⟩
  ·have:i<ops.size:=(sI.1 ho).1
   simp[this,eA i this]
  ·exact(T.na a6.bM (cx _) (aK _)).bound (by rw[<-od.1,<-od.2];exact CS)
 have CT:∀L k ay ai aH,CZ C fid vars N ops S aR p q G w a st.H.length L k ay ai aH->Region.ready .any ops L=[]->∀i,i<ops.size->L.getD i false=true:=by
  intro L k ay ai aH I hr i
  induction i using Nat.strongRecOn with
  | _ i ih=>
    intro hi
    cases df:L.getD i false with
    |true=>rfl
    |false=>
     exfalso
     have:i∈Region.ready .any ops L:=mem_ready.2 ⟨by
      have:i<L.size:=by rw[I.size];exact hi
      simp only[Array.getD,this,dif_pos]at df⊢; exact df,ops[i],by simp[hi],fun e he hb=>by
       have aX:=LL jG (j:=i) (o:=ops[i]) (by simp[hi]) he hb
       exact ih e.on aX (by omega)⟩
     rw[hr]at this;cases this
 have sW:∀(fuel:Nat) (L:Array Bool) (k:Nat) (ay:bX) (ai:Act) (aH:World) (j:Nat),CZ C fid vars N ops S aR p q G w a st.H.length L k ay ai aH->j∈Region.ready .any ops L->
   (∀gZ bp G' a7 w',CZ C fid vars N ops S aR p q G w a st.H.length gZ bp G' a7 w'->gZ=L.setIfInBounds j true->wpAnyIn (en ro) 0 C.P .any ops Q fuel gZ a7 w')->
   wpOpIn (en ro) 0 C.P ops Q j (wpAnyIn (en ro) 0 C.P .any ops Q fuel (L.setIfInBounds j true)) ai aH:=by
  intro fuel L k ay ai aH j I hj wI
  obtain⟨wJ,o,ho,CU⟩:=mem_ready.1 hj
  have iq:j<ops.size:=(sI.1 ho).1
  have lp:j<L.size:=by rw[I.size];exact iq
  have n2:L.getD j false=false:=by simp only[Array.getD,lp,dif_pos]at wJ⊢; exact wJ
  have AJ:=I.SM
  have rW:=I.uQ
  obtain⟨o',aV,kx,fK,bx,cd⟩:=T.get iq
  rw[ho]at kx;cases kx
  have wK:∀i,((CheckFast.beforeF ops).getD j 0).testBit i=true->L.getD i false=true:=fun i hb=>by
   obtain⟨e,lY,mX,o1⟩:=LJ ho hb
   have hl:=CU e lY mX
   rcases o1 with rfl|o1
   ·exact hl
   ·exact I.closed e.on hl i o1
  have mH:∀i,i≠j->((CheckFast.beforeF ops).getD (max i j) 0).testBit (min i j)=true->(L.getD i false=true↔i<j):=by
   intro i cK hb
   rcases fX i j with aX|hge
   ·rw[FO (by omega),lP (by omega)]at hb
    exact⟨fun _=>aX,fun _=>wK i hb⟩
   ·rw[FQ hge,uc hge]at hb
    refine⟨fun df=> ?_,fun h=>by omega⟩
    have:=I.closed i df j hb
    rw[n2]at this;cases this
  have wL:∀t,(o.dst=some t\/t∈Ctx.fq ops o)->∀(i:Nat) p,ops[i]? =some p->p.dst=some t->i≠j->(L.getD i false=true↔i<j):=fun t ht i p hp hd cK=>
   mH i cK (LK lZ ho hp hd cK ht)
  have er:=cd.bM a6.bM
  have AH:∀x∈aV.op.operands,GC (fun t=>t∈Ctx.fq ops o) x:=by
   intro x hx
   have h1:(o,aV)∈ops.toList.zip bz:=ns.2 ⟨j,by rw[xD];exact⟨by rw[auF];exact ho,fK⟩⟩
   have h2:=eV.1 qL _ h1
   simp only[Ctx.wo,eV]at h2
   have ar:=h2 x hx
   cases x with
   |tmp t=>exact ua.1 ar
   |var t=>exact ua.1 ar
   |const v=>trivial
   |func i=>trivial
  have GG:∀t,t∈Ctx.fq ops o->a8 fid ay aH (dC vars (S j) t) (ai.tmps.getD t undef):=fun t ht=>by
   refine I.env t j (by omega) fun i p hp hd=> ?_
   by_cases cK:i=j
   ·subst cK;simp[n2]
   ·exact wL t (.inr ht) i p hp hd cK
  have kE:∀i,(L.setIfInBounds j true).getD i false=true↔i=j\/L.getD i false=true:=fun i=>uR lp
  have adZ:p<=j->j<q->fw aV.op=true->(S k).H=(S q).H:=fun SP SQ ht=>by
   obtain⟨d,rfl⟩:=mR AJ
   refine T.heap a6.bM (by omega) fun x h1 h2=> ?_
   cases ab:aR x with
   |false=>rfl
   |true=>
    have hx:=(I.qM x h1 (by omega) ab).2 h2
    have hb:=hl.writer x h1 (by omega) ab j aV SP fK ht (by omega)
    rw[FQ (by omega),uc (by omega)]at hb
    have:=I.closed x hx j hb
    rw[n2]at this;cases this
  have yk:∀(bp:Nat) (x:Value) (bG:World) (bl:bX),q<=bp->bp<=ops.size->(∀i,q<=i->i<ops.size->aR i=true->(i=j\/L.getD i false=true↔i<bp))->aZ C fid bl (S bp).H bG->(∀m,m<=(S (j+1)).low->Ext ay aH bl bG m st.H.length)->(∀t,o.dst=some t->a8 fid bl bG (dC vars (S (j+1)) t) x)->
    (∀i,p<=i->i<q->i≠j->L.getD i false=false->bl.β (S i).H.length=Option.none)->wpAnyIn (en ro) 0 C.P .any ops Q fuel (L.setIfInBounds j true) (ai.put o.dst x) bG:=by
   intro bp x bG bl q1 aS b1 p1 p2 p3 j6
   have nB:=p2 0 (cx _)
   refine wI _ bp bl _ bG ⟨by simp[I.size],fun x hx i hb=> ?_,q1,aS,fun i h1 h2 ab=>by rw[kE];exact b1 i h1 h2 ab,p1,fun i hi ab pK=> ?_,fun t m hm ep=> ?_,by rw[wG];exact I.o0,by rw[put_defers];exact I.defers,fun m hm=> ?_⟩ rfl
   ·rw[kE]at hx⊢
    rcases hx with rfl|hx
    ·exact .inr (wK i hb)
    ·exact .inr (I.closed x hx i hb)
   ·have bf:i≠j:=fun e=>by
     have:=(kE i).2 (.inl e)
     rw[this]at pK;cases pK
    refine j6 i hi ab bf ?_
    cases ad:L.getD i false with
    |false=>rfl
    |true=>
     have:=(kE i).2 (.inr ad)
     rw[this]at pK;cases pK
   ·refine yg (fun d hd=>by rw[I.o0];exact bx.lt d hd) (fun h=> ?_) (fun h=> ?_)
    ·have CX:j<m:=(ep j o ho h).1 ((kE j).2 (.inl rfl))
     have e:dC vars (S m) t=dC vars (S (j+1)) t:=by
      obtain⟨d,rfl⟩:=mR (show j+1<=m from CX)
      refine T.slot (by omega) fun x p h1 h2 hp hd=> ?_
      have rU:x≠j:=by omega
      have ai:=(kE x).1 ((ep x p hp hd).2 h2)
      have a2:=(wL t (.inl h) x p hp hd rU).1 (ai.resolve_left rU)
      omega
     rw[e];exact p3 t h
    ·refine(I.env t m hm fun i p hp hd=> ?_).ext I.rel nB
     have cK:i≠j:=fun e=>by subst e;rw[ho]at hp;cases hp;exact h hd
     rw[<-ep i p hp hd,kE]
     simp[cK]
   ·have af:=(T.na a6.bM (i:=j+1) (j:=ops.size) iq (aK _)).1.low
    exact(I.ext m hm).trans (p2 m (by omega))
  by_cases hA:p<=j/\j<q
  ·
   obtain⟨h1,h2⟩:=hA
   obtain⟨hH,z,ad0,adV,SR,c4,GH,aC⟩:=GL T hl h1 h2
   rw[fK]at SR;cases SR
   have yd:o.guard=none:=by
    have:=bx.guard
    rw[GH]at this
    cases bj:o.guard with
    |none=>rfl
    |some p=>
     obtain⟨q,b⟩:=p
     rw[bj]at this
     simp only[Ctx.guard]at this
     split at this<;>simp at this
   have GI:C.op vars o.pos o.op=.alloc z:=by rw[<-bx.op];exact c4
   obtain⟨ty,cells,eE,cr,pH⟩:=adT (fid:=fid) (w:=aH) (ρ:=ai.eval) GI
   refine SJ ho yd (by rw[eE];simp) cr ?_
   have l6:∀t,o.dst=some t->dC vars (S (j+1)) t=.ptr (S j).H.length 0:=fun t ht=>by
    rw[aC]
    rcases bx.dst with⟨h2,-⟩|⟨d,-,h2,ar⟩
    ·rw[h2]at ht;cases ht
    ·rw[h2]at ht;cases ht
     rw[ar,CR,if_pos rfl]
   have hk:(S k).H=(S q).H:=adZ h1 h2 (by rw[c4];rfl)
   have rV:=I.free j h1 h2 n2
   have hcell:(S k).H[(S j).H.length]? =some (.cells z):=by
    rw[hk]
    obtain⟨d,hd⟩:=mR (show j+1<=q from h2)
    rw[hd]
    refine LU T hl (by omega) (by omega) _ _ ?_
    rw[ad0];simp
   have LS:=I.rel.place rV hcell (.cells cells ty) 0 0 ⟨rfl,rfl,cells,ty,oQ _ _,pH _ _⟩
   refine yk k _ _ _ AJ rW (fun i q1 aS ab=> ?_) LS (fun m _=>.place rV _ _ _ m (pJ j (by omega))) (fun t ht=> ?_) fun i SS pK cK df=> ?_
   ·rw[<-I.qM i q1 aS ab]
    exact⟨fun h=>h.resolve_left (by omega),.inr⟩
   ·rw[l6 t ht]
    exact .ptr _ _ ⟨aH.heap.size,0,0,false⟩ (de _ _ _) rfl
   ·have bf:(S i).H.length≠(S j).H.length:=by
     have key:∀i j,p<=i->i<q->i<j->j<q->(S i).H.length<(S j).H.length:=fun i j ai a2 a3 a4=>by
      obtain⟨-,z,e,-⟩:=GL T hl ai a2
      have:=(T.na a6.bM (i:=i+1) (j:=j) (by omega) (by omega)).1.len
      rw[e]at this;simp at this;omega
     rcases Nat.lt_or_gt_of_ne cK with c|c
     ·have:=key i j SS pK c h2;omega
     ·have:=key j i h1 h2 c pK;omega
    show ck ay.β (S j).H.length _ (S i).H.length=_
    rw[dp bf]
    exact I.free i SS pK df
  ·
   have LO:fw aV.op=true->(S k).H=(S j).H\/(aR j=false/\(e3 (S j).aG (S j).av aV.guard=some true->∀v H1 bI,b2 call (ag.ae (S j).aG (S j).av) (S j).H (S j).H.length aV.op=some (v,H1,bI)->∃H2 c5,b2 call (ag.ae (S j).aG (S j).av) (S k).H (S k).H.length aV.op=some (v,H2,c5)/\eG (S k).H H2 c5=false)):=by
    intro ht
    rcases fX j p with C0|C0
    ·refine .inr ⟨hl.still j C0,fun hw v H1 bI h1=> ?_⟩
     have nb:=hl.jX j aV k C0 AJ rW fK ht
     unfold Abs.jX at nb
     simp only[hw,h1]at nb
     split at nb
     ·rename_i v' H2 c5 h2
      simp only[b8,nV]at nb
      have:=uO _ _ nb.1
      subst this
      exact⟨H2,c5,h2,nb.2⟩
     ·cases nb
    ·have SQ:q<=j:=by
      rcases fX j q with c|c
      ·exact absurd ⟨C0,c⟩ hA
      ·exact c
     left
     have CV:∀x,q<=x->x<ops.size->aR x=true->x≠j->(L.getD x false=true↔x<j):=fun x h1 h2 ab hx=>mH x hx (hl.writer x h1 h2 ab j aV C0 fK ht hx)
     rcases Nat.le_total k j with uS|CW
     ·obtain⟨d,rfl⟩:=mR uS
      refine(T.heap a6.bM (by omega) fun x h1 h2=> ?_).symm
      cases ab:aR x with
      |false=>rfl
      |true=>
       have ai:=(CV x (by omega) (by omega) ab (by omega)).2 (by omega)
       have a2:=(I.qM x (by omega) (by omega) ab).1 ai
       omega
     ·obtain⟨d,rfl⟩:=mR CW
      refine T.heap a6.bM (by omega) fun x h1 h2=> ?_
      cases ab:aR x with
      |false=>rfl
      |true=>
       have a2:=(I.qM x (by omega) (by omega) ab).2 (by omega)
       by_cases hx:x=j
       ·subst hx;rw[n2]at a2;cases a2
       ·have:=(CV x (by omega) (by omega) ab hx).1 a2;omega
   have LP:(S j).low<=(S k).H.length:=by
    have af:=(T.na a6.bM (i:=0) (j:=j) (cx _) (by omega)).1.low
    have aj:=pJ k rW
    rw[<-od.2]at af
    omega
   refine ye (T:=fun t=>t∈Ctx.fq ops o) bu a6 ho bx cd I.rel LO LP GG AH (fun q want d bj hd=> ?_) I.o0 ?_
   ·simp only[Ctx.fq,jA]
    right
    rw[bj]
    simp only[]
    rw[hd];simp
   ·intro x bG bl p1 p2 p3
    have SU:∀i,p<=i->i<q->i≠j->L.getD i false=false->bl.β (S i).H.length=Option.none:=fun i h1 h2 cK df=>by
     have rV:=I.free i h1 h2 df
     cases hb:bl.β (S i).H.length with
     |none=>rfl
     |some h'=>
      exfalso
      rcases(p2 0 (cx _)).nt _ _ hb with⟨h,fj,-⟩|⟨hge,-⟩
      ·rw[rV]at fj;cases fj
      ·have:=adY i h1 h2 k AJ rW;omega
    have SV:∀m,m<=(S (j+1)).low->Ext ay aH bl bG m st.H.length:=fun m hm=>(p2 m hm).le (aK _) (pJ k rW)
    cases hH:aR j with
    |false=>
     rw[hH]at p1
     refine yk k x bG bl AJ rW (fun i q1 aS ab=> ?_) p1 SV p3 SU
     rw[<-I.qM i q1 aS ab]
     exact⟨fun h=>h.resolve_left (fun e=>by rw[e,hH]at ab;cases ab),.inr⟩
    |true=>
     rw[hH]at p1
     have SQ:q<=j:=by
      rcases fX j q with c|c
      ·rcases fX j p with c'|c'
       ·rw[hl.still j c']at hH;cases hH
       ·exact absurd ⟨c',c⟩ hA
      ·exact c
     refine yk (j+1) x bG bl (by omega) iq (fun i q1 aS ab=> ?_) p1 SV p3 SU
     by_cases cK:i=j
     ·subst cK;simp
     ·have:=mH i cK (hl.writer i q1 aS ab j aV (by omega) fK (cd.fw hH) cK)
      simp only[cK,false_or]
      rw[this];omega
 have key:∀(fuel:Nat) (L:Array Bool) (k:Nat) (ay:bX) (ai:Act) (aH:World),CZ C fid vars N ops S aR p q G w a st.H.length L k ay ai aH->(List.range ops.size).countP (fun i=>!L.getD i false)<=fuel->
   wpAnyIn (en ro) 0 C.P .any ops Q fuel L ai aH:=by
  intro fuel
  induction fuel with
  |zero=>
   intro L k ay ai aH I hc
   have eA:∀i,i<ops.size->L.getD i false=true:=fun i hi=>by
    have h1:=List.countP_eq_zero.1 (Nat.le_zero.1 hc) i (by simpa using hi)
    simpa using h1
   refine⟨?_,oe _ _ _ _ _ I eA⟩
   cases hr:Region.ready .any ops L with
   |nil=>rfl
   |cons i r=>
    obtain⟨h1,o,ho,-⟩:=mem_ready.1 (show i∈Region.ready .any ops L by rw[hr];simp)
    have hi:i<ops.size:=(sI.1 ho).1
    have h2:=eA i hi
    have:i<L.size:=by rw[I.size];exact hi
    simp only[Array.getD,this,dif_pos]at h1 h2
    rw[h1]at h2;cases h2
  |succ fuel ih=>
   intro L k ay ai aH I hc
   refine⟨fun hr=>oe _ _ _ _ _ I (CT _ _ _ _ _ I hr),fun j hj=>sW fuel L k ay ai aH j I hj fun gZ bp G' a7 w' qA e=>ih gZ bp G' a7 w' qA ?_⟩
   subst e
   obtain⟨h1,o,ho,-⟩:=mem_ready.1 hj
   have iq:j<ops.size:=(sI.1 ho).1
   have lp:j<L.size:=by rw[I.size];exact iq
   have aX:(List.range ops.size).countP (fun i=>!(L.setIfInBounds j true).getD i false)<(List.range ops.size).countP (fun i=>!L.getD i false):=by
    refine LM (a:=j) (fun x _ hx=> ?_) (by simpa using iq) ?_ ?_
    ·cases ad:L.getD x false with
     |false=>rfl
     |true=>
      have:=(uR (i:=x) lp).2 (.inr ad)
      rw[this]at hx;cases hx
    ·simp only[Array.getD,lp,dif_pos]at h1⊢; rw[h1];rfl
    ·have:=(uR (i:=j) lp).2 (.inl rfl)
     rw[this];rfl
   omega
 refine wpIn_region_any cD ?_
 have hw:({w with drawn:=w.drawn+1}:World).heap=w.heap:=rfl
 have iQ:=(U.clear).lU hw
 rw[<-h0]at iQ
 have jh:∀i,(Array.replicate ops.size false).getD i false=false:=fun i=>by
  by_cases h:i<ops.size
  ·simp[h]
  ·simp[h]
 refine key ops.size (Array.replicate ops.size false) q G a {w with drawn:=w.drawn+1} ⟨by simp,fun x hx=>absurd hx (by rw[jh];simp),aK _,SN,fun i h1 _ ab=>by rw[jh];simp;omega,iQ.rel.longer fun l o nu=> ?_,fun i h1 h2 _=> ?_,fun t m hm ep=> ?_,iQ.size,rfl,fun m _=>Ext.lU hw rfl rfl m _⟩ ?_
 ·rw[<-adX p (aK _)]at nu
  obtain⟨d,hd⟩:=mR yi
  rw[hd]
  exact LU T hl (aK _) (by omega) l o nu
 ·exact U.rel.none (pJ i (by omega))
 ·have e:dC vars (S m) t=dC vars (S 0) t:=by
   have:=T.slot (t:=t) (i:=0) (k:=m) (by omega) fun x p h1 h2 hp hd=>by
    have:=(ep x p hp hd).2 (by omega)
    rw[jh]at this;cases this
   rw[eO]at this;exact this
  rw[e];exact iQ.env t
 ·refine cV List.countP_le_length (by simp)
theorem SW{α:Type}{f:α->Bool}:∀{l:List α} {i:Nat},i<(l.takeWhile f).length->∃a,l[i]? =some a/\f a=true
 |[],i,h=>by simp at h
 |a::l,i,h=>by
  rw[List.takeWhile_cons]at h
  split at h
  ·rename_i ab
   cases i with
   |zero=>exact⟨a,rfl,ab⟩
   |succ i=>
    simp only[ev]at h
    obtain⟨b,h1,h2⟩:=SW (f:=f) (l:=l) (i:=i) (by omega)
    exact⟨b,by simpa using h1,h2⟩
  ·simp at h
theorem SX (l:List bO):kt l<=oM l:=Kn _ _
theorem LV{α:Type}(f:α->Bool)(l:List α):(l.takeWhile f).length<=l.length:=(List.takeWhile_sublist f).length_le
theorem ad1 (l:List bO):oM l<=l.length:=by
 unfold oM
 have h1:=LV Ck (l.drop (kt l))
 have h2:kt l<=l.length:=LV _ l
 simp only[sN]at h1
 omega
theorem ad2{l:List bO}{i:Nat}(h1:kt l<=i)(h2:i<oM l):∃aV z,l[i]? =some aV/\aV.op=.alloc z/\aV.guard=none:=by
 unfold oM at h2
 obtain⟨aV,ar,aQ⟩:=SW (l:=l.drop (kt l)) (f:=Ck) (i:=i-kt l) (by omega)
 rw[QK]at ar
 refine⟨aV,?_⟩
 unfold Ck at aQ
 split at aQ
 ·rename_i z af aj
  exact⟨z,by rw[<-ar];congr 1;omega,af,aj⟩
 ·cases aQ
theorem ad3{st:aq}{wr:List Bool}{cf:List aq}(hm:dH (C.oper vars N ops) ops.toList=some bz)(oc:fx call bz {st with aG:=[]}=some cf)
  (h0:S 0={st with aG:=[]}) (mI:wr=(List.range ops.size).map aR) (hs:∀(i:Nat) aV,bz[i]? =some aV->l5 call aV (S i) (S (i+1)) (aR i))
  (hc:wk (CheckFast.beforeF ops).toList bz wr=true) (hd:(z7 bz cf).all (jX call)=true):GK ops bz call S aR (kt bz) (oM bz):=by
 have hlen:bz.length=ops.size:=by rw[uF _ hm,hB]
 have j1:∀i,(CheckFast.beforeF ops).toList.getD i 0=(CheckFast.beforeF ops).getD i 0:=fun i=>by
  rw[tY,auF,v8]
 have yj:∀i j,oL (CheckFast.beforeF ops).toList i j=true->((CheckFast.beforeF ops).getD (max i j) 0).testBit (min i j)=true:=fun i j this=>by
  rw[GF,j1,j1]at this
  split at this
  ·rw[FQ (by omega),uc (by omega)];exact this
  ·rw[FO (by omega),lP (by omega)];exact this
 have SY:∀i,i<ops.size->wr[i]? =some (aR i):=fun i hi=>by rw[mI];simp[hi]
 have bc:=ad1 bz
 have yi:=SX bz
 unfold wk at hc
 simp only[b8,eV]at hc
 obtain⟨⟨dq,fb⟩,gG⟩:=hc
 rw[<-h0]at oc
 have qC:=GA bz S aR cf hs oc
 refine⟨yi,by omega,fun i hi=> ?_,fun i h1 h2 ab j aV SP hj ht cK=> ?_,fun j aV h1 hj ht i h2 ar=> ?_,fun i h1 h2=>ad2 h1 h2,fun j aV k hj hk LN ao ht=> ?_⟩
 ·have:=dq (aR i) (ns.2 ⟨i,by rw[QL,if_pos hi];exact SY i (by omega)⟩)
  simpa using this
 ·have:=fb (true,i) (ie.2 (by rw[<-ab];exact SY i h2))
  have hb:Nat.blt i (oM bz)=false:=by
   cases hx:Nat.blt i (oM bz)with
   |false=>rfl
   |true=>have:=km hx;omega
  simp only[hZ,hb,FU,qv,eV]at this
  have ar:=this (aV,j) (ie.2 hj)
  have rN:Nat.blt j (kt bz)=false:=by
   cases hx:Nat.blt j (kt bz)with
   |false=>rfl
   |true=>have:=km hx;omega
  simp only[ht,rN,hZ,qv,ko,beq_iff_eq,cK,false_or]at ar
  exact yj i j ar
 ·have:=gG (aV,j) (ie.2 hj)
  have hb:Nat.blt j (oM bz)=false:=by
   cases hx:Nat.blt j (oM bz)with
   |false=>rfl
   |true=>have:=km hx;omega
  simp only[ht,hb,hZ,FU,qv,eV]at this
  have aQ:=yj i j (this i (by rw[List.mem_range'_1];omega))
  rw[FO (by omega),lP (by omega)]at aQ
  exact aQ
 ·have eB:(aV,S j,(S k).H)∈z7 bz cf:=by
   unfold z7
   simp only[Cd,QO]
   refine⟨S k,ns.2 ⟨k-oM bz,?_⟩,(aV,S j),ns.2 ⟨j,?_⟩,by simp[ht]⟩
   ·rw[QK,<-qC k (by omega)];congr 1;omega
   ·rw[QL,if_pos hj,xD]
    exact⟨ao,qC j (by omega)⟩
  exact eV.1 hd _ eB
theorem ad4{id:Nat}{st aF:aq}{wr:List Bool}{a:Act}{Q:Exit->Act->World->Prop}{ro:Option Nat}(cD:C.P.follows .mixedOrders=true)(bu:eZ C fid)(a6:gH C fid call)
  (hm:dH (C.oper vars N ops) ops.toList=some bz) (jG:Ctx.xP ops=true) (lZ:Ctx.xQ ops=true) (qL:(ops.toList.zip bz).all (fun(o,a)=>Ctx.wo ops o a)=true)
  (he:cQ call bz {st with aG:=[]} []=some (aF,wr)) (hin:(nX (CheckFast.beforeF ops).toList bz wr||nY call (CheckFast.beforeF ops).toList bz wr {st with aG:=[]})=true) (U:dy C fid vars N G st a w)
  (dz:∀G' a7 w',dy C fid vars N G' aF a7 w'->(∀m,m<=aF.low->Ext G w G' w' m st.H.length)->a7.defers=a.defers->Q .normal a7 w'):
  (Code.region id ops true).wpIn (en ro) 0 C.P Q a w:=by
 cases lq:wj bz with
 |true=>exact adO cD bu a6 hm jG lZ qL he lq U dz
 |false=>
  unfold nX at hin
  rw[lq,Bool.or_false]at hin
  unfold nY at hin
  rw[<-Bool.or_assoc,ko]at hin
  rcases hin with hin|hin
  ·exact adN cD bu a6 hm jG lZ qL he hin U dz
  ·split at hin
   ·rename_i cf oc
    rw[b8]at hin
    obtain⟨S,aR,h0,hn,mI,hs⟩:=uN _ _ _ _ _ he
    have T:kD C vars N ops bz call S aR:=.of hm hs
    rw[T.len]at hn mI
    simp only[List.reverse_nil,jB]at mI
    exact adW cD bu a6 hm jG lZ qL h0 hn T (ad3 hm oc h0 mI hs hin.1 hin.2) U dz
   ·cases hin
end
end Go.Abs
namespace Go.Abs
open Go
variable{C:Ctx}{fid:Nat->Nat}{w w':World}{G G':bX}{H H':Heap}
def AK:X->Exit
 | .normal=>.normal
 | .exit id=>.exit id
 | .ret=>.ret
def uU (G:bX):Option Nat->Option Nat->Prop
 |none,none=>True
 |some l,some b=>∃h,G.β l=some h/\h.tag=0/\h.b=b
 | _,_=>False
theorem uU.ext{m n:Nat}(h:Ext G w G' w' m n):∀{l b:Option Nat},uU G l b->uU G' l b
 |none,none,_=>trivial
 |some l,some b,⟨h0,e,t,q⟩=>by
  obtain⟨h',e',-,z,m,-⟩:=h.homes l h0 e
  exact⟨h',e',z t,by rw[(m ((z t).trans t.symm)).1];exact q⟩
 |none,some _,k|some _,none,k=>k.elim
def GM (r:Nat):Deferred:={target:=.collected r,args:= #[]}
structure C1 (G:bX) (w:World) (base r:Nat):Prop where
 base:base<=r
 lt:r<w.heap.size
 obj:w.heap[r]? =some (.deferred (some []))
 home:∀l h,G.β l=some h->h.b≠r
 cX:¬G.I r
def kF (C:Ctx)(G:bX)(w:World)(base:Nat)(ds:List Deferred):Prop:=∃rs:List (Nat ⊕ Deferred),ds=rs.map (fun| .inl r=>GM r| .inr d=>d)/\(rs.filterMap fun| .inl r=>some r| .inr _=>none).Nodup/\
 (∀r,.inl r∈rs->C1 G w base r)/\∀d,.inr d∈rs->Gd C.P d
theorem C1.ext{m n base r:Nat}(h:Ext G w G' w' m n)(k:C1 G w base r):C1 G' w' base r where
 base:=k.base
 lt:=qs k.lt h.size
 obj:=by rw[h.dQ r k.lt fun l x af aj=>absurd aj (k.home l x af)];exact k.obj
 home l x e q:=by
  rcases h.KK l x e with⟨c6,dI,eb⟩|hs
  ·exact k.home l c6 dI (eb.trans q)
  ·have:=k.lt;omega
 cX hi:=by
  rcases h.n1 r hi with h1|h1|⟨l,x,e,eb⟩
  ·exact k.cX h1
  ·have:=k.lt;omega
  ·exact k.home l x e eb
theorem kF.ext{m n base:Nat}{ds:List Deferred}(h:Ext G w G' w' m n):kF C G w base ds->kF C G' w' base ds
 |⟨rs,e,dk,k,q⟩=>⟨rs,e,dk,fun r hr=>(k r hr).ext h,q⟩
theorem rX (bu:eZ C fid){vars:List Nat}{N:Nat}{st:aq}{a:Act}(U:dy C fid vars N G st a w):fh C fid vars G w (ag.ae st.aG st.av) a.eval:=fun x cv hx=>by
 cases x with
 |tmp t=>
  simp only[Ctx.b3,az]at hx
  have e:cv.ae st.aG st.av=dC vars st t:=by rw[<-hx];unfold dC;split<;>rfl
  rw[e];exact U.env t
 |const u=>
  simp only[Ctx.b3]at hx
  obtain⟨Sw,kU,rfl⟩:=ct.1 hx
  rcases Cw (I:=G.I) (w:=w) u kU with rfl|hp
  ·exact .undef _
  ·exact .p _ _ hp
 |func f=>exact KW bu hx
 |global g=>simp[Ctx.b3]at hx
theorem GN{F:Fence}{n:Nat}{P:Program}{Q:Exit->Act->World->Prop}{c:Code}(I:Nat->Act->World->Prop)
  (round:∀k a w,I k a w->∃bp,k=bp+1/\c.wpIn F n P (Exit.then (I bp) Q) a w) {j:Nat} {a:Act} {w:World} (h₀:I j a w):(Code.loop c).wpIn F n P Q a w:=by
 intro b k cs eJ hb hr
 have key:∀j a w,I j a w->
   ∃e a7 w',Q e a7 w'/\ArrivesIn (Machine.fenced P F) P (lone (b.atR a (.code c::.inLoop c::k)) cs w) b k cs e a7 w':=by
  intro j
  induction j with
  |zero=>
   intro a w aW
   obtain⟨bp,e,-⟩:=round 0 a w aW
   omega
  |succ j ih=>
   intro a w aW
   obtain⟨bp,e,gu⟩:=round _ a w aW
   cases e
   obtain⟨e,AL,AM,bc,rR⟩:=gu b (.inLoop c::k) cs eJ hb hr
   cases e with
   |normal=>
    obtain⟨KH,ad5,ad6,ad7,ad8⟩:=ih AL AM bc
    exact⟨KH,ad5,ad6,ad7,.of_steps (StepsIn.trans rR (.one (fenced_calm hb hr rfl) stepR_inLoop)) ad8⟩
   |exit id=>exact⟨_,AL,AM,bc,.pass (x:=.inLoop c) rfl (fun _ _=>.inl (by simp)) rR⟩
   |goto l=>exact⟨_,AL,AM,bc,.pass (x:=.inLoop c) rfl (fun _ _=>.inl (by simp)) rR⟩
   |ret=>exact⟨_,AL,AM,bc,.pass (x:=.inLoop c) rfl (fun _ _=>.inl (by simp)) rR⟩
   |panic asP=>exact⟨_,AL,AM,bc,.pass (x:=.inLoop c) rfl (fun _ _=>.inl (by simp)) rR⟩
   |outgrown=>exact⟨_,AL,AM,bc,.pass (x:=.inLoop c) rfl (fun _ _=>.inl (by simp)) rR⟩
 obtain⟨e,a7,w',bc,rR⟩:=key _ a w h₀
 exact⟨e,a7,w',bc,.of_steps (.one (fenced_calm hb hr rfl) stepR_loop) rR⟩
structure Fin (C:Ctx) (fid:Nat->Nat) (vars:List Nat) (N base:Nat) (st:aq) (G:bX) (w:World) (aF:aq) (G':bX) (a7:Act) (w':World):Prop where
 rel:dy C fid vars N G' aF a7 w'
 ext:∀m,m<=aF.low->Ext G w G' w' m st.H.length
 marks:kF C G' w' base a7.defers
def pL (C:Ctx)(fid:Nat->Nat)(call:cU)(n:Nat)(c:Code):Prop:=
 ∀(ac:cj) (vars:List Nat) (N:Nat),C.code vars N c=some ac->∀(st:aq) (x:X) (aF:aq),exec call n ac st=some (x,aF)->
 ∀(G:bX) (a:Act) (w:World) (ro:Option Nat) (base:Nat) (Q:Exit->Act->World->Prop),dy C fid vars N G st a w->uU G st.ro ro->kF C G w base a.defers->base<=w.heap.size->
  (∀G' a7 w',Fin C fid vars N base st G w aF G' a7 w'->Q (AK x) a7 w')->c.wpIn (en ro) 0 C.P Q a w
section
variable{call:cU}{n:Nat}
theorem Fin.refl{vars:List Nat}{N base:Nat}{st:aq}{a:Act}(h:dy C fid vars N G st a w)(k:kF C G w base a.defers):Fin C fid vars N base st G w st G a w:=
 ⟨h,fun m _=>.refl _ _ _ _,k⟩
theorem Fin.trans{vars:List Nat}{N base:Nat}{st b4 fU:aq}{ay bl:bX}{ai a2:Act}{aH bG:World}(h:Fin C fid vars N base st G w b4 ay ai aH)(k:Fin C fid vars N base b4 ay aH fU bl a2 bG)
  (f1:gb st b4) (f2:gb b4 fU):Fin C fid vars N base st G w fU bl a2 bG:=
 ⟨k.rel,fun m hm=>(h.ext m (cV hm f2.1.low)).trans ((k.ext m hm).le (aK _) f1.1.len),k.marks⟩
theorem ad9 (bu:eZ C fid)(a6:gH C fid call){id:Nat}{ops:Array Oper}{os:List Oper}{gW:Oper}{c:Call}{f:Operand}{lS:ag}{vars:List Nat}{N:Nat}{bz:List bO}{st aF:aq}{wr:List Bool}{a:Act}{base:Nat}{Q:Exit->Act->World->Prop}
  (mJ:ops.toList=os++[gW]) (aea:gW.op=.defer c) (nC:c.callee=.value f) (C2:c.args= #[]) (bj:gW.guard=none) (AE:gW.dst=none) (hm:dH (C.oper vars N ops) os=some bz) (ab:C.b3 vars f=some lS)
  (he:cQ call bz {st with aG:=[]} []=some (aF,wr)) (bx:Ku C.Aa (lS.ae aF.aG aF.av)=true) (U:dy C fid vars N G st a w) (eE:kF C G w base a.defers)
  (dz:∀G' a7 w',dy C fid vars N G' aF a7 w'->(∀m,m<=aF.low->Ext G w G' w' m st.H.length)->kF C G' w' base a7.defers->Q .normal a7 w'):
  (Code.region id ops false).wpIn (en none) 0 C.P Q a w:=by
 obtain⟨S,aR,h0,hn,-,hs⟩:=uN _ _ _ _ _ he
 have hlen:bz.length=os.length:=uF _ hm
 have dJ:ops.size=os.length+1:=by rw[<-hB,mJ];simp
 have key:∀k j,j+k=os.length->∀bl ai bG,dy C fid vars N bl (S j) ai bG->(∀m,m<=(S j).low->Ext G w bl bG m st.H.length)->ai.defers=a.defers->st.H.length<=(S j).H.length->
   wpOpsIn (en none) 0 C.P ops Q (List.range' j (k+1)) ai bG:=by
  intro k
  induction k with
  |zero=>
   intro j hj bl ai bG bA b9 eD _
   have e:j=bz.length:=by omega
   subst e
   rw[hn]at bA b9
   have ho:ops[bz.length]? =some gW:=by rw[<-auF,mJ,hlen];simp
   rw[ub,wpOpsIn_cons]
   have fg:=rX bu bA f lS ab
   unfold Ku at bx
   split at bx
   ·rename_i i cs AD
    rw[AD]at fg
    obtain⟨xs,cR,eQ,SZ,ad⟩:=fg.Ak
    cases eQ
    unfold wpOpIn
    rw[ho]
    have hw:Region.wanted gW (yielded ops ai.tmps)=true:=by unfold Region.wanted;rw[bj]
    simp only[hw,if_true]
    refine⟨fun _ _=>trivial,?_⟩
    have cr:(Oper.semAt (en none).round ai.eval gW).run C.P bG=.ok (.defer {target:=.fn (.func i) ⟨cR⟩,args:= #[]}) bG:=by
     show(Oper.semAt none ai.eval gW).run C.P bG=_
     rw[Oper.semAt_none]
     unfold execOp
     rw[aea]
     obtain⟨Ry,fA,h7⟩:=c
     simp only at nC C2
     subst nC;subst C2
     simp only[resolve,ad,Sem.run_bind,Sem.run_pure,Result.andThen_ok]
     simp[Sem.run_pure,Deferred.ofValue]
     try rfl
    rw[cr]
    simp only[Oper.uponIn]
    rw[AE]
    show Q .normal _ _
    refine dz bl _ bG ⟨bA.rel,bA.env,bA.size,bA.low⟩ (fun m hm=>b9 m hm) ?_
    obtain⟨rs,af,dk,cq,ee⟩:=eE.ext (b9 0 (cx _))
    refine⟨.inr {target:=.fn (.func i) ⟨cR⟩,args:= #[]}::rs,?_,dk,fun r hr=>cq r (by simpa using hr),fun d hd=> ?_⟩
    ·show _::ai.defers=_
     rw[eD,af];rfl
    ·rcases dA.1 hd with hd|hd
     ·cases hd;exact bu.ab4 i (ua.1 bx) _
     ·exact ee d hd
   ·cases bx
  |succ k ih=>
   intro j hj bl ai bG bA b9 eD gx
   have mF:j<os.length:=by omega
   have kx:os[j]? =some os[j]:=by simp[mF]
   have ho:ops[j]? =some os[j]:=by rw[<-auF,mJ,gE mF];exact kx
   have C3:j<bz.length:=by omega
   have fK:bz[j]? =some bz[j]:=by simp[C3]
   have LW:s7 C vars N ops os[j] bz[j]:=AB (uG _ hm kx fK)
   have cd:=hs j _ fK
   rw[ub,wpOpsIn_cons]
   have er:=cd.bM a6.bM
   refine ye (T:=fun _=>True) bu a6 ho LW cd bA.rel (fun _=>.inl rfl) bA.low (fun t _=>bA.env t) (fun x _=>by cases x<;>trivial) (fun _ _ _ _ _=>trivial) bA.size ?_
   intro x fr ji p1 p2 p3
   have yh:aZ C fid ji (S (j+1)).H fr:=by
    cases ab:aR j with
    |true=>rw[ab]at p1;exact p1
    |false=>rw[ab]at p1;rw[cd.still a6.bM ab];exact p1
   have nB:=p2 0 (cx _)
   refine ih (j+1) (by omega) ji _ fr ⟨yh,fun t=> ?_,by rw[wG];exact bA.size,er.bound bA.low⟩ (fun m hm=>(b9 m (cV hm er.1.low)).trans ((p2 m hm).le (aK _) gx)) (by rw[put_defers];exact eD)
    (cV gx er.1.len)
   refine yg (fun d hd=>by rw[bA.size];exact LW.lt d hd) (fun h=>p3 t h) (fun h=> ?_)
   rw[cd.look LW h]
   exact(bA.env t).ext bA.rel nB
 refine wpIn_region ?_
 rw[dJ,FH]
 have iQ:=U.clear
 rw[<-h0]at iQ
 exact key os.length 0 (by omega) G a w iQ (fun m _=>.refl _ _ _ _) rfl (by rw[h0];exact aK _)
theorem aeb{C:Ctx}{vars:List Nat}{n:Nat}{ops:Array Oper}{ac:cj}(h:C.Kv vars n ops=some ac):
  ∃os gW c f bz lS,ops.toList=os++[gW]/\gW.op=.defer c/\c.callee=.value f/\c.args= #[]/\gW.guard=none/\gW.dst=none/\dH (C.oper vars n ops) os=some bz/\C.b3 vars f=some lS/\ac=.xL bz C.Aa lS:=by
 unfold Ctx.Kv at h
 split at h
 ·cases h
 ·rename_i gW hl _
  split at h
  ·rename_i f args dK c4 bj
   split at h
   ·rename_i bz lS ao hm ab
    split at h
    ·rename_i hd
     cases h
     have bf:ops.toList≠[]:=by intro e;rw[e]at hl;cases hl
     have:ops.toList.dropLast++[gW]=ops.toList:=by
      have aj:=List.getLast?_eq_some_getLast bf
      rw[hl]at aj
      cases aj
      exact List.dropLast_concat_getLast bf
     exact⟨_,gW,_,f,bz,lS,this.symm,c4,rfl,by simpa using ao,bj,by simpa using hd,hm,ab,rfl⟩
    ·cases h
   ·cases h
  ·cases h
 ·cases h
theorem aec (cD:C.P.follows .mixedOrders=true)(bu:eZ C fid)(a6:gH C fid call)(id:Nat)(ops:Array Oper)(draw:Bool):pL C fid call n (.region id ops draw):=by
 intro ac vars N hc st x aF he G a w ro base Q U eJ eE hb dz
 simp only[Ctx.code]at hc
 split at hc
 ·rename_i r hd
  cases hc
  split at hd
  ·cases hd
  ·rename_i LX
   have LX:draw=false:=by simpa using LX
   subst LX
   obtain⟨os,gW,c,f,bz,lS,h1,h2,ar,aQ,h5,ft,kZ,aed,rfl⟩:=aeb hd
   simp only[exec,aq.fp]at he
   split at he
   ·rename_i b4 wr hex
    split at he
    ·rename_i bx
     cases he
     simp only[b8]at bx
     have AO:st.ro=none:=by
      have:=(oa a6.bM _ _ _ _ _ (by exact U.low) hex).2
      simp only at this
      simpa[this]using bx.1
     rw[AO]at eJ
     have aee:ro=none:=by
      cases ro with
      |none=>rfl
      |some b=>exact eJ.elim
     subst aee
     exact ad9 bu a6 h1 h2 ar aQ h5 ft kZ aed hex bx.2 U eE fun G' a7 w' bA b9 eD=>dz G' a7 w' ⟨bA.clear,b9,eD⟩
    ·cases he
   ·cases he
 split at hc
 ·rename_i bz hm
  cases hd:draw with
  |false=>
   rw[hd]at hc
   simp only[ue,if_true,az]at hc
   subst hc
   simp only[exec,aq.fp]at he
   split at he
   ·rename_i b4 wr h1
    cases he
    exact adI bu a6 hm h1 U fun G' a7 w' bA b9 eD=>dz G' a7 w' ⟨bA.clear,b9,by rw[eD];exact eE.ext (b9 0 (cx _))⟩
   ·cases he
  |true=>
   rw[hd]at hc
   simp only[hZ,hY,if_false]at hc
   split at hc
   ·rename_i ep
    simp only[b8]at ep
    obtain⟨⟨h1,h2⟩,ar⟩:=ep
    cases hc
    simp only[exec,aq.fp]at he
    split at he
    ·rename_i b4 wr aQ
     split at he
     ·rename_i hin
      cases he
      exact ad4 cD bu a6 hm h1 h2 ar aQ hin U fun G' a7 w' bA b9 eD=>dz G' a7 w' ⟨bA.clear,b9,by rw[eD];exact eE.ext (b9 0 (cx _))⟩
     ·cases he
    ·cases he
   ·cases hc
 ·cases hc
theorem aef (er:l3 call){x y:Code}(hx:pL C fid call n x)(hy:pL C fid call n y):pL C fid call n (.seq x y):=by
 intro ac vars N hc st r aF he G a w ro base Q U eJ eE hb dz
 simp only[Ctx.code]at hc
 split at hc
 ·rename_i cv kX h1 h2
  cases hc
  simp only[exec,aq.fp]at he
  refine wpIn_seq ?_
  split at he
  ·rename_i b4 lY
   have f1:=l4 er n _ _ _ _ U.low lY
   refine hx _ _ _ h1 _ _ _ lY G a w ro base _ U eJ eE hb fun ay ai aH gd=> ?_
   have f2:=l4 er n _ _ _ _ gd.rel.low he
   exact hy _ _ _ h2 _ _ _ he ay ai aH ro base _ gd.rel (by rw[f1.2];exact eJ.ext (gd.ext 0 (cx _))) gd.marks (cV hb (gd.ext 0 (cx _)).size) fun bl a2 bG ta=>dz bl a2 bG (gd.trans ta f1 f2)
  ·rename_i bf
   refine hx _ _ _ h1 _ _ _ he G a w ro base _ U eJ eE hb fun ay ai aH gd=> ?_
   have:=dz ay ai aH gd
   cases r with
   |normal=>exact absurd he (bf _)
   |exit id=>exact this
   |ret=>exact this
 ·cases hc
theorem aeg (bu:eZ C fid){o:Operand}{x y:Code}(hx:pL C fid call n x)(hy:pL C fid call n y):pL C fid call n (.cond o x y):=by
 intro ac vars N hc st r aF he G a w ro base Q U eJ eE hb dz
 simp only[Ctx.code]at hc
 split at hc
 ·rename_i c cv kX h0 h1 h2
  cases hc
  simp only[exec,aq.fp]at he
  have ad:=rX bu U o c h0
  split at he
  ·rename_i oV
   rw[oV]at ad
   exact wpIn_cond_true ad.kz (hx _ _ _ h1 _ _ _ he G a w ro base Q U eJ eE hb dz)
  ·rename_i oV
   rw[oV]at ad
   exact wpIn_cond_false ad.kz (hy _ _ _ h2 _ _ _ he G a w ro base Q U eJ eE hb dz)
  ·cases he
 ·cases hc
theorem aeh{id:Nat}{x:Code}(hx:pL C fid call n x):pL C fid call n (.block id x):=by
 intro ac vars N hc st r aF he G a w ro base Q U eJ eE hb dz
 simp only[Ctx.code]at hc
 obtain⟨cv,h1,rfl⟩:=ct.1 hc
 simp only[exec,aq.fp]at he
 refine wpIn_block ?_
 split at he
 ·rename_i sU b4 lY
  refine hx _ _ _ h1 _ _ _ lY G a w ro base _ U eJ eE hb fun ay ai aH gd=> ?_
  split at he
  ·rename_i hid
   cases he
   simp only[AK,Exit.inBlock,hid,if_true]
   exact dz ay ai aH gd
  ·rename_i hid
   cases he
   simp only[AK,Exit.inBlock,hid,if_false]
   exact dz ay ai aH gd
 ·rename_i bf
  refine hx _ _ _ h1 _ _ _ he G a w ro base _ U eJ eE hb fun ay ai aH gd=> ?_
  have:=dz ay ai aH gd
  cases r with
  |normal=>exact this
  |exit id=>exact absurd he (bf _ _)
  |ret=>exact this
theorem aei (er:l3 call){x:Code}(hx:pL C fid call n x):pL C fid call n (.loop x):=by
 intro ac vars N hc st r aF he G a w ro base Q U eJ eE hb dz
 simp only[Ctx.code]at hc
 obtain⟨cv,h1,rfl⟩:=ct.1 hc
 simp only[exec,aq.fp]at he
 refine GN (fun k ai aH=>∃b4 ay,iter (exec call n cv) k b4=some (r,aF)/\gb st b4/\Fin C fid vars N base st G w b4 ay ai aH) ?_ ⟨st,G,he,.refl _,.refl U eE⟩
 rintro k ai aH ⟨b4,ay,hi,ab,gd⟩
 cases k with
 |zero=>simp[iter]at hi
 |succ k=>
  refine⟨k,rfl,?_⟩
  simp only[iter]at hi
  have AO:uU ay b4.ro ro:=by rw[ab.2];exact eJ.ext (gd.ext 0 (cx _))
  have oV:base<=aH.heap.size:=cV hb (gd.ext 0 (cx _)).size
  split at hi
  ·rename_i fU mX
   have f2:=l4 er n _ _ _ _ gd.rel.low mX
   exact hx _ _ _ h1 _ _ _ mX ay ai aH ro base _ gd.rel AO gd.marks oV fun bl a2 bG ta=>⟨fU,bl,hi,ab.trans f2,gd.trans ta ab f2⟩
  ·rename_i bf
   have f2:=l4 er n _ _ _ _ gd.rel.low hi
   refine hx _ _ _ h1 _ _ _ hi ay ai aH ro base _ gd.rel AO gd.marks oV fun bl a2 bG ta=> ?_
   have:=dz bl a2 bG (gd.trans ta ab f2)
   cases r with
   |normal=>exact absurd hi (bf _)
   |exit id=>exact this
   |ret=>exact this
end
end Go.Abs
