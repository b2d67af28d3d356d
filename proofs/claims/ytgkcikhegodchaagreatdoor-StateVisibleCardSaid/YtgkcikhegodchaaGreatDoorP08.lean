/- Texts of this claim, joined and written short by a program. -/
import Derived.Test.YtgkcikhegodchaaGreatDoorP07
import Derived.Test.YtgkcikhegodchaaGreatDoorP01
import Derived.Laws.IdiomRangeMap
import Derived.Test.YtgkcikhegodchaaGreatDoorP00
set_option linter.unusedVariables false
set_option linter.unusedSimpArgs false
set_option linter.unusedSectionVars false
namespace Go.Abs
open Go
variable{C:Ctx}{fid:Nat->Nat}{w w':World}{G G':cg}{H H':Heap}
def C0:X->Exit
 | .normal=>.normal
 | .exit id=>.exit id
 | .ret=>.ret
def wD (G:cg):Option Nat->Option Nat->Prop
 |none,none=>True
 |some l,some b=>∃h,G.β l=some h/\h.tag=0/\h.b=b
 | _,_=>False
theorem wD.ext{m n:Nat}(h:Ext G w G' w' m n):∀{l b:Option Nat},wD G l b->wD G' l b
 |none,none,_=>trivial
 |some l,some b,⟨h0,e,t,q⟩=>by
  obtain⟨h',e',-,z,m,-⟩:=h.homes l h0 e;exact⟨h',e',z t,by rw[(m ((z t).trans t.symm)).1];exact q⟩
 |none,some _,k|some _,none,k=>k.elim
def J3 (r:Nat):Deferred:={target:=.collected r,args:= #[]}
structure Fz (G:cg) (w:World) (base r:Nat):Prop where
 base:base<=r
 lt:r<w.heap.size
 obj:w.heap[r]? =some (.deferred (some []))
 home:∀l h,G.β l=some h->h.b≠r
 c9:¬G.I r
def lu (C:Ctx)(G:cg)(w:World)(base:Nat)(ds:List Deferred):Prop:=∃rs:List (Nat ⊕ Deferred),ds=rs.map (fun| .inl r=>J3 r| .inr d=>d)/\(rs.filterMap fun| .inl r=>some r| .inr _=>none).Nodup/\
 (∀r,.inl r∈rs->Fz G w base r)/\∀d,.inr d∈rs->JB C.P d
theorem Fz.ext{m n base r:Nat}(h:Ext G w G' w' m n)(k:Fz G w base r):Fz G' w' base r where
 base:=k.base
 lt:=se k.lt h.size
 obj:=by rw[h.eH r k.lt fun l x ad e2=>absurd e2 (k.home l x ad)];exact k.obj
 home l x e q:=by
  rcases h.Oj l x e with⟨cb,eP,eb⟩|hs
  ·exact k.home l cb eP (eb.trans q)
  ·have:=k.lt;omega
 c9 hi:=by
  rcases h.pI r hi with h1|h1|⟨l,x,e,eb⟩
  ·exact k.c9 h1
  ·have:=k.lt;omega
  ·exact k.home l x e eb
theorem lu.ext{m n base:Nat}{ds:List Deferred}(h:Ext G w G' w' m n):lu C G w base ds->lu C G' w' base ds
 |⟨rs,e,dt,k,q⟩=>⟨rs,e,dt,fun r hr=>(k r hr).ext h,q⟩
theorem tH (bP:fl C fid){vars:List Nat}{N:Nat}{st:aw}{a:Act}(U:dN C fid vars N G st a w):fK C fid vars G w (ai.ah st.aM st.ay) a.eval:=fun x cO hx=>by
 cases x with
 |tmp t=>
  simp only[Ctx.cl,aD]at hx;have e:cO.ah st.aM st.ay=dT vars st t:=by rw[<-hx];unfold dT;split<;>rfl
  rw[e];exact U.env t
 |const u=>
  simp only[Ctx.cl]at hx;obtain⟨Xh,jq,rfl⟩:=cD.1 hx;rcases EW (I:=G.I) (w:=w) u jq with rfl|hp
  ·exact .undef _
  ·exact .p _ _ hp
 |func f=>exact Oy bP hx
 |global g=>simp[Ctx.cl]at hx
theorem J4{F:Fence}{n:Nat}{P:Program}{Q:Exit->Act->World->Prop}{c:Code}(I:Nat->Act->World->Prop)
  (round:∀k a w,I k a w->∃bJ,k=bJ+1/\c.wpIn F n P (Exit.then (I bJ) Q) a w) {j:Nat} {a:Act} {w:World} (h₀:I j a w):(Code.loop c).wpIn F n P Q a w:=by
 intro b k cs e9 hb hr
 have key:∀j a w,I j a w->
   ∃e bn w',Q e bn w'/\ArrivesIn (Machine.fenced P F) P (lone (b.atR a (.code c::.inLoop c::k)) cs w) b k cs e bn w':=by
  intro j
  induction j with
  |zero=>
   intro a w bp;obtain⟨bJ,e,-⟩:=round 0 a w bp;omega
  |succ j ih=>
   intro a w bp;obtain⟨bJ,e,dd⟩:=round _ a w bp;cases e;obtain⟨e,C1,C2,bu,tB⟩:=dd b (.inLoop c::k) cs e9 hb hr;cases e with
   |normal=>
    obtain⟨Og,akt,aku,akv,akw⟩:=ih C1 C2 bu;exact⟨Og,akt,aku,akv,.of_steps (StepsIn.trans tB (.one (fenced_calm hb hr rfl) stepR_inLoop)) akw⟩
   |exit id=>exact⟨_,C1,C2,bu,.pass (x:=.inLoop c) rfl (fun _ _=>.inl (by simp)) tB⟩
   |goto l=>exact⟨_,C1,C2,bu,.pass (x:=.inLoop c) rfl (fun _ _=>.inl (by simp)) tB⟩
   |ret=>exact⟨_,C1,C2,bu,.pass (x:=.inLoop c) rfl (fun _ _=>.inl (by simp)) tB⟩
   |panic aAi=>exact⟨_,C1,C2,bu,.pass (x:=.inLoop c) rfl (fun _ _=>.inl (by simp)) tB⟩
   |outgrown=>exact⟨_,C1,C2,bu,.pass (x:=.inLoop c) rfl (fun _ _=>.inl (by simp)) tB⟩
 obtain⟨e,bn,w',bu,tB⟩:=key _ a w h₀;exact⟨e,bn,w',bu,.of_steps (.one (fenced_calm hb hr rfl) stepR_loop) tB⟩
structure Fin (C:Ctx) (fid:Nat->Nat) (vars:List Nat) (N base:Nat) (st:aw) (G:cg) (w:World) (bf:aw) (G':cg) (bn:Act) (w':World):Prop where
 rel:dN C fid vars N G' bf bn w'
 ext:∀m,m<=bf.low->Ext G w G' w' m st.H.length
 marks:lu C G' w' base bn.defers
def rA (C:Ctx)(fid:Nat->Nat)(call:c5)(n:Nat)(c:Code):Prop:=
 ∀(ac:cF) (vars:List Nat) (N:Nat),C.code vars N c=some ac->∀(st:aw) (x:X) (bf:aw),exec call n ac st=some (x,bf)->
 ∀(G:cg) (a:Act) (w:World) (ro:Option Nat) (base:Nat) (Q:Exit->Act->World->Prop),dN C fid vars N G st a w->wD G st.ro ro->lu C G w base a.defers->base<=w.heap.size->
  (∀G' bn w',Fin C fid vars N base st G w bf G' bn w'->Q (C0 x) bn w')->c.wpIn (eV ro) 0 C.P Q a w
section
variable{call:c5}{n:Nat}
theorem Fin.refl{vars:List Nat}{N base:Nat}{st:aw}{a:Act}(h:dN C fid vars N G st a w)(k:lu C G w base a.defers):Fin C fid vars N base st G w st G a w:=
 ⟨h,fun m _=>.refl _ _ _ _,k⟩
theorem Fin.trans{vars:List Nat}{N base:Nat}{st st1 st2:aw}{aB bC:cg}{ak a2:Act}{aH bQ:World}(h:Fin C fid vars N base st G w st1 aB ak aH)(k:Fin C fid vars N base st1 aB aH st2 bC a2 bQ)
  (f1:gN st st1) (f2:gN st1 st2):Fin C fid vars N base st G w st2 bC a2 bQ:=
 ⟨k.rel,fun m hm=>(h.ext m (c4 hm f2.1.low)).trans ((k.ext m hm).le (aN _) f1.1.len),k.marks⟩
theorem akx (bP:fl C fid)(bm:hD C fid call){id:Nat}{ops:Array Oper}{os:List Oper}{h9:Oper}{c:Call}{f:Operand}{mC:ai}{vars:List Nat}{N:Nat}{bR:List bU}{st bf:aw}{wr:List Bool}{a:Act}{base:Nat}{Q:Exit->Act->World->Prop}
  (qL:ops.toList=os++[h9]) (aky:h9.op=.defer c) (oW:c.callee=.value f) (FA:c.args= #[]) (bb:h9.guard=none) (CW:h9.dst=none) (hm:ee (C.oper vars N ops) os=some bR) (ag:C.cl vars f=some mC)
  (he:c8 call bR {st with aM:=[]} []=some (bf,wr)) (a1:NS C.zE (mC.ah bf.aM bf.ay)=true) (U:dN C fid vars N G st a w) (e7:lu C G w base a.defers)
  (dO:∀G' bn w',dN C fid vars N G' bf bn w'->(∀m,m<=bf.low->Ext G w G' w' m st.H.length)->lu C G' w' base bn.defers->Q .normal bn w'):
  (Code.region id ops false).wpIn (eV none) 0 C.P Q a w:=by
 obtain⟨S,bc,h0,hn,-,hs⟩:=u1 _ _ _ _ _ he;have hlen:bR.length=os.length:=wm _ hm;have dr:ops.size=os.length+1:=by rw[<-gY,qL];simp
 have key:∀k j,j+k=os.length->∀bC ak bQ,dN C fid vars N bC (S j) ak bQ->(∀m,m<=(S j).low->Ext G w bC bQ m st.H.length)->ak.defers=a.defers->st.H.length<=(S j).H.length->
   wpOpsIn (eV none) 0 C.P ops Q (List.range' j (k+1)) ak bQ:=by
  intro k
  induction k with
  |zero=>
   intro j hj bC ak bQ bI cq e6 _;have e:j=bR.length:=by omega
   subst e;rw[hn]at bI cq;have ho:ops[bR.length]? =some h9:=by rw[<-iG,qL,hlen];simp
   rw[uM,wpOpsIn_cons];have fC:=tH bP bI f mC ag;unfold NS at a1;split at a1
   ·rename_i i cs CV
    rw[CV]at fC;obtain⟨xs,cQ,e0,XG,af⟩:=fC.CE;cases e0;unfold wpOpIn;rw[ho];have hw:Region.wanted h9 (yielded ops ak.tmps)=true:=by unfold Region.wanted;rw[bb]
    simp only[hw,if_true];refine⟨fun _ _=>trivial,?_⟩
    have ct:(Oper.semAt (eV none).round ak.eval h9).run C.P bQ=.ok (.defer {target:=.fn (.func i) ⟨cQ⟩,args:= #[]}) bQ:=by
     show(Oper.semAt none ak.eval h9).run C.P bQ=_;rw[Oper.semAt_none];unfold execOp;rw[aky];obtain⟨Wi,iA,jP⟩:=c;simp only at oW FA;subst oW;subst FA;simp only[resolve,af,Sem.run_bind,Sem.run_pure,Result.andThen_ok];simp[Sem.run_pure,Deferred.ofValue]
     try rfl
    rw[ct];simp only[Oper.uponIn];rw[CW];show Q .normal _ _;refine dO bC _ bQ ⟨bI.rel,bI.env,bI.size,bI.low⟩ (fun m hm=>cq m hm) ?_;obtain⟨rs,ad,dt,b4,dq⟩:=e7.ext (cq 0 (cN _));refine⟨.inr {target:=.fn (.func i) ⟨cQ⟩,args:= #[]}::rs,?_,dt,fun r hr=>b4 r (by simpa using hr),fun d hd=> ?_⟩
    ·show _::ak.defers=_
     rw[e6,ad];rfl
    ·rcases dG.1 hd with hd|hd
     ·cases hd;exact bP.aix i (uK.1 a1) _
     ·exact dq d hd
   ·cases a1
  |succ k ih=>
   intro j hj bC ak bQ bI cq e6 gU;have oN:j<os.length:=by omega
   have ka:os[j]? =some os[j]:=by simp[oN]
   have ho:ops[j]? =some os[j]:=by rw[<-iG,qL,fY oN];exact ka
   have FB:j<bR.length:=by omega
   have gy:bR[j]? =some bR[j]:=by simp[FB]
   have Pz:u0 C vars N ops os[j] bR[j]:=CU (wo _ hm ka gy);have ca:=hs j _ gy;rw[uM,wpOpsIn_cons];have eR:=ca.b7 bm.b7;refine z7 (T:=fun _=>True) bP bm ho Pz ca bI.rel (fun _=>.inl rfl) bI.low (fun t _=>bI.env t) (fun x _=>by cases x<;>trivial) (fun _ _ _ _ _=>trivial) bI.size ?_;intro x gh kd p1 p2 p3
   have Ab:bd C fid kd (S (j+1)).H gh:=by
    cases ag:bc j with
    |true=>rw[ag]at p1;exact p1
    |false=>rw[ag]at p1;rw[ca.still bm.b7 ag];exact p1
   have nx:=p2 0 (cN _)
   refine ih (j+1) (by omega) kd _ gh ⟨Ab,fun t=> ?_,by rw[yi];exact bI.size,eR.bound bI.low⟩ (fun m hm=>(cq m (c4 hm eR.1.low)).trans ((p2 m hm).le (aN _) gU)) (by rw[put_defers];exact e6)
    (c4 gU eR.1.len)
   refine Aa (fun d hd=>by rw[bI.size];exact Pz.lt d hd) (fun h=>p3 t h) (fun h=> ?_);rw[ca.look Pz h];exact(bI.env t).ext bI.rel nx
 refine wpIn_region ?_;rw[dr,I5];have jO:=U.clear;rw[<-h0]at jO;exact key os.length 0 (by omega) G a w jO (fun m _=>.refl _ _ _ _) rfl (by rw[h0];exact aN _)
theorem akz{C:Ctx}{vars:List Nat}{n:Nat}{ops:Array Oper}{ac:cF}(h:C.NU vars n ops=some ac):
  ∃os h9 c f bR mC,ops.toList=os++[h9]/\h9.op=.defer c/\c.callee=.value f/\c.args= #[]/\h9.guard=none/\h9.dst=none/\ee (C.oper vars n ops) os=some bR/\C.cl vars f=some mC/\ac=.zB bR C.zE mC:=by
 unfold Ctx.NU at h;split at h
 ·cases h
 ·rename_i h9 hl _
  split at h
  ·rename_i f args ea db bb
   split at h
   ·rename_i bR mC al hm ag
    split at h
    ·rename_i hd
     cases h;have bq:ops.toList≠[]:=by intro e;rw[e]at hl;cases hl
     have:ops.toList.dropLast++[h9]=ops.toList:=by
      have e2:=List.getLast?_eq_some_getLast bq;rw[hl]at e2;cases e2;exact List.dropLast_concat_getLast bq
     exact⟨_,h9,_,f,bR,mC,this.symm,db,rfl,by simpa using al,bb,by simpa using hd,hm,ag,rfl⟩
    ·cases h
   ·cases h
  ·cases h
 ·cases h
theorem akA (cW:C.P.follows .mixedOrders=true)(bP:fl C fid)(bm:hD C fid call)(id:Nat)(ops:Array Oper)(draw:Bool):rA C fid call n (.region id ops draw):=by
 intro ac vars N hc st x bf he G a w ro base Q U e9 e7 hb dO;simp only[Ctx.code]at hc;split at hc
 ·rename_i r hd
  cases hc;split at hd
  ·cases hd
  ·rename_i C3
   have C3:draw=false:=by simpa using C3
   subst C3;obtain⟨os,h9,c,f,bR,mC,h1,h2,au,a7,h5,fL,mS,yg,rfl⟩:=akz hd;simp only[exec,aw.gb]at he;split at he
   ·rename_i st1 wr hex
    split at he
    ·rename_i a1
     cases he;simp only[cm]at a1
     have C4:st.ro=none:=by
      have:=(pU bm.b7 _ _ _ _ _ (by exact U.low) hex).2;simp only at this;simpa[this]using a1.1
     rw[C4]at e9
     have akB:ro=none:=by
      cases ro with
      |none=>rfl
      |some b=>exact e9.elim
     subst akB;exact akx bP bm h1 h2 au a7 h5 fL mS yg hex a1.2 U e7 fun G' bn w' bI cq e6=>dO G' bn w' ⟨bI.clear,cq,e6⟩
    ·cases he
   ·cases he
 split at hc
 ·rename_i bR hm
  cases hd:draw with
  |false=>
   rw[hd]at hc;simp only[pA,if_true,aD]at hc;subst hc;simp only[exec,aw.gb]at he;split at he
   ·rename_i st1 wr h1
    cases he;exact aj8 bP bm hm h1 U fun G' bn w' bI cq e6=>dO G' bn w' ⟨bI.clear,cq,by rw[e6];exact e7.ext (cq 0 (cN _))⟩
   ·cases he
  |true=>
   rw[hd]at hc;simp only[fZ,fV,if_false]at hc;split at hc
   ·rename_i eB
    simp only[cm]at eB;obtain⟨⟨h1,h2⟩,au⟩:=eB;cases hc;simp only[exec,aw.gb]at he;split at he
    ·rename_i st1 wr a7
     split at he
     ·rename_i hin
      cases he;exact aks cW bP bm hm h1 h2 au a7 hin U fun G' bn w' bI cq e6=>dO G' bn w' ⟨bI.clear,cq,by rw[e6];exact e7.ext (cq 0 (cN _))⟩
     ·cases he
    ·cases he
   ·cases hc
 ·cases hc
theorem akC (eR:mN call){x y:Code}(hx:rA C fid call n x)(hy:rA C fid call n y):rA C fid call n (.seq x y):=by
 intro ac vars N hc st r bf he G a w ro base Q U e9 e7 hb dO;simp only[Ctx.code]at hc;split at hc
 ·rename_i cO lK h1 h2
  cases hc;simp only[exec,aw.gb]at he;refine wpIn_seq ?_;split at he
  ·rename_i st1 mH
   have f1:=mO eR n _ _ _ _ U.low mH;refine hx _ _ _ h1 _ _ _ mH G a w ro base _ U e9 e7 hb fun aB ak aH gO=> ?_;have f2:=mO eR n _ _ _ _ gO.rel.low he;exact hy _ _ _ h2 _ _ _ he aB ak aH ro base _ gO.rel (by rw[f1.2];exact e9.ext (gO.ext 0 (cN _))) gO.marks (c4 hb (gO.ext 0 (cN _)).size) fun bC a2 bQ u3=>dO bC a2 bQ (gO.trans u3 f1 f2)
  ·rename_i bq
   refine hx _ _ _ h1 _ _ _ he G a w ro base _ U e9 e7 hb fun aB ak aH gO=> ?_;have:=dO aB ak aH gO;cases r with
   |normal=>exact absurd he (bq _)
   |exit id=>exact this
   |ret=>exact this
 ·cases hc
theorem akD (bP:fl C fid){o:Operand}{x y:Code}(hx:rA C fid call n x)(hy:rA C fid call n y):rA C fid call n (.cond o x y):=by
 intro ac vars N hc st r bf he G a w ro base Q U e9 e7 hb dO;simp only[Ctx.code]at hc;split at hc
 ·rename_i c cO lK h0 h1 h2
  cases hc;simp only[exec,aw.gb]at he;have af:=tH bP U o c h0;split at he
  ·rename_i oQ
   rw[oQ]at af;exact wpIn_cond_true af.ln (hx _ _ _ h1 _ _ _ he G a w ro base Q U e9 e7 hb dO)
  ·rename_i oQ
   rw[oQ]at af;exact wpIn_cond_false af.ln (hy _ _ _ h2 _ _ _ he G a w ro base Q U e9 e7 hb dO)
  ·cases he
 ·cases hc
theorem akE{id:Nat}{x:Code}(hx:rA C fid call n x):rA C fid call n (.block id x):=by
 intro ac vars N hc st r bf he G a w ro base Q U e9 e7 hb dO;simp only[Ctx.code]at hc;obtain⟨cO,h1,rfl⟩:=cD.1 hc;simp only[exec,aw.gb]at he;refine wpIn_block ?_;split at he
 ·rename_i uQ st1 mH
  refine hx _ _ _ h1 _ _ _ mH G a w ro base _ U e9 e7 hb fun aB ak aH gO=> ?_;split at he
  ·rename_i hid
   cases he;simp only[C0,Exit.inBlock,hid,if_true];exact dO aB ak aH gO
  ·rename_i hid
   cases he;simp only[C0,Exit.inBlock,hid,if_false];exact dO aB ak aH gO
 ·rename_i bq
  refine hx _ _ _ h1 _ _ _ he G a w ro base _ U e9 e7 hb fun aB ak aH gO=> ?_;have:=dO aB ak aH gO;cases r with
  |normal=>exact this
  |exit id=>exact absurd he (bq _ _)
  |ret=>exact this
theorem akF (eR:mN call){x:Code}(hx:rA C fid call n x):rA C fid call n (.loop x):=by
 intro ac vars N hc st r bf he G a w ro base Q U e9 e7 hb dO;simp only[Ctx.code]at hc;obtain⟨cO,h1,rfl⟩:=cD.1 hc;simp only[exec,aw.gb]at he;refine J4 (fun k ak aH=>∃st1 aB,iter (exec call n cO) k st1=some (r,bf)/\gN st st1/\Fin C fid vars N base st G w st1 aB ak aH) ?_ ⟨st,G,he,.refl _,.refl U e7⟩;rintro k ak aH ⟨st1,aB,hi,ag,gO⟩;cases k with
 |zero=>simp[iter]at hi
 |succ k=>
  refine⟨k,rfl,?_⟩;simp only[iter]at hi;have C4:wD aB st1.ro ro:=by rw[ag.2];exact e9.ext (gO.ext 0 (cN _))
  have oQ:base<=aH.heap.size:=c4 hb (gO.ext 0 (cN _)).size;split at hi
  ·rename_i st2 nV
   have f2:=mO eR n _ _ _ _ gO.rel.low nV;exact hx _ _ _ h1 _ _ _ nV aB ak aH ro base _ gO.rel C4 gO.marks oQ fun bC a2 bQ u3=>⟨st2,bC,hi,ag.trans f2,gO.trans u3 ag f2⟩
  ·rename_i bq
   have f2:=mO eR n _ _ _ _ gO.rel.low hi;refine hx _ _ _ h1 _ _ _ hi aB ak aH ro base _ gO.rel C4 gO.marks oQ fun bC a2 bQ u3=> ?_;have:=dO bC a2 bQ (gO.trans u3 ag f2);cases r with
   |normal=>exact absurd hi (bq _)
   |exit id=>exact this
   |ret=>exact this
end
end Go.Abs
namespace Go.Abs
open Go
variable{C:Ctx}{fid:Nat->Nat}{w w':World}{G G':cg}{H H':Heap}
theorem akG{P:Program}(fn:FuncId)(tmps:Array Value)(ps:Array Tmp)(assign body:Code){b:Nat}{L:Loop}(h:w.heap[b]? =some (.loop L)):
  (Instr.enterLoop fn tmps ps assign body (some b)).run P w=.ok (w.heap.size,[]) (w.alloc (.loop {state:=.ready,pending:=none,fn,tmps,params:=ps,assign,body,defers:=L.defers})):=by
 unfold Instr.enterLoop;simp only[Sem.run_bind,run_getLoop h,run_newObj_alloc,Result.andThen,Sem.run_pure]
theorem PA{vars:List Nat}{st:aw}{t:Nat}(h:t∈vars):dT vars st t=bZ st.ay t:=by
 unfold dT;rw[if_pos (uK.2 h)]
theorem FC (U:bd C fid G H w){l:Nat}{h:Home}(hb:G.β l=some h){st:LoopState}{uP:X}{env:Env}{ps:List Nat}{aX cJ:cF}(hl:H[l]? =some (.loop st uP env ps aX cJ)):
  h.tag=0/\h.fz=false/\∃L vars,w.heap[h.b]? =some (.loop L)/\L.state=st/\Oi uP L.pending/\
    L.params.toList=ps/\(∀t∈ps,t∈vars/\t<L.tmps.size)/\
    C.code vars L.tmps.size L.assign=some aX/\C.code vars L.tmps.size L.body=some cJ/\∀t∈vars,bw fid G w (bZ env t) (L.tmps.getD t undef):=by
 obtain⟨o,ho,hr⟩:=U.obj l h hb;rw[hl]at ho;cases ho;exact hr
theorem akH{β:Nat->Option Home}{l:Nat}{h:Home}(hb:β l=some h):cE β l h=β:=by
 funext x;unfold cE;split
 ·rename_i e;rw[e,hb]
 ·rfl
theorem turn (U:bd C fid G H w){l:Nat}{h:Home}(hb:G.β l=some h)(ag:h.fz=false)(aY:Obj)(o:cf)
  (ho:(∀b,b≠h.b->(w.putObj h.b aY).heap[b]? =w.heap[b]?)->(w.putObj h.b aY).heap[h.b]? =some aY->(∀b,G.I b->(w.putObj h.b aY).heap[b]? =w.heap[b]?)->j8 C fid G (w.putObj h.b aY) h o):
  bd C fid G (H.set l o) (w.putObj h.b aY)/\Ext G w G (w.putObj h.b aY) l H.length:=by
 have hk:∀b,b≠h.b->(w.putObj h.b aY).heap[b]? =w.heap[b]? :=fun b hB=>World.putObj_heap_other hB
 have bp:∀b,G.I b->(w.putObj h.b aY).heap[b]? =w.heap[b]? :=fun b hi=>hk b fun e=>by
  have:=(U.c9 b hi).2 l h hb e.symm;rw[ag]at this;cases this
 have h1:=ho hk (World.putObj_heap_same (U.blk l h hb)) bp;have C5:(⟨cE G.β l h,G.I⟩:cg)=G:=by rw[akH hb]
 have a:=bd.write (w':=w.putObj h.b aY) U hb ag rfl ag (aN _) id rfl (by simp) hk o (by rw[C5];exact h1);have b:=Ext.write (w':=w.putObj h.b aY) U hb ag rfl (aN _) id rfl (by simp) hk rfl rfl;rw[C5]at a b;exact⟨a,b⟩
section
variable{call:c5}{n:Nat}
theorem akI (bP:fl C fid)(bm:hD C fid call){f:Operand}{ps:Array Tmp}{aX cJ:Code}:rA C fid call n (.rangeFunc f ps aX cJ):=by
 intro ac vars N hc st r bf he G a w ro base Q U e9 e7 hb dO;simp only[Ctx.code]at hc;split at hc
 ·rename_i mC XH XI h0 h1 h2
  split at hc
  ·rename_i vW
   cases hc
   have XJ:∀t∈ps.toList,t∈vars/\t<N:=fun t ht=>by
    have:=(Array.all_eq_true_iff_forall_mem.1 vW) t (Array.mem_toList_iff.1 ht);simp only[cm,decide_eq_true_eq,uK]at this;exact⟨this.2,this.1⟩
   simp only[exec]at he;split at he
   ·cases he
   ·rename_i a1
    simp only[NJ,cm]at a1;obtain⟨J5,akJ⟩:=a1;split at he
    ·rename_i u H1 bL gm
     split at he
     ·rename_i ls uP Vy Vz tn VA Ag
      split at he
      ·cases he
      ·rename_i akK
       cases he;have z1:=tH bP U f mC h0;refine wpIn_rangeFunc fun fn _=> ?_
       obtain⟨gA,mark,R,tI,J6,PB,akL,gq,sE,C6,akM,PC,akN⟩:∃(gA:World) (mark:List Deferred) (R:Loop),
         (Instr.enterLoop fn a.tmps ps aX cJ (eV ro).round).run C.P w=.ok (gA.heap.size,mark) (gA.alloc (.loop R))/\bd C fid G st.H gA/\(∀m n,Ext G w G gA m n)/\lu C G gA base (mark++a.defers)/\
         R.state=.ready/\R.pending=none/\R.tmps=a.tmps/\R.params=ps/\R.assign=aX/\R.body=cJ:=by
        cases akO:ro with
        |none=>
         have hk:∀b,b<w.heap.size->(w.alloc (.deferred (some []))).heap[b]? =w.heap[b]? :=fun b hB=>alloc_old hB;have dr:w.heap.size<=(w.alloc (.deferred (some []))).heap.size:=by simp
         refine⟨w.alloc (.deferred (some [])),[J3 w.heap.size],{state:=.ready,pending:=none,fn,tmps:=a.tmps,params:=ps,assign:=aX,body:=cJ,defers:=w.heap.size},?_,U.rel.restore dr hk,fun m n=>.restore dr hk rfl rfl m n,?_,rfl,rfl,rfl,rfl,rfl,rfl⟩
         ·have:=run_enterLoop_outer (P:=C.P) (w:=w) fn a.tmps ps aX cJ
          rw[show(eV none).round=none from rfl,this];simp[J3]
         ·obtain⟨rs,e,dt,k,du⟩:=e7
          refine⟨.inl w.heap.size::rs,by rw[e];rfl,xQ.2 ⟨fun hin=> ?_,dt⟩,fun r hr=> ?_,fun d hd=> ?_⟩
          ·obtain⟨q,bu,e'⟩:=Vt.1 hin
           cases q with
           |inl r=>cases e';have:=(k _ bu).lt;omega
           |inr d=>cases e'
          ·rcases dG.1 hr with hr|hr
           ·cases hr
            exact⟨hb,by simp,mE _ _,fun l h e q=>by have:=U.rel.blk l h e;omega,fun hi=>by have:=(U.rel.c9 _ hi).1;omega⟩
           ·exact(k r hr).ext (.restore (G:=G) dr hk rfl rfl 0 0)
          ·rcases dG.1 hd with hd|hd
           ·cases hd
           ·exact du d hd
        |some b=>
         subst akO;cases XK:st.ro with
         |none=>rw[XK]at e9;exact e9.elim
         |some qM=>
          rw[XK]at e9 J5;obtain⟨h,e,t,q⟩:=e9;simp only[EI]at J5;split at J5
          ·rename_i qG
           obtain⟨-,-,L,vs,dP,-⟩:=FC U.rel e qG;rw[q]at dP;exact⟨w,[],{state:=.ready,pending:=none,fn,tmps:=a.tmps,params:=ps,assign:=aX,body:=cJ,defers:=L.defers},akG fn a.tmps ps aX cJ dP,U.rel,fun m n=>.refl _ _ _ _,e7,rfl,rfl,rfl,rfl,rfl,rfl⟩
          ·cases J5
       let hm:Home:=⟨gA.heap.size,0,0,false⟩;let aB:cg:=⟨cE G.β st.H.length hm,G.I⟩;have XL:mD G.β aB.β:=Cx (J6.none (aN _)) _;have XM:∀b,G.I b->aB.I b/\(gA.alloc (.loop R)).heap[b]? =gA.heap[b]? :=fun b hi=>⟨hi,alloc_old (J6.c9 b hi).1⟩;have zV:∀t,bw fid G gA (dT vars st t) (a.tmps.getD t undef):=fun t=>(U.env t).ext U.rel (PB 0 0)
       have wE:bd C fid aB (st.H++[.loop .ready .normal st.ay ps.toList XH XI]) (gA.alloc (.loop R)):=by
        refine J6.push _ _ 0 0 ⟨rfl,rfl,R,vars,mE _ _,gq,by rw[sE];trivial,by rw[akM],fun t ht=>⟨(XJ t ht).1,by rw[C6,U.size];exact(XJ t ht).2⟩,?_,?_,fun t ht=> ?_⟩
        ·rw[C6,PC,U.size];exact h1
        ·rw[C6,akN,U.size];exact h2
        ·rw[C6,<-PA ht];exact(zV t).mono XL XM
       have XN:∀m,Ext G gA aB (gA.alloc (.loop R)) m st.H.length:=fun m=>.push J6 _ 0 0 m;have Pc:bw fid aB (gA.alloc (.loop R)) (mC.ah st.aM st.ay) (a.eval f):=((z1.ext U.rel (PB 0 0)).mono XL XM)
       have akP:bj fid aB (gA.alloc (.loop R)) [.yield st.H.length] [.func (.yield gA.heap.size) #[] #[]]:=
        .cons _ _ _ _ (.yield st.H.length hm (dw _ _ _) rfl) .nil
       obtain⟨d,hd,hn,akQ⟩:=bm.run wE Pc akP gm;obtain⟨g,gs,hinv⟩:=akQ akJ rfl;rw[hinv]at hn;refine⟨gA.heap.size,mark,_,d,gA.alloc (.loop R),g,gs,_,tI,?_,fun _ _=>trivial,hinv,fun h=>by simp[eV]at h,?_⟩
       ·have e:Array.map a.eval #[Operand.const (Value.func (Fn.yield gA.heap.size) #[] #[])]=⟨[Value.func (Fn.yield gA.heap.size) #[] #[]]⟩:=by simp[Act.eval]
        simp only[resolve,rangeCall,e];exact hd
       ·have pP:Calls C.P g gs (gA.alloc (.loop R)) (rangePost (eV ro) 0 C.P gA.heap.size Q {a with defers:=mark++a.defers}):=by
         refine EE hn fun e gh hp=> ?_;obtain⟨y,rfl,bC,q1,q2,b3⟩:=hp;have Ah:=q2 0 (cN _);obtain⟨h2,e2,-,z2,m2,-⟩:=Ah.homes st.H.length hm (dw _ _ _);have t2:=z2 rfl;have e8:h2.b=gA.heap.size:=(m2 t2).1;obtain⟨-,XO,L,vs,dP,XP,wF,-⟩:=FC q1 e2 Ag;rw[e8]at dP;have hT:=turn q1 e2 XO (.loop {L with state:=.exhausted}) .gone fun _ _ _=>⟨t2,XO⟩;rw[e8]at hT;have sJ:=bm.b7 _ _ _ _ _ _ gm;have hlen:st.H.length<=H1.length:=by have:=sJ.len;simp at this;omega
         have C7:∀m,m<=min st.low bL->Ext G w bC (gh.putObj gA.heap.size (.loop {L with state:=.exhausted})) m st.H.length:=fun m kz=>
          ((PB m st.H.length).trans (XN m)).trans (((q2 m (by omega)).le (aN _) (by simp)).trans (hT.2.le (by have:=U.low;omega) hlen))
         have de:=C7 0 (cN _)
         have akR:dN C fid vars N bC {st with H:=H1.set st.H.length .gone,low:=min st.low bL} {a with defers:=mark++a.defers} (gh.putObj gA.heap.size (.loop {L with state:=.exhausted})):=
          ⟨hT.1,fun t=>(U.env t).ext U.rel de,U.size,by simp only[zu];have:=U.low;omega⟩
         have akS:lu C bC (gh.putObj gA.heap.size (.loop {L with state:=.exhausted})) base (mark++a.defers):=((akL.ext (XN 0)).ext Ah).ext (hT.2.le (cN _) (aN _));have bu:=dO bC _ _ ⟨akR,C7,akS⟩;refine⟨L.pending,_,run_endLoop dP (by rw[XP];exact akK),?_⟩;cases hp:L.pending with
         |none=>
          rw[hp]at wF bu;cases r with
          |normal=>exact bu
          |exit i=>exact wF.elim
          |ret=>exact wF.elim
         |some c=>
          rw[hp]at wF bu;cases r with
          |normal=>exact wF.elim
          |exit i=>
           cases c<;>first|exact wF.elim|skip
           rename_i j;have:j=i:=wF;subst this;exact wpIn_exit bu
          |ret=>
           cases c<;>first|exact wF.elim|skip
           exact wpIn_ret bu
        exact callsIn_wide.2 pP
     ·cases he
    ·cases he
  ·cases hc
 ·cases hc
theorem sK (cW:C.P.follows .mixedOrders=true)(bP:fl C fid)(bm:hD C fid call):∀(c:Code),rA C fid call n c
 | .skip=>by
   intro ac vars N hc st r bf he G a w ro base Q U e9 e7 hb dO;simp only[Ctx.code,aD]at hc;subst hc;simp only[exec,aD,bH]at he;obtain⟨rfl,rfl⟩:=he;exact wpIn_skip (dO G a w (.refl U e7))
 | .region id ops draw=>akA cW bP bm id ops draw
 | .seq x y=>akC bm.b7 (sK cW bP bm x) (sK cW bP bm y)
 | .cond o x y=>akD bP (sK cW bP bm x) (sK cW bP bm y)
 | .block id x=>akE (sK cW bP bm x)
 | .loop x=>akF bm.b7 (sK cW bP bm x)
 | .rangeFunc f ps x y=>akI bP bm
 | .exit id=>by
   intro ac vars N hc st r bf he G a w ro base Q U e9 e7 hb dO;simp only[Ctx.code,aD]at hc;subst hc;simp only[exec,aD,bH]at he;obtain⟨rfl,rfl⟩:=he;exact wpIn_exit (dO G a w (.refl U e7))
 | .ret=>by
   intro ac vars N hc st r bf he G a w ro base Q U e9 e7 hb dO;simp only[Ctx.code,aD]at hc;subst hc;simp only[exec,aD,bH]at he;obtain⟨rfl,rfl⟩:=he;exact wpIn_ret (dO G a w (.refl U e7))
 | .scope _| .label _| .goto _| .refuse _=>by
   intro ac vars N hc st r bf he;simp only[Ctx.code,aD]at hc;subst hc;simp[exec]at he
end
end Go.Abs
namespace Go.Abs
open Go
variable{C:Ctx}{fid:Nat->Nat}{w w':World}{G G':cg}{H H':Heap}{call:c5}{n:Nat}
def jQ (C:Ctx)(fid:Nat->Nat)(i:Nat)(spec:List V->Option V):Prop:=
 ∀{G:cg} {H:Heap} {w:World} {args:List V} {v:V} {xs:List Value},bd C fid G H w->dp w G.I args xs->spec args=some v->tA C.P (lO C fid G H w v H H.length) ((callFunc i ⟨xs⟩).run C.P w)
def FD (C:Ctx)(fid:Nat->Nat)(i:Nat)(spec:zD):Prop:=
 ∀{G:cg} {H:Heap} {w:World} {args:List V} {v:V} {H':Heap} {low:Nat} {xs:List Value},bd C fid G H w->bj fid G w args xs->Cr spec args H=some (v,H',low)->
  tA C.P (lO C fid G H w v H' low) ((callFunc i ⟨xs⟩).run C.P w)/\∃g aX,(callFunc i ⟨xs⟩).run C.P w=.ok (.enter g aX) w
structure dU (C:Ctx) (fid:Nat->Nat) (aa:Nat->Option cc):Prop where
 code:∀i f,aa i=some (.code f)->∃fn,C.P.funcs[i]? =some fn/\C.func fn f.fresh=some f
 ext:∀i spec,aa i=some (.ext spec)->jQ C fid i spec
 vQ:∀i spec,aa i=some (.vQ spec)->FD C fid i spec
theorem XQ{vars:List Nat}:∀(ps:List Nat) (vs:List V) (xs:List Value) (env:Env) (tmps:Array Value),bj fid G w vs xs->(∀t∈ps,t<tmps.size)->
  (∀t,t∈vars->bw fid G w (bZ env t) (tmps.getD t undef))->
  ((ps.zip xs).foldl (fun(tm:Array Value) (p:Nat × Value)=>tm.setIfInBounds p.1 p.2) tmps).size=tmps.size/\
    ∀t,t∈vars->bw fid G w (bZ ((ps.zip vs).foldl (fun e (p:Nat × V)=>ga e p.1 p.2) env) t) (((ps.zip xs).foldl (fun(tm:Array Value) (p:Nat × Value)=>tm.setIfInBounds p.1 p.2) tmps).getD t undef)
 |[],vs,xs,env,tmps,_,_,h=>⟨rfl,by simpa using h⟩
 |p::ps,_,_,env,tmps,.nil,_,h=>⟨rfl,by simpa using h⟩
 |p::ps,_,_,env,tmps,.cons v x vs xs af hs,aG,h=>by
  have h1:=XQ ps vs xs (ga env p v) (tmps.setIfInBounds p x) hs (fun t ht=>by rw[Array.size_setIfInBounds];exact aG t (by simp[ht])) fun t ht=>by
   rw[Xf];have:=Pf {tmps:=tmps,defers:=[]} p x t (aG p (by simp));simp only[Act.put]at this;rw[this];by_cases e:t=p
   ·rw[if_pos e,if_pos e];exact af
   ·rw[if_neg e,if_neg e];exact h t ht
  simp only[Ey,ti];rw[Array.size_setIfInBounds]at h1;exact h1
theorem lu.nil (G:cg)(w:World)(base:Nat):lu C G w base []:=⟨[],rfl,Ji,(fun r hr=>by cases hr),fun r hr=>by cases hr⟩
theorem akT (cW:C.P.follows .mixedOrders=true)(bP:fl C fid)(bm:hD C fid call){l:Nat}{args:List V}{v:V}{low':Nat}{xs:List Value}{h:Home}
  (he:qx (exec call n) l args H=some (v,H',low')) (U:bd C fid G H w) (hb:G.β l=some h) (af:bj fid G w args xs):
  tA C.P (lO C fid G H w v H' low') ((Instr.yield h.b ⟨xs⟩).run C.P w):=by
 unfold qx at he;split at he
 ·rename_i p0 env params XH XI qG
  obtain⟨ht,hfz,L,vars,dP,XP,wF,XR,akU,akV,akW,akX⟩:=FC U hb qG;split at he
  ·rename_i hlen
   have XG:=run_yield (P:=C.P) (args:=⟨xs⟩) dP (by rw[<-gY,<-gY,XR,bj.length af,hlen]);rw[XG]
   have PD:(r:Array Value)->((L.params.zip (⟨xs⟩:Array Value)).foldl (fun tmps (t,a)=>tmps.setIfInBounds t a) r)=(params.zip xs).foldl (fun(tm:Array Value) (p:Nat × Value)=>tm.setIfInBounds p.1 p.2) r:=fun r=>by
    rw[<-Vr,Array.toList_zip,XR]
   rw[PD];obtain⟨dr,akY⟩:=XQ (vars:=vars) params args xs env L.tmps af (fun t ht=>(akU t ht).2) akX;split at he
   ·rename_i st1 mH
    have f1:=mO bm.b7 n _ _ _ _ (aN _) mH;split at he
    ·rename_i p1 XS PE XT XU Ag
     split at he
     ·rename_i x ma qK
      split at he
      ·rename_i aAj p3 PF PG PH PI XV
       cases he;refine roundIn_of_wpIn trivial ?_
       have jO:dN C fid vars L.tmps.size G {aM:=[],ay:=(params.zip args).foldl (fun e (t,v)=>ga e t v) env,H,low:=H.length,ro:=some l}
         {tmps:=(params.zip xs).foldl (fun(tm:Array Value) (p:Nat × Value)=>tm.setIfInBounds p.1 p.2) L.tmps,defers:=[]} w:=
        ⟨U,fun t=>by
         unfold dT;split
         ·rename_i hin;exact akY t (uK.1 hin)
         ·exact .undef _,dr,aN _⟩
       refine sK (n:=n) cW bP bm L.assign _ vars _ akV _ _ _ mH G _ w (some h.b) 0 _ jO ⟨h,hb,ht,rfl⟩ (.nil _ _ _) (cN _) ?_;intro aB ak aH gO;have pT:=gO.ext 0 (cN _);obtain⟨h1,ad,-,qN,m1,-⟩:=pT.homes l h hb;have oQ:h1.b=h.b:=(m1 ((qN ht).trans ht.symm)).1;obtain⟨t1,XW,XX,akZ,q1,q2,b3,cS,fw,gV,mT,PJ⟩:=FC gO.rel.rel ad Ag
       have FE:=turn gO.rel.rel ad XW (.loop {XX with state:=.busy}) (.loop .busy p1 XS PE XT XU) fun b4 dq jK=>
        ⟨t1,XW,_,akZ,dq,rfl,b3,cS,fw,gV,mT,fun t ht=>(PJ t ht).mono (.refl _) fun b hb=>⟨hb,jK b hb⟩⟩
       have XY:=run_beginRound (P:=C.P) q1 q2;rw[oQ]at FE XY;refine⟨_,XY,?_⟩;have sJ:min st1.low l<=st1.H.length:=by have:=gO.rel.low;omega
       have gq:dN C fid vars L.tmps.size aB {st1 with H:=st1.H.set l (.loop .busy p1 XS PE XT XU),low:=min st1.low l} ak (aH.putObj h.b (.loop {XX with state:=.busy})):=
        ⟨FE.1,fun t=>(gO.rel.env t).ext gO.rel.rel FE.2,gO.rel.size,by simpa using sJ⟩
       have C4:st1.ro=some l:=f1.2;refine sK (n:=n) cW bP bm L.body _ vars _ akW _ _ _ qK aB ak _ (some h.b) 0 _ gq (by simp only[C4];exact⟨h1,ad,t1,oQ⟩) (gO.marks.ext FE.2) (cN _) ?_;intro kd a3 gh J7;have f3:=mO bm.b7 n _ _ _ _ (by simpa using sJ) qK;have FF:=J7.ext 0 (cN _);obtain⟨au,bK,-,z3,m3,-⟩:=FF.homes l h1 ad;have u4:au.b=h.b:=(m3 ((z3 t1).trans t1.symm)).1.trans oQ;obtain⟨t3,yn,C8,ak0,bI,cq,e6,gU,ju,tJ,Ai,wG⟩:=FC J7.rel.rel bK XV;have PK:H.length<=st1.H.length:=f1.1.len;have ak1:st1.H.length<=ma.H.length:=by have:=f3.1.len;simpa using this
       have XZ:ma.low<=st1.low/\ma.low<=l:=by have:=f3.1.low;simp only at this;omega
       have C7:∀(jump:Option Code) (ls:LoopState),bd C fid kd (ma.H.set l (.loop ls x PF PG PH PI)) (gh.putObj h.b (.loop {C8 with state:=ls,pending:=jump}))/\
         Ext kd gh kd (gh.putObj h.b (.loop {C8 with state:=ls,pending:=jump})) l ma.H.length->
         ∀m,m<=min ma.low l->Ext G w kd (gh.putObj h.b (.loop {C8 with state:=ls,pending:=jump})) m H.length:=fun jump ls hT m hm=>
        ((gO.ext m (by omega)).trans ((FE.2.le (m':=m) (by omega) PK))).trans (((J7.ext m (by omega)).le (aN _) (by simpa using PK)).trans (hT.2.le (by omega) (c4 PK ak1)))
       have hT:∀(jump:Option Code) (ls:LoopState),Oi x jump->bd C fid kd (ma.H.set l (.loop ls x PF PG PH PI)) (gh.putObj h.b (.loop {C8 with state:=ls,pending:=jump}))/\
         Ext kd gh kd (gh.putObj h.b (.loop {C8 with state:=ls,pending:=jump})) l ma.H.length:=fun jump ls hp=>by
        have:=turn J7.rel.rel bK yn (.loop {C8 with state:=ls,pending:=jump}) (.loop ls x PF PG PH PI) fun b4 dq jK=>
         ⟨t3,yn,_,ak0,dq,rfl,hp,gU,ju,tJ,Ai,fun t ht=>(wG t ht).mono (.refl _) fun b hb=>⟨hb,jK b hb⟩⟩
        rw[u4]at this;exact this
       rw[u4]at bI;cases x with
       |normal=>
        have T:=hT none .ready trivial;exact⟨_,_,run_endRound none bI,_,rfl,kd,T.1,C7 none .ready T,.p _ _ (.bool true)⟩
       |exit id=>
        have T:=hT (some (.exit id)) .done rfl;exact⟨_,_,run_endRound (some (.exit id)) bI,_,rfl,kd,T.1,C7 _ .done T,.p _ _ (.bool false)⟩
       |ret=>
        have T:=hT (some .ret) .done trivial;exact⟨_,_,run_endRound (some .ret) bI,_,rfl,kd,T.1,C7 _ .done T,.p _ _ (.bool false)⟩
      ·cases he
     ·cases he
    ·cases he
   ·cases he
  ·cases he
 ·cases he
end Go.Abs
namespace Go.Abs
open Go
variable{C:Ctx}{fid:Nat->Nat}{w w':World}{G G':cg}{H H':Heap}{call:c5}{n:Nat}
theorem j8.tags{h h':Home}{o:cf}(a:j8 C fid G w h o)(b:j8 C fid G' w' h' o):h.tag=h'.tag/\h.fz=h'.fz:=by
 cases o with
 |cells vs=>exact⟨a.1.1.trans b.1.1.symm,a.2.1.trans b.2.1.symm⟩
 |row es ds fz=>exact⟨a.1.trans b.1.symm,a.2.2.1.trans b.2.2.1.symm⟩
 |map bz=>exact⟨a.1.trans b.1.symm,a.2.1.trans b.2.1.symm⟩
 |loop=>exact⟨a.1.trans b.1.symm,a.2.1.trans b.2.1.symm⟩
 |rh s=>exact⟨a.2.1.trans b.2.1.symm,a.1.trans b.1.symm⟩
 |dead n=>exact⟨a.2.trans b.2.symm,a.1.trans b.1.symm⟩
 |gone=>exact⟨a.1.trans b.1.symm,a.2.trans b.2.symm⟩
theorem X0 (U:bd C fid G H w)(kC:bd C fid G' H' w')(hle:mD G.β G'.β)(hs:∀l,l<H.length->H'[l]? =H[l]?){l:Nat}{h:Home}(e:G.β l=some h):G'.β l=some h:=by
 obtain⟨h',e',-,-,m,-⟩:=hle l h e;obtain⟨o,ho,r⟩:=U.obj l h e;obtain⟨o',ka,lh⟩:=kC.obj l h' e';rw[hs l (U.lt e),ho]at ka;cases ka;obtain⟨t,f⟩:=r.tags lh;obtain⟨aAk,aAl⟩:=m t.symm;rw[e'];congr 1;cases h;cases h';simp_all
theorem forget (U:bd C fid G H w)(kC:bd C fid G' H' w'){m n:Nat}(de:Ext G w G' w' m n)(hm:H.length<=m)(hn:H.length<=n)(hs:∀l,l<H.length->H'[l]? =H[l]?):
  bd C fid ⟨G.β,G'.I⟩ H w'/\(∀m n,Ext G w ⟨G.β,G'.I⟩ w' m n)/\∀{v:V} {x:Value},bw fid G' w' v x->old H.length v=true->bw fid ⟨G.β,G'.I⟩ w' v x:=by
 have hk:=de.Xd U hm;have tC:=fun l h e=>X0 (l:=l) (h:=h) U kC de.homes hs e
 refine⟨⟨fun l h e=> ?_,U.inj,fun l h e=>se (U.blk l h e) de.size,fun b hb=>⟨(kC.c9 b hb).1,fun l h e q=>(kC.c9 b hb).2 l h (tC l h e) q⟩,fun l h e q=>de.c9 _ (U.kV l h e q),
   fun b o bb=>⟨de.c9 _ (U.ff b o bb).1,by rw[hk b (U.c9 b (U.ff b o bb).1).1];exact(U.ff b o bb).2⟩⟩,fun m n=>⟨de.size,de.os,de.output,fun b hb _=>hk b hb,.refl _,fun l h e=>.inl ⟨h,e,.inl rfl⟩,de.c9,de.pI⟩,
  fun af ho=>af.restrict (G:=G') (G':=⟨G.β,G'.I⟩) (n:=H.length) (fun l h hl e=> ?_) (fun b hb=>⟨hb,rfl⟩) (.inl ho)⟩
 ·obtain⟨o,ho,r⟩:=U.obj l h e
  exact⟨o,ho,j8.mono (G:=G) (G':=⟨G.β,G'.I⟩) (.refl _) (fun b hb=>⟨de.c9 b hb,hk b (U.c9 b hb).1⟩) (hk _ (U.blk l h e)) r⟩
 ·rcases de.oG l h e with⟨h0,eP,-⟩|⟨nR,-⟩
  ·have:=tC l h0 eP
   rw[e]at this;cases this;exact⟨h,eP,rfl⟩
  ·omega
theorem X1 (n:Nat):∀(a b:List V),olds n (a++b)=(olds n a&&olds n b)
 |[],b=>by simp[olds]
 |v::a,b=>by simp[olds,X1 n a b,Cj]
theorem ak2 (n:Nat)(v:V)(h:old n v=true):olds n (aI v)=true:=by
 cases v<;>simp_all [aI,olds,old]
theorem X2 (n:Nat):∀{ds:List V},olds n ds=true->olds n (ds.flatMap aI)=true
 |[],_=>rfl
 |d::ds,h=>by
  simp only[olds,cm]at h;rw[lH,X1,ak2 n d h.1,X2 n h.2];rfl
theorem X3{fresh:Bool}{H1:Heap}{v v':V}{low low':Nat}{x:Value}(U:bd C fid G H w)(kC:bd C fid G' H1 w')(de:∀m,m<=low->Ext G w G' w' m H.length)(ag:Fr H H.length H1 low)
  (af:bw fid G' w' v x) (he:finish fresh H v H1 low=some (v',H',low')):lO C fid G H w v' H' low' x w':=by
 unfold finish at he;split at he
 ·rename_i l es off len tag
  split at he
  ·rename_i bV ds hl
   split at he
   ·rename_i hc
    obtain⟨cT,dI,fg,ic,il⟩:=hc;subst fg ic;cases he;have hs:=fun l nR=>ag.same l (se nR cT);have sL:=de H.length cT;obtain⟨p1,p2,-⟩:=forget U kC sL (aN _) (aN _) hs;obtain⟨h,a,m,cap,hb,hle,al,rfl⟩:=af.oI;obtain⟨o,ho,hr⟩:=kC.obj l h hb;rw[hl]at ho;cases ho
    have J8:w.heap.size<=h.b:=by
     rcases sL.oG l h hb with⟨h0,eP,-⟩|⟨-,q⟩
     ·have:=U.lt eP;omega
     ·exact q
    have tF:=U.none (aN H.length);let bC:cg:=⟨cE G.β H.length h,G'.I⟩;have X4:mD G.β bC.β:=Cx tF h;have tC:=fun l h e=>X0 (l:=l) (h:=h) U kC sL.homes hs e
    have ak3:∀{vs:List V} {xs:List Value},bj fid G' w' vs xs->olds H.length vs=true->bj fid bC w' vs xs:=fun c6 hold=>
     c6.restrict (G:=G') (G':=bC) (n:=H.length) (fun y h0 hy e=>by
      rcases sL.oG y h0 e with⟨h1,ad,-⟩|⟨nR,-⟩
      ·have:=tC y h1 ad
       rw[e]at this;cases this;exact⟨h0,by show cE _ _ _ _=_;rw[dH (by omega)];exact ad,rfl⟩
      ·omega) (fun b hb=>⟨hb,rfl⟩) (.inl hold)
    have av:j8 C fid bC w' h (.row bV ds false):=by
     obtain⟨bI,cq,e6,gU,ju,c,e,vals,rest,tJ,Ai,wG,FG⟩:=hr;exact⟨bI,cq,e6,gU,ju,c,e,vals,rest,tJ,Ai,wG,ak3 FG (X2 _ il)⟩
    refine⟨bC,⟨fun y h0 e=> ?_,fun y z h0 h1 ad e2 q=> ?_,fun y h0 e=> ?_,fun b hb=>⟨(kC.c9 b hb).1,fun y h0 e q=> ?_⟩,fun y h0 e q=> ?_,p1.ff⟩,fun m hm=> ?_,?_⟩
    ·by_cases hy:y=H.length
     ·subst hy;rw[show bC.β=cE _ _ _ from rfl,dw]at e;cases e
      exact⟨_,by simp,av⟩
     ·rw[show bC.β=cE _ _ _ from rfl,dH hy]at e
      obtain⟨o,ho,r⟩:=p1.obj y h0 e;exact⟨o,by rw[fY (U.lt e)];exact ho,j8.mono (G:=⟨G.β,G'.I⟩) (G':=bC) X4 (fun b hb=>⟨hb,rfl⟩) rfl r⟩
    ·by_cases hy:y=H.length<;>by_cases aJ:z=H.length
     ·rw[hy,aJ]
     ·subst hy;rw[show bC.β=cE _ _ _ from rfl,dw]at ad;cases ad
      rw[show bC.β=cE _ _ _ from rfl,dH aJ]at e2;have:=U.blk z h1 e2;omega
     ·subst aJ;rw[show bC.β=cE _ _ _ from rfl,dw]at e2;cases e2
      rw[show bC.β=cE _ _ _ from rfl,dH hy]at ad;have:=U.blk y h0 ad;omega
     ·rw[show bC.β=cE _ _ _ from rfl,dH hy]at ad
      rw[show bC.β=cE _ _ _ from rfl,dH aJ]at e2;exact U.inj y z h0 h1 ad e2 q
    ·by_cases hy:y=H.length
     ·subst hy;rw[show bC.β=cE _ _ _ from rfl,dw]at e;cases e;exact kC.blk l h hb
     ·rw[show bC.β=cE _ _ _ from rfl,dH hy]at e;exact p1.blk y h0 e
    ·by_cases hy:y=H.length
     ·subst hy;rw[show bC.β=cE _ _ _ from rfl,dw]at e;cases e
      exact(kC.c9 b hb).2 l h (by assumption) q
     ·rw[show bC.β=cE _ _ _ from rfl,dH hy]at e;exact p1.c9 b hb |>.2 y h0 e q
    ·by_cases hy:y=H.length
     ·subst hy;rw[show bC.β=cE _ _ _ from rfl,dw]at e;cases e
      exact kC.kV l h hb q
     ·rw[show bC.β=cE _ _ _ from rfl,dH hy]at e;exact p1.kV y h0 e q
    ·have q:=p2 m H.length
     exact⟨q.size,q.os,q.output,q.eH,X4,fun y h0 e=>by
      by_cases hy:y=H.length
      ·subst hy;rw[show bC.β=cE _ _ _ from rfl,dw]at e;cases e;exact .inr ⟨aN _,J8⟩
      ·rw[show bC.β=cE _ _ _ from rfl,dH hy]at e;exact .inl ⟨h0,e,.inl rfl⟩,q.c9,q.pI⟩
    ·exact .cB H.length bV off len _ h a m cap (dw _ _ _) hle al
   ·split at he
    ·cases he
     exact⟨G',kC,de,af⟩
    ·cases he
  ·cases he
 ·split at he
  ·rename_i v1 H2 dL aJ
   obtain⟨bC,fz,X5⟩:=JA kC af aJ;have eR:=ag.trans (CT aJ).1;have Ah:∀m,m<=dL->Ext G w bC w' m H.length:=fun m hm=>(de m (c4 hm fz.low)).trans ((fz.ext m hm).le (aN _) ag.len);split at he
   ·rename_i hc
    cases he;obtain⟨p1,p2,p3⟩:=forget U fz.rel (Ah H.length hc.1) (aN _) (aN _) (fun l hl=>eR.same l (se hl hc.1));exact⟨_,p1,fun m _=>p2 m _,p3 X5 hc.2⟩
   ·cases he
    exact⟨bC,fz.rel,Ah,X5⟩
  ·cases he
theorem ak4{sh:Option Nat}{a u:V}{x:Value}(al:bw fid G w a x)(he:kt H sh a=some u):∃dh,x=.pointer (some dh):=by
 unfold kt at he;split at he
 ·obtain⟨h,-,-,rfl⟩:=al.nS;exact⟨_,rfl⟩
 ·obtain⟨h,dh,-,-,-,rfl⟩:=al.EY;exact⟨_,rfl⟩
 ·cases al with
  |dz _ f b o vals _ _ _=>exact⟨_,rfl⟩
  |p _ _ h=>cases h
 ·cases he
def J9 (tmps:Array Value):ResultVar->Sem Value
 | .tmp t=>pure (tmps.getD t undef)
 | .cell a t=>do loadVar t (<-asAddr (tmps.getD a undef))
theorem ak5{r:ResultVar}{PL:nr}(hr:C.res r=some PL){ay:Env}{tmps:Array Value}(U:bd C fid G H w)(af:∀t∈Ctx.su [r],bw fid G w (bZ ay t) (tmps.getD t undef)){v:V}(he:kU ay H PL=some v):
  ∃x,(J9 tmps r).run C.P w=.ok x w/\bw fid G w v x:=by
 cases r with
 |tmp t=>
  simp only[Ctx.res,aD]at hr;subst hr;simp only[kU,aD]at he;subst he;exact⟨_,rfl,af t (by simp[Ctx.su])⟩
 |cell a t=>
  simp only[Ctx.res]at hr;obtain⟨sh,ak6,rfl⟩:=cD.1 hr;simp only[kU]at he;have al:=af a (by simp[Ctx.su]);obtain⟨y,hy,hu⟩:=Wv U ak6 al he;obtain⟨dh,iy⟩:=ak4 al he;rw[iy]at hy;refine⟨y,?_,hu⟩;simp only[J9,iy,asAddr,Sem.run_bind,Sem.run_pure,Result.andThen_ok];simpa only[Instr.loadAt,Instr.sureAddr,Sem.run_bind,Sem.run_pure,Result.andThen_ok]using hy
theorem ak7 (r:ResultVar)(rs:List ResultVar):Ctx.su (r::rs)=Ctx.su [r]++Ctx.su rs:=by cases r<;>rfl
theorem X6:∀{rs:List ResultVar} {qO:List nr},ee C.res rs=some qO->∀{ay:Env} {tmps:Array Value},bd C fid G H w->(∀t∈Ctx.su rs,bw fid G w (bZ ay t) (tmps.getD t undef))->
  ∀{vs:List V},gZ ay H qO=some vs->∃xs,(rs.mapM (J9 tmps)).run C.P w=.ok xs w/\bj fid G w vs xs
 |[],qO,hm,ay,tmps,U,af,vs,he=>by
  simp only[ee,aD]at hm;subst hm;simp only[gZ,aD]at he;subst he;exact⟨[],by simp,.nil⟩
 |r::rs,qO,hm,ay,tmps,U,af,vs,he=>by
  simp only[ee]at hm;split at hm
  ·rename_i PL h1
   split at hm
   ·rename_i aAm h2
    cases hm;simp only[gZ]at he;split at he
    ·rename_i v au
     split at he
     ·rename_i vs' a7
      cases he;rw[ak7]at af;obtain⟨x,hx,Aj⟩:=ak5 h1 U (fun t ht=>af t (kq.2 (.inl ht))) au;obtain⟨xs,e0,c6⟩:=X6 h2 U (fun t ht=>af t (kq.2 (.inr ht))) a7;refine⟨x::xs,?_,.cons _ _ _ _ Aj c6⟩;rw[List.mapM_cons,Sem.run_bind,hx,Result.andThen_ok,Sem.run_bind,e0,Result.andThen_ok,Sem.run_pure]
     ·cases he
    ·cases he
   ·cases hm
  ·cases hm
def ke:List V->V
 |[v]=>v
 |vs=>.aF vs
theorem X7{fn:Func}{qO:List nr}(hm:ee C.res fn.results.toList=some qO){ay:Env}{tmps:Array Value}(U:bd C fid G H w)(af:∀t∈Ctx.su fn.results.toList,bw fid G w (bZ ay t) (tmps.getD t undef))
  {vs:List V} (he:gZ ay H qO=some vs):∃x,(results fn tmps).run C.P w=.ok x w/\bw fid G w (ke vs) x:=by
 obtain⟨xs,hx,c6⟩:=X6 hm U af he
 have e:results fn tmps=(do let vs <-fn.results.mapM (J9 tmps);pure (if h:vs.size=1 then vs[0]else .tuple vs)):=by
  unfold results;congr 1
 rw[e];refine⟨if h:(⟨xs⟩:Array Value).size=1 then(⟨xs⟩:Array Value)[0]else .tuple ⟨xs⟩,?_,?_⟩
 ·rw[Sem.run_bind,Array.mapM_eq_mapM_toList,Sem.run_map,hx]
  simp only[Result.andThen_ok,Sem.run_pure]
 ·cases c6 with
  |nil=>exact .aF [] [] .nil
  |cons v x vs xs h hs=>
   cases hs with
   |nil=>exact h
   |cons v2 cr aAn ak8 h2 qC=>
    have:¬(⟨x::cr::ak8⟩:Array Value).size=1:=by simp
    rw[dif_neg this];exact .aF _ _ (.cons _ _ _ _ h (.cons _ _ _ _ h2 qC))
end Go.Abs
namespace Go.Abs
open Go
variable{C:Ctx}{fid:Nat->Nat}{w w':World}{G G':cg}{H H':Heap}{call:c5}{n:Nat}
theorem bd.PM (U:bd C fid G H w){r:Nat}(c7:∀l h,G.β l=some h->h.b≠r)(hi:¬G.I r)(o:Obj):bd C fid G H (w.putObj r o) where
 obj l h e:=by
  obtain⟨o,ho,hr⟩:=U.obj l h e;exact⟨o,ho,hr.mono (.refl _) (fun b hb=>⟨hb,World.putObj_heap_other fun q=>hi (by rw[<-q];exact hb)⟩) (World.putObj_heap_other (c7 l h e))⟩
 inj:=U.inj
 blk l h e:=by rw[World.putObj_size];exact U.blk l h e
 c9 b hb:=by rw[World.putObj_size];exact U.c9 b hb
 kV:=U.kV
 ff b o bb:=⟨(U.ff b o bb).1,by rw[World.putObj_heap_other (k:=b) (r:=r) fun q=>hi (by rw[<-q];exact(U.ff b _ bb).1)];exact(U.ff b o bb).2⟩
theorem Ext.PM{gA:World}{u5:cg}{m k:Nat}(de:Ext u5 gA G w m k){r:Nat}(hr:gA.heap.size<=r)(o:Obj):Ext u5 gA G (w.putObj r o) m k:=
 ⟨by rw[World.putObj_size];exact de.size,de.os,de.output,fun b hb hk=>by rw[World.putObj_heap_other (by omega)];exact de.eH b hb hk,de.homes,de.oG,de.c9,de.pI⟩
theorem Ka{fn:Func}{tmps:Array Value}{R:Ending->World->Prop}{gA:World}{u5:cg}{m0:Nat->Prop}{k0:Nat}:
  ∀(rs:List (Nat ⊕ Deferred)) (w:World),(rs.filterMap fun| .inl r=>some r| .inr _=>none).Nodup->(∀r,.inl r∈rs->Fz G w gA.heap.size r)->(∀d,.inr d∈rs->JB C.P d)->bd C fid G H w->(∀m,m0 m->Ext u5 gA G w m k0)->(∀v x,bw fid G w v x->True)->
   (∀bQ,bd C fid G H bQ->(∀m,m0 m->Ext u5 gA G bQ m k0)->(∀{v:V} {x:Value},bw fid G w v x->bw fid G bQ v x)->∃v,(results fn tmps).run C.P bQ=.ok v bQ/\R (.returned v) bQ)->
   LeavesInM Fence.wide 0 C.P fn tmps R (rs.map (fun| .inl r=>J3 r| .inr d=>d)) .returning w
 |[],w,_,_,_,U,de,_,iO=>iO w U de fun h=>h
 | .inr d::rs,w,dt,hm,hn,U,de,_,iO=>by
   obtain⟨fv,cap,f,args,ad,e2⟩:=hn d (by simp);obtain⟨bK,cw⟩:=e2 w;refine⟨by simp,.inr ⟨by simp[Fence.wide],fv,cap,f,args,ad,bK,fun _ _=>trivial,cw.mono ?_⟩⟩;rintro e u' w' ⟨⟨v,rfl⟩,rfl,rfl⟩;exact Ka rs _ dt (fun q bu=>hm q (by simp[bu])) (fun q bu=>hn q (by simp[bu])) U de (fun _ _ _=>trivial) iO
 | .inl r::rs,w,dt,hm,hn,U,de,_,iO=>by
   have hr:=hm r (by simp);have X8:=xQ.1 dt;refine⟨by simp,.inl ⟨r,w.putObj r (.deferred none),rfl,run_takeDeferred hr.obj,?_⟩⟩
   have af:∀{v:V} {x:Value},bw fid G w v x->bw fid G (w.putObj r (.deferred none)) v x:=fun h=>
    h.mono (.refl _) fun b hb=>⟨hb,World.putObj_heap_other fun q=>hr.c9 (by rw[<-q];exact hb)⟩
   refine Ka rs _ X8.2 (fun q bu=> ?_) (fun q bu=>hn q (by simp[bu])) (U.PM hr.home hr.c9 _) (fun m hm=>(de m hm).PM hr.base _) (fun _ _ _=>trivial) fun bQ a b c=>iO bQ a b fun h=>c (af h);have k:=hm q (by simp[bu]);have bq:q≠r:=fun e=>X8.1 (by rw[<-e];exact Vt.2 ⟨.inl q,bu,rfl⟩);exact⟨k.base,by rw[World.putObj_size];exact k.lt,by rw[World.putObj_heap_other bq];exact k.obj,k.home,k.c9⟩
theorem PN:∀(vs:List V) (i t:Nat),bZ (iK i vs) t=if i<=t then(vs[t-i]?).getD .undef else .undef
 |[],i,t=>by simp[iK,bZ]
 |v::r,i,t=>by
  simp only[iK,bZ];by_cases h:i=t
  ·subst h;simp
  ·rw[if_neg h,PN r (i+1) t]
   by_cases h2:i<=t
   ·rw[if_pos h2,if_pos (by omega)]
    have:t-i=(t-(i+1))+1:=by omega
    rw[this,Ev]
   ·rw[if_neg h2,if_neg (by omega)]
theorem FH{fn:Func}{fresh:Bool}{f:ix}(h:C.func fn fresh=some f):
  ∃c,fn.body=some c/\C.code (Ctx.varsOf fn) fn.ntmps c=some f.body/\ee C.res fn.results.toList=some f.results/\(fn.name== "runtime.NumGoroutine")=false/\f.xT=fn.ntmps/\f.fresh=fresh:=by
 unfold Ctx.func at h;split at h
 ·rename_i c hb
  split at h
  ·rename_i b rs h1 h2
   split at h
   ·cases h
   ·rename_i hn
    cases h;exact⟨c,hb,h1,h2,by simpa using hn,rfl,rfl⟩
  ·cases h
 ·cases h
theorem X9{fn:Func}{t:Nat}(h:t∈Ctx.su fn.results.toList):t∈Ctx.varsOf fn:=by
 unfold Ctx.varsOf;rw[List.mem_eraseDups];simp[h]
theorem Ya (cW:C.P.follows .mixedOrders=true)(bP:fl C fid)(bm:hD C fid call){oX:Nat}{f:ix}{fn:Func}(ag:C.P.funcs[oX]? =some fn)(hS:C.func fn f.fresh=some f)
  {args:List V} {v:V} {low':Nat} {xs:List Value} (he:iL (exec call n) f args H=some (v,H',low')) (U:bd C fid G H w) (af:bj fid G w args xs):
  Calls C.P oX ⟨xs⟩ w (fun e w'=>∃x,e=.returned x/\lO C fid G H w v H' low' x w'):=by
 obtain⟨c,hb,ak9,sI,-,ala,-⟩:=FH hS;unfold iL at he;split at he
 ·rename_i hlen
  have js:=af.length
  have jO:dN C fid (Ctx.varsOf fn) fn.ntmps G {aM:=[],ay:=iK 0 args,H,low:=H.length} {tmps:=(⟨xs⟩:Array Value)++Array.replicate (fn.ntmps-(⟨xs⟩:Array Value).size) undef,defers:=[]} w:=by
   refine⟨U,fun t=> ?_,?_,aN _⟩
   ·unfold dT
    split
    ·rw[PN]
     simp only[cN,if_true,Nat.sub_zero];cases al:args[t]? with
     |none=>exact .undef _
     |some u=>
      obtain⟨x,hx,Ak⟩:=af.get al
      have aG:t<xs.length:=by
       rcases gD t xs.length with h|h
       ·exact h
       ·simp[nP h]at hx
      have:((⟨xs⟩:Array Value)++Array.replicate (fn.ntmps-(⟨xs⟩:Array Value).size) undef).getD t undef=x:=by
       rw[xL,ahE (by simpa using aG)];simp[hx]
      rw[this];exact Ak
    ·exact .undef _
   ·simp only[zr,Array.size_replicate]
    show xs.length+(fn.ntmps-xs.length)=fn.ntmps;rw[js,<-ala];omega
  have oV:∀(st:aw) (G':cg) (bn:Act) (w':World),gN {aM:=[],ay:=iK 0 args,H,low:=H.length} st->(∃vs,gZ st.ay st.H f.results=some vs/\finish f.fresh H (ke vs) st.H st.low=some (v,H',low'))->
    Fin C fid (Ctx.varsOf fn) fn.ntmps w.heap.size {aM:=[],ay:=iK 0 args,H,low:=H.length} G w st G' bn w'->
    LeavesInM Fence.wide 0 C.P fn bn.tmps (fun e w'=>∃x,e=.returned x/\lO C fid G H w v H' low' x w') bn.defers .returning w':=by
   rintro st G' bn w' eR ⟨vs,hr,ry⟩ F;obtain⟨rs,PO,dt,hm,FI⟩:=F.marks;rw[PO];refine Ka (m0:=fun m=>m<=st.low) rs w' dt hm FI F.rel.rel F.ext (fun _ _ _=>trivial) fun bQ b4 dq jK=> ?_
   obtain⟨x,hx,Ak⟩:=X7 sI b4 (fun t ht=>by
    have:=F.rel.env t;rw[PA (X9 ht)]at this;exact jK this) hr
   exact⟨x,hx,x,rfl,X3 U b4 dq eR.1 Ak ry⟩
  have Yb:∀{st:aw},(match gZ st.ay st.H f.results with|some [v]=>finish f.fresh H v st.H st.low|some vs=>finish f.fresh H (.aF vs) st.H st.low|none=>none)=some (v,H',low')->
    ∃vs,gZ st.ay st.H f.results=some vs/\finish f.fresh H (ke vs) st.H st.low=some (v,H',low'):=fun {st} h=>by
   split at h
   ·rename_i u hr;exact⟨[u],hr,h⟩
   ·rename_i vs bq hr
    refine⟨vs,hr,?_⟩
    have:ke vs=.aF vs:=by
     cases vs with
     |nil=>rfl
     |cons a r=>
      cases r with
      |nil=>exact absurd rfl (bq a)
      |cons b r=>rfl
    rw[this];exact h
   ·cases h
  have go:∀(Kb:X) (st:aw),(Kb=.normal\/Kb=.ret)->exec call n f.body {aM:=[],ay:=iK 0 args,H,low:=H.length}=some (Kb,st)->
    (∃vs,gZ st.ay st.H f.results=some vs/\finish f.fresh H (ke vs) st.H st.low=some (v,H',low'))->Calls C.P oX ⟨xs⟩ w (fun e w'=>∃x,e=.returned x/\lO C fid G H w v H' low' x w'):=fun Kb st PQ hex ry=>by
   refine(callsIn_wide (n:=0)).1 (callsIn_of_wp_marks ag hb trivial ?_);have eR:=mO bm.b7 n _ _ _ _ (aN _) hex;refine sK (n:=n) cW bP bm c _ _ _ ak9 _ _ _ hex G _ w none w.heap.size _ jO trivial (.nil _ _ _) (aN _) fun G' bn w' F=> ?_;have:=oV st G' bn w' eR ry F;rcases PQ with rfl|rfl
   ·exact this
   ·exact this
  split at he
  ·rename_i st hex;exact go _ st (.inl rfl) hex (Yb he)
  ·rename_i st hex;exact go _ st (.inr rfl) hex (Yb he)
  ·cases he
 ·cases he
theorem FJ{oX:Nat}{fn:Func}{c:Code}(ag:C.P.funcs[oX]? =some fn)(hb:fn.body=some c)(hn:(fn.name== "runtime.NumGoroutine")=false)(aX:Array Value):
  (callFunc oX aX).run C.P w=.ok (.enter oX aX) w:=by
 unfold callFunc;have pP:¬fn.name= "runtime.NumGoroutine" :=by simpa using hn
 simp[Sem.run_bind,Sem.run,program,ag,hb,pP,Result.andThen]
theorem Kc (cW:C.P.follows .mixedOrders=true)(bP:fl C fid){aa:Nat->Option cc}(hT:dU C fid aa):∀(n:Nat),hD C fid (bN aa n)
 |0=>⟨JS aa 0,fun _ _ _ he=>by simp[bN]at he⟩
 |n+1=>by
  have ih:=Kc cW bP hT n;refine⟨JS aa (n+1),fun {G H w f args v H' low' O9 xs} U z1 hQ he=> ?_⟩;simp only[bN,rl]at he;split at he
  ·rename_i i first caps
   obtain⟨fs,cs,alb,C9,alc⟩:=z1.CE;subst alc;have uZ:bj fid G w (first++args++caps) (fs++xs++cs):=(alb.append hQ).append C9
   have ald:(invoke (.fn (.func i) ⟨cs⟩) ((⟨fs⟩:Array Value)++⟨xs⟩)).run C.P w=(callFunc i ⟨fs++xs++cs⟩).run C.P w:=by
    simp[invoke]
   refine⟨{target:=.fn (.func i) ⟨cs⟩,args:=(⟨fs⟩:Array Value)++⟨xs⟩},rfl,?_⟩;rw[ald];split at he
   ·rename_i ale n2
    obtain⟨fn,hS,Da⟩:=hT.code i ale n2;obtain⟨c,hb,-,-,FK,-⟩:=FH Da;rw[FJ hS hb FK];exact⟨Ya cW bP ih hS Da he U uZ,fun _ _=>⟨_,_,rfl⟩⟩
   ·rename_i spec n2
    split at he
    ·rename_i hp
     obtain⟨u,hu,he⟩:=cD.1 he;cases he;refine⟨hT.ext i spec n2 U (uZ.qA hp) hu,fun _ vY=> ?_⟩;rw[CA,CA]at hp;simp[vY]at hp
    ·cases he
   ·rename_i spec n2
    obtain⟨h1,h2⟩:=hT.vQ i spec n2 U uZ he;exact⟨h1,fun _ _=>h2⟩
   ·cases he
  ·rename_i l
   obtain⟨h,hb,ht,rfl⟩:=z1.aiz;refine⟨{target:=.fn (.yield h.b) #[],args:= #[]++⟨xs⟩},rfl,?_,fun hS=>by simp[Cq]at hS⟩;have:(invoke (.fn (.yield h.b) #[]) (#[]++(⟨xs⟩:Array Value))).run C.P w=(Instr.yield h.b ⟨xs⟩).run C.P w:=by simp[invoke]
   rw[this];exact akT cW bP ih he U hb hQ
  ·cases he
theorem Yc (cW:C.P.follows .mixedOrders=true)(bP:fl C fid){aa:Nat->Option cc}(hT:dU C fid aa){n i:Nat}{f:ix}(hi:aa i=some (.code f)){args:List V}{v:V}{low':Nat}{xs:List Value}
  (he:bN aa n (.fn i [] []) args H=some (v,H',low')) (U:bd C fid G H w) (af:bj fid G w args xs):
  Calls C.P i ⟨xs⟩ w (fun e w'=>∃x,e=.returned x/\lO C fid G H w v H' low' x w'):=by
 cases n with
 |zero=>simp[bN]at he
 |succ n=>
  simp only[bN,rl,hi,j4,qt]at he;obtain⟨fn,hS,Da⟩:=hT.code i f hi;exact Ya cW bP (Kc cW bP hT n) hS Da he U af
end Go.Abs
namespace Go.Abs
open Go
variable{C:Ctx}{fid:Nat->Nat}{w w':World}{G G':cg}{H H':Heap}
theorem bd.apart (U:bd C fid G H w):bd C fid ⟨fun _=>Option.none,G.I⟩ [] w where
 obj _ _ e:=by cases e
 inj _ _ _ _ e:=by cases e
 blk _ _ e:=by cases e
 c9 b hb:=⟨(U.c9 b hb).1,fun _ _ e=>by cases e⟩
 kV _ _ e:=by cases e
 ff:=U.ff
theorem lO.beside (U:bd C fid G H w){v:V}{l:Nat}{x:Value}(hp:bx v=true)(h:lO C fid ⟨fun _=>Option.none,G.I⟩ [] w v H' l x w'):lO C fid G H w v H H.length x w':=by
 obtain⟨aB,gq,he,af⟩:=h;have e:=he 0 (cN _);have eH:∀b,b<w.heap.size->w'.heap[b]? =w.heap[b]? :=fun b hb=>e.eH b hb fun _ _ q=>by cases q
 have bp:∀b,G.I b->aB.I b/\w'.heap[b]? =w.heap[b]? :=fun b hb=>⟨e.c9 b hb,eH b (U.c9 b hb).1⟩
 have pI:∀b,aB.I b->G.I b\/w.heap.size<=b:=fun b hb=>by
  rcases e.pI b hb with q|q|⟨_,_,q,_⟩
  ·exact .inl q
  ·exact .inr q
  ·cases q
 refine⟨⟨G.β,aB.I⟩,⟨fun l h q=> ?_,U.inj,fun l h q=>se (U.blk l h q) e.size,fun b hb=>⟨(gq.c9 b hb).1,fun l h q alf=> ?_⟩,fun l h q alg=>e.c9 _ (U.kV l h q alg),gq.ff⟩,
  fun m _=>⟨e.size,e.os,e.output,fun b hb _=>eH b hb,.refl _,fun l h q=>.inl ⟨h,q,.inl rfl⟩,e.c9,fun b hb=>(pI b hb).imp id .inl⟩,.p _ _ (af.qA hp)⟩
 ·obtain⟨o,ho,hr⟩:=U.obj l h q
  exact⟨o,ho,j8.mono (G:=G) (G':=⟨G.β,aB.I⟩) (mD.refl G.β) bp (eH _ (U.blk l h q)) hr⟩
 ·rcases pI b hb with q'|q'
  ·exact(U.c9 b q').2 l h q alf
  ·have:=U.blk l h q;omega
theorem Yd (cW:C.P.follows .mixedOrders=true)(bP:fl C fid){aa:Nat->Option cc}(hT:dU C fid aa){n i:Nat}{f:ix}(hi:aa i=some (.code f)){spec:List V->Option V}
  (hs:∀args v,spec args=some v->bx v=true/\∃H' l,bN aa n (.fn i [] []) args []=some (v,H',l)):jQ C fid i spec:=by
 intro G H w args v xs U e0 nz;obtain⟨hp,H',l,he⟩:=hs args v nz;have hc:=Yc cW bP hT hi he U.apart (dp.pG e0);obtain⟨fn,hS,Da⟩:=hT.code i f hi;obtain⟨c,hb,-,-,FK,-⟩:=FH Da;rw[FJ hS hb FK];exact EE hc fun e w'=>fun⟨x,ad,e2⟩=>⟨x,ad,e2.beside U hp⟩
def Al (aX:List V)(v:V):List V->Option V:=fun args=>if nQ args aX=true then some v else none
theorem alh (cW:C.P.follows .mixedOrders=true)(bP:fl C fid){aa:Nat->Option cc}(hT:dU C fid aa){n i:Nat}{f:ix}(hi:aa i=some (.code f)){aX:List V}{v:V}{H':Heap}{l:Nat}
  (hp:bx v=true) (he:bN aa n (.fn i [] []) aX []=some (v,H',l)):jQ C fid i (Al aX v):=
 Yd cW bP hT hi fun args u hu=>by
  unfold Al at hu;split at hu
  ·rename_i bu
   cases hu;rw[u2 _ _ bu];exact⟨hp,H',l,he⟩
  ·cases hu
theorem Kd{aa:Nat->Option cc}(hT:dU C fid aa){k:Nat}{spec:List V->Option V}(hs:jQ C fid k spec):dU C fid (over aa k spec) where
 code i f h:=by
  unfold over at h;cases e:Nat.beq i k with
  |true=>rw[e]at h;cases h
  |false=>rw[e]at h;exact hT.code i f h
 ext i sp h:=by
  unfold over at h;cases e:Nat.beq i k with
  |true=>
   rw[e]at h;have h':some (cc.ext spec)=some (.ext sp):=h;cases h';rw[eU e];exact @hs
  |false=>rw[e]at h;exact hT.ext i sp h
 vQ i sp h:=by
  unfold over at h;cases e:Nat.beq i k with
  |true=>rw[e]at h;cases h
  |false=>rw[e]at h;exact hT.vQ i sp h
theorem PR (cW:C.P.follows .mixedOrders=true)(bP:fl C fid){aa:Nat->Option cc}(hT:dU C fid aa){n i:Nat}{f:ix}(hi:aa i=some (.code f)):∀{l:List (List V × V)},jJ aa n i l->jQ C fid i (jI l):=by
 intro l hl;refine Yd cW bP hT hi (n:=n) fun args u hu=> ?_
 induction l with
 |nil=>cases hu
 |cons p r ih=>
  obtain⟨aX,v⟩:=p;simp only[jI]at hu;cases e:nQ args aX with
  |true=>
   rw[e]at hu;have h':some v=some u:=hu;cases h';rw[u2 _ _ e];exact⟨hl.1.1,[],0,hl.1.2⟩
  |false=>rw[e]at hu;exact ih hl.2 hu
end Go.Abs
namespace Go.Abs
open Go
variable{C:Ctx}{fid:Nat->Nat}{w w':World}{G G':cg}{H H':Heap}
theorem Ye{P:Program}(ty:TypeId){r kY since fi bX:Nat}{seen:Array Nat}{es:Array MapEntry}(hr:w.heap[r]? =some (.mapIter (some kY) since seen fi))(hb:w.heap[kY]? =some (.map es bX))
  (hold:∀x∈es.toList,x.born<since) (ali:since<=fi):
  ((leftOf es seen).size=0/\(Instr.next (.pointer (some ⟨r,0,none⟩)) false ty).run P w=.ok (.tuple #[.bool false]) w)\/
  ∃e∈(leftOf es seen).toList,∃aH:World,aH.heap=w.heap.setIfInBounds r (.mapIter (some kY) since (seen.push e.born) bX)/\aH.os=w.os/\aH.output=w.output/\
   (Instr.next (.pointer (some ⟨r,0,none⟩)) false ty).run P w=.ok (.tuple #[.bool true,e.key,e.val]) aH:=by
 simp only[Instr.next,getObj,Sem.run_bind,Sem.run,hr,hb,Result.andThen,next_test_false seen es since fi hold ali,fV,if_false];unfold leftOf;have dD:∀x∈(Array.filter (fun e=>!seen.contains e.born) es).toList,x.born<since:=fun x hx=>hold x (by simp at hx⊢; exact hx.1);generalize Array.filter (fun e=>!seen.contains e.born) es=L at dD⊢;have ad:L.filter (fun x=>decide (x.born<since))=L:=Array.filter_eq_self.2 (fun x hx=>by simpa using dD x (by simpa using hx))
 have e2:L.filter (fun x=>decide (x.born>=since))= #[]:=by
  rw[ahF];intro x hx;have:=dD x (by simpa using hx);simp;omega
 simp only[ad,e2,Array.append_empty];by_cases h0:L.size=0
 ·left
  have:L= #[]:=ahD h0;subst this;refine⟨rfl,?_⟩;simp[choose,Sem.run,Question.forced]
 ·right
  have bq:L.isEmpty=false:=by simp[Array.isEmpty,h0]
  simp only[bq,fV,if_false,Array.empty_append,Array.size_map]
  have alj:∃(j:Nat) (aH:World),j<L.size/\aH.heap=w.heap/\aH.os=w.os/\aH.output=w.output/\(choose (Question.mapNext L.size)).run P w=.ok j aH:=by
   by_cases ag:L.size<=1
   ·exact⟨0,w,by omega,rfl,rfl,rfl,by simp[choose,Sem.run,Question.forced,ag]⟩
   ·exact⟨_,w.drew,Nat.mod_lt _ (by omega),rfl,rfl,rfl,by
     simp only[choose,Sem.run,Question.forced,decide_eq_true_eq,ag,if_false,Question.cut];rfl⟩
  obtain⟨j,aH,hj,ak,a2,a3,ct⟩:=alj
  have aAo:r<w.heap.size:=by
   rcases gD r w.heap.size with h|h
   ·exact h
   ·simp[I2 h]at hr
  refine⟨L[j],by simp,{aH with heap:=aH.heap.setIfInBounds r (.mapIter (some kY) since (seen.push L[j].born) bX)},by rw[ak],a2,a3,?_⟩
  have mb:∀(o':Obj),(setObj r o').run P aH=.ok () {aH with heap:=aH.heap.setIfInBounds r o'}:=fun o'=>by
   simp only[setObj,Sem.run];rw[ak,hr]
  simp only[ct,Array.getElem?_map,Array.getElem?_eq_getElem hj,si,Sem.run_bind,mb,Result.andThen];rfl
theorem Yf{P:Program}{r kY since bX:Nat}{seen:Array Nat}{es:Array MapEntry}{e:MapEntry}(hr:w.heap[r]? =some (.mapIter (some kY) since (seen.push e.born) bX))(hb:w.heap[kY]? =some (.map es bX))
  (he:e∈es.toList) (hn:(es.toList.map (·.born)).Nodup):
  (Instr.entry (.pointer (some ⟨r,0,none⟩))).run P w=.ok (.tuple #[e.key,e.val]) w:=by
 have ag:es.find? (·.born==e.born)=some e:=by rw[<-Array.find?_toList];exact find_born e es.toList hn he
 simp only[Instr.entry,getObj,Sem.run_bind,Sem.run,hr,hb,Result.andThen,Array.back?_push,bne_self_eq_false,fV,if_false,ag];rfl
section
variable{vars:List Nat}{N:Nat}{ops:Array Oper}
theorem Ke{j:Nat}{o:Oper}{a:Act}{K:Act->World->Prop}{Q:Exit->Act->World->Prop}{ro:Option Nat}(ho:ops[j]? =some o)(bb:o.guard=none)(hnd:∀c,o.op≠ .defer c){x:Value}{aH:World}
  (ct:(execOp a.eval o).run C.P w=.ok (.value x) aH) (oU:K (a.put o.dst x) aH):wpOpIn (eV ro) 0 C.P ops Q j K a w:=by
 unfold wpOpIn;rw[ho];have hw:Region.wanted o (yielded ops a.tmps)=true:=by unfold Region.wanted;rw[bb]
 simp only[hw,if_true];refine⟨fun _ _=>trivial,?_⟩;rw[Oper.semAt_eq _ _ _ hnd,ct];exact oU
theorem dN.put{st:aw}{a:Act}(h:dN C fid vars N G st a w){t:Nat}(fM:t<N){v:V}{x:Value}(af:bw fid G w v x):
  dN C fid vars N G (st.put (some (t,vars.contains t)) v) (a.put (some t) x) w:=by
 have hp:=kX st (some (t,vars.contains t)) v;refine⟨by rw[hp.1];exact h.rel,fun s=> ?_,by rw[yi];exact h.size,by rw[hp.1,hp.2.1];exact h.low⟩;rw[Pf _ _ _ _ (by rw[h.size];exact fM),Fk];by_cases e:s=t
 ·rw[if_pos e,if_pos e];exact af
 ·rw[if_neg e,if_neg e];exact h.env s
end
end Go.Abs
