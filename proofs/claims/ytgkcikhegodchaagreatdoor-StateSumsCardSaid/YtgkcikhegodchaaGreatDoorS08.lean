/- Texts of this claim, joined and written short by a program. -/
import Derived.Test.YtgkcikhegodchaaGreatDoorS07
import Derived.Test.YtgkcikhegodchaaGreatDoorS01
import Derived.Laws.IdiomRangeMap
import Derived.Test.YtgkcikhegodchaaGreatDoorS00
set_option linter.unusedVariables false
set_option linter.unusedSimpArgs false
set_option linter.unusedSectionVars false
namespace Go.Abs
open Go
variable{C:Ctx}{fid:Nat->Nat}{w w':World}{G G':bT}{H H':Heap}
def B4:X->Exit
 | .normal=>.normal
 | .exit id=>.exit id
 | .ret=>.ret
def vG (G:bT):Option Nat->Option Nat->Prop
 |none,none=>True
 |some l,some b=>∃h,G.β l=some h/\h.tag=0/\h.b=b
 | _,_=>False
theorem vG.ext{m n:Nat}(h:Ext G w G' w' m n):∀{l b:Option Nat},vG G l b->vG G' l b
 |none,none,_=>trivial
 |some l,some b,⟨h0,e,t,q⟩=>by
  obtain⟨h',e',-,z,m,-⟩:=h.homes l h0 e;exact⟨h',e',z t,by rw[(m ((z t).trans t.symm)).1];exact q⟩
 |none,some _,k|some _,none,k=>k.elim
def IJ (r:Nat):Deferred:={target:=.collected r,args:= #[]}
structure EE (G:bT) (w:World) (base r:Nat):Prop where
 base:base<=r
 lt:r<w.heap.size
 obj:w.heap[r]? =some (.deferred (some []))
 home:∀l h,G.β l=some h->h.b≠r
 c0:¬G.I r
def k6 (C:Ctx)(G:bT)(w:World)(base:Nat)(ds:List Deferred):Prop:=∃rs:List (Nat ⊕ Deferred),ds=rs.map (fun| .inl r=>IJ r| .inr d=>d)/\(rs.filterMap fun| .inl r=>some r| .inr _=>none).Nodup/\
 (∀r,.inl r∈rs->EE G w base r)/\∀d,.inr d∈rs->Ig C.P d
theorem EE.ext{m n base r:Nat}(h:Ext G w G' w' m n)(k:EE G w base r):EE G' w' base r where
 base:=k.base
 lt:=rB k.lt h.size
 obj:=by rw[h.ek r k.lt fun l x ab aj=>absurd aj (k.home l x ab)];exact k.obj
 home l x e q:=by
  rcases h.MW l x e with⟨cZ,eL,eb⟩|hs
  ·exact k.home l cZ eL (eb.trans q)
  ·have:=k.lt;omega
 c0 hi:=by
  rcases h.o5 r hi with h1|h1|⟨l,x,e,eb⟩
  ·exact k.c0 h1
  ·have:=k.lt;omega
  ·exact k.home l x e eb
theorem k6.ext{m n base:Nat}{ds:List Deferred}(h:Ext G w G' w' m n):k6 C G w base ds->k6 C G' w' base ds
 |⟨rs,e,db,k,q⟩=>⟨rs,e,db,fun r hr=>(k r hr).ext h,q⟩
theorem s8 (bw:eW C fid){vars:List Nat}{N:Nat}{st:av}{a:Act}(U:dC C fid vars N G st a w):fr C fid vars G w (ai.ag st.aC st.au) a.eval:=fun x cE hx=>by
 cases x with
 |tmp t=>
  simp only[Ctx.b5,aA]at hx;have e:cE.ag st.aC st.au=dJ vars st t:=by rw[<-hx];unfold dJ;split<;>rfl
  rw[e];exact U.env t
 |const u=>
  simp only[Ctx.b5]at hx;obtain⟨UQ,hM,rfl⟩:=cj.1 hx;rcases D5 (I:=G.I) (w:=w) u hM with rfl|hp
  ·exact .undef _
  ·exact .p _ _ hp
 |func f=>exact M8 bw hx
 |global g=>simp[Ctx.b5]at hx
theorem IK{F:Fence}{n:Nat}{P:Program}{Q:Exit->Act->World->Prop}{c:Code}(I:Nat->Act->World->Prop)
  (round:∀k a w,I k a w->∃bz,k=bz+1/\c.wpIn F n P (Exit.then (I bz) Q) a w) {j:Nat} {a:Act} {w:World} (h₀:I j a w):(Code.loop c).wpIn F n P Q a w:=by
 intro b k cs dU hb hr
 have key:∀j a w,I j a w->
   ∃e a8 w',Q e a8 w'/\ArrivesIn (Machine.fenced P F) P (lone (b.atR a (.code c::.inLoop c::k)) cs w) b k cs e a8 w':=by
  intro j
  induction j with
  |zero=>
   intro a w bk;obtain⟨bz,e,-⟩:=round 0 a w bk;omega
  |succ j ih=>
   intro a w bk;obtain⟨bz,e,da⟩:=round _ a w bk;cases e;obtain⟨e,B5,B6,bg,s0⟩:=da b (.inLoop c::k) cs dU hb hr;cases e with
   |normal=>
    obtain⟨MT,aik,ail,aim,ain⟩:=ih B5 B6 bg;exact⟨MT,aik,ail,aim,.of_steps (StepsIn.trans s0 (.one (fenced_calm hb hr rfl) stepR_inLoop)) ain⟩
   |exit id=>exact⟨_,B5,B6,bg,.pass (x:=.inLoop c) rfl (fun _ _=>.inl (by simp)) s0⟩
   |goto l=>exact⟨_,B5,B6,bg,.pass (x:=.inLoop c) rfl (fun _ _=>.inl (by simp)) s0⟩
   |ret=>exact⟨_,B5,B6,bg,.pass (x:=.inLoop c) rfl (fun _ _=>.inl (by simp)) s0⟩
   |panic azC=>exact⟨_,B5,B6,bg,.pass (x:=.inLoop c) rfl (fun _ _=>.inl (by simp)) s0⟩
   |outgrown=>exact⟨_,B5,B6,bg,.pass (x:=.inLoop c) rfl (fun _ _=>.inl (by simp)) s0⟩
 obtain⟨e,a8,w',bg,s0⟩:=key _ a w h₀;exact⟨e,a8,w',bg,.of_steps (.one (fenced_calm hb hr rfl) stepR_loop) s0⟩
structure Fin (C:Ctx) (fid:Nat->Nat) (vars:List Nat) (N base:Nat) (st:av) (G:bT) (w:World) (aV:av) (G':bT) (a8:Act) (w':World):Prop where
 rel:dC C fid vars N G' aV a8 w'
 ext:∀m,m<=aV.low->Ext G w G' w' m st.H.length
 marks:k6 C G' w' base a8.defers
def qP (C:Ctx)(fid:Nat->Nat)(call:cP)(n:Nat)(c:Code):Prop:=
 ∀(ac:cm) (vars:List Nat) (N:Nat),C.code vars N c=some ac->∀(st:av) (x:X) (aV:av),exec call n ac st=some (x,aV)->
 ∀(G:bT) (a:Act) (w:World) (ro:Option Nat) (base:Nat) (Q:Exit->Act->World->Prop),dC C fid vars N G st a w->vG G st.ro ro->k6 C G w base a.defers->base<=w.heap.size->
  (∀G' a8 w',Fin C fid vars N base st G w aV G' a8 w'->Q (B4 x) a8 w')->c.wpIn (eH ro) 0 C.P Q a w
section
variable{call:cP}{n:Nat}
theorem Fin.refl{vars:List Nat}{N base:Nat}{st:av}{a:Act}(h:dC C fid vars N G st a w)(k:k6 C G w base a.defers):Fin C fid vars N base st G w st G a w:=
 ⟨h,fun m _=>.refl _ _ _ _,k⟩
theorem Fin.trans{vars:List Nat}{N base:Nat}{st st1 st2:av}{ay bl:bT}{al a2:Act}{aD bJ:World}(h:Fin C fid vars N base st G w st1 ay al aD)(k:Fin C fid vars N base st1 ay aD st2 bl a2 bJ)
  (f1:gy st st1) (f2:gy st1 st2):Fin C fid vars N base st G w st2 bl a2 bJ:=
 ⟨k.rel,fun m hm=>(h.ext m (cM hm f2.1.low)).trans ((k.ext m hm).le (aF _) f1.1.len),k.marks⟩
theorem aio (bw:eW C fid)(ba:gL C fid call){id:Nat}{ops:Array Oper}{os:List Oper}{hL:Oper}{c:Call}{f:Operand}{mf:ai}{vars:List Nat}{N:Nat}{bF:List bI}{st aV:av}{wr:List Bool}{a:Act}{base:Nat}{Q:Exit->Act->World->Prop}
  (qc:ops.toList=os++[hL]) (aip:hL.op=.defer c) (oI:c.callee=.value f) (EF:c.args= #[]) (a6:hL.guard=none) (B0:hL.dst=none) (hm:dF (C.oper vars N ops) os=some bF) (ae:C.b5 vars f=some mf)
  (he:cY call bF {st with aC:=[]} []=some (aV,wr)) (bh:Mv C.yP (mf.ag aV.aC aV.au)=true) (U:dC C fid vars N G st a w) (eR:k6 C G w base a.defers)
  (dD:∀G' a8 w',dC C fid vars N G' aV a8 w'->(∀m,m<=aV.low->Ext G w G' w' m st.H.length)->k6 C G' w' base a8.defers->Q .normal a8 w'):
  (Code.region id ops false).wpIn (eH none) 0 C.P Q a w:=by
 obtain⟨S,aY,h0,hn,-,hs⟩:=uo _ _ _ _ _ he;have hlen:bF.length=os.length:=vr _ hm;have dk:ops.size=os.length+1:=by rw[<-fC,qc];simp
 have key:∀k j,j+k=os.length->∀bl al bJ,dC C fid vars N bl (S j) al bJ->(∀m,m<=(S j).low->Ext G w bl bJ m st.H.length)->al.defers=a.defers->st.H.length<=(S j).H.length->
   wpOpsIn (eH none) 0 C.P ops Q (List.range' j (k+1)) al bJ:=by
  intro k
  induction k with
  |zero=>
   intro j hj bl al bJ bB b4 eI _;have e:j=bF.length:=by omega
   subst e;rw[hn]at bB b4;have ho:ops[bF.length]? =some hL:=by rw[<-gr,qc,hlen];simp
   rw[qw,wpOpsIn_cons];have e5:=s8 bw bB f mf ae;unfold Mv at bh;split at bh
   ·rename_i i cs BZ
    rw[BZ]at e5;obtain⟨xs,cB,eC,Vh,af⟩:=e5.BF;cases eC;unfold wpOpIn;rw[ho];have hw:Region.wanted hL (yielded ops al.tmps)=true:=by unfold Region.wanted;rw[a6]
    simp only[hw,if_true];refine⟨fun _ _=>trivial,?_⟩
    have cc:(Oper.semAt (eH none).round al.eval hL).run C.P bJ=.ok (.defer {target:=.fn (.func i) ⟨cB⟩,args:= #[]}) bJ:=by
     show(Oper.semAt none al.eval hL).run C.P bJ=_;rw[Oper.semAt_none];unfold execOp;rw[aip];obtain⟨TT,jX,kk⟩:=c;simp only at oI EF;subst oI;subst EF;simp only[resolve,af,Sem.run_bind,Sem.run_pure,Result.andThen_ok];simp[Sem.run_pure,Deferred.ofValue]
     try rfl
    rw[cc];simp only[Oper.uponIn];rw[B0];show Q .normal _ _;refine dD bl _ bJ ⟨bB.rel,bB.env,bB.size,bB.low⟩ (fun m hm=>b4 m hm) ?_;obtain⟨rs,ab,db,b6,dI⟩:=eR.ext (b4 0 (cD _));refine⟨.inr {target:=.fn (.func i) ⟨cB⟩,args:= #[]}::rs,?_,db,fun r hr=>b6 r (by simpa using hr),fun d hd=> ?_⟩
    ·show _::al.defers=_
     rw[eI,ab];rfl
    ·rcases dp.1 hd with hd|hd
     ·cases hd;exact bw.agn i (sE.1 bh) _
     ·exact dI d hd
   ·cases bh
  |succ k ih=>
   intro j hj bl al bJ bB b4 eI gM;have nP:j<os.length:=by omega
   have jU:os[j]? =some os[j]:=by simp[nP]
   have ho:ops[j]? =some os[j]:=by rw[<-gr,qc,fB nP];exact jU
   have EG:j<bF.length:=by omega
   have gd:bF[j]? =some bF[j]:=by simp[EG]
   have Ob:um C vars N ops os[j] bF[j]:=BX (vt _ hm jU gd);have b7:=hs j _ gd;rw[qw,wpOpsIn_cons];have eN:=b7.bQ ba.bQ;refine ze (T:=fun _=>True) bw ba ho Ob b7 bB.rel (fun _=>.inl rfl) bB.low (fun t _=>bB.env t) (fun x _=>by cases x<;>trivial) (fun _ _ _ _ _=>trivial) bB.size ?_;intro x fQ jY p1 p2 p3
   have zh:aX C fid jY (S (j+1)).H fQ:=by
    cases ae:aY j with
    |true=>rw[ae]at p1;exact p1
    |false=>rw[ae]at p1;rw[b7.still ba.bQ ae];exact p1
   have oF:=p2 0 (cD _)
   refine ih (j+1) (by omega) jY _ fQ ⟨zh,fun t=> ?_,by rw[xB];exact bB.size,eN.bound bB.low⟩ (fun m hm=>(b4 m (cM hm eN.1.low)).trans ((p2 m hm).le (aF _) gM)) (by rw[put_defers];exact eI)
    (cM gM eN.1.len)
   refine zg (fun d hd=>by rw[bB.size];exact Ob.lt d hd) (fun h=>p3 t h) (fun h=> ?_);rw[b7.look Ob h];exact(bB.env t).ext bB.rel oF
 refine wpIn_region ?_;rw[dk,DD];have jD:=U.clear;rw[<-h0]at jD;exact key os.length 0 (by omega) G a w jD (fun m _=>.refl _ _ _ _) rfl (by rw[h0];exact aF _)
theorem aiq{C:Ctx}{vars:List Nat}{n:Nat}{ops:Array Oper}{ac:cm}(h:C.Mx vars n ops=some ac):
  ∃os hL c f bF mf,ops.toList=os++[hL]/\hL.op=.defer c/\c.callee=.value f/\c.args= #[]/\hL.guard=none/\hL.dst=none/\dF (C.oper vars n ops) os=some bF/\C.b5 vars f=some mf/\ac=.yM bF C.yP mf:=by
 unfold Ctx.Mx at h;split at h
 ·cases h
 ·rename_i hL hl _
  split at h
  ·rename_i f args dN dm a6
   split at h
   ·rename_i bF mf ha hm ae
    split at h
    ·rename_i hd
     cases h;have aZ:ops.toList≠[]:=by intro e;rw[e]at hl;cases hl
     have:ops.toList.dropLast++[hL]=ops.toList:=by
      have aj:=List.getLast?_eq_some_getLast aZ;rw[hl]at aj;cases aj;exact List.dropLast_concat_getLast aZ
     exact⟨_,hL,_,f,bF,mf,this.symm,dm,rfl,by simpa using ha,a6,by simpa using hd,hm,ae,rfl⟩
    ·cases h
   ·cases h
  ·cases h
 ·cases h
theorem air (cw:C.P.follows .mixedOrders=true)(bw:eW C fid)(ba:gL C fid call)(id:Nat)(ops:Array Oper)(draw:Bool):qP C fid call n (.region id ops draw):=by
 intro ac vars N hc st x aV he G a w ro base Q U dU eR hb dD;simp only[Ctx.code]at hc;split at hc
 ·rename_i r hd
  cases hc;split at hd
  ·cases hd
  ·rename_i Oc
   have Oc:draw=false:=by simpa using Oc
   subst Oc;obtain⟨os,hL,c,f,bF,mf,h1,h2,ar,aR,h5,eo,lC,vz,rfl⟩:=aiq hd;simp only[exec,av.fo]at he;split at he
   ·rename_i st1 wr hex
    split at he
    ·rename_i bh
     cases he;simp only[cn]at bh
     have B7:st.ro=none:=by
      have:=(pk ba.bQ _ _ _ _ _ (by exact U.low) hex).2;simp only at this;simpa[this]using bh.1
     rw[B7]at dU
     have ais:ro=none:=by
      cases ro with
      |none=>rfl
      |some b=>exact dU.elim
     subst ais;exact aio bw ba h1 h2 ar aR h5 eo lC vz hex bh.2 U eR fun G' a8 w' bB b4 eI=>dD G' a8 w' ⟨bB.clear,b4,eI⟩
    ·cases he
   ·cases he
 split at hc
 ·rename_i bF hm
  cases hd:draw with
  |false=>
   rw[hd]at hc;simp only[xc,if_true,aA]at hc;subst hc;simp only[exec,av.fo]at he;split at he
   ·rename_i st1 wr h1
    cases he;exact ahY bw ba hm h1 U fun G' a8 w' bB b4 eI=>dD G' a8 w' ⟨bB.clear,b4,by rw[eI];exact eR.ext (b4 0 (cD _))⟩
   ·cases he
  |true=>
   rw[hd]at hc;simp only[iN,fE,if_false]at hc;split at hc
   ·rename_i eh
    simp only[cn]at eh;obtain⟨⟨h1,h2⟩,ar⟩:=eh;cases hc;simp only[exec,av.fo]at he;split at he
    ·rename_i st1 wr aR
     split at he
     ·rename_i hin
      cases he;exact aij cw bw ba hm h1 h2 ar aR hin U fun G' a8 w' bB b4 eI=>dD G' a8 w' ⟨bB.clear,b4,by rw[eI];exact eR.ext (b4 0 (cD _))⟩
     ·cases he
    ·cases he
   ·cases hc
 ·cases hc
theorem ait (eN:mu call){x y:Code}(hx:qP C fid call n x)(hy:qP C fid call n y):qP C fid call n (.seq x y):=by
 intro ac vars N hc st r aV he G a w ro base Q U dU eR hb dD;simp only[Ctx.code]at hc;split at hc
 ·rename_i cE lx h1 h2
  cases hc;simp only[exec,av.fo]at he;refine wpIn_seq ?_;split at he
  ·rename_i st1 mm
   have f1:=mw eN n _ _ _ _ U.low mm;refine hx _ _ _ h1 _ _ _ mm G a w ro base _ U dU eR hb fun ay al aD gz=> ?_;have f2:=mw eN n _ _ _ _ gz.rel.low he;exact hy _ _ _ h2 _ _ _ he ay al aD ro base _ gz.rel (by rw[f1.2];exact dU.ext (gz.ext 0 (cD _))) gz.marks (cM hb (gz.ext 0 (cD _)).size) fun bl a2 bJ ur=>dD bl a2 bJ (gz.trans ur f1 f2)
  ·rename_i aZ
   refine hx _ _ _ h1 _ _ _ he G a w ro base _ U dU eR hb fun ay al aD gz=> ?_;have:=dD ay al aD gz;cases r with
   |normal=>exact absurd he (aZ _)
   |exit id=>exact this
   |ret=>exact this
 ·cases hc
theorem aiu (bw:eW C fid){o:Operand}{x y:Code}(hx:qP C fid call n x)(hy:qP C fid call n y):qP C fid call n (.cond o x y):=by
 intro ac vars N hc st r aV he G a w ro base Q U dU eR hb dD;simp only[Ctx.code]at hc;split at hc
 ·rename_i c cE lx h0 h1 h2
  cases hc;simp only[exec,av.fo]at he;have af:=s8 bw U o c h0;split at he
  ·rename_i p5
   rw[p5]at af;exact wpIn_cond_true af.kY (hx _ _ _ h1 _ _ _ he G a w ro base Q U dU eR hb dD)
  ·rename_i p5
   rw[p5]at af;exact wpIn_cond_false af.kY (hy _ _ _ h2 _ _ _ he G a w ro base Q U dU eR hb dD)
  ·cases he
 ·cases hc
theorem aiv{id:Nat}{x:Code}(hx:qP C fid call n x):qP C fid call n (.block id x):=by
 intro ac vars N hc st r aV he G a w ro base Q U dU eR hb dD;simp only[Ctx.code]at hc;obtain⟨cE,h1,rfl⟩:=cj.1 hc;simp only[exec,av.fo]at he;refine wpIn_block ?_;split at he
 ·rename_i ud st1 mm
  refine hx _ _ _ h1 _ _ _ mm G a w ro base _ U dU eR hb fun ay al aD gz=> ?_;split at he
  ·rename_i hid
   cases he;simp only[B4,Exit.inBlock,hid,if_true];exact dD ay al aD gz
  ·rename_i hid
   cases he;simp only[B4,Exit.inBlock,hid,if_false];exact dD ay al aD gz
 ·rename_i aZ
  refine hx _ _ _ h1 _ _ _ he G a w ro base _ U dU eR hb fun ay al aD gz=> ?_;have:=dD ay al aD gz;cases r with
  |normal=>exact this
  |exit id=>exact absurd he (aZ _ _)
  |ret=>exact this
theorem aiw (eN:mu call){x:Code}(hx:qP C fid call n x):qP C fid call n (.loop x):=by
 intro ac vars N hc st r aV he G a w ro base Q U dU eR hb dD;simp only[Ctx.code]at hc;obtain⟨cE,h1,rfl⟩:=cj.1 hc;simp only[exec,av.fo]at he;refine IK (fun k al aD=>∃st1 ay,iter (exec call n cE) k st1=some (r,aV)/\gy st st1/\Fin C fid vars N base st G w st1 ay al aD) ?_ ⟨st,G,he,.refl _,.refl U eR⟩;rintro k al aD ⟨st1,ay,hi,ae,gz⟩;cases k with
 |zero=>simp[iter]at hi
 |succ k=>
  refine⟨k,rfl,?_⟩;simp only[iter]at hi;have B7:vG ay st1.ro ro:=by rw[ae.2];exact dU.ext (gz.ext 0 (cD _))
  have p5:base<=aD.heap.size:=cM hb (gz.ext 0 (cD _)).size;split at hi
  ·rename_i st2 nM
   have f2:=mw eN n _ _ _ _ gz.rel.low nM;exact hx _ _ _ h1 _ _ _ nM ay al aD ro base _ gz.rel B7 gz.marks p5 fun bl a2 bJ ur=>⟨st2,bl,hi,ae.trans f2,gz.trans ur ae f2⟩
  ·rename_i aZ
   have f2:=mw eN n _ _ _ _ gz.rel.low hi;refine hx _ _ _ h1 _ _ _ hi ay al aD ro base _ gz.rel B7 gz.marks p5 fun bl a2 bJ ur=> ?_;have:=dD bl a2 bJ (gz.trans ur ae f2);cases r with
   |normal=>exact absurd hi (aZ _)
   |exit id=>exact this
   |ret=>exact this
end
end Go.Abs
namespace Go.Abs
open Go
variable{C:Ctx}{fid:Nat->Nat}{w w':World}{G G':bT}{H H':Heap}
theorem aix{P:Program}(fn:FuncId)(tmps:Array Value)(ps:Array Tmp)(assign body:Code){b:Nat}{L:Loop}(h:w.heap[b]? =some (.loop L)):
  (Instr.enterLoop fn tmps ps assign body (some b)).run P w=.ok (w.heap.size,[]) (w.alloc (.loop {state:=.ready,pending:=none,fn,tmps,params:=ps,assign,body,defers:=L.defers})):=by
 unfold Instr.enterLoop;simp only[Sem.run_bind,run_getLoop h,run_newObj_alloc,Result.andThen,Sem.run_pure]
theorem Od{vars:List Nat}{st:av}{t:Nat}(h:t∈vars):dJ vars st t=bA st.au t:=by
 unfold dJ;rw[if_pos (sE.2 h)]
theorem EH (U:aX C fid G H w){l:Nat}{h:Home}(hb:G.β l=some h){st:LoopState}{ub:X}{env:Env}{ps:List Nat}{aQ ct:cm}(hl:H[l]? =some (.loop st ub env ps aQ ct)):
  h.tag=0/\h.fz=false/\∃L vars,w.heap[h.b]? =some (.loop L)/\L.state=st/\MV ub L.pending/\
    L.params.toList=ps/\(∀t∈ps,t∈vars/\t<L.tmps.size)/\
    C.code vars L.tmps.size L.assign=some aQ/\C.code vars L.tmps.size L.body=some ct/\∀t∈vars,bd fid G w (bA env t) (L.tmps.getD t undef):=by
 obtain⟨o,ho,hr⟩:=U.obj l h hb;rw[hl]at ho;cases ho;exact hr
theorem aiy{β:Nat->Option Home}{l:Nat}{h:Home}(hb:β l=some h):ck β l h=β:=by
 funext x;unfold ck;split
 ·rename_i e;rw[e,hb]
 ·rfl
theorem turn (U:aX C fid G H w){l:Nat}{h:Home}(hb:G.β l=some h)(ae:h.fz=false)(aP:Obj)(o:bU)
  (ho:(∀b,b≠h.b->(w.putObj h.b aP).heap[b]? =w.heap[b]?)->(w.putObj h.b aP).heap[h.b]? =some aP->(∀b,G.I b->(w.putObj h.b aP).heap[b]? =w.heap[b]?)->jT C fid G (w.putObj h.b aP) h o):
  aX C fid G (H.set l o) (w.putObj h.b aP)/\Ext G w G (w.putObj h.b aP) l H.length:=by
 have hk:∀b,b≠h.b->(w.putObj h.b aP).heap[b]? =w.heap[b]? :=fun b fu=>World.putObj_heap_other fu
 have bk:∀b,G.I b->(w.putObj h.b aP).heap[b]? =w.heap[b]? :=fun b hi=>hk b fun e=>by
  have:=(U.c0 b hi).2 l h hb e.symm;rw[ae]at this;cases this
 have h1:=ho hk (World.putObj_heap_same (U.blk l h hb)) bk;have B8:(⟨ck G.β l h,G.I⟩:bT)=G:=by rw[aiy hb]
 have a:=aX.write (w':=w.putObj h.b aP) U hb ae rfl ae (aF _) id rfl (by simp) hk o (by rw[B8];exact h1);have b:=Ext.write (w':=w.putObj h.b aP) U hb ae rfl (aF _) id rfl (by simp) hk rfl rfl;rw[B8]at a b;exact⟨a,b⟩
section
variable{call:cP}{n:Nat}
theorem aiz (bw:eW C fid)(ba:gL C fid call){f:Operand}{ps:Array Tmp}{aQ ct:Code}:qP C fid call n (.rangeFunc f ps aQ ct):=by
 intro ac vars N hc st r aV he G a w ro base Q U dU eR hb dD;simp only[Ctx.code]at hc;split at hc
 ·rename_i mf Vi Vj h0 h1 h2
  split at hc
  ·rename_i nG
   cases hc
   have Vk:∀t∈ps.toList,t∈vars/\t<N:=fun t ht=>by
    have:=(Array.all_eq_true_iff_forall_mem.1 nG) t (Array.mem_toList_iff.1 ht);simp only[cn,decide_eq_true_eq,sE]at this;exact⟨this.2,this.1⟩
   simp only[exec]at he;split at he
   ·cases he
   ·rename_i bh
    simp only[HM,cn]at bh;obtain⟨IL,aiA⟩:=bh;split at he
    ·rename_i u H1 bG fe
     split at he
     ·rename_i ls ub S8 S9 sL Ta zn
      split at he
      ·cases he
      ·rename_i aiB
       cases he;have zc:=s8 bw U f mf h0;refine wpIn_rangeFunc fun fn _=> ?_
       obtain⟨gg,mark,R,s9,IM,Oe,aiC,fI,rU,B9,aiD,Of,aiE⟩:∃(gg:World) (mark:List Deferred) (R:Loop),
         (Instr.enterLoop fn a.tmps ps aQ ct (eH ro).round).run C.P w=.ok (gg.heap.size,mark) (gg.alloc (.loop R))/\aX C fid G st.H gg/\(∀m n,Ext G w G gg m n)/\k6 C G gg base (mark++a.defers)/\
         R.state=.ready/\R.pending=none/\R.tmps=a.tmps/\R.params=ps/\R.assign=aQ/\R.body=ct:=by
        cases aiF:ro with
        |none=>
         have hk:∀b,b<w.heap.size->(w.alloc (.deferred (some []))).heap[b]? =w.heap[b]? :=fun b fu=>alloc_old fu;have dk:w.heap.size<=(w.alloc (.deferred (some []))).heap.size:=by simp
         refine⟨w.alloc (.deferred (some [])),[IJ w.heap.size],{state:=.ready,pending:=none,fn,tmps:=a.tmps,params:=ps,assign:=aQ,body:=ct,defers:=w.heap.size},?_,U.rel.restore dk hk,fun m n=>.restore dk hk rfl rfl m n,?_,rfl,rfl,rfl,rfl,rfl,rfl⟩
         ·have:=run_enterLoop_outer (P:=C.P) (w:=w) fn a.tmps ps aQ ct
          rw[show(eH none).round=none from rfl,this];simp[IJ]
         ·obtain⟨rs,e,db,k,dK⟩:=eR
          refine⟨.inl w.heap.size::rs,by rw[e];rfl,sG.2 ⟨fun hin=> ?_,db⟩,fun r hr=> ?_,fun d hd=> ?_⟩
          ·obtain⟨q,bg,e'⟩:=HJ.1 hin
           cases q with
           |inl r=>cases e';have:=(k _ bg).lt;omega
           |inr d=>cases e'
          ·rcases dp.1 hr with hr|hr
           ·cases hr
            exact⟨hb,by simp,mi _ _,fun l h e q=>by have:=U.rel.blk l h e;omega,fun hi=>by have:=(U.rel.c0 _ hi).1;omega⟩
           ·exact(k r hr).ext (.restore (G:=G) dk hk rfl rfl 0 0)
          ·rcases dp.1 hd with hd|hd
           ·cases hd
           ·exact dK d hd
        |some b=>
         subst aiF;cases Vl:st.ro with
         |none=>rw[Vl]at dU;exact dU.elim
         |some qd=>
          rw[Vl]at dU IL;obtain⟨h,e,t,q⟩:=dU;simp only[DS]at IL;split at IL
          ·rename_i oB
           obtain⟨-,-,L,vs,ee,-⟩:=EH U.rel e oB;rw[q]at ee;exact⟨w,[],{state:=.ready,pending:=none,fn,tmps:=a.tmps,params:=ps,assign:=aQ,body:=ct,defers:=L.defers},aix fn a.tmps ps aQ ct ee,U.rel,fun m n=>.refl _ _ _ _,eR,rfl,rfl,rfl,rfl,rfl,rfl⟩
          ·cases IL
       let hm:Home:=⟨gg.heap.size,0,0,false⟩;let ay:bT:=⟨ck G.β st.H.length hm,G.I⟩;have Vm:mh G.β ay.β:=Bw (IM.none (aF _)) _;have Vn:∀b,G.I b->ay.I b/\(gg.alloc (.loop R)).heap[b]? =gg.heap[b]? :=fun b hi=>⟨hi,alloc_old (IM.c0 b hi).1⟩;have vu:∀t,bd fid G gg (dJ vars st t) (a.tmps.getD t undef):=fun t=>(U.env t).ext U.rel (Oe 0 0)
       have vH:aX C fid ay (st.H++[.loop .ready .normal st.au ps.toList Vi Vj]) (gg.alloc (.loop R)):=by
        refine IM.push _ _ 0 0 ⟨rfl,rfl,R,vars,mi _ _,fI,by rw[rU];trivial,by rw[aiD],fun t ht=>⟨(Vk t ht).1,by rw[B9,U.size];exact(Vk t ht).2⟩,?_,?_,fun t ht=> ?_⟩
        ·rw[B9,Of,U.size];exact h1
        ·rw[B9,aiE,U.size];exact h2
        ·rw[B9,<-Od ht];exact(vu t).mono Vm Vn
       have Vo:∀m,Ext G gg ay (gg.alloc (.loop R)) m st.H.length:=fun m=>.push IM _ 0 0 m;have NS:bd fid ay (gg.alloc (.loop R)) (mf.ag st.aC st.au) (a.eval f):=((zc.ext U.rel (Oe 0 0)).mono Vm Vn)
       have aiG:a1 fid ay (gg.alloc (.loop R)) [.yield st.H.length] [.func (.yield gg.heap.size) #[] #[]]:=
        .cons _ _ _ _ (.yield st.H.length hm (dh _ _ _) rfl) .nil
       obtain⟨d,hd,hn,aiH⟩:=ba.run vH NS aiG fe;obtain⟨g,gs,hinv⟩:=aiH aiA rfl;rw[hinv]at hn;refine⟨gg.heap.size,mark,_,d,gg.alloc (.loop R),g,gs,_,s9,?_,fun _ _=>trivial,hinv,fun h=>by simp[eH]at h,?_⟩
       ·have e:Array.map a.eval #[Operand.const (Value.func (Fn.yield gg.heap.size) #[] #[])]=⟨[Value.func (Fn.yield gg.heap.size) #[] #[]]⟩:=by simp[Act.eval]
        simp only[resolve,rangeCall,e];exact hd
       ·have qJ:Calls C.P g gs (gg.alloc (.loop R)) (rangePost (eH ro) 0 C.P gg.heap.size Q {a with defers:=mark++a.defers}):=by
         refine xd hn fun e fQ hp=> ?_;obtain⟨y,rfl,bl,q1,q2,cd⟩:=hp;have EI:=q2 0 (cD _);obtain⟨h2,aj,-,z2,m2,-⟩:=EI.homes st.H.length hm (dh _ _ _);have t2:=z2 rfl;have ff:h2.b=gg.heap.size:=(m2 t2).1;obtain⟨-,Vp,L,vs,ee,Vq,vI,-⟩:=EH q1 aj zn;rw[ff]at ee;have hT:=turn q1 aj Vp (.loop {L with state:=.exhausted}) .gone fun _ _ _=>⟨t2,Vp⟩;rw[ff]at hT;have r1:=ba.bQ _ _ _ _ _ _ fe;have hlen:st.H.length<=H1.length:=by have:=r1.len;simp at this;omega
         have Ca:∀m,m<=min st.low bG->Ext G w bl (fQ.putObj gg.heap.size (.loop {L with state:=.exhausted})) m st.H.length:=fun m jB=>
          ((Oe m st.H.length).trans (Vo m)).trans (((q2 m (by omega)).le (aF _) (by simp)).trans (hT.2.le (by have:=U.low;omega) hlen))
         have c7:=Ca 0 (cD _)
         have aiI:dC C fid vars N bl {st with H:=H1.set st.H.length .gone,low:=min st.low bG} {a with defers:=mark++a.defers} (fQ.putObj gg.heap.size (.loop {L with state:=.exhausted})):=
          ⟨hT.1,fun t=>(U.env t).ext U.rel c7,U.size,by simp only[yD];have:=U.low;omega⟩
         have aiJ:k6 C bl (fQ.putObj gg.heap.size (.loop {L with state:=.exhausted})) base (mark++a.defers):=((aiC.ext (Vo 0)).ext EI).ext (hT.2.le (cD _) (aF _));have bg:=dD bl _ _ ⟨aiI,Ca,aiJ⟩;refine⟨L.pending,_,run_endLoop ee (by rw[Vq];exact aiB),?_⟩;cases hp:L.pending with
         |none=>
          rw[hp]at vI bg;cases r with
          |normal=>exact bg
          |exit i=>exact vI.elim
          |ret=>exact vI.elim
         |some c=>
          rw[hp]at vI bg;cases r with
          |normal=>exact vI.elim
          |exit i=>
           cases c<;>first|exact vI.elim|skip
           rename_i j;have:j=i:=vI;subst this;exact wpIn_exit bg
          |ret=>
           cases c<;>first|exact vI.elim|skip
           exact wpIn_ret bg
        exact callsIn_wide.2 qJ
     ·cases he
    ·cases he
  ·cases hc
 ·cases hc
theorem r2 (cw:C.P.follows .mixedOrders=true)(bw:eW C fid)(ba:gL C fid call):∀(c:Code),qP C fid call n c
 | .skip=>by
   intro ac vars N hc st r aV he G a w ro base Q U dU eR hb dD;simp only[Ctx.code,aA]at hc;subst hc;simp only[exec,aA,bq]at he;obtain⟨rfl,rfl⟩:=he;exact wpIn_skip (dD G a w (.refl U eR))
 | .region id ops draw=>air cw bw ba id ops draw
 | .seq x y=>ait ba.bQ (r2 cw bw ba x) (r2 cw bw ba y)
 | .cond o x y=>aiu bw (r2 cw bw ba x) (r2 cw bw ba y)
 | .block id x=>aiv (r2 cw bw ba x)
 | .loop x=>aiw ba.bQ (r2 cw bw ba x)
 | .rangeFunc f ps x y=>aiz bw ba
 | .exit id=>by
   intro ac vars N hc st r aV he G a w ro base Q U dU eR hb dD;simp only[Ctx.code,aA]at hc;subst hc;simp only[exec,aA,bq]at he;obtain⟨rfl,rfl⟩:=he;exact wpIn_exit (dD G a w (.refl U eR))
 | .ret=>by
   intro ac vars N hc st r aV he G a w ro base Q U dU eR hb dD;simp only[Ctx.code,aA]at hc;subst hc;simp only[exec,aA,bq]at he;obtain⟨rfl,rfl⟩:=he;exact wpIn_ret (dD G a w (.refl U eR))
 | .scope _| .label _| .goto _| .refuse _=>by
   intro ac vars N hc st r aV he;simp only[Ctx.code,aA]at hc;subst hc;simp[exec]at he
end
end Go.Abs
namespace Go.Abs
open Go
variable{C:Ctx}{fid:Nat->Nat}{w w':World}{G G':bT}{H H':Heap}{call:cP}{n:Nat}
def iS (C:Ctx)(fid:Nat->Nat)(i:Nat)(spec:List V->Option V):Prop:=
 ∀{G:bT} {H:Heap} {w:World} {args:List V} {v:V} {xs:List Value},aX C fid G H w->c8 w G.I args xs->spec args=some v->sZ C.P (k1 C fid G H w v H H.length) ((callFunc i ⟨xs⟩).run C.P w)
def xG (C:Ctx)(fid:Nat->Nat)(i:Nat)(spec:sK):Prop:=
 ∀{G:bT} {H:Heap} {w:World} {args:List V} {v:V} {H':Heap} {low:Nat} {xs:List Value},aX C fid G H w->a1 fid G w args xs->u9 spec args H=some (v,H',low)->
  sZ C.P (k1 C fid G H w v H' low) ((callFunc i ⟨xs⟩).run C.P w)/\∃g aQ,(callFunc i ⟨xs⟩).run C.P w=.ok (.enter g aQ) w
structure du (C:Ctx) (fid:Nat->Nat) (aa:Nat->Option bV):Prop where
 code:∀i f,aa i=some (.code f)->∃fn,C.P.funcs[i]? =some fn/\C.func fn f.fresh=some f
 ext:∀i spec,aa i=some (.ext spec)->iS C fid i spec
 o3:∀i spec,aa i=some (.o3 spec)->xG C fid i spec
theorem Vr{vars:List Nat}:∀(ps:List Nat) (vs:List V) (xs:List Value) (env:Env) (tmps:Array Value),a1 fid G w vs xs->(∀t∈ps,t<tmps.size)->
  (∀t,t∈vars->bd fid G w (bA env t) (tmps.getD t undef))->
  ((ps.zip xs).foldl (fun(tm:Array Value) (p:Nat × Value)=>tm.setIfInBounds p.1 p.2) tmps).size=tmps.size/\
    ∀t,t∈vars->bd fid G w (bA ((ps.zip vs).foldl (fun e (p:Nat × V)=>dw e p.1 p.2) env) t) (((ps.zip xs).foldl (fun(tm:Array Value) (p:Nat × Value)=>tm.setIfInBounds p.1 p.2) tmps).getD t undef)
 |[],vs,xs,env,tmps,_,_,h=>⟨rfl,by simpa using h⟩
 |p::ps,_,_,env,tmps,.nil,_,h=>⟨rfl,by simpa using h⟩
 |p::ps,_,_,env,tmps,.cons v x vs xs af hs,aK,h=>by
  have h1:=Vr ps vs xs (dw env p v) (tmps.setIfInBounds p x) hs (fun t ht=>by rw[Array.size_setIfInBounds];exact aK t (by simp[ht])) fun t ht=>by
   rw[UO];have:=NT {tmps:=tmps,defers:=[]} p x t (aK p (by simp));simp only[Act.put]at this;rw[this];by_cases e:t=p
   ·rw[if_pos e,if_pos e];exact af
   ·rw[if_neg e,if_neg e];exact h t ht
  simp only[DG,ot];rw[Array.size_setIfInBounds]at h1;exact h1
theorem k6.nil (G:bT)(w:World)(base:Nat):k6 C G w base []:=⟨[],rfl,DK,(fun r hr=>by cases hr),fun r hr=>by cases hr⟩
theorem aiK (cw:C.P.follows .mixedOrders=true)(bw:eW C fid)(ba:gL C fid call){l:Nat}{args:List V}{v:V}{low':Nat}{xs:List Value}{h:Home}
  (he:pW (exec call n) l args H=some (v,H',low')) (U:aX C fid G H w) (hb:G.β l=some h) (af:a1 fid G w args xs):
  sZ C.P (k1 C fid G H w v H' low') ((Instr.yield h.b ⟨xs⟩).run C.P w):=by
 unfold pW at he;split at he
 ·rename_i p0 env params Vi Vj oB
  obtain⟨ht,hfz,L,vars,ee,Vq,vI,Vs,aiL,aiM,aiN,aiO⟩:=EH U hb oB;split at he
  ·rename_i hlen
   have Vh:=run_yield (P:=C.P) (args:=⟨xs⟩) ee (by rw[<-fC,<-fC,Vs,a1.length af,hlen]);rw[Vh]
   have aiP:(r:Array Value)->((L.params.zip (⟨xs⟩:Array Value)).foldl (fun tmps (t,a)=>tmps.setIfInBounds t a) r)=(params.zip xs).foldl (fun(tm:Array Value) (p:Nat × Value)=>tm.setIfInBounds p.1 p.2) r:=fun r=>by
    rw[<-S1,Array.toList_zip,Vs]
   rw[aiP];obtain⟨dk,aiQ⟩:=Vr (vars:=vars) params args xs env L.tmps af (fun t ht=>(aiL t ht).2) aiO;split at he
   ·rename_i st1 mm
    have f1:=mw ba.bQ n _ _ _ _ (aF _) mm;split at he
    ·rename_i p1 Vt Og Vu Vv zn
     split at he
     ·rename_i x lT qb
      split at he
      ·rename_i azD p3 Oh Oi Oj Ol Vw
       cases he;refine roundIn_of_wpIn trivial ?_
       have jD:dC C fid vars L.tmps.size G {aC:=[],au:=(params.zip args).foldl (fun e (t,v)=>dw e t v) env,H,low:=H.length,ro:=some l}
         {tmps:=(params.zip xs).foldl (fun(tm:Array Value) (p:Nat × Value)=>tm.setIfInBounds p.1 p.2) L.tmps,defers:=[]} w:=
        ⟨U,fun t=>by
         unfold dJ;split
         ·rename_i hin;exact aiQ t (sE.1 hin)
         ·exact .undef _,dk,aF _⟩
       refine r2 (n:=n) cw bw ba L.assign _ vars _ aiM _ _ _ mm G _ w (some h.b) 0 _ jD ⟨h,hb,ht,rfl⟩ (.nil _ _ _) (cD _) ?_;intro ay al aD gz;have Is:=gz.ext 0 (cD _);obtain⟨h1,ab,-,na,m1,-⟩:=Is.homes l h hb;have p5:h1.b=h.b:=(m1 ((na ht).trans ht.symm)).1;obtain⟨t1,Vx,Vy,aiR,q1,q2,cd,c2,fi,hU,nU,aiS⟩:=EH gz.rel.rel ab zn
       have EJ:=turn gz.rel.rel ab Vx (.loop {Vy with state:=.busy}) (.loop .busy p1 Vt Og Vu Vv) fun b6 dI kf=>
        ⟨t1,Vx,_,aiR,dI,rfl,cd,c2,fi,hU,nU,fun t ht=>(aiS t ht).mono (.refl _) fun b hb=>⟨hb,kf b hb⟩⟩
       have Vz:=run_beginRound (P:=C.P) q1 q2;rw[p5]at EJ Vz;refine⟨_,Vz,?_⟩;have r1:min st1.low l<=st1.H.length:=by have:=gz.rel.low;omega
       have fI:dC C fid vars L.tmps.size ay {st1 with H:=st1.H.set l (.loop .busy p1 Vt Og Vu Vv),low:=min st1.low l} al (aD.putObj h.b (.loop {Vy with state:=.busy})):=
        ⟨EJ.1,fun t=>(gz.rel.env t).ext gz.rel.rel EJ.2,gz.rel.size,by simpa using r1⟩
       have B7:st1.ro=some l:=f1.2;refine r2 (n:=n) cw bw ba L.body _ vars _ aiN _ _ _ qb ay al _ (some h.b) 0 _ fI (by simp only[B7];exact⟨h1,ab,t1,p5⟩) (gz.marks.ext EJ.2) (cD _) ?_;intro jY a3 fQ IP;have f3:=mw ba.bQ n _ _ _ _ (by simpa using r1) qb;have Om:=IP.ext 0 (cD _);obtain⟨ar,bC,-,z3,m3,-⟩:=Om.homes l h1 ab;have zo:ar.b=h.b:=(m3 ((z3 t1).trans t1.symm)).1.trans p5;obtain⟨t3,xH,Cb,aiT,bB,b4,eI,gM,jj,ta,zp,vJ⟩:=EH IP.rel.rel bC Vw;have On:H.length<=st1.H.length:=f1.1.len;have aiU:st1.H.length<=lT.H.length:=by have:=f3.1.len;simpa using this
       have VA:lT.low<=st1.low/\lT.low<=l:=by have:=f3.1.low;simp only at this;omega
       have Ca:∀(jump:Option Code) (ls:LoopState),aX C fid jY (lT.H.set l (.loop ls x Oh Oi Oj Ol)) (fQ.putObj h.b (.loop {Cb with state:=ls,pending:=jump}))/\
         Ext jY fQ jY (fQ.putObj h.b (.loop {Cb with state:=ls,pending:=jump})) l lT.H.length->
         ∀m,m<=min lT.low l->Ext G w jY (fQ.putObj h.b (.loop {Cb with state:=ls,pending:=jump})) m H.length:=fun jump ls hT m hm=>
        ((gz.ext m (by omega)).trans ((EJ.2.le (m':=m) (by omega) On))).trans (((IP.ext m (by omega)).le (aF _) (by simpa using On)).trans (hT.2.le (by omega) (cM On aiU)))
       have hT:∀(jump:Option Code) (ls:LoopState),MV x jump->aX C fid jY (lT.H.set l (.loop ls x Oh Oi Oj Ol)) (fQ.putObj h.b (.loop {Cb with state:=ls,pending:=jump}))/\
         Ext jY fQ jY (fQ.putObj h.b (.loop {Cb with state:=ls,pending:=jump})) l lT.H.length:=fun jump ls hp=>by
        have:=turn IP.rel.rel bC xH (.loop {Cb with state:=ls,pending:=jump}) (.loop ls x Oh Oi Oj Ol) fun b6 dI kf=>
         ⟨t3,xH,_,aiT,dI,rfl,hp,gM,jj,ta,zp,fun t ht=>(vJ t ht).mono (.refl _) fun b hb=>⟨hb,kf b hb⟩⟩
        rw[zo]at this;exact this
       rw[zo]at bB;cases x with
       |normal=>
        have T:=hT none .ready trivial;exact⟨_,_,run_endRound none bB,_,rfl,jY,T.1,Ca none .ready T,.p _ _ (.bool true)⟩
       |exit id=>
        have T:=hT (some (.exit id)) .done rfl;exact⟨_,_,run_endRound (some (.exit id)) bB,_,rfl,jY,T.1,Ca _ .done T,.p _ _ (.bool false)⟩
       |ret=>
        have T:=hT (some .ret) .done trivial;exact⟨_,_,run_endRound (some .ret) bB,_,rfl,jY,T.1,Ca _ .done T,.p _ _ (.bool false)⟩
      ·cases he
     ·cases he
    ·cases he
   ·cases he
  ·cases he
 ·cases he
end Go.Abs
namespace Go.Abs
open Go
variable{C:Ctx}{fid:Nat->Nat}{w w':World}{G G':bT}{H H':Heap}{call:cP}{n:Nat}
theorem jT.tags{h h':Home}{o:bU}(a:jT C fid G w h o)(b:jT C fid G' w' h' o):h.tag=h'.tag/\h.fz=h'.fz:=by
 cases o with
 |cells vs=>exact⟨a.1.1.trans b.1.1.symm,a.2.1.trans b.2.1.symm⟩
 |row es ds fz=>exact⟨a.1.trans b.1.symm,a.2.2.1.trans b.2.2.1.symm⟩
 |map bf=>exact⟨a.1.trans b.1.symm,a.2.1.trans b.2.1.symm⟩
 |loop=>exact⟨a.1.trans b.1.symm,a.2.1.trans b.2.1.symm⟩
 |qC s=>exact⟨a.2.1.trans b.2.1.symm,a.1.trans b.1.symm⟩
 |dead n=>exact⟨a.2.trans b.2.symm,a.1.trans b.1.symm⟩
 |gone=>exact⟨a.1.trans b.1.symm,a.2.trans b.2.symm⟩
theorem VB (U:aX C fid G H w)(kh:aX C fid G' H' w')(hle:mh G.β G'.β)(hs:∀l,l<H.length->H'[l]? =H[l]?){l:Nat}{h:Home}(e:G.β l=some h):G'.β l=some h:=by
 obtain⟨h',e',-,-,m,-⟩:=hle l h e;obtain⟨o,ho,r⟩:=U.obj l h e;obtain⟨o',jU,mS⟩:=kh.obj l h' e';rw[hs l (U.lt e),ho]at jU;cases jU;obtain⟨t,f⟩:=r.tags mS;obtain⟨azE,azF⟩:=m t.symm;rw[e'];congr 1;cases h;cases h';simp_all
theorem forget (U:aX C fid G H w)(kh:aX C fid G' H' w'){m n:Nat}(c7:Ext G w G' w' m n)(hm:H.length<=m)(hn:H.length<=n)(hs:∀l,l<H.length->H'[l]? =H[l]?):
  aX C fid ⟨G.β,G'.I⟩ H w'/\(∀m n,Ext G w ⟨G.β,G'.I⟩ w' m n)/\∀{v:V} {x:Value},bd fid G' w' v x->old H.length v=true->bd fid ⟨G.β,G'.I⟩ w' v x:=by
 have hk:=c7.UM U hm;have rZ:=fun l h e=>VB (l:=l) (h:=h) U kh c7.homes hs e
 refine⟨⟨fun l h e=> ?_,U.inj,fun l h e=>rB (U.blk l h e) c7.size,fun b hb=>⟨(kh.c0 b hb).1,fun l h e q=>(kh.c0 b hb).2 l h (rZ l h e) q⟩,fun l h e q=>c7.c0 _ (U.ky l h e q),
   fun b o a6=>⟨c7.c0 _ (U.e2 b o a6).1,by rw[hk b (U.c0 b (U.e2 b o a6).1).1];exact(U.e2 b o a6).2⟩⟩,fun m n=>⟨c7.size,c7.os,c7.output,fun b hb _=>hk b hb,.refl _,fun l h e=>.inl ⟨h,e,.inl rfl⟩,c7.c0,c7.o5⟩,
  fun af ho=>af.restrict (G:=G') (G':=⟨G.β,G'.I⟩) (n:=H.length) (fun l h hl e=> ?_) (fun b hb=>⟨hb,rfl⟩) (.inl ho)⟩
 ·obtain⟨o,ho,r⟩:=U.obj l h e
  exact⟨o,ho,jT.mono (G:=G) (G':=⟨G.β,G'.I⟩) (.refl _) (fun b hb=>⟨c7.c0 b hb,hk b (U.c0 b hb).1⟩) (hk _ (U.blk l h e)) r⟩
 ·rcases c7.ow l h e with⟨h0,eL,-⟩|⟨mj,-⟩
  ·have:=rZ l h0 eL
   rw[e]at this;cases this;exact⟨h,eL,rfl⟩
  ·omega
theorem VC (n:Nat):∀(a b:List V),olds n (a++b)=(olds n a&&olds n b)
 |[],b=>by simp[olds]
 |v::a,b=>by simp[olds,VC n a b,yF]
theorem aiV (n:Nat)(v:V)(h:old n v=true):olds n (aE v)=true:=by
 cases v<;>simp_all [aE,olds,old]
theorem VD (n:Nat):∀{ds:List V},olds n ds=true->olds n (ds.flatMap aE)=true
 |[],_=>rfl
 |d::ds,h=>by
  simp only[olds,cn]at h;rw[kd,VC,aiV n d h.1,VD n h.2];rfl
theorem VE{fresh:Bool}{H1:Heap}{v v':V}{low low':Nat}{x:Value}(U:aX C fid G H w)(kh:aX C fid G' H1 w')(c7:∀m,m<=low->Ext G w G' w' m H.length)(ae:Fr H H.length H1 low)
  (af:bd fid G' w' v x) (he:finish fresh H v H1 low=some (v',H',low')):k1 C fid G H w v' H' low' x w':=by
 unfold finish at he;split at he
 ·rename_i l es off len tag
  split at he
  ·rename_i bK ds hl
   split at he
   ·rename_i hc
    obtain⟨dj,eG,e3,hO,hX⟩:=hc;subst e3 hO;cases he;have hs:=fun l mj=>ae.same l (rB mj dj);have r3:=c7 H.length dj;obtain⟨p1,p2,-⟩:=forget U kh r3 (aF _) (aF _) hs;obtain⟨h,a,m,cap,hb,hle,ha,rfl⟩:=af.nI;obtain⟨o,ho,hr⟩:=kh.obj l h hb;rw[hl]at ho;cases ho
    have IQ:w.heap.size<=h.b:=by
     rcases r3.ow l h hb with⟨h0,eL,-⟩|⟨-,q⟩
     ·have:=U.lt eL;omega
     ·exact q
    have s6:=U.none (aF H.length);let bl:bT:=⟨ck G.β H.length h,G'.I⟩;have VF:mh G.β bl.β:=Bw s6 h;have rZ:=fun l h e=>VB (l:=l) (h:=h) U kh r3.homes hs e
    have aiW:∀{vs:List V} {xs:List Value},a1 fid G' w' vs xs->olds H.length vs=true->a1 fid bl w' vs xs:=fun cW hold=>
     cW.restrict (G:=G') (G':=bl) (n:=H.length) (fun y h0 hy e=>by
      rcases r3.ow y h0 e with⟨h1,ab,-⟩|⟨mj,-⟩
      ·have:=rZ y h1 ab
       rw[e]at this;cases this;exact⟨h0,by show ck _ _ _ _=_;rw[dx (by omega)];exact ab,rfl⟩
      ·omega) (fun b hb=>⟨hb,rfl⟩) (.inl hold)
    have aw:jT C fid bl w' h (.row bK ds false):=by
     obtain⟨bB,b4,eI,gM,jj,c,e,vals,rest,ta,zp,vJ,EK⟩:=hr;exact⟨bB,b4,eI,gM,jj,c,e,vals,rest,ta,zp,vJ,aiW EK (VD _ hX)⟩
    refine⟨bl,⟨fun y h0 e=> ?_,fun y z h0 h1 ab aj q=> ?_,fun y h0 e=> ?_,fun b hb=>⟨(kh.c0 b hb).1,fun y h0 e q=> ?_⟩,fun y h0 e q=> ?_,p1.e2⟩,fun m hm=> ?_,?_⟩
    ·by_cases hy:y=H.length
     ·subst hy;rw[show bl.β=ck _ _ _ from rfl,dh]at e;cases e
      exact⟨_,by simp,aw⟩
     ·rw[show bl.β=ck _ _ _ from rfl,dx hy]at e
      obtain⟨o,ho,r⟩:=p1.obj y h0 e;exact⟨o,by rw[fB (U.lt e)];exact ho,jT.mono (G:=⟨G.β,G'.I⟩) (G':=bl) VF (fun b hb=>⟨hb,rfl⟩) rfl r⟩
    ·by_cases hy:y=H.length<;>by_cases aO:z=H.length
     ·rw[hy,aO]
     ·subst hy;rw[show bl.β=ck _ _ _ from rfl,dh]at ab;cases ab
      rw[show bl.β=ck _ _ _ from rfl,dx aO]at aj;have:=U.blk z h1 aj;omega
     ·subst aO;rw[show bl.β=ck _ _ _ from rfl,dh]at aj;cases aj
      rw[show bl.β=ck _ _ _ from rfl,dx hy]at ab;have:=U.blk y h0 ab;omega
     ·rw[show bl.β=ck _ _ _ from rfl,dx hy]at ab
      rw[show bl.β=ck _ _ _ from rfl,dx aO]at aj;exact U.inj y z h0 h1 ab aj q
    ·by_cases hy:y=H.length
     ·subst hy;rw[show bl.β=ck _ _ _ from rfl,dh]at e;cases e;exact kh.blk l h hb
     ·rw[show bl.β=ck _ _ _ from rfl,dx hy]at e;exact p1.blk y h0 e
    ·by_cases hy:y=H.length
     ·subst hy;rw[show bl.β=ck _ _ _ from rfl,dh]at e;cases e
      exact(kh.c0 b hb).2 l h (by assumption) q
     ·rw[show bl.β=ck _ _ _ from rfl,dx hy]at e;exact p1.c0 b hb |>.2 y h0 e q
    ·by_cases hy:y=H.length
     ·subst hy;rw[show bl.β=ck _ _ _ from rfl,dh]at e;cases e
      exact kh.ky l h hb q
     ·rw[show bl.β=ck _ _ _ from rfl,dx hy]at e;exact p1.ky y h0 e q
    ·have q:=p2 m H.length
     exact⟨q.size,q.os,q.output,q.ek,VF,fun y h0 e=>by
      by_cases hy:y=H.length
      ·subst hy;rw[show bl.β=ck _ _ _ from rfl,dh]at e;cases e;exact .inr ⟨aF _,IQ⟩
      ·rw[show bl.β=ck _ _ _ from rfl,dx hy]at e;exact .inl ⟨h0,e,.inl rfl⟩,q.c0,q.o5⟩
    ·exact .ca H.length bK off len _ h a m cap (dh _ _ _) hle ha
   ·split at he
    ·cases he
     exact⟨G',kh,c7,af⟩
    ·cases he
  ·cases he
 ·split at he
  ·rename_i v1 H2 dB aO
   obtain⟨bl,fz,VG⟩:=Ie kh af aO;have eN:=ae.trans (BW aO).1;have EI:∀m,m<=dB->Ext G w bl w' m H.length:=fun m hm=>(c7 m (cM hm fz.low)).trans ((fz.ext m hm).le (aF _) ae.len);split at he
   ·rename_i hc
    cases he;obtain⟨p1,p2,p3⟩:=forget U fz.rel (EI H.length hc.1) (aF _) (aF _) (fun l hl=>eN.same l (rB hl hc.1));exact⟨_,p1,fun m _=>p2 m _,p3 VG hc.2⟩
   ·cases he
    exact⟨bl,fz.rel,EI,VG⟩
  ·cases he
theorem aiX{sh:Option Nat}{a u:V}{x:Value}(ha:bd fid G w a x)(he:jR H sh a=some u):∃c4,x=.pointer (some c4):=by
 unfold jR at he;split at he
 ·obtain⟨h,-,-,rfl⟩:=ha.nH;exact⟨_,rfl⟩
 ·obtain⟨h,c4,-,-,-,rfl⟩:=ha.D7;exact⟨_,rfl⟩
 ·cases ha with
  |dH _ f b o vals _ _ _=>exact⟨_,rfl⟩
  |p _ _ h=>cases h
 ·cases he
def IU (tmps:Array Value):ResultVar->Sem Value
 | .tmp t=>pure (tmps.getD t undef)
 | .cell a t=>do loadVar t (<-asAddr (tmps.getD a undef))
theorem aiY{r:ResultVar}{Oo:mR}(hr:C.res r=some Oo){au:Env}{tmps:Array Value}(U:aX C fid G H w)(af:∀t∈Ctx.rJ [r],bd fid G w (bA au t) (tmps.getD t undef)){v:V}(he:ke au H Oo=some v):
  ∃x,(IU tmps r).run C.P w=.ok x w/\bd fid G w v x:=by
 cases r with
 |tmp t=>
  simp only[Ctx.res,aA]at hr;subst hr;simp only[ke,aA]at he;subst he;exact⟨_,rfl,af t (by simp[Ctx.rJ])⟩
 |cell a t=>
  simp only[Ctx.res]at hr;obtain⟨sh,aiZ,rfl⟩:=cj.1 hr;simp only[ke]at he;have ha:=af a (by simp[Ctx.rJ]);obtain⟨y,hy,hu⟩:=T6 U aiZ ha he;obtain⟨c4,hD⟩:=aiX ha he;rw[hD]at hy;refine⟨y,?_,hu⟩;simp only[IU,hD,asAddr,Sem.run_bind,Sem.run_pure,Result.andThen_ok];simpa only[Instr.loadAt,Instr.sureAddr,Sem.run_bind,Sem.run_pure,Result.andThen_ok]using hy
theorem ai0 (r:ResultVar)(rs:List ResultVar):Ctx.rJ (r::rs)=Ctx.rJ [r]++Ctx.rJ rs:=by cases r<;>rfl
theorem VH:∀{rs:List ResultVar} {pr:List mR},dF C.res rs=some pr->∀{au:Env} {tmps:Array Value},aX C fid G H w->(∀t∈Ctx.rJ rs,bd fid G w (bA au t) (tmps.getD t undef))->
  ∀{vs:List V},gH au H pr=some vs->∃xs,(rs.mapM (IU tmps)).run C.P w=.ok xs w/\a1 fid G w vs xs
 |[],pr,hm,au,tmps,U,af,vs,he=>by
  simp only[dF,aA]at hm;subst hm;simp only[gH,aA]at he;subst he;exact⟨[],by simp,.nil⟩
 |r::rs,pr,hm,au,tmps,U,af,vs,he=>by
  simp only[dF]at hm;split at hm
  ·rename_i Oo h1
   split at hm
   ·rename_i azG h2
    cases hm;simp only[gH]at he;split at he
    ·rename_i v ar
     split at he
     ·rename_i vs' aR
      cases he;rw[ai0]at af;obtain⟨x,hx,zq⟩:=aiY h1 U (fun t ht=>af t (jc.2 (.inl ht))) ar;obtain⟨xs,eC,cW⟩:=VH h2 U (fun t ht=>af t (jc.2 (.inr ht))) aR;refine⟨x::xs,?_,.cons _ _ _ _ zq cW⟩;rw[List.mapM_cons,Sem.run_bind,hx,Result.andThen_ok,Sem.run_bind,eC,Result.andThen_ok,Sem.run_pure]
     ·cases he
    ·cases he
   ·cases hm
  ·cases hm
def iB:List V->V
 |[v]=>v
 |vs=>.aU vs
theorem VI{fn:Func}{pr:List mR}(hm:dF C.res fn.results.toList=some pr){au:Env}{tmps:Array Value}(U:aX C fid G H w)(af:∀t∈Ctx.rJ fn.results.toList,bd fid G w (bA au t) (tmps.getD t undef))
  {vs:List V} (he:gH au H pr=some vs):∃x,(results fn tmps).run C.P w=.ok x w/\bd fid G w (iB vs) x:=by
 obtain⟨xs,hx,cW⟩:=VH hm U af he
 have e:results fn tmps=(do let vs <-fn.results.mapM (IU tmps);pure (if h:vs.size=1 then vs[0]else .tuple vs)):=by
  unfold results;congr 1
 rw[e];refine⟨if h:(⟨xs⟩:Array Value).size=1 then(⟨xs⟩:Array Value)[0]else .tuple ⟨xs⟩,?_,?_⟩
 ·rw[Sem.run_bind,Array.mapM_eq_mapM_toList,Sem.run_map,hx]
  simp only[Result.andThen_ok,Sem.run_pure]
 ·cases cW with
  |nil=>exact .aU [] [] .nil
  |cons v x vs xs h hs=>
   cases hs with
   |nil=>exact h
   |cons v2 dy ai1 ai2 h2 nL=>
    have:¬(⟨x::dy::ai2⟩:Array Value).size=1:=by simp
    rw[dif_neg this];exact .aU _ _ (.cons _ _ _ _ h (.cons _ _ _ _ h2 nL))
end Go.Abs
namespace Go.Abs
open Go
variable{C:Ctx}{fid:Nat->Nat}{w w':World}{G G':bT}{H H':Heap}{call:cP}{n:Nat}
theorem aX.Oq (U:aX C fid G H w){r:Nat}(fY:∀l h,G.β l=some h->h.b≠r)(hi:¬G.I r)(o:Obj):aX C fid G H (w.putObj r o) where
 obj l h e:=by
  obtain⟨o,ho,hr⟩:=U.obj l h e;exact⟨o,ho,hr.mono (.refl _) (fun b hb=>⟨hb,World.putObj_heap_other fun q=>hi (by rw[<-q];exact hb)⟩) (World.putObj_heap_other (fY l h e))⟩
 inj:=U.inj
 blk l h e:=by rw[World.putObj_size];exact U.blk l h e
 c0 b hb:=by rw[World.putObj_size];exact U.c0 b hb
 ky:=U.ky
 e2 b o a6:=⟨(U.e2 b o a6).1,by rw[World.putObj_heap_other (k:=b) (r:=r) fun q=>hi (by rw[<-q];exact(U.e2 b _ a6).1)];exact(U.e2 b o a6).2⟩
theorem Ext.Oq{gg:World}{tb:bT}{m k:Nat}(c7:Ext tb gg G w m k){r:Nat}(hr:gg.heap.size<=r)(o:Obj):Ext tb gg G (w.putObj r o) m k:=
 ⟨by rw[World.putObj_size];exact c7.size,c7.os,c7.output,fun b hb hk=>by rw[World.putObj_heap_other (by omega)];exact c7.ek b hb hk,c7.homes,c7.ow,c7.c0,c7.o5⟩
theorem IV{fn:Func}{tmps:Array Value}{R:Ending->World->Prop}{gg:World}{tb:bT}{m0:Nat->Prop}{k0:Nat}:
  ∀(rs:List (Nat ⊕ Deferred)) (w:World),(rs.filterMap fun| .inl r=>some r| .inr _=>none).Nodup->(∀r,.inl r∈rs->EE G w gg.heap.size r)->(∀d,.inr d∈rs->Ig C.P d)->aX C fid G H w->(∀m,m0 m->Ext tb gg G w m k0)->(∀v x,bd fid G w v x->True)->
   (∀bJ,aX C fid G H bJ->(∀m,m0 m->Ext tb gg G bJ m k0)->(∀{v:V} {x:Value},bd fid G w v x->bd fid G bJ v x)->∃v,(results fn tmps).run C.P bJ=.ok v bJ/\R (.returned v) bJ)->
   LeavesInM Fence.wide 0 C.P fn tmps R (rs.map (fun| .inl r=>IJ r| .inr d=>d)) .returning w
 |[],w,_,_,_,U,c7,_,iC=>iC w U c7 fun h=>h
 | .inr d::rs,w,db,hm,hn,U,c7,_,iC=>by
   obtain⟨fv,cap,f,args,ab,aj⟩:=hn d (by simp);obtain⟨bC,cu⟩:=aj w;refine⟨by simp,.inr ⟨by simp[Fence.wide],fv,cap,f,args,ab,bC,fun _ _=>trivial,cu.mono ?_⟩⟩;rintro e u' w' ⟨⟨v,rfl⟩,rfl,rfl⟩;exact IV rs _ db (fun q bg=>hm q (by simp[bg])) (fun q bg=>hn q (by simp[bg])) U c7 (fun _ _ _=>trivial) iC
 | .inl r::rs,w,db,hm,hn,U,c7,_,iC=>by
   have hr:=hm r (by simp);have VJ:=sG.1 db;refine⟨by simp,.inl ⟨r,w.putObj r (.deferred none),rfl,run_takeDeferred hr.obj,?_⟩⟩
   have af:∀{v:V} {x:Value},bd fid G w v x->bd fid G (w.putObj r (.deferred none)) v x:=fun h=>
    h.mono (.refl _) fun b hb=>⟨hb,World.putObj_heap_other fun q=>hr.c0 (by rw[<-q];exact hb)⟩
   refine IV rs _ VJ.2 (fun q bg=> ?_) (fun q bg=>hn q (by simp[bg])) (U.Oq hr.home hr.c0 _) (fun m hm=>(c7 m hm).Oq hr.base _) (fun _ _ _=>trivial) fun bJ a b c=>iC bJ a b fun h=>c (af h);have k:=hm q (by simp[bg]);have aZ:q≠r:=fun e=>VJ.1 (by rw[<-e];exact HJ.2 ⟨.inl q,bg,rfl⟩);exact⟨k.base,by rw[World.putObj_size];exact k.lt,by rw[World.putObj_heap_other aZ];exact k.obj,k.home,k.c0⟩
theorem Ot:∀(vs:List V) (i t:Nat),bA (fW i vs) t=if i<=t then(vs[t-i]?).getD .undef else .undef
 |[],i,t=>by simp[fW,bA]
 |v::r,i,t=>by
  simp only[fW,bA];by_cases h:i=t
  ·subst h;simp
  ·rw[if_neg h,Ot r (i+1) t]
   by_cases h2:i<=t
   ·rw[if_pos h2,if_pos (by omega)]
    have:t-i=(t-(i+1))+1:=by omega
    rw[this,yy]
   ·rw[if_neg h2,if_neg (by omega)]
theorem EL{fn:Func}{fresh:Bool}{f:jv}(h:C.func fn fresh=some f):
  ∃c,fn.body=some c/\C.code (Ctx.varsOf fn) fn.ntmps c=some f.body/\dF C.res fn.results.toList=some f.results/\(fn.name== "runtime.NumGoroutine")=false/\f.yN=fn.ntmps/\f.fresh=fresh:=by
 unfold Ctx.func at h;split at h
 ·rename_i c hb
  split at h
  ·rename_i b rs h1 h2
   split at h
   ·cases h
   ·rename_i hn
    cases h;exact⟨c,hb,h1,h2,by simpa using hn,rfl,rfl⟩
  ·cases h
 ·cases h
theorem VK{fn:Func}{t:Nat}(h:t∈Ctx.rJ fn.results.toList):t∈Ctx.varsOf fn:=by
 unfold Ctx.varsOf;rw[List.mem_eraseDups];simp[h]
theorem VL (cw:C.P.follows .mixedOrders=true)(bw:eW C fid)(ba:gL C fid call){ib:Nat}{f:jv}{fn:Func}(ae:C.P.funcs[ib]? =some fn)(h9:C.func fn f.fresh=some f)
  {args:List V} {v:V} {low':Nat} {xs:List Value} (he:iP (exec call n) f args H=some (v,H',low')) (U:aX C fid G H w) (af:a1 fid G w args xs):
  Calls C.P ib ⟨xs⟩ w (fun e w'=>∃x,e=.returned x/\k1 C fid G H w v H' low' x w'):=by
 obtain⟨c,hb,ai3,r0,-,ai4,-⟩:=EL h9;unfold iP at he;split at he
 ·rename_i hlen
  have ly:=af.length
  have jD:dC C fid (Ctx.varsOf fn) fn.ntmps G {aC:=[],au:=fW 0 args,H,low:=H.length} {tmps:=(⟨xs⟩:Array Value)++Array.replicate (fn.ntmps-(⟨xs⟩:Array Value).size) undef,defers:=[]} w:=by
   refine⟨U,fun t=> ?_,?_,aF _⟩
   ·unfold dJ
    split
    ·rw[Ot]
     simp only[cD,if_true,Nat.sub_zero];cases ha:args[t]? with
     |none=>exact .undef _
     |some u=>
      obtain⟨x,hx,zr⟩:=af.get ha
      have aK:t<xs.length:=by
       rcases fV t xs.length with h|h
       ·exact h
       ·simp[nA h]at hx
      have:((⟨xs⟩:Array Value)++Array.replicate (fn.ntmps-(⟨xs⟩:Array Value).size) undef).getD t undef=x:=by
       rw[w8,SU (by simpa using aK)];simp[hx]
      rw[this];exact zr
    ·exact .undef _
   ·simp only[yB,Array.size_replicate]
    show xs.length+(fn.ntmps-xs.length)=fn.ntmps;rw[ly,<-ai4];omega
  have oH:∀(st:av) (G':bT) (a8:Act) (w':World),gy {aC:=[],au:=fW 0 args,H,low:=H.length} st->(∃vs,gH st.au st.H f.results=some vs/\finish f.fresh H (iB vs) st.H st.low=some (v,H',low'))->
    Fin C fid (Ctx.varsOf fn) fn.ntmps w.heap.size {aC:=[],au:=fW 0 args,H,low:=H.length} G w st G' a8 w'->
    LeavesInM Fence.wide 0 C.P fn a8.tmps (fun e w'=>∃x,e=.returned x/\k1 C fid G H w v H' low' x w') a8.defers .returning w':=by
   rintro st G' a8 w' eN ⟨vs,hr,s3⟩ F;obtain⟨rs,Ou,db,hm,EM⟩:=F.marks;rw[Ou];refine IV (m0:=fun m=>m<=st.low) rs w' db hm EM F.rel.rel F.ext (fun _ _ _=>trivial) fun bJ b6 dI kf=> ?_
   obtain⟨x,hx,zr⟩:=VI r0 b6 (fun t ht=>by
    have:=F.rel.env t;rw[Od (VK ht)]at this;exact kf this) hr
   exact⟨x,hx,x,rfl,VE U b6 dI eN.1 zr s3⟩
  have VM:∀{st:av},(match gH st.au st.H f.results with|some [v]=>finish f.fresh H v st.H st.low|some vs=>finish f.fresh H (.aU vs) st.H st.low|none=>none)=some (v,H',low')->
    ∃vs,gH st.au st.H f.results=some vs/\finish f.fresh H (iB vs) st.H st.low=some (v,H',low'):=fun {st} h=>by
   split at h
   ·rename_i u hr;exact⟨[u],hr,h⟩
   ·rename_i vs aZ hr
    refine⟨vs,hr,?_⟩
    have:iB vs=.aU vs:=by
     cases vs with
     |nil=>rfl
     |cons a r=>
      cases r with
      |nil=>exact absurd rfl (aZ a)
      |cons b r=>rfl
    rw[this];exact h
   ·cases h
  have go:∀(IW:X) (st:av),(IW=.normal\/IW=.ret)->exec call n f.body {aC:=[],au:=fW 0 args,H,low:=H.length}=some (IW,st)->
    (∃vs,gH st.au st.H f.results=some vs/\finish f.fresh H (iB vs) st.H st.low=some (v,H',low'))->Calls C.P ib ⟨xs⟩ w (fun e w'=>∃x,e=.returned x/\k1 C fid G H w v H' low' x w'):=fun IW st Ov hex s3=>by
   refine(callsIn_wide (n:=0)).1 (callsIn_of_wp_marks ae hb trivial ?_);have eN:=mw ba.bQ n _ _ _ _ (aF _) hex;refine r2 (n:=n) cw bw ba c _ _ _ ai3 _ _ _ hex G _ w none w.heap.size _ jD trivial (.nil _ _ _) (aF _) fun G' a8 w' F=> ?_;have:=oH st G' a8 w' eN s3 F;rcases Ov with rfl|rfl
   ·exact this
   ·exact this
  split at he
  ·rename_i st hex;exact go _ st (.inl rfl) hex (VM he)
  ·rename_i st hex;exact go _ st (.inr rfl) hex (VM he)
  ·cases he
 ·cases he
theorem Cc{ib:Nat}{fn:Func}{c:Code}(ae:C.P.funcs[ib]? =some fn)(hb:fn.body=some c)(hn:(fn.name== "runtime.NumGoroutine")=false)(aQ:Array Value):
  (callFunc ib aQ).run C.P w=.ok (.enter ib aQ) w:=by
 unfold callFunc;have qJ:¬fn.name= "runtime.NumGoroutine" :=by simpa using hn
 simp[Sem.run_bind,Sem.run,program,ae,hb,qJ,Result.andThen]
theorem IX (cw:C.P.follows .mixedOrders=true)(bw:eW C fid){aa:Nat->Option bV}(hT:du C fid aa):∀(n:Nat),gL C fid (bD aa n)
 |0=>⟨Iy aa 0,fun _ _ _ he=>by simp[bD]at he⟩
 |n+1=>by
  have ih:=IX cw bw hT n;refine⟨Iy aa (n+1),fun {G H w f args v H' low' NP xs} U zc gw he=> ?_⟩;simp only[bD,qE]at he;split at he
  ·rename_i i first caps
   obtain⟨fs,cs,ai5,r4,ai6⟩:=zc.BF;subst ai6;have vA:a1 fid G w (first++args++caps) (fs++xs++cs):=(ai5.append gw).append r4
   have ai7:(invoke (.fn (.func i) ⟨cs⟩) ((⟨fs⟩:Array Value)++⟨xs⟩)).run C.P w=(callFunc i ⟨fs++xs++cs⟩).run C.P w:=by
    simp[invoke]
   refine⟨{target:=.fn (.func i) ⟨cs⟩,args:=(⟨fs⟩:Array Value)++⟨xs⟩},rfl,?_⟩;rw[ai7];split at he
   ·rename_i ai8 nV
    obtain⟨fn,h9,Cd⟩:=hT.code i ai8 nV;obtain⟨c,hb,-,-,zs,-⟩:=EL Cd;rw[Cc h9 hb zs];exact⟨VL cw bw ih h9 Cd he U vA,fun _ _=>⟨_,_,rfl⟩⟩
   ·rename_i spec nV
    split at he
    ·rename_i hp
     obtain⟨u,hu,he⟩:=cj.1 he;cases he;refine⟨hT.ext i spec nV U (vA.pZ hp) hu,fun _ vh=> ?_⟩;rw[BA,BA]at hp;simp[vh]at hp
    ·cases he
   ·rename_i spec nV
    obtain⟨h1,h2⟩:=hT.o3 i spec nV U vA he;exact⟨h1,fun _ _=>h2⟩
   ·cases he
  ·rename_i l
   obtain⟨h,hb,ht,rfl⟩:=zc.agp;refine⟨{target:=.fn (.yield h.b) #[],args:= #[]++⟨xs⟩},rfl,?_,fun h9=>by simp[Bq]at h9⟩;have:(invoke (.fn (.yield h.b) #[]) (#[]++(⟨xs⟩:Array Value))).run C.P w=(Instr.yield h.b ⟨xs⟩).run C.P w:=by simp[invoke]
   rw[this];exact aiK cw bw ih he U hb gw
  ·cases he
theorem VN (cw:C.P.follows .mixedOrders=true)(bw:eW C fid){aa:Nat->Option bV}(hT:du C fid aa){n i:Nat}{f:jv}(hi:aa i=some (.code f)){args:List V}{v:V}{low':Nat}{xs:List Value}
  (he:bD aa n (.fn i [] []) args H=some (v,H',low')) (U:aX C fid G H w) (af:a1 fid G w args xs):
  Calls C.P i ⟨xs⟩ w (fun e w'=>∃x,e=.returned x/\k1 C fid G H w v H' low' x w'):=by
 cases n with
 |zero=>simp[bD]at he
 |succ n=>
  simp only[bD,qE,hi,iM,pP]at he;obtain⟨fn,h9,Cd⟩:=hT.code i f hi;exact VL cw bw (IX cw bw hT n) h9 Cd he U af
end Go.Abs
namespace Go.Abs
open Go
variable{C:Ctx}{fid:Nat->Nat}{w w':World}{G G':bT}{H H':Heap}
theorem aX.apart (U:aX C fid G H w):aX C fid ⟨fun _=>Option.none,G.I⟩ [] w where
 obj _ _ e:=by cases e
 inj _ _ _ _ e:=by cases e
 blk _ _ e:=by cases e
 c0 b hb:=⟨(U.c0 b hb).1,fun _ _ e=>by cases e⟩
 ky _ _ e:=by cases e
 e2:=U.e2
theorem k1.beside (U:aX C fid G H w){v:V}{l:Nat}{x:Value}(hp:bx v=true)(h:k1 C fid ⟨fun _=>Option.none,G.I⟩ [] w v H' l x w'):k1 C fid G H w v H H.length x w':=by
 obtain⟨ay,fI,he,af⟩:=h;have e:=he 0 (cD _);have ek:∀b,b<w.heap.size->w'.heap[b]? =w.heap[b]? :=fun b hb=>e.ek b hb fun _ _ q=>by cases q
 have bk:∀b,G.I b->ay.I b/\w'.heap[b]? =w.heap[b]? :=fun b hb=>⟨e.c0 b hb,ek b (U.c0 b hb).1⟩
 have o5:∀b,ay.I b->G.I b\/w.heap.size<=b:=fun b hb=>by
  rcases e.o5 b hb with q|q|⟨_,_,q,_⟩
  ·exact .inl q
  ·exact .inr q
  ·cases q
 refine⟨⟨G.β,ay.I⟩,⟨fun l h q=> ?_,U.inj,fun l h q=>rB (U.blk l h q) e.size,fun b hb=>⟨(fI.c0 b hb).1,fun l h q ai9=> ?_⟩,fun l h q aja=>e.c0 _ (U.ky l h q aja),fI.e2⟩,
  fun m _=>⟨e.size,e.os,e.output,fun b hb _=>ek b hb,.refl _,fun l h q=>.inl ⟨h,q,.inl rfl⟩,e.c0,fun b hb=>(o5 b hb).imp id .inl⟩,.p _ _ (af.pZ hp)⟩
 ·obtain⟨o,ho,hr⟩:=U.obj l h q
  exact⟨o,ho,jT.mono (G:=G) (G':=⟨G.β,ay.I⟩) (mh.refl G.β) bk (ek _ (U.blk l h q)) hr⟩
 ·rcases o5 b hb with q'|q'
  ·exact(U.c0 b q').2 l h q ai9
  ·have:=U.blk l h q;omega
theorem VO (cw:C.P.follows .mixedOrders=true)(bw:eW C fid){aa:Nat->Option bV}(hT:du C fid aa){n i:Nat}{f:jv}(hi:aa i=some (.code f)){spec:List V->Option V}
  (hs:∀args v,spec args=some v->bx v=true/\∃H' l,bD aa n (.fn i [] []) args []=some (v,H',l)):iS C fid i spec:=by
 intro G H w args v xs U eC lU;obtain⟨hp,H',l,he⟩:=hs args v lU;have hc:=VN cw bw hT hi he U.apart (c8.ov eC);obtain⟨fn,h9,Cd⟩:=hT.code i f hi;obtain⟨c,hb,-,-,zs,-⟩:=EL Cd;rw[Cc h9 hb zs];exact xd hc fun e w'=>fun⟨x,ab,aj⟩=>⟨x,ab,aj.beside U hp⟩
def Ce (aQ:List V)(v:V):List V->Option V:=fun args=>if nC args aQ=true then some v else none
theorem ajb (cw:C.P.follows .mixedOrders=true)(bw:eW C fid){aa:Nat->Option bV}(hT:du C fid aa){n i:Nat}{f:jv}(hi:aa i=some (.code f)){aQ:List V}{v:V}{H':Heap}{l:Nat}
  (hp:bx v=true) (he:bD aa n (.fn i [] []) aQ []=some (v,H',l)):iS C fid i (Ce aQ v):=
 VO cw bw hT hi fun args u hu=>by
  unfold Ce at hu;split at hu
  ·rename_i bg
   cases hu;rw[uq _ _ bg];exact⟨hp,H',l,he⟩
  ·cases hu
theorem EN{aa:Nat->Option bV}(hT:du C fid aa){k:Nat}{spec:List V->Option V}(hs:iS C fid k spec):du C fid (over aa k spec) where
 code i f h:=by
  unfold over at h;cases e:Nat.beq i k with
  |true=>rw[e]at h;cases h
  |false=>rw[e]at h;exact hT.code i f h
 ext i sp h:=by
  unfold over at h;cases e:Nat.beq i k with
  |true=>
   rw[e]at h;have h':some (bV.ext spec)=some (.ext sp):=h;cases h';rw[ey e];exact @hs
  |false=>rw[e]at h;exact hT.ext i sp h
 o3 i sp h:=by
  unfold over at h;cases e:Nat.beq i k with
  |true=>rw[e]at h;cases h
  |false=>rw[e]at h;exact hT.o3 i sp h
theorem Ow (cw:C.P.follows .mixedOrders=true)(bw:eW C fid){aa:Nat->Option bV}(hT:du C fid aa){n i:Nat}{f:jv}(hi:aa i=some (.code f)):∀{l:List (List V × V)},jz aa n i l->iS C fid i (jy l):=by
 intro l hl;refine VO cw bw hT hi (n:=n) fun args u hu=> ?_
 induction l with
 |nil=>cases hu
 |cons p r ih=>
  obtain⟨aQ,v⟩:=p;simp only[jy]at hu;cases e:nC args aQ with
  |true=>
   rw[e]at hu;have h':some v=some u:=hu;cases h';rw[uq _ _ e];exact⟨hl.1.1,[],0,hl.1.2⟩
  |false=>rw[e]at hu;exact ih hl.2 hu
end Go.Abs
namespace Go.Abs
open Go
variable{C:Ctx}{fid:Nat->Nat}{w w':World}{G G':bT}{H H':Heap}
theorem VP{P:Program}(ty:TypeId){r kE since fj bL:Nat}{seen:Array Nat}{es:Array MapEntry}(hr:w.heap[r]? =some (.mapIter (some kE) since seen fj))(hb:w.heap[kE]? =some (.map es bL))
  (hold:∀x∈es.toList,x.born<since) (ajc:since<=fj):
  ((leftOf es seen).size=0/\(Instr.next (.pointer (some ⟨r,0,none⟩)) false ty).run P w=.ok (.tuple #[.bool false]) w)\/
  ∃e∈(leftOf es seen).toList,∃aD:World,aD.heap=w.heap.setIfInBounds r (.mapIter (some kE) since (seen.push e.born) bL)/\aD.os=w.os/\aD.output=w.output/\
   (Instr.next (.pointer (some ⟨r,0,none⟩)) false ty).run P w=.ok (.tuple #[.bool true,e.key,e.val]) aD:=by
 simp only[Instr.next,getObj,Sem.run_bind,Sem.run,hr,hb,Result.andThen,next_test_false seen es since fj hold ajc,fE,if_false];unfold leftOf;have eQ:∀x∈(Array.filter (fun e=>!seen.contains e.born) es).toList,x.born<since:=fun x hx=>hold x (by simp at hx⊢; exact hx.1);generalize Array.filter (fun e=>!seen.contains e.born) es=L at eQ⊢;have ab:L.filter (fun x=>decide (x.born<since))=L:=Array.filter_eq_self.2 (fun x hx=>by simpa using eQ x (by simpa using hx))
 have aj:L.filter (fun x=>decide (x.born>=since))= #[]:=by
  rw[afv];intro x hx;have:=eQ x (by simpa using hx);simp;omega
 simp only[ab,aj,Array.append_empty];by_cases h0:L.size=0
 ·left
  have:L= #[]:=afu h0;subst this;refine⟨rfl,?_⟩;simp[choose,Sem.run,Question.forced]
 ·right
  have aZ:L.isEmpty=false:=by simp[Array.isEmpty,h0]
  simp only[aZ,fE,if_false,Array.empty_append,Array.size_map]
  have ajd:∃(j:Nat) (aD:World),j<L.size/\aD.heap=w.heap/\aD.os=w.os/\aD.output=w.output/\(choose (Question.mapNext L.size)).run P w=.ok j aD:=by
   by_cases ae:L.size<=1
   ·exact⟨0,w,by omega,rfl,rfl,rfl,by simp[choose,Sem.run,Question.forced,ae]⟩
   ·exact⟨_,w.drew,Nat.mod_lt _ (by omega),rfl,rfl,rfl,by
     simp only[choose,Sem.run,Question.forced,decide_eq_true_eq,ae,if_false,Question.cut];rfl⟩
  obtain⟨j,aD,hj,al,a2,a3,cc⟩:=ajd
  have azH:r<w.heap.size:=by
   rcases fV r w.heap.size with h|h
   ·exact h
   ·simp[Be h]at hr
  refine⟨L[j],by simp,{aD with heap:=aD.heap.setIfInBounds r (.mapIter (some kE) since (seen.push L[j].born) bL)},by rw[al],a2,a3,?_⟩
  have nb:∀(o':Obj),(setObj r o').run P aD=.ok () {aD with heap:=aD.heap.setIfInBounds r o'}:=fun o'=>by
   simp only[setObj,Sem.run];rw[al,hr]
  simp only[cc,Array.getElem?_map,HC hj,o1,Sem.run_bind,nb,Result.andThen];rfl
theorem VQ{P:Program}{r kE since bL:Nat}{seen:Array Nat}{es:Array MapEntry}{e:MapEntry}(hr:w.heap[r]? =some (.mapIter (some kE) since (seen.push e.born) bL))(hb:w.heap[kE]? =some (.map es bL))
  (he:e∈es.toList) (hn:(es.toList.map (·.born)).Nodup):
  (Instr.entry (.pointer (some ⟨r,0,none⟩))).run P w=.ok (.tuple #[e.key,e.val]) w:=by
 have ae:es.find? (·.born==e.born)=some e:=by rw[<-Array.find?_toList];exact find_born e es.toList hn he
 simp only[Instr.entry,getObj,Sem.run_bind,Sem.run,hr,hb,Result.andThen,Array.back?_push,bne_self_eq_false,fE,if_false,ae];rfl
section
variable{vars:List Nat}{N:Nat}{ops:Array Oper}
theorem IY{j:Nat}{o:Oper}{a:Act}{K:Act->World->Prop}{Q:Exit->Act->World->Prop}{ro:Option Nat}(ho:ops[j]? =some o)(a6:o.guard=none)(hnd:∀c,o.op≠ .defer c){x:Value}{aD:World}
  (cc:(execOp a.eval o).run C.P w=.ok (.value x) aD) (mZ:K (a.put o.dst x) aD):wpOpIn (eH ro) 0 C.P ops Q j K a w:=by
 unfold wpOpIn;rw[ho];have hw:Region.wanted o (yielded ops a.tmps)=true:=by unfold Region.wanted;rw[a6]
 simp only[hw,if_true];refine⟨fun _ _=>trivial,?_⟩;rw[Oper.semAt_eq _ _ _ hnd,cc];exact mZ
theorem dC.put{st:av}{a:Act}(h:dC C fid vars N G st a w){t:Nat}(jk:t<N){v:V}{x:Value}(af:bd fid G w v x):
  dC C fid vars N G (st.put (some (t,vars.contains t)) v) (a.put (some t) x) w:=by
 have hp:=kD st (some (t,vars.contains t)) v;refine⟨by rw[hp.1];exact h.rel,fun s=> ?_,by rw[xB];exact h.size,by rw[hp.1,hp.2.1];exact h.low⟩;rw[NT _ _ _ _ (by rw[h.size];exact jk),Et];by_cases e:s=t
 ·rw[if_pos e,if_pos e];exact af
 ·rw[if_neg e,if_neg e];exact h.env s
end
end Go.Abs
