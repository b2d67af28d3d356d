/- Texts of this claim, joined and written short by a program. -/
import Derived.Test.YtonmjjfciemcoaaGreatDoorP07
import Derived.Test.YtonmjjfciemcoaaGreatDoorP01
import Derived.Laws.IdiomRangeMap
import Derived.Test.YtonmjjfciemcoaaGreatDoorP00
set_option linter.unusedVariables false
set_option linter.unusedSimpArgs false
set_option linter.unusedSectionVars false
namespace Go.Abs
open Go
variable{C:Ctx}{fid:Nat->Nat}{w w':World}{G G':bX}{H H':Heap}
def Dx:X->Exit
 | .normal=>.normal
 | .exit id=>.exit id
 | .ret=>.ret
def wJ (G:bX):Option Nat->Option Nat->Prop
 |none,none=>True
 |some l,some b=>∃h,G.β l=some h/\h.tag=0/\h.b=b
 | _,_=>False
theorem wJ.ext{m n:Nat}(h:Ext G w G' w' m n):∀{l b:Option Nat},wJ G l b->wJ G' l b
 |none,none,_=>trivial
 |some l,some b,⟨h0,e,t,q⟩=>by
  obtain⟨h',e',-,z,m,-⟩:=h.homes l h0 e;exact⟨h',e',z t,by rw[(m ((z t).trans t.symm)).1];exact q⟩
 |none,some _,k|some _,none,k=>k.elim
def K5 (r:Nat):Deferred:={target:=.collected r,args:= #[]}
structure Gv (G:bX) (w:World) (base r:Nat):Prop where
 base:base<=r
 lt:r<w.heap.size
 obj:w.heap[r]? =some (.deferred (some []))
 home:∀l h,G.β l=some h->h.b≠r
 da:¬G.I r
def k9 (C:Ctx)(G:bX)(w:World)(base:Nat)(ds:List Deferred):Prop:=∃rs:List (Nat ⊕ Deferred),ds=rs.map (fun| .inl r=>K5 r| .inr d=>d)/\(rs.filterMap fun| .inl r=>some r| .inr _=>none).Nodup/\
 (∀r,.inl r∈rs->Gv G w base r)/\∀d,.inr d∈rs->KE C.P d
theorem Gv.ext{m n base r:Nat}(h:Ext G w G' w' m n)(k:Gv G w base r):Gv G' w' base r where
 base:=k.base
 lt:=r3 k.lt h.size
 obj:=by rw[h.keep r k.lt fun l x af ak=>absurd ak (k.home l x af)];exact k.obj
 home l x e q:=by
  rcases h.O3 l x e with⟨c9,eM,eb⟩|hs
  ·exact k.home l c9 eM (eb.trans q)
  ·have:=k.lt;omega
 da hi:=by
  rcases h.pe r hi with h1|h1|⟨l,x,e,eb⟩
  ·exact k.da h1
  ·have:=k.lt;omega
  ·exact k.home l x e eb
theorem k9.ext{m n base:Nat}{ds:List Deferred}(h:Ext G w G' w' m n):k9 C G w base ds->k9 C G' w' base ds
 |⟨rs,e,dk,k,q⟩=>⟨rs,e,dk,fun r hr=>(k r hr).ext h,q⟩
theorem tJ (bC:e7 C fid){vars:List Nat}{N:Nat}{st:av}{a:Act}(ab:dI C fid vars N G st a w):fB C fid vars G w (aj.ah st.aF st.au) a.eval:=fun x cO hx=>by
 cases x with
 |tmp t=>
  simp only[Ctx.cg,aB]at hx;have e:cO.ah st.aF st.au=dP vars st t:=by rw[<-hx];unfold dP;split<;>rfl
  rw[e];exact ab.env t
 |const u=>
  simp only[Ctx.cg]at hx;obtain⟨Yi,gv,rfl⟩:=cA.1 hx;rcases FY (I:=G.I) (w:=w) u gv with rfl|hp
  ·exact .undef _
  ·exact .p _ _ hp
 |func f=>exact Pg bC hx
 |global g=>simp[Ctx.cg]at hx
theorem K6{F:Fence}{n:Nat}{P:Program}{Q:Exit->Act->World->Prop}{c:Code}(I:Nat->Act->World->Prop)
  (round:∀k a w,I k a w->∃bF,k=bF+1/\c.wpIn F n P (Exit.then (I bF) Q) a w) {j:Nat} {a:Act} {w:World} (h₀:I j a w):(Code.loop c).wpIn F n P Q a w:=by
 intro b k cs dY hb hr
 have key:∀j a w,I j a w->
   ∃e bk w',Q e bk w'/\ArrivesIn (Machine.fenced P F) P (lone (b.atR a (.code c::.inLoop c::k)) cs w) b k cs e bk w':=by
  intro j
  induction j with
  |zero=>
   intro a w bq;obtain⟨bF,e,-⟩:=round 0 a w bq;omega
  |succ j ih=>
   intro a w bq;obtain⟨bF,e,dj⟩:=round _ a w bq;cases e;obtain⟨e,Dy,Dz,bf,tD⟩:=dj b (.inLoop c::k) cs dY hb hr;cases e with
   |normal=>
    obtain⟨O0,amM,amN,amO,amP⟩:=ih Dy Dz bf;exact⟨O0,amM,amN,amO,.of_steps (StepsIn.trans tD (.one (fenced_calm hb hr rfl) stepR_inLoop)) amP⟩
   |exit id=>exact⟨_,Dy,Dz,bf,.pass (x:=.inLoop c) rfl (fun _ _=>.inl (by simp)) tD⟩
   |goto l=>exact⟨_,Dy,Dz,bf,.pass (x:=.inLoop c) rfl (fun _ _=>.inl (by simp)) tD⟩
   |ret=>exact⟨_,Dy,Dz,bf,.pass (x:=.inLoop c) rfl (fun _ _=>.inl (by simp)) tD⟩
   |panic aDn=>exact⟨_,Dy,Dz,bf,.pass (x:=.inLoop c) rfl (fun _ _=>.inl (by simp)) tD⟩
   |outgrown=>exact⟨_,Dy,Dz,bf,.pass (x:=.inLoop c) rfl (fun _ _=>.inl (by simp)) tD⟩
 obtain⟨e,bk,w',bf,tD⟩:=key _ a w h₀;exact⟨e,bk,w',bf,.of_steps (.one (fenced_calm hb hr rfl) stepR_loop) tD⟩
structure Fin (C:Ctx) (fid:Nat->Nat) (vars:List Nat) (N base:Nat) (st:av) (G:bX) (w:World) (aQ:av) (G':bX) (bk:Act) (w':World):Prop where
 rel:dI C fid vars N G' aQ bk w'
 ext:∀m,m<=aQ.low->Ext G w G' w' m st.H.length
 marks:k9 C G' w' base bk.defers
def ri (C:Ctx)(fid:Nat->Nat)(call:cW)(n:Nat)(c:Code):Prop:=
 ∀(ac:bZ) (vars:List Nat) (N:Nat),C.code vars N c=some ac->∀(st:av) (x:X) (aQ:av),exec call n ac st=some (x,aQ)->
 ∀(G:bX) (a:Act) (w:World) (ro:Option Nat) (base:Nat) (Q:Exit->Act->World->Prop),dI C fid vars N G st a w->wJ G st.ro ro->k9 C G w base a.defers->base<=w.heap.size->
  (∀G' bk w',Fin C fid vars N base st G w aQ G' bk w'->Q (Dx x) bk w')->c.wpIn (eJ ro) 0 C.P Q a w
section
variable{call:cW}{n:Nat}
theorem Fin.refl{vars:List Nat}{N base:Nat}{st:av}{a:Act}(h:dI C fid vars N G st a w)(k:k9 C G w base a.defers):Fin C fid vars N base st G w st G a w:=
 ⟨h,fun m _=>.refl _ _ _ _,k⟩
theorem Fin.trans{vars:List Nat}{N base:Nat}{st st1 st2:av}{az bu:bX}{al a2:Act}{aG bR:World}(h:Fin C fid vars N base st G w st1 az al aG)(k:Fin C fid vars N base st1 az aG st2 bu a2 bR)
  (f1:gH st st1) (f2:gH st1 st2):Fin C fid vars N base st G w st2 bu a2 bR:=
 ⟨k.rel,fun m hm=>(h.ext m (cY hm f2.1.low)).trans ((k.ext m hm).le (aH _) f1.1.len),k.marks⟩
theorem amQ (bC:e7 C fid)(bb:gS C fid call){id:Nat}{ops:Array Oper}{os:List Oper}{h3:Oper}{c:Call}{f:Operand}{mm:aj}{vars:List Nat}{N:Nat}{bM:List bS}{st aQ:av}{wr:List Bool}{a:Act}{base:Nat}{Q:Exit->Act->World->Prop}
  (qw:ops.toList=os++[h3]) (amR:h3.op=.defer c) (lZ:c.callee=.value f) (Gw:c.args= #[]) (ba:h3.guard=none) (Dt:h3.dst=none) (hm:dM (C.oper vars N ops) os=some bM) (ag:C.cg vars f=some mm)
  (he:c3 call bM {st with aF:=[]} []=some (aQ,wr)) (bc:Ox C.CQ (mm.ah aQ.aF aQ.au)=true) (ab:dI C fid vars N G st a w) (eX:k9 C G w base a.defers)
  (dJ:∀G' bk w',dI C fid vars N G' aQ bk w'->(∀m,m<=aQ.low->Ext G w G' w' m st.H.length)->k9 C G' w' base bk.defers->Q .normal bk w'):
  (Code.region id ops false).wpIn (eJ none) 0 C.P Q a w:=by
 obtain⟨S,a7,h0,hn,-,hs⟩:=vd _ _ _ _ _ he;have hlen:bM.length=os.length:=wv _ hm;have de:ops.size=os.length+1:=by rw[<-fw,qw];simp
 have key:∀k j,j+k=os.length->∀bu al bR,dI C fid vars N bu (S j) al bR->(∀m,m<=(S j).low->Ext G w bu bR m st.H.length)->al.defers=a.defers->st.H.length<=(S j).H.length->
   wpOpsIn (eJ none) 0 C.P ops Q (List.range' j (k+1)) al bR:=by
  intro k
  induction k with
  |zero=>
   intro j hj bu al bR bB ca ez _;have e:j=bM.length:=by omega
   subst e;rw[hn]at bB ca;have ho:ops[bM.length]? =some h3:=by rw[<-fM,qw,hlen];simp
   rw[td,wpOpsIn_cons];have ep:=tJ bC bB f mm ag;unfold Ox at bc;split at bc
   ·rename_i i cs Ds
    rw[Ds]at ep;obtain⟨xs,cK,eN,YH,ad⟩:=ep.C8;cases eN;unfold wpOpIn;rw[ho];have hw:Region.wanted h3 (yielded ops al.tmps)=true:=by unfold Region.wanted;rw[ba]
    simp only[hw,if_true];refine⟨fun _ _=>trivial,?_⟩
    have cm:(Oper.semAt (eJ none).round al.eval h3).run C.P bR=.ok (.defer {target:=.fn (.func i) ⟨cK⟩,args:= #[]}) bR:=by
     show(Oper.semAt none al.eval h3).run C.P bR=_;rw[Oper.semAt_none];unfold execOp;rw[amR];obtain⟨Xn,hF,kr⟩:=c;simp only at lZ Gw;subst lZ;subst Gw;simp only[resolve,ad,Sem.run_bind,Sem.run_pure,Result.andThen_ok];simp[Sem.run_pure,Deferred.ofValue]
     try rfl
    rw[cm];simp only[Oper.uponIn];rw[Dt];show Q .normal _ _;refine dJ bu _ bR ⟨bB.rel,bB.env,bB.size,bB.low⟩ (fun m hm=>ca m hm) ?_;obtain⟨rs,af,dk,bQ,c6⟩:=eX.ext (ca 0 (cJ _));refine⟨.inr {target:=.fn (.func i) ⟨cK⟩,args:= #[]}::rs,?_,dk,fun r hr=>bQ r (by simpa using hr),fun d hd=> ?_⟩
    ·show _::al.defers=_
     rw[ez,af];rfl
    ·rcases dx.1 hd with hd|hd
     ·cases hd;exact bC.akN i (s9.1 bc) _
     ·exact c6 d hd
   ·cases bc
  |succ k ih=>
   intro j hj bu al bR bB ca ez fC;have oJ:j<os.length:=by omega
   have jU:os[j]? =some os[j]:=by simp[oJ]
   have ho:ops[j]? =some os[j]:=by rw[<-fM,qw,e5 oJ];exact jU
   have Gx:j<bM.length:=by omega
   have gk:bM[j]? =some bM[j]:=by simp[Gx]
   have Qg:vc C vars N ops os[j] bM[j]:=Dr (wx _ hm jU gk);have ct:=hs j _ gk;rw[td,wpOpsIn_cons];have eQ:=ct.b2 bb.b2;refine Am (T:=fun _=>True) bC bb ho Qg ct bB.rel (fun _=>.inl rfl) bB.low (fun t _=>bB.env t) (fun x _=>by cases x<;>trivial) (fun _ _ _ _ _=>trivial) bB.size ?_;intro x fY jY p1 p2 p3
   have Ap:a8 C fid jY (S (j+1)).H fY:=by
    cases ag:a7 j with
    |true=>rw[ag]at p1;exact p1
    |false=>rw[ag]at p1;rw[ct.still bb.b2 ag];exact p1
   have oP:=p2 0 (cJ _)
   refine ih (j+1) (by omega) jY _ fY ⟨Ap,fun t=> ?_,by rw[yq];exact bB.size,eQ.bound bB.low⟩ (fun m hm=>(ca m (cY hm eQ.1.low)).trans ((p2 m hm).le (aH _) fC)) (by rw[put_defers];exact ez)
    (cY fC eQ.1.len)
   refine Ao (fun d hd=>by rw[bB.size];exact Qg.lt d hd) (fun h=>p3 t h) (fun h=> ?_);rw[ct.look Qg h];exact(bB.env t).ext bB.rel oP
 refine wpIn_region ?_;rw[de,Fk];have jD:=ab.clear;rw[<-h0]at jD;exact key os.length 0 (by omega) G a w jD (fun m _=>.refl _ _ _ _) rfl (by rw[h0];exact aH _)
theorem amS{C:Ctx}{vars:List Nat}{n:Nat}{ops:Array Oper}{ac:bZ}(h:C.Oy vars n ops=some ac):
  ∃os h3 c f bM mm,ops.toList=os++[h3]/\h3.op=.defer c/\c.callee=.value f/\c.args= #[]/\h3.guard=none/\h3.dst=none/\dM (C.oper vars n ops) os=some bM/\C.cg vars f=some mm/\ac=.zQ bM C.CQ mm:=by
 unfold Ctx.Oy at h;split at h
 ·cases h
 ·rename_i h3 hl _
  split at h
  ·rename_i f args dU dy ba
   split at h
   ·rename_i bM mm ha hm ag
    split at h
    ·rename_i hd
     cases h;have bg:ops.toList≠[]:=by intro e;rw[e]at hl;cases hl
     have:ops.toList.dropLast++[h3]=ops.toList:=by
      have ak:=List.getLast?_eq_some_getLast bg;rw[hl]at ak;cases ak;exact List.dropLast_concat_getLast bg
     exact⟨_,h3,_,f,bM,mm,this.symm,dy,rfl,by simpa using ha,ba,by simpa using hd,hm,ag,rfl⟩
    ·cases h
   ·cases h
  ·cases h
 ·cases h
theorem amT (cD:C.P.follows .mixedOrders=true)(bC:e7 C fid)(bb:gS C fid call)(id:Nat)(ops:Array Oper)(draw:Bool):ri C fid call n (.region id ops draw):=by
 intro ac vars N hc st x aQ he G a w ro base Q ab dY eX hb dJ;simp only[Ctx.code]at hc;split at hc
 ·rename_i r hd
  cases hc;split at hd
  ·cases hd
  ·rename_i Qh
   have Qh:draw=false:=by simpa using Qh
   subst Qh;obtain⟨os,h3,c,f,bM,mm,h1,h2,ar,aS,h5,eA,lI,Ah,rfl⟩:=amS hd;simp only[exec,av.fy]at he;split at he
   ·rename_i st1 wr hex
    split at he
    ·rename_i bc
     cases he;simp only[b6]at bc
     have DA:st.ro=none:=by
      have:=(pw bb.b2 _ _ _ _ _ (by exact ab.low) hex).2;simp only at this;simpa[this]using bc.1
     rw[DA]at dY
     have amU:ro=none:=by
      cases ro with
      |none=>rfl
      |some b=>exact dY.elim
     subst amU;exact amQ bC bb h1 h2 ar aS h5 eA lI Ah hex bc.2 ab eX fun G' bk w' bB ca ez=>dJ G' bk w' ⟨bB.clear,ca,ez⟩
    ·cases he
   ·cases he
 split at hc
 ·rename_i bM hm
  cases hd:draw with
  |false=>
   rw[hd]at hc;simp only[vQ,if_true,aB]at hc;subst hc;simp only[exec,av.fy]at he;split at he
   ·rename_i st1 wr h1
    cases he;exact amq bC bb hm h1 ab fun G' bk w' bB ca ez=>dJ G' bk w' ⟨bB.clear,ca,by rw[ez];exact eX.ext (ca 0 (cJ _))⟩
   ·cases he
  |true=>
   rw[hd]at hc;simp only[hX,gq,if_false]at hc;split at hc
   ·rename_i et
    simp only[b6]at et;obtain⟨⟨h1,h2⟩,ar⟩:=et;cases hc;simp only[exec,av.fy]at he;split at he
    ·rename_i st1 wr aS
     split at he
     ·rename_i hin
      cases he;exact amL cD bC bb hm h1 h2 ar aS hin ab fun G' bk w' bB ca ez=>dJ G' bk w' ⟨bB.clear,ca,by rw[ez];exact eX.ext (ca 0 (cJ _))⟩
     ·cases he
    ·cases he
   ·cases hc
 ·cases hc
theorem amV (eQ:mE call){x y:Code}(hx:ri C fid call n x)(hy:ri C fid call n y):ri C fid call n (.seq x y):=by
 intro ac vars N hc st r aQ he G a w ro base Q ab dY eX hb dJ;simp only[Ctx.code]at hc;split at hc
 ·rename_i cO lC h1 h2
  cases hc;simp only[exec,av.fy]at he;refine wpIn_seq ?_;split at he
  ·rename_i st1 mz
   have f1:=mF eQ n _ _ _ _ ab.low mz;refine hx _ _ _ h1 _ _ _ mz G a w ro base _ ab dY eX hb fun az al aG gI=> ?_;have f2:=mF eQ n _ _ _ _ gI.rel.low he;exact hy _ _ _ h2 _ _ _ he az al aG ro base _ gI.rel (by rw[f1.2];exact dY.ext (gI.ext 0 (cJ _))) gI.marks (cY hb (gI.ext 0 (cJ _)).size) fun bu a2 bR vg=>dJ bu a2 bR (gI.trans vg f1 f2)
  ·rename_i bg
   refine hx _ _ _ h1 _ _ _ he G a w ro base _ ab dY eX hb fun az al aG gI=> ?_;have:=dJ az al aG gI;cases r with
   |normal=>exact absurd he (bg _)
   |exit id=>exact this
   |ret=>exact this
 ·cases hc
theorem amW (bC:e7 C fid){o:Operand}{x y:Code}(hx:ri C fid call n x)(hy:ri C fid call n y):ri C fid call n (.cond o x y):=by
 intro ac vars N hc st r aQ he G a w ro base Q ab dY eX hb dJ;simp only[Ctx.code]at hc;split at hc
 ·rename_i c cO lC h0 h1 h2
  cases hc;simp only[exec,av.fy]at he;have ad:=tJ bC ab o c h0;split at he
  ·rename_i qn
   rw[qn]at ad;exact wpIn_cond_true ad.k5 (hx _ _ _ h1 _ _ _ he G a w ro base Q ab dY eX hb dJ)
  ·rename_i qn
   rw[qn]at ad;exact wpIn_cond_false ad.k5 (hy _ _ _ h2 _ _ _ he G a w ro base Q ab dY eX hb dJ)
  ·cases he
 ·cases hc
theorem amX{id:Nat}{x:Code}(hx:ri C fid call n x):ri C fid call n (.block id x):=by
 intro ac vars N hc st r aQ he G a w ro base Q ab dY eX hb dJ;simp only[Ctx.code]at hc;obtain⟨cO,h1,rfl⟩:=cA.1 hc;simp only[exec,av.fy]at he;refine wpIn_block ?_;split at he
 ·rename_i u1 st1 mz
  refine hx _ _ _ h1 _ _ _ mz G a w ro base _ ab dY eX hb fun az al aG gI=> ?_;split at he
  ·rename_i hid
   cases he;simp only[Dx,Exit.inBlock,hid,if_true];exact dJ az al aG gI
  ·rename_i hid
   cases he;simp only[Dx,Exit.inBlock,hid,if_false];exact dJ az al aG gI
 ·rename_i bg
  refine hx _ _ _ h1 _ _ _ he G a w ro base _ ab dY eX hb fun az al aG gI=> ?_;have:=dJ az al aG gI;cases r with
  |normal=>exact this
  |exit id=>exact absurd he (bg _ _)
  |ret=>exact this
theorem amY (eQ:mE call){x:Code}(hx:ri C fid call n x):ri C fid call n (.loop x):=by
 intro ac vars N hc st r aQ he G a w ro base Q ab dY eX hb dJ;simp only[Ctx.code]at hc;obtain⟨cO,h1,rfl⟩:=cA.1 hc;simp only[exec,av.fy]at he;refine K6 (fun k al aG=>∃st1 az,iter (exec call n cO) k st1=some (r,aQ)/\gH st st1/\Fin C fid vars N base st G w st1 az al aG) ?_ ⟨st,G,he,.refl _,.refl ab eX⟩;rintro k al aG ⟨st1,az,hi,ag,gI⟩;cases k with
 |zero=>simp[iter]at hi
 |succ k=>
  refine⟨k,rfl,?_⟩;simp only[iter]at hi;have DA:wJ az st1.ro ro:=by rw[ag.2];exact dY.ext (gI.ext 0 (cJ _))
  have qn:base<=aG.heap.size:=cY hb (gI.ext 0 (cJ _)).size;split at hi
  ·rename_i st2 nR
   have f2:=mF eQ n _ _ _ _ gI.rel.low nR;exact hx _ _ _ h1 _ _ _ nR az al aG ro base _ gI.rel DA gI.marks qn fun bu a2 bR vg=>⟨st2,bu,hi,ag.trans f2,gI.trans vg ag f2⟩
  ·rename_i bg
   have f2:=mF eQ n _ _ _ _ gI.rel.low hi;refine hx _ _ _ h1 _ _ _ hi az al aG ro base _ gI.rel DA gI.marks qn fun bu a2 bR vg=> ?_;have:=dJ bu a2 bR (gI.trans vg ag f2);cases r with
   |normal=>exact absurd hi (bg _)
   |exit id=>exact this
   |ret=>exact this
end
end Go.Abs
namespace Go.Abs
open Go
variable{C:Ctx}{fid:Nat->Nat}{w w':World}{G G':bX}{H H':Heap}
theorem amZ{P:Program}(fn:FuncId)(tmps:Array Value)(ps:Array Tmp)(assign body:Code){b:Nat}{L:Loop}(h:w.heap[b]? =some (.loop L)):
  (Instr.enterLoop fn tmps ps assign body (some b)).run P w=.ok (w.heap.size,[]) (w.alloc (.loop {state:=.ready,pending:=none,fn,tmps,params:=ps,assign,body,defers:=L.defers})):=by
 unfold Instr.enterLoop;simp only[Sem.run_bind,run_getLoop h,run_newObj_alloc,Result.andThen,Sem.run_pure]
theorem Qi{vars:List Nat}{st:av}{t:Nat}(h:t∈vars):dP vars st t=bG st.au t:=by
 unfold dP;rw[if_pos (s9.2 h)]
theorem Gy (ab:a8 C fid G H w){l:Nat}{h:Home}(hb:G.β l=some h){st:LoopState}{uZ:X}{env:Env}{ps:List Nat}{ay cv:bZ}(hl:H[l]? =some (.loop st uZ env ps ay cv)):
  h.tag=0/\h.fz=false/\∃L vars,w.heap[h.b]? =some (.loop L)/\L.state=st/\O2 uZ L.pending/\
    L.params.toList=ps/\(∀t∈ps,t∈vars/\t<L.tmps.size)/\
    C.code vars L.tmps.size L.assign=some ay/\C.code vars L.tmps.size L.body=some cv/\∀t∈vars,bh fid G w (bG env t) (L.tmps.getD t undef):=by
 obtain⟨o,ho,hr⟩:=ab.obj l h hb;rw[hl]at ho;cases ho;exact hr
theorem am0{β:Nat->Option Home}{l:Nat}{h:Home}(hb:β l=some h):cp β l h=β:=by
 funext x;unfold cp;split
 ·rename_i e;rw[e,hb]
 ·rfl
theorem turn (ab:a8 C fid G H w){l:Nat}{h:Home}(hb:G.β l=some h)(ag:h.fz=false)(aV:Obj)(o:b5)
  (ho:(∀b,b≠h.b->(w.putObj h.b aV).heap[b]? =w.heap[b]?)->(w.putObj h.b aV).heap[h.b]? =some aV->(∀b,G.I b->(w.putObj h.b aV).heap[b]? =w.heap[b]?)->jS C fid G (w.putObj h.b aV) h o):
  a8 C fid G (H.set l o) (w.putObj h.b aV)/\Ext G w G (w.putObj h.b aV) l H.length:=by
 have hk:∀b,b≠h.b->(w.putObj h.b aV).heap[b]? =w.heap[b]? :=fun b fO=>World.putObj_heap_other fO
 have bq:∀b,G.I b->(w.putObj h.b aV).heap[b]? =w.heap[b]? :=fun b hi=>hk b fun e=>by
  have:=(ab.da b hi).2 l h hb e.symm;rw[ag]at this;cases this
 have h1:=ho hk (World.putObj_heap_same (ab.blk l h hb)) bq;have DB:(⟨cp G.β l h,G.I⟩:bX)=G:=by rw[am0 hb]
 have a:=a8.write (w':=w.putObj h.b aV) ab hb ag rfl ag (aH _) id rfl (by simp) hk o (by rw[DB];exact h1);have b:=Ext.write (w':=w.putObj h.b aV) ab hb ag rfl (aH _) id rfl (by simp) hk rfl rfl;rw[DB]at a b;exact⟨a,b⟩
section
variable{call:cW}{n:Nat}
theorem am1 (bC:e7 C fid)(bb:gS C fid call){f:Operand}{ps:Array Tmp}{ay cv:Code}:ri C fid call n (.rangeFunc f ps ay cv):=by
 intro ac vars N hc st r aQ he G a w ro base Q ab dY eX hb dJ;simp only[Ctx.code]at hc;split at hc
 ·rename_i mm YI YJ h0 h1 h2
  split at hc
  ·rename_i nQ
   cases hc
   have YK:∀t∈ps.toList,t∈vars/\t<N:=fun t ht=>by
    have:=(Array.all_eq_true_iff_forall_mem.1 nQ) t (Array.mem_toList_iff.1 ht);simp only[b6,decide_eq_true_eq,s9]at this;exact⟨this.2,this.1⟩
   simp only[exec]at he;split at he
   ·cases he
   ·rename_i bc
    simp only[Ol,b6]at bc;obtain⟨K7,am2⟩:=bc;split at he
    ·rename_i u H1 bO fm
     split at he
     ·rename_i ls uZ Wy Wz tl WA Aw
      split at he
      ·cases he
      ·rename_i am3
       cases he;have Ak:=tJ bC ab f mm h0;refine wpIn_rangeFunc fun fn _=> ?_
       obtain⟨gm,mark,R,Gz,K8,Qj,am4,gy,wA,DC,am5,Qk,am6⟩:∃(gm:World) (mark:List Deferred) (R:Loop),
         (Instr.enterLoop fn a.tmps ps ay cv (eJ ro).round).run C.P w=.ok (gm.heap.size,mark) (gm.alloc (.loop R))/\a8 C fid G st.H gm/\(∀m n,Ext G w G gm m n)/\k9 C G gm base (mark++a.defers)/\
         R.state=.ready/\R.pending=none/\R.tmps=a.tmps/\R.params=ps/\R.assign=ay/\R.body=cv:=by
        cases am7:ro with
        |none=>
         have hk:∀b,b<w.heap.size->(w.alloc (.deferred (some []))).heap[b]? =w.heap[b]? :=fun b fO=>alloc_old fO;have de:w.heap.size<=(w.alloc (.deferred (some []))).heap.size:=by simp
         refine⟨w.alloc (.deferred (some [])),[K5 w.heap.size],{state:=.ready,pending:=none,fn,tmps:=a.tmps,params:=ps,assign:=ay,body:=cv,defers:=w.heap.size},?_,ab.rel.restore de hk,fun m n=>.restore de hk rfl rfl m n,?_,rfl,rfl,rfl,rfl,rfl,rfl⟩
         ·have:=run_enterLoop_outer (P:=C.P) (w:=w) fn a.tmps ps ay cv
          rw[show(eJ none).round=none from rfl,this];simp[K5]
         ·obtain⟨rs,e,dk,k,dQ⟩:=eX
          refine⟨.inl w.heap.size::rs,by rw[e];rfl,tf.2 ⟨fun hin=> ?_,dk⟩,fun r hr=> ?_,fun d hd=> ?_⟩
          ·obtain⟨q,bf,e'⟩:=Wu.1 hin
           cases q with
           |inl r=>cases e';have:=(k _ bf).lt;omega
           |inr d=>cases e'
          ·rcases dx.1 hr with hr|hr
           ·cases hr
            exact⟨hb,by simp,mr _ _,fun l h e q=>by have:=ab.rel.blk l h e;omega,fun hi=>by have:=(ab.rel.da _ hi).1;omega⟩
           ·exact(k r hr).ext (.restore (G:=G) de hk rfl rfl 0 0)
          ·rcases dx.1 hd with hd|hd
           ·cases hd
           ·exact dQ d hd
        |some b=>
         subst am7;cases YL:st.ro with
         |none=>rw[YL]at dY;exact dY.elim
         |some qx=>
          rw[YL]at dY K7;obtain⟨h,e,t,q⟩:=dY;simp only[Fy]at K7;split at K7
          ·rename_i rb
           obtain⟨-,-,L,vs,ei,-⟩:=Gy ab.rel e rb;rw[q]at ei;exact⟨w,[],{state:=.ready,pending:=none,fn,tmps:=a.tmps,params:=ps,assign:=ay,body:=cv,defers:=L.defers},amZ fn a.tmps ps ay cv ei,ab.rel,fun m n=>.refl _ _ _ _,eX,rfl,rfl,rfl,rfl,rfl,rfl⟩
          ·cases K7
       let hm:Home:=⟨gm.heap.size,0,0,false⟩;let az:bX:=⟨cp G.β st.H.length hm,G.I⟩;have YM:mq G.β az.β:=C2 (K8.none (aH _)) _;have YN:∀b,G.I b->az.I b/\(gm.alloc (.loop R)).heap[b]? =gm.heap[b]? :=fun b hi=>⟨hi,alloc_old (K8.da b hi).1⟩;have oL:∀t,bh fid G gm (dP vars st t) (a.tmps.getD t undef):=fun t=>(ab.env t).ext ab.rel (Qj 0 0)
       have wK:a8 C fid az (st.H++[.loop .ready .normal st.au ps.toList YI YJ]) (gm.alloc (.loop R)):=by
        refine K8.push _ _ 0 0 ⟨rfl,rfl,R,vars,mr _ _,gy,by rw[wA];trivial,by rw[am5],fun t ht=>⟨(YK t ht).1,by rw[DC,ab.size];exact(YK t ht).2⟩,?_,?_,fun t ht=> ?_⟩
        ·rw[DC,Qk,ab.size];exact h1
        ·rw[DC,am6,ab.size];exact h2
        ·rw[DC,<-Qi ht];exact(oL t).mono YM YN
       have YO:∀m,Ext G gm az (gm.alloc (.loop R)) m st.H.length:=fun m=>.push K8 _ 0 0 m;have PY:bh fid az (gm.alloc (.loop R)) (mm.ah st.aF st.au) (a.eval f):=((Ak.ext ab.rel (Qj 0 0)).mono YM YN)
       have am8:a6 fid az (gm.alloc (.loop R)) [.yield st.H.length] [.func (.yield gm.heap.size) #[] #[]]:=
        .cons _ _ _ _ (.yield st.H.length hm (dr _ _ _) rfl) .nil
       obtain⟨d,hd,hn,am9⟩:=bb.run wK PY am8 fm;obtain⟨g,gs,hinv⟩:=am9 am2 rfl;rw[hinv]at hn;refine⟨gm.heap.size,mark,_,d,gm.alloc (.loop R),g,gs,_,Gz,?_,fun _ _=>trivial,hinv,fun h=>by simp[eJ]at h,?_⟩
       ·have e:Array.map a.eval #[Operand.const (Value.func (Fn.yield gm.heap.size) #[] #[])]=⟨[Value.func (Fn.yield gm.heap.size) #[] #[]]⟩:=by simp[Act.eval]
        simp only[resolve,rangeCall,e];exact hd
       ·have q8:Calls C.P g gs (gm.alloc (.loop R)) (rangePost (eJ ro) 0 C.P gm.heap.size Q {a with defers:=mark++a.defers}):=by
         refine th hn fun e fY hp=> ?_;obtain⟨y,rfl,bu,q1,q2,cn⟩:=hp;have GA:=q2 0 (cJ _);obtain⟨h2,ak,-,z2,m2,-⟩:=GA.homes st.H.length hm (dr _ _ _);have t2:=z2 rfl;have e3:h2.b=gm.heap.size:=(m2 t2).1;obtain⟨-,YP,L,vs,ei,YQ,wL,-⟩:=Gy q1 ak Aw;rw[e3]at ei;have hT:=turn q1 ak YP (.loop {L with state:=.exhausted}) .gone fun _ _ _=>⟨t2,YP⟩;rw[e3]at hT;have sx:=bb.b2 _ _ _ _ _ _ fm;have hlen:st.H.length<=H1.length:=by have:=sx.len;simp at this;omega
         have DD:∀m,m<=min st.low bO->Ext G w bu (fY.putObj gm.heap.size (.loop {L with state:=.exhausted})) m st.H.length:=fun m h7=>
          ((Qj m st.H.length).trans (YO m)).trans (((q2 m (by omega)).le (aH _) (by simp)).trans (hT.2.le (by have:=ab.low;omega) hlen))
         have c5:=DD 0 (cJ _)
         have ana:dI C fid vars N bu {st with H:=H1.set st.H.length .gone,low:=min st.low bO} {a with defers:=mark++a.defers} (fY.putObj gm.heap.size (.loop {L with state:=.exhausted})):=
          ⟨hT.1,fun t=>(ab.env t).ext ab.rel c5,ab.size,by simp only[x7];have:=ab.low;omega⟩
         have anb:k9 C bu (fY.putObj gm.heap.size (.loop {L with state:=.exhausted})) base (mark++a.defers):=((am4.ext (YO 0)).ext GA).ext (hT.2.le (cJ _) (aH _));have bf:=dJ bu _ _ ⟨ana,DD,anb⟩;refine⟨L.pending,_,run_endLoop ei (by rw[YQ];exact am3),?_⟩;cases hp:L.pending with
         |none=>
          rw[hp]at wL bf;cases r with
          |normal=>exact bf
          |exit i=>exact wL.elim
          |ret=>exact wL.elim
         |some c=>
          rw[hp]at wL bf;cases r with
          |normal=>exact wL.elim
          |exit i=>
           cases c<;>first|exact wL.elim|skip
           rename_i j;have:j=i:=wL;subst this;exact wpIn_exit bf
          |ret=>
           cases c<;>first|exact wL.elim|skip
           exact wpIn_ret bf
        exact callsIn_wide.2 q8
     ·cases he
    ·cases he
  ·cases hc
 ·cases hc
theorem sy (cD:C.P.follows .mixedOrders=true)(bC:e7 C fid)(bb:gS C fid call):∀(c:Code),ri C fid call n c
 | .skip=>by
   intro ac vars N hc st r aQ he G a w ro base Q ab dY eX hb dJ;simp only[Ctx.code,aB]at hc;subst hc;simp only[exec,aB,bx]at he;obtain⟨rfl,rfl⟩:=he;exact wpIn_skip (dJ G a w (.refl ab eX))
 | .region id ops draw=>amT cD bC bb id ops draw
 | .seq x y=>amV bb.b2 (sy cD bC bb x) (sy cD bC bb y)
 | .cond o x y=>amW bC (sy cD bC bb x) (sy cD bC bb y)
 | .block id x=>amX (sy cD bC bb x)
 | .loop x=>amY bb.b2 (sy cD bC bb x)
 | .rangeFunc f ps x y=>am1 bC bb
 | .exit id=>by
   intro ac vars N hc st r aQ he G a w ro base Q ab dY eX hb dJ;simp only[Ctx.code,aB]at hc;subst hc;simp only[exec,aB,bx]at he;obtain⟨rfl,rfl⟩:=he;exact wpIn_exit (dJ G a w (.refl ab eX))
 | .ret=>by
   intro ac vars N hc st r aQ he G a w ro base Q ab dY eX hb dJ;simp only[Ctx.code,aB]at hc;subst hc;simp only[exec,aB,bx]at he;obtain⟨rfl,rfl⟩:=he;exact wpIn_ret (dJ G a w (.refl ab eX))
 | .scope _| .label _| .goto _| .refuse _=>by
   intro ac vars N hc st r aQ he;simp only[Ctx.code,aB]at hc;subst hc;simp[exec]at he
end
end Go.Abs
namespace Go.Abs
open Go
variable{C:Ctx}{fid:Nat->Nat}{w w':World}{G G':bX}{H H':Heap}{call:cW}{n:Nat}
def nY (C:Ctx)(fid:Nat->Nat)(i:Nat)(spec:List V->Option V):Prop:=
 ∀{G:bX} {H:Heap} {w:World} {args:List V} {v:V} {xs:List Value},a8 C fid G H w->dh w G.I args xs->spec args=some v->ss C.P (k7 C fid G H w v H H.length) ((callFunc i ⟨xs⟩).run C.P w)
def wM (C:Ctx)(fid:Nat->Nat)(i:Nat)(spec:u2):Prop:=
 ∀{G:bX} {H:Heap} {w:World} {args:List V} {v:V} {H':Heap} {low:Nat} {xs:List Value},a8 C fid G H w->a6 fid G w args xs->qZ spec args H=some (v,H',low)->
  ss C.P (k7 C fid G H w v H' low) ((callFunc i ⟨xs⟩).run C.P w)/\∃g ay,(callFunc i ⟨xs⟩).run C.P w=.ok (.enter g ay) w
structure c0 (C:Ctx) (fid:Nat->Nat) (aa:Nat->Option bU):Prop where
 code:∀i f,aa i=some (.code f)->∃fn,C.P.funcs[i]? =some fn/\C.func fn f.fresh=some f
 ext:∀i spec,aa i=some (.ext spec)->nY C fid i spec
 oC:∀i spec,aa i=some (.oC spec)->wM C fid i spec
theorem YR{vars:List Nat}:∀(ps:List Nat) (vs:List V) (xs:List Value) (env:Env) (tmps:Array Value),a6 fid G w vs xs->(∀t∈ps,t<tmps.size)->
  (∀t,t∈vars->bh fid G w (bG env t) (tmps.getD t undef))->
  ((ps.zip xs).foldl (fun(tm:Array Value) (p:Nat × Value)=>tm.setIfInBounds p.1 p.2) tmps).size=tmps.size/\
    ∀t,t∈vars->bh fid G w (bG ((ps.zip vs).foldl (fun e (p:Nat × V)=>dD e p.1 p.2) env) t) (((ps.zip xs).foldl (fun(tm:Array Value) (p:Nat × Value)=>tm.setIfInBounds p.1 p.2) tmps).getD t undef)
 |[],vs,xs,env,tmps,_,_,h=>⟨rfl,by simpa using h⟩
 |p::ps,_,_,env,tmps,.nil,_,h=>⟨rfl,by simpa using h⟩
 |p::ps,_,_,env,tmps,.cons v x vs xs ad hs,aT,h=>by
  have h1:=YR ps vs xs (dD env p v) (tmps.setIfInBounds p x) hs (fun t ht=>by rw[Array.size_setIfInBounds];exact aT t (by simp[ht])) fun t ht=>by
   rw[Yg];have:=PZ {tmps:=tmps,defers:=[]} p x t (aT p (by simp));simp only[Act.put]at this;rw[this];by_cases e:t=p
   ·rw[if_pos e,if_pos e];exact ad
   ·rw[if_neg e,if_neg e];exact h t ht
  simp only[Fo,p6];rw[Array.size_setIfInBounds]at h1;exact h1
theorem k9.nil (G:bX)(w:World)(base:Nat):k9 C G w base []:=⟨[],rfl,Fs,(fun r hr=>by cases hr),fun r hr=>by cases hr⟩
theorem anc (cD:C.P.follows .mixedOrders=true)(bC:e7 C fid)(bb:gS C fid call){l:Nat}{args:List V}{v:V}{low':Nat}{xs:List Value}{h:Home}
  (he:qg (exec call n) l args H=some (v,H',low')) (ab:a8 C fid G H w) (hb:G.β l=some h) (ad:a6 fid G w args xs):
  ss C.P (k7 C fid G H w v H' low') ((Instr.yield h.b ⟨xs⟩).run C.P w):=by
 unfold qg at he;split at he
 ·rename_i p0 env params YI YJ rb
  obtain⟨ht,hfz,L,vars,ei,YQ,wL,YS,ane,anf,ang,anh⟩:=Gy ab hb rb;split at he
  ·rename_i hlen
   have YH:=run_yield (P:=C.P) (args:=⟨xs⟩) ei (by rw[<-fw,<-fw,YS,a6.length ad,hlen]);rw[YH]
   have ani:(r:Array Value)->((L.params.zip (⟨xs⟩:Array Value)).foldl (fun tmps (t,a)=>tmps.setIfInBounds t a) r)=(params.zip xs).foldl (fun(tm:Array Value) (p:Nat × Value)=>tm.setIfInBounds p.1 p.2) r:=fun r=>by
    rw[<-Ws,Array.toList_zip,YS]
   rw[ani];obtain⟨de,anj⟩:=YR (vars:=vars) params args xs env L.tmps ad (fun t ht=>(ane t ht).2) anh;split at he
   ·rename_i st1 mz
    have f1:=mF bb.b2 n _ _ _ _ (aH _) mz;split at he
    ·rename_i p1 YT Ql YU YV Aw
     split at he
     ·rename_i x l0 qv
      split at he
      ·rename_i aDo p3 Qm Qn Qo Qp YW
       cases he;refine roundIn_of_wpIn trivial ?_
       have jD:dI C fid vars L.tmps.size G {aF:=[],au:=(params.zip args).foldl (fun e (t,v)=>dD e t v) env,H,low:=H.length,ro:=some l}
         {tmps:=(params.zip xs).foldl (fun(tm:Array Value) (p:Nat × Value)=>tm.setIfInBounds p.1 p.2) L.tmps,defers:=[]} w:=
        ⟨ab,fun t=>by
         unfold dP;split
         ·rename_i hin;exact anj t (s9.1 hin)
         ·exact .undef _,de,aH _⟩
       refine sy (n:=n) cD bC bb L.assign _ vars _ anf _ _ _ mz G _ w (some h.b) 0 _ jD ⟨h,hb,ht,rfl⟩ (.nil _ _ _) (cJ _) ?_;intro az al aG gI;have KO:=gI.ext 0 (cJ _);obtain⟨h1,af,-,la,m1,-⟩:=KO.homes l h hb;have qn:h1.b=h.b:=(m1 ((la ht).trans ht.symm)).1;obtain⟨t1,YX,YY,ank,q1,q2,cn,c7,fr,ic,mH,GC⟩:=Gy gI.rel.rel af Aw
       have GD:=turn gI.rel.rel af YX (.loop {YY with state:=.busy}) (.loop .busy p1 YT Ql YU YV) fun bQ c6 iX=>
        ⟨t1,YX,_,ank,c6,rfl,cn,c7,fr,ic,mH,fun t ht=>(GC t ht).mono (.refl _) fun b hb=>⟨hb,iX b hb⟩⟩
       have YZ:=run_beginRound (P:=C.P) q1 q2;rw[qn]at GD YZ;refine⟨_,YZ,?_⟩;have sx:min st1.low l<=st1.H.length:=by have:=gI.rel.low;omega
       have gy:dI C fid vars L.tmps.size az {st1 with H:=st1.H.set l (.loop .busy p1 YT Ql YU YV),low:=min st1.low l} al (aG.putObj h.b (.loop {YY with state:=.busy})):=
        ⟨GD.1,fun t=>(gI.rel.env t).ext gI.rel.rel GD.2,gI.rel.size,by simpa using sx⟩
       have DA:st1.ro=some l:=f1.2;refine sy (n:=n) cD bC bb L.body _ vars _ ang _ _ _ qv az al _ (some h.b) 0 _ gy (by simp only[DA];exact⟨h1,af,t1,qn⟩) (gI.marks.ext GD.2) (cJ _) ?_;intro jY a3 fY K9;have f3:=mF bb.b2 n _ _ _ _ (by simpa using sx) qv;have Qq:=K9.ext 0 (cJ _);obtain⟨ar,bK,-,z3,m3,-⟩:=Qq.homes l h1 af;have Ax:ar.b=h.b:=(m3 ((z3 t1).trans t1.symm)).1.trans qn;obtain⟨t3,yv,DE,anl,bB,ca,ez,fC,hG,mI,rj,rk⟩:=Gy K9.rel.rel bK YW;have Qr:H.length<=st1.H.length:=f1.1.len;have anm:st1.H.length<=l0.H.length:=by have:=f3.1.len;simpa using this
       have Y0:l0.low<=st1.low/\l0.low<=l:=by have:=f3.1.low;simp only at this;omega
       have DD:∀(jump:Option Code) (ls:LoopState),a8 C fid jY (l0.H.set l (.loop ls x Qm Qn Qo Qp)) (fY.putObj h.b (.loop {DE with state:=ls,pending:=jump}))/\
         Ext jY fY jY (fY.putObj h.b (.loop {DE with state:=ls,pending:=jump})) l l0.H.length->
         ∀m,m<=min l0.low l->Ext G w jY (fY.putObj h.b (.loop {DE with state:=ls,pending:=jump})) m H.length:=fun jump ls hT m hm=>
        ((gI.ext m (by omega)).trans ((GD.2.le (m':=m) (by omega) Qr))).trans (((K9.ext m (by omega)).le (aH _) (by simpa using Qr)).trans (hT.2.le (by omega) (cY Qr anm)))
       have hT:∀(jump:Option Code) (ls:LoopState),O2 x jump->a8 C fid jY (l0.H.set l (.loop ls x Qm Qn Qo Qp)) (fY.putObj h.b (.loop {DE with state:=ls,pending:=jump}))/\
         Ext jY fY jY (fY.putObj h.b (.loop {DE with state:=ls,pending:=jump})) l l0.H.length:=fun jump ls hp=>by
        have:=turn K9.rel.rel bK yv (.loop {DE with state:=ls,pending:=jump}) (.loop ls x Qm Qn Qo Qp) fun bQ c6 iX=>
         ⟨t3,yv,_,anl,c6,rfl,hp,fC,hG,mI,rj,fun t ht=>(rk t ht).mono (.refl _) fun b hb=>⟨hb,iX b hb⟩⟩
        rw[Ax]at this;exact this
       rw[Ax]at bB;cases x with
       |normal=>
        have T:=hT none .ready trivial;exact⟨_,_,run_endRound none bB,_,rfl,jY,T.1,DD none .ready T,.p _ _ (.bool true)⟩
       |exit id=>
        have T:=hT (some (.exit id)) .done rfl;exact⟨_,_,run_endRound (some (.exit id)) bB,_,rfl,jY,T.1,DD _ .done T,.p _ _ (.bool false)⟩
       |ret=>
        have T:=hT (some .ret) .done trivial;exact⟨_,_,run_endRound (some .ret) bB,_,rfl,jY,T.1,DD _ .done T,.p _ _ (.bool false)⟩
      ·cases he
     ·cases he
    ·cases he
   ·cases he
  ·cases he
 ·cases he
end Go.Abs
namespace Go.Abs
open Go
variable{C:Ctx}{fid:Nat->Nat}{w w':World}{G G':bX}{H H':Heap}{call:cW}{n:Nat}
theorem jS.tags{h h':Home}{o:b5}(a:jS C fid G w h o)(b:jS C fid G' w' h' o):h.tag=h'.tag/\h.fz=h'.fz:=by
 cases o with
 |cells vs=>exact⟨a.1.1.trans b.1.1.symm,a.2.1.trans b.2.1.symm⟩
 |row es ds fz=>exact⟨a.1.trans b.1.symm,a.2.2.1.trans b.2.2.1.symm⟩
 |map bp=>exact⟨a.1.trans b.1.symm,a.2.1.trans b.2.1.symm⟩
 |loop=>exact⟨a.1.trans b.1.symm,a.2.1.trans b.2.1.symm⟩
 |tj s=>exact⟨a.2.1.trans b.2.1.symm,a.1.trans b.1.symm⟩
 |dead n=>exact⟨a.2.trans b.2.symm,a.1.trans b.1.symm⟩
 |gone=>exact⟨a.1.trans b.1.symm,a.2.trans b.2.symm⟩
theorem Y1 (ab:a8 C fid G H w)(ko:a8 C fid G' H' w')(hle:mq G.β G'.β)(hs:∀l,l<H.length->H'[l]? =H[l]?){l:Nat}{h:Home}(e:G.β l=some h):G'.β l=some h:=by
 obtain⟨h',e',-,-,m,-⟩:=hle l h e;obtain⟨o,ho,r⟩:=ab.obj l h e;obtain⟨o',jU,o9⟩:=ko.obj l h' e';rw[hs l (ab.lt e),ho]at jU;cases jU;obtain⟨t,f⟩:=r.tags o9;obtain⟨aDp,aDq⟩:=m t.symm;rw[e'];congr 1;cases h;cases h';simp_all
theorem forget (ab:a8 C fid G H w)(ko:a8 C fid G' H' w'){m n:Nat}(c5:Ext G w G' w' m n)(hm:H.length<=m)(hn:H.length<=n)(hs:∀l,l<H.length->H'[l]? =H[l]?):
  a8 C fid ⟨G.β,G'.I⟩ H w'/\(∀m n,Ext G w ⟨G.β,G'.I⟩ w' m n)/\∀{v:V} {x:Value},bh fid G' w' v x->old H.length v=true->bh fid ⟨G.β,G'.I⟩ w' v x:=by
 have hk:=c5.Ye ab hm;have ns:=fun l h e=>Y1 (l:=l) (h:=h) ab ko c5.homes hs e
 refine⟨⟨fun l h e=> ?_,ab.inj,fun l h e=>r3 (ab.blk l h e) c5.size,fun b hb=>⟨(ko.da b hb).1,fun l h e q=>(ko.da b hb).2 l h (ns l h e) q⟩,fun l h e q=>c5.da _ (ab.k4 l h e q),
   fun b o ba=>⟨c5.da _ (ab.fG b o ba).1,by rw[hk b (ab.da b (ab.fG b o ba).1).1];exact(ab.fG b o ba).2⟩⟩,fun m n=>⟨c5.size,c5.os,c5.output,fun b hb _=>hk b hb,.refl _,fun l h e=>.inl ⟨h,e,.inl rfl⟩,c5.da,c5.pe⟩,
  fun ad ho=>ad.restrict (G:=G') (G':=⟨G.β,G'.I⟩) (n:=H.length) (fun l h hl e=> ?_) (fun b hb=>⟨hb,rfl⟩) (.inl ho)⟩
 ·obtain⟨o,ho,r⟩:=ab.obj l h e
  exact⟨o,ho,jS.mono (G:=G) (G':=⟨G.β,G'.I⟩) (.refl _) (fun b hb=>⟨c5.da b hb,hk b (ab.da b hb).1⟩) (hk _ (ab.blk l h e)) r⟩
 ·rcases c5.oE l h e with⟨h0,eM,-⟩|⟨lS,-⟩
  ·have:=ns l h0 eM
   rw[e]at this;cases this;exact⟨h,eM,rfl⟩
  ·omega
theorem Y2 (n:Nat):∀(a b:List V),olds n (a++b)=(olds n a&&olds n b)
 |[],b=>by simp[olds]
 |v::a,b=>by simp[olds,Y2 n a b,zI]
theorem ann (n:Nat)(v:V)(h:old n v=true):olds n (aC v)=true:=by
 cases v<;>simp_all [aC,olds,old]
theorem Y3 (n:Nat):∀{ds:List V},olds n ds=true->olds n (ds.flatMap aC)=true
 |[],_=>rfl
 |d::ds,h=>by
  simp only[olds,b6]at h;rw[im,Y2,ann n d h.1,Y3 n h.2];rfl
theorem Y4{fresh:Bool}{H1:Heap}{v v':V}{low low':Nat}{x:Value}(ab:a8 C fid G H w)(ko:a8 C fid G' H1 w')(c5:∀m,m<=low->Ext G w G' w' m H.length)(ag:Fr H H.length H1 low)
  (ad:bh fid G' w' v x) (he:finish fresh H v H1 low=some (v',H',low')):k7 C fid G H w v' H' low' x w':=by
 unfold finish at he;split at he
 ·rename_i l es off len tag
  split at he
  ·rename_i bN ds hl
   split at he
   ·rename_i hc
    obtain⟨df,er,e2,h6,ie⟩:=hc;subst e2 h6;cases he;have hs:=fun l lS=>ag.same l (r3 lS df);have sz:=c5 H.length df;obtain⟨p1,p2,-⟩:=forget ab ko sz (aH _) (aH _) hs;obtain⟨h,a,m,cap,hb,hle,ha,rfl⟩:=ad.nk;obtain⟨o,ho,hr⟩:=ko.obj l h hb;rw[hl]at ho;cases ho
    have La:w.heap.size<=h.b:=by
     rcases sz.oE l h hb with⟨h0,eM,-⟩|⟨-,q⟩
     ·have:=ab.lt eM;omega
     ·exact q
    have tH:=ab.none (aH H.length);let bu:bX:=⟨cp G.β H.length h,G'.I⟩;have Y5:mq G.β bu.β:=C2 tH h;have ns:=fun l h e=>Y1 (l:=l) (h:=h) ab ko sz.homes hs e
    have ano:∀{vs:List V} {xs:List Value},a6 fid G' w' vs xs->olds H.length vs=true->a6 fid bu w' vs xs:=fun c2 hold=>
     c2.restrict (G:=G') (G':=bu) (n:=H.length) (fun y h0 hy e=>by
      rcases sz.oE y h0 e with⟨h1,af,-⟩|⟨lS,-⟩
      ·have:=ns y h1 af
       rw[e]at this;cases this;exact⟨h0,by show cp _ _ _ _=_;rw[dE (by omega)];exact af,rfl⟩
      ·omega) (fun b hb=>⟨hb,rfl⟩) (.inl hold)
    have aw:jS C fid bu w' h (.row bN ds false):=by
     obtain⟨bB,ca,ez,fC,hG,c,e,vals,rest,mI,rj,rk,GF⟩:=hr;exact⟨bB,ca,ez,fC,hG,c,e,vals,rest,mI,rj,rk,ano GF (Y3 _ ie)⟩
    refine⟨bu,⟨fun y h0 e=> ?_,fun y z h0 h1 af ak q=> ?_,fun y h0 e=> ?_,fun b hb=>⟨(ko.da b hb).1,fun y h0 e q=> ?_⟩,fun y h0 e q=> ?_,p1.fG⟩,fun m hm=> ?_,?_⟩
    ·by_cases hy:y=H.length
     ·subst hy;rw[show bu.β=cp _ _ _ from rfl,dr]at e;cases e
      exact⟨_,by simp,aw⟩
     ·rw[show bu.β=cp _ _ _ from rfl,dE hy]at e
      obtain⟨o,ho,r⟩:=p1.obj y h0 e;exact⟨o,by rw[e5 (ab.lt e)];exact ho,jS.mono (G:=⟨G.β,G'.I⟩) (G':=bu) Y5 (fun b hb=>⟨hb,rfl⟩) rfl r⟩
    ·by_cases hy:y=H.length<;>by_cases aR:z=H.length
     ·rw[hy,aR]
     ·subst hy;rw[show bu.β=cp _ _ _ from rfl,dr]at af;cases af
      rw[show bu.β=cp _ _ _ from rfl,dE aR]at ak;have:=ab.blk z h1 ak;omega
     ·subst aR;rw[show bu.β=cp _ _ _ from rfl,dr]at ak;cases ak
      rw[show bu.β=cp _ _ _ from rfl,dE hy]at af;have:=ab.blk y h0 af;omega
     ·rw[show bu.β=cp _ _ _ from rfl,dE hy]at af
      rw[show bu.β=cp _ _ _ from rfl,dE aR]at ak;exact ab.inj y z h0 h1 af ak q
    ·by_cases hy:y=H.length
     ·subst hy;rw[show bu.β=cp _ _ _ from rfl,dr]at e;cases e;exact ko.blk l h hb
     ·rw[show bu.β=cp _ _ _ from rfl,dE hy]at e;exact p1.blk y h0 e
    ·by_cases hy:y=H.length
     ·subst hy;rw[show bu.β=cp _ _ _ from rfl,dr]at e;cases e
      exact(ko.da b hb).2 l h (by assumption) q
     ·rw[show bu.β=cp _ _ _ from rfl,dE hy]at e;exact p1.da b hb |>.2 y h0 e q
    ·by_cases hy:y=H.length
     ·subst hy;rw[show bu.β=cp _ _ _ from rfl,dr]at e;cases e
      exact ko.k4 l h hb q
     ·rw[show bu.β=cp _ _ _ from rfl,dE hy]at e;exact p1.k4 y h0 e q
    ·have q:=p2 m H.length
     exact⟨q.size,q.os,q.output,q.keep,Y5,fun y h0 e=>by
      by_cases hy:y=H.length
      ·subst hy;rw[show bu.β=cp _ _ _ from rfl,dr]at e;cases e;exact .inr ⟨aH _,La⟩
      ·rw[show bu.β=cp _ _ _ from rfl,dE hy]at e;exact .inl ⟨h0,e,.inl rfl⟩,q.da,q.pe⟩
    ·exact .bJ H.length bN off len _ h a m cap (dr _ _ _) hle ha
   ·split at he
    ·cases he
     exact⟨G',ko,c5,ad⟩
    ·cases he
  ·cases he
 ·split at he
  ·rename_i v1 H2 dH aR
   obtain⟨bu,fz,Lb⟩:=FX ko ad aR;have eQ:=ag.trans (Dq aR).1;have GA:∀m,m<=dH->Ext G w bu w' m H.length:=fun m hm=>(c5 m (cY hm fz.low)).trans ((fz.ext m hm).le (aH _) ag.len);split at he
   ·rename_i hc
    cases he;obtain⟨p1,p2,p3⟩:=forget ab fz.rel (GA H.length hc.1) (aH _) (aH _) (fun l hl=>eQ.same l (r3 hl hc.1));exact⟨_,p1,fun m _=>p2 m _,p3 Lb hc.2⟩
   ·cases he
    exact⟨bu,fz.rel,GA,Lb⟩
  ·cases he
theorem anp{sh:Option Nat}{a u:V}{x:Value}(ha:bh fid G w a x)(he:jQ H sh a=some u):∃c8,x=.pointer (some c8):=by
 unfold jQ at he;split at he
 ·obtain⟨h,-,-,rfl⟩:=ha.pj;exact⟨_,rfl⟩
 ·obtain⟨h,c8,-,-,-,rfl⟩:=ha.F0;exact⟨_,rfl⟩
 ·cases ha with
  |dO _ f b o vals _ _ _=>exact⟨_,rfl⟩
  |p _ _ h=>cases h
 ·cases he
def Lc (tmps:Array Value):ResultVar->Sem Value
 | .tmp t=>pure (tmps.getD t undef)
 | .cell a t=>do loadVar t (<-asAddr (tmps.getD a undef))
theorem anq{r:ResultVar}{Qs:nd}(hr:C.res r=some Qs){au:Env}{tmps:Array Value}(ab:a8 C fid G H w)(ad:∀t∈Ctx.r9 [r],bh fid G w (bG au t) (tmps.getD t undef)){v:V}(he:kl au H Qs=some v):
  ∃x,(Lc tmps r).run C.P w=.ok x w/\bh fid G w v x:=by
 cases r with
 |tmp t=>
  simp only[Ctx.res,aB]at hr;subst hr;simp only[kl,aB]at he;subst he;exact⟨_,rfl,ad t (by simp[Ctx.r9])⟩
 |cell a t=>
  simp only[Ctx.res]at hr;obtain⟨sh,anr,rfl⟩:=cA.1 hr;simp only[kl]at he;have ha:=ad a (by simp[Ctx.r9]);obtain⟨y,hy,hu⟩:=XA ab anr ha he;obtain⟨c8,gY⟩:=anp ha he;rw[gY]at hy;refine⟨y,?_,hu⟩;simp only[Lc,gY,asAddr,Sem.run_bind,Sem.run_pure,Result.andThen_ok];simpa only[Instr.loadAt,Instr.sureAddr,Sem.run_bind,Sem.run_pure,Result.andThen_ok]using hy
theorem ans (r:ResultVar)(rs:List ResultVar):Ctx.r9 (r::rs)=Ctx.r9 [r]++Ctx.r9 rs:=by cases r<;>rfl
theorem Y6:∀{rs:List ResultVar} {pA:List nd},dM C.res rs=some pA->∀{au:Env} {tmps:Array Value},a8 C fid G H w->(∀t∈Ctx.r9 rs,bh fid G w (bG au t) (tmps.getD t undef))->
  ∀{vs:List V},gP au H pA=some vs->∃xs,(rs.mapM (Lc tmps)).run C.P w=.ok xs w/\a6 fid G w vs xs
 |[],pA,hm,au,tmps,ab,ad,vs,he=>by
  simp only[dM,aB]at hm;subst hm;simp only[gP,aB]at he;subst he;exact⟨[],by simp,.nil⟩
 |r::rs,pA,hm,au,tmps,ab,ad,vs,he=>by
  simp only[dM]at hm;split at hm
  ·rename_i Qs h1
   split at hm
   ·rename_i aDr h2
    cases hm;simp only[gP]at he;split at he
    ·rename_i v ar
     split at he
     ·rename_i vs' aS
      cases he;rw[ans]at ad;obtain⟨x,hx,Ay⟩:=anq h1 ab (fun t ht=>ad t (iq.2 (.inl ht))) ar;obtain⟨xs,eN,c2⟩:=Y6 h2 ab (fun t ht=>ad t (iq.2 (.inr ht))) aS;refine⟨x::xs,?_,.cons _ _ _ _ Ay c2⟩;rw[List.mapM_cons,Sem.run_bind,hx,Result.andThen_ok,Sem.run_bind,eN,Result.andThen_ok,Sem.run_pure]
     ·cases he
    ·cases he
   ·cases hm
  ·cases hm
def iM:List V->V
 |[v]=>v
 |vs=>.aU vs
theorem Y7{fn:Func}{pA:List nd}(hm:dM C.res fn.results.toList=some pA){au:Env}{tmps:Array Value}(ab:a8 C fid G H w)(ad:∀t∈Ctx.r9 fn.results.toList,bh fid G w (bG au t) (tmps.getD t undef))
  {vs:List V} (he:gP au H pA=some vs):∃x,(results fn tmps).run C.P w=.ok x w/\bh fid G w (iM vs) x:=by
 obtain⟨xs,hx,c2⟩:=Y6 hm ab ad he
 have e:results fn tmps=(do let vs <-fn.results.mapM (Lc tmps);pure (if h:vs.size=1 then vs[0]else .tuple vs)):=by
  unfold results;congr 1
 rw[e];refine⟨if h:(⟨xs⟩:Array Value).size=1 then(⟨xs⟩:Array Value)[0]else .tuple ⟨xs⟩,?_,?_⟩
 ·rw[Sem.run_bind,Array.mapM_eq_mapM_toList,Sem.run_map,hx]
  simp only[Result.andThen_ok,Sem.run_pure]
 ·cases c2 with
  |nil=>exact .aU [] [] .nil
  |cons v x vs xs h hs=>
   cases hs with
   |nil=>exact h
   |cons v2 ed Y8 ant h2 my=>
    have:¬(⟨x::ed::ant⟩:Array Value).size=1:=by simp
    rw[dif_neg this];exact .aU _ _ (.cons _ _ _ _ h (.cons _ _ _ _ h2 my))
end Go.Abs
namespace Go.Abs
open Go
variable{C:Ctx}{fid:Nat->Nat}{w w':World}{G G':bX}{H H':Heap}{call:cW}{n:Nat}
theorem a8.Qt (ab:a8 C fid G H w){r:Nat}(e8:∀l h,G.β l=some h->h.b≠r)(hi:¬G.I r)(o:Obj):a8 C fid G H (w.putObj r o) where
 obj l h e:=by
  obtain⟨o,ho,hr⟩:=ab.obj l h e;exact⟨o,ho,hr.mono (.refl _) (fun b hb=>⟨hb,World.putObj_heap_other fun q=>hi (by rw[<-q];exact hb)⟩) (World.putObj_heap_other (e8 l h e))⟩
 inj:=ab.inj
 blk l h e:=by rw[World.putObj_size];exact ab.blk l h e
 da b hb:=by rw[World.putObj_size];exact ab.da b hb
 k4:=ab.k4
 fG b o ba:=⟨(ab.fG b o ba).1,by rw[World.putObj_heap_other (k:=b) (r:=r) fun q=>hi (by rw[<-q];exact(ab.fG b _ ba).1)];exact(ab.fG b o ba).2⟩
theorem Ext.Qt{gm:World}{tK:bX}{m k:Nat}(c5:Ext tK gm G w m k){r:Nat}(hr:gm.heap.size<=r)(o:Obj):Ext tK gm G (w.putObj r o) m k:=
 ⟨by rw[World.putObj_size];exact c5.size,c5.os,c5.output,fun b hb hk=>by rw[World.putObj_heap_other (by omega)];exact c5.keep b hb hk,c5.homes,c5.oE,c5.da,c5.pe⟩
theorem Ld{fn:Func}{tmps:Array Value}{R:Ending->World->Prop}{gm:World}{tK:bX}{m0:Nat->Prop}{k0:Nat}:
  ∀(rs:List (Nat ⊕ Deferred)) (w:World),(rs.filterMap fun| .inl r=>some r| .inr _=>none).Nodup->(∀r,.inl r∈rs->Gv G w gm.heap.size r)->(∀d,.inr d∈rs->KE C.P d)->a8 C fid G H w->(∀m,m0 m->Ext tK gm G w m k0)->(∀v x,bh fid G w v x->True)->
   (∀bR,a8 C fid G H bR->(∀m,m0 m->Ext tK gm G bR m k0)->(∀{v:V} {x:Value},bh fid G w v x->bh fid G bR v x)->∃v,(results fn tmps).run C.P bR=.ok v bR/\R (.returned v) bR)->
   LeavesInM Fence.wide 0 C.P fn tmps R (rs.map (fun| .inl r=>K5 r| .inr d=>d)) .returning w
 |[],w,_,_,_,ab,c5,_,ig=>ig w ab c5 fun h=>h
 | .inr d::rs,w,dk,hm,hn,ab,c5,_,ig=>by
   obtain⟨fv,cap,f,args,af,ak⟩:=hn d (by simp);obtain⟨bK,cL⟩:=ak w;refine⟨by simp,.inr ⟨by simp[Fence.wide],fv,cap,f,args,af,bK,fun _ _=>trivial,cL.mono ?_⟩⟩;rintro e u' w' ⟨⟨v,rfl⟩,rfl,rfl⟩;exact Ld rs _ dk (fun q bf=>hm q (by simp[bf])) (fun q bf=>hn q (by simp[bf])) ab c5 (fun _ _ _=>trivial) ig
 | .inl r::rs,w,dk,hm,hn,ab,c5,_,ig=>by
   have hr:=hm r (by simp);have Y9:=tf.1 dk;refine⟨by simp,.inl ⟨r,w.putObj r (.deferred none),rfl,run_takeDeferred hr.obj,?_⟩⟩
   have ad:∀{v:V} {x:Value},bh fid G w v x->bh fid G (w.putObj r (.deferred none)) v x:=fun h=>
    h.mono (.refl _) fun b hb=>⟨hb,World.putObj_heap_other fun q=>hr.da (by rw[<-q];exact hb)⟩
   refine Ld rs _ Y9.2 (fun q bf=> ?_) (fun q bf=>hn q (by simp[bf])) (ab.Qt hr.home hr.da _) (fun m hm=>(c5 m hm).Qt hr.base _) (fun _ _ _=>trivial) fun bR a b c=>ig bR a b fun h=>c (ad h);have k:=hm q (by simp[bf]);have bg:q≠r:=fun e=>Y9.1 (by rw[<-e];exact Wu.2 ⟨.inl q,bf,rfl⟩);exact⟨k.base,by rw[World.putObj_size];exact k.lt,by rw[World.putObj_heap_other bg];exact k.obj,k.home,k.da⟩
theorem Qu:∀(vs:List V) (i t:Nat),bG (fl i vs) t=if i<=t then(vs[t-i]?).getD .undef else .undef
 |[],i,t=>by simp[fl,bG]
 |v::r,i,t=>by
  simp only[fl,bG];by_cases h:i=t
  ·subst h;simp
  ·rw[if_neg h,Qu r (i+1) t]
   by_cases h2:i<=t
   ·rw[if_pos h2,if_pos (by omega)]
    have:t-i=(t-(i+1))+1:=by omega
    rw[this,CC]
   ·rw[if_neg h2,if_neg (by omega)]
theorem Le{fn:Func}{fresh:Bool}{f:hY}(h:C.func fn fresh=some f):
  ∃c,fn.body=some c/\C.code (Ctx.varsOf fn) fn.ntmps c=some f.body/\dM C.res fn.results.toList=some f.results/\(fn.name== "runtime.NumGoroutine")=false/\f.zR=fn.ntmps/\f.fresh=fresh:=by
 unfold Ctx.func at h;split at h
 ·rename_i c hb
  split at h
  ·rename_i b rs h1 h2
   split at h
   ·cases h
   ·rename_i hn
    cases h;exact⟨c,hb,h1,h2,by simpa using hn,rfl,rfl⟩
  ·cases h
 ·cases h
theorem Za{fn:Func}{t:Nat}(h:t∈Ctx.r9 fn.results.toList):t∈Ctx.varsOf fn:=by
 unfold Ctx.varsOf;rw[List.mem_eraseDups];simp[h]
theorem Zb (cD:C.P.follows .mixedOrders=true)(bC:e7 C fid)(bb:gS C fid call){ft:Nat}{f:hY}{fn:Func}(ag:C.P.funcs[ft]? =some fn)(iv:C.func fn f.fresh=some f)
  {args:List V} {v:V} {low':Nat} {xs:List Value} (he:gF (exec call n) f args H=some (v,H',low')) (ab:a8 C fid G H w) (ad:a6 fid G w args xs):
  Calls C.P ft ⟨xs⟩ w (fun e w'=>∃x,e=.returned x/\k7 C fid G H w v H' low' x w'):=by
 obtain⟨c,hb,anu,sw,-,anv,-⟩:=Le iv;unfold gF at he;split at he
 ·rename_i hlen
  have lD:=ad.length
  have jD:dI C fid (Ctx.varsOf fn) fn.ntmps G {aF:=[],au:=fl 0 args,H,low:=H.length} {tmps:=(⟨xs⟩:Array Value)++Array.replicate (fn.ntmps-(⟨xs⟩:Array Value).size) undef,defers:=[]} w:=by
   refine⟨ab,fun t=> ?_,?_,aH _⟩
   ·unfold dP
    split
    ·rw[Qu]
     simp only[cJ,if_true,Nat.sub_zero];cases ha:args[t]? with
     |none=>exact .undef _
     |some u=>
      obtain⟨x,hx,Az⟩:=ad.get ha
      have aT:t<xs.length:=by
       rcases gh t xs.length with h|h
       ·exact h
       ·simp[lQ h]at hx
      have:((⟨xs⟩:Array Value)++Array.replicate (fn.ntmps-(⟨xs⟩:Array Value).size) undef).getD t undef=x:=by
       rw[x1,Wm (by simpa using aT)];simp[hx]
      rw[this];exact Az
    ·exact .undef _
   ·simp only[zC,Array.size_replicate]
    show xs.length+(fn.ntmps-xs.length)=fn.ntmps;rw[lD,<-anv];omega
  have nW:∀(st:av) (G':bX) (bk:Act) (w':World),gH {aF:=[],au:=fl 0 args,H,low:=H.length} st->(∃vs,gP st.au st.H f.results=some vs/\finish f.fresh H (iM vs) st.H st.low=some (v,H',low'))->
    Fin C fid (Ctx.varsOf fn) fn.ntmps w.heap.size {aF:=[],au:=fl 0 args,H,low:=H.length} G w st G' bk w'->
    LeavesInM Fence.wide 0 C.P fn bk.tmps (fun e w'=>∃x,e=.returned x/\k7 C fid G H w v H' low' x w') bk.defers .returning w':=by
   rintro st G' bk w' eQ ⟨vs,hr,tE⟩ F;obtain⟨rs,Qv,dk,hm,GG⟩:=F.marks;rw[Qv];refine Ld (m0:=fun m=>m<=st.low) rs w' dk hm GG F.rel.rel F.ext (fun _ _ _=>trivial) fun bR bQ c6 iX=> ?_
   obtain⟨x,hx,Az⟩:=Y7 sw bQ (fun t ht=>by
    have:=F.rel.env t;rw[Qi (Za ht)]at this;exact iX this) hr
   exact⟨x,hx,x,rfl,Y4 ab bQ c6 eQ.1 Az tE⟩
  have Zc:∀{st:av},(match gP st.au st.H f.results with|some [v]=>finish f.fresh H v st.H st.low|some vs=>finish f.fresh H (.aU vs) st.H st.low|none=>none)=some (v,H',low')->
    ∃vs,gP st.au st.H f.results=some vs/\finish f.fresh H (iM vs) st.H st.low=some (v,H',low'):=fun {st} h=>by
   split at h
   ·rename_i u hr;exact⟨[u],hr,h⟩
   ·rename_i vs bg hr
    refine⟨vs,hr,?_⟩
    have:iM vs=.aU vs:=by
     cases vs with
     |nil=>rfl
     |cons a r=>
      cases r with
      |nil=>exact absurd rfl (bg a)
      |cons b r=>rfl
    rw[this];exact h
   ·cases h
  have go:∀(Lf:X) (st:av),(Lf=.normal\/Lf=.ret)->exec call n f.body {aF:=[],au:=fl 0 args,H,low:=H.length}=some (Lf,st)->
    (∃vs,gP st.au st.H f.results=some vs/\finish f.fresh H (iM vs) st.H st.low=some (v,H',low'))->Calls C.P ft ⟨xs⟩ w (fun e w'=>∃x,e=.returned x/\k7 C fid G H w v H' low' x w'):=fun Lf st Qw hex tE=>by
   refine(callsIn_wide (n:=0)).1 (callsIn_of_wp_marks ag hb trivial ?_);have eQ:=mF bb.b2 n _ _ _ _ (aH _) hex;refine sy (n:=n) cD bC bb c _ _ _ anu _ _ _ hex G _ w none w.heap.size _ jD trivial (.nil _ _ _) (aH _) fun G' bk w' F=> ?_;have:=nW st G' bk w' eQ tE F;rcases Qw with rfl|rfl
   ·exact this
   ·exact this
  split at he
  ·rename_i st hex;exact go _ st (.inl rfl) hex (Zc he)
  ·rename_i st hex;exact go _ st (.inr rfl) hex (Zc he)
  ·cases he
 ·cases he
theorem DF{ft:Nat}{fn:Func}{c:Code}(ag:C.P.funcs[ft]? =some fn)(hb:fn.body=some c)(hn:(fn.name== "runtime.NumGoroutine")=false)(ay:Array Value):
  (callFunc ft ay).run C.P w=.ok (.enter ft ay) w:=by
 unfold callFunc;have q8:¬fn.name= "runtime.NumGoroutine" :=by simpa using hn
 simp[Sem.run_bind,Sem.run,program,ag,hb,q8,Result.andThen]
theorem GH (cD:C.P.follows .mixedOrders=true)(bC:e7 C fid){aa:Nat->Option bU}(hT:c0 C fid aa):∀(n:Nat),gS C fid (bm aa n)
 |0=>⟨KU aa 0,fun _ _ _ he=>by simp[bm]at he⟩
 |n+1=>by
  have ih:=GH cD bC hT n;refine⟨KU aa (n+1),fun {G H w f args v H' low' PV xs} ab Ak gi he=> ?_⟩;simp only[bm,q0]at he;split at he
  ·rename_i i first caps
   obtain⟨fs,cs,anw,vh,anx⟩:=Ak.C8;subst anx;have vb:a6 fid G w (first++args++caps) (fs++xs++cs):=(anw.append gi).append vh
   have anz:(invoke (.fn (.func i) ⟨cs⟩) ((⟨fs⟩:Array Value)++⟨xs⟩)).run C.P w=(callFunc i ⟨fs++xs++cs⟩).run C.P w:=by
    simp[invoke]
   refine⟨{target:=.fn (.func i) ⟨cs⟩,args:=(⟨fs⟩:Array Value)++⟨xs⟩},rfl,?_⟩;rw[anz];split at he
   ·rename_i anA pB
    obtain⟨fn,iv,DG⟩:=hT.code i anA pB;obtain⟨c,hb,-,-,AA,-⟩:=Le DG;rw[DF iv hb AA];exact⟨Zb cD bC ih iv DG he ab vb,fun _ _=>⟨_,_,rfl⟩⟩
   ·rename_i spec pB
    split at he
    ·rename_i hp
     obtain⟨u,hu,he⟩:=cA.1 he;cases he;refine⟨hT.ext i spec pB ab (vb.qk hp) hu,fun _ v8=> ?_⟩;rw[yi,yi]at hp;simp[v8]at hp
    ·cases he
   ·rename_i spec pB
    obtain⟨h1,h2⟩:=hT.oC i spec pB ab vb he;exact⟨h1,fun _ _=>h2⟩
   ·cases he
  ·rename_i l
   obtain⟨h,hb,ht,rfl⟩:=Ak.akP;refine⟨{target:=.fn (.yield h.b) #[],args:= #[]++⟨xs⟩},rfl,?_,fun iv=>by simp[CO]at iv⟩;have:(invoke (.fn (.yield h.b) #[]) (#[]++(⟨xs⟩:Array Value))).run C.P w=(Instr.yield h.b ⟨xs⟩).run C.P w:=by simp[invoke]
   rw[this];exact anc cD bC ih he ab hb gi
  ·cases he
theorem Zd (cD:C.P.follows .mixedOrders=true)(bC:e7 C fid){aa:Nat->Option bU}(hT:c0 C fid aa){n i:Nat}{f:hY}(hi:aa i=some (.code f)){args:List V}{v:V}{low':Nat}{xs:List Value}
  (he:bm aa n (.fn i [] []) args H=some (v,H',low')) (ab:a8 C fid G H w) (ad:a6 fid G w args xs):
  Calls C.P i ⟨xs⟩ w (fun e w'=>∃x,e=.returned x/\k7 C fid G H w v H' low' x w'):=by
 cases n with
 |zero=>simp[bm]at he
 |succ n=>
  simp only[bm,q0,hi,jN,lR]at he;obtain⟨fn,iv,DG⟩:=hT.code i f hi;exact Zb cD bC (GH cD bC hT n) iv DG he ab ad
end Go.Abs
namespace Go.Abs
open Go
variable{C:Ctx}{fid:Nat->Nat}{w w':World}{G G':bX}{H H':Heap}
theorem a8.apart (ab:a8 C fid G H w):a8 C fid ⟨fun _=>Option.none,G.I⟩ [] w where
 obj _ _ e:=by cases e
 inj _ _ _ _ e:=by cases e
 blk _ _ e:=by cases e
 da b hb:=⟨(ab.da b hb).1,fun _ _ e=>by cases e⟩
 k4 _ _ e:=by cases e
 fG:=ab.fG
theorem k7.beside (ab:a8 C fid G H w){v:V}{l:Nat}{x:Value}(hp:bI v=true)(h:k7 C fid ⟨fun _=>Option.none,G.I⟩ [] w v H' l x w'):k7 C fid G H w v H H.length x w':=by
 obtain⟨az,gy,he,ad⟩:=h;have e:=he 0 (cJ _);have keep:∀b,b<w.heap.size->w'.heap[b]? =w.heap[b]? :=fun b hb=>e.keep b hb fun _ _ q=>by cases q
 have bq:∀b,G.I b->az.I b/\w'.heap[b]? =w.heap[b]? :=fun b hb=>⟨e.da b hb,keep b (ab.da b hb).1⟩
 have pe:∀b,az.I b->G.I b\/w.heap.size<=b:=fun b hb=>by
  rcases e.pe b hb with q|q|⟨_,_,q,_⟩
  ·exact .inl q
  ·exact .inr q
  ·cases q
 refine⟨⟨G.β,az.I⟩,⟨fun l h q=> ?_,ab.inj,fun l h q=>r3 (ab.blk l h q) e.size,fun b hb=>⟨(gy.da b hb).1,fun l h q anB=> ?_⟩,fun l h q anC=>e.da _ (ab.k4 l h q anC),gy.fG⟩,
  fun m _=>⟨e.size,e.os,e.output,fun b hb _=>keep b hb,.refl _,fun l h q=>.inl ⟨h,q,.inl rfl⟩,e.da,fun b hb=>(pe b hb).imp id .inl⟩,.p _ _ (ad.qk hp)⟩
 ·obtain⟨o,ho,hr⟩:=ab.obj l h q
  exact⟨o,ho,jS.mono (G:=G) (G':=⟨G.β,az.I⟩) (mq.refl G.β) bq (keep _ (ab.blk l h q)) hr⟩
 ·rcases pe b hb with q'|q'
  ·exact(ab.da b q').2 l h q anB
  ·have:=ab.blk l h q;omega
theorem Ze (cD:C.P.follows .mixedOrders=true)(bC:e7 C fid){aa:Nat->Option bU}(hT:c0 C fid aa){n i:Nat}{f:hY}(hi:aa i=some (.code f)){spec:List V->Option V}
  (hs:∀args v,spec args=some v->bI v=true/\∃H' l,bm aa n (.fn i [] []) args []=some (v,H',l)):nY C fid i spec:=by
 intro G H w args v xs ab eN l1;obtain⟨hp,H',l,he⟩:=hs args v l1;have hc:=Zd cD bC hT hi he ab.apart (dh.oD eN);obtain⟨fn,iv,DG⟩:=hT.code i f hi;obtain⟨c,hb,-,-,AA,-⟩:=Le DG;rw[DF iv hb AA];exact th hc fun e w'=>fun⟨x,af,ak⟩=>⟨x,af,ak.beside ab hp⟩
def AB (ay:List V)(v:V):List V->Option V:=fun args=>if nN args ay=true then some v else none
theorem anD (cD:C.P.follows .mixedOrders=true)(bC:e7 C fid){aa:Nat->Option bU}(hT:c0 C fid aa){n i:Nat}{f:hY}(hi:aa i=some (.code f)){ay:List V}{v:V}{H':Heap}{l:Nat}
  (hp:bI v=true) (he:bm aa n (.fn i [] []) ay []=some (v,H',l)):nY C fid i (AB ay v):=
 Ze cD bC hT hi fun args u hu=>by
  unfold AB at hu;split at hu
  ·rename_i bf
   cases hu;rw[ve _ _ bf];exact⟨hp,H',l,he⟩
  ·cases hu
theorem yw{aa:Nat->Option bU}(hT:c0 C fid aa){k:Nat}{spec:List V->Option V}(hs:nY C fid k spec):c0 C fid (over aa k spec) where
 code i f h:=by
  unfold over at h;cases e:Nat.beq i k with
  |true=>rw[e]at h;cases h
  |false=>rw[e]at h;exact hT.code i f h
 ext i sp h:=by
  unfold over at h;cases e:Nat.beq i k with
  |true=>
   rw[e]at h;have h':some (bU.ext spec)=some (.ext sp):=h;cases h';rw[eE e];exact @hs
  |false=>rw[e]at h;exact hT.ext i sp h
 oC i sp h:=by
  unfold over at h;cases e:Nat.beq i k with
  |true=>rw[e]at h;cases h
  |false=>rw[e]at h;exact hT.oC i sp h
theorem Lg (cD:C.P.follows .mixedOrders=true)(bC:e7 C fid){aa:Nat->Option bU}(hT:c0 C fid aa){n i:Nat}{f:hY}(hi:aa i=some (.code f)):∀{l:List (List V × V)},hC aa n i l->nY C fid i (hB l):=by
 intro l hl;refine Ze cD bC hT hi (n:=n) fun args u hu=> ?_
 induction l with
 |nil=>cases hu
 |cons p r ih=>
  obtain⟨ay,v⟩:=p;simp only[hB]at hu;cases e:nN args ay with
  |true=>
   rw[e]at hu;have h':some v=some u:=hu;cases h';rw[ve _ _ e];exact⟨hl.1.1,[],0,hl.1.2⟩
  |false=>rw[e]at hu;exact ih hl.2 hu
end Go.Abs
namespace Go.Abs
open Go
variable{C:Ctx}{fid:Nat->Nat}{w w':World}{G G':bX}{H H':Heap}
theorem Zf{P:Program}(ty:TypeId){r kJ since fD bT:Nat}{seen:Array Nat}{es:Array MapEntry}(hr:w.heap[r]? =some (.mapIter (some kJ) since seen fD))(hb:w.heap[kJ]? =some (.map es bT))
  (hold:∀x∈es.toList,x.born<since) (anE:since<=fD):
  ((leftOf es seen).size=0/\(Instr.next (.pointer (some ⟨r,0,none⟩)) false ty).run P w=.ok (.tuple #[.bool false]) w)\/
  ∃e∈(leftOf es seen).toList,∃aG:World,aG.heap=w.heap.setIfInBounds r (.mapIter (some kJ) since (seen.push e.born) bT)/\aG.os=w.os/\aG.output=w.output/\
   (Instr.next (.pointer (some ⟨r,0,none⟩)) false ty).run P w=.ok (.tuple #[.bool true,e.key,e.val]) aG:=by
 simp only[Instr.next,getObj,Sem.run_bind,Sem.run,hr,hb,Result.andThen,next_test_false seen es since fD hold anE,gq,if_false];unfold leftOf;have eW:∀x∈(Array.filter (fun e=>!seen.contains e.born) es).toList,x.born<since:=fun x hx=>hold x (by simp at hx⊢; exact hx.1);generalize Array.filter (fun e=>!seen.contains e.born) es=L at eW⊢;have af:L.filter (fun x=>decide (x.born<since))=L:=Array.filter_eq_self.2 (fun x hx=>by simpa using eW x (by simpa using hx))
 have ak:L.filter (fun x=>decide (x.born>=since))= #[]:=by
  rw[aj1];intro x hx;have:=eW x (by simpa using hx);simp;omega
 simp only[af,ak,Array.append_empty];by_cases h0:L.size=0
 ·left
  have:L= #[]:=ajZ h0;subst this;refine⟨rfl,?_⟩;simp[choose,Sem.run,Question.forced]
 ·right
  have bg:L.isEmpty=false:=by simp[Array.isEmpty,h0]
  simp only[bg,gq,if_false,Array.empty_append,Array.size_map]
  have anF:∃(j:Nat) (aG:World),j<L.size/\aG.heap=w.heap/\aG.os=w.os/\aG.output=w.output/\(choose (Question.mapNext L.size)).run P w=.ok j aG:=by
   by_cases ag:L.size<=1
   ·exact⟨0,w,by omega,rfl,rfl,rfl,by simp[choose,Sem.run,Question.forced,ag]⟩
   ·exact⟨_,w.drew,Nat.mod_lt _ (by omega),rfl,rfl,rfl,by
     simp only[choose,Sem.run,Question.forced,decide_eq_true_eq,ag,if_false,Question.cut];rfl⟩
  obtain⟨j,aG,hj,al,a2,a3,cm⟩:=anF
  have aDs:r<w.heap.size:=by
   rcases gh r w.heap.size with h|h
   ·exact h
   ·simp[zx h]at hr
  refine⟨L[j],by simp,{aG with heap:=aG.heap.setIfInBounds r (.mapIter (some kJ) since (seen.push L[j].born) bT)},by rw[al],a2,a3,?_⟩
  have oR:∀(o':Obj),(setObj r o').run P aG=.ok () {aG with heap:=aG.heap.setIfInBounds r o'}:=fun o'=>by
   simp only[setObj,Sem.run];rw[al,hr]
  simp only[cm,Array.getElem?_map,zv hj,nM,Sem.run_bind,oR,Result.andThen];rfl
theorem Zg{P:Program}{r kJ since bT:Nat}{seen:Array Nat}{es:Array MapEntry}{e:MapEntry}(hr:w.heap[r]? =some (.mapIter (some kJ) since (seen.push e.born) bT))(hb:w.heap[kJ]? =some (.map es bT))
  (he:e∈es.toList) (hn:(es.toList.map (·.born)).Nodup):
  (Instr.entry (.pointer (some ⟨r,0,none⟩))).run P w=.ok (.tuple #[e.key,e.val]) w:=by
 have ag:es.find? (·.born==e.born)=some e:=by rw[<-Array.find?_toList];exact find_born e es.toList hn he
 simp only[Instr.entry,getObj,Sem.run_bind,Sem.run,hr,hb,Result.andThen,Array.back?_push,bne_self_eq_false,gq,if_false,ag];rfl
section
variable{vars:List Nat}{N:Nat}{ops:Array Oper}
theorem Lh{j:Nat}{o:Oper}{a:Act}{K:Act->World->Prop}{Q:Exit->Act->World->Prop}{ro:Option Nat}(ho:ops[j]? =some o)(ba:o.guard=none)(hnd:∀c,o.op≠ .defer c){x:Value}{aG:World}
  (cm:(execOp a.eval o).run C.P w=.ok (.value x) aG) (oO:K (a.put o.dst x) aG):wpOpIn (eJ ro) 0 C.P ops Q j K a w:=by
 unfold wpOpIn;rw[ho];have hw:Region.wanted o (yielded ops a.tmps)=true:=by unfold Region.wanted;rw[ba]
 simp only[hw,if_true];refine⟨fun _ _=>trivial,?_⟩;rw[Oper.semAt_eq _ _ _ hnd,cm];exact oO
theorem dI.put{st:av}{a:Act}(h:dI C fid vars N G st a w){t:Nat}(dG:t<N){v:V}{x:Value}(ad:bh fid G w v x):
  dI C fid vars N G (st.put (some (t,vars.contains t)) v) (a.put (some t) x) w:=by
 have hp:=kI st (some (t,vars.contains t)) v;refine⟨by rw[hp.1];exact h.rel,fun s=> ?_,by rw[yq];exact h.size,by rw[hp.1,hp.2.1];exact h.low⟩;rw[PZ _ _ _ _ (by rw[h.size];exact dG),Gk];by_cases e:s=t
 ·rw[if_pos e,if_pos e];exact ad
 ·rw[if_neg e,if_neg e];exact h.env s
end
end Go.Abs
