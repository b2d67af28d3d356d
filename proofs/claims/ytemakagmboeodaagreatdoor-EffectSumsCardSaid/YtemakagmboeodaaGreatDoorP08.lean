/- Texts of this claim, joined and written short by a program. -/
import Derived.Test.YtemakagmboeodaaGreatDoorP07
import Derived.Test.YtemakagmboeodaaGreatDoorP01
import Derived.Laws.IdiomRangeMap
import Derived.Test.YtemakagmboeodaaGreatDoorP00
set_option linter.unusedVariables false
set_option linter.unusedSimpArgs false
set_option linter.unusedSectionVars false
namespace Go.Abs
open Go
variable{C:Ctx}{fid:Nat->Nat}{w w':World}{G G':bw}{H H':Heap}
def vT:X->Exit
 | .normal=>.normal
 | .exit id=>.exit id
 | .ret=>.ret
def rY (G:bw):Option Nat->Option Nat->Prop
 |none,none=>True
 |some l,some b=>∃h,G.β l=some h/\h.tag=0/\h.b=b
 | _,_=>False
theorem rY.ext{m n:Nat}(h:Ext G w G' w' m n):∀{l b:Option Nat},rY G l b->rY G' l b
 |none,none,_=>trivial
 |some l,some b,⟨h0,e,t,q⟩=>by
  obtain⟨h',e',-,z,m,-⟩:=h.homes l h0 e;exact⟨h',e',z t,by rw[(m ((z t).trans t.symm)).1];exact q⟩
 |none,some _,k|some _,none,k=>k.elim
def AZ (r:Nat):Deferred:={target:=.collected r,args:= #[]}
structure yj (G:bw) (w:World) (base r:Nat):Prop where
 base:base<=r
 lt:r<w.heap.size
 obj:w.heap[r]? =some (.deferred (some []))
 home:∀l h,G.β l=some h->h.b≠r
 cu:¬G.I r
def jw (C:Ctx)(G:bw)(w:World)(base:Nat)(ds:List Deferred):Prop:=∃rs:List (Nat ⊕ Deferred),ds=rs.map (fun| .inl r=>AZ r| .inr d=>d)/\(rs.filterMap fun| .inl r=>some r| .inr _=>none).Nodup/\
 (∀r,.inl r∈rs->yj G w base r)/\∀d,.inr d∈rs->Aw C.P d
theorem yj.ext{m n base r:Nat}(h:Ext G w G' w' m n)(k:yj G w base r):yj G' w' base r where
 base:=k.base
 lt:=mX k.lt h.size
 obj:=by rw[h.eg r k.lt fun l x ae ai=>absurd ai (k.home l x ae)];exact k.obj
 home l x e q:=by
  rcases h.D0 l x e with⟨gX,fa,eb⟩|hs
  ·exact k.home l gX fa (eb.trans q)
  ·have:=k.lt;omega
 cu hi:=by
  rcases h.lb r hi with h1|h1|⟨l,x,e,eb⟩
  ·exact k.cu h1
  ·have:=k.lt;omega
  ·exact k.home l x e eb
theorem jw.ext{m n base:Nat}{ds:List Deferred}(h:Ext G w G' w' m n):jw C G w base ds->jw C G' w' base ds
 |⟨rs,e,cI,k,q⟩=>⟨rs,e,cI,fun r hr=>(k r hr).ext h,q⟩
theorem vU (bu:eh C fid){vars:List Nat}{N:Nat}{st:au}{a:Act}(aa:dj C fid vars N G st a w):eo C fid vars G w (ah.ag st.aH st.ax) a.eval:=fun x bY hx=>by
 cases x with
 |tmp t=>
  simp only[Ctx.bF,ay]at hx;have e:bY.ag st.aH st.ax=df vars st t:=by rw[<-hx];unfold df;split<;>rfl
  rw[e];exact aa.env t
 |const u=>
  simp only[Ctx.bF]at hx;obtain⟨KP,gd,rfl⟩:=bW.1 hx;rcases xH (I:=G.I) (w:=w) u gd with rfl|hp
  ·exact .undef _
  ·exact .p _ _ hp
 |func f=>exact Eb bu hx
 |global g=>simp[Ctx.bF]at hx
theorem Fm{F:Fence}{n:Nat}{P:Program}{Q:Exit->Act->World->Prop}{c:Code}(I:Nat->Act->World->Prop)
  (round:∀k a w,I k a w->∃bJ,k=bJ+1/\c.wpIn F n P (Exit.then (I bJ) Q) a w) {j:Nat} {a:Act} {w:World} (h₀:I j a w):(Code.loop c).wpIn F n P Q a w:=by
 intro b k cs dv hb hr
 have key:∀j a w,I j a w->
   ∃e bg w',Q e bg w'/\ArrivesIn (Machine.fenced P F) P (lone (b.atR a (.code c::.inLoop c::k)) cs w) b k cs e bg w':=by
  intro j
  induction j with
  |zero=>
   intro a w ch;obtain⟨bJ,e,-⟩:=round 0 a w ch;omega
  |succ j ih=>
   intro a w ch;obtain⟨bJ,e,cE⟩:=round _ a w ch;cases e;obtain⟨e,vV,vW,a8,ox⟩:=cE b (.inLoop c::k) cs dv hb hr;cases e with
   |normal=>
    obtain⟨DX,W1,W2,W3,W4⟩:=ih vV vW a8;exact⟨DX,W1,W2,W3,.of_steps (StepsIn.trans ox (.one (fenced_calm hb hr rfl) stepR_inLoop)) W4⟩
   |exit id=>exact⟨_,vV,vW,a8,.pass (x:=.inLoop c) rfl (fun _ _=>.inl (by simp)) ox⟩
   |goto l=>exact⟨_,vV,vW,a8,.pass (x:=.inLoop c) rfl (fun _ _=>.inl (by simp)) ox⟩
   |ret=>exact⟨_,vV,vW,a8,.pass (x:=.inLoop c) rfl (fun _ _=>.inl (by simp)) ox⟩
   |panic aid=>exact⟨_,vV,vW,a8,.pass (x:=.inLoop c) rfl (fun _ _=>.inl (by simp)) ox⟩
   |outgrown=>exact⟨_,vV,vW,a8,.pass (x:=.inLoop c) rfl (fun _ _=>.inl (by simp)) ox⟩
 obtain⟨e,bg,w',a8,ox⟩:=key _ a w h₀;exact⟨e,bg,w',a8,.of_steps (.one (fenced_calm hb hr rfl) stepR_loop) ox⟩
structure Fin (C:Ctx) (fid:Nat->Nat) (vars:List Nat) (N base:Nat) (st:au) (G:bw) (w:World) (aV:au) (G':bw) (bg:Act) (w':World):Prop where
 rel:dj C fid vars N G' aV bg w'
 ext:∀m,m<=aV.low->Ext G w G' w' m st.H.length
 marks:jw C G' w' base bg.defers
def mF (C:Ctx)(fid:Nat->Nat)(call:cj)(n:Nat)(c:Code):Prop:=
 ∀(ac:bP) (vars:List Nat) (N:Nat),C.code vars N c=some ac->∀(st:au) (x:X) (aV:au),exec call n ac st=some (x,aV)->
 ∀(G:bw) (a:Act) (w:World) (ro:Option Nat) (base:Nat) (Q:Exit->Act->World->Prop),dj C fid vars N G st a w->rY G st.ro ro->jw C G w base a.defers->base<=w.heap.size->
  (∀G' bg w',Fin C fid vars N base st G w aV G' bg w'->Q (vT x) bg w')->c.wpIn (dO ro) 0 C.P Q a w
section
variable{call:cj}{n:Nat}
theorem Fin.refl{vars:List Nat}{N base:Nat}{st:au}{a:Act}(h:dj C fid vars N G st a w)(k:jw C G w base a.defers):Fin C fid vars N base st G w st G a w:=
 ⟨h,fun m _=>.refl _ _ _ _,k⟩
theorem Fin.trans{vars:List Nat}{N base:Nat}{st st1 st2:au}{az a7:bw}{av a2:Act}{aG bs:World}(h:Fin C fid vars N base st G w st1 az av aG)(k:Fin C fid vars N base st1 az aG st2 a7 a2 bs)
  (f1:fh st st1) (f2:fh st1 st2):Fin C fid vars N base st G w st2 a7 a2 bs:=
 ⟨k.rel,fun m hm=>(h.ext m (cA hm f2.1.low)).trans ((k.ext m hm).le (aI _) f1.1.len),k.marks⟩
theorem W5 (bu:eh C fid)(bh:gh C fid call){id:Nat}{ops:Array Oper}{os:List Oper}{gG:Oper}{c:Call}{f:Operand}{j2:ah}{vars:List Nat}{N:Nat}{bj:List bl}{st aV:au}{wr:List Bool}{a:Act}{base:Nat}{Q:Exit->Act->World->Prop}
  (l9:ops.toList=os++[gG]) (W6:gG.op=.defer c) (Lf:c.callee=.value f) (tT:c.args= #[]) (aT:gG.guard=none) (vQ:gG.dst=none) (hm:c7 (C.oper vars N ops) os=some bj) (af:C.bF vars f=some j2)
  (he:cX call bj {st with aH:=[]} []=some (aV,wr)) (bx:Dj C.ve (j2.ag aV.aH aV.ax)=true) (aa:dj C fid vars N G st a w) (dX:jw C G w base a.defers)
  (c9:∀G' bg w',dj C fid vars N G' aV bg w'->(∀m,m<=aV.low->Ext G w G' w' m st.H.length)->jw C G' w' base bg.defers->Q .normal bg w'):
  (Code.region id ops false).wpIn (dO none) 0 C.P Q a w:=by
 obtain⟨S,aO,h0,hn,-,hs⟩:=pr _ _ _ _ _ he;have hlen:bj.length=os.length:=ql _ hm;have du:ops.size=os.length+1:=by rw[<-e9,l9];simp
 have key:∀k j,j+k=os.length->∀a7 av bs,dj C fid vars N a7 (S j) av bs->(∀m,m<=(S j).low->Ext G w a7 bs m st.H.length)->av.defers=a.defers->st.H.length<=(S j).H.length->
   wpOpsIn (dO none) 0 C.P ops Q (List.range' j (k+1)) av bs:=by
  intro k
  induction k with
  |zero=>
   intro j hj a7 av bs bq cc eY _;have e:j=bj.length:=by omega
   subst e;rw[hn]at bq cc;have ho:ops[bj.length]? =some gG:=by rw[<-fN,l9,hlen];simp
   rw[sK,wpOpsIn_cons];have dU:=vU bu bq f j2 af;unfold Dj at bx;split at bx
   ·rename_i i cs E1
    rw[E1]at dU;obtain⟨xs,bX,dW,Lg,ad⟩:=dU.vw;cases dW;unfold wpOpIn;rw[ho];have hw:Region.wanted gG (yielded ops av.tmps)=true:=by unfold Region.wanted;rw[aT]
    simp only[hw,if_true];refine⟨fun _ _=>trivial,?_⟩
    have bR:(Oper.semAt (dO none).round av.eval gG).run C.P bs=.ok (.defer {target:=.fn (.func i) ⟨bX⟩,args:= #[]}) bs:=by
     show(Oper.semAt none av.eval gG).run C.P bs=_;rw[Oper.semAt_none];unfold execOp;rw[W6];obtain⟨JN,pt,Lh⟩:=c;simp only at Lf tT;subst Lf;subst tT;simp only[resolve,ad,Sem.run_bind,Sem.run_pure,Result.andThen_ok];simp[Sem.run_pure,Deferred.ofValue]
     try rfl
    rw[bR];simp only[Oper.uponIn];rw[vQ];show Q .normal _ _;refine c9 a7 _ bs ⟨bq.rel,bq.env,bq.size,bq.low⟩ (fun m hm=>cc m hm) ?_;obtain⟨rs,ae,cI,bM,dC⟩:=dX.ext (cc 0 (ct _));refine⟨.inr {target:=.fn (.func i) ⟨bX⟩,args:= #[]}::rs,?_,cI,fun r hr=>bM r (by simpa using hr),fun d hd=> ?_⟩
    ·show _::av.defers=_
     rw[eY,ae];rfl
    ·rcases cY.1 hd with hd|hd
     ·cases hd;exact bu.UW i (q9.1 bx) _
     ·exact dC d hd
   ·cases bx
  |succ k ih=>
   intro j hj a7 av bs bq cc eY hE;have lk:j<os.length:=by omega
   have gU:os[j]? =some os[j]:=by simp[lk]
   have ho:ops[j]? =some os[j]:=by rw[<-fN,l9,ft lk];exact gU
   have yk:j<bj.length:=by omega
   have eP:bj[j]? =some bj[j]:=by simp[yk]
   have Fo:pq C vars N ops os[j] bj[j]:=vP (qm _ hm gU eP);have cG:=hs j _ eP;rw[sK,wpOpsIn_cons];have dL:=cG.bD bh.bD;refine tN (T:=fun _=>True) bu bh ho Fo cG bq.rel (fun _=>.inl rfl) bq.low (fun t _=>bq.env t) (fun x _=>by cases x<;>trivial) (fun _ _ _ _ _=>trivial) bq.size ?_;intro x fT hF p1 cN ei
   have tP:aQ C fid hF (S (j+1)).H fT:=by
    cases af:aO j with
    |true=>rw[af]at p1;exact p1
    |false=>rw[af]at p1;rw[cG.still bh.bD af];exact p1
   have mC:=cN 0 (ct _)
   refine ih (j+1) (by omega) hF _ fT ⟨tP,fun t=> ?_,by rw[rR];exact bq.size,dL.bound bq.low⟩ (fun m hm=>(cc m (cA hm dL.1.low)).trans ((cN m hm).le (aI _) hE)) (by rw[put_defers];exact eY)
    (cA hE dL.1.len)
   refine tO (fun d hd=>by rw[bq.size];exact Fo.lt d hd) (fun h=>ei t h) (fun h=> ?_);rw[cG.look Fo h];exact(bq.env t).ext bq.rel mC
 refine wpIn_region ?_;rw[du,IK];have gK:=aa.clear;rw[<-h0]at gK;exact key os.length 0 (by omega) G a w gK (fun m _=>.refl _ _ _ _) rfl (by rw[h0];exact aI _)
theorem W7{C:Ctx}{vars:List Nat}{n:Nat}{ops:Array Oper}{ac:bP}(h:C.Dk vars n ops=some ac):
  ∃os gG c f bj j2,ops.toList=os++[gG]/\gG.op=.defer c/\c.callee=.value f/\c.args= #[]/\gG.guard=none/\gG.dst=none/\c7 (C.oper vars n ops) os=some bj/\C.bF vars f=some j2/\ac=.sT bj C.ve j2:=by
 unfold Ctx.Dk at h;split at h
 ·cases h
 ·rename_i gG hl _
  split at h
  ·rename_i f args c6 c5 aT
   split at h
   ·rename_i bj j2 ha hm af
    split at h
    ·rename_i hd
     cases h;have bb:ops.toList≠[]:=by intro e;rw[e]at hl;cases hl
     have:ops.toList.dropLast++[gG]=ops.toList:=by
      have ai:=List.getLast?_eq_some_getLast bb;rw[hl]at ai;cases ai;exact List.dropLast_concat_getLast bb
     exact⟨_,gG,_,f,bj,j2,this.symm,c5,rfl,by simpa using ha,aT,by simpa using hd,hm,af,rfl⟩
    ·cases h
   ·cases h
  ·cases h
 ·cases h
theorem W8 (cr:C.P.follows .mixedOrders=true)(bu:eh C fid)(bh:gh C fid call)(id:Nat)(ops:Array Oper)(draw:Bool):mF C fid call n (.region id ops draw):=by
 intro ac vars N hc st x aV he G a w ro base Q aa dv dX hb c9;simp only[Ctx.code]at hc;split at hc
 ·rename_i r hd
  cases hc;split at hd
  ·cases hd
  ·rename_i Fp
   have Fp:draw=false:=by simpa using Fp
   subst Fp;obtain⟨os,gG,c,f,bj,j2,h1,h2,aq,bf,fe,fj,A0,tI,rfl⟩:=W7 hd;simp only[exec,au.eu]at he;split at he
   ·rename_i st1 wr hex
    split at he
    ·rename_i bx
     cases he;simp only[cH]at bx
     have vX:st.ro=none:=by
      have:=(po bh.bD _ _ _ _ _ (by exact aa.low) hex).2;simp only at this;simpa[this]using bx.1
     rw[vX]at dv
     have W9:ro=none:=by
      cases ro with
      |none=>rfl
      |some b=>exact dv.elim
     subst W9;exact W5 bu bh h1 h2 aq bf fe fj A0 tI hex bx.2 aa dX fun G' bg w' bq cc eY=>c9 G' bg w' ⟨bq.clear,cc,eY⟩
    ·cases he
   ·cases he
 split at hc
 ·rename_i bj hm
  cases hd:draw with
  |false=>
   rw[hd]at hc;simp only[Bool.not_false,if_true,ay]at hc;subst hc;simp only[exec,au.eu]at he;split at he
   ·rename_i st1 wr h1
    cases he;exact WD bu bh hm h1 aa fun G' bg w' bq cc eY=>c9 G' bg w' ⟨bq.clear,cc,by rw[eY];exact dX.ext (cc 0 (ct _))⟩
   ·cases he
  |true=>
   rw[hd]at hc;simp only[oa,ga,if_false]at hc;split at hc
   ·rename_i dy
    simp only[cH]at dy;obtain⟨⟨h1,h2⟩,aq⟩:=dy;cases hc;simp only[exec,au.eu]at he;split at he
    ·rename_i st1 wr bf
     split at he
     ·rename_i hin
      cases he;exact W0 cr bu bh hm h1 h2 aq bf hin aa fun G' bg w' bq cc eY=>c9 G' bg w' ⟨bq.clear,cc,by rw[eY];exact dX.ext (cc 0 (ct _))⟩
     ·cases he
    ·cases he
   ·cases hc
 ·cases hc
theorem Xa (dL:jM call){x y:Code}(hx:mF C fid call n x)(hy:mF C fid call n y):mF C fid call n (.seq x y):=by
 intro ac vars N hc st r aV he G a w ro base Q aa dv dX hb c9;simp only[Ctx.code]at hc;split at hc
 ·rename_i bY iU h1 h2
  cases hc;simp only[exec,au.eu]at he;refine wpIn_seq ?_;split at he
  ·rename_i st1 jJ
   have f1:=j9 dL n _ _ _ _ aa.low jJ;refine hx _ _ _ h1 _ _ _ jJ G a w ro base _ aa dv dX hb fun az av aG eQ=> ?_;have f2:=j9 dL n _ _ _ _ eQ.rel.low he;exact hy _ _ _ h2 _ _ _ he az av aG ro base _ eQ.rel (by rw[f1.2];exact dv.ext (eQ.ext 0 (ct _))) eQ.marks (cA hb (eQ.ext 0 (ct _)).size) fun a7 a2 bs nE=>c9 a7 a2 bs (eQ.trans nE f1 f2)
  ·rename_i bb
   refine hx _ _ _ h1 _ _ _ he G a w ro base _ aa dv dX hb fun az av aG eQ=> ?_;have:=c9 az av aG eQ;cases r with
   |normal=>exact absurd he (bb _)
   |exit id=>exact this
   |ret=>exact this
 ·cases hc
theorem Xb (bu:eh C fid){o:Operand}{x y:Code}(hx:mF C fid call n x)(hy:mF C fid call n y):mF C fid call n (.cond o x y):=by
 intro ac vars N hc st r aV he G a w ro base Q aa dv dX hb c9;simp only[Ctx.code]at hc;split at hc
 ·rename_i c bY iU h0 h1 h2
  cases hc;simp only[exec,au.eu]at he;have ad:=vU bu aa o c h0;split at he
  ·rename_i nx
   rw[nx]at ad;exact wpIn_cond_true ad.j6 (hx _ _ _ h1 _ _ _ he G a w ro base Q aa dv dX hb c9)
  ·rename_i nx
   rw[nx]at ad;exact wpIn_cond_false ad.j6 (hy _ _ _ h2 _ _ _ he G a w ro base Q aa dv dX hb c9)
  ·cases he
 ·cases hc
theorem Xc{id:Nat}{x:Code}(hx:mF C fid call n x):mF C fid call n (.block id x):=by
 intro ac vars N hc st r aV he G a w ro base Q aa dv dX hb c9;simp only[Ctx.code]at hc;obtain⟨bY,h1,rfl⟩:=bW.1 hc;simp only[exec,au.eu]at he;refine wpIn_block ?_;split at he
 ·rename_i o7 st1 jJ
  refine hx _ _ _ h1 _ _ _ jJ G a w ro base _ aa dv dX hb fun az av aG eQ=> ?_;split at he
  ·rename_i hid
   cases he;simp only[vT,Exit.inBlock,hid,if_true];exact c9 az av aG eQ
  ·rename_i hid
   cases he;simp only[vT,Exit.inBlock,hid,if_false];exact c9 az av aG eQ
 ·rename_i bb
  refine hx _ _ _ h1 _ _ _ he G a w ro base _ aa dv dX hb fun az av aG eQ=> ?_;have:=c9 az av aG eQ;cases r with
  |normal=>exact this
  |exit id=>exact absurd he (bb _ _)
  |ret=>exact this
theorem Xd (dL:jM call){x:Code}(hx:mF C fid call n x):mF C fid call n (.loop x):=by
 intro ac vars N hc st r aV he G a w ro base Q aa dv dX hb c9;simp only[Ctx.code]at hc;obtain⟨bY,h1,rfl⟩:=bW.1 hc;simp only[exec,au.eu]at he;refine Fm (fun k av aG=>∃st1 az,iter (exec call n bY) k st1=some (r,aV)/\fh st st1/\Fin C fid vars N base st G w st1 az av aG) ?_ ⟨st,G,he,.refl _,.refl aa dX⟩;rintro k av aG ⟨st1,az,hi,af,eQ⟩;cases k with
 |zero=>simp[iter]at hi
 |succ k=>
  refine⟨k,rfl,?_⟩;simp only[iter]at hi;have vX:rY az st1.ro ro:=by rw[af.2];exact dv.ext (eQ.ext 0 (ct _))
  have nx:base<=aG.heap.size:=cA hb (eQ.ext 0 (ct _)).size;split at hi
  ·rename_i st2 kk
   have f2:=j9 dL n _ _ _ _ eQ.rel.low kk;exact hx _ _ _ h1 _ _ _ kk az av aG ro base _ eQ.rel vX eQ.marks nx fun a7 a2 bs nE=>⟨st2,a7,hi,af.trans f2,eQ.trans nE af f2⟩
  ·rename_i bb
   have f2:=j9 dL n _ _ _ _ eQ.rel.low hi;refine hx _ _ _ h1 _ _ _ hi az av aG ro base _ eQ.rel vX eQ.marks nx fun a7 a2 bs nE=> ?_;have:=c9 a7 a2 bs (eQ.trans nE af f2);cases r with
   |normal=>exact absurd hi (bb _)
   |exit id=>exact this
   |ret=>exact this
end
end Go.Abs
namespace Go.Abs
open Go
variable{C:Ctx}{fid:Nat->Nat}{w w':World}{G G':bw}{H H':Heap}
theorem Xe{P:Program}(fn:FuncId)(tmps:Array Value)(ps:Array Tmp)(assign body:Code){b:Nat}{L:Loop}(h:w.heap[b]? =some (.loop L)):
  (Instr.enterLoop fn tmps ps assign body (some b)).run P w=.ok (w.heap.size,[]) (w.alloc (.loop {state:=.ready,pending:=none,fn,tmps,params:=ps,assign,body,defers:=L.defers})):=by
 unfold Instr.enterLoop;simp only[Sem.run_bind,run_getLoop h,run_newObj_alloc,Result.andThen,Sem.run_pure]
theorem Fq{vars:List Nat}{st:au}{t:Nat}(h:t∈vars):df vars st t=cJ st.ax t:=by
 unfold df;rw[if_pos (q9.2 h)]
theorem yl (aa:aQ C fid G H w){l:Nat}{h:Home}(hb:G.β l=some h){st:LoopState}{ri:X}{env:Env}{ps:List Nat}{aC bL:bP}(hl:H[l]? =some (.loop st ri env ps aC bL)):
  h.tag=0/\h.fz=false/\∃L vars,w.heap[h.b]? =some (.loop L)/\L.state=st/\DZ ri L.pending/\
    L.params.toList=ps/\(∀t∈ps,t∈vars/\t<L.tmps.size)/\
    C.code vars L.tmps.size L.assign=some aC/\C.code vars L.tmps.size L.body=some bL/\∀t∈vars,aZ fid G w (cJ env t) (L.tmps.getD t undef):=by
 obtain⟨o,ho,hr⟩:=aa.obj l h hb;rw[hl]at ho;cases ho;exact hr
theorem Xf{β:Nat->Option Home}{l:Nat}{h:Home}(hb:β l=some h):b0 β l h=β:=by
 funext x;unfold b0;split
 ·rename_i e;rw[e,hb]
 ·rfl
theorem turn (aa:aQ C fid G H w){l:Nat}{h:Home}(hb:G.β l=some h)(af:h.fz=false)(aJ:Obj)(o:bd)
  (ho:(∀b,b≠h.b->(w.putObj h.b aJ).heap[b]? =w.heap[b]?)->(w.putObj h.b aJ).heap[h.b]? =some aJ->(∀b,G.I b->(w.putObj h.b aJ).heap[b]? =w.heap[b]?)->gT C fid G (w.putObj h.b aJ) h o):
  aQ C fid G (H.set l o) (w.putObj h.b aJ)/\Ext G w G (w.putObj h.b aJ) l H.length:=by
 have hk:∀b,b≠h.b->(w.putObj h.b aJ).heap[b]? =w.heap[b]? :=fun b eN=>World.putObj_heap_other eN
 have ch:∀b,G.I b->(w.putObj h.b aJ).heap[b]? =w.heap[b]? :=fun b hi=>hk b fun e=>by
  have:=(aa.cu b hi).2 l h hb e.symm;rw[af]at this;cases this
 have h1:=ho hk (World.putObj_heap_same (aa.cL l h hb)) ch;have vY:(⟨b0 G.β l h,G.I⟩:bw)=G:=by rw[Xf hb]
 have a:=aQ.write (w':=w.putObj h.b aJ) aa hb af rfl af (aI _) id rfl (by simp) hk o (by rw[vY];exact h1);have b:=Ext.write (w':=w.putObj h.b aJ) aa hb af rfl (aI _) id rfl (by simp) hk rfl rfl;rw[vY]at a b;exact⟨a,b⟩
section
variable{call:cj}{n:Nat}
theorem Xg (bu:eh C fid)(bh:gh C fid call){f:Operand}{ps:Array Tmp}{aC bL:Code}:mF C fid call n (.rangeFunc f ps aC bL):=by
 intro ac vars N hc st r aV he G a w ro base Q aa dv dX hb c9;simp only[Ctx.code]at hc;split at hc
 ·rename_i j2 Li Lj h0 h1 h2
  split at hc
  ·rename_i oe
   cases hc
   have Lk:∀t∈ps.toList,t∈vars/\t<N:=fun t ht=>by
    have:=(Array.all_eq_true_iff_forall_mem.1 oe) t (Array.mem_toList_iff.1 ht);simp only[cH,decide_eq_true_eq,q9]at this;exact⟨this.2,this.1⟩
   simp only[exec]at he;split at he
   ·cases he
   ·rename_i bx
    simp only[IX,cH]at bx;obtain⟨A1,Xh⟩:=bx;split at he
    ·rename_i u H1 bm ew
     split at he
     ·rename_i ls ri I1 I2 ob I3 vZ
      split at he
      ·cases he
      ·rename_i Xi
       cases he;have tL:=vU bu aa f j2 h0;refine wpIn_rangeFunc fun fn _=> ?_
       obtain⟨eR,mark,R,Fs,A2,Ft,Xj,fg,qo,A3,Xk,Xl,Xm⟩:∃(eR:World) (mark:List Deferred) (R:Loop),
         (Instr.enterLoop fn a.tmps ps aC bL (dO ro).round).run C.P w=.ok (eR.heap.size,mark) (eR.alloc (.loop R))/\aQ C fid G st.H eR/\(∀m n,Ext G w G eR m n)/\jw C G eR base (mark++a.defers)/\
         R.state=.ready/\R.pending=none/\R.tmps=a.tmps/\R.params=ps/\R.assign=aC/\R.body=bL:=by
        cases Xn:ro with
        |none=>
         have hk:∀b,b<w.heap.size->(w.alloc (.deferred (some []))).heap[b]? =w.heap[b]? :=fun b eN=>alloc_old eN;have du:w.heap.size<=(w.alloc (.deferred (some []))).heap.size:=by simp
         refine⟨w.alloc (.deferred (some [])),[AZ w.heap.size],{state:=.ready,pending:=none,fn,tmps:=a.tmps,params:=ps,assign:=aC,body:=bL,defers:=w.heap.size},?_,aa.rel.restore du hk,fun m n=>.restore du hk rfl rfl m n,?_,rfl,rfl,rfl,rfl,rfl,rfl⟩
         ·have:=run_enterLoop_outer (P:=C.P) (w:=w) fn a.tmps ps aC bL
          rw[show(dO none).round=none from rfl,this];simp[AZ]
         ·obtain⟨rs,e,cI,k,dh⟩:=dX
          refine⟨.inl w.heap.size::rs,by rw[e];rfl,n4.2 ⟨fun hin=> ?_,cI⟩,fun r hr=> ?_,fun d hd=> ?_⟩
          ·obtain⟨q,a8,e'⟩:=IV.1 hin
           cases q with
           |inl r=>cases e';have:=(k _ a8).lt;omega
           |inr d=>cases e'
          ·rcases cY.1 hr with hr|hr
           ·cases hr
            exact⟨hb,by simp,j4 _ _,fun l h e q=>by have:=aa.rel.cL l h e;omega,fun hi=>by have:=(aa.rel.cu _ hi).1;omega⟩
           ·exact(k r hr).ext (.restore (G:=G) du hk rfl rfl 0 0)
          ·rcases cY.1 hd with hd|hd
           ·cases hd
           ·exact dh d hd
        |some b=>
         subst Xn;cases Ll:st.ro with
         |none=>rw[Ll]at dv;exact dv.elim
         |some Lm=>
          rw[Ll]at dv A1;obtain⟨h,e,t,q⟩:=dv;simp only[I0]at A1;split at A1
          ·rename_i pg
           obtain⟨-,-,L,vs,eI,-⟩:=yl aa.rel e pg;rw[q]at eI;exact⟨w,[],{state:=.ready,pending:=none,fn,tmps:=a.tmps,params:=ps,assign:=aC,body:=bL,defers:=L.defers},Xe fn a.tmps ps aC bL eI,aa.rel,fun m n=>.refl _ _ _ _,dX,rfl,rfl,rfl,rfl,rfl,rfl⟩
          ·cases A1
       let hm:Home:=⟨eR.heap.size,0,0,false⟩;let az:bw:=⟨b0 G.β st.H.length hm,G.I⟩;have Ln:jE G.β az.β:=vo (A2.none (aI _)) _;have Lo:∀b,G.I b->az.I b/\(eR.alloc (.loop R)).heap[b]? =eR.heap[b]? :=fun b hi=>⟨hi,alloc_old (A2.cu b hi).1⟩;have tF:∀t,aZ fid G eR (df vars st t) (a.tmps.getD t undef):=fun t=>(aa.env t).ext aa.rel (Ft 0 0)
       have ym:aQ C fid az (st.H++[.loop .ready .normal st.ax ps.toList Li Lj]) (eR.alloc (.loop R)):=by
        refine A2.push _ _ 0 0 ⟨rfl,rfl,R,vars,j4 _ _,fg,by rw[qo];trivial,by rw[Xk],fun t ht=>⟨(Lk t ht).1,by rw[A3,aa.size];exact(Lk t ht).2⟩,?_,?_,fun t ht=> ?_⟩
        ·rw[A3,Xl,aa.size];exact h1
        ·rw[A3,Xm,aa.size];exact h2
        ·rw[A3,<-Fq ht];exact(tF t).mono Ln Lo
       have Lp:∀m,Ext G eR az (eR.alloc (.loop R)) m st.H.length:=fun m=>.push A2 _ 0 0 m;have EY:aZ fid az (eR.alloc (.loop R)) (j2.ag st.aH st.ax) (a.eval f):=((tL.ext aa.rel (Ft 0 0)).mono Ln Lo)
       have Xo:aW fid az (eR.alloc (.loop R)) [.yield st.H.length] [.func (.yield eR.heap.size) #[] #[]]:=
        .cons _ _ _ _ (.yield st.H.length hm (cM _ _ _) rfl) .nil
       obtain⟨d,hd,hn,Xp⟩:=bh.run ym EY Xo ew;obtain⟨g,gs,hinv⟩:=Xp Xh rfl;rw[hinv]at hn;refine⟨eR.heap.size,mark,_,d,eR.alloc (.loop R),g,gs,_,Fs,?_,fun _ _=>trivial,hinv,fun h=>by simp[dO]at h,?_⟩
       ·have e:Array.map a.eval #[Operand.const (Value.func (Fn.yield eR.heap.size) #[] #[])]=⟨[Value.func (Fn.yield eR.heap.size) #[] #[]]⟩:=by simp[Act.eval]
        simp only[resolve,rangeCall,e];exact hd
       ·have mz:Calls C.P g gs (eR.alloc (.loop R)) (rangePost (dO ro) 0 C.P eR.heap.size Q {a with defers:=mark++a.defers}):=by
         refine sP hn fun e fT hp=> ?_;obtain⟨y,rfl,a7,q1,q2,dk⟩:=hp;have yn:=q2 0 (ct _);obtain⟨h2,ai,-,z2,m2,-⟩:=yn.homes st.H.length hm (cM _ _ _);have t2:=z2 rfl;have fB:h2.b=eR.heap.size:=(m2 t2).1;obtain⟨-,Lq,L,vs,eI,Lr,qw,-⟩:=yl q1 ai vZ;rw[fB]at eI;have hT:=turn q1 ai Lq (.loop {L with state:=.exhausted}) .gone fun _ _ _=>⟨t2,Lq⟩;rw[fB]at hT;have rZ:=bh.bD _ _ _ _ _ _ ew;have hlen:st.H.length<=H1.length:=by have:=rZ.len;simp at this;omega
         have v7:∀m,m<=min st.low bm->Ext G w a7 (fT.putObj eR.heap.size (.loop {L with state:=.exhausted})) m st.H.length:=fun m gI=>
          ((Ft m st.H.length).trans (Lp m)).trans (((q2 m (by omega)).le (aI _) (by simp)).trans (hT.2.le (by have:=aa.low;omega) hlen))
         have cP:=v7 0 (ct _)
         have Xq:dj C fid vars N a7 {st with H:=H1.set st.H.length .gone,low:=min st.low bm} {a with defers:=mark++a.defers} (fT.putObj eR.heap.size (.loop {L with state:=.exhausted})):=
          ⟨hT.1,fun t=>(aa.env t).ext aa.rel cP,aa.size,by simp only[List.length_set];have:=aa.low;omega⟩
         have Xr:jw C a7 (fT.putObj eR.heap.size (.loop {L with state:=.exhausted})) base (mark++a.defers):=((Xj.ext (Lp 0)).ext yn).ext (hT.2.le (ct _) (aI _));have a8:=c9 a7 _ _ ⟨Xq,v7,Xr⟩;refine⟨L.pending,_,run_endLoop eI (by rw[Lr];exact Xi),?_⟩;cases hp:L.pending with
         |none=>
          rw[hp]at qw a8;cases r with
          |normal=>exact a8
          |exit i=>exact qw.elim
          |ret=>exact qw.elim
         |some c=>
          rw[hp]at qw a8;cases r with
          |normal=>exact qw.elim
          |exit i=>
           cases c<;>first|exact qw.elim|skip
           rename_i j;have:j=i:=qw;subst this;exact wpIn_exit a8
          |ret=>
           cases c<;>first|exact qw.elim|skip
           exact wpIn_ret a8
        exact callsIn_wide.2 mz
     ·cases he
    ·cases he
  ·cases hc
 ·cases hc
theorem oC (cr:C.P.follows .mixedOrders=true)(bu:eh C fid)(bh:gh C fid call):∀(c:Code),mF C fid call n c
 | .skip=>by
   intro ac vars N hc st r aV he G a w ro base Q aa dv dX hb c9;simp only[Ctx.code,ay]at hc;subst hc;simp only[exec,ay,a6]at he;obtain⟨rfl,rfl⟩:=he;exact wpIn_skip (c9 G a w (.refl aa dX))
 | .region id ops draw=>W8 cr bu bh id ops draw
 | .seq x y=>Xa bh.bD (oC cr bu bh x) (oC cr bu bh y)
 | .cond o x y=>Xb bu (oC cr bu bh x) (oC cr bu bh y)
 | .block id x=>Xc (oC cr bu bh x)
 | .loop x=>Xd bh.bD (oC cr bu bh x)
 | .rangeFunc f ps x y=>Xg bu bh
 | .exit id=>by
   intro ac vars N hc st r aV he G a w ro base Q aa dv dX hb c9;simp only[Ctx.code,ay]at hc;subst hc;simp only[exec,ay,a6]at he;obtain⟨rfl,rfl⟩:=he;exact wpIn_exit (c9 G a w (.refl aa dX))
 | .ret=>by
   intro ac vars N hc st r aV he G a w ro base Q aa dv dX hb c9;simp only[Ctx.code,ay]at hc;subst hc;simp only[exec,ay,a6]at he;obtain⟨rfl,rfl⟩:=he;exact wpIn_ret (c9 G a w (.refl aa dX))
 | .scope _| .label _| .goto _| .refuse _=>by
   intro ac vars N hc st r aV he;simp only[Ctx.code,ay]at hc;subst hc;simp[exec]at he
end
end Go.Abs
namespace Go.Abs
open Go
variable{C:Ctx}{fid:Nat->Nat}{w w':World}{G G':bw}{H H':Heap}{call:cj}{n:Nat}
def lv (C:Ctx)(fid:Nat->Nat)(i:Nat)(spec:List V->Option V):Prop:=
 ∀{G:bw} {H:Heap} {w:World} {args:List V} {v:V} {xs:List Value},aQ C fid G H w->cD w G.I args xs->spec args=some v->ow C.P (iY C fid G H w v H H.length) ((callFunc i ⟨xs⟩).run C.P w)
def v8 (C:Ctx)(fid:Nat->Nat)(i:Nat)(spec:o8):Prop:=
 ∀{G:bw} {H:Heap} {w:World} {args:List V} {v:V} {H':Heap} {low:Nat} {xs:List Value},aQ C fid G H w->aW fid G w args xs->o9 spec args H=some (v,H',low)->
  ow C.P (iY C fid G H w v H' low) ((callFunc i ⟨xs⟩).run C.P w)/\∃g aC,(callFunc i ⟨xs⟩).run C.P w=.ok (.enter g aC) w
structure da (C:Ctx) (fid:Nat->Nat) (ab:Nat->Option bQ):Prop where
 code:∀i f,ab i=some (.code f)->∃fn,C.P.funcs[i]? =some fn/\C.func fn f.fresh=some f
 ext:∀i spec,ab i=some (.ext spec)->lv C fid i spec
 lW:∀i spec,ab i=some (.lW spec)->v8 C fid i spec
theorem Ls{vars:List Nat}:∀(ps:List Nat) (vs:List V) (xs:List Value) (env:Env) (tmps:Array Value),aW fid G w vs xs->(∀t∈ps,t<tmps.size)->
  (∀t,t∈vars->aZ fid G w (cJ env t) (tmps.getD t undef))->
  ((ps.zip xs).foldl (fun(tm:Array Value) (p:Nat × Value)=>tm.setIfInBounds p.1 p.2) tmps).size=tmps.size/\
    ∀t,t∈vars->aZ fid G w (cJ ((ps.zip vs).foldl (fun e (p:Nat × V)=>dq e p.1 p.2) env) t) (((ps.zip xs).foldl (fun(tm:Array Value) (p:Nat × Value)=>tm.setIfInBounds p.1 p.2) tmps).getD t undef)
 |[],vs,xs,env,tmps,_,_,h=>⟨rfl,by simpa using h⟩
 |p::ps,_,_,env,tmps,.nil,_,h=>⟨rfl,by simpa using h⟩
 |p::ps,_,_,env,tmps,.cons v x vs xs ad hs,aY,h=>by
  have h1:=Ls ps vs xs (dq env p v) (tmps.setIfInBounds p x) hs (fun t ht=>by rw[Array.size_setIfInBounds];exact aY t (by simp[ht])) fun t ht=>by
   rw[KN];have:=EZ {tmps:=tmps,defers:=[]} p x t (aY p (by simp));simp only[Act.put]at this;rw[this];by_cases e:t=p
   ·rw[if_pos e,if_pos e];exact ad
   ·rw[if_neg e,if_neg e];exact h t ht
  simp only[zS,xl];rw[Array.size_setIfInBounds]at h1;exact h1
theorem jw.nil (G:bw)(w:World)(base:Nat):jw C G w base []:=⟨[],rfl,zZ,(fun r hr=>by cases hr),fun r hr=>by cases hr⟩
theorem Xt (cr:C.P.follows .mixedOrders=true)(bu:eh C fid)(bh:gh C fid call){l:Nat}{args:List V}{v:V}{low':Nat}{xs:List Value}{h:Home}
  (he:rn (exec call n) l args H=some (v,H',low')) (aa:aQ C fid G H w) (hb:G.β l=some h) (ad:aW fid G w args xs):
  ow C.P (iY C fid G H w v H' low') ((Instr.yield h.b ⟨xs⟩).run C.P w):=by
 unfold rn at he;split at he
 ·rename_i p0 env params Li Lj pg
  obtain⟨ht,hfz,L,vars,eI,Lr,qw,Lt,Xu,Xv,Xw,Xx⟩:=yl aa hb pg;split at he
  ·rename_i hlen
   have Lg:=run_yield (P:=C.P) (args:=⟨xs⟩) eI (by rw[<-e9,<-e9,Lt,aW.length ad,hlen]);rw[Lg]
   have Xy:(r:Array Value)->((L.params.zip (⟨xs⟩:Array Value)).foldl (fun tmps (t,a)=>tmps.setIfInBounds t a) r)=(params.zip xs).foldl (fun(tm:Array Value) (p:Nat × Value)=>tm.setIfInBounds p.1 p.2) r:=fun r=>by
    rw[<-IQ,Array.toList_zip,Lt]
   rw[Xy];obtain⟨du,Xz⟩:=Ls (vars:=vars) params args xs env L.tmps ad (fun t ht=>(Xu t ht).2) Xx;split at he
   ·rename_i st1 jJ
    have f1:=j9 bh.bD n _ _ _ _ (aI _) jJ;split at he
    ·rename_i p1 Lu Fu Lv Lw vZ
     split at he
     ·rename_i x nF l8
      split at he
      ·rename_i aie ei Fv Fw Fx Fy XA
       cases he;refine roundIn_of_wpIn trivial ?_
       have gK:dj C fid vars L.tmps.size G {aH:=[],ax:=(params.zip args).foldl (fun e (t,v)=>dq e t v) env,H,low:=H.length,ro:=some l}
         {tmps:=(params.zip xs).foldl (fun(tm:Array Value) (p:Nat × Value)=>tm.setIfInBounds p.1 p.2) L.tmps,defers:=[]} w:=
        ⟨aa,fun t=>by
         unfold df;split
         ·rename_i hin;exact Xz t (q9.1 hin)
         ·exact .undef _,du,aI _⟩
       refine oC (n:=n) cr bu bh L.assign _ vars _ Xv _ _ _ jJ G _ w (some h.b) 0 _ gK ⟨h,hb,ht,rfl⟩ (.nil _ _ _) (ct _) ?_;intro az av aG eQ;have AG:=eQ.ext 0 (ct _);obtain⟨h1,ae,-,dI,m1,-⟩:=AG.homes l h hb;have nx:h1.b=h.b:=(m1 ((dI ht).trans ht.symm)).1;obtain⟨t1,Lx,Ly,XB,q1,q2,dk,fC,mG,qx,yo,Fz⟩:=yl eQ.rel.rel ae vZ
       have yp:=turn eQ.rel.rel ae Lx (.loop {Ly with state:=.busy}) (.loop .busy p1 Lu Fu Lv Lw) fun bM dC iv=>
        ⟨t1,Lx,_,XB,dC,rfl,dk,fC,mG,qx,yo,fun t ht=>(Fz t ht).mono (.refl _) fun b hb=>⟨hb,iv b hb⟩⟩
       have Lz:=run_beginRound (P:=C.P) q1 q2;rw[nx]at yp Lz;refine⟨_,Lz,?_⟩;have rZ:min st1.low l<=st1.H.length:=by have:=eQ.rel.low;omega
       have fg:dj C fid vars L.tmps.size az {st1 with H:=st1.H.set l (.loop .busy p1 Lu Fu Lv Lw),low:=min st1.low l} av (aG.putObj h.b (.loop {Ly with state:=.busy})):=
        ⟨yp.1,fun t=>(eQ.rel.env t).ext eQ.rel.rel yp.2,eQ.rel.size,by simpa using rZ⟩
       have vX:st1.ro=some l:=f1.2;refine oC (n:=n) cr bu bh L.body _ vars _ Xw _ _ _ l8 az av _ (some h.b) 0 _ fg (by simp only[vX];exact⟨h1,ae,t1,nx⟩) (eQ.marks.ext yp.2) (ct _) ?_;intro hF a3 fT wc;have f3:=j9 bh.bD n _ _ _ _ (by simpa using rZ) l8;have XC:=wc.ext 0 (ct _);obtain⟨aq,bz,-,z3,m3,-⟩:=XC.homes l h1 ae;have we:aq.b=h.b:=(m3 ((z3 t1).trans t1.symm)).1.trans nx;obtain⟨t3,yq,wg,XD,bq,cc,eY,hE,ma,tU,yr,wh⟩:=yl wc.rel.rel bz XA;have FA:H.length<=st1.H.length:=f1.1.len;have XE:st1.H.length<=nF.H.length:=by have:=f3.1.len;simpa using this
       have aif:nF.low<=st1.low/\nF.low<=l:=by have:=f3.1.low;simp only at this;omega
       have v7:∀(jump:Option Code) (ls:LoopState),aQ C fid hF (nF.H.set l (.loop ls x Fv Fw Fx Fy)) (fT.putObj h.b (.loop {wg with state:=ls,pending:=jump}))/\
         Ext hF fT hF (fT.putObj h.b (.loop {wg with state:=ls,pending:=jump})) l nF.H.length->
         ∀m,m<=min nF.low l->Ext G w hF (fT.putObj h.b (.loop {wg with state:=ls,pending:=jump})) m H.length:=fun jump ls hT m hm=>
        ((eQ.ext m (by omega)).trans ((yp.2.le (m':=m) (by omega) FA))).trans (((wc.ext m (by omega)).le (aI _) (by simpa using FA)).trans (hT.2.le (by omega) (cA FA XE)))
       have hT:∀(jump:Option Code) (ls:LoopState),DZ x jump->aQ C fid hF (nF.H.set l (.loop ls x Fv Fw Fx Fy)) (fT.putObj h.b (.loop {wg with state:=ls,pending:=jump}))/\
         Ext hF fT hF (fT.putObj h.b (.loop {wg with state:=ls,pending:=jump})) l nF.H.length:=fun jump ls hp=>by
        have:=turn wc.rel.rel bz yq (.loop {wg with state:=ls,pending:=jump}) (.loop ls x Fv Fw Fx Fy) fun bM dC iv=>
         ⟨t3,yq,_,XD,dC,rfl,hp,hE,ma,tU,yr,fun t ht=>(wh t ht).mono (.refl _) fun b hb=>⟨hb,iv b hb⟩⟩
        rw[we]at this;exact this
       rw[we]at bq;cases x with
       |normal=>
        have T:=hT none .ready trivial;exact⟨_,_,run_endRound none bq,_,rfl,hF,T.1,v7 none .ready T,.p _ _ (.bool true)⟩
       |exit id=>
        have T:=hT (some (.exit id)) .done rfl;exact⟨_,_,run_endRound (some (.exit id)) bq,_,rfl,hF,T.1,v7 _ .done T,.p _ _ (.bool false)⟩
       |ret=>
        have T:=hT (some .ret) .done trivial;exact⟨_,_,run_endRound (some .ret) bq,_,rfl,hF,T.1,v7 _ .done T,.p _ _ (.bool false)⟩
      ·cases he
     ·cases he
    ·cases he
   ·cases he
  ·cases he
 ·cases he
end Go.Abs
namespace Go.Abs
open Go
variable{C:Ctx}{fid:Nat->Nat}{w w':World}{G G':bw}{H H':Heap}{call:cj}{n:Nat}
theorem gT.tags{h h':Home}{o:bd}(a:gT C fid G w h o)(b:gT C fid G' w' h' o):h.tag=h'.tag/\h.fz=h'.fz:=by
 cases o with
 |cells vs=>exact⟨a.1.1.trans b.1.1.symm,a.2.1.trans b.2.1.symm⟩
 |row es ds fz=>exact⟨a.1.trans b.1.symm,a.2.2.1.trans b.2.2.1.symm⟩
 |map bA=>exact⟨a.1.trans b.1.symm,a.2.1.trans b.2.1.symm⟩
 |loop=>exact⟨a.1.trans b.1.symm,a.2.1.trans b.2.1.symm⟩
 |o5 s=>exact⟨a.2.1.trans b.2.1.symm,a.1.trans b.1.symm⟩
 |dead n=>exact⟨a.2.trans b.2.symm,a.1.trans b.1.symm⟩
 |gone=>exact⟨a.1.trans b.1.symm,a.2.trans b.2.symm⟩
theorem LA (aa:aQ C fid G H w)(hC:aQ C fid G' H' w')(hle:jE G.β G'.β)(hs:∀l,l<H.length->H'[l]? =H[l]?){l:Nat}{h:Home}(e:G.β l=some h):G'.β l=some h:=by
 obtain⟨h',e',-,-,m,-⟩:=hle l h e;obtain⟨o,ho,r⟩:=aa.obj l h e;obtain⟨cC,gU,lS⟩:=hC.obj l h' e';rw[hs l (aa.lt e),ho]at gU;cases gU;obtain⟨t,f⟩:=r.tags lS;obtain⟨aih,aii⟩:=m t.symm;rw[e'];congr 1;cases h;cases h';simp_all
theorem forget (aa:aQ C fid G H w)(hC:aQ C fid G' H' w'){m n:Nat}(cP:Ext G w G' w' m n)(hm:H.length<=m)(hn:H.length<=n)(hs:∀l,l<H.length->H'[l]? =H[l]?):
  aQ C fid ⟨G.β,G'.I⟩ H w'/\(∀m n,Ext G w ⟨G.β,G'.I⟩ w' m n)/\∀{v:V} {x:Value},aZ fid G' w' v x->old H.length v=true->aZ fid ⟨G.β,G'.I⟩ w' v x:=by
 have hk:=cP.KL aa hm;have nB:=fun l h e=>LA (l:=l) (h:=h) aa hC cP.homes hs e
 refine⟨⟨fun l h e=> ?_,aa.inj,fun l h e=>mX (aa.cL l h e) cP.size,fun b hb=>⟨(hC.cu b hb).1,fun l h e q=>(hC.cu b hb).2 l h (nB l h e) q⟩,fun l h e q=>cP.cu _ (aa.iq l h e q),
   fun b o aT=>⟨cP.cu _ (aa.ej b o aT).1,by rw[hk b (aa.cu b (aa.ej b o aT).1).1];exact(aa.ej b o aT).2⟩⟩,fun m n=>⟨cP.size,cP.os,cP.output,fun b hb _=>hk b hb,.refl _,fun l h e=>.inl ⟨h,e,.inl rfl⟩,cP.cu,cP.lb⟩,
  fun ad ho=>ad.restrict (G:=G') (G':=⟨G.β,G'.I⟩) (n:=H.length) (fun l h hl e=> ?_) (fun b hb=>⟨hb,rfl⟩) (.inl ho)⟩
 ·obtain⟨o,ho,r⟩:=aa.obj l h e
  exact⟨o,ho,gT.mono (G:=G) (G':=⟨G.β,G'.I⟩) (.refl _) (fun b hb=>⟨cP.cu b hb,hk b (aa.cu b hb).1⟩) (hk _ (aa.cL l h e)) r⟩
 ·rcases cP.kJ l h e with⟨h0,fa,-⟩|⟨nk,-⟩
  ·have:=nB l h0 fa
   rw[e]at this;cases this;exact⟨h,fa,rfl⟩
  ·omega
theorem LB (n:Nat):∀(a b:List V),olds n (a++b)=(olds n a&&olds n b)
 |[],b=>by simp[olds]
 |v::a,b=>by simp[olds,LB n a b,zY]
theorem XF (n:Nat)(v:V)(h:old n v=true):olds n (aL v)=true:=by
 cases v<;>simp_all [aL,olds,old]
theorem LC (n:Nat):∀{ds:List V},olds n ds=true->olds n (ds.flatMap aL)=true
 |[],_=>rfl
 |d::ds,h=>by
  simp only[olds,cH]at h;rw[j0,LB,XF n d h.1,LC n h.2];rfl
theorem LD{fresh:Bool}{H1:Heap}{v v':V}{low low':Nat}{x:Value}(aa:aQ C fid G H w)(hC:aQ C fid G' H1 w')(cP:∀m,m<=low->Ext G w G' w' m H.length)(af:Fr H H.length H1 low)
  (ad:aZ fid G' w' v x) (he:finish fresh H v H1 low=some (v',H',low')):iY C fid G H w v' H' low' x w':=by
 unfold finish at he;split at he
 ·rename_i l es off len tag
  split at he
  ·rename_i bG ds hl
   split at he
   ·rename_i hc
    obtain⟨c1,c2,ix,l2,tV⟩:=hc;subst ix l2;cases he;have hs:=fun l nk=>af.same l (mX nk c1);have r0:=cP H.length c1;obtain⟨p1,cN,-⟩:=forget aa hC r0 (aI _) (aI _) hs;obtain⟨h,a,m,cap,hb,hle,ha,rfl⟩:=ad.kL;obtain⟨o,ho,hr⟩:=hC.obj l h hb;rw[hl]at ho;cases ho
    have XG:w.heap.size<=h.b:=by
     rcases r0.kJ l h hb with⟨h0,fa,-⟩|⟨-,q⟩
     ·have:=aa.lt fa;omega
     ·exact q
    have oB:=aa.none (aI H.length);let a7:bw:=⟨b0 G.β H.length h,G'.I⟩;have LF:jE G.β a7.β:=vo oB h;have nB:=fun l h e=>LA (l:=l) (h:=h) aa hC r0.homes hs e
    have XH:∀{vs:List V} {xs:List Value},aW fid G' w' vs xs->olds H.length vs=true->aW fid a7 w' vs xs:=fun cO hold=>
     cO.restrict (G:=G') (G':=a7) (n:=H.length) (fun y h0 hy e=>by
      rcases r0.kJ y h0 e with⟨h1,ae,-⟩|⟨nk,-⟩
      ·have:=nB y h1 ae
       rw[e]at this;cases this;exact⟨h0,by show b0 _ _ _ _=_;rw[cZ (by omega)];exact ae,rfl⟩
      ·omega) (fun b hb=>⟨hb,rfl⟩) (.inl hold)
    have hO:gT C fid a7 w' h (.row bG ds false):=by
     obtain⟨bq,cc,eY,hE,ma,c,e,vals,rest,tU,yr,wh,FB⟩:=hr;exact⟨bq,cc,eY,hE,ma,c,e,vals,rest,tU,yr,wh,XH FB (LC _ tV)⟩
    refine⟨a7,⟨fun y h0 e=> ?_,fun y z h0 h1 ae ai q=> ?_,fun y h0 e=> ?_,fun b hb=>⟨(hC.cu b hb).1,fun y h0 e q=> ?_⟩,fun y h0 e q=> ?_,p1.ej⟩,fun m hm=> ?_,?_⟩
    ·by_cases hy:y=H.length
     ·subst hy;rw[show a7.β=b0 _ _ _ from rfl,cM]at e;cases e
      exact⟨_,by simp,hO⟩
     ·rw[show a7.β=b0 _ _ _ from rfl,cZ hy]at e
      obtain⟨o,ho,r⟩:=p1.obj y h0 e;exact⟨o,by rw[ft (aa.lt e)];exact ho,gT.mono (G:=⟨G.β,G'.I⟩) (G':=a7) LF (fun b hb=>⟨hb,rfl⟩) rfl r⟩
    ·by_cases hy:y=H.length<;>by_cases aP:z=H.length
     ·rw[hy,aP]
     ·subst hy;rw[show a7.β=b0 _ _ _ from rfl,cM]at ae;cases ae
      rw[show a7.β=b0 _ _ _ from rfl,cZ aP]at ai;have:=aa.cL z h1 ai;omega
     ·subst aP;rw[show a7.β=b0 _ _ _ from rfl,cM]at ai;cases ai
      rw[show a7.β=b0 _ _ _ from rfl,cZ hy]at ae;have:=aa.cL y h0 ae;omega
     ·rw[show a7.β=b0 _ _ _ from rfl,cZ hy]at ae
      rw[show a7.β=b0 _ _ _ from rfl,cZ aP]at ai;exact aa.inj y z h0 h1 ae ai q
    ·by_cases hy:y=H.length
     ·subst hy;rw[show a7.β=b0 _ _ _ from rfl,cM]at e;cases e;exact hC.cL l h hb
     ·rw[show a7.β=b0 _ _ _ from rfl,cZ hy]at e;exact p1.cL y h0 e
    ·by_cases hy:y=H.length
     ·subst hy;rw[show a7.β=b0 _ _ _ from rfl,cM]at e;cases e
      exact(hC.cu b hb).2 l h (by assumption) q
     ·rw[show a7.β=b0 _ _ _ from rfl,cZ hy]at e;exact p1.cu b hb |>.2 y h0 e q
    ·by_cases hy:y=H.length
     ·subst hy;rw[show a7.β=b0 _ _ _ from rfl,cM]at e;cases e
      exact hC.iq l h hb q
     ·rw[show a7.β=b0 _ _ _ from rfl,cZ hy]at e;exact p1.iq y h0 e q
    ·have q:=cN m H.length
     exact⟨q.size,q.os,q.output,q.eg,LF,fun y h0 e=>by
      by_cases hy:y=H.length
      ·subst hy;rw[show a7.β=b0 _ _ _ from rfl,cM]at e;cases e;exact .inr ⟨aI _,XG⟩
      ·rw[show a7.β=b0 _ _ _ from rfl,cZ hy]at e;exact .inl ⟨h0,e,.inl rfl⟩,q.cu,q.lb⟩
    ·exact .aN H.length bG off len _ h a m cap (cM _ _ _) hle ha
   ·split at he
    ·cases he
     exact⟨G',hC,cP,ad⟩
    ·cases he
  ·cases he
 ·split at he
  ·rename_i v1 cT eH aP
   obtain⟨a7,fz,LG⟩:=Av hC ad aP;have dL:=af.trans (vO aP).1;have yn:∀m,m<=eH->Ext G w a7 w' m H.length:=fun m hm=>(cP m (cA hm fz.low)).trans ((fz.ext m hm).le (aI _) af.len);split at he
   ·rename_i hc
    cases he;obtain⟨p1,cN,ei⟩:=forget aa fz.rel (yn H.length hc.1) (aI _) (aI _) (fun l hl=>dL.same l (mX hl hc.1));exact⟨_,p1,fun m _=>cN m _,ei LG hc.2⟩
   ·cases he
    exact⟨a7,fz.rel,yn,LG⟩
  ·cases he
theorem XI{sh:Option Nat}{a u:V}{x:Value}(ha:aZ fid G w a x)(he:na H sh a=some u):∃dd,x=.pointer (some dd):=by
 unfold na at he;split at he
 ·obtain⟨h,-,-,rfl⟩:=ha.mu;exact⟨_,rfl⟩
 ·obtain⟨h,dd,-,-,-,rfl⟩:=ha.xJ;exact⟨_,rfl⟩
 ·cases ha with
  |dp _ f b o vals _ _ _=>exact⟨_,rfl⟩
  |p _ _ h=>cases h
 ·cases he
def A4 (tmps:Array Value):ResultVar->Sem Value
 | .tmp t=>pure (tmps.getD t undef)
 | .cell a t=>do loadVar t (<-asAddr (tmps.getD a undef))
theorem XJ{r:ResultVar}{FC:ki}(hr:C.res r=some FC){ax:Env}{tmps:Array Value}(aa:aQ C fid G H w)(ad:∀t∈Ctx.ng [r],aZ fid G w (cJ ax t) (tmps.getD t undef)){v:V}(he:nd ax H FC=some v):
  ∃x,(A4 tmps r).run C.P w=.ok x w/\aZ fid G w v x:=by
 cases r with
 |tmp t=>
  simp only[Ctx.res,ay]at hr;subst hr;simp only[nd,ay]at he;subst he;exact⟨_,rfl,ad t (by simp[Ctx.ng])⟩
 |cell a t=>
  simp only[Ctx.res]at hr;obtain⟨sh,XK,rfl⟩:=bW.1 hr;simp only[nd]at he;have ha:=ad a (by simp[Ctx.ng]);obtain⟨y,hy,hu⟩:=J0 aa XK ha he;obtain⟨dd,fQ⟩:=XI ha he;rw[fQ]at hy;refine⟨y,?_,hu⟩;simp only[A4,fQ,asAddr,Sem.run_bind,Sem.run_pure,Result.andThen_ok];simpa only[Instr.loadAt,Instr.sureAddr,Sem.run_bind,Sem.run_pure,Result.andThen_ok]using hy
theorem XL (r:ResultVar)(rs:List ResultVar):Ctx.ng (r::rs)=Ctx.ng [r]++Ctx.ng rs:=by cases r<;>rfl
theorem LH:∀{rs:List ResultVar} {mb:List ki},c7 C.res rs=some mb->∀{ax:Env} {tmps:Array Value},aQ C fid G H w->(∀t∈Ctx.ng rs,aZ fid G w (cJ ax t) (tmps.getD t undef))->
  ∀{vs:List V},hY ax H mb=some vs->∃xs,(rs.mapM (A4 tmps)).run C.P w=.ok xs w/\aW fid G w vs xs
 |[],mb,hm,ax,tmps,aa,ad,vs,he=>by
  simp only[c7,ay]at hm;subst hm;simp only[hY,ay]at he;subst he;exact⟨[],by simp,.nil⟩
 |r::rs,mb,hm,ax,tmps,aa,ad,vs,he=>by
  simp only[c7]at hm;split at hm
  ·rename_i FC h1
   split at hm
   ·rename_i aij h2
    cases hm;simp only[hY]at he;split at he
    ·rename_i v aq
     split at he
     ·rename_i vs' bf
      cases he;rw[XL]at ad;obtain⟨x,hx,tW⟩:=XJ h1 aa (fun t ht=>ad t (hN.2 (.inl ht))) aq;obtain⟨xs,dW,cO⟩:=LH h2 aa (fun t ht=>ad t (hN.2 (.inr ht))) bf;refine⟨x::xs,?_,.cons _ _ _ _ tW cO⟩;rw[List.mapM_cons,Sem.run_bind,hx,Result.andThen_ok,Sem.run_bind,dW,Result.andThen_ok,Sem.run_pure]
     ·cases he
    ·cases he
   ·cases hm
  ·cases hm
def gn:List V->V
 |[v]=>v
 |vs=>.aR vs
theorem LI{fn:Func}{mb:List ki}(hm:c7 C.res fn.results.toList=some mb){ax:Env}{tmps:Array Value}(aa:aQ C fid G H w)(ad:∀t∈Ctx.ng fn.results.toList,aZ fid G w (cJ ax t) (tmps.getD t undef))
  {vs:List V} (he:hY ax H mb=some vs):∃x,(results fn tmps).run C.P w=.ok x w/\aZ fid G w (gn vs) x:=by
 obtain⟨xs,hx,cO⟩:=LH hm aa ad he
 have e:results fn tmps=(do let vs <-fn.results.mapM (A4 tmps);pure (if h:vs.size=1 then vs[0]else .tuple vs)):=by
  unfold results;congr 1
 rw[e];refine⟨if h:(⟨xs⟩:Array Value).size=1 then(⟨xs⟩:Array Value)[0]else .tuple ⟨xs⟩,?_,?_⟩
 ·rw[Sem.run_bind,Array.mapM_eq_mapM_toList,Sem.run_map,hx]
  simp only[Result.andThen_ok,Sem.run_pure]
 ·cases cO with
  |nil=>exact .aR [] [] .nil
  |cons v x vs xs h hs=>
   cases hs with
   |nil=>exact h
   |cons v2 FD XM XN h2 nq=>
    have:¬(⟨x::FD::XN⟩:Array Value).size=1:=by simp
    rw[dif_neg this];exact .aR _ _ (.cons _ _ _ _ h (.cons _ _ _ _ h2 nq))
end Go.Abs
namespace Go.Abs
open Go
variable{C:Ctx}{fid:Nat->Nat}{w w':World}{G G':bw}{H H':Heap}{call:cj}{n:Nat}
theorem aQ.FE (aa:aQ C fid G H w){r:Nat}(h3:∀l h,G.β l=some h->h.b≠r)(hi:¬G.I r)(o:Obj):aQ C fid G H (w.putObj r o) where
 obj l h e:=by
  obtain⟨o,ho,hr⟩:=aa.obj l h e;exact⟨o,ho,hr.mono (.refl _) (fun b hb=>⟨hb,World.putObj_heap_other fun q=>hi (by rw[<-q];exact hb)⟩) (World.putObj_heap_other (h3 l h e))⟩
 inj:=aa.inj
 cL l h e:=by rw[World.putObj_size];exact aa.cL l h e
 cu b hb:=by rw[World.putObj_size];exact aa.cu b hb
 iq:=aa.iq
 ej b o aT:=⟨(aa.ej b o aT).1,by rw[World.putObj_heap_other (k:=b) (r:=r) fun q=>hi (by rw[<-q];exact(aa.ej b _ aT).1)];exact(aa.ej b o aT).2⟩
theorem Ext.FE{eR:World}{oD:bw}{m k:Nat}(cP:Ext oD eR G w m k){r:Nat}(hr:eR.heap.size<=r)(o:Obj):Ext oD eR G (w.putObj r o) m k:=
 ⟨by rw[World.putObj_size];exact cP.size,cP.os,cP.output,fun b hb hk=>by rw[World.putObj_heap_other (by omega)];exact cP.eg b hb hk,cP.homes,cP.kJ,cP.cu,cP.lb⟩
theorem A5{fn:Func}{tmps:Array Value}{R:Ending->World->Prop}{eR:World}{oD:bw}{m0:Nat->Prop}{k0:Nat}:
  ∀(rs:List (Nat ⊕ Deferred)) (w:World),(rs.filterMap fun| .inl r=>some r| .inr _=>none).Nodup->(∀r,.inl r∈rs->yj G w eR.heap.size r)->(∀d,.inr d∈rs->Aw C.P d)->aQ C fid G H w->(∀m,m0 m->Ext oD eR G w m k0)->(∀v x,aZ fid G w v x->True)->
   (∀bs,aQ C fid G H bs->(∀m,m0 m->Ext oD eR G bs m k0)->(∀{v:V} {x:Value},aZ fid G w v x->aZ fid G bs v x)->∃v,(results fn tmps).run C.P bs=.ok v bs/\R (.returned v) bs)->
   LeavesInM Fence.wide 0 C.P fn tmps R (rs.map (fun| .inl r=>AZ r| .inr d=>d)) .returning w
 |[],w,_,_,_,aa,cP,_,gY=>gY w aa cP fun h=>h
 | .inr d::rs,w,cI,hm,hn,aa,cP,_,gY=>by
   obtain⟨fv,cap,f,args,ae,ai⟩:=hn d (by simp);obtain⟨bz,cn⟩:=ai w;refine⟨by simp,.inr ⟨by simp[Fence.wide],fv,cap,f,args,ae,bz,fun _ _=>trivial,cn.mono ?_⟩⟩;rintro e u' w' ⟨⟨v,rfl⟩,rfl,rfl⟩;exact A5 rs _ cI (fun q a8=>hm q (by simp[a8])) (fun q a8=>hn q (by simp[a8])) aa cP (fun _ _ _=>trivial) gY
 | .inl r::rs,w,cI,hm,hn,aa,cP,_,gY=>by
   have hr:=hm r (by simp);have LJ:=n4.1 cI;refine⟨by simp,.inl ⟨r,w.putObj r (.deferred none),rfl,run_takeDeferred hr.obj,?_⟩⟩
   have ad:∀{v:V} {x:Value},aZ fid G w v x->aZ fid G (w.putObj r (.deferred none)) v x:=fun h=>
    h.mono (.refl _) fun b hb=>⟨hb,World.putObj_heap_other fun q=>hr.cu (by rw[<-q];exact hb)⟩
   refine A5 rs _ LJ.2 (fun q a8=> ?_) (fun q a8=>hn q (by simp[a8])) (aa.FE hr.home hr.cu _) (fun m hm=>(cP m hm).FE hr.base _) (fun _ _ _=>trivial) fun bs a b c=>gY bs a b fun h=>c (ad h);have k:=hm q (by simp[a8]);have bb:q≠r:=fun e=>LJ.1 (by rw[<-e];exact IV.2 ⟨.inl q,a8,rfl⟩);exact⟨k.base,by rw[World.putObj_size];exact k.lt,by rw[World.putObj_heap_other bb];exact k.obj,k.home,k.cu⟩
theorem FF:∀(vs:List V) (i t:Nat),cJ (fo i vs) t=if i<=t then(vs[t-i]?).getD .undef else .undef
 |[],i,t=>by simp[fo,cJ]
 |v::r,i,t=>by
  simp only[fo,cJ];by_cases h:i=t
  ·subst h;simp
  ·rw[if_neg h,FF r (i+1) t]
   by_cases h2:i<=t
   ·rw[if_pos h2,if_pos (by omega)]
    have:t-i=(t-(i+1))+1:=by omega
    rw[this,sF]
   ·rw[if_neg h2,if_neg (by omega)]
theorem ys{fn:Func}{fresh:Bool}{f:gR}(h:C.func fn fresh=some f):
  ∃c,fn.body=some c/\C.code (Ctx.varsOf fn) fn.ntmps c=some f.body/\c7 C.res fn.results.toList=some f.results/\(fn.name== "runtime.NumGoroutine")=false/\f.sU=fn.ntmps/\f.fresh=fresh:=by
 unfold Ctx.func at h;split at h
 ·rename_i c hb
  split at h
  ·rename_i b rs h1 h2
   split at h
   ·cases h
   ·rename_i hn
    cases h;exact⟨c,hb,h1,h2,by simpa using hn,rfl,rfl⟩
  ·cases h
 ·cases h
theorem LK{fn:Func}{t:Nat}(h:t∈Ctx.ng fn.results.toList):t∈Ctx.varsOf fn:=by
 unfold Ctx.varsOf;rw[List.mem_eraseDups];simp[h]
theorem FG (cr:C.P.follows .mixedOrders=true)(bu:eh C fid)(bh:gh C fid call){fU:Nat}{f:gR}{fn:Func}(af:C.P.funcs[fU]? =some fn)(fx:C.func fn f.fresh=some f)
  {args:List V} {v:V} {low':Nat} {xs:List Value} (he:fP (exec call n) f args H=some (v,H',low')) (aa:aQ C fid G H w) (ad:aW fid G w args xs):
  Calls C.P fU ⟨xs⟩ w (fun e w'=>∃x,e=.returned x/\iY C fid G H w v H' low' x w'):=by
 obtain⟨c,hb,XO,nD,-,XP,-⟩:=ys fx;unfold fP at he;split at he
 ·rename_i hlen
  have iW:=ad.length
  have gK:dj C fid (Ctx.varsOf fn) fn.ntmps G {aH:=[],ax:=fo 0 args,H,low:=H.length} {tmps:=(⟨xs⟩:Array Value)++Array.replicate (fn.ntmps-(⟨xs⟩:Array Value).size) undef,defers:=[]} w:=by
   refine⟨aa,fun t=> ?_,?_,aI _⟩
   ·unfold df
    split
    ·rw[FF]
     simp only[ct,if_true,Nat.sub_zero];cases ha:args[t]? with
     |none=>exact .undef _
     |some u=>
      obtain⟨x,hx,tX⟩:=ad.get ha
      have aY:t<xs.length:=by
       rcases fF t xs.length with h|h
       ·exact h
       ·simp[k6 h]at hx
      have:((⟨xs⟩:Array Value)++Array.replicate (fn.ntmps-(⟨xs⟩:Array Value).size) undef).getD t undef=x:=by
       rw[q8,IG (by simpa using aY)];simp[hx]
      rw[this];exact tX
    ·exact .undef _
   ·simp only[sH,Array.size_replicate]
    show xs.length+(fn.ntmps-xs.length)=fn.ntmps;rw[iW,<-XP];omega
  have mD:∀(st:au) (G':bw) (bg:Act) (w':World),fh {aH:=[],ax:=fo 0 args,H,low:=H.length} st->(∃vs,hY st.ax st.H f.results=some vs/\finish f.fresh H (gn vs) st.H st.low=some (v,H',low'))->
    Fin C fid (Ctx.varsOf fn) fn.ntmps w.heap.size {aH:=[],ax:=fo 0 args,H,low:=H.length} G w st G' bg w'->
    LeavesInM Fence.wide 0 C.P fn bg.tmps (fun e w'=>∃x,e=.returned x/\iY C fid G H w v H' low' x w') bg.defers .returning w':=by
   rintro st G' bg w' dL ⟨vs,hr,oy⟩ F;obtain⟨rs,FH,cI,hm,FI⟩:=F.marks;rw[FH];refine A5 (m0:=fun m=>m<=st.low) rs w' cI hm FI F.rel.rel F.ext (fun _ _ _=>trivial) fun bs bM dC iv=> ?_
   obtain⟨x,hx,tX⟩:=LI nD bM (fun t ht=>by
    have:=F.rel.env t;rw[Fq (LK ht)]at this;exact iv this) hr
   exact⟨x,hx,x,rfl,LD aa bM dC dL.1 tX oy⟩
  have LL:∀{st:au},(match hY st.ax st.H f.results with|some [v]=>finish f.fresh H v st.H st.low|some vs=>finish f.fresh H (.aR vs) st.H st.low|none=>none)=some (v,H',low')->
    ∃vs,hY st.ax st.H f.results=some vs/\finish f.fresh H (gn vs) st.H st.low=some (v,H',low'):=fun {st} h=>by
   split at h
   ·rename_i u hr;exact⟨[u],hr,h⟩
   ·rename_i vs bb hr
    refine⟨vs,hr,?_⟩
    have:gn vs=.aR vs:=by
     cases vs with
     |nil=>rfl
     |cons a r=>
      cases r with
      |nil=>exact absurd rfl (bb a)
      |cons b r=>rfl
    rw[this];exact h
   ·cases h
  have go:∀(A6:X) (st:au),(A6=.normal\/A6=.ret)->exec call n f.body {aH:=[],ax:=fo 0 args,H,low:=H.length}=some (A6,st)->
    (∃vs,hY st.ax st.H f.results=some vs/\finish f.fresh H (gn vs) st.H st.low=some (v,H',low'))->Calls C.P fU ⟨xs⟩ w (fun e w'=>∃x,e=.returned x/\iY C fid G H w v H' low' x w'):=fun A6 st FJ hex oy=>by
   refine(callsIn_wide (n:=0)).1 (callsIn_of_wp_marks af hb trivial ?_);have dL:=j9 bh.bD n _ _ _ _ (aI _) hex;refine oC (n:=n) cr bu bh c _ _ _ XO _ _ _ hex G _ w none w.heap.size _ gK trivial (.nil _ _ _) (aI _) fun G' bg w' F=> ?_;have:=mD st G' bg w' dL oy F;rcases FJ with rfl|rfl
   ·exact this
   ·exact this
  split at he
  ·rename_i st hex;exact go _ st (.inl rfl) hex (LL he)
  ·rename_i st hex;exact go _ st (.inr rfl) hex (LL he)
  ·cases he
 ·cases he
theorem wi{fU:Nat}{fn:Func}{c:Code}(af:C.P.funcs[fU]? =some fn)(hb:fn.body=some c)(hn:(fn.name== "runtime.NumGoroutine")=false)(aC:Array Value):
  (callFunc fU aC).run C.P w=.ok (.enter fU aC) w:=by
 unfold callFunc;have mz:¬fn.name= "runtime.NumGoroutine" :=by simpa using hn
 simp[Sem.run_bind,Sem.run,program,af,hb,mz,Result.andThen]
theorem wj (cr:C.P.follows .mixedOrders=true)(bu:eh C fid){ab:Nat->Option bQ}(hT:da C fid ab):∀(n:Nat),gh C fid (aS ab n)
 |0=>⟨AM ab 0,fun _ _ _ he=>by simp[aS]at he⟩
 |n+1=>by
  have ih:=wj cr bu hT n;refine⟨AM ab (n+1),fun {G H w f args v H' low' EV xs} aa tL fR he=> ?_⟩;simp only[aS,nf]at he;split at he
  ·rename_i i first caps
   obtain⟨fs,cs,XQ,wk,XR⟩:=tL.vw;subst XR;have mA:aW fid G w (first++args++caps) (fs++xs++cs):=(XQ.append fR).append wk
   have XS:(invoke (.fn (.func i) ⟨cs⟩) ((⟨fs⟩:Array Value)++⟨xs⟩)).run C.P w=(callFunc i ⟨fs++xs++cs⟩).run C.P w:=by
    simp[invoke]
   refine⟨{target:=.fn (.func i) ⟨cs⟩,args:=(⟨fs⟩:Array Value)++⟨xs⟩},rfl,?_⟩;rw[XS];split at he
   ·rename_i XT lx
    obtain⟨fn,fx,qy⟩:=hT.code i XT lx;obtain⟨c,hb,-,-,qz,-⟩:=ys qy;rw[wi fx hb qz];exact⟨FG cr bu ih fx qy he aa mA,fun _ _=>⟨_,_,rfl⟩⟩
   ·rename_i spec lx
    split at he
    ·rename_i hp
     obtain⟨u,hu,he⟩:=bW.1 he;cases he;refine⟨hT.ext i spec lx aa (mA.lZ hp) hu,fun _ qd=> ?_⟩;rw[vr,vr]at hp;simp[qd]at hp
    ·cases he
   ·rename_i spec lx
    obtain⟨h1,h2⟩:=hT.lW i spec lx aa mA he;exact⟨h1,fun _ _=>h2⟩
   ·cases he
  ·rename_i l
   obtain⟨h,hb,ht,rfl⟩:=tL.UY;refine⟨{target:=.fn (.yield h.b) #[],args:= #[]++⟨xs⟩},rfl,?_,fun fx=>by simp[Di]at fx⟩;have:(invoke (.fn (.yield h.b) #[]) (#[]++(⟨xs⟩:Array Value))).run C.P w=(Instr.yield h.b ⟨xs⟩).run C.P w:=by simp[invoke]
   rw[this];exact Xt cr bu ih he aa hb fR
  ·cases he
theorem LM (cr:C.P.follows .mixedOrders=true)(bu:eh C fid){ab:Nat->Option bQ}(hT:da C fid ab){n i:Nat}{f:gR}(hi:ab i=some (.code f)){args:List V}{v:V}{low':Nat}{xs:List Value}
  (he:aS ab n (.fn i [] []) args H=some (v,H',low')) (aa:aQ C fid G H w) (ad:aW fid G w args xs):
  Calls C.P i ⟨xs⟩ w (fun e w'=>∃x,e=.returned x/\iY C fid G H w v H' low' x w'):=by
 cases n with
 |zero=>simp[aS]at he
 |succ n=>
  simp only[aS,nf,hi,ij,lQ]at he;obtain⟨fn,fx,qy⟩:=hT.code i f hi;exact FG cr bu (wj cr bu hT n) fx qy he aa ad
end Go.Abs
namespace Go.Abs
open Go
variable{C:Ctx}{fid:Nat->Nat}{w w':World}{G G':bw}{H H':Heap}
theorem aQ.apart (aa:aQ C fid G H w):aQ C fid ⟨fun _=>Option.none,G.I⟩ [] w where
 obj _ _ e:=by cases e
 inj _ _ _ _ e:=by cases e
 cL _ _ e:=by cases e
 cu b hb:=⟨(aa.cu b hb).1,fun _ _ e=>by cases e⟩
 iq _ _ e:=by cases e
 ej:=aa.ej
theorem iY.beside (aa:aQ C fid G H w){v:V}{l:Nat}{x:Value}(hp:bS v=true)(h:iY C fid ⟨fun _=>Option.none,G.I⟩ [] w v H' l x w'):iY C fid G H w v H H.length x w':=by
 obtain⟨az,fg,he,ad⟩:=h;have e:=he 0 (ct _);have eg:∀b,b<w.heap.size->w'.heap[b]? =w.heap[b]? :=fun b hb=>e.eg b hb fun _ _ q=>by cases q
 have ch:∀b,G.I b->az.I b/\w'.heap[b]? =w.heap[b]? :=fun b hb=>⟨e.cu b hb,eg b (aa.cu b hb).1⟩
 have lb:∀b,az.I b->G.I b\/w.heap.size<=b:=fun b hb=>by
  rcases e.lb b hb with q|q|⟨_,_,q,_⟩
  ·exact .inl q
  ·exact .inr q
  ·cases q
 refine⟨⟨G.β,az.I⟩,⟨fun l h q=> ?_,aa.inj,fun l h q=>mX (aa.cL l h q) e.size,fun b hb=>⟨(fg.cu b hb).1,fun l h q XU=> ?_⟩,fun l h q XV=>e.cu _ (aa.iq l h q XV),fg.ej⟩,
  fun m _=>⟨e.size,e.os,e.output,fun b hb _=>eg b hb,.refl _,fun l h q=>.inl ⟨h,q,.inl rfl⟩,e.cu,fun b hb=>(lb b hb).imp id .inl⟩,.p _ _ (ad.lZ hp)⟩
 ·obtain⟨o,ho,hr⟩:=aa.obj l h q
  exact⟨o,ho,gT.mono (G:=G) (G':=⟨G.β,az.I⟩) (jE.refl G.β) ch (eg _ (aa.cL l h q)) hr⟩
 ·rcases lb b hb with q'|q'
  ·exact(aa.cu b q').2 l h q XU
  ·have:=aa.cL l h q;omega
theorem LN (cr:C.P.follows .mixedOrders=true)(bu:eh C fid){ab:Nat->Option bQ}(hT:da C fid ab){n i:Nat}{f:gR}(hi:ab i=some (.code f)){spec:List V->Option V}
  (hs:∀args v,spec args=some v->bS v=true/\∃H' l,aS ab n (.fn i [] []) args []=some (v,H',l)):lv C fid i spec:=by
 intro G H w args v xs aa dW gp;obtain⟨hp,H',l,he⟩:=hs args v gp;have hc:=LM cr bu hT hi he aa.apart (cD.la dW);obtain⟨fn,fx,qy⟩:=hT.code i f hi;obtain⟨c,hb,-,-,qz,-⟩:=ys qy;rw[wi fx hb qz];exact sP hc fun e w'=>fun⟨x,ae,ai⟩=>⟨x,ae,ai.beside aa hp⟩
def yt (aC:List V)(v:V):List V->Option V:=fun args=>if hX args aC=true then some v else none
theorem XW (cr:C.P.follows .mixedOrders=true)(bu:eh C fid){ab:Nat->Option bQ}(hT:da C fid ab){n i:Nat}{f:gR}(hi:ab i=some (.code f)){aC:List V}{v:V}{H':Heap}{l:Nat}
  (hp:bS v=true) (he:aS ab n (.fn i [] []) aC []=some (v,H',l)):lv C fid i (yt aC v):=
 LN cr bu hT hi fun args u hu=>by
  unfold yt at hu;split at hu
  ·rename_i a8
   cases hu;rw[mB _ _ a8];exact⟨hp,H',l,he⟩
  ·cases hu
theorem yu{ab:Nat->Option bQ}(hT:da C fid ab){k:Nat}{spec:List V->Option V}(hs:lv C fid k spec):da C fid (over ab k spec) where
 code i f h:=by
  unfold over at h;cases e:Nat.beq i k with
  |true=>rw[e]at h;cases h
  |false=>rw[e]at h;exact hT.code i f h
 ext i sp h:=by
  unfold over at h;cases e:Nat.beq i k with
  |true=>
   rw[e]at h;have h':some (bQ.ext spec)=some (.ext sp):=h;cases h';rw[dm e];exact @hs
  |false=>rw[e]at h;exact hT.ext i sp h
 lW i sp h:=by
  unfold over at h;cases e:Nat.beq i k with
  |true=>rw[e]at h;cases h
  |false=>rw[e]at h;exact hT.lW i sp h
theorem A7 (cr:C.P.follows .mixedOrders=true)(bu:eh C fid){ab:Nat->Option bQ}(hT:da C fid ab){n i:Nat}{f:gR}(hi:ab i=some (.code f)):∀{l:List (List V × V)},iS ab n i l->lv C fid i (iR l):=by
 intro l hl;refine LN cr bu hT hi (n:=n) fun args u hu=> ?_
 induction l with
 |nil=>cases hu
 |cons p r ih=>
  obtain⟨aC,v⟩:=p;simp only[iR]at hu;cases e:hX args aC with
  |true=>
   rw[e]at hu;have h':some v=some u:=hu;cases h';rw[mB _ _ e];exact⟨hl.1.1,[],0,hl.1.2⟩
  |false=>rw[e]at hu;exact ih hl.2 hu
end Go.Abs
namespace Go.Abs
open Go
variable{C:Ctx}{fid:Nat->Nat}{w w':World}{G G':bw}{H H':Heap}
theorem XX{P:Program}(ty:TypeId){r jb since jc b3:Nat}{seen:Array Nat}{es:Array MapEntry}(hr:w.heap[r]? =some (.mapIter (some jb) since seen jc))(hb:w.heap[jb]? =some (.map es b3))
  (hold:∀x∈es.toList,x.born<since) (XY:since<=jc):
  ((leftOf es seen).size=0/\(Instr.next (.pointer (some ⟨r,0,none⟩)) false ty).run P w=.ok (.tuple #[.bool false]) w)\/
  ∃e∈(leftOf es seen).toList,∃aG:World,aG.heap=w.heap.setIfInBounds r (.mapIter (some jb) since (seen.push e.born) b3)/\aG.os=w.os/\aG.output=w.output/\
   (Instr.next (.pointer (some ⟨r,0,none⟩)) false ty).run P w=.ok (.tuple #[.bool true,e.key,e.val]) aG:=by
 simp only[Instr.next,getObj,Sem.run_bind,Sem.run,hr,hb,Result.andThen,next_test_false seen es since jc hold XY,ga,if_false];unfold leftOf;have gg:∀x∈(Array.filter (fun e=>!seen.contains e.born) es).toList,x.born<since:=fun x hx=>hold x (by simp at hx⊢; exact hx.1);generalize Array.filter (fun e=>!seen.contains e.born) es=L at gg⊢;have ae:L.filter (fun x=>decide (x.born<since))=L:=Array.filter_eq_self.2 (fun x hx=>by simpa using gg x (by simpa using hx))
 have ai:L.filter (fun x=>decide (x.born>=since))= #[]:=by
  rw[Array.filter_eq_empty_iff];intro x hx;have:=gg x (by simpa using hx);simp;omega
 simp only[ae,ai,Array.append_empty];by_cases h0:L.size=0
 ·left
  have:L= #[]:=Array.eq_empty_of_size_eq_zero h0;subst this;refine⟨rfl,?_⟩;simp[choose,Sem.run,Question.forced]
 ·right
  have bb:L.isEmpty=false:=by simp[Array.isEmpty,h0]
  simp only[bb,ga,if_false,Array.empty_append,Array.size_map]
  have XZ:∃(j:Nat) (aG:World),j<L.size/\aG.heap=w.heap/\aG.os=w.os/\aG.output=w.output/\(choose (Question.mapNext L.size)).run P w=.ok j aG:=by
   by_cases af:L.size<=1
   ·exact⟨0,w,by omega,rfl,rfl,rfl,by simp[choose,Sem.run,Question.forced,af]⟩
   ·exact⟨_,w.drew,Nat.mod_lt _ (by omega),rfl,rfl,rfl,by
     simp only[choose,Sem.run,Question.forced,decide_eq_true_eq,af,if_false,Question.cut];rfl⟩
  obtain⟨j,aG,hj,av,a2,a3,bR⟩:=XZ
  have aik:r<w.heap.size:=by
   rcases fF r w.heap.size with h|h
   ·exact h
   ·simp[u6 h]at hr
  refine⟨L[j],by simp,{aG with heap:=aG.heap.setIfInBounds r (.mapIter (some jb) since (seen.push L[j].born) b3)},by rw[av],a2,a3,?_⟩
  have kT:∀(cC:Obj),(setObj r cC).run P aG=.ok () {aG with heap:=aG.heap.setIfInBounds r cC}:=fun cC=>by
   simp only[setObj,Sem.run];rw[av,hr]
  simp only[bR,Array.getElem?_map,zN hj,lR,Sem.run_bind,kT,Result.andThen];rfl
theorem X0{P:Program}{r jb since b3:Nat}{seen:Array Nat}{es:Array MapEntry}{e:MapEntry}(hr:w.heap[r]? =some (.mapIter (some jb) since (seen.push e.born) b3))(hb:w.heap[jb]? =some (.map es b3))
  (he:e∈es.toList) (hn:(es.toList.map (·.born)).Nodup):
  (Instr.entry (.pointer (some ⟨r,0,none⟩))).run P w=.ok (.tuple #[e.key,e.val]) w:=by
 have af:es.find? (·.born==e.born)=some e:=by rw[<-Array.find?_toList];exact find_born e es.toList hn he
 simp only[Instr.entry,getObj,Sem.run_bind,Sem.run,hr,hb,Result.andThen,Array.back?_push,bne_self_eq_false,ga,if_false,af];rfl
section
variable{vars:List Nat}{N:Nat}{ops:Array Oper}
theorem LO{j:Nat}{o:Oper}{a:Act}{K:Act->World->Prop}{Q:Exit->Act->World->Prop}{ro:Option Nat}(ho:ops[j]? =some o)(aT:o.guard=none)(hnd:∀c,o.op≠ .defer c){x:Value}{aG:World}
  (bR:(execOp a.eval o).run C.P w=.ok (.value x) aG) (nz:K (a.put o.dst x) aG):wpOpIn (dO ro) 0 C.P ops Q j K a w:=by
 unfold wpOpIn;rw[ho];have hw:Region.wanted o (yielded ops a.tmps)=true:=by unfold Region.wanted;rw[aT]
 simp only[hw,if_true];refine⟨fun _ _=>trivial,?_⟩;rw[Oper.semAt_eq _ _ _ hnd,bR];exact nz
theorem dj.put{st:au}{a:Act}(h:dj C fid vars N G st a w){t:Nat}(gZ:t<N){v:V}{x:Value}(ad:aZ fid G w v x):
  dj C fid vars N G (st.put (some (t,vars.contains t)) v) (a.put (some t) x) w:=by
 have hp:=jt st (some (t,vars.contains t)) v;refine⟨by rw[hp.1];exact h.rel,fun s=> ?_,by rw[rR];exact h.size,by rw[hp.1,hp.2.1];exact h.low⟩;rw[EZ _ _ _ _ (by rw[h.size];exact gZ),x7];by_cases e:s=t
 ·rw[if_pos e,if_pos e];exact ad
 ·rw[if_neg e,if_neg e];exact h.env s
end
end Go.Abs
