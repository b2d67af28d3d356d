/- Texts of this claim, joined and written short by a program. -/
import Derived.Test.YtdoflpjbdlgciaaGreatDoorP07
import Derived.Test.YtdoflpjbdlgciaaGreatDoorP01
import Derived.Laws.IdiomRangeMap
import Derived.Test.YtdoflpjbdlgciaaGreatDoorP00
set_option linter.unusedVariables false
set_option linter.unusedSimpArgs false
set_option linter.unusedSectionVars false
namespace Go.Abs
open Go
variable{C:Ctx}{fid:Nat->Nat}{w w':World}{G G':cc}{H H':Heap}
def B8:X->Exit
 | .normal=>.normal
 | .exit id=>.exit id
 | .ret=>.ret
def vB (G:cc):Option Nat->Option Nat->Prop
 |none,none=>True
 |some l,some b=>∃h,G.β l=some h/\h.tag=0/\h.b=b
 | _,_=>False
theorem vB.ext{m n:Nat}(h:Ext G w G' w' m n):∀{l b:Option Nat},vB G l b->vB G' l b
 |none,none,_=>trivial
 |some l,some b,⟨h0,e,t,q⟩=>by
  obtain⟨h',e',-,z,m,-⟩:=h.homes l h0 e;exact⟨h',e',z t,by rw[(m ((z t).trans t.symm)).1];exact q⟩
 |none,some _,k|some _,none,k=>k.elim
def Jr (r:Nat):Deferred:={target:=.collected r,args:= #[]}
structure EP (G:cc) (w:World) (base r:Nat):Prop where
 base:base<=r
 lt:r<w.heap.size
 obj:w.heap[r]? =some (.deferred (some []))
 home:∀l h,G.β l=some h->h.b≠r
 dd:¬G.I r
def k5 (C:Ctx)(G:cc)(w:World)(base:Nat)(ds:List Deferred):Prop:=∃rs:List (Nat ⊕ Deferred),ds=rs.map (fun| .inl r=>Jr r| .inr d=>d)/\(rs.filterMap fun| .inl r=>some r| .inr _=>none).Nodup/\
 (∀r,.inl r∈rs->EP G w base r)/\∀d,.inr d∈rs->IY C.P d
theorem EP.ext{m n base r:Nat}(h:Ext G w G' w' m n)(k:EP G w base r):EP G' w' base r where
 base:=k.base
 lt:=rj k.lt h.size
 obj:=by rw[h.ey r k.lt fun l x ag e2=>absurd e2 (k.home l x ag)];exact k.obj
 home l x e q:=by
  rcases h.NK l x e with⟨cu,eW,eb⟩|hs
  ·exact k.home l cu eW (eb.trans q)
  ·have:=k.lt;omega
 dd hi:=by
  rcases h.oR r hi with h1|h1|⟨l,x,e,eb⟩
  ·exact k.dd h1
  ·have:=k.lt;omega
  ·exact k.home l x e eb
theorem k5.ext{m n base:Nat}{ds:List Deferred}(h:Ext G w G' w' m n):k5 C G w base ds->k5 C G' w' base ds
 |⟨rs,e,dx,k,q⟩=>⟨rs,e,dx,fun r hr=>(k r hr).ext h,q⟩
theorem sH (bF:fp C fid){vars:List Nat}{N:Nat}{st:au}{a:Act}(aa:dO C fid vars N G st a w):fC C fid vars G w (aj.ai st.aG st.aw) a.eval:=fun x cJ hx=>by
 cases x with
 |tmp t=>
  simp only[Ctx.ch,aA]at hx;have e:cJ.ai st.aG st.aw=dX vars st t:=by rw[<-hx];unfold dX;split<;>rfl
  rw[e];exact aa.env t
 |const u=>
  simp only[Ctx.ch]at hx;obtain⟨VM,jS,rfl⟩:=cG.1 hx;rcases Eh (I:=G.I) (w:=w) u jS with rfl|hp
  ·exact .undef _
  ·exact .p _ _ hp
 |func f=>exact NW bF hx
 |global g=>simp[Ctx.ch]at hx
theorem Js{F:Fence}{n:Nat}{P:Program}{Q:Exit->Act->World->Prop}{c:Code}(I:Nat->Act->World->Prop)
  (round:∀k a w,I k a w->∃bE,k=bE+1/\c.wpIn F n P (Exit.then (I bE) Q) a w) {j:Nat} {a:Act} {w:World} (h₀:I j a w):(Code.loop c).wpIn F n P Q a w:=by
 intro b k cs eY hb hr
 have key:∀j a w,I j a w->
   ∃e bl w',Q e bl w'/\ArrivesIn (Machine.fenced P F) P (lone (b.atR a (.code c::.inLoop c::k)) cs w) b k cs e bl w':=by
  intro j
  induction j with
  |zero=>
   intro a w a7;obtain⟨bE,e,-⟩:=round 0 a w a7;omega
  |succ j ih=>
   intro a w a7;obtain⟨bE,e,fH⟩:=round _ a w a7;cases e;obtain⟨e,B9,Ca,bj,sA⟩:=fH b (.inLoop c::k) cs eY hb hr;cases e with
   |normal=>
    obtain⟨NH,aiW,aiX,aiY,aiZ⟩:=ih B9 Ca bj;exact⟨NH,aiW,aiX,aiY,.of_steps (StepsIn.trans sA (.one (fenced_calm hb hr rfl) stepR_inLoop)) aiZ⟩
   |exit id=>exact⟨_,B9,Ca,bj,.pass (x:=.inLoop c) rfl (fun _ _=>.inl (by simp)) sA⟩
   |goto l=>exact⟨_,B9,Ca,bj,.pass (x:=.inLoop c) rfl (fun _ _=>.inl (by simp)) sA⟩
   |ret=>exact⟨_,B9,Ca,bj,.pass (x:=.inLoop c) rfl (fun _ _=>.inl (by simp)) sA⟩
   |panic aAK=>exact⟨_,B9,Ca,bj,.pass (x:=.inLoop c) rfl (fun _ _=>.inl (by simp)) sA⟩
   |outgrown=>exact⟨_,B9,Ca,bj,.pass (x:=.inLoop c) rfl (fun _ _=>.inl (by simp)) sA⟩
 obtain⟨e,bl,w',bj,sA⟩:=key _ a w h₀;exact⟨e,bl,w',bj,.of_steps (.one (fenced_calm hb hr rfl) stepR_loop) sA⟩
structure Fin (C:Ctx) (fid:Nat->Nat) (vars:List Nat) (N base:Nat) (st:au) (G:cc) (w:World) (aX:au) (G':cc) (bl:Act) (w':World):Prop where
 rel:dO C fid vars N G' aX bl w'
 ext:∀m,m<=aX.low->Ext G w G' w' m st.H.length
 marks:k5 C G' w' base bl.defers
def qJ (C:Ctx)(fid:Nat->Nat)(call:c1)(n:Nat)(c:Code):Prop:=
 ∀(ac:b8) (vars:List Nat) (N:Nat),C.code vars N c=some ac->∀(st:au) (x:X) (aX:au),exec call n ac st=some (x,aX)->
 ∀(G:cc) (a:Act) (w:World) (ro:Option Nat) (base:Nat) (Q:Exit->Act->World->Prop),dO C fid vars N G st a w->vB G st.ro ro->k5 C G w base a.defers->base<=w.heap.size->
  (∀G' bl w',Fin C fid vars N base st G w aX G' bl w'->Q (B8 x) bl w')->c.wpIn (eJ ro) 0 C.P Q a w
section
variable{call:c1}{n:Nat}
theorem Fin.refl{vars:List Nat}{N base:Nat}{st:au}{a:Act}(h:dO C fid vars N G st a w)(k:k5 C G w base a.defers):Fin C fid vars N base st G w st G a w:=
 ⟨h,fun m _=>.refl _ _ _ _,k⟩
theorem Fin.trans{vars:List Nat}{N base:Nat}{st cm gP:au}{az bD:cc}{al a2:Act}{aE bG:World}(h:Fin C fid vars N base st G w cm az al aE)(k:Fin C fid vars N base cm az aE gP bD a2 bG)
  (f1:gG st cm) (f2:gG cm gP):Fin C fid vars N base st G w gP bD a2 bG:=
 ⟨k.rel,fun m hm=>(h.ext m (dc hm f2.1.low)).trans ((k.ext m hm).le (aM _) f1.1.len),k.marks⟩
theorem ai0 (bF:fp C fid)(bn:hB C fid call){id:Nat}{ops:Array Oper}{os:List Oper}{hQ:Oper}{c:Call}{f:Operand}{mh:aj}{vars:List Nat}{N:Nat}{bK:List bP}{st aX:au}{wr:List Bool}{a:Act}{base:Nat}{Q:Exit->Act->World->Prop}
  (pX:ops.toList=os++[hQ]) (ai1:hQ.op=.defer c) (oq:c.callee=.value f) (ER:c.args= #[]) (bx:hQ.guard=none) (B4:hQ.dst=none) (hm:ee (C.oper vars N ops) os=some bK) (ae:C.ch vars f=some mh)
  (he:c5 call bK {st with aG:=[]} []=some (aX,wr)) (aZ:Nd C.Bq (mh.ai aX.aG aX.aw)=true) (aa:dO C fid vars N G st a w) (eT:k5 C G w base a.defers)
  (dP:∀G' bl w',dO C fid vars N G' aX bl w'->(∀m,m<=aX.low->Ext G w G' w' m st.H.length)->k5 C G' w' base bl.defers->Q .normal bl w'):
  (Code.region id ops false).wpIn (eJ none) 0 C.P Q a w:=by
 obtain⟨S,bb,h0,hn,-,hs⟩:=tQ _ _ _ _ _ he;have hlen:bK.length=os.length:=vn _ hm;have ea:ops.size=os.length+1:=by rw[<-hJ,pX];simp
 have key:∀k j,j+k=os.length->∀bD al bG,dO C fid vars N bD (S j) al bG->(∀m,m<=(S j).low->Ext G w bD bG m st.H.length)->al.defers=a.defers->st.H.length<=(S j).H.length->
   wpOpsIn (eJ none) 0 C.P ops Q (List.range' j (k+1)) al bG:=by
  intro k
  induction k with
  |zero=>
   intro j hj bD al bG bH cw ff _;have e:j=bK.length:=by omega
   subst e;rw[hn]at bH cw;have ho:ops[bK.length]? =some hQ:=by rw[<-iX,pX,hlen];simp
   rw[uZ,wpOpsIn_cons];have fx:=sH bF bH f mh ae;unfold Nd at aZ;split at aZ
   ·rename_i i cs B3
    rw[B3]at fx;obtain⟨xs,cL,eX,Wb,af⟩:=fx.BK;cases eX;unfold wpOpIn;rw[ho];have hw:Region.wanted hQ (yielded ops al.tmps)=true:=by unfold Region.wanted;rw[bx]
    simp only[hw,if_true];refine⟨fun _ _=>trivial,?_⟩
    have cn:(Oper.semAt (eJ none).round al.eval hQ).run C.P bG=.ok (.defer {target:=.fn (.func i) ⟨cL⟩,args:= #[]}) bG:=by
     show(Oper.semAt none al.eval hQ).run C.P bG=_;rw[Oper.semAt_none];unfold execOp;rw[ai1];obtain⟨UP,gX,km⟩:=c;simp only at oq ER;subst oq;subst ER;simp only[resolve,af,Sem.run_bind,Sem.run_pure,Result.andThen_ok];simp[Sem.run_pure,Deferred.ofValue]
     try rfl
    rw[cn];simp only[Oper.uponIn];rw[B4];show Q .normal _ _;refine dP bD _ bG ⟨bH.rel,bH.env,bH.size,bH.low⟩ (fun m hm=>cw m hm) ?_;obtain⟨rs,ag,dx,ct,dN⟩:=eT.ext (cw 0 (cI _));refine⟨.inr {target:=.fn (.func i) ⟨cL⟩,args:= #[]}::rs,?_,dx,fun r hr=>ct r (by simpa using hr),fun d hd=> ?_⟩
    ·show _::al.defers=_
     rw[ff,ag];rfl
    ·rcases dL.1 hd with hd|hd
     ·cases hd;exact bF.agW i (uW.1 aZ) _
     ·exact dN d hd
   ·cases aZ
  |succ k ih=>
   intro j hj bD al bG bH cw ff gW;have ob:j<os.length:=by omega
   have kZ:os[j]? =some os[j]:=by simp[ob]
   have ho:ops[j]? =some os[j]:=by rw[<-iX,pX,gM ob];exact kZ
   have ES:j<bK.length:=by omega
   have gi:bK[j]? =some bK[j]:=by simp[ES]
   have O3:tP C vars N ops os[j] bK[j]:=B2 (vo _ hm kZ gi);have cg:=hs j _ gi;rw[uZ,wpOpsIn_cons];have eP:=cg.b2 bn.b2;refine y3 (T:=fun _=>True) bF bn ho O3 cg bH.rel (fun _=>.inl rfl) bH.low (fun t _=>bH.env t) (fun x _=>by cases x<;>trivial) (fun _ _ _ _ _=>trivial) bH.size ?_;intro x fI jV p1 p2 p3
   have y6:bf C fid jV (S (j+1)).H fI:=by
    cases ae:bb j with
    |true=>rw[ae]at p1;exact p1
    |false=>rw[ae]at p1;rw[cg.still bn.b2 ae];exact p1
   have oj:=p2 0 (cI _)
   refine ih (j+1) (by omega) jV _ fI ⟨y6,fun t=> ?_,by rw[xx];exact bH.size,eP.bound bH.low⟩ (fun m hm=>(cw m (dc hm eP.1.low)).trans ((p2 m hm).le (aM _) gW)) (by rw[put_defers];exact ff)
    (dc gW eP.1.len)
   refine y5 (fun d hd=>by rw[bH.size];exact O3.lt d hd) (fun h=>p3 t h) (fun h=> ?_);rw[cg.look O3 h];exact(bH.env t).ext bH.rel oj
 refine wpIn_region ?_;rw[ea,HW];have ju:=aa.clear;rw[<-h0]at ju;exact key os.length 0 (by omega) G a w ju (fun m _=>.refl _ _ _ _) rfl (by rw[h0];exact aM _)
theorem ai2{C:Ctx}{vars:List Nat}{n:Nat}{ops:Array Oper}{ac:b8}(h:C.Nf vars n ops=some ac):
  ∃os hQ c f bK mh,ops.toList=os++[hQ]/\hQ.op=.defer c/\c.callee=.value f/\c.args= #[]/\hQ.guard=none/\hQ.dst=none/\ee (C.oper vars n ops) os=some bK/\C.ch vars f=some mh/\ac=.yA bK C.Bq mh:=by
 unfold Ctx.Nf at h;split at h
 ·cases h
 ·rename_i hQ hl _
  split at h
  ·rename_i f args ec c9 bx
   split at h
   ·rename_i bK mh ao hm ae
    split at h
    ·rename_i hd
     cases h;have bu:ops.toList≠[]:=by intro e;rw[e]at hl;cases hl
     have:ops.toList.dropLast++[hQ]=ops.toList:=by
      have e2:=List.getLast?_eq_some_getLast bu;rw[hl]at e2;cases e2;exact List.dropLast_concat_getLast bu
     exact⟨_,hQ,_,f,bK,mh,this.symm,c9,rfl,by simpa using ao,bx,by simpa using hd,hm,ae,rfl⟩
    ·cases h
   ·cases h
  ·cases h
 ·cases h
theorem ai3 (cR:C.P.follows .mixedOrders=true)(bF:fp C fid)(bn:hB C fid call)(id:Nat)(ops:Array Oper)(draw:Bool):qJ C fid call n (.region id ops draw):=by
 intro ac vars N hc st x aX he G a w ro base Q aa eY eT hb dP;simp only[Ctx.code]at hc;split at hc
 ·rename_i r hd
  cases hc;split at hd
  ·cases hd
  ·rename_i O4
   have O4:draw=false:=by simpa using O4
   subst O4;obtain⟨os,hQ,c,f,bK,mh,h1,h2,av,bc,h5,gb,lu,BZ,rfl⟩:=ai2 hd;simp only[exec,au.fT]at he;split at he
   ·rename_i cm wr hex
    split at he
    ·rename_i aZ
     cases he;simp only[ca]at aZ
     have Cb:st.ro=none:=by
      have:=(o2 bn.b2 _ _ _ _ _ (by exact aa.low) hex).2;simp only at this;simpa[this]using aZ.1
     rw[Cb]at eY
     have ai4:ro=none:=by
      cases ro with
      |none=>rfl
      |some b=>exact eY.elim
     subst ai4;exact ai0 bF bn h1 h2 av bc h5 gb lu BZ hex aZ.2 aa eT fun G' bl w' bH cw ff=>dP G' bl w' ⟨bH.clear,cw,ff⟩
    ·cases he
   ·cases he
 split at hc
 ·rename_i bK hm
  cases hd:draw with
  |false=>
   rw[hd]at hc;simp only[mU,if_true,aA]at hc;subst hc;simp only[exec,au.fT]at he;split at he
   ·rename_i cm wr h1
    cases he;exact aiz bF bn hm h1 aa fun G' bl w' bH cw ff=>dP G' bl w' ⟨bH.clear,cw,by rw[ff];exact eT.ext (cw 0 (cI _))⟩
   ·cases he
  |true=>
   rw[hd]at hc;simp only[fQ,gN,if_false]at hc;split at hc
   ·rename_i ev
    simp only[ca]at ev;obtain⟨⟨h1,h2⟩,av⟩:=ev;cases hc;simp only[exec,au.fT]at he;split at he
    ·rename_i cm wr bc
     split at he
     ·rename_i hin
      cases he;exact aiV cR bF bn hm h1 h2 av bc hin aa fun G' bl w' bH cw ff=>dP G' bl w' ⟨bH.clear,cw,by rw[ff];exact eT.ext (cw 0 (cI _))⟩
     ·cases he
    ·cases he
   ·cases hc
 ·cases hc
theorem ai5 (eP:my call){x y:Code}(hx:qJ C fid call n x)(hy:qJ C fid call n y):qJ C fid call n (.seq x y):=by
 intro ac vars N hc st r aX he G a w ro base Q aa eY eT hb dP;simp only[Ctx.code]at hc;split at hc
 ·rename_i cJ ln h1 h2
  cases hc;simp only[exec,au.fT]at he;refine wpIn_seq ?_;split at he
  ·rename_i cm mo
   have f1:=mz eP n _ _ _ _ aa.low mo;refine hx _ _ _ h1 _ _ _ mo G a w ro base _ aa eY eT hb fun az al aE gH=> ?_;have f2:=mz eP n _ _ _ _ gH.rel.low he;exact hy _ _ _ h2 _ _ _ he az al aE ro base _ gH.rel (by rw[f1.2];exact eY.ext (gH.ext 0 (cI _))) gH.marks (dc hb (gH.ext 0 (cI _)).size) fun bD a2 bG tT=>dP bD a2 bG (gH.trans tT f1 f2)
  ·rename_i bu
   refine hx _ _ _ h1 _ _ _ he G a w ro base _ aa eY eT hb fun az al aE gH=> ?_;have:=dP az al aE gH;cases r with
   |normal=>exact absurd he (bu _)
   |exit id=>exact this
   |ret=>exact this
 ·cases hc
theorem ai6 (bF:fp C fid){o:Operand}{x y:Code}(hx:qJ C fid call n x)(hy:qJ C fid call n y):qJ C fid call n (.cond o x y):=by
 intro ac vars N hc st r aX he G a w ro base Q aa eY eT hb dP;simp only[Ctx.code]at hc;split at hc
 ·rename_i c cJ ln h0 h1 h2
  cases hc;simp only[exec,au.fT]at he;have af:=sH bF aa o c h0;split at he
  ·rename_i oe
   rw[oe]at af;exact wpIn_cond_true af.k1 (hx _ _ _ h1 _ _ _ he G a w ro base Q aa eY eT hb dP)
  ·rename_i oe
   rw[oe]at af;exact wpIn_cond_false af.k1 (hy _ _ _ h2 _ _ _ he G a w ro base Q aa eY eT hb dP)
  ·cases he
 ·cases hc
theorem ai7{id:Nat}{x:Code}(hx:qJ C fid call n x):qJ C fid call n (.block id x):=by
 intro ac vars N hc st r aX he G a w ro base Q aa eY eT hb dP;simp only[Ctx.code]at hc;obtain⟨cJ,h1,rfl⟩:=cG.1 hc;simp only[exec,au.fT]at he;refine wpIn_block ?_;split at he
 ·rename_i tE cm mo
  refine hx _ _ _ h1 _ _ _ mo G a w ro base _ aa eY eT hb fun az al aE gH=> ?_;split at he
  ·rename_i hid
   cases he;simp only[B8,Exit.inBlock,hid,if_true];exact dP az al aE gH
  ·rename_i hid
   cases he;simp only[B8,Exit.inBlock,hid,if_false];exact dP az al aE gH
 ·rename_i bu
  refine hx _ _ _ h1 _ _ _ he G a w ro base _ aa eY eT hb fun az al aE gH=> ?_;have:=dP az al aE gH;cases r with
  |normal=>exact this
  |exit id=>exact absurd he (bu _ _)
  |ret=>exact this
theorem ai8 (eP:my call){x:Code}(hx:qJ C fid call n x):qJ C fid call n (.loop x):=by
 intro ac vars N hc st r aX he G a w ro base Q aa eY eT hb dP;simp only[Ctx.code]at hc;obtain⟨cJ,h1,rfl⟩:=cG.1 hc;simp only[exec,au.fT]at he;refine Js (fun k al aE=>∃cm az,iter (exec call n cJ) k cm=some (r,aX)/\gG st cm/\Fin C fid vars N base st G w cm az al aE) ?_ ⟨st,G,he,.refl _,.refl aa eT⟩;rintro k al aE ⟨cm,az,hi,ae,gH⟩;cases k with
 |zero=>simp[iter]at hi
 |succ k=>
  refine⟨k,rfl,?_⟩;simp only[iter]at hi;have Cb:vB az cm.ro ro:=by rw[ae.2];exact eY.ext (gH.ext 0 (cI _))
  have oe:base<=aE.heap.size:=dc hb (gH.ext 0 (cI _)).size;split at hi
  ·rename_i gP nC
   have f2:=mz eP n _ _ _ _ gH.rel.low nC;exact hx _ _ _ h1 _ _ _ nC az al aE ro base _ gH.rel Cb gH.marks oe fun bD a2 bG tT=>⟨gP,bD,hi,ae.trans f2,gH.trans tT ae f2⟩
  ·rename_i bu
   have f2:=mz eP n _ _ _ _ gH.rel.low hi;refine hx _ _ _ h1 _ _ _ hi az al aE ro base _ gH.rel Cb gH.marks oe fun bD a2 bG tT=> ?_;have:=dP bD a2 bG (gH.trans tT ae f2);cases r with
   |normal=>exact absurd hi (bu _)
   |exit id=>exact this
   |ret=>exact this
end
end Go.Abs
namespace Go.Abs
open Go
variable{C:Ctx}{fid:Nat->Nat}{w w':World}{G G':cc}{H H':Heap}
theorem ai9{P:Program}(fn:FuncId)(tmps:Array Value)(ps:Array Tmp)(assign body:Code){b:Nat}{L:Loop}(h:w.heap[b]? =some (.loop L)):
  (Instr.enterLoop fn tmps ps assign body (some b)).run P w=.ok (w.heap.size,[]) (w.alloc (.loop {state:=.ready,pending:=none,fn,tmps,params:=ps,assign,body,defers:=L.defers})):=by
 unfold Instr.enterLoop;simp only[Sem.run_bind,run_getLoop h,run_newObj_alloc,Result.andThen,Sem.run_pure]
theorem O5{vars:List Nat}{st:au}{t:Nat}(h:t∈vars):dX vars st t=bR st.aw t:=by
 unfold dX;rw[if_pos (uW.2 h)]
theorem ET (aa:bf C fid G H w){l:Nat}{h:Home}(hb:G.β l=some h){st:LoopState}{tD:X}{env:Env}{ps:List Nat}{aU c2:b8}(hl:H[l]? =some (.loop st tD env ps aU c2)):
  h.tag=0/\h.ej=false/\∃L vars,w.heap[h.b]? =some (.loop L)/\L.state=st/\NJ tD L.pending/\
    L.params.toList=ps/\(∀t∈ps,t∈vars/\t<L.tmps.size)/\
    C.code vars L.tmps.size L.assign=some aU/\C.code vars L.tmps.size L.body=some c2/\∀t∈vars,bq fid G w (bR env t) (L.tmps.getD t undef):=by
 obtain⟨o,ho,hr⟩:=aa.obj l h hb;rw[hl]at ho;cases ho;exact hr
theorem aja{β:Nat->Option Home}{l:Nat}{h:Home}(hb:β l=some h):cA β l h=β:=by
 funext x;unfold cA;split
 ·rename_i e;rw[e,hb]
 ·rfl
theorem turn (aa:bf C fid G H w){l:Nat}{h:Home}(hb:G.β l=some h)(ae:h.ej=false)(a1:Obj)(o:cD)
  (ho:(∀b,b≠h.b->(w.putObj h.b a1).heap[b]? =w.heap[b]?)->(w.putObj h.b a1).heap[h.b]? =some a1->(∀b,G.I b->(w.putObj h.b a1).heap[b]? =w.heap[b]?)->jQ C fid G (w.putObj h.b a1) h o):
  bf C fid G (H.set l o) (w.putObj h.b a1)/\Ext G w G (w.putObj h.b a1) l H.length:=by
 have ah:∀b,b≠h.b->(w.putObj h.b a1).heap[b]? =w.heap[b]? :=fun b hv=>World.putObj_heap_other hv
 have a7:∀b,G.I b->(w.putObj h.b a1).heap[b]? =w.heap[b]? :=fun b hi=>ah b fun e=>by
  have:=(aa.dd b hi).2 l h hb e.symm;rw[ae]at this;cases this
 have h1:=ho ah (World.putObj_heap_same (aa.blk l h hb)) a7;have Cc:(⟨cA G.β l h,G.I⟩:cc)=G:=by rw[aja hb]
 have a:=bf.write (w':=w.putObj h.b a1) aa hb ae rfl ae (aM _) id rfl (by simp) ah o (by rw[Cc];exact h1);have b:=Ext.write (w':=w.putObj h.b a1) aa hb ae rfl (aM _) id rfl (by simp) ah rfl rfl;rw[Cc]at a b;exact⟨a,b⟩
section
variable{call:c1}{n:Nat}
theorem ajb (bF:fp C fid)(bn:hB C fid call){f:Operand}{ps:Array Tmp}{aU c2:Code}:qJ C fid call n (.rangeFunc f ps aU c2):=by
 intro ac vars N hc st r aX he G a w ro base Q aa eY eT hb dP;simp only[Ctx.code]at hc;split at hc
 ·rename_i mh Wc Wd h0 h1 h2
  split at hc
  ·rename_i u9
   cases hc
   have We:∀t∈ps.toList,t∈vars/\t<N:=fun t ht=>by
    have:=(Array.all_eq_true_iff_forall_mem.1 u9) t (Array.mem_toList_iff.1 ht);simp only[ca,decide_eq_true_eq,uW]at this;exact⟨this.2,this.1⟩
   simp only[exec]at he;split at he
   ·cases he
   ·rename_i aZ
    simp only[M6,ca]at aZ;obtain⟨Jt,ajc⟩:=aZ;split at he
    ·rename_i u H1 bS h8
     split at he
     ·rename_i ls tD T2 T3 sk T4 zb
      split at he
      ·cases he
      ·rename_i ajd
       cases he;have y0:=sH bF aa f mh h0;refine wpIn_rangeFunc fun fn _=> ?_
       obtain⟨gk,mark,R,EU,Ju,O6,aje,hL,vq,Cd,ajf,O7,ajg⟩:∃(gk:World) (mark:List Deferred) (R:Loop),
         (Instr.enterLoop fn a.tmps ps aU c2 (eJ ro).round).run C.P w=.ok (gk.heap.size,mark) (gk.alloc (.loop R))/\bf C fid G st.H gk/\(∀m n,Ext G w G gk m n)/\k5 C G gk base (mark++a.defers)/\
         R.state=.ready/\R.pending=none/\R.tmps=a.tmps/\R.params=ps/\R.assign=aU/\R.body=c2:=by
        cases ajh:ro with
        |none=>
         have ah:∀b,b<w.heap.size->(w.alloc (.deferred (some []))).heap[b]? =w.heap[b]? :=fun b hv=>alloc_old hv;have ea:w.heap.size<=(w.alloc (.deferred (some []))).heap.size:=by simp
         refine⟨w.alloc (.deferred (some [])),[Jr w.heap.size],{state:=.ready,pending:=none,fn,tmps:=a.tmps,params:=ps,assign:=aU,body:=c2,defers:=w.heap.size},?_,aa.rel.restore ea ah,fun m n=>.restore ea ah rfl rfl m n,?_,rfl,rfl,rfl,rfl,rfl,rfl⟩
         ·have:=run_enterLoop_outer (P:=C.P) (w:=w) fn a.tmps ps aU c2
          rw[show(eJ none).round=none from rfl,this];simp[Jr]
         ·obtain⟨rs,e,dx,k,ed⟩:=eT
          refine⟨.inl w.heap.size::rs,by rw[e];rfl,xc.2 ⟨fun hin=> ?_,dx⟩,fun r hr=> ?_,fun d hd=> ?_⟩
          ·obtain⟨q,bj,e'⟩:=TV.1 hin
           cases q with
           |inl r=>cases e';have:=(k _ bj).lt;omega
           |inr d=>cases e'
          ·rcases dL.1 hr with hr|hr
           ·cases hr
            exact⟨hb,by simp,ml _ _,fun l h e q=>by have:=aa.rel.blk l h e;omega,fun hi=>by have:=(aa.rel.dd _ hi).1;omega⟩
           ·exact(k r hr).ext (.restore (G:=G) ea ah rfl rfl 0 0)
          ·rcases dL.1 hd with hd|hd
           ·cases hd
           ·exact ed d hd
        |some b=>
         subst ajh;cases Wf:st.ro with
         |none=>rw[Wf]at eY;exact eY.elim
         |some o5=>
          rw[Wf]at eY Jt;obtain⟨h,e,t,q⟩:=eY;simp only[DS]at Jt;split at Jt
          ·rename_i qE
           obtain⟨-,-,L,vs,dY,-⟩:=ET aa.rel e qE;rw[q]at dY;exact⟨w,[],{state:=.ready,pending:=none,fn,tmps:=a.tmps,params:=ps,assign:=aU,body:=c2,defers:=L.defers},ai9 fn a.tmps ps aU c2 dY,aa.rel,fun m n=>.refl _ _ _ _,eT,rfl,rfl,rfl,rfl,rfl,rfl⟩
          ·cases Jt
       let hm:Home:=⟨gk.heap.size,0,0,false⟩;let az:cc:=⟨cA G.β st.H.length hm,G.I⟩;have Wg:mj G.β az.β:=BD (Ju.none (aM _)) _;have Wh:∀b,G.I b->az.I b/\(gk.alloc (.loop R)).heap[b]? =gk.heap[b]? :=fun b hi=>⟨hi,alloc_old (Ju.dd b hi).1⟩;have yU:∀t,bq fid G gk (dX vars st t) (a.tmps.getD t undef):=fun t=>(aa.env t).ext aa.rel (O6 0 0)
       have vC:bf C fid az (st.H++[.loop .ready .normal st.aw ps.toList Wc Wd]) (gk.alloc (.loop R)):=by
        refine Ju.push _ _ 0 0 ⟨rfl,rfl,R,vars,ml _ _,hL,by rw[vq];trivial,by rw[ajf],fun t ht=>⟨(We t ht).1,by rw[Cd,aa.size];exact(We t ht).2⟩,?_,?_,fun t ht=> ?_⟩
        ·rw[Cd,O7,aa.size];exact h1
        ·rw[Cd,ajg,aa.size];exact h2
        ·rw[Cd,<-O5 ht];exact(yU t).mono Wg Wh
       have Wi:∀m,Ext G gk az (gk.alloc (.loop R)) m st.H.length:=fun m=>.push Ju _ 0 0 m;have OI:bq fid az (gk.alloc (.loop R)) (mh.ai st.aG st.aw) (a.eval f):=((y0.ext aa.rel (O6 0 0)).mono Wg Wh)
       have aji:bk fid az (gk.alloc (.loop R)) [.yield st.H.length] [.func (.yield gk.heap.size) #[] #[]]:=
        .cons _ _ _ _ (.yield st.H.length hm (du _ _ _) rfl) .nil
       obtain⟨d,hd,hn,ajj⟩:=bn.run vC OI aji h8;obtain⟨g,gs,hinv⟩:=ajj ajc rfl;rw[hinv]at hn;refine⟨gk.heap.size,mark,_,d,gk.alloc (.loop R),g,gs,_,EU,?_,fun _ _=>trivial,hinv,fun h=>by simp[eJ]at h,?_⟩
       ·have e:Array.map a.eval #[Operand.const (Value.func (Fn.yield gk.heap.size) #[] #[])]=⟨[Value.func (Fn.yield gk.heap.size) #[] #[]]⟩:=by simp[Act.eval]
        simp only[resolve,rangeCall,e];exact hd
       ·have oZ:Calls C.P g gs (gk.alloc (.loop R)) (rangePost (eJ ro) 0 C.P gk.heap.size Q {a with defers:=mark++a.defers}):=by
         refine DN hn fun e fI hp=> ?_;obtain⟨y,rfl,bD,q1,aT,b3⟩:=hp;have EV:=aT 0 (cI _);obtain⟨h2,e2,-,z2,m2,-⟩:=EV.homes st.H.length hm (du _ _ _);have t2:=z2 rfl;have fY:h2.b=gk.heap.size:=(m2 t2).1;obtain⟨-,Wj,L,vs,dY,Wk,vD,-⟩:=ET q1 e2 zb;rw[fY]at dY;have hT:=turn q1 e2 Wj (.loop {L with state:=.exhausted}) .gone fun _ _ _=>⟨t2,Wj⟩;rw[fY]at hT;have rM:=bn.b2 _ _ _ _ _ _ h8;have hlen:st.H.length<=H1.length:=by have:=rM.len;simp at this;omega
         have Ce:∀m,m<=min st.low bS->Ext G w bD (fI.putObj gk.heap.size (.loop {L with state:=.exhausted})) m st.H.length:=fun m lO=>
          ((O6 m st.H.length).trans (Wi m)).trans (((aT m (by omega)).le (aM _) (by simp)).trans (hT.2.le (by have:=aa.low;omega) hlen))
         have dw:=Ce 0 (cI _)
         have ajk:dO C fid vars N bD {st with H:=H1.set st.H.length .gone,low:=min st.low bS} {a with defers:=mark++a.defers} (fI.putObj gk.heap.size (.loop {L with state:=.exhausted})):=
          ⟨hT.1,fun t=>(aa.env t).ext aa.rel dw,aa.size,by simp only[yt];have:=aa.low;omega⟩
         have ajl:k5 C bD (fI.putObj gk.heap.size (.loop {L with state:=.exhausted})) base (mark++a.defers):=((aje.ext (Wi 0)).ext EV).ext (hT.2.le (cI _) (aM _));have bj:=dP bD _ _ ⟨ajk,Ce,ajl⟩;refine⟨L.pending,_,run_endLoop dY (by rw[Wk];exact ajd),?_⟩;cases hp:L.pending with
         |none=>
          rw[hp]at vD bj;cases r with
          |normal=>exact bj
          |exit i=>exact vD.elim
          |ret=>exact vD.elim
         |some c=>
          rw[hp]at vD bj;cases r with
          |normal=>exact vD.elim
          |exit i=>
           cases c<;>first|exact vD.elim|skip
           rename_i j;have:j=i:=vD;subst this;exact wpIn_exit bj
          |ret=>
           cases c<;>first|exact vD.elim|skip
           exact wpIn_ret bj
        exact callsIn_wide.2 oZ
     ·cases he
    ·cases he
  ·cases hc
 ·cases hc
theorem rN (cR:C.P.follows .mixedOrders=true)(bF:fp C fid)(bn:hB C fid call):∀(c:Code),qJ C fid call n c
 | .skip=>by
   intro ac vars N hc st r aX he G a w ro base Q aa eY eT hb dP;simp only[Ctx.code,aA]at hc;subst hc;simp only[exec,aA,bC]at he;obtain⟨rfl,rfl⟩:=he;exact wpIn_skip (dP G a w (.refl aa eT))
 | .region id ops draw=>ai3 cR bF bn id ops draw
 | .seq x y=>ai5 bn.b2 (rN cR bF bn x) (rN cR bF bn y)
 | .cond o x y=>ai6 bF (rN cR bF bn x) (rN cR bF bn y)
 | .block id x=>ai7 (rN cR bF bn x)
 | .loop x=>ai8 bn.b2 (rN cR bF bn x)
 | .rangeFunc f ps x y=>ajb bF bn
 | .exit id=>by
   intro ac vars N hc st r aX he G a w ro base Q aa eY eT hb dP;simp only[Ctx.code,aA]at hc;subst hc;simp only[exec,aA,bC]at he;obtain⟨rfl,rfl⟩:=he;exact wpIn_exit (dP G a w (.refl aa eT))
 | .ret=>by
   intro ac vars N hc st r aX he G a w ro base Q aa eY eT hb dP;simp only[Ctx.code,aA]at hc;subst hc;simp only[exec,aA,bC]at he;obtain⟨rfl,rfl⟩:=he;exact wpIn_ret (dP G a w (.refl aa eT))
 | .scope _| .label _| .goto _| .refuse _=>by
   intro ac vars N hc st r aX he;simp only[Ctx.code,aA]at hc;subst hc;simp[exec]at he
end
end Go.Abs
namespace Go.Abs
open Go
variable{C:Ctx}{fid:Nat->Nat}{w w':World}{G G':cc}{H H':Heap}{call:c1}{n:Nat}
def o6 (C:Ctx)(fid:Nat->Nat)(i:Nat)(spec:List V->Option V):Prop:=
 ∀{G:cc} {H:Heap} {w:World} {args:List V} {v:V} {xs:List Value},bf C fid G H w->dn w G.I args xs->spec args=some v->rI C.P (lq C fid G H w v H H.length) ((callFunc i ⟨xs⟩).run C.P w)
def ajm (C:Ctx)(fid:Nat->Nat)(i:Nat)(spec:Ik):Prop:=
 ∀{G:cc} {H:Heap} {w:World} {args:List V} {v:V} {H':Heap} {low:Nat} {xs:List Value},bf C fid G H w->bk fid G w args xs->Il spec args H=some (v,H',low)->
  rI C.P (lq C fid G H w v H' low) ((callFunc i ⟨xs⟩).run C.P w)/\∃g aU,(callFunc i ⟨xs⟩).run C.P w=.ok (.enter g aU) w
structure dr (C:Ctx) (fid:Nat->Nat) (ad:Nat->Option cb):Prop where
 code:∀i f,ad i=some (.code f)->∃fn,C.P.funcs[i]? =some fn/\C.func fn f.fresh=some f
 ext:∀i spec,ad i=some (.ext spec)->o6 C fid i spec
 xk:∀i spec,ad i=some (.xk spec)->ajm C fid i spec
theorem Wl{vars:List Nat}:∀(ps:List Nat) (vs:List V) (xs:List Value) (env:Env) (tmps:Array Value),bk fid G w vs xs->(∀t∈ps,t<tmps.size)->
  (∀t,t∈vars->bq fid G w (bR env t) (tmps.getD t undef))->
  ((ps.zip xs).foldl (fun(tm:Array Value) (p:Nat × Value)=>tm.setIfInBounds p.1 p.2) tmps).size=tmps.size/\
    ∀t,t∈vars->bq fid G w (bR ((ps.zip vs).foldl (fun e (p:Nat × V)=>fN e p.1 p.2) env) t) (((ps.zip xs).foldl (fun(tm:Array Value) (p:Nat × Value)=>tm.setIfInBounds p.1 p.2) tmps).getD t undef)
 |[],vs,xs,env,tmps,_,_,h=>⟨rfl,by simpa using h⟩
 |p::ps,_,_,env,tmps,.nil,_,h=>⟨rfl,by simpa using h⟩
 |p::ps,_,_,env,tmps,.cons v x vs xs af hs,aH,h=>by
  have h1:=Wl ps vs xs (fN env p v) (tmps.setIfInBounds p x) hs (fun t ht=>by rw[Array.size_setIfInBounds];exact aH t (by simp[ht])) fun t ht=>by
   rw[VK];have:=OJ {tmps:=tmps,defers:=[]} p x t (aH p (by simp));simp only[Act.put]at this;rw[this];by_cases e:t=p
   ·rw[if_pos e,if_pos e];exact af
   ·rw[if_neg e,if_neg e];exact h t ht
  simp only[DI,xb];rw[Array.size_setIfInBounds]at h1;exact h1
theorem k5.nil (G:cc)(w:World)(base:Nat):k5 C G w base []:=⟨[],rfl,H9,(fun r hr=>by cases hr),fun r hr=>by cases hr⟩
theorem ajn (cR:C.P.follows .mixedOrders=true)(bF:fp C fid)(bn:hB C fid call){l:Nat}{args:List V}{v:V}{low':Nat}{xs:List Value}{h:Home}
  (he:pI (exec call n) l args H=some (v,H',low')) (aa:bf C fid G H w) (hb:G.β l=some h) (af:bk fid G w args xs):
  rI C.P (lq C fid G H w v H' low') ((Instr.yield h.b ⟨xs⟩).run C.P w):=by
 unfold pI at he;split at he
 ·rename_i p0 env params Wc Wd qE
  obtain⟨ht,hfz,L,vars,dY,Wk,vD,Wm,ajo,ajp,ajq,ajr⟩:=ET aa hb qE;split at he
  ·rename_i hlen
   have Wb:=run_yield (P:=C.P) (args:=⟨xs⟩) dY (by rw[<-hJ,<-hJ,Wm,bk.length af,hlen]);rw[Wb]
   have ajs:(r:Array Value)->((L.params.zip (⟨xs⟩:Array Value)).foldl (fun tmps (t,a)=>tmps.setIfInBounds t a) r)=(params.zip xs).foldl (fun(tm:Array Value) (p:Nat × Value)=>tm.setIfInBounds p.1 p.2) r:=fun r=>by
    rw[<-TT,Array.toList_zip,Wm]
   rw[ajs];obtain⟨ea,ajt⟩:=Wl (vars:=vars) params args xs env L.tmps af (fun t ht=>(ajo t ht).2) ajr;split at he
   ·rename_i cm mo
    have f1:=mz bn.b2 n _ _ _ _ (aM _) mo;split at he
    ·rename_i p1 Wn O8 Wo Wp zb
     split at he
     ·rename_i x lU pW
      split at he
      ·rename_i aAL p3 O9 Pa Pb Pc Wq
       cases he;refine roundIn_of_wpIn trivial ?_
       have ju:dO C fid vars L.tmps.size G {aG:=[],aw:=(params.zip args).foldl (fun e (t,v)=>fN e t v) env,H,low:=H.length,ro:=some l}
         {tmps:=(params.zip xs).foldl (fun(tm:Array Value) (p:Nat × Value)=>tm.setIfInBounds p.1 p.2) L.tmps,defers:=[]} w:=
        ⟨aa,fun t=>by
         unfold dX;split
         ·rename_i hin;exact ajt t (uW.1 hin)
         ·exact .undef _,ea,aM _⟩
       refine rN (n:=n) cR bF bn L.assign _ vars _ ajp _ _ _ mo G _ w (some h.b) 0 _ ju ⟨h,hb,ht,rfl⟩ (.nil _ _ _) (cI _) ?_;intro az al aE gH;have Ja:=gH.ext 0 (cI _);obtain⟨h1,ag,-,nf,m1,-⟩:=Ja.homes l h hb;have oe:h1.b=h.b:=(m1 ((nf ht).trans ht.symm)).1;obtain⟨t1,Wr,Ws,aju,q1,aT,b3,cZ,fq,hC,nH,Pf⟩:=ET gH.rel.rel ag zb
       have EW:=turn gH.rel.rel ag Wr (.loop {Ws with state:=.busy}) (.loop .busy p1 Wn O8 Wo Wp) fun ct dN jT=>
        ⟨t1,Wr,_,aju,dN,rfl,b3,cZ,fq,hC,nH,fun t ht=>(Pf t ht).mono (.refl _) fun b hb=>⟨hb,jT b hb⟩⟩
       have Wt:=run_beginRound (P:=C.P) q1 aT;rw[oe]at EW Wt;refine⟨_,Wt,?_⟩;have rM:min cm.low l<=cm.H.length:=by have:=gH.rel.low;omega
       have hL:dO C fid vars L.tmps.size az {cm with H:=cm.H.set l (.loop .busy p1 Wn O8 Wo Wp),low:=min cm.low l} al (aE.putObj h.b (.loop {Ws with state:=.busy})):=
        ⟨EW.1,fun t=>(gH.rel.env t).ext gH.rel.rel EW.2,gH.rel.size,by simpa using rM⟩
       have Cb:cm.ro=some l:=f1.2;refine rN (n:=n) cR bF bn L.body _ vars _ ajq _ _ _ pW az al _ (some h.b) 0 _ hL (by simp only[Cb];exact⟨h1,ag,t1,oe⟩) (gH.marks.ext EW.2) (cI _) ?_;intro jV a3 fI Jv;have f3:=mz bn.b2 n _ _ _ _ (by simpa using rM) pW;have Pg:=Jv.ext 0 (cI _);obtain⟨av,bI,-,z3,m3,-⟩:=Pg.homes l h1 ag;have zc:av.b=h.b:=(m3 ((z3 t1).trans t1.symm)).1.trans oe;obtain⟨t3,xB,Cf,ajv,bH,cw,ff,gW,jv,sI,zd,vE⟩:=ET Jv.rel.rel bI Wq;have Ph:H.length<=cm.H.length:=f1.1.len;have ajw:cm.H.length<=lU.H.length:=by have:=f3.1.len;simpa using this
       have Wu:lU.low<=cm.low/\lU.low<=l:=by have:=f3.1.low;simp only at this;omega
       have Ce:∀(jump:Option Code) (ls:LoopState),bf C fid jV (lU.H.set l (.loop ls x O9 Pa Pb Pc)) (fI.putObj h.b (.loop {Cf with state:=ls,pending:=jump}))/\
         Ext jV fI jV (fI.putObj h.b (.loop {Cf with state:=ls,pending:=jump})) l lU.H.length->
         ∀m,m<=min lU.low l->Ext G w jV (fI.putObj h.b (.loop {Cf with state:=ls,pending:=jump})) m H.length:=fun jump ls hT m hm=>
        ((gH.ext m (by omega)).trans ((EW.2.le (m':=m) (by omega) Ph))).trans (((Jv.ext m (by omega)).le (aM _) (by simpa using Ph)).trans (hT.2.le (by omega) (dc Ph ajw)))
       have hT:∀(jump:Option Code) (ls:LoopState),NJ x jump->bf C fid jV (lU.H.set l (.loop ls x O9 Pa Pb Pc)) (fI.putObj h.b (.loop {Cf with state:=ls,pending:=jump}))/\
         Ext jV fI jV (fI.putObj h.b (.loop {Cf with state:=ls,pending:=jump})) l lU.H.length:=fun jump ls hp=>by
        have:=turn Jv.rel.rel bI xB (.loop {Cf with state:=ls,pending:=jump}) (.loop ls x O9 Pa Pb Pc) fun ct dN jT=>
         ⟨t3,xB,_,ajv,dN,rfl,hp,gW,jv,sI,zd,fun t ht=>(vE t ht).mono (.refl _) fun b hb=>⟨hb,jT b hb⟩⟩
        rw[zc]at this;exact this
       rw[zc]at bH;cases x with
       |normal=>
        have T:=hT none .ready trivial;exact⟨_,_,run_endRound none bH,_,rfl,jV,T.1,Ce none .ready T,.p _ _ (.bool true)⟩
       |exit id=>
        have T:=hT (some (.exit id)) .done rfl;exact⟨_,_,run_endRound (some (.exit id)) bH,_,rfl,jV,T.1,Ce _ .done T,.p _ _ (.bool false)⟩
       |ret=>
        have T:=hT (some .ret) .done trivial;exact⟨_,_,run_endRound (some .ret) bH,_,rfl,jV,T.1,Ce _ .done T,.p _ _ (.bool false)⟩
      ·cases he
     ·cases he
    ·cases he
   ·cases he
  ·cases he
 ·cases he
end Go.Abs
namespace Go.Abs
open Go
variable{C:Ctx}{fid:Nat->Nat}{w w':World}{G G':cc}{H H':Heap}{call:c1}{n:Nat}
theorem jQ.tags{h h':Home}{o:cD}(a:jQ C fid G w h o)(b:jQ C fid G' w' h' o):h.tag=h'.tag/\h.ej=h'.ej:=by
 cases o with
 |cells vs=>exact⟨a.1.1.trans b.1.1.symm,a.2.1.trans b.2.1.symm⟩
 |row es ds ej=>exact⟨a.1.trans b.1.symm,a.2.2.1.trans b.2.2.1.symm⟩
 |map bs=>exact⟨a.1.trans b.1.symm,a.2.1.trans b.2.1.symm⟩
 |loop=>exact⟨a.1.trans b.1.symm,a.2.1.trans b.2.1.symm⟩
 |sj s=>exact⟨a.2.1.trans b.2.1.symm,a.1.trans b.1.symm⟩
 |dead n=>exact⟨a.2.trans b.2.symm,a.1.trans b.1.symm⟩
 |gone=>exact⟨a.1.trans b.1.symm,a.2.trans b.2.symm⟩
theorem Wv (aa:bf C fid G H w)(kj:bf C fid G' H' w')(hle:mj G.β G'.β)(hs:∀l,l<H.length->H'[l]? =H[l]?){l:Nat}{h:Home}(e:G.β l=some h):G'.β l=some h:=by
 obtain⟨h',e',-,-,m,-⟩:=hle l h e;obtain⟨o,ho,r⟩:=aa.obj l h e;obtain⟨o',kZ,nu⟩:=kj.obj l h' e';rw[hs l (aa.lt e),ho]at kZ;cases kZ;obtain⟨t,f⟩:=r.tags nu;obtain⟨aAM,aAN⟩:=m t.symm;rw[e'];congr 1;cases h;cases h';simp_all
theorem forget (aa:bf C fid G H w)(kj:bf C fid G' H' w'){m n:Nat}(dw:Ext G w G' w' m n)(hm:H.length<=m)(hn:H.length<=n)(hs:∀l,l<H.length->H'[l]? =H[l]?):
  bf C fid ⟨G.β,G'.I⟩ H w'/\(∀m n,Ext G w ⟨G.β,G'.I⟩ w' m n)/\∀{v:V} {x:Value},bq fid G' w' v x->old H.length v=true->bq fid ⟨G.β,G'.I⟩ w' v x:=by
 have ah:=dw.VI aa hm;have sC:=fun l h e=>Wv (l:=l) (h:=h) aa kj dw.homes hs e
 refine⟨⟨fun l h e=> ?_,aa.inj,fun l h e=>rj (aa.blk l h e) dw.size,fun b hb=>⟨(kj.dd b hb).1,fun l h e q=>(kj.dd b hb).2 l h (sC l h e) q⟩,fun l h e q=>dw.dd _ (aa.kX l h e q),
   fun b o bx=>⟨dw.dd _ (aa.fG b o bx).1,by rw[ah b (aa.dd b (aa.fG b o bx).1).1];exact(aa.fG b o bx).2⟩⟩,fun m n=>⟨dw.size,dw.os,dw.output,fun b hb _=>ah b hb,.refl _,fun l h e=>.inl ⟨h,e,.inl rfl⟩,dw.dd,dw.oR⟩,
  fun af ho=>af.restrict (G:=G') (G':=⟨G.β,G'.I⟩) (n:=H.length) (fun l h hl e=> ?_) (fun b hb=>⟨hb,rfl⟩) (.inl ho)⟩
 ·obtain⟨o,ho,r⟩:=aa.obj l h e
  exact⟨o,ho,jQ.mono (G:=G) (G':=⟨G.β,G'.I⟩) (.refl _) (fun b hb=>⟨dw.dd b hb,ah b (aa.dd b hb).1⟩) (ah _ (aa.blk l h e)) r⟩
 ·rcases dw.n7 l h e with⟨h0,eW,-⟩|⟨nb,-⟩
  ·have:=sC l h0 eW
   rw[e]at this;cases this;exact⟨h,eW,rfl⟩
  ·omega
theorem Ww (n:Nat):∀(a b:List V),olds n (a++b)=(olds n a&&olds n b)
 |[],b=>by simp[olds]
 |v::a,b=>by simp[olds,Ww n a b,DK]
theorem ajx (n:Nat)(v:V)(h:old n v=true):olds n (aF v)=true:=by
 cases v<;>simp_all [aF,olds,old]
theorem Wx (n:Nat):∀{ds:List V},olds n ds=true->olds n (ds.flatMap aF)=true
 |[],_=>rfl
 |d::ds,h=>by
  simp only[olds,ca]at h;rw[lH,Ww,ajx n d h.1,Wx n h.2];rfl
theorem Wy{fresh:Bool}{H1:Heap}{v v':V}{low low':Nat}{x:Value}(aa:bf C fid G H w)(kj:bf C fid G' H1 w')(dw:∀m,m<=low->Ext G w G' w' m H.length)(ae:Fr H H.length H1 low)
  (af:bq fid G' w' v x) (he:finish fresh H v H1 low=some (v',H',low')):lq C fid G H w v' H' low' x w':=by
 unfold finish at he;split at he
 ·rename_i l es off len tag
  split at he
  ·rename_i bN ds hl
   split at he
   ·rename_i hc
    obtain⟨dk,eu,fe,ix,iz⟩:=hc;subst fe ix;cases he;have hs:=fun l nb=>ae.same l (rj nb dk);have rO:=dw H.length dk;obtain⟨p1,p2,-⟩:=forget aa kj rO (aM _) (aM _) hs;obtain⟨h,a,m,cap,hb,hle,ao,rfl⟩:=af.oV;obtain⟨o,ho,hr⟩:=kj.obj l h hb;rw[hl]at ho;cases ho
    have Jw:w.heap.size<=h.b:=by
     rcases rO.n7 l h hb with⟨h0,eW,-⟩|⟨-,q⟩
     ·have:=aa.lt eW;omega
     ·exact q
    have sF:=aa.none (aM H.length);let bD:cc:=⟨cA G.β H.length h,G'.I⟩;have Wz:mj G.β bD.β:=BD sF h;have sC:=fun l h e=>Wv (l:=l) (h:=h) aa kj rO.homes hs e
    have ajy:∀{vs:List V} {xs:List Value},bk fid G' w' vs xs->olds H.length vs=true->bk fid bD w' vs xs:=fun c3 hold=>
     c3.restrict (G:=G') (G':=bD) (n:=H.length) (fun y h0 hy e=>by
      rcases rO.n7 y h0 e with⟨h1,ag,-⟩|⟨nb,-⟩
      ·have:=sC y h1 ag
       rw[e]at this;cases this;exact⟨h0,by show cA _ _ _ _=_;rw[dH (by omega)];exact ag,rfl⟩
      ·omega) (fun b hb=>⟨hb,rfl⟩) (.inl hold)
    have aB:jQ C fid bD w' h (.row bN ds false):=by
     obtain⟨bH,cw,ff,gW,jv,c,e,vals,rest,sI,zd,vE,EX⟩:=hr;exact⟨bH,cw,ff,gW,jv,c,e,vals,rest,sI,zd,vE,ajy EX (Wx _ iz)⟩
    refine⟨bD,⟨fun y h0 e=> ?_,fun y z h0 h1 ag e2 q=> ?_,fun y h0 e=> ?_,fun b hb=>⟨(kj.dd b hb).1,fun y h0 e q=> ?_⟩,fun y h0 e q=> ?_,p1.fG⟩,fun m hm=> ?_,?_⟩
    ·by_cases hy:y=H.length
     ·subst hy;rw[show bD.β=cA _ _ _ from rfl,du]at e;cases e
      exact⟨_,by simp,aB⟩
     ·rw[show bD.β=cA _ _ _ from rfl,dH hy]at e
      obtain⟨o,ho,r⟩:=p1.obj y h0 e;exact⟨o,by rw[gM (aa.lt e)];exact ho,jQ.mono (G:=⟨G.β,G'.I⟩) (G':=bD) Wz (fun b hb=>⟨hb,rfl⟩) rfl r⟩
    ·by_cases hy:y=H.length<;>by_cases aI:z=H.length
     ·rw[hy,aI]
     ·subst hy;rw[show bD.β=cA _ _ _ from rfl,du]at ag;cases ag
      rw[show bD.β=cA _ _ _ from rfl,dH aI]at e2;have:=aa.blk z h1 e2;omega
     ·subst aI;rw[show bD.β=cA _ _ _ from rfl,du]at e2;cases e2
      rw[show bD.β=cA _ _ _ from rfl,dH hy]at ag;have:=aa.blk y h0 ag;omega
     ·rw[show bD.β=cA _ _ _ from rfl,dH hy]at ag
      rw[show bD.β=cA _ _ _ from rfl,dH aI]at e2;exact aa.inj y z h0 h1 ag e2 q
    ·by_cases hy:y=H.length
     ·subst hy;rw[show bD.β=cA _ _ _ from rfl,du]at e;cases e;exact kj.blk l h hb
     ·rw[show bD.β=cA _ _ _ from rfl,dH hy]at e;exact p1.blk y h0 e
    ·by_cases hy:y=H.length
     ·subst hy;rw[show bD.β=cA _ _ _ from rfl,du]at e;cases e
      exact(kj.dd b hb).2 l h (by assumption) q
     ·rw[show bD.β=cA _ _ _ from rfl,dH hy]at e;exact p1.dd b hb |>.2 y h0 e q
    ·by_cases hy:y=H.length
     ·subst hy;rw[show bD.β=cA _ _ _ from rfl,du]at e;cases e
      exact kj.kX l h hb q
     ·rw[show bD.β=cA _ _ _ from rfl,dH hy]at e;exact p1.kX y h0 e q
    ·have q:=p2 m H.length
     exact⟨q.size,q.os,q.output,q.ey,Wz,fun y h0 e=>by
      by_cases hy:y=H.length
      ·subst hy;rw[show bD.β=cA _ _ _ from rfl,du]at e;cases e;exact .inr ⟨aM _,Jw⟩
      ·rw[show bD.β=cA _ _ _ from rfl,dH hy]at e;exact .inl ⟨h0,e,.inl rfl⟩,q.dd,q.oR⟩
    ·exact .b7 H.length bN off len _ h a m cap (du _ _ _) hle ao
   ·split at he
    ·cases he
     exact⟨G',kj,dw,af⟩
    ·cases he
  ·cases he
 ·split at he
  ·rename_i v1 H2 dM aI
   obtain⟨bD,ej,WA⟩:=IX kj af aI;have eP:=ae.trans (B1 aI).1;have EV:∀m,m<=dM->Ext G w bD w' m H.length:=fun m hm=>(dw m (dc hm ej.low)).trans ((ej.ext m hm).le (aM _) ae.len);split at he
   ·rename_i hc
    cases he;obtain⟨p1,p2,p3⟩:=forget aa ej.rel (EV H.length hc.1) (aM _) (aM _) (fun l hl=>eP.same l (rj hl hc.1));exact⟨_,p1,fun m _=>p2 m _,p3 WA hc.2⟩
   ·cases he
    exact⟨bD,ej.rel,EV,WA⟩
  ·cases he
theorem ajz{sh:Option Nat}{a u:V}{x:Value}(ao:bq fid G w a x)(he:jN H sh a=some u):∃dh,x=.pointer (some dh):=by
 unfold jN at he;split at he
 ·obtain⟨h,-,-,rfl⟩:=ao.oU;exact⟨_,rfl⟩
 ·obtain⟨h,dh,-,-,-,rfl⟩:=ao.Ej;exact⟨_,rfl⟩
 ·cases ao with
  |dW _ f b o vals _ _ _=>exact⟨_,rfl⟩
  |p _ _ h=>cases h
 ·cases he
def Jx (tmps:Array Value):ResultVar->Sem Value
 | .tmp t=>pure (tmps.getD t undef)
 | .cell a t=>do loadVar t (<-asAddr (tmps.getD a undef))
theorem ajA{r:ResultVar}{Pj:mV}(hr:C.res r=some Pj){aw:Env}{tmps:Array Value}(aa:bf C fid G H w)(af:∀t∈Ctx.rr [r],bq fid G w (bR aw t) (tmps.getD t undef)){v:V}(he:kC aw H Pj=some v):
  ∃x,(Jx tmps r).run C.P w=.ok x w/\bq fid G w v x:=by
 cases r with
 |tmp t=>
  simp only[Ctx.res,aA]at hr;subst hr;simp only[kC,aA]at he;subst he;exact⟨_,rfl,af t (by simp[Ctx.rr])⟩
 |cell a t=>
  simp only[Ctx.res]at hr;obtain⟨sh,ajB,rfl⟩:=cG.1 hr;simp only[kC]at he;have ao:=af a (by simp[Ctx.rr]);obtain⟨y,hy,hu⟩:=U3 aa ajB ao he;obtain⟨dh,iG⟩:=ajz ao he;rw[iG]at hy;refine⟨y,?_,hu⟩;simp only[Jx,iG,asAddr,Sem.run_bind,Sem.run_pure,Result.andThen_ok];simpa only[Instr.loadAt,Instr.sureAddr,Sem.run_bind,Sem.run_pure,Result.andThen_ok]using hy
theorem ajC (r:ResultVar)(rs:List ResultVar):Ctx.rr (r::rs)=Ctx.rr [r]++Ctx.rr rs:=by cases r<;>rfl
theorem WB:∀{rs:List ResultVar} {pY:List mV},ee C.res rs=some pY->∀{aw:Env} {tmps:Array Value},bf C fid G H w->(∀t∈Ctx.rr rs,bq fid G w (bR aw t) (tmps.getD t undef))->
  ∀{vs:List V},hK aw H pY=some vs->∃xs,(rs.mapM (Jx tmps)).run C.P w=.ok xs w/\bk fid G w vs xs
 |[],pY,hm,aw,tmps,aa,af,vs,he=>by
  simp only[ee,aA]at hm;subst hm;simp only[hK,aA]at he;subst he;exact⟨[],by simp,.nil⟩
 |r::rs,pY,hm,aw,tmps,aa,af,vs,he=>by
  simp only[ee]at hm;split at hm
  ·rename_i Pj h1
   split at hm
   ·rename_i aAO h2
    cases hm;simp only[hK]at he;split at he
    ·rename_i v av
     split at he
     ·rename_i vs' bc
      cases he;rw[ajC]at af;obtain⟨x,hx,ze⟩:=ajA h1 aa (fun t ht=>af t (kS.2 (.inl ht))) av;obtain⟨xs,eX,c3⟩:=WB h2 aa (fun t ht=>af t (kS.2 (.inr ht))) bc;refine⟨x::xs,?_,.cons _ _ _ _ ze c3⟩;rw[List.mapM_cons,Sem.run_bind,hx,Result.andThen_ok,Sem.run_bind,eX,Result.andThen_ok,Sem.run_pure]
     ·cases he
    ·cases he
   ·cases hm
  ·cases hm
def jW:List V->V
 |[v]=>v
 |vs=>.bd vs
theorem WC{fn:Func}{pY:List mV}(hm:ee C.res fn.results.toList=some pY){aw:Env}{tmps:Array Value}(aa:bf C fid G H w)(af:∀t∈Ctx.rr fn.results.toList,bq fid G w (bR aw t) (tmps.getD t undef))
  {vs:List V} (he:hK aw H pY=some vs):∃x,(results fn tmps).run C.P w=.ok x w/\bq fid G w (jW vs) x:=by
 obtain⟨xs,hx,c3⟩:=WB hm aa af he
 have e:results fn tmps=(do let vs <-fn.results.mapM (Jx tmps);pure (if h:vs.size=1 then vs[0]else .tuple vs)):=by
  unfold results;congr 1
 rw[e];refine⟨if h:(⟨xs⟩:Array Value).size=1 then(⟨xs⟩:Array Value)[0]else .tuple ⟨xs⟩,?_,?_⟩
 ·rw[Sem.run_bind,Array.mapM_eq_mapM_toList,Sem.run_map,hx]
  simp only[Result.andThen_ok,Sem.run_pure]
 ·cases c3 with
  |nil=>exact .bd [] [] .nil
  |cons v x vs xs h hs=>
   cases hs with
   |nil=>exact h
   |cons v2 cH ajD ajE h2 lN=>
    have:¬(⟨x::cH::ajE⟩:Array Value).size=1:=by simp
    rw[dif_neg this];exact .bd _ _ (.cons _ _ _ _ h (.cons _ _ _ _ h2 lN))
end Go.Abs
namespace Go.Abs
open Go
variable{C:Ctx}{fid:Nat->Nat}{w w':World}{G G':cc}{H H':Heap}{call:c1}{n:Nat}
theorem bf.Pk (aa:bf C fid G H w){r:Nat}(eS:∀l h,G.β l=some h->h.b≠r)(hi:¬G.I r)(o:Obj):bf C fid G H (w.putObj r o) where
 obj l h e:=by
  obtain⟨o,ho,hr⟩:=aa.obj l h e;exact⟨o,ho,hr.mono (.refl _) (fun b hb=>⟨hb,World.putObj_heap_other fun q=>hi (by rw[<-q];exact hb)⟩) (World.putObj_heap_other (eS l h e))⟩
 inj:=aa.inj
 blk l h e:=by rw[World.putObj_size];exact aa.blk l h e
 dd b hb:=by rw[World.putObj_size];exact aa.dd b hb
 kX:=aa.kX
 fG b o bx:=⟨(aa.fG b o bx).1,by rw[World.putObj_heap_other (k:=b) (r:=r) fun q=>hi (by rw[<-q];exact(aa.fG b _ bx).1)];exact(aa.fG b o bx).2⟩
theorem Ext.Pk{gk:World}{sJ:cc}{m k:Nat}(dw:Ext sJ gk G w m k){r:Nat}(hr:gk.heap.size<=r)(o:Obj):Ext sJ gk G (w.putObj r o) m k:=
 ⟨by rw[World.putObj_size];exact dw.size,dw.os,dw.output,fun b hb ah=>by rw[World.putObj_heap_other (by omega)];exact dw.ey b hb ah,dw.homes,dw.n7,dw.dd,dw.oR⟩
theorem Jy{fn:Func}{tmps:Array Value}{R:Ending->World->Prop}{gk:World}{sJ:cc}{m0:Nat->Prop}{k0:Nat}:
  ∀(rs:List (Nat ⊕ Deferred)) (w:World),(rs.filterMap fun| .inl r=>some r| .inr _=>none).Nodup->(∀r,.inl r∈rs->EP G w gk.heap.size r)->(∀d,.inr d∈rs->IY C.P d)->bf C fid G H w->(∀m,m0 m->Ext sJ gk G w m k0)->(∀v x,bq fid G w v x->True)->
   (∀bG,bf C fid G H bG->(∀m,m0 m->Ext sJ gk G bG m k0)->(∀{v:V} {x:Value},bq fid G w v x->bq fid G bG v x)->∃v,(results fn tmps).run C.P bG=.ok v bG/\R (.returned v) bG)->
   LeavesInM Fence.wide 0 C.P fn tmps R (rs.map (fun| .inl r=>Jr r| .inr d=>d)) .returning w
 |[],w,_,_,_,aa,dw,_,je=>je w aa dw fun h=>h
 | .inr d::rs,w,dx,hm,hn,aa,dw,_,je=>by
   obtain⟨fv,cap,f,args,ag,e2⟩:=hn d (by simp);obtain⟨bI,cz⟩:=e2 w;refine⟨by simp,.inr ⟨by simp[Fence.wide],fv,cap,f,args,ag,bI,fun _ _=>trivial,cz.mono ?_⟩⟩;rintro e u' w' ⟨⟨v,rfl⟩,rfl,rfl⟩;exact Jy rs _ dx (fun q bj=>hm q (by simp[bj])) (fun q bj=>hn q (by simp[bj])) aa dw (fun _ _ _=>trivial) je
 | .inl r::rs,w,dx,hm,hn,aa,dw,_,je=>by
   have hr:=hm r (by simp);have WD:=xc.1 dx;refine⟨by simp,.inl ⟨r,w.putObj r (.deferred none),rfl,run_takeDeferred hr.obj,?_⟩⟩
   have af:∀{v:V} {x:Value},bq fid G w v x->bq fid G (w.putObj r (.deferred none)) v x:=fun h=>
    h.mono (.refl _) fun b hb=>⟨hb,World.putObj_heap_other fun q=>hr.dd (by rw[<-q];exact hb)⟩
   refine Jy rs _ WD.2 (fun q bj=> ?_) (fun q bj=>hn q (by simp[bj])) (aa.Pk hr.home hr.dd _) (fun m hm=>(dw m hm).Pk hr.base _) (fun _ _ _=>trivial) fun bG a b c=>je bG a b fun h=>c (af h);have k:=hm q (by simp[bj]);have bu:q≠r:=fun e=>WD.1 (by rw[<-e];exact TV.2 ⟨.inl q,bj,rfl⟩);exact⟨k.base,by rw[World.putObj_size];exact k.lt,by rw[World.putObj_heap_other bu];exact k.obj,k.home,k.dd⟩
theorem Pl:∀(vs:List V) (i t:Nat),bR (gF i vs) t=if i<=t then(vs[t-i]?).getD .undef else .undef
 |[],i,t=>by simp[gF,bR]
 |v::r,i,t=>by
  simp only[gF,bR];by_cases h:i=t
  ·subst h;simp
  ·rw[if_neg h,Pl r (i+1) t]
   by_cases h2:i<=t
   ·rw[if_pos h2,if_pos (by omega)]
    have:t-i=(t-(i+1))+1:=by omega
    rw[this,Bd]
   ·rw[if_neg h2,if_neg (by omega)]
theorem Jz{fn:Func}{fresh:Bool}{f:hh}(h:C.func fn fresh=some f):
  ∃c,fn.body=some c/\C.code (Ctx.varsOf fn) fn.ntmps c=some f.body/\ee C.res fn.results.toList=some f.results/\(fn.name== "runtime.NumGoroutine")=false/\f.xf=fn.ntmps/\f.fresh=fresh:=by
 unfold Ctx.func at h;split at h
 ·rename_i c hb
  split at h
  ·rename_i b rs h1 h2
   split at h
   ·cases h
   ·rename_i hn
    cases h;exact⟨c,hb,h1,h2,by simpa using hn,rfl,rfl⟩
  ·cases h
 ·cases h
theorem WE{fn:Func}{t:Nat}(h:t∈Ctx.rr fn.results.toList):t∈Ctx.varsOf fn:=by
 unfold Ctx.varsOf;rw[List.mem_eraseDups];simp[h]
theorem WG (cR:C.P.follows .mixedOrders=true)(bF:fp C fid)(bn:hB C fid call){ot:Nat}{f:hh}{fn:Func}(ae:C.P.funcs[ot]? =some fn)(iI:C.func fn f.fresh=some f)
  {args:List V} {v:V} {low':Nat} {xs:List Value} (he:gu (exec call n) f args H=some (v,H',low')) (aa:bf C fid G H w) (af:bk fid G w args xs):
  Calls C.P ot ⟨xs⟩ w (fun e w'=>∃x,e=.returned x/\lq C fid G H w v H' low' x w'):=by
 obtain⟨c,hb,ajF,tS,-,ajG,-⟩:=Jz iI;unfold gu at he;split at he
 ·rename_i hlen
  have jc:=af.length
  have ju:dO C fid (Ctx.varsOf fn) fn.ntmps G {aG:=[],aw:=gF 0 args,H,low:=H.length} {tmps:=(⟨xs⟩:Array Value)++Array.replicate (fn.ntmps-(⟨xs⟩:Array Value).size) undef,defers:=[]} w:=by
   refine⟨aa,fun t=> ?_,?_,aM _⟩
   ·unfold dX
    split
    ·rw[Pl]
     simp only[cI,if_true,Nat.sub_zero];cases ao:args[t]? with
     |none=>exact .undef _
     |some u=>
      obtain⟨x,hx,zf⟩:=af.get ao
      have aH:t<xs.length:=by
       rcases gq t xs.length with h|h
       ·exact h
       ·simp[nt h]at hx
      have:((⟨xs⟩:Array Value)++Array.replicate (fn.ntmps-(⟨xs⟩:Array Value).size) undef).getD t undef=x:=by
       rw[w4,af7 (by simpa using aH)];simp[hx]
      rw[this];exact zf
    ·exact .undef _
   ·simp only[yq,Array.size_replicate]
    show xs.length+(fn.ntmps-xs.length)=fn.ntmps;rw[jc,<-ajG];omega
  have oo:∀(st:au) (G':cc) (bl:Act) (w':World),gG {aG:=[],aw:=gF 0 args,H,low:=H.length} st->(∃vs,hK st.aw st.H f.results=some vs/\finish f.fresh H (jW vs) st.H st.low=some (v,H',low'))->
    Fin C fid (Ctx.varsOf fn) fn.ntmps w.heap.size {aG:=[],aw:=gF 0 args,H,low:=H.length} G w st G' bl w'->
    LeavesInM Fence.wide 0 C.P fn bl.tmps (fun e w'=>∃x,e=.returned x/\lq C fid G H w v H' low' x w') bl.defers .returning w':=by
   rintro st G' bl w' eP ⟨vs,hr,sB⟩ F;obtain⟨rs,Pm,dx,hm,EY⟩:=F.marks;rw[Pm];refine Jy (m0:=fun m=>m<=st.low) rs w' dx hm EY F.rel.rel F.ext (fun _ _ _=>trivial) fun bG ct dN jT=> ?_
   obtain⟨x,hx,zf⟩:=WC tS ct (fun t ht=>by
    have:=F.rel.env t;rw[O5 (WE ht)]at this;exact jT this) hr
   exact⟨x,hx,x,rfl,Wy aa ct dN eP.1 zf sB⟩
  have WH:∀{st:au},(match hK st.aw st.H f.results with|some [v]=>finish f.fresh H v st.H st.low|some vs=>finish f.fresh H (.bd vs) st.H st.low|none=>none)=some (v,H',low')->
    ∃vs,hK st.aw st.H f.results=some vs/\finish f.fresh H (jW vs) st.H st.low=some (v,H',low'):=fun {st} h=>by
   split at h
   ·rename_i u hr;exact⟨[u],hr,h⟩
   ·rename_i vs bu hr
    refine⟨vs,hr,?_⟩
    have:jW vs=.bd vs:=by
     cases vs with
     |nil=>rfl
     |cons a r=>
      cases r with
      |nil=>exact absurd rfl (bu a)
      |cons b r=>rfl
    rw[this];exact h
   ·cases h
  have go:∀(JA:X) (st:au),(JA=.normal\/JA=.ret)->exec call n f.body {aG:=[],aw:=gF 0 args,H,low:=H.length}=some (JA,st)->
    (∃vs,hK st.aw st.H f.results=some vs/\finish f.fresh H (jW vs) st.H st.low=some (v,H',low'))->Calls C.P ot ⟨xs⟩ w (fun e w'=>∃x,e=.returned x/\lq C fid G H w v H' low' x w'):=fun JA st Pn hex sB=>by
   refine(callsIn_wide (n:=0)).1 (callsIn_of_wp_marks ae hb trivial ?_);have eP:=mz bn.b2 n _ _ _ _ (aM _) hex;refine rN (n:=n) cR bF bn c _ _ _ ajF _ _ _ hex G _ w none w.heap.size _ ju trivial (.nil _ _ _) (aM _) fun G' bl w' F=> ?_;have:=oo st G' bl w' eP sB F;rcases Pn with rfl|rfl
   ·exact this
   ·exact this
  split at he
  ·rename_i st hex;exact go _ st (.inl rfl) hex (WH he)
  ·rename_i st hex;exact go _ st (.inr rfl) hex (WH he)
  ·cases he
 ·cases he
theorem EZ{ot:Nat}{fn:Func}{c:Code}(ae:C.P.funcs[ot]? =some fn)(hb:fn.body=some c)(hn:(fn.name== "runtime.NumGoroutine")=false)(aU:Array Value):
  (callFunc ot aU).run C.P w=.ok (.enter ot aU) w:=by
 unfold callFunc;have oZ:¬fn.name= "runtime.NumGoroutine" :=by simpa using hn
 simp[Sem.run_bind,Sem.run,program,ae,hb,oZ,Result.andThen]
theorem E0 (cR:C.P.follows .mixedOrders=true)(bF:fp C fid){ad:Nat->Option cb}(hT:dr C fid ad):∀(n:Nat),hB C fid (bm ad n)
 |0=>⟨Jh ad 0,fun _ _ _ he=>by simp[bm]at he⟩
 |n+1=>by
  have ih:=E0 cR bF hT n;refine⟨Jh ad (n+1),fun {G H w f args v H' low' OE xs} aa y0 nB he=> ?_⟩;simp only[bm,qx]at he;split at he
  ·rename_i i first caps
   obtain⟨fs,cs,ajH,JB,ajI⟩:=y0.BK;subst ajI;have vv:bk fid G w (first++args++caps) (fs++xs++cs):=(ajH.append nB).append JB
   have ajJ:(invoke (.fn (.func i) ⟨cs⟩) ((⟨fs⟩:Array Value)++⟨xs⟩)).run C.P w=(callFunc i ⟨fs++xs++cs⟩).run C.P w:=by
    simp[invoke]
   refine⟨{target:=.fn (.func i) ⟨cs⟩,args:=(⟨fs⟩:Array Value)++⟨xs⟩},rfl,?_⟩;rw[ajJ];split at he
   ·rename_i ajK o7
    obtain⟨fn,iI,Cg⟩:=hT.code i ajK o7;obtain⟨c,hb,-,-,E1,-⟩:=Jz Cg;rw[EZ iI hb E1];exact⟨WG cR bF ih iI Cg he aa vv,fun _ _=>⟨_,_,rfl⟩⟩
   ·rename_i spec o7
    split at he
    ·rename_i hp
     obtain⟨u,hu,he⟩:=cG.1 he;cases he;refine⟨hT.ext i spec o7 aa (vv.pM hp) hu,fun _ vc=> ?_⟩;rw[BH,BH]at hp;simp[vc]at hp
    ·cases he
   ·rename_i spec o7
    obtain⟨h1,h2⟩:=hT.xk i spec o7 aa vv he;exact⟨h1,fun _ _=>h2⟩
   ·cases he
  ·rename_i l
   obtain⟨h,hb,ht,rfl⟩:=y0.agY;refine⟨{target:=.fn (.yield h.b) #[],args:= #[]++⟨xs⟩},rfl,?_,fun iI=>by simp[Bo]at iI⟩;have:(invoke (.fn (.yield h.b) #[]) (#[]++(⟨xs⟩:Array Value))).run C.P w=(Instr.yield h.b ⟨xs⟩).run C.P w:=by simp[invoke]
   rw[this];exact ajn cR bF ih he aa hb nB
  ·cases he
theorem WI (cR:C.P.follows .mixedOrders=true)(bF:fp C fid){ad:Nat->Option cb}(hT:dr C fid ad){n i:Nat}{f:hh}(hi:ad i=some (.code f)){args:List V}{v:V}{low':Nat}{xs:List Value}
  (he:bm ad n (.fn i [] []) args H=some (v,H',low')) (aa:bf C fid G H w) (af:bk fid G w args xs):
  Calls C.P i ⟨xs⟩ w (fun e w'=>∃x,e=.returned x/\lq C fid G H w v H' low' x w'):=by
 cases n with
 |zero=>simp[bm]at he
 |succ n=>
  simp only[bm,qx,hi,ke,rk]at he;obtain⟨fn,iI,Cg⟩:=hT.code i f hi;exact WG cR bF (E0 cR bF hT n) iI Cg he aa af
end Go.Abs
namespace Go.Abs
open Go
variable{C:Ctx}{fid:Nat->Nat}{w w':World}{G G':cc}{H H':Heap}
theorem bf.apart (aa:bf C fid G H w):bf C fid ⟨fun _=>Option.none,G.I⟩ [] w where
 obj _ _ e:=by cases e
 inj _ _ _ _ e:=by cases e
 blk _ _ e:=by cases e
 dd b hb:=⟨(aa.dd b hb).1,fun _ _ e=>by cases e⟩
 kX _ _ e:=by cases e
 fG:=aa.fG
theorem lq.beside (aa:bf C fid G H w){v:V}{l:Nat}{x:Value}(hp:bQ v=true)(h:lq C fid ⟨fun _=>Option.none,G.I⟩ [] w v H' l x w'):lq C fid G H w v H H.length x w':=by
 obtain⟨az,hL,he,af⟩:=h;have e:=he 0 (cI _);have ey:∀b,b<w.heap.size->w'.heap[b]? =w.heap[b]? :=fun b hb=>e.ey b hb fun _ _ q=>by cases q
 have a7:∀b,G.I b->az.I b/\w'.heap[b]? =w.heap[b]? :=fun b hb=>⟨e.dd b hb,ey b (aa.dd b hb).1⟩
 have oR:∀b,az.I b->G.I b\/w.heap.size<=b:=fun b hb=>by
  rcases e.oR b hb with q|q|⟨_,_,q,_⟩
  ·exact .inl q
  ·exact .inr q
  ·cases q
 refine⟨⟨G.β,az.I⟩,⟨fun l h q=> ?_,aa.inj,fun l h q=>rj (aa.blk l h q) e.size,fun b hb=>⟨(hL.dd b hb).1,fun l h q ajL=> ?_⟩,fun l h q ajM=>e.dd _ (aa.kX l h q ajM),hL.fG⟩,
  fun m _=>⟨e.size,e.os,e.output,fun b hb _=>ey b hb,.refl _,fun l h q=>.inl ⟨h,q,.inl rfl⟩,e.dd,fun b hb=>(oR b hb).imp id .inl⟩,.p _ _ (af.pM hp)⟩
 ·obtain⟨o,ho,hr⟩:=aa.obj l h q
  exact⟨o,ho,jQ.mono (G:=G) (G':=⟨G.β,az.I⟩) (mj.refl G.β) a7 (ey _ (aa.blk l h q)) hr⟩
 ·rcases oR b hb with q'|q'
  ·exact(aa.dd b q').2 l h q ajL
  ·have:=aa.blk l h q;omega
theorem WJ (cR:C.P.follows .mixedOrders=true)(bF:fp C fid){ad:Nat->Option cb}(hT:dr C fid ad){n i:Nat}{f:hh}(hi:ad i=some (.code f)){spec:List V->Option V}
  (hs:∀args v,spec args=some v->bQ v=true/\∃H' l,bm ad n (.fn i [] []) args []=some (v,H',l)):o6 C fid i spec:=by
 intro G H w args v xs aa eX ng;obtain⟨hp,H',l,he⟩:=hs args v ng;have hc:=WI cR bF hT hi he aa.apart (dn.oP eX);obtain⟨fn,iI,Cg⟩:=hT.code i f hi;obtain⟨c,hb,-,-,E1,-⟩:=Jz Cg;rw[EZ iI hb E1];exact DN hc fun e w'=>fun⟨x,ag,e2⟩=>⟨x,ag,e2.beside aa hp⟩
def E2 (aU:List V)(v:V):List V->Option V:=fun args=>if nv args aU=true then some v else none
theorem ajN (cR:C.P.follows .mixedOrders=true)(bF:fp C fid){ad:Nat->Option cb}(hT:dr C fid ad){n i:Nat}{f:hh}(hi:ad i=some (.code f)){aU:List V}{v:V}{H':Heap}{l:Nat}
  (hp:bQ v=true) (he:bm ad n (.fn i [] []) aU []=some (v,H',l)):o6 C fid i (E2 aU v):=
 WJ cR bF hT hi fun args u hu=>by
  unfold E2 at hu;split at hu
  ·rename_i bj
   cases hu;rw[tR _ _ bj];exact⟨hp,H',l,he⟩
  ·cases hu
theorem E3{ad:Nat->Option cb}(hT:dr C fid ad){k:Nat}{spec:List V->Option V}(hs:o6 C fid k spec):dr C fid (over ad k spec) where
 code i f h:=by
  unfold over at h;cases e:Nat.beq i k with
  |true=>rw[e]at h;cases h
  |false=>rw[e]at h;exact hT.code i f h
 ext i sp h:=by
  unfold over at h;cases e:Nat.beq i k with
  |true=>
   rw[e]at h;have h':some (cb.ext spec)=some (.ext sp):=h;cases h';rw[e8 e];exact @hs
  |false=>rw[e]at h;exact hT.ext i sp h
 xk i sp h:=by
  unfold over at h;cases e:Nat.beq i k with
  |true=>rw[e]at h;cases h
  |false=>rw[e]at h;exact hT.xk i sp h
theorem JC (cR:C.P.follows .mixedOrders=true)(bF:fp C fid){ad:Nat->Option cb}(hT:dr C fid ad){n i:Nat}{f:hh}(hi:ad i=some (.code f)):∀{l:List (List V × V)},hq ad n i l->o6 C fid i (hk l):=by
 intro l hl;refine WJ cR bF hT hi (n:=n) fun args u hu=> ?_
 induction l with
 |nil=>cases hu
 |cons p r ih=>
  obtain⟨aU,v⟩:=p;simp only[hk]at hu;cases e:nv args aU with
  |true=>
   rw[e]at hu;have h':some v=some u:=hu;cases h';rw[tR _ _ e];exact⟨hl.1.1,[],0,hl.1.2⟩
  |false=>rw[e]at hu;exact ih hl.2 hu
end Go.Abs
namespace Go.Abs
open Go
variable{C:Ctx}{fid:Nat->Nat}{w w':World}{G G':cc}{H H':Heap}
theorem WK{P:Program}(ty:TypeId){r kF since fr bT:Nat}{seen:Array Nat}{es:Array MapEntry}(hr:w.heap[r]? =some (.mapIter (some kF) since seen fr))(hb:w.heap[kF]? =some (.map es bT))
  (hold:∀x∈es.toList,x.born<since) (ajO:since<=fr):
  ((leftOf es seen).size=0/\(Instr.next (.pointer (some ⟨r,0,none⟩)) false ty).run P w=.ok (.tuple #[.bool false]) w)\/
  ∃e∈(leftOf es seen).toList,∃aE:World,aE.heap=w.heap.setIfInBounds r (.mapIter (some kF) since (seen.push e.born) bT)/\aE.os=w.os/\aE.output=w.output/\
   (Instr.next (.pointer (some ⟨r,0,none⟩)) false ty).run P w=.ok (.tuple #[.bool true,e.key,e.val]) aE:=by
 simp only[Instr.next,getObj,Sem.run_bind,Sem.run,hr,hb,Result.andThen,next_test_false seen es since fr hold ajO,gN,if_false];unfold leftOf;have dG:∀x∈(Array.filter (fun e=>!seen.contains e.born) es).toList,x.born<since:=fun x hx=>hold x (by simp at hx⊢; exact hx.1);generalize Array.filter (fun e=>!seen.contains e.born) es=L at dG⊢;have ag:L.filter (fun x=>decide (x.born<since))=L:=Array.filter_eq_self.2 (fun x hx=>by simpa using dG x (by simpa using hx))
 have e2:L.filter (fun x=>decide (x.born>=since))= #[]:=by
  rw[af9];intro x hx;have:=dG x (by simpa using hx);simp;omega
 simp only[ag,e2,Array.append_empty];by_cases h0:L.size=0
 ·left
  have:L= #[]:=af6 h0;subst this;refine⟨rfl,?_⟩;simp[choose,Sem.run,Question.forced]
 ·right
  have bu:L.isEmpty=false:=by simp[Array.isEmpty,h0]
  simp only[bu,gN,if_false,Array.empty_append,Array.size_map]
  have ajP:∃(j:Nat) (aE:World),j<L.size/\aE.heap=w.heap/\aE.os=w.os/\aE.output=w.output/\(choose (Question.mapNext L.size)).run P w=.ok j aE:=by
   by_cases ae:L.size<=1
   ·exact⟨0,w,by omega,rfl,rfl,rfl,by simp[choose,Sem.run,Question.forced,ae]⟩
   ·exact⟨_,w.drew,Nat.mod_lt _ (by omega),rfl,rfl,rfl,by
     simp only[choose,Sem.run,Question.forced,decide_eq_true_eq,ae,if_false,Question.cut];rfl⟩
  obtain⟨j,aE,hj,al,a2,a3,cn⟩:=ajP
  have aAP:r<w.heap.size:=by
   rcases gq r w.heap.size with h|h
   ·exact h
   ·simp[HU h]at hr
  refine⟨L[j],by simp,{aE with heap:=aE.heap.setIfInBounds r (.mapIter (some kF) since (seen.push L[j].born) bT)},by rw[al],a2,a3,?_⟩
  have rP:∀(o':Obj),(setObj r o').run P aE=.ok () {aE with heap:=aE.heap.setIfInBounds r o'}:=fun o'=>by
   simp only[setObj,Sem.run];rw[al,hr]
  simp only[cn,Array.getElem?_map,Array.getElem?_eq_getElem hj,tz,Sem.run_bind,rP,Result.andThen];rfl
theorem WL{P:Program}{r kF since bT:Nat}{seen:Array Nat}{es:Array MapEntry}{e:MapEntry}(hr:w.heap[r]? =some (.mapIter (some kF) since (seen.push e.born) bT))(hb:w.heap[kF]? =some (.map es bT))
  (he:e∈es.toList) (hn:(es.toList.map (·.born)).Nodup):
  (Instr.entry (.pointer (some ⟨r,0,none⟩))).run P w=.ok (.tuple #[e.key,e.val]) w:=by
 have ae:es.find? (·.born==e.born)=some e:=by rw[<-Array.find?_toList];exact find_born e es.toList hn he
 simp only[Instr.entry,getObj,Sem.run_bind,Sem.run,hr,hb,Result.andThen,Array.back?_push,bne_self_eq_false,gN,if_false,ae];rfl
section
variable{vars:List Nat}{N:Nat}{ops:Array Oper}
theorem JD{j:Nat}{o:Oper}{a:Act}{K:Act->World->Prop}{Q:Exit->Act->World->Prop}{ro:Option Nat}(ho:ops[j]? =some o)(bx:o.guard=none)(hnd:∀c,o.op≠ .defer c){x:Value}{aE:World}
  (cn:(execOp a.eval o).run C.P w=.ok (.value x) aE) (oi:K (a.put o.dst x) aE):wpOpIn (eJ ro) 0 C.P ops Q j K a w:=by
 unfold wpOpIn;rw[ho];have hw:Region.wanted o (yielded ops a.tmps)=true:=by unfold Region.wanted;rw[bx]
 simp only[hw,if_true];refine⟨fun _ _=>trivial,?_⟩;rw[Oper.semAt_eq _ _ _ hnd,cn];exact oi
theorem dO.put{st:au}{a:Act}(h:dO C fid vars N G st a w){t:Nat}(hZ:t<N){v:V}{x:Value}(af:bq fid G w v x):
  dO C fid vars N G (st.put (some (t,vars.contains t)) v) (a.put (some t) x) w:=by
 have hp:=kE st (some (t,vars.contains t)) v;refine⟨by rw[hp.1];exact h.rel,fun s=> ?_,by rw[xx];exact h.size,by rw[hp.1,hp.2.1];exact h.low⟩;rw[OJ _ _ _ _ (by rw[h.size];exact hZ),EE];by_cases e:s=t
 ·rw[if_pos e,if_pos e];exact af
 ·rw[if_neg e,if_neg e];exact h.env s
end
end Go.Abs
