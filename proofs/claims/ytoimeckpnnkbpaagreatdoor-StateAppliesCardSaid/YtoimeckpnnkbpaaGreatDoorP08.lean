/- Texts of this claim, joined and written short by a program. -/
import Derived.Test.YtoimeckpnnkbpaaGreatDoorP07
import Derived.Test.YtoimeckpnnkbpaaGreatDoorP01
import Derived.Laws.IdiomRangeMap
import Derived.Test.YtoimeckpnnkbpaaGreatDoorP00
set_option linter.unusedVariables false
set_option linter.unusedSimpArgs false
set_option linter.unusedSectionVars false
namespace Go.Abs
open Go
variable{C:Ctx}{fid:Nat->Nat}{w w':World}{G G':bX}{H H':Heap}
def AK:X->Exit
 | .normal=>.normal
 | .exit id=>.exit id
 | .ret=>.ret
def uU (G:bX):Option Nat->Option Nat->Prop
 |none,none=>True
 |some l,some b=>∃h,G.β l=some h/\h.tag=0/\h.b=b
 | _,_=>False
theorem uU.ext{m n:Nat}(h:Ext G w G' w' m n):∀{l b:Option Nat},uU G l b->uU G' l b
 |none,none,_=>trivial
 |some l,some b,⟨h0,e,t,q⟩=>by
  obtain⟨h',e',-,z,m,-⟩:=h.homes l h0 e;exact⟨h',e',z t,by rw[(m ((z t).trans t.symm)).1];exact q⟩
 |none,some _,k|some _,none,k=>k.elim
def GM (r:Nat):Deferred:={target:=.collected r,args:= #[]}
structure C1 (G:bX) (w:World) (base r:Nat):Prop where
 base:base<=r
 lt:r<w.heap.size
 obj:w.heap[r]? =some (.deferred (some []))
 home:∀l h,G.β l=some h->h.b≠r
 cX:¬G.I r
def kF (C:Ctx)(G:bX)(w:World)(base:Nat)(ds:List Deferred):Prop:=∃rs:List (Nat ⊕ Deferred),ds=rs.map (fun| .inl r=>GM r| .inr d=>d)/\(rs.filterMap fun| .inl r=>some r| .inr _=>none).Nodup/\
 (∀r,.inl r∈rs->C1 G w base r)/\∀d,.inr d∈rs->Gd C.P d
theorem C1.ext{m n base r:Nat}(h:Ext G w G' w' m n)(k:C1 G w base r):C1 G' w' base r where
 base:=k.base
 lt:=qs k.lt h.size
 obj:=by rw[h.dQ r k.lt fun l x af e2=>absurd e2 (k.home l x af)];exact k.obj
 home l x e q:=by
  rcases h.KK l x e with⟨c6,dI,eb⟩|hs
  ·exact k.home l c6 dI (eb.trans q)
  ·have:=k.lt;omega
 cX hi:=by
  rcases h.n1 r hi with h1|h1|⟨l,x,e,eb⟩
  ·exact k.cX h1
  ·have:=k.lt;omega
  ·exact k.home l x e eb
theorem kF.ext{m n base:Nat}{ds:List Deferred}(h:Ext G w G' w' m n):kF C G w base ds->kF C G' w' base ds
 |⟨rs,e,dk,k,q⟩=>⟨rs,e,dk,fun r hr=>(k r hr).ext h,q⟩
theorem rX (bu:eZ C fid){vars:List Nat}{N:Nat}{st:aq}{a:Act}(U:dy C fid vars N G st a w):fh C fid vars G w (ag.ae st.aG st.av) a.eval:=fun x cv hx=>by
 cases x with
 |tmp t=>
  simp only[Ctx.b3,az]at hx;have e:cv.ae st.aG st.av=dC vars st t:=by rw[<-hx];unfold dC;split<;>rfl
  rw[e];exact U.env t
 |const u=>
  simp only[Ctx.b3]at hx;obtain⟨Sw,kU,rfl⟩:=ct.1 hx;rcases Cw (I:=G.I) (w:=w) u kU with rfl|hp
  ·exact .undef _
  ·exact .p _ _ hp
 |func f=>exact KW bu hx
 |global g=>simp[Ctx.b3]at hx
theorem GN{F:Fence}{n:Nat}{P:Program}{Q:Exit->Act->World->Prop}{c:Code}(I:Nat->Act->World->Prop)
  (round:∀k a w,I k a w->∃bp,k=bp+1/\c.wpIn F n P (Exit.then (I bp) Q) a w) {j:Nat} {a:Act} {w:World} (h₀:I j a w):(Code.loop c).wpIn F n P Q a w:=by
 intro b k cs eJ hb hr
 have key:∀j a w,I j a w->
   ∃e a7 w',Q e a7 w'/\ArrivesIn (Machine.fenced P F) P (lone (b.atR a (.code c::.inLoop c::k)) cs w) b k cs e a7 w':=by
  intro j
  induction j with
  |zero=>
   intro a w aW;obtain⟨bp,e,-⟩:=round 0 a w aW;omega
  |succ j ih=>
   intro a w aW;obtain⟨bp,e,gu⟩:=round _ a w aW;cases e;obtain⟨e,AL,AM,bc,rR⟩:=gu b (.inLoop c::k) cs eJ hb hr;cases e with
   |normal=>
    obtain⟨KH,ad5,ad6,ad7,ad8⟩:=ih AL AM bc;exact⟨KH,ad5,ad6,ad7,.of_steps (StepsIn.trans rR (.one (fenced_calm hb hr rfl) stepR_inLoop)) ad8⟩
   |exit id=>exact⟨_,AL,AM,bc,.pass (x:=.inLoop c) rfl (fun _ _=>.inl (by simp)) rR⟩
   |goto l=>exact⟨_,AL,AM,bc,.pass (x:=.inLoop c) rfl (fun _ _=>.inl (by simp)) rR⟩
   |ret=>exact⟨_,AL,AM,bc,.pass (x:=.inLoop c) rfl (fun _ _=>.inl (by simp)) rR⟩
   |panic asP=>exact⟨_,AL,AM,bc,.pass (x:=.inLoop c) rfl (fun _ _=>.inl (by simp)) rR⟩
   |outgrown=>exact⟨_,AL,AM,bc,.pass (x:=.inLoop c) rfl (fun _ _=>.inl (by simp)) rR⟩
 obtain⟨e,a7,w',bc,rR⟩:=key _ a w h₀;exact⟨e,a7,w',bc,.of_steps (.one (fenced_calm hb hr rfl) stepR_loop) rR⟩
structure Fin (C:Ctx) (fid:Nat->Nat) (vars:List Nat) (N base:Nat) (st:aq) (G:bX) (w:World) (aF:aq) (G':bX) (a7:Act) (w':World):Prop where
 rel:dy C fid vars N G' aF a7 w'
 ext:∀m,m<=aF.low->Ext G w G' w' m st.H.length
 marks:kF C G' w' base a7.defers
def pL (C:Ctx)(fid:Nat->Nat)(call:cU)(n:Nat)(c:Code):Prop:=
 ∀(ac:cj) (vars:List Nat) (N:Nat),C.code vars N c=some ac->∀(st:aq) (x:X) (aF:aq),exec call n ac st=some (x,aF)->
 ∀(G:bX) (a:Act) (w:World) (ro:Option Nat) (base:Nat) (Q:Exit->Act->World->Prop),dy C fid vars N G st a w->uU G st.ro ro->kF C G w base a.defers->base<=w.heap.size->
  (∀G' a7 w',Fin C fid vars N base st G w aF G' a7 w'->Q (AK x) a7 w')->c.wpIn (en ro) 0 C.P Q a w
section
variable{call:cU}{n:Nat}
theorem Fin.refl{vars:List Nat}{N base:Nat}{st:aq}{a:Act}(h:dy C fid vars N G st a w)(k:kF C G w base a.defers):Fin C fid vars N base st G w st G a w:=
 ⟨h,fun m _=>.refl _ _ _ _,k⟩
theorem Fin.trans{vars:List Nat}{N base:Nat}{st b4 fU:aq}{ay bl:bX}{ai a2:Act}{aH bG:World}(h:Fin C fid vars N base st G w b4 ay ai aH)(k:Fin C fid vars N base b4 ay aH fU bl a2 bG)
  (f1:gb st b4) (f2:gb b4 fU):Fin C fid vars N base st G w fU bl a2 bG:=
 ⟨k.rel,fun m hm=>(h.ext m (cV hm f2.1.low)).trans ((k.ext m hm).le (aK _) f1.1.len),k.marks⟩
theorem ad9 (bu:eZ C fid)(a6:gH C fid call){id:Nat}{ops:Array Oper}{os:List Oper}{gW:Oper}{c:Call}{f:Operand}{lS:ag}{vars:List Nat}{N:Nat}{bz:List bO}{st aF:aq}{wr:List Bool}{a:Act}{base:Nat}{Q:Exit->Act->World->Prop}
  (mJ:ops.toList=os++[gW]) (aea:gW.op=.defer c) (nC:c.callee=.value f) (C2:c.args= #[]) (bj:gW.guard=none) (AE:gW.dst=none) (hm:dH (C.oper vars N ops) os=some bz) (ab:C.b3 vars f=some lS)
  (he:cQ call bz {st with aG:=[]} []=some (aF,wr)) (bx:Ku C.Aa (lS.ae aF.aG aF.av)=true) (U:dy C fid vars N G st a w) (eE:kF C G w base a.defers)
  (dz:∀G' a7 w',dy C fid vars N G' aF a7 w'->(∀m,m<=aF.low->Ext G w G' w' m st.H.length)->kF C G' w' base a7.defers->Q .normal a7 w'):
  (Code.region id ops false).wpIn (en none) 0 C.P Q a w:=by
 obtain⟨S,aR,h0,hn,-,hs⟩:=uN _ _ _ _ _ he;have hlen:bz.length=os.length:=uF _ hm;have dJ:ops.size=os.length+1:=by rw[<-hB,mJ];simp
 have key:∀k j,j+k=os.length->∀bl ai bG,dy C fid vars N bl (S j) ai bG->(∀m,m<=(S j).low->Ext G w bl bG m st.H.length)->ai.defers=a.defers->st.H.length<=(S j).H.length->
   wpOpsIn (en none) 0 C.P ops Q (List.range' j (k+1)) ai bG:=by
  intro k
  induction k with
  |zero=>
   intro j hj bl ai bG bA b9 eD _;have e:j=bz.length:=by omega
   subst e;rw[hn]at bA b9;have ho:ops[bz.length]? =some gW:=by rw[<-auF,mJ,hlen];simp
   rw[ub,wpOpsIn_cons];have fg:=rX bu bA f lS ab;unfold Ku at bx;split at bx
   ·rename_i i cs AD
    rw[AD]at fg;obtain⟨xs,cR,eQ,SZ,ad⟩:=fg.Ak;cases eQ;unfold wpOpIn;rw[ho];have hw:Region.wanted gW (yielded ops ai.tmps)=true:=by unfold Region.wanted;rw[bj]
    simp only[hw,if_true];refine⟨fun _ _=>trivial,?_⟩
    have cr:(Oper.semAt (en none).round ai.eval gW).run C.P bG=.ok (.defer {target:=.fn (.func i) ⟨cR⟩,args:= #[]}) bG:=by
     show(Oper.semAt none ai.eval gW).run C.P bG=_;rw[Oper.semAt_none];unfold execOp;rw[aea];obtain⟨Ry,fA,h7⟩:=c;simp only at nC C2;subst nC;subst C2;simp only[resolve,ad,Sem.run_bind,Sem.run_pure,Result.andThen_ok];simp[Sem.run_pure,Deferred.ofValue]
     try rfl
    rw[cr];simp only[Oper.uponIn];rw[AE];show Q .normal _ _;refine dz bl _ bG ⟨bA.rel,bA.env,bA.size,bA.low⟩ (fun m hm=>b9 m hm) ?_;obtain⟨rs,af,dk,cq,ee⟩:=eE.ext (b9 0 (cx _));refine⟨.inr {target:=.fn (.func i) ⟨cR⟩,args:= #[]}::rs,?_,dk,fun r hr=>cq r (by simpa using hr),fun d hd=> ?_⟩
    ·show _::ai.defers=_
     rw[eD,af];rfl
    ·rcases dA.1 hd with hd|hd
     ·cases hd;exact bu.ab4 i (ua.1 bx) _
     ·exact ee d hd
   ·cases bx
  |succ k ih=>
   intro j hj bl ai bG bA b9 eD gx;have mF:j<os.length:=by omega
   have kx:os[j]? =some os[j]:=by simp[mF]
   have ho:ops[j]? =some os[j]:=by rw[<-auF,mJ,gE mF];exact kx
   have C3:j<bz.length:=by omega
   have fK:bz[j]? =some bz[j]:=by simp[C3]
   have LW:s7 C vars N ops os[j] bz[j]:=AB (uG _ hm kx fK);have cd:=hs j _ fK;rw[ub,wpOpsIn_cons];have er:=cd.bM a6.bM;refine ye (T:=fun _=>True) bu a6 ho LW cd bA.rel (fun _=>.inl rfl) bA.low (fun t _=>bA.env t) (fun x _=>by cases x<;>trivial) (fun _ _ _ _ _=>trivial) bA.size ?_;intro x fr ji p1 p2 p3
   have yh:aZ C fid ji (S (j+1)).H fr:=by
    cases ab:aR j with
    |true=>rw[ab]at p1;exact p1
    |false=>rw[ab]at p1;rw[cd.still a6.bM ab];exact p1
   have nB:=p2 0 (cx _)
   refine ih (j+1) (by omega) ji _ fr ⟨yh,fun t=> ?_,by rw[wG];exact bA.size,er.bound bA.low⟩ (fun m hm=>(b9 m (cV hm er.1.low)).trans ((p2 m hm).le (aK _) gx)) (by rw[put_defers];exact eD)
    (cV gx er.1.len)
   refine yg (fun d hd=>by rw[bA.size];exact LW.lt d hd) (fun h=>p3 t h) (fun h=> ?_);rw[cd.look LW h];exact(bA.env t).ext bA.rel nB
 refine wpIn_region ?_;rw[dJ,FH];have iQ:=U.clear;rw[<-h0]at iQ;exact key os.length 0 (by omega) G a w iQ (fun m _=>.refl _ _ _ _) rfl (by rw[h0];exact aK _)
theorem aeb{C:Ctx}{vars:List Nat}{n:Nat}{ops:Array Oper}{ac:cj}(h:C.Kv vars n ops=some ac):
  ∃os gW c f bz lS,ops.toList=os++[gW]/\gW.op=.defer c/\c.callee=.value f/\c.args= #[]/\gW.guard=none/\gW.dst=none/\dH (C.oper vars n ops) os=some bz/\C.b3 vars f=some lS/\ac=.xL bz C.Aa lS:=by
 unfold Ctx.Kv at h;split at h
 ·cases h
 ·rename_i gW hl _
  split at h
  ·rename_i f args dK c4 bj
   split at h
   ·rename_i bz lS ao hm ab
    split at h
    ·rename_i hd
     cases h;have bf:ops.toList≠[]:=by intro e;rw[e]at hl;cases hl
     have:ops.toList.dropLast++[gW]=ops.toList:=by
      have e2:=List.getLast?_eq_some_getLast bf;rw[hl]at e2;cases e2;exact List.dropLast_concat_getLast bf
     exact⟨_,gW,_,f,bz,lS,this.symm,c4,rfl,by simpa using ao,bj,by simpa using hd,hm,ab,rfl⟩
    ·cases h
   ·cases h
  ·cases h
 ·cases h
theorem aec (cD:C.P.follows .mixedOrders=true)(bu:eZ C fid)(a6:gH C fid call)(id:Nat)(ops:Array Oper)(draw:Bool):pL C fid call n (.region id ops draw):=by
 intro ac vars N hc st x aF he G a w ro base Q U eJ eE hb dz;simp only[Ctx.code]at hc;split at hc
 ·rename_i r hd
  cases hc;split at hd
  ·cases hd
  ·rename_i LX
   have LX:draw=false:=by simpa using LX
   subst LX;obtain⟨os,gW,c,f,bz,lS,h1,h2,ar,aQ,h5,ft,kZ,aed,rfl⟩:=aeb hd;simp only[exec,aq.fp]at he;split at he
   ·rename_i b4 wr hex
    split at he
    ·rename_i bx
     cases he;simp only[b8]at bx
     have AO:st.ro=none:=by
      have:=(oa a6.bM _ _ _ _ _ (by exact U.low) hex).2;simp only at this;simpa[this]using bx.1
     rw[AO]at eJ
     have aee:ro=none:=by
      cases ro with
      |none=>rfl
      |some b=>exact eJ.elim
     subst aee;exact ad9 bu a6 h1 h2 ar aQ h5 ft kZ aed hex bx.2 U eE fun G' a7 w' bA b9 eD=>dz G' a7 w' ⟨bA.clear,b9,eD⟩
    ·cases he
   ·cases he
 split at hc
 ·rename_i bz hm
  cases hd:draw with
  |false=>
   rw[hd]at hc;simp only[ue,if_true,az]at hc;subst hc;simp only[exec,aq.fp]at he;split at he
   ·rename_i b4 wr h1
    cases he;exact adI bu a6 hm h1 U fun G' a7 w' bA b9 eD=>dz G' a7 w' ⟨bA.clear,b9,by rw[eD];exact eE.ext (b9 0 (cx _))⟩
   ·cases he
  |true=>
   rw[hd]at hc;simp only[hZ,hY,if_false]at hc;split at hc
   ·rename_i ep
    simp only[b8]at ep;obtain⟨⟨h1,h2⟩,ar⟩:=ep;cases hc;simp only[exec,aq.fp]at he;split at he
    ·rename_i b4 wr aQ
     split at he
     ·rename_i hin
      cases he;exact ad4 cD bu a6 hm h1 h2 ar aQ hin U fun G' a7 w' bA b9 eD=>dz G' a7 w' ⟨bA.clear,b9,by rw[eD];exact eE.ext (b9 0 (cx _))⟩
     ·cases he
    ·cases he
   ·cases hc
 ·cases hc
theorem aef (er:l3 call){x y:Code}(hx:pL C fid call n x)(hy:pL C fid call n y):pL C fid call n (.seq x y):=by
 intro ac vars N hc st r aF he G a w ro base Q U eJ eE hb dz;simp only[Ctx.code]at hc;split at hc
 ·rename_i cv kX h1 h2
  cases hc;simp only[exec,aq.fp]at he;refine wpIn_seq ?_;split at he
  ·rename_i b4 lY
   have f1:=l4 er n _ _ _ _ U.low lY;refine hx _ _ _ h1 _ _ _ lY G a w ro base _ U eJ eE hb fun ay ai aH gd=> ?_;have f2:=l4 er n _ _ _ _ gd.rel.low he;exact hy _ _ _ h2 _ _ _ he ay ai aH ro base _ gd.rel (by rw[f1.2];exact eJ.ext (gd.ext 0 (cx _))) gd.marks (cV hb (gd.ext 0 (cx _)).size) fun bl a2 bG ta=>dz bl a2 bG (gd.trans ta f1 f2)
  ·rename_i bf
   refine hx _ _ _ h1 _ _ _ he G a w ro base _ U eJ eE hb fun ay ai aH gd=> ?_;have:=dz ay ai aH gd;cases r with
   |normal=>exact absurd he (bf _)
   |exit id=>exact this
   |ret=>exact this
 ·cases hc
theorem aeg (bu:eZ C fid){o:Operand}{x y:Code}(hx:pL C fid call n x)(hy:pL C fid call n y):pL C fid call n (.cond o x y):=by
 intro ac vars N hc st r aF he G a w ro base Q U eJ eE hb dz;simp only[Ctx.code]at hc;split at hc
 ·rename_i c cv kX h0 h1 h2
  cases hc;simp only[exec,aq.fp]at he;have ad:=rX bu U o c h0;split at he
  ·rename_i oV
   rw[oV]at ad;exact wpIn_cond_true ad.kz (hx _ _ _ h1 _ _ _ he G a w ro base Q U eJ eE hb dz)
  ·rename_i oV
   rw[oV]at ad;exact wpIn_cond_false ad.kz (hy _ _ _ h2 _ _ _ he G a w ro base Q U eJ eE hb dz)
  ·cases he
 ·cases hc
theorem aeh{id:Nat}{x:Code}(hx:pL C fid call n x):pL C fid call n (.block id x):=by
 intro ac vars N hc st r aF he G a w ro base Q U eJ eE hb dz;simp only[Ctx.code]at hc;obtain⟨cv,h1,rfl⟩:=ct.1 hc;simp only[exec,aq.fp]at he;refine wpIn_block ?_;split at he
 ·rename_i sU b4 lY
  refine hx _ _ _ h1 _ _ _ lY G a w ro base _ U eJ eE hb fun ay ai aH gd=> ?_;split at he
  ·rename_i hid
   cases he;simp only[AK,Exit.inBlock,hid,if_true];exact dz ay ai aH gd
  ·rename_i hid
   cases he;simp only[AK,Exit.inBlock,hid,if_false];exact dz ay ai aH gd
 ·rename_i bf
  refine hx _ _ _ h1 _ _ _ he G a w ro base _ U eJ eE hb fun ay ai aH gd=> ?_;have:=dz ay ai aH gd;cases r with
  |normal=>exact this
  |exit id=>exact absurd he (bf _ _)
  |ret=>exact this
theorem aei (er:l3 call){x:Code}(hx:pL C fid call n x):pL C fid call n (.loop x):=by
 intro ac vars N hc st r aF he G a w ro base Q U eJ eE hb dz;simp only[Ctx.code]at hc;obtain⟨cv,h1,rfl⟩:=ct.1 hc;simp only[exec,aq.fp]at he;refine GN (fun k ai aH=>∃b4 ay,iter (exec call n cv) k b4=some (r,aF)/\gb st b4/\Fin C fid vars N base st G w b4 ay ai aH) ?_ ⟨st,G,he,.refl _,.refl U eE⟩;rintro k ai aH ⟨b4,ay,hi,ab,gd⟩;cases k with
 |zero=>simp[iter]at hi
 |succ k=>
  refine⟨k,rfl,?_⟩;simp only[iter]at hi;have AO:uU ay b4.ro ro:=by rw[ab.2];exact eJ.ext (gd.ext 0 (cx _))
  have oV:base<=aH.heap.size:=cV hb (gd.ext 0 (cx _)).size;split at hi
  ·rename_i fU mX
   have f2:=l4 er n _ _ _ _ gd.rel.low mX;exact hx _ _ _ h1 _ _ _ mX ay ai aH ro base _ gd.rel AO gd.marks oV fun bl a2 bG ta=>⟨fU,bl,hi,ab.trans f2,gd.trans ta ab f2⟩
  ·rename_i bf
   have f2:=l4 er n _ _ _ _ gd.rel.low hi;refine hx _ _ _ h1 _ _ _ hi ay ai aH ro base _ gd.rel AO gd.marks oV fun bl a2 bG ta=> ?_;have:=dz bl a2 bG (gd.trans ta ab f2);cases r with
   |normal=>exact absurd hi (bf _)
   |exit id=>exact this
   |ret=>exact this
end
end Go.Abs
namespace Go.Abs
open Go
variable{C:Ctx}{fid:Nat->Nat}{w w':World}{G G':bX}{H H':Heap}
theorem aej{P:Program}(fn:FuncId)(tmps:Array Value)(ps:Array Tmp)(assign body:Code){b:Nat}{L:Loop}(h:w.heap[b]? =some (.loop L)):
  (Instr.enterLoop fn tmps ps assign body (some b)).run P w=.ok (w.heap.size,[]) (w.alloc (.loop {state:=.ready,pending:=none,fn,tmps,params:=ps,assign,body,defers:=L.defers})):=by
 unfold Instr.enterLoop;simp only[Sem.run_bind,run_getLoop h,run_newObj_alloc,Result.andThen,Sem.run_pure]
theorem LY{vars:List Nat}{st:aq}{t:Nat}(h:t∈vars):dC vars st t=bk st.av t:=by
 unfold dC;rw[if_pos (ua.2 h)]
theorem C4 (U:aZ C fid G H w){l:Nat}{h:Home}(hb:G.β l=some h){st:LoopState}{sT:X}{env:Env}{ps:List Nat}{aO c2:cj}(hl:H[l]? =some (.loop st sT env ps aO c2)):
  h.tag=0/\h.dt=false/\∃L vars,w.heap[h.b]? =some (.loop L)/\L.state=st/\KJ sT L.pending/\
    L.params.toList=ps/\(∀t∈ps,t∈vars/\t<L.tmps.size)/\
    C.code vars L.tmps.size L.assign=some aO/\C.code vars L.tmps.size L.body=some c2/\∀t∈vars,a8 fid G w (bk env t) (L.tmps.getD t undef):=by
 obtain⟨o,ho,hr⟩:=U.obj l h hb;rw[hl]at ho;cases ho;exact hr
theorem aek{β:Nat->Option Home}{l:Nat}{h:Home}(hb:β l=some h):ck β l h=β:=by
 funext x;unfold ck;split
 ·rename_i e;rw[e,hb]
 ·rfl
theorem turn (U:aZ C fid G H w){l:Nat}{h:Home}(hb:G.β l=some h)(ab:h.dt=false)(aP:Obj)(o:cc)
  (ho:(∀b,b≠h.b->(w.putObj h.b aP).heap[b]? =w.heap[b]?)->(w.putObj h.b aP).heap[h.b]? =some aP->(∀b,G.I b->(w.putObj h.b aP).heap[b]? =w.heap[b]?)->jg C fid G (w.putObj h.b aP) h o):
  aZ C fid G (H.set l o) (w.putObj h.b aP)/\Ext G w G (w.putObj h.b aP) l H.length:=by
 have cW:∀b,b≠h.b->(w.putObj h.b aP).heap[b]? =w.heap[b]? :=fun b iA=>World.putObj_heap_other iA
 have aW:∀b,G.I b->(w.putObj h.b aP).heap[b]? =w.heap[b]? :=fun b hi=>cW b fun e=>by
  have:=(U.cX b hi).2 l h hb e.symm;rw[ab]at this;cases this
 have h1:=ho cW (World.putObj_heap_same (U.blk l h hb)) aW;have AP:(⟨ck G.β l h,G.I⟩:bX)=G:=by rw[aek hb]
 have a:=aZ.write (w':=w.putObj h.b aP) U hb ab rfl ab (aK _) id rfl (by simp) cW o (by rw[AP];exact h1);have b:=Ext.write (w':=w.putObj h.b aP) U hb ab rfl (aK _) id rfl (by simp) cW rfl rfl;rw[AP]at a b;exact⟨a,b⟩
section
variable{call:cU}{n:Nat}
theorem ael (bu:eZ C fid)(a6:gH C fid call){f:Operand}{ps:Array Tmp}{aO c2:Code}:pL C fid call n (.rangeFunc f ps aO c2):=by
 intro ac vars N hc st r aF he G a w ro base Q U eJ eE hb dz;simp only[Ctx.code]at hc;split at hc
 ·rename_i lS S0 S1 h0 h1 h2
  split at hc
  ·rename_i uu
   cases hc
   have S2:∀t∈ps.toList,t∈vars/\t<N:=fun t ht=>by
    have:=(Array.all_eq_true_iff_forall_mem.1 uu) t (Array.mem_toList_iff.1 ht);simp only[b8,decide_eq_true_eq,ua]at this;exact⟨this.2,this.1⟩
   simp only[exec]at he;split at he
   ·cases he
   ·rename_i bx
    simp only[Km,b8]at bx;obtain⟨GO,aem⟩:=bx;split at he
    ·rename_i u H1 bI hG
     split at he
     ·rename_i ls sT QV QW rE QX yl
      split at he
      ·cases he
      ·rename_i aen
       cases he;have yc:=rX bu U f lS h0;refine wpIn_rangeFunc fun fn _=> ?_
       obtain⟨fM,mark,R,C5,GP,LZ,aeo,gO,x7,AQ,aep,L0,aeq⟩:∃(fM:World) (mark:List Deferred) (R:Loop),
         (Instr.enterLoop fn a.tmps ps aO c2 (en ro).round).run C.P w=.ok (fM.heap.size,mark) (fM.alloc (.loop R))/\aZ C fid G st.H fM/\(∀m n,Ext G w G fM m n)/\kF C G fM base (mark++a.defers)/\
         R.state=.ready/\R.pending=none/\R.tmps=a.tmps/\R.params=ps/\R.assign=aO/\R.body=c2:=by
        cases aer:ro with
        |none=>
         have cW:∀b,b<w.heap.size->(w.alloc (.deferred (some []))).heap[b]? =w.heap[b]? :=fun b iA=>alloc_old iA;have dJ:w.heap.size<=(w.alloc (.deferred (some []))).heap.size:=by simp
         refine⟨w.alloc (.deferred (some [])),[GM w.heap.size],{state:=.ready,pending:=none,fn,tmps:=a.tmps,params:=ps,assign:=aO,body:=c2,defers:=w.heap.size},?_,U.rel.restore dJ cW,fun m n=>.restore dJ cW rfl rfl m n,?_,rfl,rfl,rfl,rfl,rfl,rfl⟩
         ·have:=run_enterLoop_outer (P:=C.P) (w:=w) fn a.tmps ps aO c2
          rw[show(en none).round=none from rfl,this];simp[GM]
         ·obtain⟨rs,e,dk,k,dv⟩:=eE
          refine⟨.inl w.heap.size::rs,by rw[e];rfl,ud.2 ⟨fun hin=> ?_,dk⟩,fun r hr=> ?_,fun d hd=> ?_⟩
          ·obtain⟨q,bc,e'⟩:=QO.1 hin
           cases q with
           |inl r=>cases e';have:=(k _ bc).lt;omega
           |inr d=>cases e'
          ·rcases dA.1 hr with hr|hr
           ·cases hr
            exact⟨hb,by simp,oQ _ _,fun l h e q=>by have:=U.rel.blk l h e;omega,fun hi=>by have:=(U.rel.cX _ hi).1;omega⟩
           ·exact(k r hr).ext (.restore (G:=G) dJ cW rfl rfl 0 0)
          ·rcases dA.1 hd with hd|hd
           ·cases hd
           ·exact dv d hd
        |some b=>
         subst aer;cases S3:st.ro with
         |none=>rw[S3]at eJ;exact eJ.elim
         |some l7=>
          rw[S3]at eJ GO;obtain⟨h,e,t,q⟩:=eJ;simp only[xN]at GO;split at GO
          ·rename_i pF
           obtain⟨-,-,L,vs,df,-⟩:=C4 U.rel e pF;rw[q]at df;exact⟨w,[],{state:=.ready,pending:=none,fn,tmps:=a.tmps,params:=ps,assign:=aO,body:=c2,defers:=L.defers},aej fn a.tmps ps aO c2 df,U.rel,fun m n=>.refl _ _ _ _,eE,rfl,rfl,rfl,rfl,rfl,rfl⟩
          ·cases GO
       let hm:Home:=⟨fM.heap.size,0,0,false⟩;let ay:bX:=⟨ck G.β st.H.length hm,G.I⟩;have S4:lT G.β ay.β:=Ae (GP.none (aK _)) _;have S5:∀b,G.I b->ay.I b/\(fM.alloc (.loop R)).heap[b]? =fM.heap[b]? :=fun b hi=>⟨hi,alloc_old (GP.cX b hi).1⟩;have CM:∀t,a8 fid G fM (dC vars st t) (a.tmps.getD t undef):=fun t=>(U.env t).ext U.rel (LZ 0 0)
       have uV:aZ C fid ay (st.H++[.loop .ready .normal st.av ps.toList S0 S1]) (fM.alloc (.loop R)):=by
        refine GP.push _ _ 0 0 ⟨rfl,rfl,R,vars,oQ _ _,gO,by rw[x7];trivial,by rw[aep],fun t ht=>⟨(S2 t ht).1,by rw[AQ,U.size];exact(S2 t ht).2⟩,?_,?_,fun t ht=> ?_⟩
        ·rw[AQ,L0,U.size];exact h1
        ·rw[AQ,aeq,U.size];exact h2
        ·rw[AQ,<-LY ht];exact(CM t).mono S4 S5
       have S6:∀m,Ext G fM ay (fM.alloc (.loop R)) m st.H.length:=fun m=>.push GP _ 0 0 m;have LC:a8 fid ay (fM.alloc (.loop R)) (lS.ae st.aG st.av) (a.eval f):=((yc.ext U.rel (LZ 0 0)).mono S4 S5)
       have aes:aY fid ay (fM.alloc (.loop R)) [.yield st.H.length] [.func (.yield fM.heap.size) #[] #[]]:=
        .cons _ _ _ _ (.yield st.H.length hm (de _ _ _) rfl) .nil
       obtain⟨d,hd,hn,aet⟩:=a6.run uV LC aes hG;obtain⟨g,gs,hinv⟩:=aet aem rfl;rw[hinv]at hn;refine⟨fM.heap.size,mark,_,d,fM.alloc (.loop R),g,gs,_,C5,?_,fun _ _=>trivial,hinv,fun h=>by simp[en]at h,?_⟩
       ·have e:Array.map a.eval #[Operand.const (Value.func (Fn.yield fM.heap.size) #[] #[])]=⟨[Value.func (Fn.yield fM.heap.size) #[] #[]]⟩:=by simp[Act.eval]
        simp only[resolve,rangeCall,e];exact hd
       ·have pD:Calls C.P g gs (fM.alloc (.loop R)) (rangePost (en ro) 0 C.P fM.heap.size Q {a with defers:=mark++a.defers}):=by
         refine Ci hn fun e fr hp=> ?_;obtain⟨y,rfl,bl,q1,aS,b1⟩:=hp;have C6:=aS 0 (cx _);obtain⟨h2,e2,-,z2,m2,-⟩:=C6.homes st.H.length hm (de _ _ _);have t2:=z2 rfl;have gy:h2.b=fM.heap.size:=(m2 t2).1;obtain⟨-,S7,L,vs,df,S8,uW,-⟩:=C4 q1 e2 yl;rw[gy]at df;have hT:=turn q1 e2 S7 (.loop {L with state:=.exhausted}) .gone fun _ _ _=>⟨t2,S7⟩;rw[gy]at hT;have qN:=a6.bM _ _ _ _ _ _ hG;have hlen:st.H.length<=H1.length:=by have:=qN.len;simp at this;omega
         have AR:∀m,m<=min st.low bI->Ext G w bl (fr.putObj fM.heap.size (.loop {L with state:=.exhausted})) m st.H.length:=fun m mY=>
          ((LZ m st.H.length).trans (S6 m)).trans (((aS m (by omega)).le (aK _) (by simp)).trans (hT.2.le (by have:=U.low;omega) hlen))
         have du:=AR 0 (cx _)
         have aeu:dy C fid vars N bl {st with H:=H1.set st.H.length .gone,low:=min st.low bI} {a with defers:=mark++a.defers} (fr.putObj fM.heap.size (.loop {L with state:=.exhausted})):=
          ⟨hT.1,fun t=>(U.env t).ext U.rel du,U.size,by simp only[zT];have:=U.low;omega⟩
         have aev:kF C bl (fr.putObj fM.heap.size (.loop {L with state:=.exhausted})) base (mark++a.defers):=((aeo.ext (S6 0)).ext C6).ext (hT.2.le (cx _) (aK _));have bc:=dz bl _ _ ⟨aeu,AR,aev⟩;refine⟨L.pending,_,run_endLoop df (by rw[S8];exact aen),?_⟩;cases hp:L.pending with
         |none=>
          rw[hp]at uW bc;cases r with
          |normal=>exact bc
          |exit i=>exact uW.elim
          |ret=>exact uW.elim
         |some c=>
          rw[hp]at uW bc;cases r with
          |normal=>exact uW.elim
          |exit i=>
           cases c<;>first|exact uW.elim|skip
           rename_i j;have:j=i:=uW;subst this;exact wpIn_exit bc
          |ret=>
           cases c<;>first|exact uW.elim|skip
           exact wpIn_ret bc
        exact callsIn_wide.2 pD
     ·cases he
    ·cases he
  ·cases hc
 ·cases hc
theorem qO (cD:C.P.follows .mixedOrders=true)(bu:eZ C fid)(a6:gH C fid call):∀(c:Code),pL C fid call n c
 | .skip=>by
   intro ac vars N hc st r aF he G a w ro base Q U eJ eE hb dz;simp only[Ctx.code,az]at hc;subst hc;simp only[exec,az,bt]at he;obtain⟨rfl,rfl⟩:=he;exact wpIn_skip (dz G a w (.refl U eE))
 | .region id ops draw=>aec cD bu a6 id ops draw
 | .seq x y=>aef a6.bM (qO cD bu a6 x) (qO cD bu a6 y)
 | .cond o x y=>aeg bu (qO cD bu a6 x) (qO cD bu a6 y)
 | .block id x=>aeh (qO cD bu a6 x)
 | .loop x=>aei a6.bM (qO cD bu a6 x)
 | .rangeFunc f ps x y=>ael bu a6
 | .exit id=>by
   intro ac vars N hc st r aF he G a w ro base Q U eJ eE hb dz;simp only[Ctx.code,az]at hc;subst hc;simp only[exec,az,bt]at he;obtain⟨rfl,rfl⟩:=he;exact wpIn_exit (dz G a w (.refl U eE))
 | .ret=>by
   intro ac vars N hc st r aF he G a w ro base Q U eJ eE hb dz;simp only[Ctx.code,az]at hc;subst hc;simp only[exec,az,bt]at he;obtain⟨rfl,rfl⟩:=he;exact wpIn_ret (dz G a w (.refl U eE))
 | .scope _| .label _| .goto _| .refuse _=>by
   intro ac vars N hc st r aF he;simp only[Ctx.code,az]at hc;subst hc;simp[exec]at he
end
end Go.Abs
namespace Go.Abs
open Go
variable{C:Ctx}{fid:Nat->Nat}{w w':World}{G G':bX}{H H':Heap}{call:cU}{n:Nat}
def og (C:Ctx)(fid:Nat->Nat)(i:Nat)(spec:List V->Option V):Prop:=
 ∀{G:bX} {H:Heap} {w:World} {args:List V} {v:V} {xs:List Value},aZ C fid G H w->c7 w G.I args xs->spec args=some v->rQ C.P (ll C fid G H w v H H.length) ((callFunc i ⟨xs⟩).run C.P w)
def ag7 (C:Ctx)(fid:Nat->Nat)(i:Nat)(spec:NM):Prop:=
 ∀{G:bX} {H:Heap} {w:World} {args:List V} {v:V} {H':Heap} {low:Nat} {xs:List Value},aZ C fid G H w->aY fid G w args xs->OQ spec args H=some (v,H',low)->
  rQ C.P (ll C fid G H w v H' low) ((callFunc i ⟨xs⟩).run C.P w)/\∃g aO,(callFunc i ⟨xs⟩).run C.P w=.ok (.enter g aO) w
structure dU (C:Ctx) (fid:Nat->Nat) (aa:Nat->Option bY):Prop where
 code:∀i f,aa i=some (.code f)->∃fn,C.P.funcs[i]? =some fn/\C.func fn f.fresh=some f
 ext:∀i spec,aa i=some (.ext spec)->og C fid i spec
 zr:∀i spec,aa i=some (.zr spec)->ag7 C fid i spec
theorem S9{vars:List Nat}:∀(ps:List Nat) (vs:List V) (xs:List Value) (env:Env) (tmps:Array Value),aY fid G w vs xs->(∀t∈ps,t<tmps.size)->
  (∀t,t∈vars->a8 fid G w (bk env t) (tmps.getD t undef))->
  ((ps.zip xs).foldl (fun(tm:Array Value) (p:Nat × Value)=>tm.setIfInBounds p.1 p.2) tmps).size=tmps.size/\
    ∀t,t∈vars->a8 fid G w (bk ((ps.zip vs).foldl (fun e (p:Nat × V)=>ec e p.1 p.2) env) t) (((ps.zip xs).foldl (fun(tm:Array Value) (p:Nat × Value)=>tm.setIfInBounds p.1 p.2) tmps).getD t undef)
 |[],vs,xs,env,tmps,_,_,h=>⟨rfl,by simpa using h⟩
 |p::ps,_,_,env,tmps,.nil,_,h=>⟨rfl,by simpa using h⟩
 |p::ps,_,_,env,tmps,.cons v x vs xs ad hs,aX,h=>by
  have h1:=S9 ps vs xs (ec env p v) (tmps.setIfInBounds p x) hs (fun t ht=>by rw[Array.size_setIfInBounds];exact aX t (by simp[ht])) fun t ht=>by
   rw[Su];have:=LD {tmps:=tmps,defers:=[]} p x t (aX p (by simp));simp only[Act.put]at this;rw[this];by_cases e:t=p
   ·rw[if_pos e,if_pos e];exact ad
   ·rw[if_neg e,if_neg e];exact h t ht
  simp only[zQ,qu];rw[Array.size_setIfInBounds]at h1;exact h1
theorem kF.nil (G:bX)(w:World)(base:Nat):kF C G w base []:=⟨[],rfl,FR,(fun r hr=>by cases hr),fun r hr=>by cases hr⟩
theorem aew (cD:C.P.follows .mixedOrders=true)(bu:eZ C fid)(a6:gH C fid call){l:Nat}{args:List V}{v:V}{low':Nat}{xs:List Value}{h:Home}
  (he:nZ (exec call n) l args H=some (v,H',low')) (U:aZ C fid G H w) (hb:G.β l=some h) (ad:aY fid G w args xs):
  rQ C.P (ll C fid G H w v H' low') ((Instr.yield h.b ⟨xs⟩).run C.P w):=by
 unfold nZ at he;split at he
 ·rename_i p0 env params S0 S1 pF
  obtain⟨ht,hfz,L,vars,df,S8,uW,Ta,aex,aey,aez,aeA⟩:=C4 U hb pF;split at he
  ·rename_i hlen
   have SZ:=run_yield (P:=C.P) (args:=⟨xs⟩) df (by rw[<-hB,<-hB,Ta,aY.length ad,hlen]);rw[SZ]
   have aeB:(r:Array Value)->((L.params.zip (⟨xs⟩:Array Value)).foldl (fun tmps (t,a)=>tmps.setIfInBounds t a) r)=(params.zip xs).foldl (fun(tm:Array Value) (p:Nat × Value)=>tm.setIfInBounds p.1 p.2) r:=fun r=>by
    rw[<-QM,Array.toList_zip,Ta]
   rw[aeB];obtain⟨dJ,aeC⟩:=S9 (vars:=vars) params args xs env L.tmps ad (fun t ht=>(aex t ht).2) aeA;split at he
   ·rename_i b4 lY
    have f1:=l4 a6.bM n _ _ _ _ (aK _) lY;split at he
    ·rename_i p1 Tb L1 Tc Td yl
     split at he
     ·rename_i x lr o1
      split at he
      ·rename_i asQ p3 L2 L3 L4 L5 Te
       cases he;refine roundIn_of_wpIn trivial ?_
       have iQ:dy C fid vars L.tmps.size G {aG:=[],av:=(params.zip args).foldl (fun e (t,v)=>ec e t v) env,H,low:=H.length,ro:=some l}
         {tmps:=(params.zip xs).foldl (fun(tm:Array Value) (p:Nat × Value)=>tm.setIfInBounds p.1 p.2) L.tmps,defers:=[]} w:=
        ⟨U,fun t=>by
         unfold dC;split
         ·rename_i hin;exact aeC t (ua.1 hin)
         ·exact .undef _,dJ,aK _⟩
       refine qO (n:=n) cD bu a6 L.assign _ vars _ aey _ _ _ lY G _ w (some h.b) 0 _ iQ ⟨h,hb,ht,rfl⟩ (.nil _ _ _) (cx _) ?_;intro ay ai aH gd;have Gu:=gd.ext 0 (cx _);obtain⟨h1,af,-,qP,m1,-⟩:=Gu.homes l h hb;have oV:h1.b=h.b:=(m1 ((qP ht).trans ht.symm)).1;obtain⟨t1,Tf,Tg,aeD,q1,aS,b1,cL,et,gz,jI,L6⟩:=C4 gd.rel.rel af yl
       have C7:=turn gd.rel.rel af Tf (.loop {Tg with state:=.busy}) (.loop .busy p1 Tb L1 Tc Td) fun cq ee k1=>
        ⟨t1,Tf,_,aeD,ee,rfl,b1,cL,et,gz,jI,fun t ht=>(L6 t ht).mono (.refl _) fun b hb=>⟨hb,k1 b hb⟩⟩
       have Th:=run_beginRound (P:=C.P) q1 aS;rw[oV]at C7 Th;refine⟨_,Th,?_⟩;have qN:min b4.low l<=b4.H.length:=by have:=gd.rel.low;omega
       have gO:dy C fid vars L.tmps.size ay {b4 with H:=b4.H.set l (.loop .busy p1 Tb L1 Tc Td),low:=min b4.low l} ai (aH.putObj h.b (.loop {Tg with state:=.busy})):=
        ⟨C7.1,fun t=>(gd.rel.env t).ext gd.rel.rel C7.2,gd.rel.size,by simpa using qN⟩
       have AO:b4.ro=some l:=f1.2;refine qO (n:=n) cD bu a6 L.body _ vars _ aez _ _ _ o1 ay ai _ (some h.b) 0 _ gO (by simp only[AO];exact⟨h1,af,t1,oV⟩) (gd.marks.ext C7.2) (cx _) ?_;intro ji a3 fr GQ;have f3:=l4 a6.bM n _ _ _ _ (by simpa using qN) o1;have L7:=GQ.ext 0 (cx _);obtain⟨ar,bT,-,z3,m3,-⟩:=L7.homes l h1 af;have ym:ar.b=h.b:=(m3 ((z3 t1).trans t1.symm)).1.trans oV;obtain⟨t3,wM,AU,aeE,bA,b9,eD,gx,iR,rY,yn,uX⟩:=C4 GQ.rel.rel bT Te;have L8:H.length<=b4.H.length:=f1.1.len;have aeF:b4.H.length<=lr.H.length:=by have:=f3.1.len;simpa using this
       have Ti:lr.low<=b4.low/\lr.low<=l:=by have:=f3.1.low;simp only at this;omega
       have AR:∀(jump:Option Code) (ls:LoopState),aZ C fid ji (lr.H.set l (.loop ls x L2 L3 L4 L5)) (fr.putObj h.b (.loop {AU with state:=ls,pending:=jump}))/\
         Ext ji fr ji (fr.putObj h.b (.loop {AU with state:=ls,pending:=jump})) l lr.H.length->
         ∀m,m<=min lr.low l->Ext G w ji (fr.putObj h.b (.loop {AU with state:=ls,pending:=jump})) m H.length:=fun jump ls hT m hm=>
        ((gd.ext m (by omega)).trans ((C7.2.le (m':=m) (by omega) L8))).trans (((GQ.ext m (by omega)).le (aK _) (by simpa using L8)).trans (hT.2.le (by omega) (cV L8 aeF)))
       have hT:∀(jump:Option Code) (ls:LoopState),KJ x jump->aZ C fid ji (lr.H.set l (.loop ls x L2 L3 L4 L5)) (fr.putObj h.b (.loop {AU with state:=ls,pending:=jump}))/\
         Ext ji fr ji (fr.putObj h.b (.loop {AU with state:=ls,pending:=jump})) l lr.H.length:=fun jump ls hp=>by
        have:=turn GQ.rel.rel bT wM (.loop {AU with state:=ls,pending:=jump}) (.loop ls x L2 L3 L4 L5) fun cq ee k1=>
         ⟨t3,wM,_,aeE,ee,rfl,hp,gx,iR,rY,yn,fun t ht=>(uX t ht).mono (.refl _) fun b hb=>⟨hb,k1 b hb⟩⟩
        rw[ym]at this;exact this
       rw[ym]at bA;cases x with
       |normal=>
        have T:=hT none .ready trivial;exact⟨_,_,run_endRound none bA,_,rfl,ji,T.1,AR none .ready T,.p _ _ (.bool true)⟩
       |exit id=>
        have T:=hT (some (.exit id)) .done rfl;exact⟨_,_,run_endRound (some (.exit id)) bA,_,rfl,ji,T.1,AR _ .done T,.p _ _ (.bool false)⟩
       |ret=>
        have T:=hT (some .ret) .done trivial;exact⟨_,_,run_endRound (some .ret) bA,_,rfl,ji,T.1,AR _ .done T,.p _ _ (.bool false)⟩
      ·cases he
     ·cases he
    ·cases he
   ·cases he
  ·cases he
 ·cases he
end Go.Abs
namespace Go.Abs
open Go
variable{C:Ctx}{fid:Nat->Nat}{w w':World}{G G':bX}{H H':Heap}{call:cU}{n:Nat}
theorem jg.tags{h h':Home}{o:cc}(a:jg C fid G w h o)(b:jg C fid G' w' h' o):h.tag=h'.tag/\h.dt=h'.dt:=by
 cases o with
 |cells vs=>exact⟨a.1.1.trans b.1.1.symm,a.2.1.trans b.2.1.symm⟩
 |row es ds dt=>exact⟨a.1.trans b.1.symm,a.2.2.1.trans b.2.2.1.symm⟩
 |map bb=>exact⟨a.1.trans b.1.symm,a.2.1.trans b.2.1.symm⟩
 |loop=>exact⟨a.1.trans b.1.symm,a.2.1.trans b.2.1.symm⟩
 |Nk s=>exact⟨a.2.1.trans b.2.1.symm,a.1.trans b.1.symm⟩
 |dead n=>exact⟨a.2.trans b.2.symm,a.1.trans b.1.symm⟩
 |gone=>exact⟨a.1.trans b.1.symm,a.2.trans b.2.symm⟩
theorem Tj (U:aZ C fid G H w)(l1:aZ C fid G' H' w')(hle:lT G.β G'.β)(hs:∀l,l<H.length->H'[l]? =H[l]?){l:Nat}{h:Home}(e:G.β l=some h):G'.β l=some h:=by
 obtain⟨h',e',-,-,m,-⟩:=hle l h e;obtain⟨o,ho,r⟩:=U.obj l h e;obtain⟨o',kx,mU⟩:=l1.obj l h' e';rw[hs l (U.lt e),ho]at kx;cases kx;obtain⟨t,f⟩:=r.tags mU;obtain⟨asR,asS⟩:=m t.symm;rw[e'];congr 1;cases h;cases h';simp_all
theorem forget (U:aZ C fid G H w)(l1:aZ C fid G' H' w'){m n:Nat}(du:Ext G w G' w' m n)(hm:H.length<=m)(hn:H.length<=n)(hs:∀l,l<H.length->H'[l]? =H[l]?):
  aZ C fid ⟨G.β,G'.I⟩ H w'/\(∀m n,Ext G w ⟨G.β,G'.I⟩ w' m n)/\∀{v:V} {x:Value},a8 fid G' w' v x->old H.length v=true->a8 fid ⟨G.β,G'.I⟩ w' v x:=by
 have cW:=du.Ss U hm;have uT:=fun l h e=>Tj (l:=l) (h:=h) U l1 du.homes hs e
 refine⟨⟨fun l h e=> ?_,U.inj,fun l h e=>qs (U.blk l h e) du.size,fun b hb=>⟨(l1.cX b hb).1,fun l h e q=>(l1.cX b hb).2 l h (uT l h e) q⟩,fun l h e q=>du.cX _ (U.ku l h e q),
   fun b o bj=>⟨du.cX _ (U.e9 b o bj).1,by rw[cW b (U.cX b (U.e9 b o bj).1).1];exact(U.e9 b o bj).2⟩⟩,fun m n=>⟨du.size,du.os,du.output,fun b hb _=>cW b hb,.refl _,fun l h e=>.inl ⟨h,e,.inl rfl⟩,du.cX,du.n1⟩,
  fun ad ho=>ad.restrict (G:=G') (G':=⟨G.β,G'.I⟩) (n:=H.length) (fun l h hl e=> ?_) (fun b hb=>⟨hb,rfl⟩) (.inl ho)⟩
 ·obtain⟨o,ho,r⟩:=U.obj l h e
  exact⟨o,ho,jg.mono (G:=G) (G':=⟨G.β,G'.I⟩) (.refl _) (fun b hb=>⟨du.cX b hb,cW b (U.cX b hb).1⟩) (cW _ (U.blk l h e)) r⟩
 ·rcases du.nt l h e with⟨h0,dI,-⟩|⟨nu,-⟩
  ·have:=uT l h0 dI
   rw[e]at this;cases this;exact⟨h,dI,rfl⟩
  ·omega
theorem Tk (n:Nat):∀(a b:List V),olds n (a++b)=(olds n a&&olds n b)
 |[],b=>by simp[olds]
 |v::a,b=>by simp[olds,Tk n a b,Cf]
theorem aeG (n:Nat)(v:V)(h:old n v=true):olds n (aE v)=true:=by
 cases v<;>simp_all [aE,olds,old]
theorem Tl (n:Nat):∀{ds:List V},olds n ds=true->olds n (ds.flatMap aE)=true
 |[],_=>rfl
 |d::ds,h=>by
  simp only[olds,b8]at h;rw[kn,Tk,aeG n d h.1,Tl n h.2];rfl
theorem Tm{fresh:Bool}{H1:Heap}{v v':V}{low low':Nat}{x:Value}(U:aZ C fid G H w)(l1:aZ C fid G' H1 w')(du:∀m,m<=low->Ext G w G' w' m H.length)(ab:Fr H H.length H1 low)
  (ad:a8 fid G' w' v x) (he:finish fresh H v H1 low=some (v',H',low')):ll C fid G H w v' H' low' x w':=by
 unfold finish at he;split at he
 ·rename_i l es off len tag
  split at he
  ·rename_i bD ds hl
   split at he
   ·rename_i hc
    obtain⟨dq,fb,gG,iC,jj⟩:=hc;subst gG iC;cases he;have hs:=fun l nu=>ab.same l (qs nu dq);have qQ:=du H.length dq;obtain⟨p1,p2,-⟩:=forget U l1 qQ (aK _) (aK _) hs;obtain⟨h,a,m,cap,hb,hle,ao,rfl⟩:=ad.pA;obtain⟨o,ho,hr⟩:=l1.obj l h hb;rw[hl]at ho;cases ho
    have GR:w.heap.size<=h.b:=by
     rcases qQ.nt l h hb with⟨h0,dI,-⟩|⟨-,q⟩
     ·have:=U.lt dI;omega
     ·exact q
    have rV:=U.none (aK H.length);let bl:bX:=⟨ck G.β H.length h,G'.I⟩;have Tn:lT G.β bl.β:=Ae rV h;have uT:=fun l h e=>Tj (l:=l) (h:=h) U l1 qQ.homes hs e
    have aeH:∀{vs:List V} {xs:List Value},aY fid G' w' vs xs->olds H.length vs=true->aY fid bl w' vs xs:=fun cS hold=>
     cS.restrict (G:=G') (G':=bl) (n:=H.length) (fun y h0 hy e=>by
      rcases qQ.nt y h0 e with⟨h1,af,-⟩|⟨nu,-⟩
      ·have:=uT y h1 af
       rw[e]at this;cases this;exact⟨h0,by show ck _ _ _ _=_;rw[dp (by omega)];exact af,rfl⟩
      ·omega) (fun b hb=>⟨hb,rfl⟩) (.inl hold)
    have aA:jg C fid bl w' h (.row bD ds false):=by
     obtain⟨bA,b9,eD,gx,iR,c,e,vals,rest,rY,yn,uX,C8⟩:=hr;exact⟨bA,b9,eD,gx,iR,c,e,vals,rest,rY,yn,uX,aeH C8 (Tl _ jj)⟩
    refine⟨bl,⟨fun y h0 e=> ?_,fun y z h0 h1 af e2 q=> ?_,fun y h0 e=> ?_,fun b hb=>⟨(l1.cX b hb).1,fun y h0 e q=> ?_⟩,fun y h0 e q=> ?_,p1.e9⟩,fun m hm=> ?_,?_⟩
    ·by_cases hy:y=H.length
     ·subst hy;rw[show bl.β=ck _ _ _ from rfl,de]at e;cases e
      exact⟨_,by simp,aA⟩
     ·rw[show bl.β=ck _ _ _ from rfl,dp hy]at e
      obtain⟨o,ho,r⟩:=p1.obj y h0 e;exact⟨o,by rw[gE (U.lt e)];exact ho,jg.mono (G:=⟨G.β,G'.I⟩) (G':=bl) Tn (fun b hb=>⟨hb,rfl⟩) rfl r⟩
    ·by_cases hy:y=H.length<;>by_cases aT:z=H.length
     ·rw[hy,aT]
     ·subst hy;rw[show bl.β=ck _ _ _ from rfl,de]at af;cases af
      rw[show bl.β=ck _ _ _ from rfl,dp aT]at e2;have:=U.blk z h1 e2;omega
     ·subst aT;rw[show bl.β=ck _ _ _ from rfl,de]at e2;cases e2
      rw[show bl.β=ck _ _ _ from rfl,dp hy]at af;have:=U.blk y h0 af;omega
     ·rw[show bl.β=ck _ _ _ from rfl,dp hy]at af
      rw[show bl.β=ck _ _ _ from rfl,dp aT]at e2;exact U.inj y z h0 h1 af e2 q
    ·by_cases hy:y=H.length
     ·subst hy;rw[show bl.β=ck _ _ _ from rfl,de]at e;cases e;exact l1.blk l h hb
     ·rw[show bl.β=ck _ _ _ from rfl,dp hy]at e;exact p1.blk y h0 e
    ·by_cases hy:y=H.length
     ·subst hy;rw[show bl.β=ck _ _ _ from rfl,de]at e;cases e
      exact(l1.cX b hb).2 l h (by assumption) q
     ·rw[show bl.β=ck _ _ _ from rfl,dp hy]at e;exact p1.cX b hb |>.2 y h0 e q
    ·by_cases hy:y=H.length
     ·subst hy;rw[show bl.β=ck _ _ _ from rfl,de]at e;cases e
      exact l1.ku l h hb q
     ·rw[show bl.β=ck _ _ _ from rfl,dp hy]at e;exact p1.ku y h0 e q
    ·have q:=p2 m H.length
     exact⟨q.size,q.os,q.output,q.dQ,Tn,fun y h0 e=>by
      by_cases hy:y=H.length
      ·subst hy;rw[show bl.β=ck _ _ _ from rfl,de]at e;cases e;exact .inr ⟨aK _,GR⟩
      ·rw[show bl.β=ck _ _ _ from rfl,dp hy]at e;exact .inl ⟨h0,e,.inl rfl⟩,q.cX,q.n1⟩
    ·exact .cz H.length bD off len _ h a m cap (de _ _ _) hle ao
   ·split at he
    ·cases he
     exact⟨G',l1,du,ad⟩
    ·cases he
  ·cases he
 ·split at he
  ·rename_i v1 H2 c5 aT
   obtain⟨bl,dt,To⟩:=Gc l1 ad aT;have er:=ab.trans (AA aT).1;have C6:∀m,m<=c5->Ext G w bl w' m H.length:=fun m hm=>(du m (cV hm dt.low)).trans ((dt.ext m hm).le (aK _) ab.len);split at he
   ·rename_i hc
    cases he;obtain⟨p1,p2,p3⟩:=forget U dt.rel (C6 H.length hc.1) (aK _) (aK _) (fun l hl=>er.same l (qs hl hc.1));exact⟨_,p1,fun m _=>p2 m _,p3 To hc.2⟩
   ·cases he
    exact⟨bl,dt.rel,C6,To⟩
  ·cases he
theorem aeI{sh:Option Nat}{a u:V}{x:Value}(ao:a8 fid G w a x)(he:gN H sh a=some u):∃dc,x=.pointer (some dc):=by
 unfold gN at he;split at he
 ·obtain⟨h,-,-,rfl⟩:=ao.n4;exact⟨_,rfl⟩
 ·obtain⟨h,dc,-,-,-,rfl⟩:=ao.Cx;exact⟨_,rfl⟩
 ·cases ao with
  |dn _ f b o vals _ _ _=>exact⟨_,rfl⟩
  |p _ _ h=>cases h
 ·cases he
def GS (tmps:Array Value):ResultVar->Sem Value
 | .tmp t=>pure (tmps.getD t undef)
 | .cell a t=>do loadVar t (<-asAddr (tmps.getD a undef))
theorem aeJ{r:ResultVar}{L9:mB}(hr:C.res r=some L9){av:Env}{tmps:Array Value}(U:aZ C fid G H w)(ad:∀t∈Ctx.qz [r],a8 fid G w (bk av t) (tmps.getD t undef)){v:V}(he:hE av H L9=some v):
  ∃x,(GS tmps r).run C.P w=.ok x w/\a8 fid G w v x:=by
 cases r with
 |tmp t=>
  simp only[Ctx.res,az]at hr;subst hr;simp only[hE,az]at he;subst he;exact⟨_,rfl,ad t (by simp[Ctx.qz])⟩
 |cell a t=>
  simp only[Ctx.res]at hr;obtain⟨sh,aeK,rfl⟩:=ct.1 hr;simp only[hE]at he;have ao:=ad a (by simp[Ctx.qz]);obtain⟨y,hy,hu⟩:=RM U aeK ao he;obtain⟨dc,jF⟩:=aeI ao he;rw[jF]at hy;refine⟨y,?_,hu⟩;simp only[GS,jF,asAddr,Sem.run_bind,Sem.run_pure,Result.andThen_ok];simpa only[Instr.loadAt,Instr.sureAddr,Sem.run_bind,Sem.run_pure,Result.andThen_ok]using hy
theorem aeL (r:ResultVar)(rs:List ResultVar):Ctx.qz (r::rs)=Ctx.qz [r]++Ctx.qz rs:=by cases r<;>rfl
theorem Tp:∀{rs:List ResultVar} {o2:List mB},dH C.res rs=some o2->∀{av:Env} {tmps:Array Value},aZ C fid G H w->(∀t∈Ctx.qz rs,a8 fid G w (bk av t) (tmps.getD t undef))->
  ∀{vs:List V},fy av H o2=some vs->∃xs,(rs.mapM (GS tmps)).run C.P w=.ok xs w/\aY fid G w vs xs
 |[],o2,hm,av,tmps,U,ad,vs,he=>by
  simp only[dH,az]at hm;subst hm;simp only[fy,az]at he;subst he;exact⟨[],by simp,.nil⟩
 |r::rs,o2,hm,av,tmps,U,ad,vs,he=>by
  simp only[dH]at hm;split at hm
  ·rename_i L9 h1
   split at hm
   ·rename_i asT h2
    cases hm;simp only[fy]at he;split at he
    ·rename_i v ar
     split at he
     ·rename_i vs' aQ
      cases he;rw[aeL]at ad;obtain⟨x,hx,yo⟩:=aeJ h1 U (fun t ht=>ad t (jA.2 (.inl ht))) ar;obtain⟨xs,eQ,cS⟩:=Tp h2 U (fun t ht=>ad t (jA.2 (.inr ht))) aQ;refine⟨x::xs,?_,.cons _ _ _ _ yo cS⟩;rw[List.mapM_cons,Sem.run_bind,hx,Result.andThen_ok,Sem.run_bind,eQ,Result.andThen_ok,Sem.run_pure]
     ·cases he
    ·cases he
   ·cases hm
  ·cases hm
def jk:List V->V
 |[v]=>v
 |vs=>.aU vs
theorem Tq{fn:Func}{o2:List mB}(hm:dH C.res fn.results.toList=some o2){av:Env}{tmps:Array Value}(U:aZ C fid G H w)(ad:∀t∈Ctx.qz fn.results.toList,a8 fid G w (bk av t) (tmps.getD t undef))
  {vs:List V} (he:fy av H o2=some vs):∃x,(results fn tmps).run C.P w=.ok x w/\a8 fid G w (jk vs) x:=by
 obtain⟨xs,hx,cS⟩:=Tp hm U ad he
 have e:results fn tmps=(do let vs <-fn.results.mapM (GS tmps);pure (if h:vs.size=1 then vs[0]else .tuple vs)):=by
  unfold results;congr 1
 rw[e];refine⟨if h:(⟨xs⟩:Array Value).size=1 then(⟨xs⟩:Array Value)[0]else .tuple ⟨xs⟩,?_,?_⟩
 ·rw[Sem.run_bind,Array.mapM_eq_mapM_toList,Sem.run_map,hx]
  simp only[Result.andThen_ok,Sem.run_pure]
 ·cases cS with
  |nil=>exact .aU [] [] .nil
  |cons v x vs xs h hs=>
   cases hs with
   |nil=>exact h
   |cons v2 dR asU aeM h2 oT=>
    have:¬(⟨x::dR::aeM⟩:Array Value).size=1:=by simp
    rw[dif_neg this];exact .aU _ _ (.cons _ _ _ _ h (.cons _ _ _ _ h2 oT))
end Go.Abs
namespace Go.Abs
open Go
variable{C:Ctx}{fid:Nat->Nat}{w w':World}{G G':bX}{H H':Heap}{call:cU}{n:Nat}
theorem aZ.Ma (U:aZ C fid G H w){r:Nat}(fj:∀l h,G.β l=some h->h.b≠r)(hi:¬G.I r)(o:Obj):aZ C fid G H (w.putObj r o) where
 obj l h e:=by
  obtain⟨o,ho,hr⟩:=U.obj l h e;exact⟨o,ho,hr.mono (.refl _) (fun b hb=>⟨hb,World.putObj_heap_other fun q=>hi (by rw[<-q];exact hb)⟩) (World.putObj_heap_other (fj l h e))⟩
 inj:=U.inj
 blk l h e:=by rw[World.putObj_size];exact U.blk l h e
 cX b hb:=by rw[World.putObj_size];exact U.cX b hb
 ku:=U.ku
 e9 b o bj:=⟨(U.e9 b o bj).1,by rw[World.putObj_heap_other (k:=b) (r:=r) fun q=>hi (by rw[<-q];exact(U.e9 b _ bj).1)];exact(U.e9 b o bj).2⟩
theorem Ext.Ma{fM:World}{tb:bX}{m k:Nat}(du:Ext tb fM G w m k){r:Nat}(hr:fM.heap.size<=r)(o:Obj):Ext tb fM G (w.putObj r o) m k:=
 ⟨by rw[World.putObj_size];exact du.size,du.os,du.output,fun b hb cW=>by rw[World.putObj_heap_other (by omega)];exact du.dQ b hb cW,du.homes,du.nt,du.cX,du.n1⟩
theorem GU{fn:Func}{tmps:Array Value}{R:Ending->World->Prop}{fM:World}{tb:bX}{m0:Nat->Prop}{k0:Nat}:
  ∀(rs:List (Nat ⊕ Deferred)) (w:World),(rs.filterMap fun| .inl r=>some r| .inr _=>none).Nodup->(∀r,.inl r∈rs->C1 G w fM.heap.size r)->(∀d,.inr d∈rs->Gd C.P d)->aZ C fid G H w->(∀m,m0 m->Ext tb fM G w m k0)->(∀v x,a8 fid G w v x->True)->
   (∀bG,aZ C fid G H bG->(∀m,m0 m->Ext tb fM G bG m k0)->(∀{v:V} {x:Value},a8 fid G w v x->a8 fid G bG v x)->∃v,(results fn tmps).run C.P bG=.ok v bG/\R (.returned v) bG)->
   LeavesInM Fence.wide 0 C.P fn tmps R (rs.map (fun| .inl r=>GM r| .inr d=>d)) .returning w
 |[],w,_,_,_,U,du,_,iF=>iF w U du fun h=>h
 | .inr d::rs,w,dk,hm,hn,U,du,_,iF=>by
   obtain⟨fv,cap,f,args,af,e2⟩:=hn d (by simp);obtain⟨bT,cF⟩:=e2 w;refine⟨by simp,.inr ⟨by simp[Fence.wide],fv,cap,f,args,af,bT,fun _ _=>trivial,cF.mono ?_⟩⟩;rintro e u' w' ⟨⟨v,rfl⟩,rfl,rfl⟩;exact GU rs _ dk (fun q bc=>hm q (by simp[bc])) (fun q bc=>hn q (by simp[bc])) U du (fun _ _ _=>trivial) iF
 | .inl r::rs,w,dk,hm,hn,U,du,_,iF=>by
   have hr:=hm r (by simp);have Tr:=ud.1 dk;refine⟨by simp,.inl ⟨r,w.putObj r (.deferred none),rfl,run_takeDeferred hr.obj,?_⟩⟩
   have ad:∀{v:V} {x:Value},a8 fid G w v x->a8 fid G (w.putObj r (.deferred none)) v x:=fun h=>
    h.mono (.refl _) fun b hb=>⟨hb,World.putObj_heap_other fun q=>hr.cX (by rw[<-q];exact hb)⟩
   refine GU rs _ Tr.2 (fun q bc=> ?_) (fun q bc=>hn q (by simp[bc])) (U.Ma hr.home hr.cX _) (fun m hm=>(du m hm).Ma hr.base _) (fun _ _ _=>trivial) fun bG a b c=>iF bG a b fun h=>c (ad h);have k:=hm q (by simp[bc]);have bf:q≠r:=fun e=>Tr.1 (by rw[<-e];exact QO.2 ⟨.inl q,bc,rfl⟩);exact⟨k.base,by rw[World.putObj_size];exact k.lt,by rw[World.putObj_heap_other bf];exact k.obj,k.home,k.cX⟩
theorem Mb:∀(vs:List V) (i t:Nat),bk (fQ i vs) t=if i<=t then(vs[t-i]?).getD .undef else .undef
 |[],i,t=>by simp[fQ,bk]
 |v::r,i,t=>by
  simp only[fQ,bk];by_cases h:i=t
  ·subst h;simp
  ·rw[if_neg h,Mb r (i+1) t]
   by_cases h2:i<=t
   ·rw[if_pos h2,if_pos (by omega)]
    have:t-i=(t-(i+1))+1:=by omega
    rw[this,Kh]
   ·rw[if_neg h2,if_neg (by omega)]
theorem GV{fn:Func}{fresh:Bool}{f:h3}(h:C.func fn fresh=some f):
  ∃c,fn.body=some c/\C.code (Ctx.varsOf fn) fn.ntmps c=some f.body/\dH C.res fn.results.toList=some f.results/\(fn.name== "runtime.NumGoroutine")=false/\f.xM=fn.ntmps/\f.fresh=fresh:=by
 unfold Ctx.func at h;split at h
 ·rename_i c hb
  split at h
  ·rename_i b rs h1 h2
   split at h
   ·cases h
   ·rename_i hn
    cases h;exact⟨c,hb,h1,h2,by simpa using hn,rfl,rfl⟩
  ·cases h
 ·cases h
theorem Ts{fn:Func}{t:Nat}(h:t∈Ctx.qz fn.results.toList):t∈Ctx.varsOf fn:=by
 unfold Ctx.varsOf;rw[List.mem_eraseDups];simp[h]
theorem Tt (cD:C.P.follows .mixedOrders=true)(bu:eZ C fid)(a6:gH C fid call){nD:Nat}{f:h3}{fn:Func}(ab:C.P.funcs[nD]? =some fn)(im:C.func fn f.fresh=some f)
  {args:List V} {v:V} {low':Nat} {xs:List Value} (he:fZ (exec call n) f args H=some (v,H',low')) (U:aZ C fid G H w) (ad:aY fid G w args xs):
  Calls C.P nD ⟨xs⟩ w (fun e w'=>∃x,e=.returned x/\ll C fid G H w v H' low' x w'):=by
 obtain⟨c,hb,aeN,s9,-,aeO,-⟩:=GV im;unfold fZ at he;split at he
 ·rename_i hlen
  have jH:=ad.length
  have iQ:dy C fid (Ctx.varsOf fn) fn.ntmps G {aG:=[],av:=fQ 0 args,H,low:=H.length} {tmps:=(⟨xs⟩:Array Value)++Array.replicate (fn.ntmps-(⟨xs⟩:Array Value).size) undef,defers:=[]} w:=by
   refine⟨U,fun t=> ?_,?_,aK _⟩
   ·unfold dC
    split
    ·rw[Mb]
     simp only[cx,if_true,Nat.sub_zero];cases ao:args[t]? with
     |none=>exact .undef _
     |some u=>
      obtain⟨x,hx,yp⟩:=ad.get ao
      have aX:t<xs.length:=by
       rcases fX t xs.length with h|h
       ·exact h
       ·simp[lb h]at hx
      have:((⟨xs⟩:Array Value)++Array.replicate (fn.ntmps-(⟨xs⟩:Array Value).size) undef).getD t undef=x:=by
       rw[v8,aaZ (by simpa using aX)];simp[hx]
      rw[this];exact yp
    ·exact .undef _
   ·simp only[Cb,Array.size_replicate]
    show xs.length+(fn.ntmps-xs.length)=fn.ntmps;rw[jH,<-aeO];omega
  have oe:∀(st:aq) (G':bX) (a7:Act) (w':World),gb {aG:=[],av:=fQ 0 args,H,low:=H.length} st->(∃vs,fy st.av st.H f.results=some vs/\finish f.fresh H (jk vs) st.H st.low=some (v,H',low'))->
    Fin C fid (Ctx.varsOf fn) fn.ntmps w.heap.size {aG:=[],av:=fQ 0 args,H,low:=H.length} G w st G' a7 w'->
    LeavesInM Fence.wide 0 C.P fn a7.tmps (fun e w'=>∃x,e=.returned x/\ll C fid G H w v H' low' x w') a7.defers .returning w':=by
   rintro st G' a7 w' er ⟨vs,hr,rT⟩ F;obtain⟨rs,Mc,dk,hm,C9⟩:=F.marks;rw[Mc];refine GU (m0:=fun m=>m<=st.low) rs w' dk hm C9 F.rel.rel F.ext (fun _ _ _=>trivial) fun bG cq ee k1=> ?_
   obtain⟨x,hx,yp⟩:=Tq s9 cq (fun t ht=>by
    have:=F.rel.env t;rw[LY (Ts ht)]at this;exact k1 this) hr
   exact⟨x,hx,x,rfl,Tm U cq ee er.1 yp rT⟩
  have Tu:∀{st:aq},(match fy st.av st.H f.results with|some [v]=>finish f.fresh H v st.H st.low|some vs=>finish f.fresh H (.aU vs) st.H st.low|none=>none)=some (v,H',low')->
    ∃vs,fy st.av st.H f.results=some vs/\finish f.fresh H (jk vs) st.H st.low=some (v,H',low'):=fun {st} h=>by
   split at h
   ·rename_i u hr;exact⟨[u],hr,h⟩
   ·rename_i vs bf hr
    refine⟨vs,hr,?_⟩
    have:jk vs=.aU vs:=by
     cases vs with
     |nil=>rfl
     |cons a r=>
      cases r with
      |nil=>exact absurd rfl (bf a)
      |cons b r=>rfl
    rw[this];exact h
   ·cases h
  have go:∀(GW:X) (st:aq),(GW=.normal\/GW=.ret)->exec call n f.body {aG:=[],av:=fQ 0 args,H,low:=H.length}=some (GW,st)->
    (∃vs,fy st.av st.H f.results=some vs/\finish f.fresh H (jk vs) st.H st.low=some (v,H',low'))->Calls C.P nD ⟨xs⟩ w (fun e w'=>∃x,e=.returned x/\ll C fid G H w v H' low' x w'):=fun GW st Md hex rT=>by
   refine(callsIn_wide (n:=0)).1 (callsIn_of_wp_marks ab hb trivial ?_);have er:=l4 a6.bM n _ _ _ _ (aK _) hex;refine qO (n:=n) cD bu a6 c _ _ _ aeN _ _ _ hex G _ w none w.heap.size _ iQ trivial (.nil _ _ _) (aK _) fun G' a7 w' F=> ?_;have:=oe st G' a7 w' er rT F;rcases Md with rfl|rfl
   ·exact this
   ·exact this
  split at he
  ·rename_i st hex;exact go _ st (.inl rfl) hex (Tu he)
  ·rename_i st hex;exact go _ st (.inr rfl) hex (Tu he)
  ·cases he
 ·cases he
theorem Da{nD:Nat}{fn:Func}{c:Code}(ab:C.P.funcs[nD]? =some fn)(hb:fn.body=some c)(hn:(fn.name== "runtime.NumGoroutine")=false)(aO:Array Value):
  (callFunc nD aO).run C.P w=.ok (.enter nD aO) w:=by
 unfold callFunc;have pD:¬fn.name= "runtime.NumGoroutine" :=by simpa using hn
 simp[Sem.run_bind,Sem.run,program,ab,hb,pD,Result.andThen]
theorem Db (cD:C.P.follows .mixedOrders=true)(bu:eZ C fid){aa:Nat->Option bY}(hT:dU C fid aa):∀(n:Nat),gH C fid (cu aa n)
 |0=>⟨Gz aa 0,fun _ _ _ he=>by simp[cu]at he⟩
 |n+1=>by
  have ih:=Db cD bu hT n;refine⟨Gz aa (n+1),fun {G H w f args v H' low' Lz xs} U yc n7 he=> ?_⟩;simp only[cu,qy]at he;split at he
  ·rename_i i first caps
   obtain⟨fs,cs,aeP,GX,aeQ⟩:=yc.Ak;subst aeQ;have wF:aY fid G w (first++args++caps) (fs++xs++cs):=(aeP.append n7).append GX
   have aeR:(invoke (.fn (.func i) ⟨cs⟩) ((⟨fs⟩:Array Value)++⟨xs⟩)).run C.P w=(callFunc i ⟨fs++xs++cs⟩).run C.P w:=by
    simp[invoke]
   refine⟨{target:=.fn (.func i) ⟨cs⟩,args:=(⟨fs⟩:Array Value)++⟨xs⟩},rfl,?_⟩;rw[aeR];split at he
   ·rename_i aeS pM
    obtain⟨fn,im,AV⟩:=hT.code i aeS pM;obtain⟨c,hb,-,-,Dc,-⟩:=GV AV;rw[Da im hb Dc];exact⟨Tt cD bu ih im AV he U wF,fun _ _=>⟨_,_,rfl⟩⟩
   ·rename_i spec pM
    split at he
    ·rename_i hp
     obtain⟨u,hu,he⟩:=ct.1 he;cases he;refine⟨hT.ext i spec pM U (wF.pz hp) hu,fun _ uw=> ?_⟩;rw[Ah,Ah]at hp;simp[uw]at hp
    ·cases he
   ·rename_i spec pM
    obtain⟨h1,h2⟩:=hT.zr i spec pM U wF he;exact⟨h1,fun _ _=>h2⟩
   ·cases he
  ·rename_i l
   obtain⟨h,hb,ht,rfl⟩:=yc.ab6;refine⟨{target:=.fn (.yield h.b) #[],args:= #[]++⟨xs⟩},rfl,?_,fun im=>by simp[wm]at im⟩;have:(invoke (.fn (.yield h.b) #[]) (#[]++(⟨xs⟩:Array Value))).run C.P w=(Instr.yield h.b ⟨xs⟩).run C.P w:=by simp[invoke]
   rw[this];exact aew cD bu ih he U hb n7
  ·cases he
theorem Tv (cD:C.P.follows .mixedOrders=true)(bu:eZ C fid){aa:Nat->Option bY}(hT:dU C fid aa){n i:Nat}{f:h3}(hi:aa i=some (.code f)){args:List V}{v:V}{low':Nat}{xs:List Value}
  (he:cu aa n (.fn i [] []) args H=some (v,H',low')) (U:aZ C fid G H w) (ad:aY fid G w args xs):
  Calls C.P i ⟨xs⟩ w (fun e w'=>∃x,e=.returned x/\ll C fid G H w v H' low' x w'):=by
 cases n with
 |zero=>simp[cu]at he
 |succ n=>
  simp only[cu,qy,hi,jB,rz]at he;obtain⟨fn,im,AV⟩:=hT.code i f hi;exact Tt cD bu (Db cD bu hT n) im AV he U ad
end Go.Abs
namespace Go.Abs
open Go
variable{C:Ctx}{fid:Nat->Nat}{w w':World}{G G':bX}{H H':Heap}
theorem aZ.apart (U:aZ C fid G H w):aZ C fid ⟨fun _=>Option.none,G.I⟩ [] w where
 obj _ _ e:=by cases e
 inj _ _ _ _ e:=by cases e
 blk _ _ e:=by cases e
 cX b hb:=⟨(U.cX b hb).1,fun _ _ e=>by cases e⟩
 ku _ _ e:=by cases e
 e9:=U.e9
theorem ll.beside (U:aZ C fid G H w){v:V}{l:Nat}{x:Value}(hp:bs v=true)(h:ll C fid ⟨fun _=>Option.none,G.I⟩ [] w v H' l x w'):ll C fid G H w v H H.length x w':=by
 obtain⟨ay,gO,he,ad⟩:=h;have e:=he 0 (cx _);have dQ:∀b,b<w.heap.size->w'.heap[b]? =w.heap[b]? :=fun b hb=>e.dQ b hb fun _ _ q=>by cases q
 have aW:∀b,G.I b->ay.I b/\w'.heap[b]? =w.heap[b]? :=fun b hb=>⟨e.cX b hb,dQ b (U.cX b hb).1⟩
 have n1:∀b,ay.I b->G.I b\/w.heap.size<=b:=fun b hb=>by
  rcases e.n1 b hb with q|q|⟨_,_,q,_⟩
  ·exact .inl q
  ·exact .inr q
  ·cases q
 refine⟨⟨G.β,ay.I⟩,⟨fun l h q=> ?_,U.inj,fun l h q=>qs (U.blk l h q) e.size,fun b hb=>⟨(gO.cX b hb).1,fun l h q aeT=> ?_⟩,fun l h q aeU=>e.cX _ (U.ku l h q aeU),gO.e9⟩,
  fun m _=>⟨e.size,e.os,e.output,fun b hb _=>dQ b hb,.refl _,fun l h q=>.inl ⟨h,q,.inl rfl⟩,e.cX,fun b hb=>(n1 b hb).imp id .inl⟩,.p _ _ (ad.pz hp)⟩
 ·obtain⟨o,ho,hr⟩:=U.obj l h q
  exact⟨o,ho,jg.mono (G:=G) (G':=⟨G.β,ay.I⟩) (lT.refl G.β) aW (dQ _ (U.blk l h q)) hr⟩
 ·rcases n1 b hb with q'|q'
  ·exact(U.cX b q').2 l h q aeT
  ·have:=U.blk l h q;omega
theorem Tw (cD:C.P.follows .mixedOrders=true)(bu:eZ C fid){aa:Nat->Option bY}(hT:dU C fid aa){n i:Nat}{f:h3}(hi:aa i=some (.code f)){spec:List V->Option V}
  (hs:∀args v,spec args=some v->bs v=true/\∃H' l,cu aa n (.fn i [] []) args []=some (v,H',l)):og C fid i spec:=by
 intro G H w args v xs U eQ lu;obtain⟨hp,H',l,he⟩:=hs args v lu;have hc:=Tv cD bu hT hi he U.apart (c7.oP eQ);obtain⟨fn,im,AV⟩:=hT.code i f hi;obtain⟨c,hb,-,-,Dc,-⟩:=GV AV;rw[Da im hb Dc];exact Ci hc fun e w'=>fun⟨x,af,e2⟩=>⟨x,af,e2.beside U hp⟩
def Dd (aO:List V)(v:V):List V->Option V:=fun args=>if mV args aO=true then some v else none
theorem aeV (cD:C.P.follows .mixedOrders=true)(bu:eZ C fid){aa:Nat->Option bY}(hT:dU C fid aa){n i:Nat}{f:h3}(hi:aa i=some (.code f)){aO:List V}{v:V}{H':Heap}{l:Nat}
  (hp:bs v=true) (he:cu aa n (.fn i [] []) aO []=some (v,H',l)):og C fid i (Dd aO v):=
 Tw cD bu hT hi fun args u hu=>by
  unfold Dd at hu;split at hu
  ·rename_i bc
   cases hu;rw[s8 _ _ bc];exact⟨hp,H',l,he⟩
  ·cases hu
theorem De{aa:Nat->Option bY}(hT:dU C fid aa){k:Nat}{spec:List V->Option V}(hs:og C fid k spec):dU C fid (over aa k spec) where
 code i f h:=by
  unfold over at h;cases e:Nat.beq i k with
  |true=>rw[e]at h;cases h
  |false=>rw[e]at h;exact hT.code i f h
 ext i sp h:=by
  unfold over at h;cases e:Nat.beq i k with
  |true=>
   rw[e]at h;have h':some (bY.ext spec)=some (.ext sp):=h;cases h';rw[e8 e];exact @hs
  |false=>rw[e]at h;exact hT.ext i sp h
 zr i sp h:=by
  unfold over at h;cases e:Nat.beq i k with
  |true=>rw[e]at h;cases h
  |false=>rw[e]at h;exact hT.zr i sp h
theorem GY (cD:C.P.follows .mixedOrders=true)(bu:eZ C fid){aa:Nat->Option bY}(hT:dU C fid aa){n i:Nat}{f:h3}(hi:aa i=some (.code f)):∀{l:List (List V × V)},jf aa n i l->og C fid i (je l):=by
 intro l hl;refine Tw cD bu hT hi (n:=n) fun args u hu=> ?_
 induction l with
 |nil=>cases hu
 |cons p r ih=>
  obtain⟨aO,v⟩:=p;simp only[je]at hu;cases e:mV args aO with
  |true=>
   rw[e]at hu;have h':some v=some u:=hu;cases h';rw[s8 _ _ e];exact⟨hl.1.1,[],0,hl.1.2⟩
  |false=>rw[e]at hu;exact ih hl.2 hu
end Go.Abs
namespace Go.Abs
open Go
variable{C:Ctx}{fid:Nat->Nat}{w w':World}{G G':bX}{H H':Heap}
theorem Tx{P:Program}(ty:TypeId){r j7 since fk bE:Nat}{seen:Array Nat}{es:Array MapEntry}(hr:w.heap[r]? =some (.mapIter (some j7) since seen fk))(hb:w.heap[j7]? =some (.map es bE))
  (hold:∀x∈es.toList,x.born<since) (aeW:since<=fk):
  ((leftOf es seen).size=0/\(Instr.next (.pointer (some ⟨r,0,none⟩)) false ty).run P w=.ok (.tuple #[.bool false]) w)\/
  ∃e∈(leftOf es seen).toList,∃aH:World,aH.heap=w.heap.setIfInBounds r (.mapIter (some j7) since (seen.push e.born) bE)/\aH.os=w.os/\aH.output=w.output/\
   (Instr.next (.pointer (some ⟨r,0,none⟩)) false ty).run P w=.ok (.tuple #[.bool true,e.key,e.val]) aH:=by
 simp only[Instr.next,getObj,Sem.run_bind,Sem.run,hr,hb,Result.andThen,next_test_false seen es since fk hold aeW,hY,if_false];unfold leftOf;have eB:∀x∈(Array.filter (fun e=>!seen.contains e.born) es).toList,x.born<since:=fun x hx=>hold x (by simp at hx⊢; exact hx.1);generalize Array.filter (fun e=>!seen.contains e.born) es=L at eB⊢;have af:L.filter (fun x=>decide (x.born<since))=L:=Array.filter_eq_self.2 (fun x hx=>by simpa using eB x (by simpa using hx))
 have e2:L.filter (fun x=>decide (x.born>=since))= #[]:=by
  rw[aa1];intro x hx;have:=eB x (by simpa using hx);simp;omega
 simp only[af,e2,Array.append_empty];by_cases h0:L.size=0
 ·left
  have:L= #[]:=aaY h0;subst this;refine⟨rfl,?_⟩;simp[choose,Sem.run,Question.forced]
 ·right
  have bf:L.isEmpty=false:=by simp[Array.isEmpty,h0]
  simp only[bf,hY,if_false,Array.empty_append,Array.size_map]
  have aeX:∃(j:Nat) (aH:World),j<L.size/\aH.heap=w.heap/\aH.os=w.os/\aH.output=w.output/\(choose (Question.mapNext L.size)).run P w=.ok j aH:=by
   by_cases ab:L.size<=1
   ·exact⟨0,w,by omega,rfl,rfl,rfl,by simp[choose,Sem.run,Question.forced,ab]⟩
   ·exact⟨_,w.drew,Nat.mod_lt _ (by omega),rfl,rfl,rfl,by
     simp only[choose,Sem.run,Question.forced,decide_eq_true_eq,ab,if_false,Question.cut];rfl⟩
  obtain⟨j,aH,hj,ai,a2,a3,cr⟩:=aeX
  have asV:r<w.heap.size:=by
   rcases fX r w.heap.size with h|h
   ·exact h
   ·simp[FG h]at hr
  refine⟨L[j],by simp,{aH with heap:=aH.heap.setIfInBounds r (.mapIter (some j7) since (seen.push L[j].born) bE)},by rw[ai],a2,a3,?_⟩
  have tc:∀(o':Obj),(setObj r o').run P aH=.ok () {aH with heap:=aH.heap.setIfInBounds r o'}:=fun o'=>by
   simp only[setObj,Sem.run];rw[ai,hr]
  simp only[cr,Array.getElem?_map,Array.getElem?_eq_getElem hj,pq,Sem.run_bind,tc,Result.andThen];rfl
theorem Ty{P:Program}{r j7 since bE:Nat}{seen:Array Nat}{es:Array MapEntry}{e:MapEntry}(hr:w.heap[r]? =some (.mapIter (some j7) since (seen.push e.born) bE))(hb:w.heap[j7]? =some (.map es bE))
  (he:e∈es.toList) (hn:(es.toList.map (·.born)).Nodup):
  (Instr.entry (.pointer (some ⟨r,0,none⟩))).run P w=.ok (.tuple #[e.key,e.val]) w:=by
 have ab:es.find? (·.born==e.born)=some e:=by rw[<-Array.find?_toList];exact find_born e es.toList hn he
 simp only[Instr.entry,getObj,Sem.run_bind,Sem.run,hr,hb,Result.andThen,Array.back?_push,bne_self_eq_false,hY,if_false,ab];rfl
section
variable{vars:List Nat}{N:Nat}{ops:Array Oper}
theorem GZ{j:Nat}{o:Oper}{a:Act}{K:Act->World->Prop}{Q:Exit->Act->World->Prop}{ro:Option Nat}(ho:ops[j]? =some o)(bj:o.guard=none)(hnd:∀c,o.op≠ .defer c){x:Value}{aH:World}
  (cr:(execOp a.eval o).run C.P w=.ok (.value x) aH) (kC:K (a.put o.dst x) aH):wpOpIn (en ro) 0 C.P ops Q j K a w:=by
 unfold wpOpIn;rw[ho];have hw:Region.wanted o (yielded ops a.tmps)=true:=by unfold Region.wanted;rw[bj]
 simp only[hw,if_true];refine⟨fun _ _=>trivial,?_⟩;rw[Oper.semAt_eq _ _ _ hnd,cr];exact kC
theorem dy.put{st:aq}{a:Act}(h:dy C fid vars N G st a w){t:Nat}(wN:t<N){v:V}{x:Value}(ad:a8 fid G w v x):
  dy C fid vars N G (st.put (some (t,vars.contains t)) v) (a.put (some t) x) w:=by
 have hp:=j5 st (some (t,vars.contains t)) v;refine⟨by rw[hp.1];exact h.rel,fun s=> ?_,by rw[wG];exact h.size,by rw[hp.1,hp.2.1];exact h.low⟩;rw[LD _ _ _ _ (by rw[h.size];exact wN),CR];by_cases e:s=t
 ·rw[if_pos e,if_pos e];exact ad
 ·rw[if_neg e,if_neg e];exact h.env s
end
end Go.Abs
