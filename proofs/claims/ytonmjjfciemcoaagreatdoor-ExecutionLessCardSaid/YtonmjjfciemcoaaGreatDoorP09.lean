/- Texts of this claim, joined and written short by a program. -/
import Derived.Test.YtonmjjfciemcoaaGreatDoorP08
import Derived.Test.YtonmjjfciemcoaaGreatDoorP01
import Derived.Test.YtonmjjfciemcoaaGreatDoorProg
import Derived.Test.YtonmjjfciemcoaaGreatDoorP02
import Derived.Tactics
import Derived.Tactics2
import Derived.Defers
import Derived.Recover
import Derived.Laws.Pointers
import Derived.TacticsInMore
import Derived.RegionIn
import Derived.LoopNIn
import Derived.RecoverIn
import Derived.Shelf.Strings.OnBuilder
import Derived.Shelf.Strings.Trim
import Derived.Shelf.Small.Bits
import Derived.Shelf.Small.Strs
import Derived.Shelf.Strconv.Atoi
import Derived.Shelf.Strconv.Itoa3
import Derived.Shelf.Strings.Fields
import Derived.Test.YtonmjjfciemcoaaGreatDoorP00
set_option linter.unusedVariables false
set_option linter.unusedSimpArgs false
set_option linter.unusedSectionVars false
namespace Go.Abs
open Go
variable{C:Ctx}{fid:Nat->Nat}{w w':World}{G G':bX}{H H':Heap}
structure eY where
 t0:List bS
 src:aj
 it:Nat
 aD:Nat × Bool
 t1:List bS
 more:aj
 eR:Nat
 pair:Nat × Bool
 t2:List bS
 body:bZ
def eY.step (R:eY)(call:cW)(e:V)(st:av):Option av:=
 match c3 call R.t1 (({st with aF:=[]}:av).put (some R.aD) e) []with
 |some (aQ,_)=>some {aQ with aF:=[]}
 |none=>none
def eY.round (R:eY)(call:cW)(n:Nat)(k v:V)(st:av):Option av:=
 match R.step call (.aU [.bool true,k,v]) {st with low:=st.H.length}with
 |some st1=>match R.more.ah st1.aF st1.au with
  | .bool true=>
    if dS (bG st1.au R.it) (bG st.au R.it)=true then
     match c3 call R.t2 (({st1 with aF:=[]}:av).put (some R.pair) (.aU [k,v])) []with
     |some (st2,_)=>match exec call n R.body {st2 with aF:=[]}with
      |some (.normal,l0)=>some l0
      |some (.exit id,l0)=>if id=R.eR then some l0 else none
      | _=>none
     |none=>none
    else none
  | _=>none
 |none=>none
def eY.fin (R:eY)(call:cW)(st:av):Option av:=
 match R.step call (.aU [.bool false]) {st with low:=st.H.length}with
 |some st1=>match R.more.ah st1.aF st1.au with
  | .bool false=>some st1
  | _=>none
 |none=>none
def hO (it:Nat)(st:av):av:={st with aF:=[],au:=dD st.au it (.ptr st.H.length 0),H:=st.H++[.gone]}
section
variable{vars:List Nat}{N:Nat}{call:cW}{n:Nat}
theorem DH{id:Nat}{ops:Array Oper}{hP:Oper}{os:List Oper}{d0:Nat}{bM:List bS}{st1 aQ:av}{wr:List Bool}{a:Act}{x:Value}{aG:World}{az:bX}{Q:Exit->Act->World->Prop}{ro:Option Nat}
  (bC:e7 C fid) (bb:gS C fid call) (qw:ops.toList=hP::os) (hd:hP.dst=some d0) (ba:hP.guard=none) (hnd:∀c,hP.op≠ .defer c) (hm:dM (C.oper vars N ops) os=some bM)
  (cm:(execOp a.eval hP).run C.P w=.ok (.value x) aG) (gy:dI C fid vars N az st1 (a.put (some d0) x) aG) (he:c3 call bM st1 []=some (aQ,wr))
  (dJ:∀G' bk w',dI C fid vars N G' aQ bk w'->(∀m,m<=aQ.low->Ext az aG G' w' m st1.H.length)->bk.defers=a.defers->Q .normal bk w'):
  (Code.region id ops false).wpIn (eJ ro) 0 C.P Q a w:=by
 obtain⟨S,a7,h0,hn,-,hs⟩:=vd _ _ _ _ _ he;have hlen:bM.length=os.length:=wv _ hm;have de:ops.size=os.length+1:=by rw[<-fw,qw];rfl
 have key:∀k j,j+k=os.length->∀bu al bR,dI C fid vars N bu (S j) al bR->(∀m,m<=(S j).low->Ext az aG bu bR m st1.H.length)->al.defers=a.defers->st1.H.length<=(S j).H.length->
   wpOpsIn (eJ ro) 0 C.P ops Q (List.range' (j+1) k) al bR:=by
  intro k
  induction k with
  |zero=>
   intro j hj bu al bR bB ca ez _;have e:j=bM.length:=by omega
   subst e;rw[hn]at bB ca;exact dJ bu al bR bB ca ez
  |succ k ih=>
   intro j hj bu al bR bB ca ez fC;have oJ:j<os.length:=by omega
   have jU:os[j]? =some os[j]:=by simp[oJ]
   have ho:ops[j+1]? =some os[j]:=by rw[<-fM,qw];simp[oJ]
   have Gx:j<bM.length:=by omega
   have gk:bM[j]? =some bM[j]:=by simp[Gx]
   have bc:vc C vars N ops os[j] bM[j]:=Dr (wx _ hm jU gk);have ct:=hs j _ gk;rw[td,wpOpsIn_cons];have eQ:=ct.b2 bb.b2;refine Am (T:=fun _=>True) bC bb ho bc ct bB.rel (fun _=>.inl rfl) bB.low (fun t _=>bB.env t) (fun x _=>by cases x<;>trivial) (fun _ _ _ _ _=>trivial) bB.size ?_;intro x fY jY p1 p2 p3
   have Ap:a8 C fid jY (S (j+1)).H fY:=by
    cases ag:a7 j with
    |true=>rw[ag]at p1;exact p1
    |false=>rw[ag]at p1;rw[ct.still bb.b2 ag];exact p1
   have oP:=p2 0 (cJ _)
   refine ih (j+1) (by omega) jY _ fY ⟨Ap,fun t=> ?_,by rw[yq];exact bB.size,eQ.bound bB.low⟩ (fun m hm=>(ca m (cY hm eQ.1.low)).trans ((p2 m hm).le (aH _) fC)) (by rw[put_defers];exact ez)
    (cY fC eQ.1.len)
   refine Ao (fun d hd=>by rw[bB.size];exact bc.lt d hd) (fun h=>p3 t h) (fun h=> ?_);rw[ct.look bc h];exact(bB.env t).ext bB.rel oP
 refine wpIn_region ?_;rw[de,Fk,td,wpOpsIn_cons];have anG:ops[0]? =some hP:=by rw[<-fM,qw];rfl
 refine Lh anG ba hnd cm ?_;rw[hd];rw[<-h0]at gy;exact key os.length 0 (by omega) az _ aG gy (fun m _=>.refl _ _ _ _) (put_defers _ _ _) (by rw[h0];exact aH _)
theorem Qx{k0 r:Nat}{ops:Array Oper}{os:List Oper}{bM:List bS}{st1 aQ:av}{wr:List Bool}{a:Act}{aG:World}{az:bX}{Q:Exit->Act->World->Prop}{ro:Option Nat}
  (bC:e7 C fid) (bb:gS C fid call) (oS:∀j,j<os.length->ops[k0+j]? =os[j]?) (hm:dM (C.oper vars N ops) os=some bM)
  (gy:dI C fid vars N az st1 a aG) (he:c3 call bM st1 []=some (aQ,wr))
  (dJ:∀G' bk w',dI C fid vars N G' aQ bk w'->(∀m,m<=aQ.low->Ext az aG G' w' m st1.H.length)->bk.defers=a.defers->wpOpsIn (eJ ro) 0 C.P ops Q (List.range' (k0+os.length) r) bk w'):
  wpOpsIn (eJ ro) 0 C.P ops Q (List.range' k0 (os.length+r)) a aG:=by
 obtain⟨S,a7,h0,hn,-,hs⟩:=vd _ _ _ _ _ he;have hlen:bM.length=os.length:=wv _ hm
 have key:∀k j,j+k=os.length->∀bu al bR,dI C fid vars N bu (S j) al bR->(∀m,m<=(S j).low->Ext az aG bu bR m st1.H.length)->al.defers=a.defers->st1.H.length<=(S j).H.length->
   wpOpsIn (eJ ro) 0 C.P ops Q (List.range' (k0+j) (k+r)) al bR:=by
  intro k
  induction k with
  |zero=>
   intro j hj bu al bR bB ca ez _;have e:j=bM.length:=by omega
   subst e;rw[hn]at bB ca;rw[hlen,dA];exact dJ bu al bR bB ca ez
  |succ k ih=>
   intro j hj bu al bR bB ca ez fC;have oJ:j<os.length:=by omega
   have jU:os[j]? =some os[j]:=by simp[oJ]
   have ho:ops[k0+j]? =some os[j]:=(oS j oJ).trans jU;have Gx:j<bM.length:=by omega
   have gk:bM[j]? =some bM[j]:=by simp[Gx]
   have bc:vc C vars N ops os[j] bM[j]:=Dr (wx _ hm jU gk);have ct:=hs j _ gk;rw[show k+1+r=(k+r)+1 by omega,td,wpOpsIn_cons];have eQ:=ct.b2 bb.b2;refine Am (T:=fun _=>True) bC bb ho bc ct bB.rel (fun _=>.inl rfl) bB.low (fun t _=>bB.env t) (fun x _=>by cases x<;>trivial) (fun _ _ _ _ _=>trivial) bB.size ?_;intro x fY jY p1 p2 p3
   have Ap:a8 C fid jY (S (j+1)).H fY:=by
    cases ag:a7 j with
    |true=>rw[ag]at p1;exact p1
    |false=>rw[ag]at p1;rw[ct.still bb.b2 ag];exact p1
   have oP:=p2 0 (cJ _)
   refine ih (j+1) (by omega) jY _ fY ⟨Ap,fun t=> ?_,by rw[yq];exact bB.size,eQ.bound bB.low⟩ (fun m hm=>(ca m (cY hm eQ.1.low)).trans ((p2 m hm).le (aH _) fC)) (by rw[put_defers];exact ez)
    (cY fC eQ.1.len)
   refine Ao (fun d hd=>by rw[bB.size];exact bc.lt d hd) (fun h=>p3 t h) (fun h=> ?_);rw[ct.look bc h];exact(bB.env t).ext bB.rel oP
 rw[<-h0]at gy;exact key os.length 0 (by omega) az _ aG gy (fun m _=>.refl _ _ _ _) rfl (by rw[h0];exact aH _)
theorem yx{m k:Nat}(h:Ext G w G' w' m k)(ab:a8 C fid G H w){l:Nat}{h0:Home}(hb:G.β l=some h0)(hl:l<m):w'.heap[h0.b]? =w.heap[h0.b]? :=
 h.keep h0.b (ab.blk l h0 hb) fun fk h' af ak=>.inr (by have:=ab.inj fk l h' h0 af hb ak;omega)
theorem yy{m k:Nat}(h:Ext G w G' w' m k){l:Nat}{h0:Home}(hb:G.β l=some h0)(ht:h0.tag=0):∃h',G'.β l=some h'/\h'.b=h0.b:=by
 obtain⟨h',e,-,z,anH,-⟩:=h.homes l h0 hb;exact⟨h',e,(anH ((z ht).trans ht.symm)).1⟩
theorem Li (ab:a8 C fid G H w){l:Nat}{h:Home}(hb:G.β l=some h)(hl:H[l]? =some .gone):h.tag=0/\h.fz=false:=by
 obtain⟨o,ho,hr⟩:=ab.obj l h hb;rw[hl]at ho;cases ho;exact hr
theorem AD (ab:a8 C fid G H w){l:Nat}{h:Home}(hb:G.β l=some h){bp:List (V × V)}(hl:H[l]? =some (.map bp)):h.tag=0/\h.fz=false/\∃es bT,w.heap[h.b]? =some (.map es bT)/\
  a6 fid G w (bp.map (·.1)) (es.toList.map (·.key))/\a6 fid G w (bp.map (·.2)) (es.toList.map (·.val))/\pd es bT:=by
 obtain⟨o,ho,hr⟩:=ab.obj l h hb;rw[hl]at ho;cases ho;exact hr
theorem Lj{H:Heap}{l:Nat}{o:b5}(h:H[l]? =some o):H.set l o=H:=by
 apply oA;intro i;by_cases e:l=i
 ·subst e
  have hl:l<H.length:=by
   rcases gh l H.length with q|q
   ·exact q
   ·rw[lQ q]at h;cases h
  rw[nI hl,h]
 ·rw[jx e]
def mJ (es:Array MapEntry)(d:List Nat):Array Nat:=(d.map fun i=>((es[i]?).map (·.born)).getD 0).toArray
theorem Qy (es:Array MapEntry)(d:List Nat){i:Nat}{e:MapEntry}(h:es[i]? =some e):mJ es (d++[i])=(mJ es d).push e.born:=by
 unfold mJ;rw[kk,dv,iT,h];simp
structure vi (C:Ctx) (fid:Nat->Nat) (vars:List Nat) (N base li l r kJ bT:Nat) (es:Array MapEntry) (bp:List (V × V)) (st:av) (G:bX) (w:World) (d:List Nat) (s:av) (az:bX) (al:Act) (aG:World):Prop where
 rel:dI C fid vars N az s al aG
 b2:gH st {s with low:=min st.low li}
 len:li<s.H.length
 ext:∀m,m<=min st.low li->Ext G w az aG m st.H.length
 marks:k9 C az aG base al.defers
 hi:∃h,az.β li=some h/\h.b=r
 hm:∃h,az.β l=some h/\h.b=kJ
 gone:s.H[li]? =some .gone
 mp:s.H[l]? =some (.map bp)
 iter:aG.heap[r]? =some (.mapIter (some kJ) bT (mJ es d) bT)
 map:aG.heap[kJ]? =some (.map es bT)
theorem vi.on{base li l r kJ bT:Nat}{es:Array MapEntry}{bp:List (V × V)}{st:av}{d:List Nat}{s ao:av}{az bu:bX}{al a2:Act}{aG bR:World}
  (h:vi C fid vars N base li l r kJ bT es bp st G w d s az al aG) (jZ:l<li) (aDt:li<=st.H.length) (ab:dI C fid vars N bu ao a2 bR) (c5:∀m,m<=ao.low->Ext az aG bu bR m s.H.length) (kH:li<ao.low) (cH:Fr s.H s.H.length ao.H ao.low) (dY:ao.ro=s.ro)
  (hd:k9 C bu bR base a2.defers):vi C fid vars N base li l r kJ bT es bp st G w d ao bu a2 bR:=by
 obtain⟨h1,af,q1⟩:=h.hi;obtain⟨h2,ak,q2⟩:=h.hm;have g1:=Li h.rel.rel af h.gone;have g2:=AD h.rel.rel ak h.mp;have qy:=c5 _ (aH _);have km:=h.b2.1.len;refine⟨ab,⟨⟨cY h.b2.1.len cH.len,jM _ _,fun x hx=> ?_⟩,dY.trans h.b2.2⟩,r3 h.len cH.len,fun m hm=> ?_,hd,?_,?_,?_,?_,?_,?_⟩
 ·have dT:x<min st.low li:=hx
  exact(cH.same x (by omega)).trans (h.b2.1.same x hx)
 ·exact(h.ext m hm).trans ((c5 m (by omega)).le (aH _) km)
 ·obtain⟨h',e',q'⟩:=yy qy af g1.1;exact⟨h',e',q'.trans q1⟩
 ·obtain⟨h',e',q'⟩:=yy qy ak g2.1;exact⟨h',e',q'.trans q2⟩
 ·rw[cH.same li kH];exact h.gone
 ·rw[cH.same l (by omega)];exact h.mp
 ·have:=yx qy h.rel.rel af kH
  rw[q1]at this;rw[this];exact h.iter
 ·have:=yx qy h.rel.rel ak (by omega)
  rw[q2]at this;rw[this];exact h.map
theorem dI.reset{st:av}{a:Act}(h:dI C fid vars N G st a w):dI C fid vars N G {st with aF:=[],low:=st.H.length} a w:=
 ⟨h.rel,h.clear.env,h.size,aH _⟩
theorem anI{es:Array MapEntry}{d:List Nat}(hn:(es.toList.map (·.born)).Nodup)(aT:∀i∈d,i<es.size)(h:(leftOf es (mJ es d)).size=0):∀i,i<es.size->i∈d:=by
 intro i hi;have h0:leftOf es (mJ es d)= #[]:=ajZ h;unfold leftOf at h0;rw[aj1]at h0;have h1:=h0 es[i] (by simp);simp only[kB,Ol]at h1;rw[aj4]at h1;unfold mJ at h1;simp only[List.mem_toArray,dZ]at h1;obtain⟨j,hj,hb⟩:=h1;have oJ:=aT j hj;simp only[zv oJ,nM,oB]at hb
 have:j=i:=by
  have Zh:j<(es.toList.map (·.born)).length:=by simpa using oJ
  have Zi:i<(es.toList.map (·.born)).length:=by simpa using hi
  have hp:=Oc.1 hn;rcases Nat.lt_trichotomy j i with q|q|q
  ·exact absurd (by simpa using hb) (hp j i Zh Zi q)
  ·exact q
  ·exact absurd (by simpa using hb.symm) (hp i j Zi Zh q)
 rw[<-this];exact hj
theorem anJ{es:Array MapEntry}{d:List Nat}{e:MapEntry}(he:e∈(leftOf es (mJ es d)).toList):∃i,es[i]? =some e/\i∉d/\(leftOf es (mJ es (d++[i]))).size<(leftOf es (mJ es d)).size:=by
 have qq:e∈es.toList/\(mJ es d).contains e.born=false:=by
  unfold leftOf at he;simpa using he
 obtain⟨i,hi⟩:=pY.1 qq.1;rw[fM]at hi;refine⟨i,hi,fun hid=> ?_,?_⟩
 ·have:(mJ es d).contains e.born=true:=by
   rw[aj4];unfold mJ;simp only[List.mem_toArray,dZ];exact⟨i,hid,by rw[hi];rfl⟩
  rw[this]at qq;cases qq.2
 ·rw[Qy es d hi]
  unfold leftOf;have key:∀p:MapEntry->Bool,(es.filter p).size=(es.toList.filter p).length:=fun p=>by rw[<-fw,Array.toList_filter]
  rw[key,key];refine filter_lt _ _ (fun x hx=> ?_) e ?_ ?_ _ qq.1
  ·simp only[Array.contains_push,kB,vO]at hx⊢
   simp at hx⊢;exact hx.1
  ·rw[qq.2];rfl
  ·simp
theorem anK (cD:C.P.follows .mixedOrders=true)(bC:e7 C fid)(bb:gS C fid call){k0 l2 i2:Nat}{hP on j0:Oper}{kK kL j1:Array Oper}{oT oU:List Oper}
  {mt it aD more pair out eR:Nat} {tm sA sB:TypeId} {body:Code} {R:eY}
  (h0:kK[k0]? =some hP) (tL:C.cg vars (.tmp mt)=some R.src) (tM:hP.op=.range tm (.tmp mt)) (wN:hP.dst=some it) (wO:hP.guard=none) (hit:it<N) (wP:C.P.underlying tm=some (.map sA sB))
  (h1:kL.toList=on::oT) (rl:on.op=.next (.tmp it) false) (hnd:on.dst=some aD) (tN:on.guard=none) (oM:aD<N)
  (h2:j1.toList=j0::oU) (tO:j0.op=.entry (.tmp it)) (wQ:j0.dst=some pair) (wR:j0.guard=none) (wS:pair<N)
  (rm:vars.contains it=true) (tP:R.aD=(aD,vars.contains aD)) (wT:R.pair=(pair,vars.contains pair))
  (re:dM (C.oper vars N kL) oT=some R.t1) (pg:dM (C.oper vars N j1) oU=some R.t2) (tQ:C.cg vars (.tmp more)=some R.more) (yz:C.code vars N body=some R.body) (Qz:R.eR=eR) (GI:R.it=it)
  {st:av} {l:Nat} {bp:List (V × V)} (qz:R.src.ah st.aF st.au=.map l) (nt:st.H[l]? =some (.map bp)) (Inv:List Nat->av->Prop) (Out:av->Prop)
  (tR:Inv [] (hO it st)) (rn:∀d s,Inv d s->bG s.au it=.ptr st.H.length 0)
  (oV:∀d s,Inv d s->∀i kv,i∉d->bp[i]? =some kv->∃ao,R.round call n kv.1 kv.2 s=some ao/\st.H.length<ao.low/\Inv (d++[i]) ao)
  (ig:∀d s,Inv d s->d.Nodup->(∀i,i∈d↔i<bp.length)->∃ao,R.fin call s=some ao/\st.H.length<ao.low/\Out ao)
  {a:Act} {ro:Option Nat} {base:Nat} {Q QA:Exit->Act->World->Prop} (ab:dI C fid vars N G st a w) (dY:wJ G st.ro ro) (eX:k9 C G w base a.defers) (hb:base<=w.heap.size)
  (dJ:∀ao G' bk w',Out ao->gH st {ao with low:=min st.low st.H.length}->Fin C fid vars N base st G w {ao with low:=min st.low st.H.length} G' bk w'->Q .normal bk w'):
  wpOpIn (eJ ro) 0 C.P kK QA k0 (fun bk w'=>(Code.block out (.loop (.seq (.region l2 kL false) (.seq (.cond (.tmp more) .skip (.exit out)) (.block eR (.seq (.region i2 j1 false) body)))))).wpIn (eJ ro) 0 C.P Q bk w') a w:=by
 have lB:=tJ bC ab (.tmp mt) R.src tL;rw[qz]at lB;obtain⟨fo,wU,QB,QC⟩:=lB.mapInv;obtain⟨-,-,es,bT,eo,eG,c2,ct⟩:=AD ab.rel wU nt;have jZ:l<st.H.length:=ab.rel.lt wU
 have Gi:(execOp a.eval hP).run C.P w=.ok (.value (.pointer (some ⟨w.heap.size,0,none⟩))) (w.alloc (.mapIter (some fo.b) bT #[] bT)):=by
  unfold execOp;rw[tM];have e:a.eval (.tmp mt)=.map (some fo.b):=QC;simp only[e,Sem.run_bind,run_range_map w tm sA sB fo.b es bT wP eo,Result.andThen_ok,Sem.run_pure]
 have QD:bp.length=es.size:=by
  have:=eG.length;simpa using this.symm
 have QE:=ab.rel.push .gone (.mapIter (some fo.b) bT #[] bT) 0 0 ⟨rfl,rfl⟩;have sz:∀m k,k<=st.H.length->Ext G w ⟨cp G.β st.H.length ⟨w.heap.size,0,0,false⟩,G.I⟩ (w.alloc (.mapIter (some fo.b) bT #[] bT)) m k:=fun m k hk=>(Ext.push ab.rel (.mapIter (some fo.b) bT #[] bT) 0 0 m).le (aH _) hk
 have QF:dI C fid vars N ⟨cp G.β st.H.length ⟨w.heap.size,0,0,false⟩,G.I⟩ {st with H:=st.H++[.gone]} a (w.alloc (.mapIter (some fo.b) bT #[] bT)):=
  ⟨QE,fun t=>(ab.env t).ext ab.rel (sz 0 0 (cJ _)),ab.size,by have:=ab.low;simp only[eZ,gD,nL];omega⟩
 have lV:dI C fid vars N ⟨cp G.β st.H.length ⟨w.heap.size,0,0,false⟩,G.I⟩ (hO it st) (a.put (some it) (.pointer (some ⟨w.heap.size,0,none⟩))) (w.alloc (.mapIter (some fo.b) bT #[] bT)):=by
  have:=QF.put hit (v:=.ptr st.H.length 0) (x:=.pointer (some ⟨w.heap.size,0,none⟩)) (.ptr st.H.length 0 ⟨w.heap.size,0,0,false⟩ (dr _ _ _) rfl);rw[rm]at this;exact this.clear
 suffices QG:∀G' bk w',dI C fid vars N G' (hO it st) bk w'->(∀m,m<=(hO it st).H.length->Ext ⟨cp G.β st.H.length ⟨w.heap.size,0,0,false⟩,G.I⟩ (w.alloc (.mapIter (some fo.b) bT #[] bT)) G' w' m (hO it st).H.length)->
   bk.defers=a.defers->(Code.block out (.loop (.seq (.region l2 kL false) (.seq (.cond (.tmp more) .skip (.exit out)) (.block eR (.seq (.region i2 j1 false) body)))))).wpIn (eJ ro) 0 C.P Q bk w' by
  refine Lh h0 wO (by rw[tM];simp) Gi ?_;rw[wN];exact QG _ _ _ lV (fun m _=>.refl _ _ _ _) (by rw[put_defers])
 intro G' bk w' bB ca ez
 refine wpIn_block (K6 (fun k al aG=>∃d s az,Inv d s/\d.Nodup/\(∀i∈d,i<bp.length)/\(leftOf es (mJ es d)).size<k/\vi C fid vars N base st.H.length l w.heap.size fo.b bT es bp st G w d s az al aG) ?_
  (j:=(leftOf es (mJ es [])).size+1) ?_)
 ·rintro k al aG ⟨d,s,az,bq,Zj,lA,hk,bP⟩
  obtain⟨bF,rfl⟩:∃bF,k=bF+1:=⟨k-1,by omega⟩;refine⟨bF,rfl,?_⟩;obtain⟨ar,bK,cn⟩:=bP.hi;obtain⟨aS,cL,c7⟩:=bP.hm
  have GJ:al.eval (.tmp it)=.pointer (some ⟨w.heap.size,0,none⟩):=by
   have:=bP.rel.env it;rw[show dP vars s it=bG s.au it by unfold dP;rw[if_pos rm],rn d s bq]at this;obtain⟨h5,dF,-,gb⟩:=this.pj;rw[bK]at dF;cases dF;rw[cn]at gb;exact gb
  have sC:∀c,on.op≠ .defer c:=by rw[rl];simp
  have tC:∀c,j0.op≠ .defer c:=by rw[tO];simp
  rcases Zf (P:=C.P) on.type bP.iter bP.map ct.1 (aH _)with⟨de,cm⟩|⟨e,he,bR,AE,QH,QI,cm⟩
  ·
   have eP:=anI ct.2 (fun i hi=>by rw[<-QD];exact lA i hi) de;obtain⟨ao,ag,kH,yA⟩:=ig d s bq Zj fun i=>⟨lA i,fun hi=>eP i (by rw[<-QD];exact hi)⟩;unfold eY.fin eY.step at ag;split at ag
   ·rename_i s1 gw
    split at gw
    ·rename_i j2 wr hex
     cases gw;split at ag
     ·rename_i tS
      cases ag
      have AF:(execOp al.eval on).run C.P aG=.ok (.value (.tuple #[.bool false])) aG:=by
       unfold execOp;rw[rl];simp only[GJ,Sem.run_bind,cm,Result.andThen_ok,Sem.run_pure]
      have wK:dI C fid vars N az (({s with aF:=[],low:=s.H.length}:av).put (some R.aD) (.aU [.bool false])) (al.put (some aD) (.tuple #[.bool false])) aG:=by
       rw[tP];exact bP.rel.reset.put oM (.aU _ _ (.cons _ _ _ _ (.p _ _ (.bool false)) .nil))
      refine wpIn_seq (DH bC bb h1 hnd tN sC re AF wK hex fun bu a2 fY fC hG mI=> ?_);have gl:=kI ({s with aF:=[],low:=s.H.length}:av) (some R.aD) (.aU [.bool false]);have cH:=pw bb.b2 _ _ _ _ _ (by rw[gl.1,gl.2.1];exact aH _) hex
      have eB:vi C fid vars N base st.H.length l w.heap.size fo.b bT es bp st G w d {j2 with aF:=[]} bu a2 fY:=by
       refine bP.on jZ (aH _) fC.clear (fun m hm=> ?_) kH ?_ ?_ ?_
       ·have:=hG m hm
        rw[gl.1]at this;exact this
       ·have:=cH.1
        rw[gl.1,gl.2.1]at this;exact this
       ·exact cH.2.trans gl.2.2
       ·have:=bP.marks.ext (hG 0 (cJ _))
        rw[mI];exact this
      have ad:=tJ bC eB.rel (.tmp more) R.more tQ;rw[tS]at ad;refine wpIn_seq (wpIn_cond_false ad.k5 (wpIn_exit ?_));show(if out=out then Q .normal a2 fY else _);rw[if_pos rfl];exact dJ _ bu a2 fY yA eB.b2 ⟨⟨eB.rel.rel,eB.rel.env,eB.rel.size,cY (nJ _ _) (vR eB.len)⟩,eB.ext,eB.marks⟩
     ·cases ag
    ·cases gw
   ·cases ag
  ·
   obtain⟨i,hi,hid,sD⟩:=anJ he
   have nZ:i<es.size:=by
    rcases gh i es.size with q|q
    ·exact q
    ·rw[zx q]at hi;cases hi
   obtain⟨anL,anM,bN,tB,GK,yp,Af,-⟩:=AD bP.rel.rel cL bP.mp;rw[c7,bP.map]at GK;cases GK;obtain⟨QJ,yv⟩:=Li bP.rel.rel bK bP.gone;obtain⟨kv,jE⟩:∃kv,bp[i]? =some kv:=⟨bp[i]'(by omega),by simp⟩
   have QK:bh fid az aG kv.1 e.key:=by
    obtain⟨x,hx,hr⟩:=yp.get (i:=i) (v:=kv.1) (by rw[hL,jE];rfl);rw[hL,fM,hi]at hx;cases hx;exact hr
   have mK:bh fid az aG kv.2 e.val:=by
    obtain⟨x,hx,hr⟩:=Af.get (i:=i) (v:=kv.2) (by rw[hL,jE];rfl);rw[hL,fM,hi]at hx;cases hx;exact hr
   obtain⟨ao,ag,kH,AG⟩:=oV d s bq i kv hid jE;have hT:=turn bP.rel.rel bK yv (.mapIter (some fo.b) bT ((mJ es d).push e.born) bT) .gone fun _ _ _=>⟨QJ,yv⟩;rw[Lj bP.gone]at hT;have wV:bR.heap=(aG.putObj ar.b (.mapIter (some fo.b) bT ((mJ es d).push e.born) bT)).heap:=by rw[AE,cn];rfl
   have AH:a8 C fid az s.H bR:=hT.1.jT wV;have AJ:∀m,m<=st.H.length->Ext az aG az bR m s.H.length:=fun m hm=>(hT.2.le hm (aH _)).trans (.jT wV QH QI _ _)
   have wW:bR.heap[w.heap.size]? =some (.mapIter (some fo.b) bT ((mJ es d).push e.born) bT):=by
    rw[wV,<-cn];exact World.putObj_heap_same (bP.rel.rel.blk _ _ bK)
   have pq:bR.heap[fo.b]? =some (.map es bT):=by
    rw[wV,World.putObj_heap_other (fun q=> ?_)]
    ·exact bP.map
    ·have:=bP.rel.rel.inj _ _ _ _ bK cL (by rw[c7,<-q]);omega
   have GL:dI C fid vars N az s al bR:=⟨AH,fun t=>(bP.rel.env t).ext bP.rel.rel (AJ 0 (cJ _)),bP.rel.size,bP.rel.low⟩;have AK:=AJ 0 (cJ _)
   have GM:vi C fid vars N base st.H.length l w.heap.size fo.b bT es bp st G w (d++[i]) s az al bR:=
    ⟨GL,bP.b2,bP.len,fun m hm=>(bP.ext m hm).trans ((AJ m (by omega)).le (aH _) bP.b2.1.len),bP.marks.ext AK,bP.hi,bP.hm,bP.gone,bP.mp,by rw[Qy es d hi];exact wW,pq⟩
   have GN:=QK.ext bP.rel.rel AK;have GO:=mK.ext bP.rel.rel AK;unfold eY.round eY.step at ag;split at ag
   case h_2=>cases ag
   rename_i s1 gw;split at gw
   case h_2=>cases gw
   rename_i j2 wr hex;cases gw;split at ag
   case h_2=>cases ag
   rename_i tS;split at ag
   case isFalse=>cases ag
   rename_i QL
   have QM:bG j2.au it=.ptr st.H.length 0:=by
    have:=wE _ _ QL;rw[GI]at this;exact this.trans (rn d s bq)
   split at ag
   case h_2=>cases ag
   rename_i s2 QN GP
   have AF:(execOp al.eval on).run C.P aG=.ok (.value (.tuple #[.bool true,e.key,e.val])) bR:=by
    unfold execOp;rw[rl];simp only[GJ,Sem.run_bind,cm,Result.andThen_ok,Sem.run_pure]
   have wK:dI C fid vars N az (({s with aF:=[],low:=s.H.length}:av).put (some R.aD) (.aU [.bool true,kv.1,kv.2])) (al.put (some aD) (.tuple #[.bool true,e.key,e.val])) bR:=by
    rw[tP];exact GL.reset.put oM (.aU _ _ (.cons _ _ _ _ (.p _ _ (.bool true)) (.cons _ _ _ _ GN (.cons _ _ _ _ GO .nil))))
   have gl:=kI ({s with aF:=[],low:=s.H.length}:av) (some R.aD) (.aU [.bool true,kv.1,kv.2]);have cH:=pw bb.b2 _ _ _ _ _ (by rw[gl.1,gl.2.1];exact aH _) hex;have mL:=kI ({j2 with aF:=[]}:av) (some R.pair) (.aU [kv.1,kv.2]);have sx:j2.low<=j2.H.length:=cH.bound (by rw[gl.1,gl.2.1];exact aH _);have wX:=pw bb.b2 _ _ _ _ _ (by rw[mL.1,mL.2.1];exact sx) GP;have An:s2.low<=s2.H.length:=wX.bound (by rw[mL.1,mL.2.1];exact sx)
   obtain⟨hQ,e9,Lk,anN,anO⟩:∃hQ e9,exec call n R.body {s2 with aF:=[]}=some (hQ,e9)/\(hQ=.normal\/hQ=.exit eR)/\e9=ao:=by
    split at ag
    ·rename_i e9 Ax;cases ag;exact⟨_,_,Ax,.inl rfl,rfl⟩
    ·rename_i id e9 Ax
     split at ag
     ·rename_i anP;cases ag;exact⟨_,_,Ax,.inr (by rw[anP,Qz]),rfl⟩
     ·cases ag
    ·cases ag
   subst anO;have tT:=mF bb.b2 n _ _ _ _ (show({s2 with aF:=[]}:av).low<=({s2 with aF:=[]}:av).H.length from An) Lk;have anQ:e9.low<=s2.low:=tT.1.low;have anR:s2.low<=j2.low:=by have:=wX.1.low;rw[mL.2.1]at this;exact this
   refine wpIn_seq (DH bC bb h1 hnd tN sC re AF wK hex fun bu a2 fY fC hG mI=> ?_)
   have eB:vi C fid vars N base st.H.length l w.heap.size fo.b bT es bp st G w (d++[i]) {j2 with aF:=[]} bu a2 fY:=by
    refine GM.on jZ (aH _) fC.clear (fun m hm=> ?_) (by show st.H.length<j2.low;omega) ?_ ?_ ?_
    ·have:=hG m hm
     rw[gl.1]at this;exact this
    ·have:=cH.1
     rw[gl.1,gl.2.1]at this;exact this
    ·exact cH.2.trans gl.2.2
    ·have:=GM.marks.ext (hG 0 (cJ _))
     rw[mI];exact this
   have ad:=tJ bC eB.rel (.tmp more) R.more tQ;rw[tS]at ad;refine wpIn_seq (wpIn_cond_true ad.k5 (wpIn_skip ?_));show(Code.block eR (.seq (.region i2 j1 false) body)).wpIn (eJ ro) 0 C.P _ a2 fY;refine wpIn_block (wpIn_seq ?_)
   have QO:a2.eval (.tmp it)=.pointer (some ⟨w.heap.size,0,none⟩):=by
    have:=eB.rel.env it;rw[show dP vars {j2 with aF:=[]} it=bG j2.au it by unfold dP;rw[if_pos rm],QM]at this;obtain⟨h5,dF,-,gb⟩:=this.pj;obtain⟨eA,hE,ic⟩:=eB.hi;rw[hE]at dF;cases dF;rw[ic]at gb;exact gb
   have QP:(execOp a2.eval j0).run C.P fY=.ok (.value (.tuple #[e.key,e.val])) fY:=by
    have Zk:=eB.iter;rw[Qy es d hi]at Zk;have Gz:=Zg (P:=C.P) Zk eB.map (by rw[<-fM]at hi;exact gg hi) ct.2;unfold execOp;rw[tO];simp only[QO,Sem.run_bind,Gz,Result.andThen_ok,Sem.run_pure]
   have GQ:=hG 0 (cJ _)
   have GR:dI C fid vars N bu (({j2 with aF:=[]}:av).put (some R.pair) (.aU [kv.1,kv.2])) (a2.put (some pair) (.tuple #[e.key,e.val])) fY:=by
    rw[wT];exact eB.rel.put wS (.aU _ _ (.cons _ _ _ _ (GN.ext AH GQ) (.cons _ _ _ _ (GO.ext AH GQ) .nil)))
   refine DH bC bb h2 wQ wR tC pg QP GR GP fun jY a3 DI rj rk GF=> ?_
   have n0:vi C fid vars N base st.H.length l w.heap.size fo.b bT es bp st G w (d++[i]) {s2 with aF:=[]} jY a3 DI:=by
    refine eB.on jZ (aH _) rj.clear (fun m hm=> ?_) (by show st.H.length<s2.low;omega) ?_ ?_ ?_
    ·have:=rk m hm
     rw[mL.1]at this;exact this
    ·have:=wX.1
     rw[mL.1,mL.2.1]at this;exact⟨this.len,cY this.low sx,this.same⟩
    ·exact wX.2.trans mL.2.2
    ·have:=eB.marks.ext (rk 0 (cJ _))
     rw[GF];exact this
   show body.wpIn (eJ ro) 0 C.P _ a3 DI;refine sy (n:=n) cD bC bb body _ _ _ yz _ _ _ Lk jY a3 DI ro base _ n0.rel ?_ n0.marks (cY hb (n0.ext 0 (cJ _)).size) fun GS a4 Ll F=> ?_
   ·have lI:({s2 with aF:=[]}:av).ro=st.ro:=n0.b2.2
    rw[lI];exact dY.ext (n0.ext 0 (cJ _))
   have yB:vi C fid vars N base st.H.length l w.heap.size fo.b bT es bp st G w (d++[i]) e9 GS a4 Ll:=
    n0.on jZ (aH _) F.rel F.ext kH ⟨tT.1.len,cY tT.1.low An,tT.1.same⟩ tT.2 F.marks
   have yr:∃d s az,Inv d s/\d.Nodup/\(∀i∈d,i<bp.length)/\(leftOf es (mJ es d)).size<bF/\vi C fid vars N base st.H.length l w.heap.size fo.b bT es bp st G w d s az a4 Ll:=by
    refine⟨d++[i],e9,GS,AG,uT.2 ⟨Zj,by simp,fun x hx y hy=> ?_⟩,fun x hx=> ?_,by omega,yB⟩
    ·simp only[dx,r4,or_false]at hy
     subst hy;exact fun q=>hid (q ▸ hx)
    ·rcases iq.1 hx with q|q
     ·exact lA x q
     ·simp only[dx,r4,or_false]at q
      subst q;omega
   rcases anN with rfl|rfl
   ·exact yr
   ·show(if eR=eR then _ else _)
    rw[if_pos rfl];exact yr
 ·have ec:(hO it st).H.length=st.H.length+1:=by unfold hO;simp
  have af:=ca (st.H.length+1) (by show st.H.length+1<=(hO it st).H.length;rw[ec];exact aH _);have eM:=sz 0 st.H.length (aH _)
  have rb:(⟨cp G.β st.H.length ⟨w.heap.size,0,0,false⟩,G.I⟩:bX).β l=some fo:=by
   show cp G.β st.H.length ⟨w.heap.size,0,0,false⟩ l=some fo;rw[dE (by omega)];exact wU
  have tx:(⟨cp G.β st.H.length ⟨w.heap.size,0,0,false⟩,G.I⟩:bX).β st.H.length=some ⟨w.heap.size,0,0,false⟩:=dr _ _ _;refine⟨[],hO it st,G',tR,Fs,fun i hi=>(by cases hi),zE _,⟨⟨bB.rel,bB.env,bB.size,?_⟩,⟨⟨?_,jM _ _,fun x hx=> ?_⟩,rfl⟩,?_,fun m hm=> ?_,?_,?_,?_,?_,?_,?_,?_⟩⟩
  ·exact lV.low
  ·show st.H.length<=(hO it st).H.length
   omega
  ·have dT:x<min st.low st.H.length:=hx
   show(st.H++[b5.gone])[x]? =_;rw[e5 (by omega)]
  ·omega
  ·exact(sz m st.H.length (aH _)).trans ((ca m (by show m<=(hO it st).H.length;omega)).le (aH _) (by show st.H.length<=(hO it st).H.length;omega))
  ·rw[ez]
   exact(eX.ext eM).ext af
  ·exact yy af tx rfl
  ·exact yy af rb QB
  ·show(st.H++[b5.gone])[st.H.length]? =_
   simp
  ·show(st.H++[b5.gone])[l]? =_
   rw[e5 jZ];exact nt
  ·have:=yx af lV.rel tx (zE _)
   rw[this];exact mr _ _
  ·have:=yx af lV.rel rb (by omega)
   rw[this,alloc_old (ab.rel.blk _ _ wU)];exact eo
theorem anS (cD:C.P.follows .mixedOrders=true)(bC:e7 C fid)(bb:gS C fid call){i0 l2 i2:Nat}{hP on j0:Oper}{kK kL j1:Array Oper}{qA oT oU:List Oper}
  {mt it aD more pair out eR:Nat} {tm sA sB:TypeId} {body:Code} {R:eY}
  (h0:kK.toList=qA++[hP]) (qs:dM (C.oper vars N kK) qA=some R.t0) (tL:C.cg vars (.tmp mt)=some R.src) (tM:hP.op=.range tm (.tmp mt)) (wN:hP.dst=some it) (wO:hP.guard=none) (hit:it<N) (wP:C.P.underlying tm=some (.map sA sB))
  (h1:kL.toList=on::oT) (rl:on.op=.next (.tmp it) false) (hnd:on.dst=some aD) (tN:on.guard=none) (oM:aD<N)
  (h2:j1.toList=j0::oU) (tO:j0.op=.entry (.tmp it)) (wQ:j0.dst=some pair) (wR:j0.guard=none) (wS:pair<N)
  (rm:vars.contains it=true) (tP:R.aD=(aD,vars.contains aD)) (wT:R.pair=(pair,vars.contains pair))
  (re:dM (C.oper vars N kL) oT=some R.t1) (pg:dM (C.oper vars N j1) oU=some R.t2) (tQ:C.cg vars (.tmp more)=some R.more) (yz:C.code vars N body=some R.body) (Qz:R.eR=eR) (GI:R.it=it)
  {iN st:av} {wr:List Bool} (he:c3 call R.t0 {iN with aF:=[]} []=some (st,wr)) {l:Nat} {bp:List (V × V)} (qz:R.src.ah st.aF st.au=.map l) (nt:st.H[l]? =some (.map bp)) (Inv:List Nat->av->Prop) (Out:av->Prop)
  (tR:Inv [] (hO it st)) (rn:∀d s,Inv d s->bG s.au it=.ptr st.H.length 0)
  (oV:∀d s,Inv d s->∀i kv,i∉d->bp[i]? =some kv->∃ao,R.round call n kv.1 kv.2 s=some ao/\st.H.length<ao.low/\Inv (d++[i]) ao)
  (ig:∀d s,Inv d s->d.Nodup->(∀i,i∈d↔i<bp.length)->∃ao,R.fin call s=some ao/\st.H.length<ao.low/\Out ao)
  {a:Act} {ro:Option Nat} {base:Nat} {Q:Exit->Act->World->Prop} (ab:dI C fid vars N G iN a w) (dY:wJ G iN.ro ro) (eX:k9 C G w base a.defers) (hb:base<=w.heap.size)
  (dJ:∀ao G' bk w',Out ao->gH iN {ao with low:=min st.low st.H.length}->Fin C fid vars N base iN G w {ao with low:=min st.low st.H.length} G' bk w'->Q .normal bk w'):
  (Code.seq (.region i0 kK false) (.block out (.loop (.seq (.region l2 kL false) (.seq (.cond (.tmp more) .skip (.exit out)) (.block eR (.seq (.region i2 j1 false) body))))))).wpIn (eJ ro) 0 C.P Q a w:=by
 have cH:=pw bb.b2 _ _ _ _ _ (show({iN with aF:=[]}:av).low<=({iN with aF:=[]}:av).H.length from ab.low) he;have AL:gH iN st:=cH;have de:kK.size=qA.length+1:=by rw[<-fw,h0];simp
 refine wpIn_seq (wpIn_region ?_);rw[de,Fk];refine Qx bC bb (k0:=0) (fun j hj=>by rw[dA,<-fM,h0,e5 hj]) qs ab.clear he fun az al aG bB ca ez=> ?_;have eM:=ca 0 (cJ _);have hk:kK[0+qA.length]? =some hP:=by rw[dA,<-fM,h0];simp
 have GU:k9 C az aG base al.defers:=by rw[ez];exact eX.ext eM
 rw[td,wpOpsIn_cons]
 exact(anK (n:=n) cD bC bb hk tL tM wN wO hit wP h1 rl hnd tN oM h2 tO wQ wR wS rm tP wT re pg tQ yz Qz GI qz nt Inv Out tR rn oV ig bB (by rw[AL.2];exact dY.ext eM) GU (cY hb eM.size)
  fun ao G' bk w' ho ag F=>dJ ao G' bk w' ho (AL.trans ag) ((Fin.trans (st:=iN) (st1:=st) ⟨bB,ca,GU⟩ F AL ag)))
end
end Go.Abs
namespace Go.Abs
open Go
variable{C:Ctx}{fid:Nat->Nat}{w w':World}{G G':bX}{H H':Heap}
section
variable{vars:List Nat}{N:Nat}{call:cW}{n:Nat}
def cZ (C:Ctx)(fid:Nat->Nat)(vars:List Nat)(N:Nat)(c:Code)(st:av)(Out:X->av->Prop):Prop:=
 ∀(G:bX) (a:Act) (w:World) (ro:Option Nat) (base:Nat) (Q:Exit->Act->World->Prop),dI C fid vars N G st a w->wJ G st.ro ro->k9 C G w base a.defers->base<=w.heap.size->
  (∀x aQ G' bk w',Out x aQ->gH st aQ->Fin C fid vars N base st G w aQ G' bk w'->Q (Dx x) bk w')->c.wpIn (eJ ro) 0 C.P Q a w
theorem cZ.exec (cD:C.P.follows .mixedOrders=true)(bC:e7 C fid)(bb:gS C fid call){c:Code}{ac:bZ}(hc:C.code vars N c=some ac){st aQ:av}{x:X}(he:Abs.exec call n ac st=some (x,aQ)):
  cZ C fid vars N c st (fun y s=>y=x/\s=aQ):=fun G a w ro base Q ab dY eX hb dJ=>
 sy (n:=n) cD bC bb c _ _ _ hc _ _ _ he G a w ro base Q ab dY eX hb fun G' bk w' F=>dJ x aQ G' bk w' ⟨rfl,rfl⟩ (mF bb.b2 n _ _ _ _ ab.low he) F
theorem cZ.mono{c:Code}{st:av}{Out Zl:X->av->Prop}(h:cZ C fid vars N c st Out)(hm:∀x s,Out x s->Zl x s):cZ C fid vars N c st Zl:=fun G a w ro base Q ab dY eX hb dJ=>
 h G a w ro base Q ab dY eX hb fun x s G' bk w' ho=>dJ x s G' bk w' (hm x s ho)
theorem cZ.seq{c d:Code}{st:av}{Lm Out:X->av->Prop}(h1:cZ C fid vars N c st Lm)(h2:∀s,Lm .normal s->cZ C fid vars N d s Out)(ar:∀x s,x≠ .normal->Lm x s->Out x s):
  cZ C fid vars N (.seq c d) st Out:=fun G a w ro base Q ab dY eX hb dJ=>by
 refine wpIn_seq (h1 G a w ro base _ ab dY eX hb fun x s az al aG ho ag F=> ?_);cases x with
 |normal=>
  refine h2 s ho az al aG ro base _ F.rel (by rw[ag.2];exact dY.ext (F.ext 0 (cJ _))) F.marks (cY hb (F.ext 0 (cJ _)).size) fun ed s2 bu a2 bR anT AM vg=> ?_;exact dJ ed s2 bu a2 bR anT (ag.trans AM) (F.trans vg ag AM)
 |exit id=>exact dJ (.exit id) s az al aG (ar _ _ (by simp) ho) ag F
 |ret=>exact dJ .ret s az al aG (ar _ _ (by simp) ho) ag F
structure QQ (C:Ctx) (vars:List Nat) (N:Nat) (c:Code) (R:eY):Prop where
 ok:∃(i0 l2 i2:Nat) (hP on j0:Oper) (kK kL j1:Array Oper) (qA oT oU:List Oper) (mt aD more pair out:Nat) (tm sA sB:TypeId) (body:Code),
  c=.seq (.region i0 kK false) (.block out (.loop (.seq (.region l2 kL false) (.seq (.cond (.tmp more) .skip (.exit out)) (.block R.eR (.seq (.region i2 j1 false) body))))))/\
  kK.toList=qA++[hP]/\dM (C.oper vars N kK) qA=some R.t0/\C.cg vars (.tmp mt)=some R.src/\hP.op=.range tm (.tmp mt)/\hP.dst=some R.it/\hP.guard=none/\R.it<N/\C.P.underlying tm=some (.map sA sB)/\
  kL.toList=on::oT/\on.op=.next (.tmp R.it) false/\on.dst=some aD/\on.guard=none/\aD<N/\
  j1.toList=j0::oU/\j0.op=.entry (.tmp R.it)/\j0.dst=some pair/\j0.guard=none/\pair<N/\
  vars.contains R.it=true/\R.aD=(aD,vars.contains aD)/\R.pair=(pair,vars.contains pair)/\
  dM (C.oper vars N kL) oT=some R.t1/\dM (C.oper vars N j1) oU=some R.t2/\C.cg vars (.tmp more)=some R.more/\C.code vars N body=some R.body
theorem cZ.range (cD:C.P.follows .mixedOrders=true)(bC:e7 C fid)(bb:gS C fid call){c:Code}{R:eY}(hc:QQ C vars N c R){iN st:av}{wr:List Bool}(he:c3 call R.t0 {iN with aF:=[]} []=some (st,wr))
  {l:Nat} {bp:List (V × V)} (qz:R.src.ah st.aF st.au=.map l) (nt:st.H[l]? =some (.map bp)) (Inv:List Nat->av->Prop) (Out:av->Prop)
  (tR:Inv [] (hO R.it st)) (rn:∀d s,Inv d s->bG s.au R.it=.ptr st.H.length 0)
  (oV:∀d s,Inv d s->∀i kv,i∉d->bp[i]? =some kv->∃ao,R.round call n kv.1 kv.2 s=some ao/\st.H.length<ao.low/\Inv (d++[i]) ao)
  (ig:∀d s,Inv d s->d.Nodup->(∀i,i∈d↔i<bp.length)->∃ao,R.fin call s=some ao/\st.H.length<ao.low/\Out ao):
  cZ C fid vars N c iN (fun x s=>x=.normal/\∃ao,Out ao/\s={ao with low:=min st.low st.H.length}):=fun G a w ro base Q ab dY eX hb dJ=>by
 obtain⟨i0,l2,i2,hP,on,j0,kK,kL,j1,qA,oT,oU,mt,aD,more,pair,out,tm,sA,sB,body,rfl,h0,qs,tL,tM,wN,wO,hit,wP,h1,rl,hnd,tN,oM,h2,tO,wQ,wR,wS,rm,tP,wT,re,pg,tQ,yz⟩:=hc.ok
 exact anS cD bC bb h0 qs tL tM wN wO hit wP h1 rl hnd tN oM h2 tO wQ wR wS rm tP wT re pg tQ yz rfl rfl he qz nt Inv Out tR rn oV ig ab dY eX hb
  fun ao G' bk w' ho ag F=>dJ .normal _ G' bk w' ⟨rfl,ao,ho,rfl⟩ ag F
def AO{α:Type}:List α->Option (List α × α)
 |[]=>none
 |a::l=>match AO l with
  |none=>some ([],a)
  |some (r,b)=>some (a::r,b)
theorem anU{α:Type}:∀{l:List α},AO l=none->l=[]
 |[],_=>rfl
 |a::l,h=>by simp only[AO]at h;split at h<;>cases h
theorem QR{α:Type}:∀{l r:List α} {b:α},AO l=some (r,b)->l=r++[b]
 |[],_,_,h=>by cases h
 |a::l,r,b,h=>by
  simp only[AO]at h;split at h
  ·rename_i hn;cases h;rw[anU hn];rfl
  ·rename_i o9 e1 hn;cases h;rw[QR hn];rfl
def AP (C:Ctx)(vars:List Nat)(N:Nat):Code->Option eY
 | .seq (.region _ kK false) (.block out (.loop (.seq (.region _ kL false) (.seq (.cond (.tmp more) .skip (.exit Zm)) (.block eR (.seq (.region _ j1 false) body))))))=>
   match AO kK.toList,kL.toList,j1.toList with
   |some (qA,⟨some it,.range tm (.tmp mt),_,_,_,none⟩),⟨some aD,.next (.tmp Zn) false,_,_,_,none⟩::oT,⟨some pair,.entry (.tmp Zo),_,_,_,none⟩::oU=>
    match C.P.underlying tm,dM (C.oper vars N kK) qA,C.cg vars (.tmp mt),dM (C.oper vars N kL) oT,dM (C.oper vars N j1) oU,C.cg vars (.tmp more),C.code vars N body with
    |some (.map _ _),some t0,some src,some t1,some t2,some va,some b=>
     if Zm=out/\Zn=it/\Zo=it/\it<N/\aD<N/\pair<N/\vars.contains it=true then some ⟨t0,src,it,(aD,vars.contains aD),t1,va,eR,(pair,vars.contains pair),t2,b⟩else none
    | _,_,_,_,_,_,_=>none
   | _,_,_=>none
 | _=>none
theorem QS{c:Code}{R:eY}(h:AP C vars N c=some R):QQ C vars N c R:=by
 unfold AP at h;split at h
 ·rename_i i0 kK out l2 kL more Zm eR i2 j1 body
  split at h
  ·rename_i qA it tm mt aDu aDv aDw aD Zn aDx Ql aDy oT pair Zo aDz aDA aDB oU eM af ak
   split at h
   ·rename_i sA sB t0 src t1 t2 va b jV anV us oF Ln GV anW
    split at h
    ·rename_i hc
     obtain⟨rfl,rfl,rfl,h1,h2,ar,aS⟩:=hc;cases h;exact⟨_,_,_,_,_,_,_,_,_,_,_,_,_,_,_,_,_,_,_,_,_,rfl,QR eM,anV,us,rfl,rfl,rfl,h1,jV,af,rfl,rfl,rfl,h2,ak,rfl,rfl,rfl,ar,aS,rfl,rfl,oF,Ln,GV,anW⟩
    ·cases h
   ·cases h
  ·cases h
 ·cases h
def GW (d:List Nat)(k:Nat):List Nat:=(List.range k).filter fun i=>!d.contains i
def eY.all (R:eY)(call:cW)(n:Nat)(bp:List (V × V))(li:Nat):Nat->List Nat->av->Option (List av)
 |0,_,_=>none
 |f+1,d,s=>
  if dS (bG s.au R.it) (.ptr li 0)=true then
   match GW d bp.length with
   |[]=>match R.fin call s with
    |some ao=>if Nat.blt li ao.low=true then some [ao]else none
    |none=>none
   |i::is=>(dM (fun i=>match bp[i]? with
     |some kv=>match R.round call n kv.1 kv.2 s with
      |some ao=>if Nat.blt li ao.low=true then R.all call n bp li f (d++[i]) ao else none
      |none=>none
     |none=>none) (i::is)).map List.flatten
  else none
theorem Zp{α β:Type}{f:α->Option β}:∀{l:List α} {aK:List β},dM f l=some aK->∀{a:α},a∈l->∃b∈aK,f a=some b
 |[],_,_,_,h=>by cases h
 |x::l,aK,hm,a,h=>by
  simp only[dM]at hm;split at hm
  ·rename_i b hb
   split at hm
   ·rename_i aDC Gb
    cases hm;rcases dx.1 h with rfl|h
    ·exact⟨b,by simp,hb⟩
    ·obtain⟨e1,h1,h2⟩:=Zp Gb h
     exact⟨e1,by simp[h1],h2⟩
   ·cases hm
  ·cases hm
theorem eY.QT{R:eY}{bp:List (V × V)}{li f:Nat}{d:List Nat}{s:av}{o:List av}(h:R.all call n bp li f d s=some o):bG s.au R.it=.ptr li 0:=by
 cases f with
 |zero=>cases h
 |succ f=>
  simp only[eY.all]at h;split at h
  ·rename_i bf;exact wE _ _ bf
  ·cases h
theorem cZ.anX (cD:C.P.follows .mixedOrders=true)(bC:e7 C fid)(bb:gS C fid call){c:Code}{R:eY}(hc:QQ C vars N c R){iN st:av}{wr:List Bool}(he:c3 call R.t0 {iN with aF:=[]} []=some (st,wr)){l:Nat}{bp:List (V × V)}
  (qz:R.src.ah st.aF st.au=.map l) (nt:st.H[l]? =some (.map bp)) {f:Nat} {outs:List av} (ha:R.all call n bp st.H.length f [] (hO R.it st)=some outs):
  cZ C fid vars N c iN (fun x s=>x=.normal/\∃ao∈outs,s={ao with low:=min st.low st.H.length}):=by
 refine cZ.range (n:=n) cD bC bb hc he qz nt (fun d s=>∃f o,R.all call n bp st.H.length f d s=some o/\∀x∈o,x∈outs) (fun s=>s∈outs) ⟨f,outs,ha,fun _ h=>h⟩ (fun d s ⟨f,o,h,_⟩=>eY.QT h) ?_ ?_
 ·rintro d s ⟨f,o,h,hs⟩ i kv hid jE
  have hit:=eY.QT h
  have nZ:i<bp.length:=by
   rcases gh i bp.length with q|q
   ·exact q
   ·rw[lQ q]at jE;cases jE
  have eW:i∈GW d bp.length:=by
   unfold GW;simp[nZ,hid]
  cases f with
  |zero=>cases h
  |succ f=>
   simp only[eY.all,hit]at h;split at h
   ·split at h
    ·rename_i hr;rw[hr]at eW;cases eW
    ·rename_i j is hr
     rw[hr]at eW;obtain⟨os,C3,rfl⟩:=cA.1 h;obtain⟨b,hb,AQ⟩:=Zp C3 eW;rw[jE]at AQ;simp only at AQ;split at AQ
     ·rename_i ao dj
      split at AQ
      ·rename_i kH
       refine⟨ao,dj,?_,f,b,AQ,fun x hx=>hs x (List.mem_flatten.2 ⟨b,hb,hx⟩)⟩;have:=mh kH;omega
      ·cases AQ
     ·cases AQ
   ·cases h
 ·rintro d s ⟨f,o,h,hs⟩ _ eP
  have hit:=eY.QT h;cases f with
  |zero=>cases h
  |succ f=>
   have hr:GW d bp.length=[]:=by
    unfold GW;rw[List.filter_eq_nil_iff];intro i hi;have:=(eP i).2 (zJ.1 hi);simp[this]
   simp only[eY.all,hr]at h;split at h
   case isFalse=>cases h
   cases ag:R.fin call s with
   |none=>rw[ag]at h;cases h
   |some ao=>
    rw[ag]at h;simp only at h;split at h
    ·rename_i kH
     cases h;refine⟨ao,rfl,?_,hs _ (by simp)⟩;have:=mh kH;omega
    ·cases h
end
theorem QU (bC:e7 C fid){ft:Nat}{fn:Func}{c:Code}{pA:List nd}{fresh:Bool}(ag:C.P.funcs[ft]? =some fn)(hb:fn.body=some c)(sw:dM C.res fn.results.toList=some pA)
  {args:List V} {v:V} {low':Nat} {xs:List Value} (hlen:args.length<=fn.ntmps)
  (QV:cZ C fid (Ctx.varsOf fn) fn.ntmps c {aF:=[],au:=fl 0 args,H,low:=H.length} (fun x st=>(x=.normal\/x=.ret)/\∃vs,gP st.au st.H pA=some vs/\finish fresh H (iM vs) st.H st.low=some (v,H',low')))
  (ab:a8 C fid G H w) (ad:a6 fid G w args xs):Calls C.P ft ⟨xs⟩ w (fun e w'=>∃x,e=.returned x/\k7 C fid G H w v H' low' x w'):=by
 have lD:=ad.length
 have jD:dI C fid (Ctx.varsOf fn) fn.ntmps G {aF:=[],au:=fl 0 args,H,low:=H.length} {tmps:=(⟨xs⟩:Array Value)++Array.replicate (fn.ntmps-(⟨xs⟩:Array Value).size) undef,defers:=[]} w:=by
  refine⟨ab,fun t=> ?_,?_,aH _⟩
  ·unfold dP
   split
   ·rw[Qu]
    simp only[cJ,if_true,Nat.sub_zero];cases ha:args[t]? with
    |none=>exact .undef _
    |some u=>
     obtain⟨x,hx,Az⟩:=ad.get ha
     have aT:t<xs.length:=by
      rcases gh t xs.length with h|h
      ·exact h
      ·simp[lQ h]at hx
     have:((⟨xs⟩:Array Value)++Array.replicate (fn.ntmps-(⟨xs⟩:Array Value).size) undef).getD t undef=x:=by
      rw[x1,Wm (by simpa using aT)];simp[hx]
     rw[this];exact Az
   ·exact .undef _
  ·simp only[zC,Array.size_replicate]
   show xs.length+(fn.ntmps-xs.length)=fn.ntmps;rw[lD];omega
 refine(callsIn_wide (n:=0)).1 (callsIn_of_wp_marks ag hb trivial ?_);refine QV G _ w none w.heap.size _ jD trivial (.nil _ _ _) (aH _) fun x st G' bk w' ho eQ F=> ?_;obtain⟨Qw,vs,hr,tE⟩:=ho;obtain⟨rs,Qv,dk,hm,GG⟩:=F.marks
 have nW:LeavesInM Fence.wide 0 C.P fn bk.tmps (fun e w'=>∃x,e=.returned x/\k7 C fid G H w v H' low' x w') bk.defers .returning w':=by
  rw[Qv];refine Ld (m0:=fun m=>m<=st.low) rs w' dk hm GG F.rel.rel F.ext (fun _ _ _=>trivial) fun bR bQ c6 iX=> ?_
  obtain⟨x,hx,Az⟩:=Y7 sw bQ (fun t ht=>by
   have:=F.rel.env t;rw[Qi (Za ht)]at this;exact iX this) hr
  exact⟨x,hx,x,rfl,Y4 ab bQ c6 eQ.1 Az tE⟩
 rcases Qw with rfl|rfl
 ·exact nW
 ·exact nW
end Go.Abs
namespace Go.Abs
open Go
variable{C:Ctx}{fid:Nat->Nat}{w w':World}{G G':bX}{H H':Heap}
section
variable{vars:List Nat}{N:Nat}{call:cW}{n:Nat}
theorem cZ.pre (cD:C.P.follows .mixedOrders=true)(bC:e7 C fid)(bb:gS C fid call){c d:Code}{ac:bZ}(hc:C.code vars N c=some ac){st aQ:av}(he:Abs.exec call n ac st=some (.normal,aQ))
  {Out:X->av->Prop} (h:cZ C fid vars N d aQ Out):cZ C fid vars N (.seq c d) st Out:=
 cZ.seq (cZ.exec cD bC bb hc he) (fun s hs=>by rw[hs.2];exact h) fun x s hx hs=>absurd hs.1 hx
def Lo:List Code->Code->Code
 |[],d=>d
 |c::r,d=>.seq c (Lo r d)
def nu (call:cW)(n:Nat):List bZ->av->Option av
 |[],st=>some st
 |c::r,st=>match Abs.exec call n c st with
  |some (.normal,s)=>nu call n r s
  | _=>none
theorem cZ.Zq (cD:C.P.follows .mixedOrders=true)(bC:e7 C fid)(bb:gS C fid call){d:Code}{Out:X->av->Prop}:∀{cs:List Code} {wY:List bZ},dM (C.code vars N) cs=some wY->∀{st aQ:av},nu call n wY st=some aQ->
  cZ C fid vars N d aQ Out->cZ C fid vars N (Lo cs d) st Out
 |[],wY,hm,st,aQ,he,h=>by
  simp only[dM,aB]at hm;subst hm;simp only[nu,aB]at he;subst he;exact h
 |c::cs,wY,hm,st,aQ,he,h=>by
  simp only[dM]at hm;split at hm
  ·rename_i a ha
   split at hm
   ·rename_i ay has
    cases hm;simp only[nu]at he;split at he
    ·rename_i s hs
     exact cZ.pre cD bC bb ha hs (cZ.Zq cD bC bb has he h)
    ·cases he
   ·cases hm
  ·cases hm
end
structure lb where
 pre:List bZ
 R:eY
 post:bZ
 pA:List nd
def QW:X->Bool
 | .normal| .ret=>true
 | _=>false
def lb.ends (B:lb)(v:V):X × av->Bool:=fun(x,s)=>QW x&&match gP s.au s.H B.pA with
 |some vs=>match finish false [] (iM vs) s.H s.low with
  |some (u,H',l)=>dS u v&&H'.isEmpty&&Nat.beq l 0
  |none=>false
 |none=>false
def lb.ok (B:lb)(call:cW)(n:Nat)(args:List V)(v:V):Bool:=
 match nu call n B.pre {aF:=[],au:=fl 0 args,H:=[],low:=0}with
 |some iN=>match c3 call B.R.t0 {iN with aF:=[]} []with
  |some (st,_)=>match B.R.src.ah st.aF st.au with
   | .map l=>match st.H[l]? with
     |some (.map bp)=>match B.R.all call n bp st.H.length n [] (hO B.R.it st)with
      |some outs=>outs.all fun ao=>match exec call n B.post {ao with low:=min st.low st.H.length}with
       |some p=>B.ends v p
       |none=>false
      |none=>false
     | _=>false
   | _=>false
  |none=>false
 |none=>false
structure AR (C:Ctx) (fn:Func) (B:lb):Prop where
 ok:∃(cs:List Code) (DJ DK:Code),fn.body=some (Lo cs (.seq DJ DK))/\dM (C.code (Ctx.varsOf fn) fn.ntmps) cs=some B.pre/\AP C (Ctx.varsOf fn) fn.ntmps DJ=some B.R/\C.code (Ctx.varsOf fn) fn.ntmps DK=some B.post/\
  dM C.res fn.results.toList=some B.pA/\(fn.name== "runtime.NumGoroutine")=false
theorem lb.calls (cD:C.P.follows .mixedOrders=true)(bC:e7 C fid){call:cW}(bb:gS C fid call){n ft:Nat}{fn:Func}{B:lb}(ag:C.P.funcs[ft]? =some fn)(dc:AR C fn B){args:List V}{v:V}(hlen:args.length<=fn.ntmps)
  (bc:B.ok call n args v=true) {xs:List Value} (ab:a8 C fid G [] w) (ad:a6 fid G w args xs):Calls C.P ft ⟨xs⟩ w (fun e w'=>∃x,e=.returned x/\k7 C fid G [] w v [] 0 x w'):=by
 obtain⟨cs,DJ,DK,hb,yC,QX,QY,sw,-⟩:=dc.ok;refine QU bC ag hb sw (fresh:=false) hlen ?_ ab ad;unfold lb.ok at bc;split at bc
 case h_2=>cases bc
 rename_i iN ct;split at bc
 case h_2=>cases bc
 rename_i st wr hex;split at bc
 case h_2=>cases bc
 rename_i l hl;split at bc
 case h_2=>cases bc
 rename_i bp anY;split at bc
 case h_2=>cases bc
 rename_i outs anZ;refine cZ.Zq cD bC bb yC ct ?_;refine cZ.seq (cZ.anX cD bC bb (QS QX) hex hl anY anZ) (fun s hs=> ?_) fun x s hx hs=>absurd hs.1 hx;obtain⟨-,ao,wZ,rfl⟩:=hs;have h1:=ev.1 bc ao wZ;split at h1
 case h_2=>cases h1
 rename_i p hp;obtain⟨x,s2⟩:=p;refine(cZ.exec cD bC bb QY hp).mono fun y e9 hy=> ?_;obtain⟨rfl,rfl⟩:=hy;unfold lb.ends at h1;simp only[b6]at h1;obtain⟨h2,ar⟩:=h1;refine⟨?_,?_⟩
 ·cases y with
  |normal=>exact .inl rfl
  |ret=>exact .inr rfl
  |exit i=>cases h2
 ·split at ar
  case h_2=>cases ar
  rename_i vs c2;split at ar
  case h_2=>cases ar
  rename_i u H' k ig;simp only[b6]at ar;obtain⟨⟨aS,h5⟩,eA⟩:=ar;have af:=wE _ _ aS
  have ak:H'=[]:=by cases H' with
   |nil=>rfl
   |cons=>cases h5
  have bK:k=0:=eE eA;subst af;subst ak;subst bK;exact⟨vs,c2,ig⟩
def lb.hC (B:lb)(call:cW)(n:Nat)(N:Nat):List (List V × V)->Prop
 |[]=>True
 |(ay,v)::r=>(bI v=true/\Nat.ble ay.length N=true/\B.ok call n ay v=true)/\B.hC call n N r
theorem lb.Lg (cD:C.P.follows .mixedOrders=true)(bC:e7 C fid){call:cW}(bb:gS C fid call){n ft:Nat}{fn:Func}{B:lb}(ag:C.P.funcs[ft]? =some fn)(dc:AR C fn B):∀{l:List (List V × V)},B.hC call n fn.ntmps l->nY C fid ft (hB l):=by
 intro l hl G H w args v xs ab eN l1;obtain⟨cs,DJ,DK,hb,-,-,-,-,AA⟩:=dc.ok;rw[DF ag hb AA]
 induction l with
 |nil=>cases l1
 |cons p r ih=>
  obtain⟨ay,u⟩:=p;simp only[hB]at l1;cases e:nN args ay with
  |true=>
   rw[e]at l1;have h':some u=some v:=l1;cases h';have e':=ve _ _ e;subst e';obtain⟨⟨h1,h2,ar⟩,-⟩:=hl;have hc:=lb.calls cD bC bb ag dc (mh h2) ar ab.apart (dh.oD eN);exact th hc fun e w'=>fun⟨x,af,ak⟩=>⟨x,af,ak.beside ab h1⟩
  |false=>rw[e]at l1;exact ih hl.2 l1
end Go.Abs
namespace Go.Abs.bz
open Go Go.Abs Go.Proofs
noncomputable section
def C (g:Nat->Option Obj):Ctx:={P:=Tryz.prog,Kc:=some,raw:=fun i=>i==24||i==26||i==29||i==30||i==31||i==32||i==84||i==104||i==141||i==214||i==216||i==247||i==279||i==345||i==414||i==431||i==472||i==513,fG:=g,jP:=fun p=>!(p== "names.go:37" ||p== "parser.go:280"),CQ:=[522],WB:=fun p=>p== "ref.go:86" }
def an0 (i:Nat):Bool:=i==24||i==30||i==32||i==104||i==214||i==216||i==345||i==431
def Zr (i:Nat):Option (List V->Option V):=match i with
 |132=>some OW
 |142=>some OX
 |260=>some OU
 |356=>some OV
 |389=>some OY
 |449=>some FQ
 |452=>some FR
 | _=>none
def eS (g:Nat->Option Obj):Nat->Option bU:=fun i=>match Zr i with
 |some s=>some (.ext s)
 |none=>match Tryz.prog.funcs[i]? with
  |some f=>match(C g).func f (an0 i)with
   |some a=>some (.code a)
   |none=>none
  |none=>none
end
end Go.Abs.bz
namespace Go.Abs.bz
open Go Go.Abs Go.Proofs
set_option maxRecDepth 100000
theorem an1 (caps:Array Value):KE Tryz.prog {target:=.fn (.func 522) caps,args:= #[]}:=by
 refine⟨_,caps,522,caps,rfl,fun w=>⟨by simp[invoke,go_sem],?_⟩⟩;refine callsDIn_of_wpSIn Tryz.func522 rfl trivial fun aDD cs hu=> ?_;have hn:Tryz.f522.ntmps=18:=by kernel_rfl
 rw[hn];generalize hT:caps++Array.replicate (18-caps.size) undef=T;have hs:18<=T.size:=by rw[<-hT,zC,Array.size_replicate];omega
 clear hT;apply wpSIn_seq;apply wpSIn_region;simp[wpOpsSIn,go_sem,recoverD,hu,Exit.thenS];apply wpSIn_seq;apply wpSIn_region;have aDE:∀(A:Array Value) (i:Nat),A.getD i undef=(A[i]?).getD undef:=fun A i=>x1 ..;have h1:1<T.size:=by omega
 have aS:4<T.size:=by omega
 have h5:5<T.size:=by omega
 have eA:6<T.size:=by omega
 simp[wpOpsSIn,go_sem,Exit.thenS,Act.eval,Act.put,Array.getElem?_setIfInBounds,h1,aS,h5,eA];refine wpSIn_cond (t:=false) (by simp[Act.eval,Array.getElem?_setIfInBounds,h1,aS,h5,eA]) ?_;simp only[gq,if_false];refine wpSIn_of_wpIn rfl (wpIn_skip ?_);have hr:Tryz.f522.results= #[]:=by kernel_rfl
 have aDF:Tryz.f522.resultTypes= #[]:=by kernel_rfl
 simp_all [bodyPostS,results];rw[<-hu]
theorem tU{g:Nat->Option Obj}:e7 (C g) id:=⟨fun f i h=>by cases h;rfl,fun i hi caps=>by
 have qo:i∈[522]:=hi;simp only[dx,r4,or_false]at qo;subst qo;exact an1 caps⟩
theorem mixed{g:Nat->Option Obj}:(C g).P.follows .mixedOrders=true:=by kernel_rfl
end Go.Abs.bz
namespace Go.Proofs
open Go.Shelf
def Tryz.Zs:Go.Shelf.Ren:=⟨fun|156=>356|165=>439|166=>440|169=>441|240=>497|241=>498|276=>528|277=>529|n=>n,fun|31=>24|9=>9|3=>3|4=>4|0=>0|20=>20|72=>451|76=>318|70=>449|37=>287|75=>317|127=>495|164=>521|5=>5|80=>250|n=>n,fun|n=>n⟩
theorem Tryz.Zt:Go.Proofs.Lays.n156 Tryz.prog Tryz.Zs:=by constructor<;>intros<;>kernel_rfl
theorem Tryz.Zu:Builder.Extra Tryz.prog Tryz.Zs:={
 sizeBuilder:=by kernel_rfl
 liesBuilder:=by kernel_rfl
 t5:=Tryz.underlying5
 a5:=Tryz.isAgg5
 z5:=Tryz.sizeOf5
 v5:=Tryz.zeroValue5
 infoByte:=by kernel_rfl
 cellsByte:=by kernel_rfl
 sizeByte:=by kernel_rfl
 neB5:=by decide}
open Go.RowKit in
theorem Tryz.strings_Join_none (a:Option Addr)(c:Nat)(sep:ByteArray)(w:World):
 Calls Tryz.prog 356 #[.slice a 0 c,.string sep] w fun e w'=>e=.returned (.string ⟨#[]⟩)/\w'=w:=Any.strings_Join_none Tryz.Zt Tryz.Zu a c sep w
open Go.RowKit in
theorem Tryz.strings_Join (Lp o c:Nat)(xs:List ByteArray)(sep:ByteArray)(w:World)(we:∀(j:Nat) x,xs[j]? =some x->w.cell? ⟨Lp,o+j,none⟩=some (.string x))(an2:Lp<w.heap.size)(dG:xs.length<=140737488355328)(ea:xs.length<=c)(hlen:(Lib.join (xs.map (·.data.toList)) sep.data.toList).length<=140737488355328):
 Calls Tryz.prog 356 #[.slice (some ⟨Lp,o,none⟩) xs.length c,.string sep] w fun e w'=>e=.returned (.string ⟨(Lib.join (xs.map (·.data.toList)) sep.data.toList).toArray⟩)/\Below w.heap.size w w':=Any.strings_Join Tryz.Zt Tryz.Zu Lp o c xs sep w we an2 dG ea hlen
def Tryz.an3:Go.Shelf.Ren:=⟨fun|161=>389|231=>459|227=>460|233=>461|235=>462|228=>508|197=>509|151=>510|260=>536|152=>537|137=>452|119=>556|224=>557|225=>558|217=>504|266=>533|n=>n,fun|9=>9|4=>4|3=>3|5=>5|117=>469|116=>468|0=>0|124=>472|105=>506|21=>21|119=>497|46=>234|139=>560|138=>559|n=>n,fun|3=>8|4=>9|n=>n⟩
theorem Tryz.an4:Go.Proofs.Lays.n161 Tryz.prog Tryz.an3:=by constructor<;>intros<;>kernel_rfl
open Go.RowKit in
theorem Tryz.strings_TrimLeft_one (s:ByteArray)(c:UInt8)(hc:c.toNat<128)(w:World):
 Calls Tryz.prog 389 #[.string s,.string ⟨#[c]⟩] w fun e w'=>e=.returned (.string ⟨(Lib.trimLeftB s.data.toList c).toArray⟩)/\w'=w:=Any.strings_TrimLeft_one Tryz.an4 s c hc w
def Tryz.an5:Go.Shelf.Ren:=⟨fun|125=>142|128=>255|129=>256|n=>n,fun|46=>234|3=>3|51=>309|53=>311|4=>4|5=>5|9=>9|n=>n,fun|n=>n⟩
theorem Tryz.an6:Go.Proofs.Lays.n125 Tryz.prog Tryz.an5:=by constructor<;>intros<;>kernel_rfl
theorem Tryz.bits_Len (x:Int)(w:World)(h0:0<=x)(h1:x<=18446744073709551615):
 Calls Tryz.prog 142 #[.int .u64 x] w fun e w'=>e=.returned (.int .i64 (Lib.bitLen x.toNat))/\w'=w:=Any.bits_Len Tryz.an6 x w h0 h1
def Tryz.an7:Go.Shelf.Ren:=⟨fun|137=>452|217=>504|266=>533|n=>n,fun|9=>9|5=>5|3=>3|n=>n,fun|n=>n⟩
theorem Tryz.an8:Go.Proofs.Lays.n137 Tryz.prog Tryz.an7:=by constructor<;>intros<;>kernel_rfl
open Go.RowKit in
theorem Tryz.strings_IndexByte (s:ByteArray)(c:Int)(w:World):
 Calls Tryz.prog 452 #[.string s,.int .u8 c] w fun e w'=>e=.returned (.int .i64 (Lib.indexByte s.data.toList c.toNat.toUInt8))/\w'=w:=Any.strings_IndexByte Tryz.an8 s c w
def Tryz.an9:Go.Shelf.Ren:=⟨fun|172=>260|244=>386|245=>387|247=>453|279=>454|280=>455|281=>456|282=>457|287=>505|316=>506|171=>132|205=>507|321=>534|322=>535|243=>235|246=>354|283=>435|284=>436|285=>437|286=>438|129=>256|317=>493|318=>494|319=>495|320=>496|337=>526|338=>527|n=>n,fun|9=>9|3=>3|75=>317|76=>318|4=>4|5=>5|167=>459|37=>287|0=>0|85=>460|2=>2|168=>462|53=>311|175=>500|46=>234|210=>504|127=>495|145=>534|143=>532|21=>21|171=>445|173=>447|212=>493|51=>309|20=>20|213=>494|232=>544|233=>545|80=>250|n=>n,fun|15=>2|16=>3|17=>0|18=>5|19=>6|n=>n⟩
theorem Tryz.aoa:Go.Proofs.Lays.n172 Tryz.prog Tryz.an9:=by constructor<;>intros<;>kernel_rfl
open Go.RowKit in
theorem Tryz.strconv_Atoi (s:ByteArray)(n:Int)(hl:s.size<=18)(h:Lib.atoi s.data.toList=some n)(w:World):
 Calls Tryz.prog 260 #[.string s] w fun e w'=>e=.returned (.tuple #[.int .i64 n,.nilIface])/\∃t,w'=Lib.bytesWorld w 5 t:=Any.strconv_Atoi Tryz.aoa s n hl h w
def Tryz.aob:Go.Shelf.Ren:=⟨fun|171=>132|243=>235|246=>354|283=>435|284=>436|285=>437|286=>438|129=>256|317=>493|318=>494|319=>495|320=>496|337=>526|338=>527|n=>n,fun|3=>3|9=>9|2=>2|4=>4|171=>445|0=>0|53=>311|37=>287|5=>5|173=>447|212=>493|51=>309|20=>20|213=>494|46=>234|232=>544|233=>545|n=>n,fun|17=>0|18=>5|19=>6|n=>n⟩
theorem Tryz.aoc:Go.Proofs.LaysM.n171 Tryz.prog Tryz.aob:=by constructor<;>intros<;>first|kernel_rfl|(constructor<;>intros<;>kernel_rfl)
open Go.RowKit Go.Sort Go.Lib in
theorem Tryz.strconv_Itoa (n:Int)(h0:-9223372036854775808<=n)(h1:n<=9223372036854775807)(w:World)(pB:Lib.TabIs Tryz.prog w "internal/strconv.uint64pow10" .u64 Lib.pow10Tab):
 Calls Tryz.prog 132 #[.int .i64 n] w fun e w'=>e=.returned (.string ⟨(Lib.itoa n).toArray⟩)/\∃k os,w'=grow (w.drewN k) os:=Any.strconv_Itoa Tryz.aoc n h0 h1 w pB
def Tryz.aod:Go.Shelf.Ren:=⟨fun|171=>132|243=>235|246=>354|283=>435|284=>436|285=>437|286=>438|129=>256|317=>493|318=>494|319=>495|320=>496|337=>526|338=>527|n=>n,fun|3=>3|9=>9|2=>2|4=>4|171=>445|0=>0|53=>311|37=>287|5=>5|173=>447|212=>493|51=>309|20=>20|213=>494|46=>234|232=>544|233=>545|n=>n,fun|17=>0|18=>5|19=>6|n=>n⟩
theorem Tryz.aoe:Go.Proofs.Lays.n171 Tryz.prog Tryz.aod:=by constructor<;>intros<;>kernel_rfl
open Go.RowKit Go.Sort Go.Lib in
theorem Tryz.strconv_Itoa_small (i:Nat)(hi:i<100)(w:World):
 Calls Tryz.prog 132 #[.int .i64 i] w fun e w'=>e=.returned (.string ⟨(Lib.decDigits i).toArray⟩)/\w'=w:=Any.strconv_Itoa_small Tryz.aoe i hi w
def Tryz.aof:Go.Shelf.Ren:=⟨fun|157=>449|229=>501|199=>502|261=>532|311=>554|312=>555|n=>n,fun|9=>9|31=>24|3=>3|5=>5|4=>4|119=>497|0=>0|40=>499|152=>526|21=>21|154=>528|51=>309|141=>530|196=>550|193=>547|198=>553|49=>551|194=>548|201=>556|226=>563|46=>234|227=>564|n=>n,fun|0=>1|6=>4|n=>n⟩
theorem Tryz.aog:Go.Proofs.Lays.n157 Tryz.prog Tryz.aof:=by constructor<;>intros<;>kernel_rfl
open Go.RowKit Go.Lib in
theorem Tryz.strings_Fields (s:ByteArray)(w:World)(hs:s.size<4294967281)(aoh:∀(j:Nat) b,s.data.toList[j]? =some b->b.toNat<128)(pB:Lib.TabIs Tryz.prog w "strings.asciiSpace" .u8 Lib.asciiSpaceTab):
 Calls Tryz.prog 449 #[.string s] w fun e w'=>
  e=.returned (.slice (some ⟨w.heap.size,0,none⟩) (Lib.fields s.data.toList).length (Lib.fields s.data.toList).length)/\w'=w.alloc (.cells ((Lib.fields s.data.toList).map fun l=>Value.string ⟨l.toArray⟩).toArray 9):=Any.strings_Fields Tryz.aog (by kernel_rfl) (by kernel_rfl) s w hs aoh pB
end Go.Proofs
