/- Texts of this claim, joined and written short by a program. -/
import Derived.Test.YtgkcikhegodchaaGreatDoorP08
import Derived.Shelf.Strings.Builder1
import Derived.Test.YtgkcikhegodchaaGreatDoorP01
import Derived.Test.YtgkcikhegodchaaGreatDoorProg
import Derived.Test.YtgkcikhegodchaaGreatDoorP00
set_option linter.unusedVariables false
set_option linter.unusedSimpArgs false
set_option linter.unusedSectionVars false
namespace Go.Abs
open Go
variable{C:Ctx}{fid:Nat->Nat}{w w':World}{G G':cg}{H H':Heap}
structure fR where
 t0:List bU
 src:ai
 it:Nat
 aE:Nat × Bool
 t1:List bU
 more:ai
 eS:Nat
 pair:Nat × Bool
 t2:List bU
 body:cF
def fR.step (R:fR)(call:c5)(e:V)(st:aw):Option aw:=
 match c8 call R.t1 (({st with aM:=[]}:aw).put (some R.aE) e) []with
 |some (bf,_)=>some {bf with aM:=[]}
 |none=>none
def fR.round (R:fR)(call:c5)(n:Nat)(k v:V)(st:aw):Option aw:=
 match R.step call (.aF [.bool true,k,v]) {st with low:=st.H.length}with
 |some st1=>match R.more.ah st1.aM st1.ay with
  | .bool true=>
    if ep (bZ st1.ay R.it) (bZ st.ay R.it)=true then
     match c8 call R.t2 (({st1 with aM:=[]}:aw).put (some R.pair) (.aF [k,v])) []with
     |some (st2,_)=>match exec call n R.body {st2 with aM:=[]}with
      |some (.normal,ma)=>some ma
      |some (.exit id,ma)=>if id=R.eS then some ma else none
      | _=>none
     |none=>none
    else none
  | _=>none
 |none=>none
def fR.fin (R:fR)(call:c5)(st:aw):Option aw:=
 match R.step call (.aF [.bool false]) {st with low:=st.H.length}with
 |some st1=>match R.more.ah st1.aM st1.ay with
  | .bool false=>some st1
  | _=>none
 |none=>none
def iP (it:Nat)(st:aw):aw:={st with aM:=[],ay:=ga st.ay it (.ptr st.H.length 0),H:=st.H++[.gone]}
section
variable{vars:List Nat}{N:Nat}{call:c5}{n:Nat}
theorem Db{id:Nat}{ops:Array Oper}{hX:Oper}{os:List Oper}{d0:Nat}{bR:List bU}{st1 bf:aw}{wr:List Bool}{a:Act}{x:Value}{aH:World}{aB:cg}{Q:Exit->Act->World->Prop}{ro:Option Nat}
  (bP:fl C fid) (bm:hD C fid call) (qL:ops.toList=hX::os) (hd:hX.dst=some d0) (bb:hX.guard=none) (hnd:∀c,hX.op≠ .defer c) (hm:ee (C.oper vars N ops) os=some bR)
  (ct:(execOp a.eval hX).run C.P w=.ok (.value x) aH) (gq:dN C fid vars N aB st1 (a.put (some d0) x) aH) (he:c8 call bR st1 []=some (bf,wr))
  (dO:∀G' bn w',dN C fid vars N G' bf bn w'->(∀m,m<=bf.low->Ext aB aH G' w' m st1.H.length)->bn.defers=a.defers->Q .normal bn w'):
  (Code.region id ops false).wpIn (eV ro) 0 C.P Q a w:=by
 obtain⟨S,bc,h0,hn,-,hs⟩:=u1 _ _ _ _ _ he;have hlen:bR.length=os.length:=wm _ hm;have dr:ops.size=os.length+1:=by rw[<-gY,qL];rfl
 have key:∀k j,j+k=os.length->∀bC ak bQ,dN C fid vars N bC (S j) ak bQ->(∀m,m<=(S j).low->Ext aB aH bC bQ m st1.H.length)->ak.defers=a.defers->st1.H.length<=(S j).H.length->
   wpOpsIn (eV ro) 0 C.P ops Q (List.range' (j+1) k) ak bQ:=by
  intro k
  induction k with
  |zero=>
   intro j hj bC ak bQ bI cq e6 _;have e:j=bR.length:=by omega
   subst e;rw[hn]at bI cq;exact dO bC ak bQ bI cq e6
  |succ k ih=>
   intro j hj bC ak bQ bI cq e6 gU;have oN:j<os.length:=by omega
   have ka:os[j]? =some os[j]:=by simp[oN]
   have ho:ops[j+1]? =some os[j]:=by rw[<-iG,qL];simp[oN]
   have FB:j<bR.length:=by omega
   have gy:bR[j]? =some bR[j]:=by simp[FB]
   have a1:u0 C vars N ops os[j] bR[j]:=CU (wo _ hm ka gy);have ca:=hs j _ gy;rw[uM,wpOpsIn_cons];have eR:=ca.b7 bm.b7;refine z7 (T:=fun _=>True) bP bm ho a1 ca bI.rel (fun _=>.inl rfl) bI.low (fun t _=>bI.env t) (fun x _=>by cases x<;>trivial) (fun _ _ _ _ _=>trivial) bI.size ?_;intro x gh kd p1 p2 p3
   have Ab:bd C fid kd (S (j+1)).H gh:=by
    cases ag:bc j with
    |true=>rw[ag]at p1;exact p1
    |false=>rw[ag]at p1;rw[ca.still bm.b7 ag];exact p1
   have nx:=p2 0 (cN _)
   refine ih (j+1) (by omega) kd _ gh ⟨Ab,fun t=> ?_,by rw[yi];exact bI.size,eR.bound bI.low⟩ (fun m hm=>(cq m (c4 hm eR.1.low)).trans ((p2 m hm).le (aN _) gU)) (by rw[put_defers];exact e6)
    (c4 gU eR.1.len)
   refine Aa (fun d hd=>by rw[bI.size];exact a1.lt d hd) (fun h=>p3 t h) (fun h=> ?_);rw[ca.look a1 h];exact(bI.env t).ext bI.rel nx
 refine wpIn_region ?_;rw[dr,I5,uM,wpOpsIn_cons];have alk:ops[0]? =some hX:=by rw[<-iG,qL];rfl
 refine Ke alk bb hnd ct ?_;rw[hd];rw[<-h0]at gq;exact key os.length 0 (by omega) aB _ aH gq (fun m _=>.refl _ _ _ _) (put_defers _ _ _) (by rw[h0];exact aN _)
theorem PS{k0 r:Nat}{ops:Array Oper}{os:List Oper}{bR:List bU}{st1 bf:aw}{wr:List Bool}{a:Act}{aH:World}{aB:cg}{Q:Exit->Act->World->Prop}{ro:Option Nat}
  (bP:fl C fid) (bm:hD C fid call) (Am:∀j,j<os.length->ops[k0+j]? =os[j]?) (hm:ee (C.oper vars N ops) os=some bR)
  (gq:dN C fid vars N aB st1 a aH) (he:c8 call bR st1 []=some (bf,wr))
  (dO:∀G' bn w',dN C fid vars N G' bf bn w'->(∀m,m<=bf.low->Ext aB aH G' w' m st1.H.length)->bn.defers=a.defers->wpOpsIn (eV ro) 0 C.P ops Q (List.range' (k0+os.length) r) bn w'):
  wpOpsIn (eV ro) 0 C.P ops Q (List.range' k0 (os.length+r)) a aH:=by
 obtain⟨S,bc,h0,hn,-,hs⟩:=u1 _ _ _ _ _ he;have hlen:bR.length=os.length:=wm _ hm
 have key:∀k j,j+k=os.length->∀bC ak bQ,dN C fid vars N bC (S j) ak bQ->(∀m,m<=(S j).low->Ext aB aH bC bQ m st1.H.length)->ak.defers=a.defers->st1.H.length<=(S j).H.length->
   wpOpsIn (eV ro) 0 C.P ops Q (List.range' (k0+j) (k+r)) ak bQ:=by
  intro k
  induction k with
  |zero=>
   intro j hj bC ak bQ bI cq e6 _;have e:j=bR.length:=by omega
   subst e;rw[hn]at bI cq;rw[hlen,eo];exact dO bC ak bQ bI cq e6
  |succ k ih=>
   intro j hj bC ak bQ bI cq e6 gU;have oN:j<os.length:=by omega
   have ka:os[j]? =some os[j]:=by simp[oN]
   have ho:ops[k0+j]? =some os[j]:=(Am j oN).trans ka;have FB:j<bR.length:=by omega
   have gy:bR[j]? =some bR[j]:=by simp[FB]
   have a1:u0 C vars N ops os[j] bR[j]:=CU (wo _ hm ka gy);have ca:=hs j _ gy;rw[show k+1+r=(k+r)+1 by omega,uM,wpOpsIn_cons];have eR:=ca.b7 bm.b7;refine z7 (T:=fun _=>True) bP bm ho a1 ca bI.rel (fun _=>.inl rfl) bI.low (fun t _=>bI.env t) (fun x _=>by cases x<;>trivial) (fun _ _ _ _ _=>trivial) bI.size ?_;intro x gh kd p1 p2 p3
   have Ab:bd C fid kd (S (j+1)).H gh:=by
    cases ag:bc j with
    |true=>rw[ag]at p1;exact p1
    |false=>rw[ag]at p1;rw[ca.still bm.b7 ag];exact p1
   have nx:=p2 0 (cN _)
   refine ih (j+1) (by omega) kd _ gh ⟨Ab,fun t=> ?_,by rw[yi];exact bI.size,eR.bound bI.low⟩ (fun m hm=>(cq m (c4 hm eR.1.low)).trans ((p2 m hm).le (aN _) gU)) (by rw[put_defers];exact e6)
    (c4 gU eR.1.len)
   refine Aa (fun d hd=>by rw[bI.size];exact a1.lt d hd) (fun h=>p3 t h) (fun h=> ?_);rw[ca.look a1 h];exact(bI.env t).ext bI.rel nx
 rw[<-h0]at gq;exact key os.length 0 (by omega) aB _ aH gq (fun m _=>.refl _ _ _ _) rfl (by rw[h0];exact aN _)
theorem yo{m k:Nat}(h:Ext G w G' w' m k)(U:bd C fid G H w){l:Nat}{h0:Home}(hb:G.β l=some h0)(hl:l<m):w'.heap[h0.b]? =w.heap[h0.b]? :=
 h.eH h0.b (U.blk l h0 hb) fun fB h' ad e2=>.inr (by have:=U.inj fB l h' h0 ad hb e2;omega)
theorem yp{m k:Nat}(h:Ext G w G' w' m k){l:Nat}{h0:Home}(hb:G.β l=some h0)(ht:h0.tag=0):∃h',G'.β l=some h'/\h'.b=h0.b:=by
 obtain⟨h',e,-,z,alm,-⟩:=h.homes l h0 hb;exact⟨h',e,(alm ((z ht).trans ht.symm)).1⟩
theorem Kf (U:bd C fid G H w){l:Nat}{h:Home}(hb:G.β l=some h)(hl:H[l]? =some .gone):h.tag=0/\h.fz=false:=by
 obtain⟨o,ho,hr⟩:=U.obj l h hb;rw[hl]at ho;cases ho;exact hr
theorem An (U:bd C fid G H w){l:Nat}{h:Home}(hb:G.β l=some h){bz:List (V × V)}(hl:H[l]? =some (.map bz)):h.tag=0/\h.fz=false/\∃es bX,w.heap[h.b]? =some (.map es bX)/\
  bj fid G w (bz.map (·.1)) (es.toList.map (·.key))/\bj fid G w (bz.map (·.2)) (es.toList.map (·.val))/\pH es bX:=by
 obtain⟨o,ho,hr⟩:=U.obj l h hb;rw[hl]at ho;cases ho;exact hr
theorem Kg{H:Heap}{l:Nat}{o:cf}(h:H[l]? =some o):H.set l o=H:=by
 apply q7;intro i;by_cases e:l=i
 ·subst e
  have hl:l<H.length:=by
   rcases gD l H.length with q|q
   ·exact q
   ·rw[nP q]at h;cases h
  rw[oA hl,h]
 ·rw[jE e]
def mU (es:Array MapEntry)(d:List Nat):Array Nat:=(d.map fun i=>((es[i]?).map (·.born)).getD 0).toArray
theorem PT (es:Array MapEntry)(d:List Nat){i:Nat}{e:MapEntry}(h:es[i]? =some e):mU es (d++[i])=(mU es d).push e.born:=by
 unfold mU;rw[kS,dX,jF,h];simp
structure u6 (C:Ctx) (fid:Nat->Nat) (vars:List Nat) (N base li l r kY bX:Nat) (es:Array MapEntry) (bz:List (V × V)) (st:aw) (G:cg) (w:World) (d:List Nat) (s:aw) (aB:cg) (ak:Act) (aH:World):Prop where
 rel:dN C fid vars N aB s ak aH
 b7:gN st {s with low:=min st.low li}
 len:li<s.H.length
 ext:∀m,m<=min st.low li->Ext G w aB aH m st.H.length
 marks:lu C aB aH base ak.defers
 hi:∃h,aB.β li=some h/\h.b=r
 hm:∃h,aB.β l=some h/\h.b=kY
 gone:s.H[li]? =some .gone
 mp:s.H[l]? =some (.map bz)
 iter:aH.heap[r]? =some (.mapIter (some kY) bX (mU es d) bX)
 map:aH.heap[kY]? =some (.map es bX)
theorem u6.on{base li l r kY bX:Nat}{es:Array MapEntry}{bz:List (V × V)}{st:aw}{d:List Nat}{s ar:aw}{aB bC:cg}{ak a2:Act}{aH bQ:World}
  (h:u6 C fid vars N base li l r kY bX es bz st G w d s aB ak aH) (kf:l<li) (aAp:li<=st.H.length) (U:dN C fid vars N bC ar a2 bQ) (de:∀m,m<=ar.low->Ext aB aH bC bQ m s.H.length) (jL:li<ar.low) (c1:Fr s.H s.H.length ar.H ar.low) (e9:ar.ro=s.ro)
  (hd:lu C bC bQ base a2.defers):u6 C fid vars N base li l r kY bX es bz st G w d ar bC a2 bQ:=by
 obtain⟨h1,ad,q1⟩:=h.hi;obtain⟨h2,e2,q2⟩:=h.hm;have g1:=Kf h.rel.rel ad h.gone;have g2:=An h.rel.rel e2 h.mp;have mV:=de _ (aN _);have kx:=h.b7.1.len;refine⟨U,⟨⟨c4 h.b7.1.len c1.len,j3 _ _,fun x hx=> ?_⟩,e9.trans h.b7.2⟩,se h.len c1.len,fun m hm=> ?_,hd,?_,?_,?_,?_,?_,?_⟩
 ·have dZ:x<min st.low li:=hx
  exact(c1.same x (by omega)).trans (h.b7.1.same x hx)
 ·exact(h.ext m hm).trans ((de m (by omega)).le (aN _) kx)
 ·obtain⟨h',e',q'⟩:=yp mV ad g1.1;exact⟨h',e',q'.trans q1⟩
 ·obtain⟨h',e',q'⟩:=yp mV e2 g2.1;exact⟨h',e',q'.trans q2⟩
 ·rw[c1.same li jL];exact h.gone
 ·rw[c1.same l (by omega)];exact h.mp
 ·have:=yo mV h.rel.rel ad jL
  rw[q1]at this;rw[this];exact h.iter
 ·have:=yo mV h.rel.rel e2 (by omega)
  rw[q2]at this;rw[this];exact h.map
theorem dN.reset{st:aw}{a:Act}(h:dN C fid vars N G st a w):dN C fid vars N G {st with aM:=[],low:=st.H.length} a w:=
 ⟨h.rel,h.clear.env,h.size,aN _⟩
theorem aln{es:Array MapEntry}{d:List Nat}(hn:(es.toList.map (·.born)).Nodup)(aG:∀i∈d,i<es.size)(h:(leftOf es (mU es d)).size=0):∀i,i<es.size->i∈d:=by
 intro i hi;have h0:leftOf es (mU es d)= #[]:=ahD h;unfold leftOf at h0;rw[ahF]at h0;have h1:=h0 es[i] (by simp);simp only[oB,NJ]at h1;rw[ahI]at h1;unfold mU at h1;simp only[List.mem_toArray,eA]at h1;obtain⟨j,hj,hb⟩:=h1;have oN:=aG j hj;simp only[Array.getElem?_eq_getElem oN,si,xO]at hb
 have:j=i:=by
  have Yg:j<(es.toList.map (·.born)).length:=by simpa using oN
  have Yh:i<(es.toList.map (·.born)).length:=by simpa using hi
  have hp:=Vl.1 hn;rcases Nat.lt_trichotomy j i with q|q|q
  ·exact absurd (by simpa using hb) (hp j i Yg Yh q)
  ·exact q
  ·exact absurd (by simpa using hb.symm) (hp i j Yh Yg q)
 rw[<-this];exact hj
theorem alo{es:Array MapEntry}{d:List Nat}{e:MapEntry}(he:e∈(leftOf es (mU es d)).toList):∃i,es[i]? =some e/\i∉d/\(leftOf es (mU es (d++[i]))).size<(leftOf es (mU es d)).size:=by
 have he':e∈es.toList/\(mU es d).contains e.born=false:=by
  unfold leftOf at he;simpa using he
 obtain⟨i,hi⟩:=py.1 he'.1;rw[iG]at hi;refine⟨i,hi,fun hid=> ?_,?_⟩
 ·have:(mU es d).contains e.born=true:=by
   rw[ahI];unfold mU;simp only[List.mem_toArray,eA];exact⟨i,hid,by rw[hi];rfl⟩
  rw[this]at he';cases he'.2
 ·rw[PT es d hi]
  unfold leftOf;have key:∀p:MapEntry->Bool,(es.filter p).size=(es.toList.filter p).length:=fun p=>by rw[<-gY,Array.toList_filter]
  rw[key,key];refine filter_lt _ _ (fun x hx=> ?_) e ?_ ?_ _ he'.1
  ·simp only[Array.contains_push,oB,Ny]at hx⊢
   simp at hx⊢;exact hx.1
  ·rw[he'.2];rfl
  ·simp
theorem alp (cW:C.P.follows .mixedOrders=true)(bP:fl C fid)(bm:hD C fid call){k0 i1 i2:Nat}{hX on kg:Oper}{kZ k1 kh:Array Oper}{oY oZ:List Oper}
  {mt it aE more pair out eS:Nat} {tm sM sN:TypeId} {body:Code} {R:fR}
  (h0:kZ[k0]? =some hX) (wH:C.cl vars (.tmp mt)=some R.src) (tK:hX.op=.range tm (.tmp mt)) (wI:hX.dst=some it) (wJ:hX.guard=none) (hit:it<N) (wK:C.P.underlying tm=some (.map sM sN))
  (h1:k1.toList=on::oY) (rB:on.op=.next (.tmp it) false) (hnd:on.dst=some aE) (tL:on.guard=none) (oS:aE<N)
  (h2:kh.toList=kg::oZ) (tM:kg.op=.entry (.tmp it)) (wL:kg.dst=some pair) (wM:kg.guard=none) (wN:pair<N)
  (rC:vars.contains it=true) (tN:R.aE=(aE,vars.contains aE)) (wO:R.pair=(pair,vars.contains pair))
  (rq:ee (C.oper vars N k1) oY=some R.t1) (pK:ee (C.oper vars N kh) oZ=some R.t2) (rD:C.cl vars (.tmp more)=some R.more) (yq:C.code vars N body=some R.body) (PU:R.eS=eS) (FL:R.it=it)
  {st:aw} {l:Nat} {bz:List (V × V)} (sO:R.src.ah st.aM st.ay=.map l) (o0:st.H[l]? =some (.map bz)) (Inv:List Nat->aw->Prop) (Out:aw->Prop)
  (wP:Inv [] (iP it st)) (tO:∀d s,Inv d s->bZ s.ay it=.ptr st.H.length 0)
  (qP:∀d s,Inv d s->∀i kv,i∉d->bz[i]? =some kv->∃ar,R.round call n kv.1 kv.2 s=some ar/\st.H.length<ar.low/\Inv (d++[i]) ar)
  (iO:∀d s,Inv d s->d.Nodup->(∀i,i∈d↔i<bz.length)->∃ar,R.fin call s=some ar/\st.H.length<ar.low/\Out ar)
  {a:Act} {ro:Option Nat} {base:Nat} {Q PV:Exit->Act->World->Prop} (U:dN C fid vars N G st a w) (e9:wD G st.ro ro) (e7:lu C G w base a.defers) (hb:base<=w.heap.size)
  (dO:∀ar G' bn w',Out ar->gN st {ar with low:=min st.low st.H.length}->Fin C fid vars N base st G w {ar with low:=min st.low st.H.length} G' bn w'->Q .normal bn w'):
  wpOpIn (eV ro) 0 C.P kZ PV k0 (fun bn w'=>(Code.block out (.loop (.seq (.region i1 k1 false) (.seq (.cond (.tmp more) .skip (.exit out)) (.block eS (.seq (.region i2 kh false) body)))))).wpIn (eV ro) 0 C.P Q bn w') a w:=by
 have l8:=tH bP U (.tmp mt) R.src wH;rw[sO]at l8;obtain⟨fx,wQ,PW,PX⟩:=l8.mapInv;obtain⟨-,-,es,bX,fc,eQ,c6,ca⟩:=An U.rel wQ o0;have kf:l<st.H.length:=U.rel.lt wQ
 have Fi:(execOp a.eval hX).run C.P w=.ok (.value (.pointer (some ⟨w.heap.size,0,none⟩))) (w.alloc (.mapIter (some fx.b) bX #[] bX)):=by
  unfold execOp;rw[tK];have e:a.eval (.tmp mt)=.map (some fx.b):=PX;simp only[e,Sem.run_bind,run_range_map w tm sM sN fx.b es bX wK fc,Result.andThen_ok,Sem.run_pure]
 have PY:bz.length=es.size:=by
  have:=eQ.length;simpa using this.symm
 have PZ:=U.rel.push .gone (.mapIter (some fx.b) bX #[] bX) 0 0 ⟨rfl,rfl⟩;have sL:∀m k,k<=st.H.length->Ext G w ⟨cE G.β st.H.length ⟨w.heap.size,0,0,false⟩,G.I⟩ (w.alloc (.mapIter (some fx.b) bX #[] bX)) m k:=fun m k hk=>(Ext.push U.rel (.mapIter (some fx.b) bX #[] bX) 0 0 m).le (aN _) hk
 have P0:dN C fid vars N ⟨cE G.β st.H.length ⟨w.heap.size,0,0,false⟩,G.I⟩ {st with H:=st.H++[.gone]} a (w.alloc (.mapIter (some fx.b) bX #[] bX)):=
  ⟨PZ,fun t=>(U.env t).ext U.rel (sL 0 0 (cN _)),U.size,by have:=U.low;simp only[hO,iI,oD];omega⟩
 have lN:dN C fid vars N ⟨cE G.β st.H.length ⟨w.heap.size,0,0,false⟩,G.I⟩ (iP it st) (a.put (some it) (.pointer (some ⟨w.heap.size,0,none⟩))) (w.alloc (.mapIter (some fx.b) bX #[] bX)):=by
  have:=P0.put hit (v:=.ptr st.H.length 0) (x:=.pointer (some ⟨w.heap.size,0,none⟩)) (.ptr st.H.length 0 ⟨w.heap.size,0,0,false⟩ (dw _ _ _) rfl);rw[rC]at this;exact this.clear
 suffices P1:∀G' bn w',dN C fid vars N G' (iP it st) bn w'->(∀m,m<=(iP it st).H.length->Ext ⟨cE G.β st.H.length ⟨w.heap.size,0,0,false⟩,G.I⟩ (w.alloc (.mapIter (some fx.b) bX #[] bX)) G' w' m (iP it st).H.length)->
   bn.defers=a.defers->(Code.block out (.loop (.seq (.region i1 k1 false) (.seq (.cond (.tmp more) .skip (.exit out)) (.block eS (.seq (.region i2 kh false) body)))))).wpIn (eV ro) 0 C.P Q bn w' by
  refine Ke h0 wJ (by rw[tK];simp) Fi ?_;rw[wI];exact P1 _ _ _ lN (fun m _=>.refl _ _ _ _) (by rw[put_defers])
 intro G' bn w' bI cq e6
 refine wpIn_block (J4 (fun k ak aH=>∃d s aB,Inv d s/\d.Nodup/\(∀i∈d,i<bz.length)/\(leftOf es (mU es d)).size<k/\u6 C fid vars N base st.H.length l w.heap.size fx.b bX es bz st G w d s aB ak aH) ?_
  (j:=(leftOf es (mU es [])).size+1) ?_)
 ·rintro k ak aH ⟨d,s,aB,bp,Yi,l7,hk,bT⟩
  obtain⟨bJ,rfl⟩:∃bJ,k=bJ+1:=⟨k-1,by omega⟩;refine⟨bJ,rfl,?_⟩;obtain⟨au,bK,b3⟩:=bT.hi;obtain⟨a7,cw,cS⟩:=bT.hm
  have FM:ak.eval (.tmp it)=.pointer (some ⟨w.heap.size,0,none⟩):=by
   have:=bT.rel.env it;rw[show dT vars s it=bZ s.ay it by unfold dT;rw[if_pos rC],tO d s bp]at this;obtain⟨h5,dC,-,ek⟩:=this.nS;rw[bK]at dC;cases dC;rw[b3]at ek;exact ek
  have sP:∀c,on.op≠ .defer c:=by rw[rB];simp
  have yh:∀c,kg.op≠ .defer c:=by rw[tM];simp
  rcases Ye (P:=C.P) on.type bT.iter bT.map ca.1 (aN _)with⟨dr,ct⟩|⟨e,he,bQ,wR,P2,P3,ct⟩
  ·
   have eC:=aln ca.2 (fun i hi=>by rw[<-PY];exact l7 i hi) dr;obtain⟨ar,ag,jL,P4⟩:=iO d s bp Yi fun i=>⟨l7 i,fun hi=>eC i (by rw[<-PY];exact hi)⟩;unfold fR.fin fR.step at ag;split at ag
   ·rename_i s1 gM
    split at gM
    ·rename_i ki wr hex
     cases gM;split at ag
     ·rename_i tP
      cases ag
      have Ao:(execOp ak.eval on).run C.P aH=.ok (.value (.tuple #[.bool false])) aH:=by
       unfold execOp;rw[rB];simp only[FM,Sem.run_bind,ct,Result.andThen_ok,Sem.run_pure]
      have wE:dN C fid vars N aB (({s with aM:=[],low:=s.H.length}:aw).put (some R.aE) (.aF [.bool false])) (ak.put (some aE) (.tuple #[.bool false])) aH:=by
       rw[tN];exact bT.rel.reset.put oS (.aF _ _ (.cons _ _ _ _ (.p _ _ (.bool false)) .nil))
      refine wpIn_seq (Db bP bm h1 hnd tL sP rq Ao wE hex fun bC a2 gh gU ju tJ=> ?_);have gz:=kX ({s with aM:=[],low:=s.H.length}:aw) (some R.aE) (.aF [.bool false]);have c1:=pU bm.b7 _ _ _ _ _ (by rw[gz.1,gz.2.1];exact aN _) hex
      have eJ:u6 C fid vars N base st.H.length l w.heap.size fx.b bX es bz st G w d {ki with aM:=[]} bC a2 gh:=by
       refine bT.on kf (aN _) gU.clear (fun m hm=> ?_) jL ?_ ?_ ?_
       ·have:=ju m hm
        rw[gz.1]at this;exact this
       ·have:=c1.1
        rw[gz.1,gz.2.1]at this;exact this
       ·exact c1.2.trans gz.2.2
       ·have:=bT.marks.ext (ju 0 (cN _))
        rw[tJ];exact this
      have af:=tH bP eJ.rel (.tmp more) R.more rD;rw[tP]at af;refine wpIn_seq (wpIn_cond_false af.ln (wpIn_exit ?_));show(if out=out then Q .normal a2 gh else _);rw[if_pos rfl];exact dO _ bC a2 gh P4 eJ.b7 ⟨⟨eJ.rel.rel,eJ.rel.env,eJ.rel.size,c4 (oC _ _) (pB eJ.len)⟩,eJ.ext,eJ.marks⟩
     ·cases ag
    ·cases gM
   ·cases ag
  ·
   obtain⟨i,hi,hid,lQ⟩:=alo he
   have n3:i<es.size:=by
    rcases gD i es.size with q|q
    ·exact q
    ·rw[I2 q]at hi;cases hi
   obtain⟨alq,alr,bV,tz,FN,ye,zW,-⟩:=An bT.rel.rel cw bT.mp;rw[cS,bT.map]at FN;cases FN;obtain⟨P5,yn⟩:=Kf bT.rel.rel bK bT.gone;obtain⟨kv,mc⟩:∃kv,bz[i]? =some kv:=⟨bz[i]'(by omega),by simp⟩
   have rE:bw fid aB aH kv.1 e.key:=by
    obtain⟨x,hx,hr⟩:=ye.get (i:=i) (v:=kv.1) (by rw[iH,mc];rfl);rw[iH,iG,hi]at hx;cases hx;exact hr
   have mW:bw fid aB aH kv.2 e.val:=by
    obtain⟨x,hx,hr⟩:=zW.get (i:=i) (v:=kv.2) (by rw[iH,mc];rfl);rw[iH,iG,hi]at hx;cases hx;exact hr
   obtain⟨ar,ag,jL,Ap⟩:=qP d s bp i kv hid mc;have hT:=turn bT.rel.rel bK yn (.mapIter (some fx.b) bX ((mU es d).push e.born) bX) .gone fun _ _ _=>⟨P5,yn⟩;rw[Kg bT.gone]at hT;have wS:bQ.heap=(aH.putObj au.b (.mapIter (some fx.b) bX ((mU es d).push e.born) bX)).heap:=by rw[wR,b3];rfl
   have Aq:bd C fid aB s.H bQ:=hT.1.jo wS;have Ar:∀m,m<=st.H.length->Ext aB aH aB bQ m s.H.length:=fun m hm=>(hT.2.le hm (aN _)).trans (.jo wS P2 P3 _ _)
   have o1:bQ.heap[w.heap.size]? =some (.mapIter (some fx.b) bX ((mU es d).push e.born) bX):=by
    rw[wS,<-b3];exact World.putObj_heap_same (bT.rel.rel.blk _ _ bK)
   have nW:bQ.heap[fx.b]? =some (.map es bX):=by
    rw[wS,World.putObj_heap_other (fun q=> ?_)]
    ·exact bT.map
    ·have:=bT.rel.rel.inj _ _ _ _ bK cw (by rw[cS,<-q]);omega
   have FO:dN C fid vars N aB s ak bQ:=⟨Aq,fun t=>(bT.rel.env t).ext bT.rel.rel (Ar 0 (cN _)),bT.rel.size,bT.rel.low⟩;have As:=Ar 0 (cN _)
   have FP:u6 C fid vars N base st.H.length l w.heap.size fx.b bX es bz st G w (d++[i]) s aB ak bQ:=
    ⟨FO,bT.b7,bT.len,fun m hm=>(bT.ext m hm).trans ((Ar m (by omega)).le (aN _) bT.b7.1.len),bT.marks.ext As,bT.hi,bT.hm,bT.gone,bT.mp,by rw[PT es d hi];exact o1,nW⟩
   have FQ:=rE.ext bT.rel.rel As;have FR:=mW.ext bT.rel.rel As;unfold fR.round fR.step at ag;split at ag
   case h_2=>cases ag
   rename_i s1 gM;split at gM
   case h_2=>cases gM
   rename_i ki wr hex;cases gM;split at ag
   case h_2=>cases ag
   rename_i tP;split at ag
   case isFalse=>cases ag
   rename_i P6
   have P7:bZ ki.ay it=.ptr st.H.length 0:=by
    have:=wy _ _ P6;rw[FL]at this;exact this.trans (tO d s bp)
   split at ag
   case h_2=>cases ag
   rename_i s2 P8 FT
   have Ao:(execOp ak.eval on).run C.P aH=.ok (.value (.tuple #[.bool true,e.key,e.val])) bQ:=by
    unfold execOp;rw[rB];simp only[FM,Sem.run_bind,ct,Result.andThen_ok,Sem.run_pure]
   have wE:dN C fid vars N aB (({s with aM:=[],low:=s.H.length}:aw).put (some R.aE) (.aF [.bool true,kv.1,kv.2])) (ak.put (some aE) (.tuple #[.bool true,e.key,e.val])) bQ:=by
    rw[tN];exact FO.reset.put oS (.aF _ _ (.cons _ _ _ _ (.p _ _ (.bool true)) (.cons _ _ _ _ FQ (.cons _ _ _ _ FR .nil))))
   have gz:=kX ({s with aM:=[],low:=s.H.length}:aw) (some R.aE) (.aF [.bool true,kv.1,kv.2]);have c1:=pU bm.b7 _ _ _ _ _ (by rw[gz.1,gz.2.1];exact aN _) hex;have mX:=kX ({ki with aM:=[]}:aw) (some R.pair) (.aF [kv.1,kv.2]);have sJ:ki.low<=ki.H.length:=c1.bound (by rw[gz.1,gz.2.1];exact aN _);have wT:=pU bm.b7 _ _ _ _ _ (by rw[mX.1,mX.2.1];exact sJ) FT;have z8:s2.low<=s2.H.length:=wT.bound (by rw[mX.1,mX.2.1];exact sJ)
   obtain⟨dA,fy,Kh,als,alu⟩:∃dA fy,exec call n R.body {s2 with aM:=[]}=some (dA,fy)/\(dA=.normal\/dA=.exit eS)/\fy=ar:=by
    split at ag
    ·rename_i fy u4;cases ag;exact⟨_,_,u4,.inl rfl,rfl⟩
    ·rename_i id fy u4
     split at ag
     ·rename_i alv;cases ag;exact⟨_,_,u4,.inr (by rw[alv,PU]),rfl⟩
     ·cases ag
    ·cases ag
   subst alu;have tQ:=mO bm.b7 n _ _ _ _ (show({s2 with aM:=[]}:aw).low<=({s2 with aM:=[]}:aw).H.length from z8) Kh;have alw:fy.low<=s2.low:=tQ.1.low;have alx:s2.low<=ki.low:=by have:=wT.1.low;rw[mX.2.1]at this;exact this
   refine wpIn_seq (Db bP bm h1 hnd tL sP rq Ao wE hex fun bC a2 gh gU ju tJ=> ?_)
   have eJ:u6 C fid vars N base st.H.length l w.heap.size fx.b bX es bz st G w (d++[i]) {ki with aM:=[]} bC a2 gh:=by
    refine FP.on kf (aN _) gU.clear (fun m hm=> ?_) (by show st.H.length<ki.low;omega) ?_ ?_ ?_
    ·have:=ju m hm
     rw[gz.1]at this;exact this
    ·have:=c1.1
     rw[gz.1,gz.2.1]at this;exact this
    ·exact c1.2.trans gz.2.2
    ·have:=FP.marks.ext (ju 0 (cN _))
     rw[tJ];exact this
   have af:=tH bP eJ.rel (.tmp more) R.more rD;rw[tP]at af;refine wpIn_seq (wpIn_cond_true af.ln (wpIn_skip ?_));show(Code.block eS (.seq (.region i2 kh false) body)).wpIn (eV ro) 0 C.P _ a2 gh;refine wpIn_block (wpIn_seq ?_)
   have P9:a2.eval (.tmp it)=.pointer (some ⟨w.heap.size,0,none⟩):=by
    have:=eJ.rel.env it;rw[show dT vars {ki with aM:=[]} it=bZ ki.ay it by unfold dT;rw[if_pos rC],P7]at this;obtain⟨h5,dC,-,ek⟩:=this.nS;obtain⟨fL,gp,gV⟩:=eJ.hi;rw[gp]at dC;cases dC;rw[gV]at ek;exact ek
   have Qa:(execOp a2.eval kg).run C.P gh=.ok (.value (.tuple #[e.key,e.val])) gh:=by
    have Yj:=eJ.iter;rw[PT es d hi]at Yj;have tI:=Yf (P:=C.P) Yj eJ.map (by rw[<-iG]at hi;exact eZ hi) ca.2;unfold execOp;rw[tM];simp only[P9,Sem.run_bind,tI,Result.andThen_ok,Sem.run_pure]
   have FU:=ju 0 (cN _)
   have Qb:dN C fid vars N bC (({ki with aM:=[]}:aw).put (some R.pair) (.aF [kv.1,kv.2])) (a2.put (some pair) (.tuple #[e.key,e.val])) gh:=by
    rw[wO];exact eJ.rel.put wN (.aF _ _ (.cons _ _ _ _ (FQ.ext Aq FU) (.cons _ _ _ _ (FR.ext Aq FU) .nil)))
   refine Db bP bm h2 wL wM yh pK Qa Qb FT fun kd a3 Dc Ai wG FG=> ?_
   have n4:u6 C fid vars N base st.H.length l w.heap.size fx.b bX es bz st G w (d++[i]) {s2 with aM:=[]} kd a3 Dc:=by
    refine eJ.on kf (aN _) Ai.clear (fun m hm=> ?_) (by show st.H.length<s2.low;omega) ?_ ?_ ?_
    ·have:=wG m hm
     rw[mX.1]at this;exact this
    ·have:=wT.1
     rw[mX.1,mX.2.1]at this;exact⟨this.len,c4 this.low sJ,this.same⟩
    ·exact wT.2.trans mX.2.2
    ·have:=eJ.marks.ext (wG 0 (cN _))
     rw[FG];exact this
   show body.wpIn (eV ro) 0 C.P _ a3 Dc;refine sK (n:=n) cW bP bm body _ _ _ yq _ _ _ Kh kd a3 Dc ro base _ n4.rel ?_ n4.marks (c4 hb (n4.ext 0 (cN _)).size) fun FV a4 Ki F=> ?_
   ·have mS:({s2 with aM:=[]}:aw).ro=st.ro:=n4.b7.2
    rw[mS];exact e9.ext (n4.ext 0 (cN _))
   have yr:u6 C fid vars N base st.H.length l w.heap.size fx.b bX es bz st G w (d++[i]) fy FV a4 Ki:=
    n4.on kf (aN _) F.rel F.ext jL ⟨tQ.1.len,c4 tQ.1.low z8,tQ.1.same⟩ tQ.2 F.marks
   have yj:∃d s aB,Inv d s/\d.Nodup/\(∀i∈d,i<bz.length)/\(leftOf es (mU es d)).size<bJ/\u6 C fid vars N base st.H.length l w.heap.size fx.b bX es bz st G w d s aB a4 Ki:=by
    refine⟨d++[i],fy,FV,Ap,zs.2 ⟨Yi,by simp,fun x hx y hy=> ?_⟩,fun x hx=> ?_,by omega,yr⟩
    ·simp only[dG,th,or_false]at hy
     subst hy;exact fun q=>hid (q ▸ hx)
    ·rcases kq.1 hx with q|q
     ·exact l7 x q
     ·simp only[dG,th,or_false]at q
      subst q;omega
   rcases als with rfl|rfl
   ·exact yj
   ·show(if eS=eS then _ else _)
    rw[if_pos rfl];exact yj
 ·have ew:(iP it st).H.length=st.H.length+1:=by unfold iP;simp
  have ad:=cq (st.H.length+1) (by show st.H.length+1<=(iP it st).H.length;rw[ew];exact aN _);have eP:=sL 0 st.H.length (aN _)
  have qG:(⟨cE G.β st.H.length ⟨w.heap.size,0,0,false⟩,G.I⟩:cg).β l=some fx:=by
   show cE G.β st.H.length ⟨w.heap.size,0,0,false⟩ l=some fx;rw[dH (by omega)];exact wQ
  have wj:(⟨cE G.β st.H.length ⟨w.heap.size,0,0,false⟩,G.I⟩:cg).β st.H.length=some ⟨w.heap.size,0,0,false⟩:=dw _ _ _;refine⟨[],iP it st,G',wP,Ji,fun i hi=>(by cases hi),zt _,⟨⟨bI.rel,bI.env,bI.size,?_⟩,⟨⟨?_,j3 _ _,fun x hx=> ?_⟩,rfl⟩,?_,fun m hm=> ?_,?_,?_,?_,?_,?_,?_,?_⟩⟩
  ·exact lN.low
  ·show st.H.length<=(iP it st).H.length
   omega
  ·have dZ:x<min st.low st.H.length:=hx
   show(st.H++[cf.gone])[x]? =_;rw[fY (by omega)]
  ·omega
  ·exact(sL m st.H.length (aN _)).trans ((cq m (by show m<=(iP it st).H.length;omega)).le (aN _) (by show st.H.length<=(iP it st).H.length;omega))
  ·rw[e6]
   exact(e7.ext eP).ext ad
  ·exact yp ad wj rfl
  ·exact yp ad qG PW
  ·show(st.H++[cf.gone])[st.H.length]? =_
   simp
  ·show(st.H++[cf.gone])[l]? =_
   rw[fY kf];exact o0
  ·have:=yo ad lN.rel wj (zt _)
   rw[this];exact mE _ _
  ·have:=yo ad lN.rel qG (by omega)
   rw[this,alloc_old (U.rel.blk _ _ wQ)];exact fc
theorem aly (cW:C.P.follows .mixedOrders=true)(bP:fl C fid)(bm:hD C fid call){i0 i1 i2:Nat}{hX on kg:Oper}{kZ k1 kh:Array Oper}{qQ oY oZ:List Oper}
  {mt it aE more pair out eS:Nat} {tm sM sN:TypeId} {body:Code} {R:fR}
  (h0:kZ.toList=qQ++[hX]) (oR:ee (C.oper vars N kZ) qQ=some R.t0) (wH:C.cl vars (.tmp mt)=some R.src) (tK:hX.op=.range tm (.tmp mt)) (wI:hX.dst=some it) (wJ:hX.guard=none) (hit:it<N) (wK:C.P.underlying tm=some (.map sM sN))
  (h1:k1.toList=on::oY) (rB:on.op=.next (.tmp it) false) (hnd:on.dst=some aE) (tL:on.guard=none) (oS:aE<N)
  (h2:kh.toList=kg::oZ) (tM:kg.op=.entry (.tmp it)) (wL:kg.dst=some pair) (wM:kg.guard=none) (wN:pair<N)
  (rC:vars.contains it=true) (tN:R.aE=(aE,vars.contains aE)) (wO:R.pair=(pair,vars.contains pair))
  (rq:ee (C.oper vars N k1) oY=some R.t1) (pK:ee (C.oper vars N kh) oZ=some R.t2) (rD:C.cl vars (.tmp more)=some R.more) (yq:C.code vars N body=some R.body) (PU:R.eS=eS) (FL:R.it=it)
  {jR st:aw} {wr:List Bool} (he:c8 call R.t0 {jR with aM:=[]} []=some (st,wr)) {l:Nat} {bz:List (V × V)} (sO:R.src.ah st.aM st.ay=.map l) (o0:st.H[l]? =some (.map bz)) (Inv:List Nat->aw->Prop) (Out:aw->Prop)
  (wP:Inv [] (iP it st)) (tO:∀d s,Inv d s->bZ s.ay it=.ptr st.H.length 0)
  (qP:∀d s,Inv d s->∀i kv,i∉d->bz[i]? =some kv->∃ar,R.round call n kv.1 kv.2 s=some ar/\st.H.length<ar.low/\Inv (d++[i]) ar)
  (iO:∀d s,Inv d s->d.Nodup->(∀i,i∈d↔i<bz.length)->∃ar,R.fin call s=some ar/\st.H.length<ar.low/\Out ar)
  {a:Act} {ro:Option Nat} {base:Nat} {Q:Exit->Act->World->Prop} (U:dN C fid vars N G jR a w) (e9:wD G jR.ro ro) (e7:lu C G w base a.defers) (hb:base<=w.heap.size)
  (dO:∀ar G' bn w',Out ar->gN jR {ar with low:=min st.low st.H.length}->Fin C fid vars N base jR G w {ar with low:=min st.low st.H.length} G' bn w'->Q .normal bn w'):
  (Code.seq (.region i0 kZ false) (.block out (.loop (.seq (.region i1 k1 false) (.seq (.cond (.tmp more) .skip (.exit out)) (.block eS (.seq (.region i2 kh false) body))))))).wpIn (eV ro) 0 C.P Q a w:=by
 have c1:=pU bm.b7 _ _ _ _ _ (show({jR with aM:=[]}:aw).low<=({jR with aM:=[]}:aw).H.length from U.low) he;have Au:gN jR st:=c1;have dr:kZ.size=qQ.length+1:=by rw[<-gY,h0];simp
 refine wpIn_seq (wpIn_region ?_);rw[dr,I5];refine PS bP bm (k0:=0) (fun j hj=>by rw[eo,<-iG,h0,fY hj]) oR U.clear he fun aB ak aH bI cq e6=> ?_;have eP:=cq 0 (cN _);have hk:kZ[0+qQ.length]? =some hX:=by rw[eo,<-iG,h0];simp
 have FW:lu C aB aH base ak.defers:=by rw[e6];exact e7.ext eP
 rw[uM,wpOpsIn_cons]
 exact(alp (n:=n) cW bP bm hk wH tK wI wJ hit wK h1 rB hnd tL oS h2 tM wL wM wN rC tN wO rq pK rD yq PU FL sO o0 Inv Out wP tO qP iO bI (by rw[Au.2];exact e9.ext eP) FW (c4 hb eP.size)
  fun ar G' bn w' ho ag F=>dO ar G' bn w' ho (Au.trans ag) ((Fin.trans (st:=jR) (st1:=st) ⟨bI,cq,FW⟩ F Au ag)))
end
end Go.Abs
namespace Go.Abs
open Go
variable{C:Ctx}{fid:Nat->Nat}{w w':World}{G G':cg}{H H':Heap}
section
variable{vars:List Nat}{N:Nat}{call:c5}{n:Nat}
def dj (C:Ctx)(fid:Nat->Nat)(vars:List Nat)(N:Nat)(c:Code)(st:aw)(Out:X->aw->Prop):Prop:=
 ∀(G:cg) (a:Act) (w:World) (ro:Option Nat) (base:Nat) (Q:Exit->Act->World->Prop),dN C fid vars N G st a w->wD G st.ro ro->lu C G w base a.defers->base<=w.heap.size->
  (∀x bf G' bn w',Out x bf->gN st bf->Fin C fid vars N base st G w bf G' bn w'->Q (C0 x) bn w')->c.wpIn (eV ro) 0 C.P Q a w
theorem dj.exec (cW:C.P.follows .mixedOrders=true)(bP:fl C fid)(bm:hD C fid call){c:Code}{ac:cF}(hc:C.code vars N c=some ac){st bf:aw}{x:X}(he:Abs.exec call n ac st=some (x,bf)):
  dj C fid vars N c st (fun y s=>y=x/\s=bf):=fun G a w ro base Q U e9 e7 hb dO=>
 sK (n:=n) cW bP bm c _ _ _ hc _ _ _ he G a w ro base Q U e9 e7 hb fun G' bn w' F=>dO x bf G' bn w' ⟨rfl,rfl⟩ (mO bm.b7 n _ _ _ _ U.low he) F
theorem dj.mono{c:Code}{st:aw}{Out Yk:X->aw->Prop}(h:dj C fid vars N c st Out)(hm:∀x s,Out x s->Yk x s):dj C fid vars N c st Yk:=fun G a w ro base Q U e9 e7 hb dO=>
 h G a w ro base Q U e9 e7 hb fun x s G' bn w' ho=>dO x s G' bn w' (hm x s ho)
theorem dj.seq{c d:Code}{st:aw}{Kj Out:X->aw->Prop}(h1:dj C fid vars N c st Kj)(h2:∀s,Kj .normal s->dj C fid vars N d s Out)(au:∀x s,x≠ .normal->Kj x s->Out x s):
  dj C fid vars N (.seq c d) st Out:=fun G a w ro base Q U e9 e7 hb dO=>by
 refine wpIn_seq (h1 G a w ro base _ U e9 e7 hb fun x s aB ak aH ho ag F=> ?_);cases x with
 |normal=>
  refine h2 s ho aB ak aH ro base _ F.rel (by rw[ag.2];exact e9.ext (F.ext 0 (cN _))) F.marks (c4 hb (F.ext 0 (cN _)).size) fun cr s2 bC a2 bQ alz Av u3=> ?_;exact dO cr s2 bC a2 bQ alz (ag.trans Av) (F.trans u3 ag Av)
 |exit id=>exact dO (.exit id) s aB ak aH (au _ _ (by simp) ho) ag F
 |ret=>exact dO .ret s aB ak aH (au _ _ (by simp) ho) ag F
structure Qc (C:Ctx) (vars:List Nat) (N:Nat) (c:Code) (R:fR):Prop where
 ok:∃(i0 i1 i2:Nat) (hX on kg:Oper) (kZ k1 kh:Array Oper) (qQ oY oZ:List Oper) (mt aE more pair out:Nat) (tm sM sN:TypeId) (body:Code),
  c=.seq (.region i0 kZ false) (.block out (.loop (.seq (.region i1 k1 false) (.seq (.cond (.tmp more) .skip (.exit out)) (.block R.eS (.seq (.region i2 kh false) body))))))/\
  kZ.toList=qQ++[hX]/\ee (C.oper vars N kZ) qQ=some R.t0/\C.cl vars (.tmp mt)=some R.src/\hX.op=.range tm (.tmp mt)/\hX.dst=some R.it/\hX.guard=none/\R.it<N/\C.P.underlying tm=some (.map sM sN)/\
  k1.toList=on::oY/\on.op=.next (.tmp R.it) false/\on.dst=some aE/\on.guard=none/\aE<N/\
  kh.toList=kg::oZ/\kg.op=.entry (.tmp R.it)/\kg.dst=some pair/\kg.guard=none/\pair<N/\
  vars.contains R.it=true/\R.aE=(aE,vars.contains aE)/\R.pair=(pair,vars.contains pair)/\
  ee (C.oper vars N k1) oY=some R.t1/\ee (C.oper vars N kh) oZ=some R.t2/\C.cl vars (.tmp more)=some R.more/\C.code vars N body=some R.body
theorem dj.range (cW:C.P.follows .mixedOrders=true)(bP:fl C fid)(bm:hD C fid call){c:Code}{R:fR}(hc:Qc C vars N c R){jR st:aw}{wr:List Bool}(he:c8 call R.t0 {jR with aM:=[]} []=some (st,wr))
  {l:Nat} {bz:List (V × V)} (sO:R.src.ah st.aM st.ay=.map l) (o0:st.H[l]? =some (.map bz)) (Inv:List Nat->aw->Prop) (Out:aw->Prop)
  (wP:Inv [] (iP R.it st)) (tO:∀d s,Inv d s->bZ s.ay R.it=.ptr st.H.length 0)
  (qP:∀d s,Inv d s->∀i kv,i∉d->bz[i]? =some kv->∃ar,R.round call n kv.1 kv.2 s=some ar/\st.H.length<ar.low/\Inv (d++[i]) ar)
  (iO:∀d s,Inv d s->d.Nodup->(∀i,i∈d↔i<bz.length)->∃ar,R.fin call s=some ar/\st.H.length<ar.low/\Out ar):
  dj C fid vars N c jR (fun x s=>x=.normal/\∃ar,Out ar/\s={ar with low:=min st.low st.H.length}):=fun G a w ro base Q U e9 e7 hb dO=>by
 obtain⟨i0,i1,i2,hX,on,kg,kZ,k1,kh,qQ,oY,oZ,mt,aE,more,pair,out,tm,sM,sN,body,rfl,h0,oR,wH,tK,wI,wJ,hit,wK,h1,rB,hnd,tL,oS,h2,tM,wL,wM,wN,rC,tN,wO,rq,pK,rD,yq⟩:=hc.ok
 exact aly cW bP bm h0 oR wH tK wI wJ hit wK h1 rB hnd tL oS h2 tM wL wM wN rC tN wO rq pK rD yq rfl rfl he sO o0 Inv Out wP tO qP iO U e9 e7 hb
  fun ar G' bn w' ho ag F=>dO .normal _ G' bn w' ⟨rfl,ar,ho,rfl⟩ ag F
def Aw{α:Type}:List α->Option (List α × α)
 |[]=>none
 |a::l=>match Aw l with
  |none=>some ([],a)
  |some (r,b)=>some (a::r,b)
theorem alA{α:Type}:∀{l:List α},Aw l=none->l=[]
 |[],_=>rfl
 |a::l,h=>by simp only[Aw]at h;split at h<;>cases h
theorem Qd{α:Type}:∀{l r:List α} {b:α},Aw l=some (r,b)->l=r++[b]
 |[],_,_,h=>by cases h
 |a::l,r,b,h=>by
  simp only[Aw]at h;split at h
  ·rename_i hn;cases h;rw[alA hn];rfl
  ·rename_i lh eN hn;cases h;rw[Qd hn];rfl
def Ax (C:Ctx)(vars:List Nat)(N:Nat):Code->Option fR
 | .seq (.region _ kZ false) (.block out (.loop (.seq (.region _ k1 false) (.seq (.cond (.tmp more) .skip (.exit Yl)) (.block eS (.seq (.region _ kh false) body))))))=>
   match Aw kZ.toList,k1.toList,kh.toList with
   |some (qQ,⟨some it,.range tm (.tmp mt),_,_,_,none⟩),⟨some aE,.next (.tmp Ym) false,_,_,_,none⟩::oY,⟨some pair,.entry (.tmp Yn),_,_,_,none⟩::oZ=>
    match C.P.underlying tm,ee (C.oper vars N kZ) qQ,C.cl vars (.tmp mt),ee (C.oper vars N k1) oY,ee (C.oper vars N kh) oZ,C.cl vars (.tmp more),C.code vars N body with
    |some (.map _ _),some t0,some src,some t1,some t2,some uY,some b=>
     if Yl=out/\Ym=it/\Yn=it/\it<N/\aE<N/\pair<N/\vars.contains it=true then some ⟨t0,src,it,(aE,vars.contains aE),t1,uY,eS,(pair,vars.contains pair),t2,b⟩else none
    | _,_,_,_,_,_,_=>none
   | _,_,_=>none
 | _=>none
theorem Yo{c:Code}{R:fR}(h:Ax C vars N c=some R):Qc C vars N c R:=by
 unfold Ax at h;split at h
 ·rename_i i0 kZ out i1 k1 more Yl eS i2 kh body
  split at h
  ·rename_i qQ it tm mt aAq aAr aAs aE Ym aAt PE aAu oY pair Yn aAv aAw aAx oZ eP ad e2
   split at h
   ·rename_i sM sN t0 src t1 t2 uY b kW wU us rm Yp alB Yq
    split at h
    ·rename_i hc
     obtain⟨rfl,rfl,rfl,h1,h2,au,a7⟩:=hc;cases h;exact⟨_,_,_,_,_,_,_,_,_,_,_,_,_,_,_,_,_,_,_,_,_,rfl,Qd eP,wU,us,rfl,rfl,rfl,h1,kW,ad,rfl,rfl,rfl,h2,e2,rfl,rfl,rfl,au,a7,rfl,rfl,rm,Yp,alB,Yq⟩
    ·cases h
   ·cases h
  ·cases h
 ·cases h
def FX (d:List Nat)(k:Nat):List Nat:=(List.range k).filter fun i=>!d.contains i
def fR.all (R:fR)(call:c5)(n:Nat)(bz:List (V × V))(li:Nat):Nat->List Nat->aw->Option (List aw)
 |0,_,_=>none
 |f+1,d,s=>
  if ep (bZ s.ay R.it) (.ptr li 0)=true then
   match FX d bz.length with
   |[]=>match R.fin call s with
    |some ar=>if Nat.blt li ar.low=true then some [ar]else none
    |none=>none
   |i::is=>(ee (fun i=>match bz[i]? with
     |some kv=>match R.round call n kv.1 kv.2 s with
      |some ar=>if Nat.blt li ar.low=true then R.all call n bz li f (d++[i]) ar else none
      |none=>none
     |none=>none) (i::is)).map List.flatten
  else none
theorem Yr{α β:Type}{f:α->Option β}:∀{l:List α} {aQ:List β},ee f l=some aQ->∀{a:α},a∈l->∃b∈aQ,f a=some b
 |[],_,_,_,h=>by cases h
 |x::l,aQ,hm,a,h=>by
  simp only[ee]at hm;split at hm
  ·rename_i b hb
   split at hm
   ·rename_i aAy Fa
    cases hm;rcases dG.1 h with rfl|h
    ·exact⟨b,by simp,hb⟩
    ·obtain⟨eN,h1,h2⟩:=Yr Fa h
     exact⟨eN,by simp[h1],h2⟩
   ·cases hm
  ·cases hm
theorem fR.Qe{R:fR}{bz:List (V × V)}{li f:Nat}{d:List Nat}{s:aw}{o:List aw}(h:R.all call n bz li f d s=some o):bZ s.ay R.it=.ptr li 0:=by
 cases f with
 |zero=>cases h
 |succ f=>
  simp only[fR.all]at h;split at h
  ·rename_i bu;exact wy _ _ bu
  ·cases h
theorem dj.alC (cW:C.P.follows .mixedOrders=true)(bP:fl C fid)(bm:hD C fid call){c:Code}{R:fR}(hc:Qc C vars N c R){jR st:aw}{wr:List Bool}(he:c8 call R.t0 {jR with aM:=[]} []=some (st,wr)){l:Nat}{bz:List (V × V)}
  (sO:R.src.ah st.aM st.ay=.map l) (o0:st.H[l]? =some (.map bz)) {f:Nat} {outs:List aw} (al:R.all call n bz st.H.length f [] (iP R.it st)=some outs):
  dj C fid vars N c jR (fun x s=>x=.normal/\∃ar∈outs,s={ar with low:=min st.low st.H.length}):=by
 refine dj.range (n:=n) cW bP bm hc he sO o0 (fun d s=>∃f o,R.all call n bz st.H.length f d s=some o/\∀x∈o,x∈outs) (fun s=>s∈outs) ⟨f,outs,al,fun _ h=>h⟩ (fun d s ⟨f,o,h,_⟩=>fR.Qe h) ?_ ?_
 ·rintro d s ⟨f,o,h,hs⟩ i kv hid mc
  have hit:=fR.Qe h
  have n3:i<bz.length:=by
   rcases gD i bz.length with q|q
   ·exact q
   ·rw[nP q]at mc;cases mc
  have dD:i∈FX d bz.length:=by
   unfold FX;simp[n3,hid]
  cases f with
  |zero=>cases h
  |succ f=>
   simp only[fR.all,hit]at h;split at h
   ·split at h
    ·rename_i hr;rw[hr]at dD;cases dD
    ·rename_i j is hr
     rw[hr]at dD;obtain⟨os,Cy,rfl⟩:=cD.1 h;obtain⟨b,hb,Ay⟩:=Yr Cy dD;rw[mc]at Ay;simp only at Ay;split at Ay
     ·rename_i ar dd
      split at Ay
      ·rename_i jL
       refine⟨ar,dd,?_,f,b,Ay,fun x hx=>hs x (List.mem_flatten.2 ⟨b,hb,hx⟩)⟩;have:=j1 jL;omega
      ·cases Ay
     ·cases Ay
   ·cases h
 ·rintro d s ⟨f,o,h,hs⟩ _ eC
  have hit:=fR.Qe h;cases f with
  |zero=>cases h
  |succ f=>
   have hr:FX d bz.length=[]:=by
    unfold FX;rw[List.filter_eq_nil_iff];intro i hi;have:=(eC i).2 (Jj.1 hi);simp[this]
   simp only[fR.all,hr]at h;split at h
   case isFalse=>cases h
   cases ag:R.fin call s with
   |none=>rw[ag]at h;cases h
   |some ar=>
    rw[ag]at h;simp only at h;split at h
    ·rename_i jL
     cases h;refine⟨ar,rfl,?_,hs _ (by simp)⟩;have:=j1 jL;omega
    ·cases h
end
theorem Ys (bP:fl C fid){oX:Nat}{fn:Func}{c:Code}{qO:List nr}{fresh:Bool}(ag:C.P.funcs[oX]? =some fn)(hb:fn.body=some c)(sI:ee C.res fn.results.toList=some qO)
  {args:List V} {v:V} {low':Nat} {xs:List Value} (hlen:args.length<=fn.ntmps)
  (Qf:dj C fid (Ctx.varsOf fn) fn.ntmps c {aM:=[],ay:=iK 0 args,H,low:=H.length} (fun x st=>(x=.normal\/x=.ret)/\∃vs,gZ st.ay st.H qO=some vs/\finish fresh H (ke vs) st.H st.low=some (v,H',low')))
  (U:bd C fid G H w) (af:bj fid G w args xs):Calls C.P oX ⟨xs⟩ w (fun e w'=>∃x,e=.returned x/\lO C fid G H w v H' low' x w'):=by
 have js:=af.length
 have jO:dN C fid (Ctx.varsOf fn) fn.ntmps G {aM:=[],ay:=iK 0 args,H,low:=H.length} {tmps:=(⟨xs⟩:Array Value)++Array.replicate (fn.ntmps-(⟨xs⟩:Array Value).size) undef,defers:=[]} w:=by
  refine⟨U,fun t=> ?_,?_,aN _⟩
  ·unfold dT
   split
   ·rw[PN]
    simp only[cN,if_true,Nat.sub_zero];cases al:args[t]? with
    |none=>exact .undef _
    |some u=>
     obtain⟨x,hx,Ak⟩:=af.get al
     have aG:t<xs.length:=by
      rcases gD t xs.length with h|h
      ·exact h
      ·simp[nP h]at hx
     have:((⟨xs⟩:Array Value)++Array.replicate (fn.ntmps-(⟨xs⟩:Array Value).size) undef).getD t undef=x:=by
      rw[xL,ahE (by simpa using aG)];simp[hx]
     rw[this];exact Ak
   ·exact .undef _
  ·simp only[zr,Array.size_replicate]
   show xs.length+(fn.ntmps-xs.length)=fn.ntmps;rw[js];omega
 refine(callsIn_wide (n:=0)).1 (callsIn_of_wp_marks ag hb trivial ?_);refine Qf G _ w none w.heap.size _ jO trivial (.nil _ _ _) (aN _) fun x st G' bn w' ho eR F=> ?_;obtain⟨PQ,vs,hr,ry⟩:=ho;obtain⟨rs,PO,dt,hm,FI⟩:=F.marks
 have oV:LeavesInM Fence.wide 0 C.P fn bn.tmps (fun e w'=>∃x,e=.returned x/\lO C fid G H w v H' low' x w') bn.defers .returning w':=by
  rw[PO];refine Ka (m0:=fun m=>m<=st.low) rs w' dt hm FI F.rel.rel F.ext (fun _ _ _=>trivial) fun bQ b4 dq jK=> ?_
  obtain⟨x,hx,Ak⟩:=X7 sI b4 (fun t ht=>by
   have:=F.rel.env t;rw[PA (X9 ht)]at this;exact jK this) hr
  exact⟨x,hx,x,rfl,X3 U b4 dq eR.1 Ak ry⟩
 rcases PQ with rfl|rfl
 ·exact oV
 ·exact oV
end Go.Abs
namespace Go.Abs
open Go
variable{C:Ctx}{fid:Nat->Nat}{w w':World}{G G':cg}{H H':Heap}
section
variable{vars:List Nat}{N:Nat}{call:c5}{n:Nat}
theorem dj.pre (cW:C.P.follows .mixedOrders=true)(bP:fl C fid)(bm:hD C fid call){c d:Code}{ac:cF}(hc:C.code vars N c=some ac){st bf:aw}(he:Abs.exec call n ac st=some (.normal,bf))
  {Out:X->aw->Prop} (h:dj C fid vars N d bf Out):dj C fid vars N (.seq c d) st Out:=
 dj.seq (dj.exec cW bP bm hc he) (fun s hs=>by rw[hs.2];exact h) fun x s hx hs=>absurd hs.1 hx
def Qg:List Code->Code->Code
 |[],d=>d
 |c::r,d=>.seq c (Qg r d)
def FY (call:c5)(n:Nat):List cF->aw->Option aw
 |[],st=>some st
 |c::r,st=>match Abs.exec call n c st with
  |some (.normal,s)=>FY call n r s
  | _=>none
theorem dj.Yt (cW:C.P.follows .mixedOrders=true)(bP:fl C fid)(bm:hD C fid call){d:Code}{Out:X->aw->Prop}:∀{cs:List Code} {Kk:List cF},ee (C.code vars N) cs=some Kk->∀{st bf:aw},FY call n Kk st=some bf->
  dj C fid vars N d bf Out->dj C fid vars N (Qg cs d) st Out
 |[],Kk,hm,st,bf,he,h=>by
  simp only[ee,aD]at hm;subst hm;simp only[FY,aD]at he;subst he;exact h
 |c::cs,Kk,hm,st,bf,he,h=>by
  simp only[ee]at hm;split at hm
  ·rename_i a al
   split at hm
   ·rename_i aX has
    cases hm;simp only[FY]at he;split at he
    ·rename_i s hs
     exact dj.pre cW bP bm al hs (dj.Yt cW bP bm has he h)
    ·cases he
   ·cases hm
  ·cases hm
end
structure o2 where
 pre:List cF
 R:fR
 post:cF
 qO:List nr
def alD:X->Bool
 | .normal| .ret=>true
 | _=>false
def o2.ends (B:o2)(v:V):X × aw->Bool:=fun(x,s)=>alD x&&match gZ s.ay s.H B.qO with
 |some vs=>match finish false [] (ke vs) s.H s.low with
  |some (u,H',l)=>ep u v&&H'.isEmpty&&Nat.beq l 0
  |none=>false
 |none=>false
def o2.ok (B:o2)(call:c5)(n:Nat)(args:List V)(v:V):Bool:=
 match FY call n B.pre {aM:=[],ay:=iK 0 args,H:=[],low:=0}with
 |some jR=>match c8 call B.R.t0 {jR with aM:=[]} []with
  |some (st,_)=>match B.R.src.ah st.aM st.ay with
   | .map l=>match st.H[l]? with
     |some (.map bz)=>match B.R.all call n bz st.H.length n [] (iP B.R.it st)with
      |some outs=>outs.all fun ar=>match exec call n B.post {ar with low:=min st.low st.H.length}with
       |some p=>B.ends v p
       |none=>false
      |none=>false
     | _=>false
   | _=>false
  |none=>false
 |none=>false
structure Qh (C:Ctx) (fn:Func) (B:o2):Prop where
 ok:∃(cs:List Code) (Kl Km:Code),fn.body=some (Qg cs (.seq Kl Km))/\ee (C.code (Ctx.varsOf fn) fn.ntmps) cs=some B.pre/\Ax C (Ctx.varsOf fn) fn.ntmps Kl=some B.R/\C.code (Ctx.varsOf fn) fn.ntmps Km=some B.post/\
  ee C.res fn.results.toList=some B.qO/\(fn.name== "runtime.NumGoroutine")=false
theorem o2.calls (cW:C.P.follows .mixedOrders=true)(bP:fl C fid){call:c5}(bm:hD C fid call){n oX:Nat}{fn:Func}{B:o2}(ag:C.P.funcs[oX]? =some fn)(dM:Qh C fn B){args:List V}{v:V}(hlen:args.length<=fn.ntmps)
  (a1:B.ok call n args v=true) {xs:List Value} (U:bd C fid G [] w) (af:bj fid G w args xs):Calls C.P oX ⟨xs⟩ w (fun e w'=>∃x,e=.returned x/\lO C fid G [] w v [] 0 x w'):=by
 obtain⟨cs,Kl,Km,hb,Dd,alE,alF,sI,-⟩:=dM.ok;refine Ys bP ag hb sI (fresh:=false) hlen ?_ U af;unfold o2.ok at a1;split at a1
 case h_2=>cases a1
 rename_i jR ca;split at a1
 case h_2=>cases a1
 rename_i st wr hex;split at a1
 case h_2=>cases a1
 rename_i l hl;split at a1
 case h_2=>cases a1
 rename_i bz alG;split at a1
 case h_2=>cases a1
 rename_i outs alH;refine dj.Yt cW bP bm Dd ca ?_;refine dj.seq (dj.alC cW bP bm (Yo alE) hex hl alG alH) (fun s hs=> ?_) fun x s hx hs=>absurd hs.1 hx;obtain⟨-,ar,Az,rfl⟩:=hs;have h1:=eE.1 a1 ar Az;split at h1
 case h_2=>cases h1
 rename_i p hp;obtain⟨x,s2⟩:=p;refine(dj.exec cW bP bm alF hp).mono fun y fy hy=> ?_;obtain⟨rfl,rfl⟩:=hy;unfold o2.ends at h1;simp only[cm]at h1;obtain⟨h2,au⟩:=h1;refine⟨?_,?_⟩
 ·cases y with
  |normal=>exact .inl rfl
  |ret=>exact .inr rfl
  |exit i=>cases h2
 ·split at au
  case h_2=>cases au
  rename_i vs c6;split at au
  case h_2=>cases au
  rename_i u H' k iO;simp only[cm]at au;obtain⟨⟨a7,h5⟩,fL⟩:=au;have ad:=wy _ _ a7
  have e2:H'=[]:=by cases H' with
   |nil=>rfl
   |cons=>cases h5
  have bK:k=0:=eU fL;subst ad;subst e2;subst bK;exact⟨vs,c6,iO⟩
def o2.jJ (B:o2)(call:c5)(n:Nat)(N:Nat):List (List V × V)->Prop
 |[]=>True
 |(aX,v)::r=>(bx v=true/\Nat.ble aX.length N=true/\B.ok call n aX v=true)/\B.jJ call n N r
theorem o2.PR (cW:C.P.follows .mixedOrders=true)(bP:fl C fid){call:c5}(bm:hD C fid call){n oX:Nat}{fn:Func}{B:o2}(ag:C.P.funcs[oX]? =some fn)(dM:Qh C fn B):∀{l:List (List V × V)},B.jJ call n fn.ntmps l->jQ C fid oX (jI l):=by
 intro l hl G H w args v xs U e0 nz;obtain⟨cs,Kl,Km,hb,-,-,-,-,FK⟩:=dM.ok;rw[FJ ag hb FK]
 induction l with
 |nil=>cases nz
 |cons p r ih=>
  obtain⟨aX,u⟩:=p;simp only[jI]at nz;cases e:nQ args aX with
  |true=>
   rw[e]at nz;have h':some u=some v:=nz;cases h';have e':=u2 _ _ e;subst e';obtain⟨⟨h1,h2,au⟩,-⟩:=hl;have hc:=o2.calls cW bP bm ag dM (j1 h2) au U.apart (dp.pG e0);exact EE hc fun e w'=>fun⟨x,ad,e2⟩=>⟨x,ad,e2.beside U h1⟩
  |false=>rw[e]at nz;exact ih hl.2 nz
end Go.Abs
namespace Go.Abs
open Go Go.Proofs Go.Shelf
variable{C:Ctx}{fid:Nat->Nat}{ρ:Ren}
def FZ:zD:=fun args H=>match args with
 |[.ptr l 0]=>match H[l]? with
  |some (.cells [.undef,b])=>some (.aF [],[(l,.cells [.undef,b])],[])
  | _=>none
 | _=>none
theorem alI{args:List V}{H:Heap}{v:V}{H':Heap}{low:Nat}(h:Cr FZ args H=some (v,H',low)):
  ∃l b,args=[.ptr l 0]/\H[l]? =some (.cells [.undef,b])/\v=.aF []/\H'=H.set l (.cells [.undef,b])/\low=min H.length l:=by
 obtain⟨r,hr,he⟩:=cD.1 h;unfold FZ at hr;split at hr
 ·rename_i l
  split at hr
  ·rename_i b hb
   cases hr;simp only[Jp,Jq,ti,NP,qt,bH]at he;exact⟨l,b,rfl,hb,he.1.symm,he.2.1.symm,he.2.2.symm⟩
  ·cases hr
 ·cases hr
theorem alJ (L:Lays.n240 C.P ρ)(X:Builder.X72 C.P ρ)(De:C.zF=some (ρ.t 72)):FD C fid (ρ.f 240) FZ:=by
 intro G H w args v H' low xs U hQ he;obtain⟨l,b,rfl,hl,rfl,rfl,rfl⟩:=alI he
 obtain⟨x,rfl⟩:∃x,xs=[x]:=by
  cases hQ with|cons _ x _ xs _ hs=>cases hs;exact⟨x,rfl⟩
 have hx:bw fid G w (.ptr l 0) x:=by cases hQ;assumption
 obtain⟨h0,hb,oR,rfl⟩:=hx.nS;obtain⟨aY,ho,hr⟩:=U.obj l h0 hb;rw[hl]at ho;cases ho;obtain⟨⟨ht,Fx⟩,ag,c,e,hc,af⟩:=hr;obtain⟨c',e',pL,AA,hc0⟩:=Fx b rfl;rw[hc]at pL;cases pL;rw[De]at AA;cases AA;have hlen:c.size=2:=by rw[<-gY,af.length];rfl
 have tI:(callFunc (ρ.f 240) ⟨[.pointer (some ⟨h0.b,0,none⟩)]⟩).run C.P w=.ok (.enter (ρ.f 240) ⟨[.pointer (some ⟨h0.b,0,none⟩)]⟩) w:=enters_of L.f240 (by kernel_rfl) rfl _ _;refine⟨?_,_,_,tI⟩;rw[tI]
 have mb:H.set l (.cells [.undef,b])=H:=by
  refine q7 fun i=> ?_;by_cases hi:l=i
  ·subst hi
   rw[oA (eY.1 hl).1,hl]
  ·rw[jE hi]
 rcases hc0 with hc0|hc0
 ·refine(Any.Builder_copyCheck_fresh L X h0.b w ?_ ?_ ?_).mono ?_
  ·rw[Lib.cell_of_heap hc];exact hc0
  ·simp[World.shape?,hc,hlen]
  ·exact Lib.frozen_of_heap hc 0
  ·rintro e w' ⟨rfl,rfl⟩
   have hs:(w.setCell ⟨h0.b,0,none⟩ (.pointer (some ⟨h0.b,0,none⟩))).heap.size=w.heap.size:=by simp[World.setCell]
   have hk:∀eN,eN≠h0.b->(w.setCell ⟨h0.b,0,none⟩ (.pointer (some ⟨h0.b,0,none⟩))).heap[eN]? =w.heap[eN]? :=fun eN bq=>by
    simp only[World.setCell,Nw];rw[if_neg fun e=>bq e.symm]
   have hn:(w.setCell ⟨h0.b,0,none⟩ (.pointer (some ⟨h0.b,0,none⟩))).heap[h0.b]? =some (.cells (c.setIfInBounds 0 (.pointer (some ⟨h0.b,0,none⟩))) (ρ.t 72) (0,0)):=by
    simp only[World.setCell,Nw,if_true,hc,si];rfl
   have hx:=Ext.write U hb ag rfl (aN _) id rfl hs hk rfl rfl;refine⟨_,rfl,⟨cE G.β l h0,G.I⟩,bd.write U hb ag rfl ag (aN _) id rfl hs hk _ ⟨⟨ht,fun v _=>⟨_,_,hn,De,.inr ?_⟩⟩,ag,_,_,hn,?_⟩,fun m hm=>hx.le (c4 hm (oC _ _)) (aN _),.aF _ _ .nil⟩
   ·rw[Array.getElem?_setIfInBounds_self,if_pos (by omega)]
   ·have CG:bj fid ⟨cE G.β l h0,G.I⟩ (w.setCell ⟨h0.b,0,none⟩ (.pointer (some ⟨h0.b,0,none⟩))) [.undef,b] c.toList:=af.ext U hx
    rw[Array.toList_setIfInBounds];generalize c.toList=q at CG;cases CG with
    |cons _ x _ xs _ hs=>exact .cons _ _ _ _ (.undef _) hs
 ·refine(Any.Builder_copyCheck_used L X h0.b w (by rw[Lib.cell_of_heap hc];exact hc0)).mono ?_
  rintro e w' ⟨rfl,rfl⟩;exact⟨_,rfl,G,by rw[mb];exact U,fun m _=>.refl _ _ _ _,.aF _ _ .nil⟩
end Go.Abs
namespace Go.Abs
open Go Go.Proofs Go.Shelf Go.RowKit
section
variable{P:Program}{ρ:Ren}
set_option maxHeartbeats 2000000 in
set_option maxRecDepth 100000 in
theorem alK (L:Lays.n169 P ρ)(X:Builder.Extra P ρ){b g cap:Nat}{c cur:Array Value}{s:List UInt8}{rest:List Value}{w:World}(hc:w.heap[b]? =some (.cells c (ρ.t 72) (0,0)))
  (C9:c[1]? =some (.slice (some ⟨g,0,none⟩) s.length cap)) (bb:w.heap[g]? =some (.cells cur (ρ.t 5) (0,0))) (Yu:cur.toList=(s.map fun b=>Value.int .u8 b.toNat)++rest) (h0:s≠[]) (hle:s.length<=cap) (hm:s.length<=1099511627776):
  Calls P (ρ.f 169) #[.pointer (some ⟨b,0,none⟩)] w fun e w'=>e=.returned (.string ⟨⟨s⟩⟩)/\w'=w.drew.freeze ⟨g,0,none⟩ s.length:=by
 have qG:s.length≠0:=by simpa using h0
 have Kn:w.drew.heap[g]? =some (.cells cur (ρ.t 5) (0,0)):=bb
 have cT:w.drew.cell? ⟨b,1,none⟩=some (.slice (some ⟨g,0,none⟩) s.length cap):=by
  have:w.drew.heap[b]? =some (.cells c (ρ.t 72) (0,0)):=hc;rw[Lib.cell_of_heap this];exact C9
 have dr:s.length<=cur.size:=by rw[<-gY,Yu,hO,gR];omega
 have aAz:(Builtin.unsafeSliceData_ #[(ρ.t 37)] (ρ.t 127) #[.slice (some ⟨g,0,none⟩) s.length cap]).run P w.drew=.ok (.pointer (some ⟨g,0,none⟩)) w.drew:=
  Lib.run_unsafeSliceData_row _ _ _ _ _ _ (by omega)
 have aAA:(Builtin.unsafeString_ #[(ρ.t 127),(ρ.t 3)] (ρ.t 9) #[.pointer (some ⟨g,0,none⟩),.int .i64 s.length]).run P w.drew=.ok (.string ⟨s.toArray⟩) (w.drew.freeze ⟨g,0,none⟩ s.length):=by
  refine Lib.run_unsafeString_row w.drew (ρ.t 127) (ρ.t 3) (ρ.t 9) (ρ.t 5) L.t127 X.cellsByte g cur.size (by simp[World.shape?,Kn]) s h0 dr (by omega) ?_;intro j x hx;rw[Addr.add_lit,eo,Lib.cell_of_heap Kn,<-iG,Yu,fY (by rw[gR];exact(eY.1 hx).1),iH,hx];rfl
 have mixed:=L.mixed;have t72:=L.t72;have a72:=L.a72;have z72:=L.z72;have v72:=L.v72;have aAB:=run_underlying L.t72;have t70:=L.t70;have a70:=L.a70;have z70:=L.z70;have v70:=L.v70;have aAC:=run_underlying L.t70;have t37:=L.t37;have a37:=L.a37;have z37:=L.z37;have v37:=L.v37;have aAD:=run_underlying L.t37;have t127:=L.t127;have a127:=L.a127;have z127:=L.z127;have v127:=L.v127;have aAE:=run_underlying L.t127;have t3:=L.t3;have a3:=L.a3;have z3:=L.z3;have v3:=L.v3;have Yp:=run_underlying L.t3;have t9:=L.t9;have a9:=L.a9;have z9:=L.z9;have v9:=L.v9;have aAF:=run_underlying L.t9;have t5:=X.t5;have a5:=X.a5;have z5:=X.z5;have v5:=X.v5;have Yq:=run_underlying X.t5
 go_enter L.f169,Body.n169_ntmps ρ
 go_wp2
 go_region_o
 all_goals (go_wp2;go_ret;exact⟨rfl,rfl⟩)
end
variable{C:Ctx}{fid:Nat->Nat}{ρ:Ren}
def F0:zD:=fun args H=>match args with
 |[.ptr l 0]=>match H[l]? with
  |some (.cells [.undef,.cB k 1 0 n tag])=>match H[k]? with
   |some (.rh s)=>if s.length=n/\n=tag/\n<=2^40 then some (.str s,[(k,.dead n)],[])else none
   | _=>none
  | _=>none
 | _=>none
theorem alL{args:List V}{H:Heap}{v:V}{H':Heap}{low:Nat}(h:Cr F0 args H=some (v,H',low)):
  ∃l k s,args=[.ptr l 0]/\H[l]? =some (.cells [.undef,.cB k 1 0 s.length s.length])/\H[k]? =some (.rh s)/\s.length<=1099511627776/\v=.str s/\H'=H.set k (.dead s.length)/\low=min H.length k:=by
 obtain⟨r,hr,he⟩:=cD.1 h;unfold F0 at hr;split at hr
 ·rename_i l
  split at hr
  ·rename_i k n tag hb
   split at hr
   ·rename_i s hk
    split at hr
    ·rename_i hc
     obtain⟨rfl,rfl,hm⟩:=hc;cases hr;simp only[Jp,Jq,ti,NP,qt,bH]at he;exact⟨l,k,s,rfl,hb,hk,hm,he.1.symm,he.2.1.symm,he.2.2.symm⟩
    ·cases hr
   ·cases hr
  ·cases hr
 ·cases hr
theorem alM{w:World}{a:Addr}{n b:Nat}(h:b≠a.block):(w.freeze a n).heap[b]? =w.heap[b]? :=by
 unfold World.freeze;split
 ·rfl
 ·simp only[Nw]
  rw[if_neg fun e=>h e.symm]
theorem alN{w:World}{a:Addr}{n:Nat}:(w.freeze a n).heap.size=w.heap.size:=by
 unfold World.freeze;split<;>simp
theorem Yv{w:World}{a:Addr}{n:Nat}:(w.freeze a n).os=w.os/\(w.freeze a n).output=w.output:=by
 unfold World.freeze;split<;>exact⟨rfl,rfl⟩
theorem alO (L:Lays.n169 C.P ρ)(X:Builder.Extra C.P ρ)(De:C.zF=some (ρ.t 72))(yg:C.xY=ρ.t 5):FD C fid (ρ.f 169) F0:=by
 intro G H w args v H' low xs U hQ he;obtain⟨l,k,s,rfl,hl,hk,hm,rfl,rfl,rfl⟩:=alL he
 obtain⟨x,rfl⟩:∃x,xs=[x]:=by
  cases hQ with|cons _ x _ xs _ hs=>cases hs;exact⟨x,rfl⟩
 have hx:bw fid G w (.ptr l 0) x:=by cases hQ;assumption
 obtain⟨h0,hb,oR,rfl⟩:=hx.nS;obtain⟨aY,ho,hr⟩:=U.obj l h0 hb;rw[hl]at ho;cases ho;obtain⟨⟨ht,Fx⟩,ag,c,e,hc,af⟩:=hr;obtain⟨c',e',pL,AA,hc0⟩:=Fx _ rfl;rw[hc]at pL;cases pL;rw[De]at AA;cases AA;obtain⟨y,Qi,hy⟩:=af.get (i:=1) (v:=.cB k 1 0 s.length s.length) rfl;rw[iG]at Qi;obtain⟨h1,dh,cU,cap,tR,qB,iy,rfl⟩:=hy.oI;obtain⟨aY,eI,alP⟩:=U.obj k h1 tR;rw[hk]at eI;cases eI;obtain⟨hfz,uV,W8,cur,rest,bb,fJ,jq⟩:=alP;obtain⟨rfl,rfl,oJ,oM⟩:=iy uV;rw[yg]at bb;rw[Nat.zero_mul]at Qi;have tI:(callFunc (ρ.f 169) ⟨[.pointer (some ⟨h0.b,0,none⟩)]⟩).run C.P w=.ok (.enter (ρ.f 169) ⟨[.pointer (some ⟨h0.b,0,none⟩)]⟩) w:=enters_of L.f169 (by kernel_rfl) rfl _ _;refine⟨?_,_,_,tI⟩;rw[tI];refine(alK L X hc Qi bb jq (NC.1 W8) oM hm).mono ?_;rintro e w' ⟨rfl,rfl⟩;have sE:bd C fid G H w.drew:=U.jo rfl;have de:∀m n,Ext G w G w.drew m n:=fun m n=>Ext.jo (w:=w) (w':=w.drew) rfl rfl rfl m n;have dr:(w.drew.freeze ⟨h1.b,0,none⟩ s.length).heap.size=w.drew.heap.size:=alN;have x6:∀b,b≠h1.b->(w.drew.freeze ⟨h1.b,0,none⟩ s.length).heap[b]? =w.drew.heap[b]? :=fun b bq=>alM (a:=⟨h1.b,0,none⟩) bq;have hx:=Ext.write sE tR hfz rfl (aN _) id rfl dr x6 Yv.1 Yv.2;refine⟨_,rfl,⟨cE G.β k h1,G.I⟩,bd.write sE tR hfz rfl hfz (aN _) id rfl dr x6 _ ⟨hfz,uV⟩,fun m hm=>(de m H.length).trans (hx.le (c4 hm (oC _ _)) (aN _)),.p _ _ (.str _)⟩
end Go.Abs
namespace Go.Abs.bA
open Go Go.Abs Go.Proofs
noncomputable section
def A (g:Nat->Option Obj):Ctx:={P:=Tryz.prog,EJ:=some,raw:=fun i=>i==27||i==46||i==116||i==235||i==297||i==93||i==406||i==165||i==451||i==268||i==269||i==270||i==271||i==272||i==273||i==274||i==275||i==487||i==488||i==489||i==490||i==491||i==492||i==494||i==495||i==375||i==378||i==379||i==513||i==514||i==515||i==437||i==527,ff:=g,jG:=fun p=>!(p== "names.go:37" ||p== "parser.go:280"),zE:=[496],NT:=fun p=>p== "ref.go:86",zF:=some 133,xY:=5,VB:=fun p=>p== "builder.go:114" }
def C (g:Nat->Option Obj):Ctx:={P:=Tryz.prog,EJ:=some,raw:=fun i=>i==46||i==116||i==235||i==297||i==93||i==406||i==165||i==451||i==268||i==269||i==270||i==271||i==272||i==273||i==274||i==275||i==487||i==488||i==489||i==490||i==491||i==492||i==494||i==495||i==375||i==378||i==379||i==513||i==514||i==515||i==437||i==527,ff:=g,jG:=fun p=>!(p== "names.go:37" ||p== "parser.go:280"),zE:=[496],NT:=fun p=>p== "ref.go:86" }
def alQ (i:Nat):Bool:=i==27||i==46||i==116||i==235
def alR (i:Nat):Bool:=i==46||i==116||i==235
def Yw (i:Nat):Option (List V->Option V):=match i with
 |61=>some EO
 |166=>some EP
 |238=>some EN
 |241=>some EM
 |368=>some x4
 |371=>some x5
 |381=>some ER
 | _=>none
def Yx (i:Nat):Option zD:=match i with
 |63=>some F0
 |132=>some FZ
 | _=>none
def Yy (i:Nat):Option (List V->Option V):=match i with
 |368=>some x4
 |371=>some x5
 | _=>none
def iQ (g:Nat->Option Obj):Nat->Option cc:=fun i=>match Yx i with
 |some s=>some (.vQ s)
 |none=>match Yw i with
 |some s=>some (.ext s)
 |none=>match Tryz.prog.funcs[i]? with
  |some f=>match(A g).func f (alQ i)with
   |some a=>some (.code a)
   |none=>none
  |none=>none
def pY (g:Nat->Option Obj):Nat->Option cc:=fun i=>match Yy i with
 |some s=>some (.ext s)
 |none=>match Tryz.prog.funcs[i]? with
  |some f=>match(C g).func f (alR i)with
   |some a=>some (.code a)
   |none=>none
  |none=>none
end
end Go.Abs.bA
