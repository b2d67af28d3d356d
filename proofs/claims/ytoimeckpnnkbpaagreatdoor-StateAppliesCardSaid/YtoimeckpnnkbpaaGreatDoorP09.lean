/- Texts of this claim, joined and written short by a program. -/
import Derived.Test.YtoimeckpnnkbpaaGreatDoorP08
import Derived.Shelf.Strings.Builder1
import Derived.Test.YtoimeckpnnkbpaaGreatDoorP01
import Derived.Test.YtoimeckpnnkbpaaGreatDoorProg
import Derived.Test.YtoimeckpnnkbpaaGreatDoorP00
set_option linter.unusedVariables false
set_option linter.unusedSimpArgs false
set_option linter.unusedSectionVars false
namespace Go.Abs
open Go
variable{C:Ctx}{fid:Nat->Nat}{w w':World}{G G':bX}{H H':Heap}
structure fc where
 t0:List bO
 src:ag
 it:Nat
 aB:Nat × Bool
 t1:List bO
 more:ag
 fN:Nat
 pair:Nat × Bool
 t2:List bO
 body:cj
def fc.step (R:fc)(call:cU)(e:V)(st:aq):Option aq:=
 match cQ call R.t1 (({st with aG:=[]}:aq).put (some R.aB) e) []with
 |some (aF,_)=>some {aF with aG:=[]}
 |none=>none
def fc.round (R:fc)(call:cU)(n:Nat)(k v:V)(st:aq):Option aq:=
 match R.step call (.aU [.bool true,k,v]) {st with low:=st.H.length}with
 |some b4=>match R.more.ae b4.aG b4.av with
  | .bool true=>
    if dP (bk b4.av R.it) (bk st.av R.it)=true then
     match cQ call R.t2 (({b4 with aG:=[]}:aq).put (some R.pair) (.aU [k,v])) []with
     |some (fU,_)=>match exec call n R.body {fU with aG:=[]}with
      |some (.normal,lr)=>some lr
      |some (.exit id,lr)=>if id=R.fN then some lr else none
      | _=>none
     |none=>none
    else none
  | _=>none
 |none=>none
def fc.fin (R:fc)(call:cU)(st:aq):Option aq:=
 match R.step call (.aU [.bool false]) {st with low:=st.H.length}with
 |some b4=>match R.more.ae b4.aG b4.av with
  | .bool false=>some b4
  | _=>none
 |none=>none
def h8 (it:Nat)(st:aq):aq:={st with aG:=[],av:=ec st.av it (.ptr st.H.length 0),H:=st.H++[.gone]}
section
variable{vars:List Nat}{N:Nat}{call:cU}{n:Nat}
theorem AW{id:Nat}{ops:Array Oper}{gQ:Oper}{os:List Oper}{d0:Nat}{bz:List bO}{b4 aF:aq}{wr:List Bool}{a:Act}{x:Value}{aH:World}{ay:bX}{Q:Exit->Act->World->Prop}{ro:Option Nat}
  (bu:eZ C fid) (a6:gH C fid call) (mJ:ops.toList=gQ::os) (hd:gQ.dst=some d0) (bj:gQ.guard=none) (hnd:∀c,gQ.op≠ .defer c) (hm:dH (C.oper vars N ops) os=some bz)
  (cr:(execOp a.eval gQ).run C.P w=.ok (.value x) aH) (gO:dy C fid vars N ay b4 (a.put (some d0) x) aH) (he:cQ call bz b4 []=some (aF,wr))
  (dz:∀G' a7 w',dy C fid vars N G' aF a7 w'->(∀m,m<=aF.low->Ext ay aH G' w' m b4.H.length)->a7.defers=a.defers->Q .normal a7 w'):
  (Code.region id ops false).wpIn (en ro) 0 C.P Q a w:=by
 obtain⟨S,aR,h0,hn,-,hs⟩:=uN _ _ _ _ _ he;have hlen:bz.length=os.length:=uF _ hm;have dJ:ops.size=os.length+1:=by rw[<-hB,mJ];rfl
 have key:∀k j,j+k=os.length->∀bl ai bG,dy C fid vars N bl (S j) ai bG->(∀m,m<=(S j).low->Ext ay aH bl bG m b4.H.length)->ai.defers=a.defers->b4.H.length<=(S j).H.length->
   wpOpsIn (en ro) 0 C.P ops Q (List.range' (j+1) k) ai bG:=by
  intro k
  induction k with
  |zero=>
   intro j hj bl ai bG bA b9 eD _;have e:j=bz.length:=by omega
   subst e;rw[hn]at bA b9;exact dz bl ai bG bA b9 eD
  |succ k ih=>
   intro j hj bl ai bG bA b9 eD gx;have mF:j<os.length:=by omega
   have kx:os[j]? =some os[j]:=by simp[mF]
   have ho:ops[j+1]? =some os[j]:=by rw[<-auF,mJ];simp[mF]
   have C3:j<bz.length:=by omega
   have fK:bz[j]? =some bz[j]:=by simp[C3]
   have bx:s7 C vars N ops os[j] bz[j]:=AB (uG _ hm kx fK);have cd:=hs j _ fK;rw[ub,wpOpsIn_cons];have er:=cd.bM a6.bM;refine ye (T:=fun _=>True) bu a6 ho bx cd bA.rel (fun _=>.inl rfl) bA.low (fun t _=>bA.env t) (fun x _=>by cases x<;>trivial) (fun _ _ _ _ _=>trivial) bA.size ?_;intro x fr ji p1 p2 p3
   have yh:aZ C fid ji (S (j+1)).H fr:=by
    cases ab:aR j with
    |true=>rw[ab]at p1;exact p1
    |false=>rw[ab]at p1;rw[cd.still a6.bM ab];exact p1
   have nB:=p2 0 (cx _)
   refine ih (j+1) (by omega) ji _ fr ⟨yh,fun t=> ?_,by rw[wG];exact bA.size,er.bound bA.low⟩ (fun m hm=>(b9 m (cV hm er.1.low)).trans ((p2 m hm).le (aK _) gx)) (by rw[put_defers];exact eD)
    (cV gx er.1.len)
   refine yg (fun d hd=>by rw[bA.size];exact bx.lt d hd) (fun h=>p3 t h) (fun h=> ?_);rw[cd.look bx h];exact(bA.env t).ext bA.rel nB
 refine wpIn_region ?_;rw[dJ,FH,ub,wpOpsIn_cons];have aeY:ops[0]? =some gQ:=by rw[<-auF,mJ];rfl
 refine GZ aeY bj hnd cr ?_;rw[hd];rw[<-h0]at gO;exact key os.length 0 (by omega) ay _ aH gO (fun m _=>.refl _ _ _ _) (put_defers _ _ _) (by rw[h0];exact aK _)
theorem Me{k0 r:Nat}{ops:Array Oper}{os:List Oper}{bz:List bO}{b4 aF:aq}{wr:List Bool}{a:Act}{aH:World}{ay:bX}{Q:Exit->Act->World->Prop}{ro:Option Nat}
  (bu:eZ C fid) (a6:gH C fid call) (uY:∀j,j<os.length->ops[k0+j]? =os[j]?) (hm:dH (C.oper vars N ops) os=some bz)
  (gO:dy C fid vars N ay b4 a aH) (he:cQ call bz b4 []=some (aF,wr))
  (dz:∀G' a7 w',dy C fid vars N G' aF a7 w'->(∀m,m<=aF.low->Ext ay aH G' w' m b4.H.length)->a7.defers=a.defers->wpOpsIn (en ro) 0 C.P ops Q (List.range' (k0+os.length) r) a7 w'):
  wpOpsIn (en ro) 0 C.P ops Q (List.range' k0 (os.length+r)) a aH:=by
 obtain⟨S,aR,h0,hn,-,hs⟩:=uN _ _ _ _ _ he;have hlen:bz.length=os.length:=uF _ hm
 have key:∀k j,j+k=os.length->∀bl ai bG,dy C fid vars N bl (S j) ai bG->(∀m,m<=(S j).low->Ext ay aH bl bG m b4.H.length)->ai.defers=a.defers->b4.H.length<=(S j).H.length->
   wpOpsIn (en ro) 0 C.P ops Q (List.range' (k0+j) (k+r)) ai bG:=by
  intro k
  induction k with
  |zero=>
   intro j hj bl ai bG bA b9 eD _;have e:j=bz.length:=by omega
   subst e;rw[hn]at bA b9;rw[hlen,eO];exact dz bl ai bG bA b9 eD
  |succ k ih=>
   intro j hj bl ai bG bA b9 eD gx;have mF:j<os.length:=by omega
   have kx:os[j]? =some os[j]:=by simp[mF]
   have ho:ops[k0+j]? =some os[j]:=(uY j mF).trans kx;have C3:j<bz.length:=by omega
   have fK:bz[j]? =some bz[j]:=by simp[C3]
   have bx:s7 C vars N ops os[j] bz[j]:=AB (uG _ hm kx fK);have cd:=hs j _ fK;rw[show k+1+r=(k+r)+1 by omega,ub,wpOpsIn_cons];have er:=cd.bM a6.bM;refine ye (T:=fun _=>True) bu a6 ho bx cd bA.rel (fun _=>.inl rfl) bA.low (fun t _=>bA.env t) (fun x _=>by cases x<;>trivial) (fun _ _ _ _ _=>trivial) bA.size ?_;intro x fr ji p1 p2 p3
   have yh:aZ C fid ji (S (j+1)).H fr:=by
    cases ab:aR j with
    |true=>rw[ab]at p1;exact p1
    |false=>rw[ab]at p1;rw[cd.still a6.bM ab];exact p1
   have nB:=p2 0 (cx _)
   refine ih (j+1) (by omega) ji _ fr ⟨yh,fun t=> ?_,by rw[wG];exact bA.size,er.bound bA.low⟩ (fun m hm=>(b9 m (cV hm er.1.low)).trans ((p2 m hm).le (aK _) gx)) (by rw[put_defers];exact eD)
    (cV gx er.1.len)
   refine yg (fun d hd=>by rw[bA.size];exact bx.lt d hd) (fun h=>p3 t h) (fun h=> ?_);rw[cd.look bx h];exact(bA.env t).ext bA.rel nB
 rw[<-h0]at gO;exact key os.length 0 (by omega) ay _ aH gO (fun m _=>.refl _ _ _ _) rfl (by rw[h0];exact aK _)
theorem wO{m k:Nat}(h:Ext G w G' w' m k)(U:aZ C fid G H w){l:Nat}{h0:Home}(hb:G.β l=some h0)(hl:l<m):w'.heap[h0.b]? =w.heap[h0.b]? :=
 h.dQ h0.b (U.blk l h0 hb) fun l' h' af e2=>.inr (by have:=U.inj l' l h' h0 af hb e2;omega)
theorem wP{m k:Nat}(h:Ext G w G' w' m k){l:Nat}{h0:Home}(hb:G.β l=some h0)(ht:h0.tag=0):∃h',G'.β l=some h'/\h'.b=h0.b:=by
 obtain⟨h',e,-,z,aeZ,-⟩:=h.homes l h0 hb;exact⟨h',e,(aeZ ((z ht).trans ht.symm)).1⟩
theorem G0 (U:aZ C fid G H w){l:Nat}{h:Home}(hb:G.β l=some h)(hl:H[l]? =some .gone):h.tag=0/\h.dt=false:=by
 obtain⟨o,ho,hr⟩:=U.obj l h hb;rw[hl]at ho;cases ho;exact hr
theorem yq (U:aZ C fid G H w){l:Nat}{h:Home}(hb:G.β l=some h){bb:List (V × V)}(hl:H[l]? =some (.map bb)):h.tag=0/\h.dt=false/\∃es bE,w.heap[h.b]? =some (.map es bE)/\
  aY fid G w (bb.map (·.1)) (es.toList.map (·.key))/\aY fid G w (bb.map (·.2)) (es.toList.map (·.val))/\n0 es bE:=by
 obtain⟨o,ho,hr⟩:=U.obj l h hb;rw[hl]at ho;cases ho;exact hr
theorem G1{H:Heap}{l:Nat}{o:cc}(h:H[l]? =some o):H.set l o=H:=by
 apply wg;intro i;by_cases e:l=i
 ·subst e
  have hl:l<H.length:=by
   rcases fX l H.length with q|q
   ·exact q
   ·rw[lb q]at h;cases h
  rw[nU hl,h]
 ·rw[gm e]
def l8 (es:Array MapEntry)(d:List Nat):Array Nat:=(d.map fun i=>((es[i]?).map (·.born)).getD 0).toArray
theorem Mf (es:Array MapEntry)(d:List Nat){i:Nat}{e:MapEntry}(h:es[i]? =some e):l8 es (d++[i])=(l8 es d).push e.born:=by
 unfold l8;rw[nW,eo,mT,h];simp
structure td (C:Ctx) (fid:Nat->Nat) (vars:List Nat) (N base li l r j7 bE:Nat) (es:Array MapEntry) (bb:List (V × V)) (st:aq) (G:bX) (w:World) (d:List Nat) (s:aq) (ay:bX) (ai:Act) (aH:World):Prop where
 rel:dy C fid vars N ay s ai aH
 bM:gb st {s with low:=min st.low li}
 len:li<s.H.length
 ext:∀m,m<=min st.low li->Ext G w ay aH m st.H.length
 marks:kF C ay aH base ai.defers
 hi:∃h,ay.β li=some h/\h.b=r
 hm:∃h,ay.β l=some h/\h.b=j7
 gone:s.H[li]? =some .gone
 mp:s.H[l]? =some (.map bb)
 iter:aH.heap[r]? =some (.mapIter (some j7) bE (l8 es d) bE)
 map:aH.heap[j7]? =some (.map es bE)
theorem td.on{base li l r j7 bE:Nat}{es:Array MapEntry}{bb:List (V × V)}{st:aq}{d:List Nat}{s al:aq}{ay bl:bX}{ai a2:Act}{aH bG:World}
  (h:td C fid vars N base li l r j7 bE es bb st G w d s ay ai aH) (jl:l<li) (asW:li<=st.H.length) (U:dy C fid vars N bl al a2 bG) (du:∀m,m<=al.low->Ext ay aH bl bG m s.H.length) (jZ:li<al.low) (cZ:Fr s.H s.H.length al.H al.low) (eJ:al.ro=s.ro)
  (hd:kF C bl bG base a2.defers):td C fid vars N base li l r j7 bE es bb st G w d al bl a2 bG:=by
 obtain⟨h1,af,q1⟩:=h.hi;obtain⟨h2,e2,aS⟩:=h.hm;have g1:=G0 h.rel.rel af h.gone;have g2:=yq h.rel.rel e2 h.mp;have o3:=du _ (aK _);have kA:=h.bM.1.len;refine⟨U,⟨⟨cV h.bM.1.len cZ.len,jU _ _,fun x hx=> ?_⟩,eJ.trans h.bM.2⟩,qs h.len cZ.len,fun m hm=> ?_,hd,?_,?_,?_,?_,?_,?_⟩
 ·have dW:x<min st.low li:=hx
  exact(cZ.same x (by omega)).trans (h.bM.1.same x hx)
 ·exact(h.ext m hm).trans ((du m (by omega)).le (aK _) kA)
 ·obtain⟨h',e',q'⟩:=wP o3 af g1.1;exact⟨h',e',q'.trans q1⟩
 ·obtain⟨h',e',q'⟩:=wP o3 e2 g2.1;exact⟨h',e',q'.trans aS⟩
 ·rw[cZ.same li jZ];exact h.gone
 ·rw[cZ.same l (by omega)];exact h.mp
 ·have:=wO o3 h.rel.rel af jZ
  rw[q1]at this;rw[this];exact h.iter
 ·have:=wO o3 h.rel.rel e2 (by omega)
  rw[aS]at this;rw[this];exact h.map
theorem dy.reset{st:aq}{a:Act}(h:dy C fid vars N G st a w):dy C fid vars N G {st with aG:=[],low:=st.H.length} a w:=
 ⟨h.rel,h.clear.env,h.size,aK _⟩
theorem ae0{es:Array MapEntry}{d:List Nat}(hn:(es.toList.map (·.born)).Nodup)(aX:∀i∈d,i<es.size)(h:(leftOf es (l8 es d)).size=0):∀i,i<es.size->i∈d:=by
 intro i hi;have h0:leftOf es (l8 es d)= #[]:=aaY h;unfold leftOf at h0;rw[aa1]at h0;have h1:=h0 es[i] (by simp);simp only[nV,Km]at h1;rw[aa6]at h1;unfold l8 at h1;simp only[List.mem_toArray,ey]at h1;obtain⟨j,hj,hb⟩:=h1;have mF:=aX j hj;simp only[Array.getElem?_eq_getElem mF,pq,sO]at hb
 have:j=i:=by
  have Tz:j<(es.toList.map (·.born)).length:=by simpa using mF
  have TA:i<(es.toList.map (·.born)).length:=by simpa using hi
  have hp:=QD.1 hn;rcases Nat.lt_trichotomy j i with q|q|q
  ·exact absurd (by simpa using hb) (hp j i Tz TA q)
  ·exact q
  ·exact absurd (by simpa using hb.symm) (hp i j TA Tz q)
 rw[<-this];exact hj
theorem ae1{es:Array MapEntry}{d:List Nat}{e:MapEntry}(he:e∈(leftOf es (l8 es d)).toList):∃i,es[i]? =some e/\i∉d/\(leftOf es (l8 es (d++[i]))).size<(leftOf es (l8 es d)).size:=by
 have he':e∈es.toList/\(l8 es d).contains e.born=false:=by
  unfold leftOf at he;simpa using he
 obtain⟨i,hi⟩:=ns.1 he'.1;rw[auF]at hi;refine⟨i,hi,fun hid=> ?_,?_⟩
 ·have:(l8 es d).contains e.born=true:=by
   rw[aa6];unfold l8;simp only[List.mem_toArray,ey];exact⟨i,hid,by rw[hi];rfl⟩
  rw[this]at he';cases he'.2
 ·rw[Mf es d hi]
  unfold leftOf;have key:∀p:MapEntry->Bool,(es.filter p).size=(es.toList.filter p).length:=fun p=>by rw[<-hB,Array.toList_filter]
  rw[key,key];refine filter_lt _ _ (fun x hx=> ?_) e ?_ ?_ _ he'.1
  ·simp only[Array.contains_push,nV,B9]at hx⊢
   simp at hx⊢;exact hx.1
  ·rw[he'.2];rfl
  ·simp
theorem ae2 (cD:C.P.follows .mixedOrders=true)(bu:eZ C fid)(a6:gH C fid call){k0 i1 i2:Nat}{gQ on jm:Oper}{j8 j9 jn:Array Oper}{nE nF:List Oper}
  {mt it aB more pair out fN:Nat} {tm qR qS:TypeId} {body:Code} {R:fc}
  (h0:j8[k0]? =some gQ) (uZ:C.b3 vars (.tmp mt)=some R.src) (rZ:gQ.op=.range tm (.tmp mt)) (u0:gQ.dst=some it) (u1:gQ.guard=none) (hit:it<N) (u2:C.P.underlying tm=some (.map qR qS))
  (h1:j9.toList=on::nE) (pN:on.op=.next (.tmp it) false) (hnd:on.dst=some aB) (r0:on.guard=none) (mG:aB<N)
  (h2:jn.toList=jm::nF) (r1:jm.op=.entry (.tmp it)) (u3:jm.dst=some pair) (u4:jm.guard=none) (u5:pair<N)
  (pO:vars.contains it=true) (r2:R.aB=(aB,vars.contains aB)) (u6:R.pair=(pair,vars.contains pair))
  (pG:dH (C.oper vars N j9) nE=some R.t1) (n3:dH (C.oper vars N jn) nF=some R.t2) (r3:C.b3 vars (.tmp more)=some R.more) (wQ:C.code vars N body=some R.body) (Mg:R.fN=fN) (Df:R.it=it)
  {st:aq} {l:Nat} {bb:List (V × V)} (oh:R.src.ae st.aG st.av=.map l) (nG:st.H[l]? =some (.map bb)) (Inv:List Nat->aq->Prop) (Out:aq->Prop)
  (u7:Inv [] (h8 it st)) (r4:∀d s,Inv d s->bk s.av it=.ptr st.H.length 0)
  (o4:∀d s,Inv d s->∀i kv,i∉d->bb[i]? =some kv->∃al,R.round call n kv.1 kv.2 s=some al/\st.H.length<al.low/\Inv (d++[i]) al)
  (iF:∀d s,Inv d s->d.Nodup->(∀i,i∈d↔i<bb.length)->∃al,R.fin call s=some al/\st.H.length<al.low/\Out al)
  {a:Act} {ro:Option Nat} {base:Nat} {Q Mh:Exit->Act->World->Prop} (U:dy C fid vars N G st a w) (eJ:uU G st.ro ro) (eE:kF C G w base a.defers) (hb:base<=w.heap.size)
  (dz:∀al G' a7 w',Out al->gb st {al with low:=min st.low st.H.length}->Fin C fid vars N base st G w {al with low:=min st.low st.H.length} G' a7 w'->Q .normal a7 w'):
  wpOpIn (en ro) 0 C.P j8 Mh k0 (fun a7 w'=>(Code.block out (.loop (.seq (.region i1 j9 false) (.seq (.cond (.tmp more) .skip (.exit out)) (.block fN (.seq (.region i2 jn false) body)))))).wpIn (en ro) 0 C.P Q a7 w') a w:=by
 have lX:=rX bu U (.tmp mt) R.src uZ;rw[oh]at lX;obtain⟨e0,u9,Mi,Mj⟩:=lX.mapInv;obtain⟨-,-,es,bE,fa,ef,cS,cd⟩:=yq U.rel u9 nG;have jl:l<st.H.length:=U.rel.lt u9
 have CP:(execOp a.eval gQ).run C.P w=.ok (.value (.pointer (some ⟨w.heap.size,0,none⟩))) (w.alloc (.mapIter (some e0.b) bE #[] bE)):=by
  unfold execOp;rw[rZ];have e:a.eval (.tmp mt)=.map (some e0.b):=Mj;simp only[e,Sem.run_bind,run_range_map w tm qR qS e0.b es bE u2 fa,Result.andThen_ok,Sem.run_pure]
 have Mk:bb.length=es.size:=by
  have:=ef.length;simpa using this.symm
 have Ml:=U.rel.push .gone (.mapIter (some e0.b) bE #[] bE) 0 0 ⟨rfl,rfl⟩;have qQ:∀m k,k<=st.H.length->Ext G w ⟨ck G.β st.H.length ⟨w.heap.size,0,0,false⟩,G.I⟩ (w.alloc (.mapIter (some e0.b) bE #[] bE)) m k:=fun m k cW=>(Ext.push U.rel (.mapIter (some e0.b) bE #[] bE) 0 0 m).le (aK _) cW
 have Mm:dy C fid vars N ⟨ck G.β st.H.length ⟨w.heap.size,0,0,false⟩,G.I⟩ {st with H:=st.H++[.gone]} a (w.alloc (.mapIter (some e0.b) bE #[] bE)):=
  ⟨Ml,fun t=>(U.env t).ext U.rel (qQ 0 0 (cx _)),U.size,by have:=U.low;simp only[gM,ev,ja];omega⟩
 have oZ:dy C fid vars N ⟨ck G.β st.H.length ⟨w.heap.size,0,0,false⟩,G.I⟩ (h8 it st) (a.put (some it) (.pointer (some ⟨w.heap.size,0,none⟩))) (w.alloc (.mapIter (some e0.b) bE #[] bE)):=by
  have:=Mm.put hit (v:=.ptr st.H.length 0) (x:=.pointer (some ⟨w.heap.size,0,none⟩)) (.ptr st.H.length 0 ⟨w.heap.size,0,0,false⟩ (de _ _ _) rfl);rw[pO]at this;exact this.clear
 suffices Mn:∀G' a7 w',dy C fid vars N G' (h8 it st) a7 w'->(∀m,m<=(h8 it st).H.length->Ext ⟨ck G.β st.H.length ⟨w.heap.size,0,0,false⟩,G.I⟩ (w.alloc (.mapIter (some e0.b) bE #[] bE)) G' w' m (h8 it st).H.length)->
   a7.defers=a.defers->(Code.block out (.loop (.seq (.region i1 j9 false) (.seq (.cond (.tmp more) .skip (.exit out)) (.block fN (.seq (.region i2 jn false) body)))))).wpIn (en ro) 0 C.P Q a7 w' by
  refine GZ h0 u1 (by rw[rZ];simp) CP ?_;rw[u0];exact Mn _ _ _ oZ (fun m _=>.refl _ _ _ _) (by rw[put_defers])
 intro G' a7 w' bA b9 eD
 refine wpIn_block (GN (fun k ai aH=>∃d s ay,Inv d s/\d.Nodup/\(∀i∈d,i<bb.length)/\(leftOf es (l8 es d)).size<k/\td C fid vars N base st.H.length l w.heap.size e0.b bE es bb st G w d s ay ai aH) ?_
  (j:=(leftOf es (l8 es [])).size+1) ?_)
 ·rintro k ai aH ⟨d,s,ay,aW,TB,kW,cW,bq⟩
  obtain⟨bp,rfl⟩:∃bp,k=bp+1:=⟨k-1,by omega⟩;refine⟨bp,rfl,?_⟩;obtain⟨ar,bT,b1⟩:=bq.hi;obtain⟨aQ,cF,cL⟩:=bq.hm
  have Dg:ai.eval (.tmp it)=.pointer (some ⟨w.heap.size,0,none⟩):=by
   have:=bq.rel.env it;rw[show dC vars s it=bk s.av it by unfold dC;rw[if_pos pO],r4 d s aW]at this;obtain⟨h5,ej,-,fl⟩:=this.n4;rw[bT]at ej;cases ej;rw[b1]at fl;exact fl
  have te:∀c,on.op≠ .defer c:=by rw[pN];simp
  have Az:∀c,jm.op≠ .defer c:=by rw[r1];simp
  rcases Tx (P:=C.P) on.type bq.iter bq.map cd.1 (aK _)with⟨dJ,cr⟩|⟨e,he,bG,yr,Mo,Mp,cr⟩
  ·
   have eA:=ae0 cd.2 (fun i hi=>by rw[<-Mk];exact kW i hi) dJ;obtain⟨al,ab,jZ,Dh⟩:=iF d s aW TB fun i=>⟨kW i,fun hi=>eA i (by rw[<-Mk];exact hi)⟩;unfold fc.fin fc.step at ab;split at ab
   ·rename_i s1 fJ
    split at fJ
    ·rename_i jo wr hex
     cases fJ;split at ab
     ·rename_i r5
      cases ab
      have ys:(execOp ai.eval on).run C.P aH=.ok (.value (.tuple #[.bool false])) aH:=by
       unfold execOp;rw[pN];simp only[Dg,Sem.run_bind,cr,Result.andThen_ok,Sem.run_pure]
      have uV:dy C fid vars N ay (({s with aG:=[],low:=s.H.length}:aq).put (some R.aB) (.aU [.bool false])) (ai.put (some aB) (.tuple #[.bool false])) aH:=by
       rw[r2];exact bq.rel.reset.put mG (.aU _ _ (.cons _ _ _ _ (.p _ _ (.bool false)) .nil))
      refine wpIn_seq (AW bu a6 h1 hnd r0 te pG ys uV hex fun bl a2 fr gx iR rY=> ?_);have fL:=j5 ({s with aG:=[],low:=s.H.length}:aq) (some R.aB) (.aU [.bool false]);have cZ:=oa a6.bM _ _ _ _ _ (by rw[fL.1,fL.2.1];exact aK _) hex
      have dY:td C fid vars N base st.H.length l w.heap.size e0.b bE es bb st G w d {jo with aG:=[]} bl a2 fr:=by
       refine bq.on jl (aK _) gx.clear (fun m hm=> ?_) jZ ?_ ?_ ?_
       ·have:=iR m hm
        rw[fL.1]at this;exact this
       ·have:=cZ.1
        rw[fL.1,fL.2.1]at this;exact this
       ·exact cZ.2.trans fL.2.2
       ·have:=bq.marks.ext (iR 0 (cx _))
        rw[rY];exact this
      have ad:=rX bu dY.rel (.tmp more) R.more r3;rw[r5]at ad;refine wpIn_seq (wpIn_cond_false ad.kz (wpIn_exit ?_));show(if out=out then Q .normal a2 fr else _);rw[if_pos rfl];exact dz _ bl a2 fr Dh dY.bM ⟨⟨dY.rel.rel,dY.rel.env,dY.rel.size,cV (qt _ _) (xI dY.len)⟩,dY.ext,dY.marks⟩
     ·cases ab
    ·cases fJ
   ·cases ab
  ·
   obtain⟨i,hi,hid,qT⟩:=ae1 he
   have qU:i<es.size:=by
    rcases fX i es.size with q|q
    ·exact q
    ·rw[FG q]at hi;cases hi
   obtain⟨ae3,ae4,bD,rP,Di,wE,x8,-⟩:=yq bq.rel.rel cF bq.mp;rw[cL,bq.map]at Di;cases Di;obtain⟨Mq,wM⟩:=G0 bq.rel.rel bT bq.gone;obtain⟨kv,lv⟩:∃kv,bb[i]? =some kv:=⟨bb[i]'(by omega),by simp⟩
   have Mr:a8 fid ay aH kv.1 e.key:=by
    obtain⟨x,hx,hr⟩:=wE.get (i:=i) (v:=kv.1) (by rw[jy,lv];rfl);rw[jy,auF,hi]at hx;cases hx;exact hr
   have l9:a8 fid ay aH kv.2 e.val:=by
    obtain⟨x,hx,hr⟩:=x8.get (i:=i) (v:=kv.2) (by rw[jy,lv];rfl);rw[jy,auF,hi]at hx;cases hx;exact hr
   obtain⟨al,ab,jZ,yt⟩:=o4 d s aW i kv hid lv;have hT:=turn bq.rel.rel bT wM (.mapIter (some e0.b) bE ((l8 es d).push e.born) bE) .gone fun _ _ _=>⟨Mq,wM⟩;rw[G1 bq.gone]at hT;have va:bG.heap=(aH.putObj ar.b (.mapIter (some e0.b) bE ((l8 es d).push e.born) bE)).heap:=by rw[yr,b1];rfl
   have yu:aZ C fid ay s.H bG:=hT.1.lU va;have yv:∀m,m<=st.H.length->Ext ay aH ay bG m s.H.length:=fun m hm=>(hT.2.le hm (aK _)).trans (.lU va Mo Mp _ _)
   have Ms:bG.heap[w.heap.size]? =some (.mapIter (some e0.b) bE ((l8 es d).push e.born) bE):=by
    rw[va,<-b1];exact World.putObj_heap_same (bq.rel.rel.blk _ _ bT)
   have rN:bG.heap[e0.b]? =some (.map es bE):=by
    rw[va,World.putObj_heap_other (fun q=> ?_)]
    ·exact bq.map
    ·have:=bq.rel.rel.inj _ _ _ _ bT cF (by rw[cL,<-q]);omega
   have Dj:dy C fid vars N ay s ai bG:=⟨yu,fun t=>(bq.rel.env t).ext bq.rel.rel (yv 0 (cx _)),bq.rel.size,bq.rel.low⟩;have yw:=yv 0 (cx _)
   have Dk:td C fid vars N base st.H.length l w.heap.size e0.b bE es bb st G w (d++[i]) s ay ai bG:=
    ⟨Dj,bq.bM,bq.len,fun m hm=>(bq.ext m hm).trans ((yv m (by omega)).le (aK _) bq.bM.1.len),bq.marks.ext yw,bq.hi,bq.hm,bq.gone,bq.mp,by rw[Mf es d hi];exact Ms,rN⟩
   have Dl:=Mr.ext bq.rel.rel yw;have Dm:=l9.ext bq.rel.rel yw;unfold fc.round fc.step at ab;split at ab
   case h_2=>cases ab
   rename_i s1 fJ;split at fJ
   case h_2=>cases fJ
   rename_i jo wr hex;cases fJ;split at ab
   case h_2=>cases ab
   rename_i r5;split at ab
   case isFalse=>cases ab
   rename_i Mt
   have Mu:bk jo.av it=.ptr st.H.length 0:=by
    have:=uO _ _ Mt;rw[Df]at this;exact this.trans (r4 d s aW)
   split at ab
   case h_2=>cases ab
   rename_i s2 Mv Dn
   have ys:(execOp ai.eval on).run C.P aH=.ok (.value (.tuple #[.bool true,e.key,e.val])) bG:=by
    unfold execOp;rw[pN];simp only[Dg,Sem.run_bind,cr,Result.andThen_ok,Sem.run_pure]
   have uV:dy C fid vars N ay (({s with aG:=[],low:=s.H.length}:aq).put (some R.aB) (.aU [.bool true,kv.1,kv.2])) (ai.put (some aB) (.tuple #[.bool true,e.key,e.val])) bG:=by
    rw[r2];exact Dj.reset.put mG (.aU _ _ (.cons _ _ _ _ (.p _ _ (.bool true)) (.cons _ _ _ _ Dl (.cons _ _ _ _ Dm .nil))))
   have fL:=j5 ({s with aG:=[],low:=s.H.length}:aq) (some R.aB) (.aU [.bool true,kv.1,kv.2]);have cZ:=oa a6.bM _ _ _ _ _ (by rw[fL.1,fL.2.1];exact aK _) hex;have ma:=j5 ({jo with aG:=[]}:aq) (some R.pair) (.aU [kv.1,kv.2]);have qN:jo.low<=jo.H.length:=cZ.bound (by rw[fL.1,fL.2.1];exact aK _);have vb:=oa a6.bM _ _ _ _ _ (by rw[ma.1,ma.2.1];exact qN) Dn;have yf:s2.low<=s2.H.length:=vb.bound (by rw[ma.1,ma.2.1];exact qN)
   obtain⟨gR,dL,G2,ae5,ae6⟩:∃gR dL,exec call n R.body {s2 with aG:=[]}=some (gR,dL)/\(gR=.normal\/gR=.exit fN)/\dL=al:=by
    split at ab
    ·rename_i dL ym;cases ab;exact⟨_,_,ym,.inl rfl,rfl⟩
    ·rename_i id dL ym
     split at ab
     ·rename_i ae7;cases ab;exact⟨_,_,ym,.inr (by rw[ae7,Mg]),rfl⟩
     ·cases ab
    ·cases ab
   subst ae6;have r6:=l4 a6.bM n _ _ _ _ (show({s2 with aG:=[]}:aq).low<=({s2 with aG:=[]}:aq).H.length from yf) G2;have ae8:dL.low<=s2.low:=r6.1.low;have ae9:s2.low<=jo.low:=by have:=vb.1.low;rw[ma.2.1]at this;exact this
   refine wpIn_seq (AW bu a6 h1 hnd r0 te pG ys uV hex fun bl a2 fr gx iR rY=> ?_)
   have dY:td C fid vars N base st.H.length l w.heap.size e0.b bE es bb st G w (d++[i]) {jo with aG:=[]} bl a2 fr:=by
    refine Dk.on jl (aK _) gx.clear (fun m hm=> ?_) (by show st.H.length<jo.low;omega) ?_ ?_ ?_
    ·have:=iR m hm
     rw[fL.1]at this;exact this
    ·have:=cZ.1
     rw[fL.1,fL.2.1]at this;exact this
    ·exact cZ.2.trans fL.2.2
    ·have:=Dk.marks.ext (iR 0 (cx _))
     rw[rY];exact this
   have ad:=rX bu dY.rel (.tmp more) R.more r3;rw[r5]at ad;refine wpIn_seq (wpIn_cond_true ad.kz (wpIn_skip ?_));show(Code.block fN (.seq (.region i2 jn false) body)).wpIn (en ro) 0 C.P _ a2 fr;refine wpIn_block (wpIn_seq ?_)
   have Mw:a2.eval (.tmp it)=.pointer (some ⟨w.heap.size,0,none⟩):=by
    have:=dY.rel.env it;rw[show dC vars {jo with aG:=[]} it=bk jo.av it by unfold dC;rw[if_pos pO],Mu]at this;obtain⟨h5,ej,-,fl⟩:=this.n4;obtain⟨ft,j2,gz⟩:=dY.hi;rw[j2]at ej;cases ej;rw[gz]at fl;exact fl
   have Mx:(execOp a2.eval jm).run C.P fr=.ok (.value (.tuple #[e.key,e.val])) fr:=by
    have TC:=dY.iter;rw[Mf es d hi]at TC;have C5:=Ty (P:=C.P) TC dY.map (by rw[<-auF]at hi;exact hz hi) cd.2;unfold execOp;rw[r1];simp only[Mw,Sem.run_bind,C5,Result.andThen_ok,Sem.run_pure]
   have Dp:=iR 0 (cx _)
   have My:dy C fid vars N bl (({jo with aG:=[]}:aq).put (some R.pair) (.aU [kv.1,kv.2])) (a2.put (some pair) (.tuple #[e.key,e.val])) fr:=by
    rw[u6];exact dY.rel.put u5 (.aU _ _ (.cons _ _ _ _ (Dl.ext yu Dp) (.cons _ _ _ _ (Dm.ext yu Dp) .nil)))
   refine AW bu a6 h2 u3 u4 Az n3 Mx My Dn fun ji a3 AX yn uX C8=> ?_
   have mb:td C fid vars N base st.H.length l w.heap.size e0.b bE es bb st G w (d++[i]) {s2 with aG:=[]} ji a3 AX:=by
    refine dY.on jl (aK _) yn.clear (fun m hm=> ?_) (by show st.H.length<s2.low;omega) ?_ ?_ ?_
    ·have:=uX m hm
     rw[ma.1]at this;exact this
    ·have:=vb.1
     rw[ma.1,ma.2.1]at this;exact⟨this.len,cV this.low qN,this.same⟩
    ·exact vb.2.trans ma.2.2
    ·have:=dY.marks.ext (uX 0 (cx _))
     rw[C8];exact this
   show body.wpIn (en ro) 0 C.P _ a3 AX;refine qO (n:=n) cD bu a6 body _ _ _ wQ _ _ _ G2 ji a3 AX ro base _ mb.rel ?_ mb.marks (cV hb (mb.ext 0 (cx _)).size) fun Dq a4 G3 F=> ?_
   ·have kZ:({s2 with aG:=[]}:aq).ro=st.ro:=mb.bM.2
    rw[kZ];exact eJ.ext (mb.ext 0 (cx _))
   have tf:td C fid vars N base st.H.length l w.heap.size e0.b bE es bb st G w (d++[i]) dL Dq a4 G3:=
    mb.on jl (aK _) F.rel F.ext jZ ⟨r6.1.len,cV r6.1.low yf,r6.1.same⟩ r6.2 F.marks
   have wI:∃d s ay,Inv d s/\d.Nodup/\(∀i∈d,i<bb.length)/\(leftOf es (l8 es d)).size<bp/\td C fid vars N base st.H.length l w.heap.size e0.b bE es bb st G w d s ay a4 G3:=by
    refine⟨d++[i],dL,Dq,yt,FM.2 ⟨TB,by simp,fun x hx y hy=> ?_⟩,fun x hx=> ?_,by omega,tf⟩
    ·simp only[dA,sP,or_false]at hy
     subst hy;exact fun q=>hid (q ▸ hx)
    ·rcases jA.1 hx with q|q
     ·exact kW x q
     ·simp only[dA,sP,or_false]at q
      subst q;omega
   rcases ae5 with rfl|rfl
   ·exact wI
   ·show(if fN=fN then _ else _)
    rw[if_pos rfl];exact wI
 ·have gY:(h8 it st).H.length=st.H.length+1:=by unfold h8;simp
  have af:=b9 (st.H.length+1) (by show st.H.length+1<=(h8 it st).H.length;rw[gY];exact aK _);have dI:=qQ 0 st.H.length (aK _)
  have pF:(⟨ck G.β st.H.length ⟨w.heap.size,0,0,false⟩,G.I⟩:bX).β l=some e0:=by
   show ck G.β st.H.length ⟨w.heap.size,0,0,false⟩ l=some e0;rw[dp (by omega)];exact u9
  have x0:(⟨ck G.β st.H.length ⟨w.heap.size,0,0,false⟩,G.I⟩:bX).β st.H.length=some ⟨w.heap.size,0,0,false⟩:=de _ _ _;refine⟨[],h8 it st,G',u7,FR,fun i hi=>(by cases hi),wh _,⟨⟨bA.rel,bA.env,bA.size,?_⟩,⟨⟨?_,jU _ _,fun x hx=> ?_⟩,rfl⟩,?_,fun m hm=> ?_,?_,?_,?_,?_,?_,?_,?_⟩⟩
  ·exact oZ.low
  ·show st.H.length<=(h8 it st).H.length
   omega
  ·have dW:x<min st.low st.H.length:=hx
   show(st.H++[cc.gone])[x]? =_;rw[gE (by omega)]
  ·omega
  ·exact(qQ m st.H.length (aK _)).trans ((b9 m (by show m<=(h8 it st).H.length;omega)).le (aK _) (by show st.H.length<=(h8 it st).H.length;omega))
  ·rw[eD]
   exact(eE.ext dI).ext af
  ·exact wP af x0 rfl
  ·exact wP af pF Mi
  ·show(st.H++[cc.gone])[st.H.length]? =_
   simp
  ·show(st.H++[cc.gone])[l]? =_
   rw[gE jl];exact nG
  ·have:=wO af oZ.rel x0 (wh _)
   rw[this];exact oQ _ _
  ·have:=wO af oZ.rel pF (by omega)
   rw[this,alloc_old (U.rel.blk _ _ u9)];exact fa
theorem afa (cD:C.P.follows .mixedOrders=true)(bu:eZ C fid)(a6:gH C fid call){i0 i1 i2:Nat}{gQ on jm:Oper}{j8 j9 jn:Array Oper}{o5 nE nF:List Oper}
  {mt it aB more pair out fN:Nat} {tm qR qS:TypeId} {body:Code} {R:fc}
  (h0:j8.toList=o5++[gQ]) (oY:dH (C.oper vars N j8) o5=some R.t0) (uZ:C.b3 vars (.tmp mt)=some R.src) (rZ:gQ.op=.range tm (.tmp mt)) (u0:gQ.dst=some it) (u1:gQ.guard=none) (hit:it<N) (u2:C.P.underlying tm=some (.map qR qS))
  (h1:j9.toList=on::nE) (pN:on.op=.next (.tmp it) false) (hnd:on.dst=some aB) (r0:on.guard=none) (mG:aB<N)
  (h2:jn.toList=jm::nF) (r1:jm.op=.entry (.tmp it)) (u3:jm.dst=some pair) (u4:jm.guard=none) (u5:pair<N)
  (pO:vars.contains it=true) (r2:R.aB=(aB,vars.contains aB)) (u6:R.pair=(pair,vars.contains pair))
  (pG:dH (C.oper vars N j9) nE=some R.t1) (n3:dH (C.oper vars N jn) nF=some R.t2) (r3:C.b3 vars (.tmp more)=some R.more) (wQ:C.code vars N body=some R.body) (Mg:R.fN=fN) (Df:R.it=it)
  {iS st:aq} {wr:List Bool} (he:cQ call R.t0 {iS with aG:=[]} []=some (st,wr)) {l:Nat} {bb:List (V × V)} (oh:R.src.ae st.aG st.av=.map l) (nG:st.H[l]? =some (.map bb)) (Inv:List Nat->aq->Prop) (Out:aq->Prop)
  (u7:Inv [] (h8 it st)) (r4:∀d s,Inv d s->bk s.av it=.ptr st.H.length 0)
  (o4:∀d s,Inv d s->∀i kv,i∉d->bb[i]? =some kv->∃al,R.round call n kv.1 kv.2 s=some al/\st.H.length<al.low/\Inv (d++[i]) al)
  (iF:∀d s,Inv d s->d.Nodup->(∀i,i∈d↔i<bb.length)->∃al,R.fin call s=some al/\st.H.length<al.low/\Out al)
  {a:Act} {ro:Option Nat} {base:Nat} {Q:Exit->Act->World->Prop} (U:dy C fid vars N G iS a w) (eJ:uU G iS.ro ro) (eE:kF C G w base a.defers) (hb:base<=w.heap.size)
  (dz:∀al G' a7 w',Out al->gb iS {al with low:=min st.low st.H.length}->Fin C fid vars N base iS G w {al with low:=min st.low st.H.length} G' a7 w'->Q .normal a7 w'):
  (Code.seq (.region i0 j8 false) (.block out (.loop (.seq (.region i1 j9 false) (.seq (.cond (.tmp more) .skip (.exit out)) (.block fN (.seq (.region i2 jn false) body))))))).wpIn (en ro) 0 C.P Q a w:=by
 have cZ:=oa a6.bM _ _ _ _ _ (show({iS with aG:=[]}:aq).low<=({iS with aG:=[]}:aq).H.length from U.low) he;have yx:gb iS st:=cZ;have dJ:j8.size=o5.length+1:=by rw[<-hB,h0];simp
 refine wpIn_seq (wpIn_region ?_);rw[dJ,FH];refine Me bu a6 (k0:=0) (fun j hj=>by rw[eO,<-auF,h0,gE hj]) oY U.clear he fun ay ai aH bA b9 eD=> ?_;have dI:=b9 0 (cx _);have cW:j8[0+o5.length]? =some gQ:=by rw[eO,<-auF,h0];simp
 have Dr:kF C ay aH base ai.defers:=by rw[eD];exact eE.ext dI
 rw[ub,wpOpsIn_cons]
 exact(ae2 (n:=n) cD bu a6 cW uZ rZ u0 u1 hit u2 h1 pN hnd r0 mG h2 r1 u3 u4 u5 pO r2 u6 pG n3 r3 wQ Mg Df oh nG Inv Out u7 r4 o4 iF bA (by rw[yx.2];exact eJ.ext dI) Dr (cV hb dI.size)
  fun al G' a7 w' ho ab F=>dz al G' a7 w' ho (yx.trans ab) ((Fin.trans (st:=iS) (b4:=st) ⟨bA,b9,Dr⟩ F yx ab)))
end
end Go.Abs
namespace Go.Abs
open Go
variable{C:Ctx}{fid:Nat->Nat}{w w':World}{G G':bX}{H H':Heap}
section
variable{vars:List Nat}{N:Nat}{call:cU}{n:Nat}
def c3 (C:Ctx)(fid:Nat->Nat)(vars:List Nat)(N:Nat)(c:Code)(st:aq)(Out:X->aq->Prop):Prop:=
 ∀(G:bX) (a:Act) (w:World) (ro:Option Nat) (base:Nat) (Q:Exit->Act->World->Prop),dy C fid vars N G st a w->uU G st.ro ro->kF C G w base a.defers->base<=w.heap.size->
  (∀x aF G' a7 w',Out x aF->gb st aF->Fin C fid vars N base st G w aF G' a7 w'->Q (AK x) a7 w')->c.wpIn (en ro) 0 C.P Q a w
theorem c3.exec (cD:C.P.follows .mixedOrders=true)(bu:eZ C fid)(a6:gH C fid call){c:Code}{ac:cj}(hc:C.code vars N c=some ac){st aF:aq}{x:X}(he:Abs.exec call n ac st=some (x,aF)):
  c3 C fid vars N c st (fun y s=>y=x/\s=aF):=fun G a w ro base Q U eJ eE hb dz=>
 qO (n:=n) cD bu a6 c _ _ _ hc _ _ _ he G a w ro base Q U eJ eE hb fun G' a7 w' F=>dz x aF G' a7 w' ⟨rfl,rfl⟩ (l4 a6.bM n _ _ _ _ U.low he) F
theorem c3.mono{c:Code}{st:aq}{Out TD:X->aq->Prop}(h:c3 C fid vars N c st Out)(hm:∀x s,Out x s->TD x s):c3 C fid vars N c st TD:=fun G a w ro base Q U eJ eE hb dz=>
 h G a w ro base Q U eJ eE hb fun x s G' a7 w' ho=>dz x s G' a7 w' (hm x s ho)
theorem c3.seq{c d:Code}{st:aq}{G4 Out:X->aq->Prop}(h1:c3 C fid vars N c st G4)(h2:∀s,G4 .normal s->c3 C fid vars N d s Out)(ar:∀x s,x≠ .normal->G4 x s->Out x s):
  c3 C fid vars N (.seq c d) st Out:=fun G a w ro base Q U eJ eE hb dz=>by
 refine wpIn_seq (h1 G a w ro base _ U eJ eE hb fun x s ay ai aH ho ab F=> ?_);cases x with
 |normal=>
  refine h2 s ho ay ai aH ro base _ F.rel (by rw[ab.2];exact eJ.ext (F.ext 0 (cx _))) F.marks (cV hb (F.ext 0 (cx _)).size) fun dR s2 bl a2 bG afb yy ta=> ?_;exact dz dR s2 bl a2 bG afb (ab.trans yy) (F.trans ta ab yy)
 |exit id=>exact dz (.exit id) s ay ai aH (ar _ _ (by simp) ho) ab F
 |ret=>exact dz .ret s ay ai aH (ar _ _ (by simp) ho) ab F
structure Mz (C:Ctx) (vars:List Nat) (N:Nat) (c:Code) (R:fc):Prop where
 ok:∃(i0 i1 i2:Nat) (gQ on jm:Oper) (j8 j9 jn:Array Oper) (o5 nE nF:List Oper) (mt aB more pair out:Nat) (tm qR qS:TypeId) (body:Code),
  c=.seq (.region i0 j8 false) (.block out (.loop (.seq (.region i1 j9 false) (.seq (.cond (.tmp more) .skip (.exit out)) (.block R.fN (.seq (.region i2 jn false) body))))))/\
  j8.toList=o5++[gQ]/\dH (C.oper vars N j8) o5=some R.t0/\C.b3 vars (.tmp mt)=some R.src/\gQ.op=.range tm (.tmp mt)/\gQ.dst=some R.it/\gQ.guard=none/\R.it<N/\C.P.underlying tm=some (.map qR qS)/\
  j9.toList=on::nE/\on.op=.next (.tmp R.it) false/\on.dst=some aB/\on.guard=none/\aB<N/\
  jn.toList=jm::nF/\jm.op=.entry (.tmp R.it)/\jm.dst=some pair/\jm.guard=none/\pair<N/\
  vars.contains R.it=true/\R.aB=(aB,vars.contains aB)/\R.pair=(pair,vars.contains pair)/\
  dH (C.oper vars N j9) nE=some R.t1/\dH (C.oper vars N jn) nF=some R.t2/\C.b3 vars (.tmp more)=some R.more/\C.code vars N body=some R.body
theorem c3.range (cD:C.P.follows .mixedOrders=true)(bu:eZ C fid)(a6:gH C fid call){c:Code}{R:fc}(hc:Mz C vars N c R){iS st:aq}{wr:List Bool}(he:cQ call R.t0 {iS with aG:=[]} []=some (st,wr))
  {l:Nat} {bb:List (V × V)} (oh:R.src.ae st.aG st.av=.map l) (nG:st.H[l]? =some (.map bb)) (Inv:List Nat->aq->Prop) (Out:aq->Prop)
  (u7:Inv [] (h8 R.it st)) (r4:∀d s,Inv d s->bk s.av R.it=.ptr st.H.length 0)
  (o4:∀d s,Inv d s->∀i kv,i∉d->bb[i]? =some kv->∃al,R.round call n kv.1 kv.2 s=some al/\st.H.length<al.low/\Inv (d++[i]) al)
  (iF:∀d s,Inv d s->d.Nodup->(∀i,i∈d↔i<bb.length)->∃al,R.fin call s=some al/\st.H.length<al.low/\Out al):
  c3 C fid vars N c iS (fun x s=>x=.normal/\∃al,Out al/\s={al with low:=min st.low st.H.length}):=fun G a w ro base Q U eJ eE hb dz=>by
 obtain⟨i0,i1,i2,gQ,on,jm,j8,j9,jn,o5,nE,nF,mt,aB,more,pair,out,tm,qR,qS,body,rfl,h0,oY,uZ,rZ,u0,u1,hit,u2,h1,pN,hnd,r0,mG,h2,r1,u3,u4,u5,pO,r2,u6,pG,n3,r3,wQ⟩:=hc.ok
 exact afa cD bu a6 h0 oY uZ rZ u0 u1 hit u2 h1 pN hnd r0 mG h2 r1 u3 u4 u5 pO r2 u6 pG n3 r3 wQ rfl rfl he oh nG Inv Out u7 r4 o4 iF U eJ eE hb
  fun al G' a7 w' ho ab F=>dz .normal _ G' a7 w' ⟨rfl,al,ho,rfl⟩ ab F
def yz{α:Type}:List α->Option (List α × α)
 |[]=>none
 |a::l=>match yz l with
  |none=>some ([],a)
  |some (r,b)=>some (a::r,b)
theorem afc{α:Type}:∀{l:List α},yz l=none->l=[]
 |[],_=>rfl
 |a::l,h=>by simp only[yz]at h;split at h<;>cases h
theorem MA{α:Type}:∀{l r:List α} {b:α},yz l=some (r,b)->l=r++[b]
 |[],_,_,h=>by cases h
 |a::l,r,b,h=>by
  simp only[yz]at h;split at h
  ·rename_i hn;cases h;rw[afc hn];rfl
  ·rename_i mU eL hn;cases h;rw[MA hn];rfl
def yA (C:Ctx)(vars:List Nat)(N:Nat):Code->Option fc
 | .seq (.region _ j8 false) (.block out (.loop (.seq (.region _ j9 false) (.seq (.cond (.tmp more) .skip (.exit TE)) (.block fN (.seq (.region _ jn false) body))))))=>
   match yz j8.toList,j9.toList,jn.toList with
   |some (o5,⟨some it,.range tm (.tmp mt),_,_,_,none⟩),⟨some aB,.next (.tmp TF) false,_,_,_,none⟩::nE,⟨some pair,.entry (.tmp TG),_,_,_,none⟩::nF=>
    match C.P.underlying tm,dH (C.oper vars N j8) o5,C.b3 vars (.tmp mt),dH (C.oper vars N j9) nE,dH (C.oper vars N jn) nF,C.b3 vars (.tmp more),C.code vars N body with
    |some (.map _ _),some t0,some src,some t1,some t2,some s5,some b=>
     if TE=out/\TF=it/\TG=it/\it<N/\aB<N/\pair<N/\vars.contains it=true then some ⟨t0,src,it,(aB,vars.contains aB),t1,s5,fN,(pair,vars.contains pair),t2,b⟩else none
    | _,_,_,_,_,_,_=>none
   | _,_,_=>none
 | _=>none
theorem TH{c:Code}{R:fc}(h:yA C vars N c=some R):Mz C vars N c R:=by
 unfold yA at h;split at h
 ·rename_i i0 j8 out i1 j9 more TE fN i2 jn body
  split at h
  ·rename_i o5 it tm mt asX asY asZ aB TF as0 L1 as1 nE pair TG as2 as3 as4 nF dI af e2
   split at h
   ·rename_i qR qS t0 src t1 t2 s5 b ky afd us oR TI MB afe
    split at h
    ·rename_i hc
     obtain⟨rfl,rfl,rfl,h1,h2,ar,aQ⟩:=hc;cases h;exact⟨_,_,_,_,_,_,_,_,_,_,_,_,_,_,_,_,_,_,_,_,_,rfl,MA dI,afd,us,rfl,rfl,rfl,h1,ky,af,rfl,rfl,rfl,h2,e2,rfl,rfl,rfl,ar,aQ,rfl,rfl,oR,TI,MB,afe⟩
    ·cases h
   ·cases h
  ·cases h
 ·cases h
def Ds (d:List Nat)(k:Nat):List Nat:=(List.range k).filter fun i=>!d.contains i
def fc.all (R:fc)(call:cU)(n:Nat)(bb:List (V × V))(li:Nat):Nat->List Nat->aq->Option (List aq)
 |0,_,_=>none
 |f+1,d,s=>
  if dP (bk s.av R.it) (.ptr li 0)=true then
   match Ds d bb.length with
   |[]=>match R.fin call s with
    |some al=>if Nat.blt li al.low=true then some [al]else none
    |none=>none
   |i::is=>(dH (fun i=>match bb[i]? with
     |some kv=>match R.round call n kv.1 kv.2 s with
      |some al=>if Nat.blt li al.low=true then R.all call n bb li f (d++[i]) al else none
      |none=>none
     |none=>none) (i::is)).map List.flatten
  else none
theorem TJ{α β:Type}{f:α->Option β}:∀{l:List α} {aI:List β},dH f l=some aI->∀{a:α},a∈l->∃b∈aI,f a=some b
 |[],_,_,_,h=>by cases h
 |x::l,aI,hm,a,h=>by
  simp only[dH]at hm;split at hm
  ·rename_i b hb
   split at hm
   ·rename_i as5 CJ
    cases hm;rcases dA.1 h with rfl|h
    ·exact⟨b,by simp,hb⟩
    ·obtain⟨eL,h1,h2⟩:=TJ CJ h
     exact⟨eL,by simp[h1],h2⟩
   ·cases hm
  ·cases hm
theorem fc.MC{R:fc}{bb:List (V × V)}{li f:Nat}{d:List Nat}{s:aq}{o:List aq}(h:R.all call n bb li f d s=some o):bk s.av R.it=.ptr li 0:=by
 cases f with
 |zero=>cases h
 |succ f=>
  simp only[fc.all]at h;split at h
  ·rename_i bc;exact uO _ _ bc
  ·cases h
theorem c3.aff (cD:C.P.follows .mixedOrders=true)(bu:eZ C fid)(a6:gH C fid call){c:Code}{R:fc}(hc:Mz C vars N c R){iS st:aq}{wr:List Bool}(he:cQ call R.t0 {iS with aG:=[]} []=some (st,wr)){l:Nat}{bb:List (V × V)}
  (oh:R.src.ae st.aG st.av=.map l) (nG:st.H[l]? =some (.map bb)) {f:Nat} {outs:List aq} (ao:R.all call n bb st.H.length f [] (h8 R.it st)=some outs):
  c3 C fid vars N c iS (fun x s=>x=.normal/\∃al∈outs,s={al with low:=min st.low st.H.length}):=by
 refine c3.range (n:=n) cD bu a6 hc he oh nG (fun d s=>∃f o,R.all call n bb st.H.length f d s=some o/\∀x∈o,x∈outs) (fun s=>s∈outs) ⟨f,outs,ao,fun _ h=>h⟩ (fun d s ⟨f,o,h,_⟩=>fc.MC h) ?_ ?_
 ·rintro d s ⟨f,o,h,hs⟩ i kv hid lv
  have hit:=fc.MC h
  have qU:i<bb.length:=by
   rcases fX i bb.length with q|q
   ·exact q
   ·rw[lb q]at lv;cases lv
  have eB:i∈Ds d bb.length:=by
   unfold Ds;simp[qU,hid]
  cases f with
  |zero=>cases h
  |succ f=>
   simp only[fc.all,hit]at h;split at h
   ·split at h
    ·rename_i hr;rw[hr]at eB;cases eB
    ·rename_i j is hr
     rw[hr]at eB;obtain⟨os,Af,rfl⟩:=ct.1 h;obtain⟨b,hb,yB⟩:=TJ Af eB;rw[lv]at yB;simp only at yB;split at yB
     ·rename_i al gu
      split at yB
      ·rename_i jZ
       refine⟨al,gu,?_,f,b,yB,fun x hx=>hs x (List.mem_flatten.2 ⟨b,hb,hx⟩)⟩;have:=km jZ;omega
      ·cases yB
     ·cases yB
   ·cases h
 ·rintro d s ⟨f,o,h,hs⟩ _ eA
  have hit:=fc.MC h;cases f with
  |zero=>cases h
  |succ f=>
   have hr:Ds d bb.length=[]:=by
    unfold Ds;rw[List.filter_eq_nil_iff];intro i hi;have:=(eA i).2 (Ks.1 hi);simp[this]
   simp only[fc.all,hr]at h;split at h
   case isFalse=>cases h
   cases ab:R.fin call s with
   |none=>rw[ab]at h;cases h
   |some al=>
    rw[ab]at h;simp only at h;split at h
    ·rename_i jZ
     cases h;refine⟨al,rfl,?_,hs _ (by simp)⟩;have:=km jZ;omega
    ·cases h
end
theorem TK (bu:eZ C fid){nD:Nat}{fn:Func}{c:Code}{o2:List mB}{fresh:Bool}(ab:C.P.funcs[nD]? =some fn)(hb:fn.body=some c)(s9:dH C.res fn.results.toList=some o2)
  {args:List V} {v:V} {low':Nat} {xs:List Value} (hlen:args.length<=fn.ntmps)
  (MD:c3 C fid (Ctx.varsOf fn) fn.ntmps c {aG:=[],av:=fQ 0 args,H,low:=H.length} (fun x st=>(x=.normal\/x=.ret)/\∃vs,fy st.av st.H o2=some vs/\finish fresh H (jk vs) st.H st.low=some (v,H',low')))
  (U:aZ C fid G H w) (ad:aY fid G w args xs):Calls C.P nD ⟨xs⟩ w (fun e w'=>∃x,e=.returned x/\ll C fid G H w v H' low' x w'):=by
 have jH:=ad.length
 have iQ:dy C fid (Ctx.varsOf fn) fn.ntmps G {aG:=[],av:=fQ 0 args,H,low:=H.length} {tmps:=(⟨xs⟩:Array Value)++Array.replicate (fn.ntmps-(⟨xs⟩:Array Value).size) undef,defers:=[]} w:=by
  refine⟨U,fun t=> ?_,?_,aK _⟩
  ·unfold dC
   split
   ·rw[Mb]
    simp only[cx,if_true,Nat.sub_zero];cases ao:args[t]? with
    |none=>exact .undef _
    |some u=>
     obtain⟨x,hx,yp⟩:=ad.get ao
     have aX:t<xs.length:=by
      rcases fX t xs.length with h|h
      ·exact h
      ·simp[lb h]at hx
     have:((⟨xs⟩:Array Value)++Array.replicate (fn.ntmps-(⟨xs⟩:Array Value).size) undef).getD t undef=x:=by
      rw[v8,aaZ (by simpa using aX)];simp[hx]
     rw[this];exact yp
   ·exact .undef _
  ·simp only[Cb,Array.size_replicate]
   show xs.length+(fn.ntmps-xs.length)=fn.ntmps;rw[jH];omega
 refine(callsIn_wide (n:=0)).1 (callsIn_of_wp_marks ab hb trivial ?_);refine MD G _ w none w.heap.size _ iQ trivial (.nil _ _ _) (aK _) fun x st G' a7 w' ho er F=> ?_;obtain⟨Md,vs,hr,rT⟩:=ho;obtain⟨rs,Mc,dk,hm,C9⟩:=F.marks
 have oe:LeavesInM Fence.wide 0 C.P fn a7.tmps (fun e w'=>∃x,e=.returned x/\ll C fid G H w v H' low' x w') a7.defers .returning w':=by
  rw[Mc];refine GU (m0:=fun m=>m<=st.low) rs w' dk hm C9 F.rel.rel F.ext (fun _ _ _=>trivial) fun bG cq ee k1=> ?_
  obtain⟨x,hx,yp⟩:=Tq s9 cq (fun t ht=>by
   have:=F.rel.env t;rw[LY (Ts ht)]at this;exact k1 this) hr
  exact⟨x,hx,x,rfl,Tm U cq ee er.1 yp rT⟩
 rcases Md with rfl|rfl
 ·exact oe
 ·exact oe
end Go.Abs
namespace Go.Abs
open Go
variable{C:Ctx}{fid:Nat->Nat}{w w':World}{G G':bX}{H H':Heap}
section
variable{vars:List Nat}{N:Nat}{call:cU}{n:Nat}
theorem c3.pre (cD:C.P.follows .mixedOrders=true)(bu:eZ C fid)(a6:gH C fid call){c d:Code}{ac:cj}(hc:C.code vars N c=some ac){st aF:aq}(he:Abs.exec call n ac st=some (.normal,aF))
  {Out:X->aq->Prop} (h:c3 C fid vars N d aF Out):c3 C fid vars N (.seq c d) st Out:=
 c3.seq (c3.exec cD bu a6 hc he) (fun s hs=>by rw[hs.2];exact h) fun x s hx hs=>absurd hs.1 hx
def ME:List Code->Code->Code
 |[],d=>d
 |c::r,d=>.seq c (ME r d)
def Dt (call:cU)(n:Nat):List cj->aq->Option aq
 |[],st=>some st
 |c::r,st=>match Abs.exec call n c st with
  |some (.normal,s)=>Dt call n r s
  | _=>none
theorem c3.TL (cD:C.P.follows .mixedOrders=true)(bu:eZ C fid)(a6:gH C fid call){d:Code}{Out:X->aq->Prop}:∀{cs:List Code} {G5:List cj},dH (C.code vars N) cs=some G5->∀{st aF:aq},Dt call n G5 st=some aF->
  c3 C fid vars N d aF Out->c3 C fid vars N (ME cs d) st Out
 |[],G5,hm,st,aF,he,h=>by
  simp only[dH,az]at hm;subst hm;simp only[Dt,az]at he;subst he;exact h
 |c::cs,G5,hm,st,aF,he,h=>by
  simp only[dH]at hm;split at hm
  ·rename_i a ao
   split at hm
   ·rename_i aO has
    cases hm;simp only[Dt]at he;split at he
    ·rename_i s hs
     exact c3.pre cD bu a6 ao hs (c3.TL cD bu a6 has he h)
    ·cases he
   ·cases hm
  ·cases hm
end
structure mK where
 pre:List cj
 R:fc
 post:cj
 o2:List mB
def afg:X->Bool
 | .normal| .ret=>true
 | _=>false
def mK.ends (B:mK)(v:V):X × aq->Bool:=fun(x,s)=>afg x&&match fy s.av s.H B.o2 with
 |some vs=>match finish false [] (jk vs) s.H s.low with
  |some (u,H',l)=>dP u v&&H'.isEmpty&&Nat.beq l 0
  |none=>false
 |none=>false
def mK.ok (B:mK)(call:cU)(n:Nat)(args:List V)(v:V):Bool:=
 match Dt call n B.pre {aG:=[],av:=fQ 0 args,H:=[],low:=0}with
 |some iS=>match cQ call B.R.t0 {iS with aG:=[]} []with
  |some (st,_)=>match B.R.src.ae st.aG st.av with
   | .map l=>match st.H[l]? with
     |some (.map bb)=>match B.R.all call n bb st.H.length n [] (h8 B.R.it st)with
      |some outs=>outs.all fun al=>match exec call n B.post {al with low:=min st.low st.H.length}with
       |some p=>B.ends v p
       |none=>false
      |none=>false
     | _=>false
   | _=>false
  |none=>false
 |none=>false
structure G6 (C:Ctx) (fn:Func) (B:mK):Prop where
 ok:∃(cs:List Code) (G7 G8:Code),fn.body=some (ME cs (.seq G7 G8))/\dH (C.code (Ctx.varsOf fn) fn.ntmps) cs=some B.pre/\yA C (Ctx.varsOf fn) fn.ntmps G7=some B.R/\C.code (Ctx.varsOf fn) fn.ntmps G8=some B.post/\
  dH C.res fn.results.toList=some B.o2/\(fn.name== "runtime.NumGoroutine")=false
theorem mK.calls (cD:C.P.follows .mixedOrders=true)(bu:eZ C fid){call:cU}(a6:gH C fid call){n nD:Nat}{fn:Func}{B:mK}(ab:C.P.funcs[nD]? =some fn)(dr:G6 C fn B){args:List V}{v:V}(hlen:args.length<=fn.ntmps)
  (bx:B.ok call n args v=true) {xs:List Value} (U:aZ C fid G [] w) (ad:aY fid G w args xs):Calls C.P nD ⟨xs⟩ w (fun e w'=>∃x,e=.returned x/\ll C fid G [] w v [] 0 x w'):=by
 obtain⟨cs,G7,G8,hb,G9,afh,afi,s9,-⟩:=dr.ok;refine TK bu ab hb s9 (fresh:=false) hlen ?_ U ad;unfold mK.ok at bx;split at bx
 case h_2=>cases bx
 rename_i iS cd;split at bx
 case h_2=>cases bx
 rename_i st wr hex;split at bx
 case h_2=>cases bx
 rename_i l hl;split at bx
 case h_2=>cases bx
 rename_i bb afj;split at bx
 case h_2=>cases bx
 rename_i outs afk;refine c3.TL cD bu a6 G9 cd ?_;refine c3.seq (c3.aff cD bu a6 (TH afh) hex hl afj afk) (fun s hs=> ?_) fun x s hx hs=>absurd hs.1 hx;obtain⟨-,al,yC,rfl⟩:=hs;have h1:=eV.1 bx al yC;split at h1
 case h_2=>cases h1
 rename_i p hp;obtain⟨x,s2⟩:=p;refine(c3.exec cD bu a6 afi hp).mono fun y dL hy=> ?_;obtain⟨rfl,rfl⟩:=hy;unfold mK.ends at h1;simp only[b8]at h1;obtain⟨h2,ar⟩:=h1;refine⟨?_,?_⟩
 ·cases y with
  |normal=>exact .inl rfl
  |ret=>exact .inr rfl
  |exit i=>cases h2
 ·split at ar
  case h_2=>cases ar
  rename_i vs cS;split at ar
  case h_2=>cases ar
  rename_i u H' k iF;simp only[b8]at ar;obtain⟨⟨aQ,h5⟩,ft⟩:=ar;have af:=uO _ _ aQ
  have e2:H'=[]:=by cases H' with
   |nil=>rfl
   |cons=>cases h5
  have bT:k=0:=e8 ft;subst af;subst e2;subst bT;exact⟨vs,cS,iF⟩
def mK.jf (B:mK)(call:cU)(n:Nat)(N:Nat):List (List V × V)->Prop
 |[]=>True
 |(aO,v)::r=>(bs v=true/\Nat.ble aO.length N=true/\B.ok call n aO v=true)/\B.jf call n N r
theorem mK.GY (cD:C.P.follows .mixedOrders=true)(bu:eZ C fid){call:cU}(a6:gH C fid call){n nD:Nat}{fn:Func}{B:mK}(ab:C.P.funcs[nD]? =some fn)(dr:G6 C fn B):∀{l:List (List V × V)},B.jf call n fn.ntmps l->og C fid nD (je l):=by
 intro l hl G H w args v xs U eQ lu;obtain⟨cs,G7,G8,hb,-,-,-,-,Dc⟩:=dr.ok;rw[Da ab hb Dc]
 induction l with
 |nil=>cases lu
 |cons p r ih=>
  obtain⟨aO,u⟩:=p;simp only[je]at lu;cases e:mV args aO with
  |true=>
   rw[e]at lu;have h':some u=some v:=lu;cases h';have e':=s8 _ _ e;subst e';obtain⟨⟨h1,h2,ar⟩,-⟩:=hl;have hc:=mK.calls cD bu a6 ab dr (km h2) ar U.apart (c7.oP eQ);exact Ci hc fun e w'=>fun⟨x,af,e2⟩=>⟨x,af,e2.beside U h1⟩
  |false=>rw[e]at lu;exact ih hl.2 lu
end Go.Abs
namespace Go.Abs
open Go Go.Proofs Go.Shelf
variable{C:Ctx}{fid:Nat->Nat}{ρ:Ren}
def ava:NM:=fun args H=>match args with
 |[.ptr l 0]=>match H[l]? with
  |some (.cells [.undef,b])=>some (.aU [],[(l,.cells [.undef,b])],[])
  | _=>none
 | _=>none
theorem aC9{args:List V}{H:Heap}{v:V}{H':Heap}{low:Nat}(h:OQ ava args H=some (v,H',low)):
  ∃l b,args=[.ptr l 0]/\H[l]? =some (.cells [.undef,b])/\v=.aU []/\H'=H.set l (.cells [.undef,b])/\low=min H.length l:=by
 obtain⟨r,hr,he⟩:=ct.1 h;unfold ava at hr;split at hr
 ·rename_i l
  split at hr
  ·rename_i b hb
   cases hr;simp only[U4,U5,qu,axf,rz,bt]at he;exact⟨l,b,rfl,hb,he.1.symm,he.2.1.symm,he.2.2.symm⟩
  ·cases hr
 ·cases hr
theorem aDa (L:Lays.n240 C.P ρ)(X:Builder.X72 C.P ρ)(apb:C.OR=some (ρ.t 72)):ag7 C fid (ρ.f 240) ava:=by
 intro G H w args v H' low xs U n7 he;obtain⟨l,b,rfl,hl,rfl,rfl,rfl⟩:=aC9 he
 obtain⟨x,rfl⟩:∃x,xs=[x]:=by
  cases n7 with|cons _ x _ xs _ hs=>cases hs;exact⟨x,rfl⟩
 have hx:a8 fid G w (.ptr l 0) x:=by cases n7;assumption
 obtain⟨h0,hb,oY,rfl⟩:=hx.n4;obtain⟨aP,ho,hr⟩:=U.obj l h0 hb;rw[hl]at ho;cases ho;obtain⟨⟨ht,ag6⟩,ab,c,e,hc,ad⟩:=hr;obtain⟨c',e',ux,auy,hc0⟩:=ag6 b rfl;rw[hc]at ux;cases ux;rw[apb]at auy;cases auy;have hlen:c.size=2:=by rw[<-hB,ad.length];rfl
 have C5:(callFunc (ρ.f 240) ⟨[.pointer (some ⟨h0.b,0,none⟩)]⟩).run C.P w=.ok (.enter (ρ.f 240) ⟨[.pointer (some ⟨h0.b,0,none⟩)]⟩) w:=enters_of L.f240 (by kernel_rfl) rfl _ _;refine⟨?_,_,_,C5⟩;rw[C5]
 have tc:H.set l (.cells [.undef,b])=H:=by
  refine wg fun i=> ?_;by_cases hi:l=i
  ·subst hi
   rw[nU (pY.1 hl).1,hl]
  ·rw[gm hi]
 rcases hc0 with hc0|hc0
 ·refine(Any.Builder_copyCheck_fresh L X h0.b w ?_ ?_ ?_).mono ?_
  ·rw[Lib.cell_of_heap hc];exact hc0
  ·simp[World.shape?,hc,hlen]
  ·exact Lib.frozen_of_heap hc 0
  ·rintro e w' ⟨rfl,rfl⟩
   have hs:(w.setCell ⟨h0.b,0,none⟩ (.pointer (some ⟨h0.b,0,none⟩))).heap.size=w.heap.size:=by simp[World.setCell]
   have cW:∀eL,eL≠h0.b->(w.setCell ⟨h0.b,0,none⟩ (.pointer (some ⟨h0.b,0,none⟩))).heap[eL]? =w.heap[eL]? :=fun eL bf=>by
    simp only[World.setCell,axd];rw[if_neg fun e=>bf e.symm]
   have hn:(w.setCell ⟨h0.b,0,none⟩ (.pointer (some ⟨h0.b,0,none⟩))).heap[h0.b]? =some (.cells (c.setIfInBounds 0 (.pointer (some ⟨h0.b,0,none⟩))) (ρ.t 72) (0,0)):=by
    simp only[World.setCell,axd,if_true,hc,pq];rfl
   have hx:=Ext.write U hb ab rfl (aK _) id rfl hs cW rfl rfl;refine⟨_,rfl,⟨ck G.β l h0,G.I⟩,aZ.write U hb ab rfl ab (aK _) id rfl hs cW _ ⟨⟨ht,fun v _=>⟨_,_,hn,apb,.inr ?_⟩⟩,ab,_,_,hn,?_⟩,fun m hm=>hx.le (cV hm (qt _ _)) (aK _),.aU _ _ .nil⟩
   ·rw[Array.getElem?_setIfInBounds_self,if_pos (by omega)]
   ·have ac9:aY fid ⟨ck G.β l h0,G.I⟩ (w.setCell ⟨h0.b,0,none⟩ (.pointer (some ⟨h0.b,0,none⟩))) [.undef,b] c.toList:=ad.ext U hx
    rw[Array.toList_setIfInBounds];generalize c.toList=q at ac9;cases ac9 with
    |cons _ x _ xs _ hs=>exact .cons _ _ _ _ (.undef _) hs
 ·refine(Any.Builder_copyCheck_used L X h0.b w (by rw[Lib.cell_of_heap hc];exact hc0)).mono ?_
  rintro e w' ⟨rfl,rfl⟩;exact⟨_,rfl,G,by rw[tc];exact U,fun m _=>.refl _ _ _ _,.aU _ _ .nil⟩
end Go.Abs
namespace Go.Abs
open Go Go.Proofs Go.Shelf Go.RowKit
section
variable{P:Program}{ρ:Ren}
set_option maxHeartbeats 2000000 in
set_option maxRecDepth 100000 in
theorem aDd (L:Lays.n169 P ρ)(X:Builder.Extra P ρ){b g cap:Nat}{c cur:Array Value}{s:List UInt8}{rest:List Value}{w:World}(hc:w.heap[b]? =some (.cells c (ρ.t 72) (0,0)))
  (GX:c[1]? =some (.slice (some ⟨g,0,none⟩) s.length cap)) (bj:w.heap[g]? =some (.cells cur (ρ.t 5) (0,0))) (ayc:cur.toList=(s.map fun b=>Value.int .u8 b.toNat)++rest) (h0:s≠[]) (hle:s.length<=cap) (hm:s.length<=1099511627776):
  Calls P (ρ.f 169) #[.pointer (some ⟨b,0,none⟩)] w fun e w'=>e=.returned (.string ⟨⟨s⟩⟩)/\w'=w.drew.freeze ⟨g,0,none⟩ s.length:=by
 have pF:s.length≠0:=by simpa using h0
 have HF:w.drew.heap[g]? =some (.cells cur (ρ.t 5) (0,0)):=bj
 have dq:w.drew.cell? ⟨b,1,none⟩=some (.slice (some ⟨g,0,none⟩) s.length cap):=by
  have:w.drew.heap[b]? =some (.cells c (ρ.t 72) (0,0)):=hc;rw[Lib.cell_of_heap this];exact GX
 have dJ:s.length<=cur.size:=by rw[<-hB,ayc,gM,oG];omega
 have aJs:(Builtin.unsafeSliceData_ #[(ρ.t 37)] (ρ.t 127) #[.slice (some ⟨g,0,none⟩) s.length cap]).run P w.drew=.ok (.pointer (some ⟨g,0,none⟩)) w.drew:=
  Lib.run_unsafeSliceData_row _ _ _ _ _ _ (by omega)
 have aJt:(Builtin.unsafeString_ #[(ρ.t 127),(ρ.t 3)] (ρ.t 9) #[.pointer (some ⟨g,0,none⟩),.int .i64 s.length]).run P w.drew=.ok (.string ⟨s.toArray⟩) (w.drew.freeze ⟨g,0,none⟩ s.length):=by
  refine Lib.run_unsafeString_row w.drew (ρ.t 127) (ρ.t 3) (ρ.t 9) (ρ.t 5) L.t127 X.cellsByte g cur.size (by simp[World.shape?,HF]) s h0 dJ (by omega) ?_;intro j x hx;rw[Addr.add_lit,eO,Lib.cell_of_heap HF,<-auF,ayc,gE (by rw[oG];exact(pY.1 hx).1),jy,hx];rfl
 have mixed:=L.mixed;have t72:=L.t72;have a72:=L.a72;have z72:=L.z72;have v72:=L.v72;have aJ5:=run_underlying L.t72;have t70:=L.t70;have a70:=L.a70;have z70:=L.z70;have v70:=L.v70;have aJ6:=run_underlying L.t70;have t37:=L.t37;have a37:=L.a37;have z37:=L.z37;have v37:=L.v37;have aJ7:=run_underlying L.t37;have t127:=L.t127;have a127:=L.a127;have z127:=L.z127;have v127:=L.v127;have aJ8:=run_underlying L.t127;have t3:=L.t3;have a3:=L.a3;have z3:=L.z3;have v3:=L.v3;have TI:=run_underlying L.t3;have t9:=L.t9;have a9:=L.a9;have z9:=L.z9;have v9:=L.v9;have aJ9:=run_underlying L.t9;have t5:=X.t5;have a5:=X.a5;have z5:=X.z5;have v5:=X.v5;have afe:=run_underlying X.t5
 go_enter L.f169,Body.n169_ntmps ρ
 go_wp2
 go_region_o
 all_goals (go_wp2;go_ret;exact⟨rfl,rfl⟩)
end
variable{C:Ctx}{fid:Nat->Nat}{ρ:Ren}
def avb:NM:=fun args H=>match args with
 |[.ptr l 0]=>match H[l]? with
  |some (.cells [.undef,.cz k 1 0 n tag])=>match H[k]? with
   |some (.Nk s)=>if s.length=n/\n=tag/\n<=2^40 then some (.str s,[(k,.dead n)],[])else none
   | _=>none
  | _=>none
 | _=>none
theorem aDe{args:List V}{H:Heap}{v:V}{H':Heap}{low:Nat}(h:OQ avb args H=some (v,H',low)):
  ∃l k s,args=[.ptr l 0]/\H[l]? =some (.cells [.undef,.cz k 1 0 s.length s.length])/\H[k]? =some (.Nk s)/\s.length<=1099511627776/\v=.str s/\H'=H.set k (.dead s.length)/\low=min H.length k:=by
 obtain⟨r,hr,he⟩:=ct.1 h;unfold avb at hr;split at hr
 ·rename_i l
  split at hr
  ·rename_i k n tag hb
   split at hr
   ·rename_i s cW
    split at hr
    ·rename_i hc
     obtain⟨rfl,rfl,hm⟩:=hc;cases hr;simp only[U4,U5,qu,axf,rz,bt]at he;exact⟨l,k,s,rfl,hb,cW,hm,he.1.symm,he.2.1.symm,he.2.2.symm⟩
    ·cases hr
   ·cases hr
  ·cases hr
 ·cases hr
theorem aDf{w:World}{a:Addr}{n b:Nat}(h:b≠a.block):(w.freeze a n).heap[b]? =w.heap[b]? :=by
 unfold World.freeze;split
 ·rfl
 ·simp only[axd]
  rw[if_neg fun e=>h e.symm]
theorem aDg{w:World}{a:Addr}{n:Nat}:(w.freeze a n).heap.size=w.heap.size:=by
 unfold World.freeze;split<;>simp
theorem ayd{w:World}{a:Addr}{n:Nat}:(w.freeze a n).os=w.os/\(w.freeze a n).output=w.output:=by
 unfold World.freeze;split<;>exact⟨rfl,rfl⟩
theorem aDh (L:Lays.n169 C.P ρ)(X:Builder.Extra C.P ρ)(apb:C.OR=some (ρ.t 72))(aed:C.afE=ρ.t 5):ag7 C fid (ρ.f 169) avb:=by
 intro G H w args v H' low xs U n7 he;obtain⟨l,k,s,rfl,hl,cW,hm,rfl,rfl,rfl⟩:=aDe he
 obtain⟨x,rfl⟩:∃x,xs=[x]:=by
  cases n7 with|cons _ x _ xs _ hs=>cases hs;exact⟨x,rfl⟩
 have hx:a8 fid G w (.ptr l 0) x:=by cases n7;assumption
 obtain⟨h0,hb,oY,rfl⟩:=hx.n4;obtain⟨aP,ho,hr⟩:=U.obj l h0 hb;rw[hl]at ho;cases ho;obtain⟨⟨ht,ag6⟩,ab,c,e,hc,ad⟩:=hr;obtain⟨c',e',ux,auy,hc0⟩:=ag6 _ rfl;rw[hc]at ux;cases ux;rw[apb]at auy;cases auy;obtain⟨y,axl,hy⟩:=ad.get (i:=1) (v:=.cz k 1 0 s.length s.length) rfl;rw[auF]at axl;obtain⟨h1,dc,cJ,cap,afn,rH,jF,rfl⟩:=hy.pA;obtain⟨aP,eM,aDi⟩:=U.obj k h1 afn;rw[cW]at eM;cases eM;obtain⟨hfz,CN,ayb,cur,rest,bj,fS,kU⟩:=aDi;obtain⟨rfl,rfl,qB,qG⟩:=jF CN;rw[aed]at bj;rw[Nat.zero_mul]at axl;have C5:(callFunc (ρ.f 169) ⟨[.pointer (some ⟨h0.b,0,none⟩)]⟩).run C.P w=.ok (.enter (ρ.f 169) ⟨[.pointer (some ⟨h0.b,0,none⟩)]⟩) w:=enters_of L.f169 (by kernel_rfl) rfl _ _;refine⟨?_,_,_,C5⟩;rw[C5];refine(aDd L X hc axl bj kU (auG.1 ayb) qG hm).mono ?_;rintro e w' ⟨rfl,rfl⟩;have x7:aZ C fid G H w.drew:=U.lU rfl;have du:∀m n,Ext G w G w.drew m n:=fun m n=>Ext.lU (w:=w) (w':=w.drew) rfl rfl rfl m n;have dJ:(w.drew.freeze ⟨h1.b,0,none⟩ s.length).heap.size=w.drew.heap.size:=aDg;have Cs:∀b,b≠h1.b->(w.drew.freeze ⟨h1.b,0,none⟩ s.length).heap[b]? =w.drew.heap[b]? :=fun b bf=>aDf (a:=⟨h1.b,0,none⟩) bf;have hx:=Ext.write x7 afn hfz rfl (aK _) id rfl dJ Cs ayd.1 ayd.2;refine⟨_,rfl,⟨ck G.β k h1,G.I⟩,aZ.write x7 afn hfz rfl hfz (aK _) id rfl dJ Cs _ ⟨hfz,CN⟩,fun m hm=>(du m H.length).trans (hx.le (cV hm (qt _ _)) (aK _)),.p _ _ (.str _)⟩
end Go.Abs
namespace Go.Abs.hk
open Go Go.Abs Go.Proofs
noncomputable section
def A (g:Nat->Option Obj):Ctx:={P:=Tryz.prog,FZ:=some,raw:=fun i=>i==9||i==16||i==86||i==202||i==270||i==307||i==393||i==395||i==445||i==449||i==450||i==451||i==452||i==453||i==454||i==455||i==456||i==489||i==490||i==491||i==492||i==493||i==494||i==496||i==497||i==501||i==502||i==503||i==518||i==519||i==520||i==527||i==533,e9:=g,jc:=fun p=>!(p== "names.go:37" ||p== "parser.go:280"),Aa:=[498],ag0:=fun p=>p== "ref.go:86",OR:=some 110,afE:=5,ax8:=fun p=>p== "builder.go:114" }
def C (g:Nat->Option Obj):Ctx:={P:=Tryz.prog,FZ:=some,raw:=fun i=>i==16||i==86||i==202||i==270||i==307||i==393||i==395||i==445||i==449||i==450||i==451||i==452||i==453||i==454||i==455||i==456||i==489||i==490||i==491||i==492||i==493||i==494||i==496||i==497||i==501||i==502||i==503||i==518||i==519||i==520||i==527||i==533,e9:=g,jc:=fun p=>!(p== "names.go:37" ||p== "parser.go:280"),Aa:=[498],ag0:=fun p=>p== "ref.go:86" }
def aDj (i:Nat):Bool:=i==9||i==16||i==86||i==202
def afl (i:Nat):Bool:=i==16||i==86||i==202
def TM (i:Nat):Option (List V->Option V):=match i with
 |49=>some Cr
 |204=>some KF
 |207=>some Cq
 |226=>some Cp
 |357=>some Co
 |360=>some F8
 |368=>some KG
 | _=>none
def aye (i:Nat):Option NM:=match i with
 |51=>some avb
 |104=>some ava
 | _=>none
def ayf (i:Nat):Option (List V->Option V):=match i with
 |357=>some Co
 |360=>some F8
 | _=>none
def gf (g:Nat->Option Obj):Nat->Option bY:=fun i=>match aye i with
 |some s=>some (.zr s)
 |none=>match TM i with
 |some s=>some (.ext s)
 |none=>match Tryz.prog.funcs[i]? with
  |some f=>match(A g).func f (aDj i)with
   |some a=>some (.code a)
   |none=>none
  |none=>none
def H3 (g:Nat->Option Obj):Nat->Option bY:=fun i=>match ayf i with
 |some s=>some (.ext s)
 |none=>match Tryz.prog.funcs[i]? with
  |some f=>match(C g).func f (afl i)with
   |some a=>some (.code a)
   |none=>none
  |none=>none
end
end Go.Abs.hk
