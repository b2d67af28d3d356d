/- Texts of this claim, joined and written short by a program. -/
import Derived.Test.YtemakagmboeodaaGreatDoorP08
import Derived.Test.YtemakagmboeodaaGreatDoorP01
import Derived.Test.YtemakagmboeodaaGreatDoorProg
import Derived.Test.YtemakagmboeodaaGreatDoorP02
import Derived.Tactics
import Derived.Tactics2
import Derived.Defers
import Derived.Recover
import Derived.Laws.Pointers
import Derived.TacticsInMore
import Derived.RegionIn
import Derived.LoopNIn
import Derived.RecoverIn
import Derived.Shelf.Strings.Trim
import Derived.Shelf.Small.Bits
import Derived.Shelf.Small.Strs
import Derived.Shelf.Strconv.Atoi
import Derived.Shelf.Strconv.Itoa3
import Derived.Shelf.Strings.Fields
import Derived.Lib.ItoaNum
import Derived.Below
import Derived.Test.YtemakagmboeodaaGreatDoorP00
set_option linter.unusedVariables false
set_option linter.unusedSimpArgs false
set_option linter.unusedSectionVars false
namespace Go.Abs
open Go
variable{C:Ctx}{fid:Nat->Nat}{w w':World}{G G':bw}{H H':Heap}
structure e4 where
 t0:List bl
 src:ah
 it:Nat
 aA:Nat × Bool
 t1:List bl
 more:ah
 fV:Nat
 pair:Nat × Bool
 t2:List bl
 body:bP
def e4.step (R:e4)(call:cj)(e:V)(st:au):Option au:=
 match cX call R.t1 (({st with aH:=[]}:au).put (some R.aA) e) []with
 |some (aV,_)=>some {aV with aH:=[]}
 |none=>none
def e4.round (R:e4)(call:cj)(n:Nat)(k v:V)(st:au):Option au:=
 match R.step call (.aR [.bool true,k,v]) {st with low:=st.H.length}with
 |some st1=>match R.more.ag st1.aH st1.ax with
  | .bool true=>
    if de (cJ st1.ax R.it) (cJ st.ax R.it)=true then
     match cX call R.t2 (({st1 with aH:=[]}:au).put (some R.pair) (.aR [k,v])) []with
     |some (st2,_)=>match exec call n R.body {st2 with aH:=[]}with
      |some (.normal,nF)=>some nF
      |some (.exit id,nF)=>if id=R.fV then some nF else none
      | _=>none
     |none=>none
    else none
  | _=>none
 |none=>none
def e4.fin (R:e4)(call:cj)(st:au):Option au:=
 match R.step call (.aR [.bool false]) {st with low:=st.H.length}with
 |some st1=>match R.more.ag st1.aH st1.ax with
  | .bool false=>some st1
  | _=>none
 |none=>none
def jO (it:Nat)(st:au):au:={st with aH:=[],ax:=dq st.ax it (.ptr st.H.length 0),H:=st.H++[.gone]}
section
variable{vars:List Nat}{N:Nat}{call:cj}{n:Nat}
theorem FK{id:Nat}{ops:Array Oper}{hG:Oper}{os:List Oper}{d0:Nat}{bj:List bl}{st1 aV:au}{wr:List Bool}{a:Act}{x:Value}{aG:World}{az:bw}{Q:Exit->Act->World->Prop}{ro:Option Nat}
  (bu:eh C fid) (bh:gh C fid call) (l9:ops.toList=hG::os) (hd:hG.dst=some d0) (aT:hG.guard=none) (hnd:∀c,hG.op≠ .defer c) (hm:c7 (C.oper vars N ops) os=some bj)
  (bR:(execOp a.eval hG).run C.P w=.ok (.value x) aG) (fg:dj C fid vars N az st1 (a.put (some d0) x) aG) (he:cX call bj st1 []=some (aV,wr))
  (c9:∀G' bg w',dj C fid vars N G' aV bg w'->(∀m,m<=aV.low->Ext az aG G' w' m st1.H.length)->bg.defers=a.defers->Q .normal bg w'):
  (Code.region id ops false).wpIn (dO ro) 0 C.P Q a w:=by
 obtain⟨S,aO,h0,hn,-,hs⟩:=pr _ _ _ _ _ he;have hlen:bj.length=os.length:=ql _ hm;have du:ops.size=os.length+1:=by rw[<-e9,l9];rfl
 have key:∀k j,j+k=os.length->∀a7 av bs,dj C fid vars N a7 (S j) av bs->(∀m,m<=(S j).low->Ext az aG a7 bs m st1.H.length)->av.defers=a.defers->st1.H.length<=(S j).H.length->
   wpOpsIn (dO ro) 0 C.P ops Q (List.range' (j+1) k) av bs:=by
  intro k
  induction k with
  |zero=>
   intro j hj a7 av bs bq cc eY _;have e:j=bj.length:=by omega
   subst e;rw[hn]at bq cc;exact c9 a7 av bs bq cc eY
  |succ k ih=>
   intro j hj a7 av bs bq cc eY hE;have lk:j<os.length:=by omega
   have gU:os[j]? =some os[j]:=by simp[lk]
   have ho:ops[j+1]? =some os[j]:=by rw[<-fN,l9];simp[lk]
   have yk:j<bj.length:=by omega
   have eP:bj[j]? =some bj[j]:=by simp[yk]
   have bx:pq C vars N ops os[j] bj[j]:=vP (qm _ hm gU eP);have cG:=hs j _ eP;rw[sK,wpOpsIn_cons];have dL:=cG.bD bh.bD;refine tN (T:=fun _=>True) bu bh ho bx cG bq.rel (fun _=>.inl rfl) bq.low (fun t _=>bq.env t) (fun x _=>by cases x<;>trivial) (fun _ _ _ _ _=>trivial) bq.size ?_;intro x fT hF p1 cN ei
   have tP:aQ C fid hF (S (j+1)).H fT:=by
    cases af:aO j with
    |true=>rw[af]at p1;exact p1
    |false=>rw[af]at p1;rw[cG.still bh.bD af];exact p1
   have mC:=cN 0 (ct _)
   refine ih (j+1) (by omega) hF _ fT ⟨tP,fun t=> ?_,by rw[rR];exact bq.size,dL.bound bq.low⟩ (fun m hm=>(cc m (cA hm dL.1.low)).trans ((cN m hm).le (aI _) hE)) (by rw[put_defers];exact eY)
    (cA hE dL.1.len)
   refine tO (fun d hd=>by rw[bq.size];exact bx.lt d hd) (fun h=>ei t h) (fun h=> ?_);rw[cG.look bx h];exact(bq.env t).ext bq.rel mC
 refine wpIn_region ?_;rw[du,IK,sK,wpOpsIn_cons];have X1:ops[0]? =some hG:=by rw[<-fN,l9];rfl
 refine LO X1 aT hnd bR ?_;rw[hd];rw[<-h0]at fg;exact key os.length 0 (by omega) az _ aG fg (fun m _=>.refl _ _ _ _) (put_defers _ _ _) (by rw[h0];exact aI _)
theorem X2{k0 r:Nat}{ops:Array Oper}{os:List Oper}{bj:List bl}{st1 aV:au}{wr:List Bool}{a:Act}{aG:World}{az:bw}{Q:Exit->Act->World->Prop}{ro:Option Nat}
  (bu:eh C fid) (bh:gh C fid call) (X3:∀j,j<os.length->ops[k0+j]? =os[j]?) (hm:c7 (C.oper vars N ops) os=some bj)
  (fg:dj C fid vars N az st1 a aG) (he:cX call bj st1 []=some (aV,wr))
  (c9:∀G' bg w',dj C fid vars N G' aV bg w'->(∀m,m<=aV.low->Ext az aG G' w' m st1.H.length)->bg.defers=a.defers->wpOpsIn (dO ro) 0 C.P ops Q (List.range' (k0+os.length) r) bg w'):
  wpOpsIn (dO ro) 0 C.P ops Q (List.range' k0 (os.length+r)) a aG:=by
 obtain⟨S,aO,h0,hn,-,hs⟩:=pr _ _ _ _ _ he;have hlen:bj.length=os.length:=ql _ hm
 have key:∀k j,j+k=os.length->∀a7 av bs,dj C fid vars N a7 (S j) av bs->(∀m,m<=(S j).low->Ext az aG a7 bs m st1.H.length)->av.defers=a.defers->st1.H.length<=(S j).H.length->
   wpOpsIn (dO ro) 0 C.P ops Q (List.range' (k0+j) (k+r)) av bs:=by
  intro k
  induction k with
  |zero=>
   intro j hj a7 av bs bq cc eY _;have e:j=bj.length:=by omega
   subst e;rw[hn]at bq cc;rw[hlen,dK];exact c9 a7 av bs bq cc eY
  |succ k ih=>
   intro j hj a7 av bs bq cc eY hE;have lk:j<os.length:=by omega
   have gU:os[j]? =some os[j]:=by simp[lk]
   have ho:ops[k0+j]? =some os[j]:=(X3 j lk).trans gU;have yk:j<bj.length:=by omega
   have eP:bj[j]? =some bj[j]:=by simp[yk]
   have bx:pq C vars N ops os[j] bj[j]:=vP (qm _ hm gU eP);have cG:=hs j _ eP;rw[show k+1+r=(k+r)+1 by omega,sK,wpOpsIn_cons];have dL:=cG.bD bh.bD;refine tN (T:=fun _=>True) bu bh ho bx cG bq.rel (fun _=>.inl rfl) bq.low (fun t _=>bq.env t) (fun x _=>by cases x<;>trivial) (fun _ _ _ _ _=>trivial) bq.size ?_;intro x fT hF p1 cN ei
   have tP:aQ C fid hF (S (j+1)).H fT:=by
    cases af:aO j with
    |true=>rw[af]at p1;exact p1
    |false=>rw[af]at p1;rw[cG.still bh.bD af];exact p1
   have mC:=cN 0 (ct _)
   refine ih (j+1) (by omega) hF _ fT ⟨tP,fun t=> ?_,by rw[rR];exact bq.size,dL.bound bq.low⟩ (fun m hm=>(cc m (cA hm dL.1.low)).trans ((cN m hm).le (aI _) hE)) (by rw[put_defers];exact eY)
    (cA hE dL.1.len)
   refine tO (fun d hd=>by rw[bq.size];exact bx.lt d hd) (fun h=>ei t h) (fun h=> ?_);rw[cG.look bx h];exact(bq.env t).ext bq.rel mC
 rw[<-h0]at fg;exact key os.length 0 (by omega) az _ aG fg (fun m _=>.refl _ _ _ _) rfl (by rw[h0];exact aI _)
theorem wm{m k:Nat}(h:Ext G w G' w' m k)(aa:aQ C fid G H w){l:Nat}{h0:Home}(hb:G.β l=some h0)(hl:l<m):w'.heap[h0.b]? =w.heap[h0.b]? :=
 h.eg h0.b (aa.cL l h0 hb) fun eB h' ae ai=>.inr (by have:=aa.inj eB l h' h0 ae hb ai;omega)
theorem wo{m k:Nat}(h:Ext G w G' w' m k){l:Nat}{h0:Home}(hb:G.β l=some h0)(ht:h0.tag=0):∃h',G'.β l=some h'/\h'.b=h0.b:=by
 obtain⟨h',e,-,z,X4,-⟩:=h.homes l h0 hb;exact⟨h',e,(X4 ((z ht).trans ht.symm)).1⟩
theorem FL (aa:aQ C fid G H w){l:Nat}{h:Home}(hb:G.β l=some h)(hl:H[l]? =some .gone):h.tag=0/\h.fz=false:=by
 obtain⟨o,ho,hr⟩:=aa.obj l h hb;rw[hl]at ho;cases ho;exact hr
theorem A8 (aa:aQ C fid G H w){l:Nat}{h:Home}(hb:G.β l=some h){bA:List (V × V)}(hl:H[l]? =some (.map bA)):h.tag=0/\h.fz=false/\∃es b3,w.heap[h.b]? =some (.map es b3)/\
  aW fid G w (bA.map (·.1)) (es.toList.map (·.key))/\aW fid G w (bA.map (·.2)) (es.toList.map (·.val))/\mr es b3:=by
 obtain⟨o,ho,hr⟩:=aa.obj l h hb;rw[hl]at ho;cases ho;exact hr
theorem FM{H:Heap}{l:Nat}{o:bd}(h:H[l]? =some o):H.set l o=H:=by
 apply lP;intro i;by_cases e:l=i
 ·subst e
  have hl:l<H.length:=by
   rcases fF l H.length with q|q
   ·exact q
   ·rw[k6 q]at h;cases h
  rw[mi hl,h]
 ·rw[iL e]
def jP (es:Array MapEntry)(d:List Nat):Array Nat:=(d.map fun i=>((es[i]?).map (·.born)).getD 0).toArray
theorem FN (es:Array MapEntry)(d:List Nat){i:Nat}{e:MapEntry}(h:es[i]? =some e):jP es (d++[i])=(jP es d).push e.born:=by
 unfold jP;rw[hM,cW,hP,h];simp
structure pw (C:Ctx) (fid:Nat->Nat) (vars:List Nat) (N base li l r jb b3:Nat) (es:Array MapEntry) (bA:List (V × V)) (st:au) (G:bw) (w:World) (d:List Nat) (s:au) (az:bw) (av:Act) (aG:World):Prop where
 rel:dj C fid vars N az s av aG
 bD:fh st {s with low:=min st.low li}
 len:li<s.H.length
 ext:∀m,m<=min st.low li->Ext G w az aG m st.H.length
 marks:jw C az aG base av.defers
 hi:∃h,az.β li=some h/\h.b=r
 hm:∃h,az.β l=some h/\h.b=jb
 gone:s.H[li]? =some .gone
 mp:s.H[l]? =some (.map bA)
 iter:aG.heap[r]? =some (.mapIter (some jb) b3 (jP es d) b3)
 map:aG.heap[jb]? =some (.map es b3)
theorem pw.on{base li l r jb b3:Nat}{es:Array MapEntry}{bA:List (V × V)}{st:au}{d:List Nat}{s ao:au}{az a7:bw}{av a2:Act}{aG bs:World}
  (h:pw C fid vars N base li l r jb b3 es bA st G w d s az av aG) (nG:l<li) (ail:li<=st.H.length) (aa:dj C fid vars N a7 ao a2 bs) (cP:∀m,m<=ao.low->Ext az aG a7 bs m s.H.length) (jI:li<ao.low) (cy:Fr s.H s.H.length ao.H ao.low) (dv:ao.ro=s.ro)
  (hd:jw C a7 bs base a2.defers):pw C fid vars N base li l r jb b3 es bA st G w d ao a7 a2 bs:=by
 obtain⟨h1,ae,q1⟩:=h.hi;obtain⟨h2,ai,q2⟩:=h.hm;have g1:=FL h.rel.rel ae h.gone;have g2:=A8 h.rel.rel ai h.mp;have qA:=cP _ (aI _);have hB:=h.bD.1.len;refine⟨aa,⟨⟨cA h.bD.1.len cy.len,ig _ _,fun x hx=> ?_⟩,dv.trans h.bD.2⟩,mX h.len cy.len,fun m hm=> ?_,hd,?_,?_,?_,?_,?_,?_⟩
 ·have dV:x<min st.low li:=hx
  exact(cy.same x (by omega)).trans (h.bD.1.same x hx)
 ·exact(h.ext m hm).trans ((cP m (by omega)).le (aI _) hB)
 ·obtain⟨h',e',q'⟩:=wo qA ae g1.1;exact⟨h',e',q'.trans q1⟩
 ·obtain⟨h',e',q'⟩:=wo qA ai g2.1;exact⟨h',e',q'.trans q2⟩
 ·rw[cy.same li jI];exact h.gone
 ·rw[cy.same l (by omega)];exact h.mp
 ·have:=wm qA h.rel.rel ae jI
  rw[q1]at this;rw[this];exact h.iter
 ·have:=wm qA h.rel.rel ai (by omega)
  rw[q2]at this;rw[this];exact h.map
theorem dj.reset{st:au}{a:Act}(h:dj C fid vars N G st a w):dj C fid vars N G {st with aH:=[],low:=st.H.length} a w:=
 ⟨h.rel,h.clear.env,h.size,aI _⟩
theorem X5{es:Array MapEntry}{d:List Nat}(hn:(es.toList.map (·.born)).Nodup)(aY:∀i∈d,i<es.size)(h:(leftOf es (jP es d)).size=0):∀i,i<es.size->i∈d:=by
 intro i hi;have h0:leftOf es (jP es d)= #[]:=Array.eq_empty_of_size_eq_zero h;unfold leftOf at h0;rw[Array.filter_eq_empty_iff]at h0;have h1:=h0 es[i] (by simp);simp only[o1,IX]at h1;rw[Array.contains_iff_mem]at h1;unfold jP at h1;simp only[List.mem_toArray,dn]at h1;obtain⟨j,hj,hb⟩:=h1;have lk:=aY j hj;simp only[zN lk,lR,sJ]at hb
 have:j=i:=by
  have LP:j<(es.toList.map (·.born)).length:=by simpa using lk
  have LQ:i<(es.toList.map (·.born)).length:=by simpa using hi
  have hp:=IH.1 hn;rcases Nat.lt_trichotomy j i with q|q|q
  ·exact absurd (by simpa using hb) (hp j i LP LQ q)
  ·exact q
  ·exact absurd (by simpa using hb.symm) (hp i j LQ LP q)
 rw[<-this];exact hj
theorem X6{es:Array MapEntry}{d:List Nat}{e:MapEntry}(he:e∈(leftOf es (jP es d)).toList):∃i,es[i]? =some e/\i∉d/\(leftOf es (jP es (d++[i]))).size<(leftOf es (jP es d)).size:=by
 have ov:e∈es.toList/\(jP es d).contains e.born=false:=by
  unfold leftOf at he;simpa using he
 obtain⟨i,hi⟩:=oY.1 ov.1;rw[fN]at hi;refine⟨i,hi,fun hid=> ?_,?_⟩
 ·have:(jP es d).contains e.born=true:=by
   rw[Array.contains_iff_mem];unfold jP;simp only[List.mem_toArray,dn];exact⟨i,hid,by rw[hi];rfl⟩
  rw[this]at ov;cases ov.2
 ·rw[FN es d hi]
  unfold leftOf;have key:∀p:MapEntry->Bool,(es.filter p).size=(es.toList.filter p).length:=fun p=>by rw[<-e9,Array.toList_filter]
  rw[key,key];refine filter_lt _ _ (fun x hx=> ?_) e ?_ ?_ _ ov.1
  ·simp only[Array.contains_push,o1,IJ]at hx⊢
   simp at hx⊢;exact hx.1
  ·rw[ov.2];rfl
  ·simp
theorem X7 (cr:C.P.follows .mixedOrders=true)(bu:eh C fid)(bh:gh C fid call){k0 i1 i2:Nat}{hG on ks:Oper}{kt ku ka:Array Oper}{nH nI:List Oper}
  {mt it aA more pair out fV:Nat} {tm r1 r2:TypeId} {body:Code} {R:e4}
  (h0:kt[k0]? =some hG) (yv:C.bF vars (.tmp mt)=some R.src) (wq:hG.op=.range tm (.tmp mt)) (yw:hG.dst=some it) (yx:hG.guard=none) (hit:it<N) (yy:C.P.underlying tm=some (.map r1 r2))
  (h1:ku.toList=on::nH) (tY:on.op=.next (.tmp it) false) (hnd:on.dst=some aA) (wu:on.guard=none) (lq:aA<N)
  (h2:ka.toList=ks::nI) (wv:ks.op=.entry (.tmp it)) (yz:ks.dst=some pair) (yA:ks.guard=none) (yB:pair<N)
  (tZ:vars.contains it=true) (wx:R.aA=(aA,vars.contains aA)) (yC:R.pair=(pair,vars.contains pair))
  (rO:c7 (C.oper vars N ku) nH=some R.t1) (oh:c7 (C.oper vars N ka) nI=some R.t2) (wy:C.bF vars (.tmp more)=some R.more) (yD:C.code vars N body=some R.body) (FO:R.fV=fV) (FP:R.it=it)
  {st:au} {l:Nat} {bA:List (V × V)} (qB:R.src.ag st.aH st.ax=.map l) (px:st.H[l]? =some (.map bA)) (Inv:List Nat->au->Prop) (Out:au->Prop)
  (ua:Inv [] (jO it st)) (r3:∀d s,Inv d s->cJ s.ax it=.ptr st.H.length 0)
  (nJ:∀d s,Inv d s->∀i e5,i∉d->bA[i]? =some e5->∃ao,R.round call n e5.1 e5.2 s=some ao/\st.H.length<ao.low/\Inv (d++[i]) ao)
  (gY:∀d s,Inv d s->d.Nodup->(∀i,i∈d↔i<bA.length)->∃ao,R.fin call s=some ao/\st.H.length<ao.low/\Out ao)
  {a:Act} {ro:Option Nat} {base:Nat} {Q X8:Exit->Act->World->Prop} (aa:dj C fid vars N G st a w) (dv:rY G st.ro ro) (dX:jw C G w base a.defers) (hb:base<=w.heap.size)
  (c9:∀ao G' bg w',Out ao->fh st {ao with low:=min st.low st.H.length}->Fin C fid vars N base st G w {ao with low:=min st.low st.H.length} G' bg w'->Q .normal bg w'):
  wpOpIn (dO ro) 0 C.P kt X8 k0 (fun bg w'=>(Code.block out (.loop (.seq (.region i1 ku false) (.seq (.cond (.tmp more) .skip (.exit out)) (.block fV (.seq (.region i2 ka false) body)))))).wpIn (dO ro) 0 C.P Q bg w') a w:=by
 have jH:=vU bu aa (.tmp mt) R.src yv;rw[qB]at jH;obtain⟨iC,A9,X9,Ya⟩:=jH.mapInv;obtain⟨-,-,es,b3,dT,eO,cO,cG⟩:=A8 aa.rel A9 px;have nG:l<st.H.length:=aa.rel.lt A9
 have EO:(execOp a.eval hG).run C.P w=.ok (.value (.pointer (some ⟨w.heap.size,0,none⟩))) (w.alloc (.mapIter (some iC.b) b3 #[] b3)):=by
  unfold execOp;rw[wq];have e:a.eval (.tmp mt)=.map (some iC.b):=Ya;simp only[e,Sem.run_bind,run_range_map w tm r1 r2 iC.b es b3 yy dT,Result.andThen_ok,Sem.run_pure]
 have LR:bA.length=es.size:=by
  have:=eO.length;simpa using this.symm
 have Yb:=aa.rel.push .gone (.mapIter (some iC.b) b3 #[] b3) 0 0 ⟨rfl,rfl⟩;have r0:∀m k,k<=st.H.length->Ext G w ⟨b0 G.β st.H.length ⟨w.heap.size,0,0,false⟩,G.I⟩ (w.alloc (.mapIter (some iC.b) b3 #[] b3)) m k:=fun m k hk=>(Ext.push aa.rel (.mapIter (some iC.b) b3 #[] b3) 0 0 m).le (aI _) hk
 have Yc:dj C fid vars N ⟨b0 G.β st.H.length ⟨w.heap.size,0,0,false⟩,G.I⟩ {st with H:=st.H++[.gone]} a (w.alloc (.mapIter (some iC.b) b3 #[] b3)):=
  ⟨Yb,fun t=>(aa.env t).ext aa.rel (r0 0 0 (ct _)),aa.size,by have:=aa.low;simp only[fO,iN,n3];omega⟩
 have lp:dj C fid vars N ⟨b0 G.β st.H.length ⟨w.heap.size,0,0,false⟩,G.I⟩ (jO it st) (a.put (some it) (.pointer (some ⟨w.heap.size,0,none⟩))) (w.alloc (.mapIter (some iC.b) b3 #[] b3)):=by
  have:=Yc.put hit (v:=.ptr st.H.length 0) (x:=.pointer (some ⟨w.heap.size,0,none⟩)) (.ptr st.H.length 0 ⟨w.heap.size,0,0,false⟩ (cM _ _ _) rfl);rw[tZ]at this;exact this.clear
 suffices Yd:∀G' bg w',dj C fid vars N G' (jO it st) bg w'->(∀m,m<=(jO it st).H.length->Ext ⟨b0 G.β st.H.length ⟨w.heap.size,0,0,false⟩,G.I⟩ (w.alloc (.mapIter (some iC.b) b3 #[] b3)) G' w' m (jO it st).H.length)->
   bg.defers=a.defers->(Code.block out (.loop (.seq (.region i1 ku false) (.seq (.cond (.tmp more) .skip (.exit out)) (.block fV (.seq (.region i2 ka false) body)))))).wpIn (dO ro) 0 C.P Q bg w' by
  refine LO h0 yx (by rw[wq];simp) EO ?_;rw[yw];exact Yd _ _ _ lp (fun m _=>.refl _ _ _ _) (by rw[put_defers])
 intro G' bg w' bq cc eY
 refine wpIn_block (Fm (fun k av aG=>∃d s az,Inv d s/\d.Nodup/\(∀i∈d,i<bA.length)/\(leftOf es (jP es d)).size<k/\pw C fid vars N base st.H.length l w.heap.size iC.b b3 es bA st G w d s az av aG) ?_
  (j:=(leftOf es (jP es [])).size+1) ?_)
 ·rintro k av aG ⟨d,s,az,ch,LS,kM,hk,bH⟩
  obtain⟨bJ,rfl⟩:∃bJ,k=bJ+1:=⟨k-1,by omega⟩;refine⟨bJ,rfl,?_⟩;obtain⟨aq,bz,dk⟩:=bH.hi;obtain⟨bf,cn,fC⟩:=bH.hm
  have LU:av.eval (.tmp it)=.pointer (some ⟨w.heap.size,0,none⟩):=by
   have:=bH.rel.env it;rw[show df vars s it=cJ s.ax it by unfold df;rw[if_pos tZ],r3 d s ch]at this;obtain⟨fe,dG,-,yE⟩:=this.mu;rw[bz]at dG;cases dG;rw[dk]at yE;exact yE
  have yF:∀c,on.op≠ .defer c:=by rw[tY];simp
  have qq:∀c,ks.op≠ .defer c:=by rw[wv];simp
  rcases XX (P:=C.P) on.type bH.iter bH.map cG.1 (aI _)with⟨du,bR⟩|⟨e,he,bs,Ye,Yf,Yg,bR⟩
  ·
   have fw:=X5 cG.2 (fun i hi=>by rw[<-LR];exact kM i hi) du;obtain⟨ao,af,jI,Yh⟩:=gY d s ch LS fun i=>⟨kM i,fun hi=>fw i (by rw[<-LR];exact hi)⟩;unfold e4.fin e4.step at af;split at af
   ·rename_i s1 iw
    split at iw
    ·rename_i nK wr hex
     cases iw;split at af
     ·rename_i ub
      cases af
      have FQ:(execOp av.eval on).run C.P aG=.ok (.value (.tuple #[.bool false])) aG:=by
       unfold execOp;rw[tY];simp only[LU,Sem.run_bind,bR,Result.andThen_ok,Sem.run_pure]
      have ym:dj C fid vars N az (({s with aH:=[],low:=s.H.length}:au).put (some R.aA) (.aR [.bool false])) (av.put (some aA) (.tuple #[.bool false])) aG:=by
       rw[wx];exact bH.rel.reset.put lq (.aR _ _ (.cons _ _ _ _ (.p _ _ (.bool false)) .nil))
      refine wpIn_seq (FK bu bh h1 hnd wu yF rO FQ ym hex fun a7 a2 fT hE ma tU=> ?_);have iz:=jt ({s with aH:=[],low:=s.H.length}:au) (some R.aA) (.aR [.bool false]);have cy:=po bh.bD _ _ _ _ _ (by rw[iz.1,iz.2.1];exact aI _) hex
      have eZ:pw C fid vars N base st.H.length l w.heap.size iC.b b3 es bA st G w d {nK with aH:=[]} a7 a2 fT:=by
       refine bH.on nG (aI _) hE.clear (fun m hm=> ?_) jI ?_ ?_ ?_
       ·have:=ma m hm
        rw[iz.1]at this;exact this
       ·have:=cy.1
        rw[iz.1,iz.2.1]at this;exact this
       ·exact cy.2.trans iz.2.2
       ·have:=bH.marks.ext (ma 0 (ct _))
        rw[tU];exact this
      have ad:=vU bu eZ.rel (.tmp more) R.more wy;rw[ub]at ad;refine wpIn_seq (wpIn_cond_false ad.j6 (wpIn_exit ?_));show(if out=out then Q .normal a2 fT else _);rw[if_pos rfl];exact c9 _ a7 a2 fT Yh eZ.bD ⟨⟨eZ.rel.rel,eZ.rel.env,eZ.rel.size,cA (mn _ _) (sM eZ.len)⟩,eZ.ext,eZ.marks⟩
     ·cases af
    ·cases iw
   ·cases af
  ·
   obtain⟨i,hi,hid,aim⟩:=X6 he
   have nL:i<es.size:=by
    rcases fF i es.size with q|q
    ·exact q
    ·rw[u6 q]at hi;cases hi
   obtain⟨ain,aio,bG,pn,LV,x1,x2,-⟩:=A8 bH.rel.rel cn bH.mp;rw[fC,bH.map]at LV;cases LV;obtain⟨Yi,yq⟩:=FL bH.rel.rel bz bH.gone;obtain⟨e5,mH⟩:∃e5,bA[i]? =some e5:=⟨bA[i]'(by omega),by simp⟩
   have Yj:aZ fid az aG e5.1 e.key:=by
    obtain⟨x,hx,hr⟩:=x1.get (i:=i) (v:=e5.1) (by rw[iM,mH];rfl);rw[iM,fN,hi]at hx;cases hx;exact hr
   have kv:aZ fid az aG e5.2 e.val:=by
    obtain⟨x,hx,hr⟩:=x2.get (i:=i) (v:=e5.2) (by rw[iM,mH];rfl);rw[iM,fN,hi]at hx;cases hx;exact hr
   obtain⟨ao,af,jI,FR⟩:=nJ d s ch i e5 hid mH;have hT:=turn bH.rel.rel bz yq (.mapIter (some iC.b) b3 ((jP es d).push e.born) b3) .gone fun _ _ _=>⟨Yi,yq⟩;rw[FM bH.gone]at hT;have Ba:bs.heap=(aG.putObj aq.b (.mapIter (some iC.b) b3 ((jP es d).push e.born) b3)).heap:=by rw[Ye,dk];rfl
   have FT:aQ C fid az s.H bs:=hT.1.hZ Ba;have FU:∀m,m<=st.H.length->Ext az aG az bs m s.H.length:=fun m hm=>(hT.2.le hm (aI _)).trans (.hZ Ba Yf Yg _ _)
   have uc:bs.heap[w.heap.size]? =some (.mapIter (some iC.b) b3 ((jP es d).push e.born) b3):=by
    rw[Ba,<-dk];exact World.putObj_heap_same (bH.rel.rel.cL _ _ bz)
   have tD:bs.heap[iC.b]? =some (.map es b3):=by
    rw[Ba,World.putObj_heap_other (fun q=> ?_)]
    ·exact bH.map
    ·have:=bH.rel.rel.inj _ _ _ _ bz cn (by rw[fC,<-q]);omega
   have LW:dj C fid vars N az s av bs:=⟨FT,fun t=>(bH.rel.env t).ext bH.rel.rel (FU 0 (ct _)),bH.rel.size,bH.rel.low⟩;have FV:=FU 0 (ct _)
   have LX:pw C fid vars N base st.H.length l w.heap.size iC.b b3 es bA st G w (d++[i]) s az av bs:=
    ⟨LW,bH.bD,bH.len,fun m hm=>(bH.ext m hm).trans ((FU m (by omega)).le (aI _) bH.bD.1.len),bH.marks.ext FV,bH.hi,bH.hm,bH.gone,bH.mp,by rw[FN es d hi];exact uc,tD⟩
   have LY:=Yj.ext bH.rel.rel FV;have LZ:=kv.ext bH.rel.rel FV;unfold e4.round e4.step at af;split at af
   case h_2=>cases af
   rename_i s1 iw;split at iw
   case h_2=>cases iw
   rename_i nK wr hex;cases iw;split at af
   case h_2=>cases af
   rename_i ub;split at af
   case isFalse=>cases af
   rename_i Yk
   have Yl:cJ nK.ax it=.ptr st.H.length 0:=by
    have:=rS _ _ Yk;rw[FP]at this;exact this.trans (r3 d s ch)
   split at af
   case h_2=>cases af
   rename_i s2 L0 L1
   have FQ:(execOp av.eval on).run C.P aG=.ok (.value (.tuple #[.bool true,e.key,e.val])) bs:=by
    unfold execOp;rw[tY];simp only[LU,Sem.run_bind,bR,Result.andThen_ok,Sem.run_pure]
   have ym:dj C fid vars N az (({s with aH:=[],low:=s.H.length}:au).put (some R.aA) (.aR [.bool true,e5.1,e5.2])) (av.put (some aA) (.tuple #[.bool true,e.key,e.val])) bs:=by
    rw[wx];exact LW.reset.put lq (.aR _ _ (.cons _ _ _ _ (.p _ _ (.bool true)) (.cons _ _ _ _ LY (.cons _ _ _ _ LZ .nil))))
   have iz:=jt ({s with aH:=[],low:=s.H.length}:au) (some R.aA) (.aR [.bool true,e5.1,e5.2]);have cy:=po bh.bD _ _ _ _ _ (by rw[iz.1,iz.2.1];exact aI _) hex;have qC:=jt ({nK with aH:=[]}:au) (some R.pair) (.aR [e5.1,e5.2]);have rZ:nK.low<=nK.H.length:=cy.bound (by rw[iz.1,iz.2.1];exact aI _);have Bb:=po bh.bD _ _ _ _ _ (by rw[qC.1,qC.2.1];exact rZ) L1;have E5:s2.low<=s2.H.length:=Bb.bound (by rw[qC.1,qC.2.1];exact rZ)
   obtain⟨Bc,kU,L2,Ym,Yn⟩:∃Bc kU,exec call n R.body {s2 with aH:=[]}=some (Bc,kU)/\(Bc=.normal\/Bc=.exit fV)/\kU=ao:=by
    split at af
    ·rename_i kU we;cases af;exact⟨_,_,we,.inl rfl,rfl⟩
    ·rename_i id kU we
     split at af
     ·rename_i Yo;cases af;exact⟨_,_,we,.inr (by rw[Yo,FO]),rfl⟩
     ·cases af
    ·cases af
   subst Yn;have yG:=j9 bh.bD n _ _ _ _ (show({s2 with aH:=[]}:au).low<=({s2 with aH:=[]}:au).H.length from E5) L2;have aip:kU.low<=s2.low:=yG.1.low;have aiq:s2.low<=nK.low:=by have:=Bb.1.low;rw[qC.2.1]at this;exact this
   refine wpIn_seq (FK bu bh h1 hnd wu yF rO FQ ym hex fun a7 a2 fT hE ma tU=> ?_)
   have eZ:pw C fid vars N base st.H.length l w.heap.size iC.b b3 es bA st G w (d++[i]) {nK with aH:=[]} a7 a2 fT:=by
    refine LX.on nG (aI _) hE.clear (fun m hm=> ?_) (by show st.H.length<nK.low;omega) ?_ ?_ ?_
    ·have:=ma m hm
     rw[iz.1]at this;exact this
    ·have:=cy.1
     rw[iz.1,iz.2.1]at this;exact this
    ·exact cy.2.trans iz.2.2
    ·have:=LX.marks.ext (ma 0 (ct _))
     rw[tU];exact this
   have ad:=vU bu eZ.rel (.tmp more) R.more wy;rw[ub]at ad;refine wpIn_seq (wpIn_cond_true ad.j6 (wpIn_skip ?_));show(Code.block fV (.seq (.region i2 ka false) body)).wpIn (dO ro) 0 C.P _ a2 fT;refine wpIn_block (wpIn_seq ?_)
   have Yp:a2.eval (.tmp it)=.pointer (some ⟨w.heap.size,0,none⟩):=by
    have:=eZ.rel.env it;rw[show df vars {nK with aH:=[]} it=cJ nK.ax it by unfold df;rw[if_pos tZ],Yl]at this;obtain⟨fe,dG,-,yE⟩:=this.mu;obtain⟨fj,gW,qx⟩:=eZ.hi;rw[gW]at dG;cases dG;rw[qx]at yE;exact yE
   have Yq:(execOp a2.eval ks).run C.P fT=.ok (.value (.tuple #[e.key,e.val])) fT:=by
    have L3:=eZ.iter;rw[FN es d hi]at L3;have Fs:=X0 (P:=C.P) L3 eZ.map (by rw[<-fN]at hi;exact ml hi) cG.2;unfold execOp;rw[wv];simp only[Yp,Sem.run_bind,Fs,Result.andThen_ok,Sem.run_pure]
   have L4:=ma 0 (ct _)
   have Yr:dj C fid vars N a7 (({nK with aH:=[]}:au).put (some R.pair) (.aR [e5.1,e5.2])) (a2.put (some pair) (.tuple #[e.key,e.val])) fT:=by
    rw[yC];exact eZ.rel.put yB (.aR _ _ (.cons _ _ _ _ (LY.ext FT L4) (.cons _ _ _ _ (LZ.ext FT L4) .nil)))
   refine FK bu bh h2 yz yA qq oh Yq Yr L1 fun hF a3 FW yr wh FB=> ?_
   have py:pw C fid vars N base st.H.length l w.heap.size iC.b b3 es bA st G w (d++[i]) {s2 with aH:=[]} hF a3 FW:=by
    refine eZ.on nG (aI _) yr.clear (fun m hm=> ?_) (by show st.H.length<s2.low;omega) ?_ ?_ ?_
    ·have:=wh m hm
     rw[qC.1]at this;exact this
    ·have:=Bb.1
     rw[qC.1,qC.2.1]at this;exact⟨this.len,cA this.low rZ,this.same⟩
    ·exact Bb.2.trans qC.2.2
    ·have:=eZ.marks.ext (wh 0 (ct _))
     rw[FB];exact this
   show body.wpIn (dO ro) 0 C.P _ a3 FW;refine oC (n:=n) cr bu bh body _ _ _ yD _ _ _ L2 hF a3 FW ro base _ py.rel ?_ py.marks (cA hb (py.ext 0 (ct _)).size) fun L5 a4 L6 F=> ?_
   ·have A0:({s2 with aH:=[]}:au).ro=st.ro:=py.bD.2
    rw[A0];exact dv.ext (py.ext 0 (ct _))
   have Ys:pw C fid vars N base st.H.length l w.heap.size iC.b b3 es bA st G w (d++[i]) kU L5 a4 L6:=
    py.on nG (aI _) F.rel F.ext jI ⟨yG.1.len,cA yG.1.low E5,yG.1.same⟩ yG.2 F.marks
   have rT:∃d s az,Inv d s/\d.Nodup/\(∀i∈d,i<bA.length)/\(leftOf es (jP es d)).size<bJ/\pw C fid vars N base st.H.length l w.heap.size iC.b b3 es bA st G w d s az a4 L6:=by
    refine⟨d++[i],kU,L5,FR,ra.2 ⟨LS,by simp,fun x hx y hy=> ?_⟩,fun x hx=> ?_,by omega,Ys⟩
    ·simp only[cY,u7,or_false]at hy
     subst hy;exact fun q=>hid (q ▸ hx)
    ·rcases hN.1 hx with q|q
     ·exact kM x q
     ·simp only[cY,u7,or_false]at q
      subst q;omega
   rcases Ym with rfl|rfl
   ·exact rT
   ·show(if fV=fV then _ else _)
    rw[if_pos rfl];exact rT
 ·have ed:(jO it st).H.length=st.H.length+1:=by unfold jO;simp
  have ae:=cc (st.H.length+1) (by show st.H.length+1<=(jO it st).H.length;rw[ed];exact aI _);have fa:=r0 0 st.H.length (aI _)
  have pg:(⟨b0 G.β st.H.length ⟨w.heap.size,0,0,false⟩,G.I⟩:bw).β l=some iC:=by
   show b0 G.β st.H.length ⟨w.heap.size,0,0,false⟩ l=some iC;rw[cZ (by omega)];exact A9
  have vE:(⟨b0 G.β st.H.length ⟨w.heap.size,0,0,false⟩,G.I⟩:bw).β st.H.length=some ⟨w.heap.size,0,0,false⟩:=cM _ _ _;refine⟨[],jO it st,G',ua,zZ,fun i hi=>(by cases hi),xk _,⟨⟨bq.rel,bq.env,bq.size,?_⟩,⟨⟨?_,ig _ _,fun x hx=> ?_⟩,rfl⟩,?_,fun m hm=> ?_,?_,?_,?_,?_,?_,?_,?_⟩⟩
  ·exact lp.low
  ·show st.H.length<=(jO it st).H.length
   omega
  ·have dV:x<min st.low st.H.length:=hx
   show(st.H++[bd.gone])[x]? =_;rw[ft (by omega)]
  ·omega
  ·exact(r0 m st.H.length (aI _)).trans ((cc m (by show m<=(jO it st).H.length;omega)).le (aI _) (by show st.H.length<=(jO it st).H.length;omega))
  ·rw[eY]
   exact(dX.ext fa).ext ae
  ·exact wo ae vE rfl
  ·exact wo ae pg X9
  ·show(st.H++[bd.gone])[st.H.length]? =_
   simp
  ·show(st.H++[bd.gone])[l]? =_
   rw[ft nG];exact px
  ·have:=wm ae lp.rel vE (xk _)
   rw[this];exact j4 _ _
  ·have:=wm ae lp.rel pg (by omega)
   rw[this,alloc_old (aa.rel.cL _ _ A9)];exact dT
theorem Yt (cr:C.P.follows .mixedOrders=true)(bu:eh C fid)(bh:gh C fid call){i0 i1 i2:Nat}{hG on ks:Oper}{kt ku ka:Array Oper}{oE nH nI:List Oper}
  {mt it aA more pair out fV:Nat} {tm r1 r2:TypeId} {body:Code} {R:e4}
  (h0:kt.toList=oE++[hG]) (tH:c7 (C.oper vars N kt) oE=some R.t0) (yv:C.bF vars (.tmp mt)=some R.src) (wq:hG.op=.range tm (.tmp mt)) (yw:hG.dst=some it) (yx:hG.guard=none) (hit:it<N) (yy:C.P.underlying tm=some (.map r1 r2))
  (h1:ku.toList=on::nH) (tY:on.op=.next (.tmp it) false) (hnd:on.dst=some aA) (wu:on.guard=none) (lq:aA<N)
  (h2:ka.toList=ks::nI) (wv:ks.op=.entry (.tmp it)) (yz:ks.dst=some pair) (yA:ks.guard=none) (yB:pair<N)
  (tZ:vars.contains it=true) (wx:R.aA=(aA,vars.contains aA)) (yC:R.pair=(pair,vars.contains pair))
  (rO:c7 (C.oper vars N ku) nH=some R.t1) (oh:c7 (C.oper vars N ka) nI=some R.t2) (wy:C.bF vars (.tmp more)=some R.more) (yD:C.code vars N body=some R.body) (FO:R.fV=fV) (FP:R.it=it)
  {jd st:au} {wr:List Bool} (he:cX call R.t0 {jd with aH:=[]} []=some (st,wr)) {l:Nat} {bA:List (V × V)} (qB:R.src.ag st.aH st.ax=.map l) (px:st.H[l]? =some (.map bA)) (Inv:List Nat->au->Prop) (Out:au->Prop)
  (ua:Inv [] (jO it st)) (r3:∀d s,Inv d s->cJ s.ax it=.ptr st.H.length 0)
  (nJ:∀d s,Inv d s->∀i e5,i∉d->bA[i]? =some e5->∃ao,R.round call n e5.1 e5.2 s=some ao/\st.H.length<ao.low/\Inv (d++[i]) ao)
  (gY:∀d s,Inv d s->d.Nodup->(∀i,i∈d↔i<bA.length)->∃ao,R.fin call s=some ao/\st.H.length<ao.low/\Out ao)
  {a:Act} {ro:Option Nat} {base:Nat} {Q:Exit->Act->World->Prop} (aa:dj C fid vars N G jd a w) (dv:rY G jd.ro ro) (dX:jw C G w base a.defers) (hb:base<=w.heap.size)
  (c9:∀ao G' bg w',Out ao->fh jd {ao with low:=min st.low st.H.length}->Fin C fid vars N base jd G w {ao with low:=min st.low st.H.length} G' bg w'->Q .normal bg w'):
  (Code.seq (.region i0 kt false) (.block out (.loop (.seq (.region i1 ku false) (.seq (.cond (.tmp more) .skip (.exit out)) (.block fV (.seq (.region i2 ka false) body))))))).wpIn (dO ro) 0 C.P Q a w:=by
 have cy:=po bh.bD _ _ _ _ _ (show({jd with aH:=[]}:au).low<=({jd with aH:=[]}:au).H.length from aa.low) he;have FX:fh jd st:=cy;have du:kt.size=oE.length+1:=by rw[<-e9,h0];simp
 refine wpIn_seq (wpIn_region ?_);rw[du,IK];refine X2 bu bh (k0:=0) (fun j hj=>by rw[dK,<-fN,h0,ft hj]) tH aa.clear he fun az av aG bq cc eY=> ?_;have fa:=cc 0 (ct _);have hk:kt[0+oE.length]? =some hG:=by rw[dK,<-fN,h0];simp
 have L7:jw C az aG base av.defers:=by rw[eY];exact dX.ext fa
 rw[sK,wpOpsIn_cons]
 exact(X7 (n:=n) cr bu bh hk yv wq yw yx hit yy h1 tY hnd wu lq h2 wv yz yA yB tZ wx yC rO oh wy yD FO FP qB px Inv Out ua r3 nJ gY bq (by rw[FX.2];exact dv.ext fa) L7 (cA hb fa.size)
  fun ao G' bg w' ho af F=>c9 ao G' bg w' ho (FX.trans af) ((Fin.trans (st:=jd) (st1:=st) ⟨bq,cc,L7⟩ F FX af)))
end
end Go.Abs
namespace Go.Abs
open Go
variable{C:Ctx}{fid:Nat->Nat}{w w':World}{G G':bw}{H H':Heap}
section
variable{vars:List Nat}{N:Nat}{call:cj}{n:Nat}
def dP (C:Ctx)(fid:Nat->Nat)(vars:List Nat)(N:Nat)(c:Code)(st:au)(Out:X->au->Prop):Prop:=
 ∀(G:bw) (a:Act) (w:World) (ro:Option Nat) (base:Nat) (Q:Exit->Act->World->Prop),dj C fid vars N G st a w->rY G st.ro ro->jw C G w base a.defers->base<=w.heap.size->
  (∀x aV G' bg w',Out x aV->fh st aV->Fin C fid vars N base st G w aV G' bg w'->Q (vT x) bg w')->c.wpIn (dO ro) 0 C.P Q a w
theorem dP.exec (cr:C.P.follows .mixedOrders=true)(bu:eh C fid)(bh:gh C fid call){c:Code}{ac:bP}(hc:C.code vars N c=some ac){st aV:au}{x:X}(he:Abs.exec call n ac st=some (x,aV)):
  dP C fid vars N c st (fun y s=>y=x/\s=aV):=fun G a w ro base Q aa dv dX hb c9=>
 oC (n:=n) cr bu bh c _ _ _ hc _ _ _ he G a w ro base Q aa dv dX hb fun G' bg w' F=>c9 x aV G' bg w' ⟨rfl,rfl⟩ (j9 bh.bD n _ _ _ _ aa.low he) F
theorem dP.mono{c:Code}{st:au}{Out L8:X->au->Prop}(h:dP C fid vars N c st Out)(hm:∀x s,Out x s->L8 x s):dP C fid vars N c st L8:=fun G a w ro base Q aa dv dX hb c9=>
 h G a w ro base Q aa dv dX hb fun x s G' bg w' ho=>c9 x s G' bg w' (hm x s ho)
theorem dP.seq{c d:Code}{st:au}{FY Out:X->au->Prop}(h1:dP C fid vars N c st FY)(h2:∀s,FY .normal s->dP C fid vars N d s Out)(aq:∀x s,x≠ .normal->FY x s->Out x s):
  dP C fid vars N (.seq c d) st Out:=fun G a w ro base Q aa dv dX hb c9=>by
 refine wpIn_seq (h1 G a w ro base _ aa dv dX hb fun x s az av aG ho af F=> ?_);cases x with
 |normal=>
  refine h2 s ho az av aG ro base _ F.rel (by rw[af.2];exact dv.ext (F.ext 0 (ct _))) F.marks (cA hb (F.ext 0 (ct _)).size) fun FD s2 a7 a2 bs Yu ud nE=> ?_;exact c9 FD s2 a7 a2 bs Yu (af.trans ud) (F.trans nE af ud)
 |exit id=>exact c9 (.exit id) s az av aG (aq _ _ (by simp) ho) af F
 |ret=>exact c9 .ret s az av aG (aq _ _ (by simp) ho) af F
structure FZ (C:Ctx) (vars:List Nat) (N:Nat) (c:Code) (R:e4):Prop where
 ok:∃(i0 i1 i2:Nat) (hG on ks:Oper) (kt ku ka:Array Oper) (oE nH nI:List Oper) (mt aA more pair out:Nat) (tm r1 r2:TypeId) (body:Code),
  c=.seq (.region i0 kt false) (.block out (.loop (.seq (.region i1 ku false) (.seq (.cond (.tmp more) .skip (.exit out)) (.block R.fV (.seq (.region i2 ka false) body))))))/\
  kt.toList=oE++[hG]/\c7 (C.oper vars N kt) oE=some R.t0/\C.bF vars (.tmp mt)=some R.src/\hG.op=.range tm (.tmp mt)/\hG.dst=some R.it/\hG.guard=none/\R.it<N/\C.P.underlying tm=some (.map r1 r2)/\
  ku.toList=on::nH/\on.op=.next (.tmp R.it) false/\on.dst=some aA/\on.guard=none/\aA<N/\
  ka.toList=ks::nI/\ks.op=.entry (.tmp R.it)/\ks.dst=some pair/\ks.guard=none/\pair<N/\
  vars.contains R.it=true/\R.aA=(aA,vars.contains aA)/\R.pair=(pair,vars.contains pair)/\
  c7 (C.oper vars N ku) nH=some R.t1/\c7 (C.oper vars N ka) nI=some R.t2/\C.bF vars (.tmp more)=some R.more/\C.code vars N body=some R.body
theorem dP.range (cr:C.P.follows .mixedOrders=true)(bu:eh C fid)(bh:gh C fid call){c:Code}{R:e4}(hc:FZ C vars N c R){jd st:au}{wr:List Bool}(he:cX call R.t0 {jd with aH:=[]} []=some (st,wr))
  {l:Nat} {bA:List (V × V)} (qB:R.src.ag st.aH st.ax=.map l) (px:st.H[l]? =some (.map bA)) (Inv:List Nat->au->Prop) (Out:au->Prop)
  (ua:Inv [] (jO R.it st)) (r3:∀d s,Inv d s->cJ s.ax R.it=.ptr st.H.length 0)
  (nJ:∀d s,Inv d s->∀i e5,i∉d->bA[i]? =some e5->∃ao,R.round call n e5.1 e5.2 s=some ao/\st.H.length<ao.low/\Inv (d++[i]) ao)
  (gY:∀d s,Inv d s->d.Nodup->(∀i,i∈d↔i<bA.length)->∃ao,R.fin call s=some ao/\st.H.length<ao.low/\Out ao):
  dP C fid vars N c jd (fun x s=>x=.normal/\∃ao,Out ao/\s={ao with low:=min st.low st.H.length}):=fun G a w ro base Q aa dv dX hb c9=>by
 obtain⟨i0,i1,i2,hG,on,ks,kt,ku,ka,oE,nH,nI,mt,aA,more,pair,out,tm,r1,r2,body,rfl,h0,tH,yv,wq,yw,yx,hit,yy,h1,tY,hnd,wu,lq,h2,wv,yz,yA,yB,tZ,wx,yC,rO,oh,wy,yD⟩:=hc.ok
 exact Yt cr bu bh h0 tH yv wq yw yx hit yy h1 tY hnd wu lq h2 wv yz yA yB tZ wx yC rO oh wy yD rfl rfl he qB px Inv Out ua r3 nJ gY aa dv dX hb
  fun ao G' bg w' ho af F=>c9 .normal _ G' bg w' ⟨rfl,ao,ho,rfl⟩ af F
def wz{α:Type}:List α->Option (List α × α)
 |[]=>none
 |a::l=>match wz l with
  |none=>some ([],a)
  |some (r,b)=>some (a::r,b)
theorem Yv{α:Type}:∀{l:List α},wz l=none->l=[]
 |[],_=>rfl
 |a::l,h=>by simp only[wz]at h;split at h<;>cases h
theorem L9{α:Type}:∀{l r:List α} {b:α},wz l=some (r,b)->l=r++[b]
 |[],_,_,h=>by cases h
 |a::l,r,b,h=>by
  simp only[wz]at h;split at h
  ·rename_i hn;cases h;rw[Yv hn];rfl
  ·rename_i lS dE hn;cases h;rw[L9 hn];rfl
def F0 (C:Ctx)(vars:List Nat)(N:Nat):Code->Option e4
 | .seq (.region _ kt false) (.block out (.loop (.seq (.region _ ku false) (.seq (.cond (.tmp more) .skip (.exit Ma)) (.block fV (.seq (.region _ ka false) body))))))=>
   match wz kt.toList,ku.toList,ka.toList with
   |some (oE,⟨some it,.range tm (.tmp mt),_,_,_,none⟩),⟨some aA,.next (.tmp Mb) false,_,_,_,none⟩::nH,⟨some pair,.entry (.tmp Mc),_,_,_,none⟩::nI=>
    match C.P.underlying tm,c7 (C.oper vars N kt) oE,C.bF vars (.tmp mt),c7 (C.oper vars N ku) nH,c7 (C.oper vars N ka) nI,C.bF vars (.tmp more),C.code vars N body with
    |some (.map _ _),some t0,some src,some t1,some t2,some pk,some b=>
     if Ma=out/\Mb=it/\Mc=it/\it<N/\aA<N/\pair<N/\vars.contains it=true then some ⟨t0,src,it,(aA,vars.contains aA),t1,pk,fV,(pair,vars.contains pair),t2,b⟩else none
    | _,_,_,_,_,_,_=>none
   | _,_,_=>none
 | _=>none
theorem Md{c:Code}{R:e4}(h:F0 C vars N c=some R):FZ C vars N c R:=by
 unfold F0 at h;split at h
 ·rename_i i0 kt out i1 ku more Ma fV i2 ka body
  split at h
  ·rename_i oE it tm mt air ais ait aA Mb aiu Fu aiv nH pair Mc aiw aix aiy nI fa ae ai
   split at h
   ·rename_i r1 r2 t0 src t1 t2 pk b gf Yw us iu Yx Yy Yz
    split at h
    ·rename_i hc
     obtain⟨rfl,rfl,rfl,h1,h2,aq,bf⟩:=hc;cases h;exact⟨_,_,_,_,_,_,_,_,_,_,_,_,_,_,_,_,_,_,_,_,_,rfl,L9 fa,Yw,us,rfl,rfl,rfl,h1,gf,ae,rfl,rfl,rfl,h2,ai,rfl,rfl,rfl,aq,bf,rfl,rfl,iu,Yx,Yy,Yz⟩
    ·cases h
   ·cases h
  ·cases h
 ·cases h
def yH (d:List Nat)(k:Nat):List Nat:=(List.range k).filter fun i=>!d.contains i
def e4.all (R:e4)(call:cj)(n:Nat)(bA:List (V × V))(li:Nat):Nat->List Nat->au->Option (List au)
 |0,_,_=>none
 |f+1,d,s=>
  if de (cJ s.ax R.it) (.ptr li 0)=true then
   match yH d bA.length with
   |[]=>match R.fin call s with
    |some ao=>if Nat.blt li ao.low=true then some [ao]else none
    |none=>none
   |i::is=>(c7 (fun i=>match bA[i]? with
     |some e5=>match R.round call n e5.1 e5.2 s with
      |some ao=>if Nat.blt li ao.low=true then R.all call n bA li f (d++[i]) ao else none
      |none=>none
     |none=>none) (i::is)).map List.flatten
  else none
theorem Me{α β:Type}{f:α->Option β}:∀{l:List α} {aB:List β},c7 f l=some aB->∀{a:α},a∈l->∃b∈aB,f a=some b
 |[],_,_,_,h=>by cases h
 |x::l,aB,hm,a,h=>by
  simp only[c7]at hm;split at hm
  ·rename_i b hb
   split at hm
   ·rename_i aiz xS
    cases hm;rcases cY.1 h with rfl|h
    ·exact⟨b,by simp,hb⟩
    ·obtain⟨dE,h1,h2⟩:=Me xS h
     exact⟨dE,by simp[h1],h2⟩
   ·cases hm
  ·cases hm
theorem e4.F1{R:e4}{bA:List (V × V)}{li f:Nat}{d:List Nat}{s:au}{o:List au}(h:R.all call n bA li f d s=some o):cJ s.ax R.it=.ptr li 0:=by
 cases f with
 |zero=>cases h
 |succ f=>
  simp only[e4.all]at h;split at h
  ·rename_i a8;exact rS _ _ a8
  ·cases h
theorem dP.YA (cr:C.P.follows .mixedOrders=true)(bu:eh C fid)(bh:gh C fid call){c:Code}{R:e4}(hc:FZ C vars N c R){jd st:au}{wr:List Bool}(he:cX call R.t0 {jd with aH:=[]} []=some (st,wr)){l:Nat}{bA:List (V × V)}
  (qB:R.src.ag st.aH st.ax=.map l) (px:st.H[l]? =some (.map bA)) {f:Nat} {outs:List au} (ha:R.all call n bA st.H.length f [] (jO R.it st)=some outs):
  dP C fid vars N c jd (fun x s=>x=.normal/\∃ao∈outs,s={ao with low:=min st.low st.H.length}):=by
 refine dP.range (n:=n) cr bu bh hc he qB px (fun d s=>∃f o,R.all call n bA st.H.length f d s=some o/\∀x∈o,x∈outs) (fun s=>s∈outs) ⟨f,outs,ha,fun _ h=>h⟩ (fun d s ⟨f,o,h,_⟩=>e4.F1 h) ?_ ?_
 ·rintro d s ⟨f,o,h,hs⟩ i e5 hid mH
  have hit:=e4.F1 h
  have nL:i<bA.length:=by
   rcases fF i bA.length with q|q
   ·exact q
   ·rw[k6 q]at mH;cases mH
  have gg:i∈yH d bA.length:=by
   unfold yH;simp[nL,hid]
  cases f with
  |zero=>cases h
  |succ f=>
   simp only[e4.all,hit]at h;split at h
   ·split at h
    ·rename_i hr;rw[hr]at gg;cases gg
    ·rename_i j is hr
     rw[hr]at gg;obtain⟨os,vp,rfl⟩:=bW.1 h;obtain⟨b,hb,ue⟩:=Me vp gg;rw[mH]at ue;simp only at ue;split at ue
     ·rename_i ao cE
      split at ue
      ·rename_i jI
       refine⟨ao,cE,?_,f,b,ue,fun x hx=>hs x (List.mem_flatten.2 ⟨b,hb,hx⟩)⟩;have:=mj jI;omega
      ·cases ue
     ·cases ue
   ·cases h
 ·rintro d s ⟨f,o,h,hs⟩ _ fw
  have hit:=e4.F1 h;cases f with
  |zero=>cases h
  |succ f=>
   have hr:yH d bA.length=[]:=by
    unfold yH;rw[List.filter_eq_nil_iff];intro i hi;have:=(fw i).2 (List.mem_range.1 hi);simp[this]
   simp only[e4.all,hr]at h;split at h
   case isFalse=>cases h
   cases af:R.fin call s with
   |none=>rw[af]at h;cases h
   |some ao=>
    rw[af]at h;simp only at h;split at h
    ·rename_i jI
     cases h;refine⟨ao,rfl,?_,hs _ (by simp)⟩;have:=mj jI;omega
    ·cases h
end
theorem Mf (bu:eh C fid){fU:Nat}{fn:Func}{c:Code}{mb:List ki}{fresh:Bool}(af:C.P.funcs[fU]? =some fn)(hb:fn.body=some c)(nD:c7 C.res fn.results.toList=some mb)
  {args:List V} {v:V} {low':Nat} {xs:List Value} (hlen:args.length<=fn.ntmps)
  (YB:dP C fid (Ctx.varsOf fn) fn.ntmps c {aH:=[],ax:=fo 0 args,H,low:=H.length} (fun x st=>(x=.normal\/x=.ret)/\∃vs,hY st.ax st.H mb=some vs/\finish fresh H (gn vs) st.H st.low=some (v,H',low')))
  (aa:aQ C fid G H w) (ad:aW fid G w args xs):Calls C.P fU ⟨xs⟩ w (fun e w'=>∃x,e=.returned x/\iY C fid G H w v H' low' x w'):=by
 have iW:=ad.length
 have gK:dj C fid (Ctx.varsOf fn) fn.ntmps G {aH:=[],ax:=fo 0 args,H,low:=H.length} {tmps:=(⟨xs⟩:Array Value)++Array.replicate (fn.ntmps-(⟨xs⟩:Array Value).size) undef,defers:=[]} w:=by
  refine⟨aa,fun t=> ?_,?_,aI _⟩
  ·unfold df
   split
   ·rw[FF]
    simp only[ct,if_true,Nat.sub_zero];cases ha:args[t]? with
    |none=>exact .undef _
    |some u=>
     obtain⟨x,hx,tX⟩:=ad.get ha
     have aY:t<xs.length:=by
      rcases fF t xs.length with h|h
      ·exact h
      ·simp[k6 h]at hx
     have:((⟨xs⟩:Array Value)++Array.replicate (fn.ntmps-(⟨xs⟩:Array Value).size) undef).getD t undef=x:=by
      rw[q8,IG (by simpa using aY)];simp[hx]
     rw[this];exact tX
   ·exact .undef _
  ·simp only[sH,Array.size_replicate]
   show xs.length+(fn.ntmps-xs.length)=fn.ntmps;rw[iW];omega
 refine(callsIn_wide (n:=0)).1 (callsIn_of_wp_marks af hb trivial ?_);refine YB G _ w none w.heap.size _ gK trivial (.nil _ _ _) (aI _) fun x st G' bg w' ho dL F=> ?_;obtain⟨FJ,vs,hr,oy⟩:=ho;obtain⟨rs,FH,cI,hm,FI⟩:=F.marks
 have mD:LeavesInM Fence.wide 0 C.P fn bg.tmps (fun e w'=>∃x,e=.returned x/\iY C fid G H w v H' low' x w') bg.defers .returning w':=by
  rw[FH];refine A5 (m0:=fun m=>m<=st.low) rs w' cI hm FI F.rel.rel F.ext (fun _ _ _=>trivial) fun bs bM dC iv=> ?_
  obtain⟨x,hx,tX⟩:=LI nD bM (fun t ht=>by
   have:=F.rel.env t;rw[Fq (LK ht)]at this;exact iv this) hr
  exact⟨x,hx,x,rfl,LD aa bM dC dL.1 tX oy⟩
 rcases FJ with rfl|rfl
 ·exact mD
 ·exact mD
end Go.Abs
namespace Go.Abs
open Go
variable{C:Ctx}{fid:Nat->Nat}{w w':World}{G G':bw}{H H':Heap}
section
variable{vars:List Nat}{N:Nat}{call:cj}{n:Nat}
theorem dP.pre (cr:C.P.follows .mixedOrders=true)(bu:eh C fid)(bh:gh C fid call){c d:Code}{ac:bP}(hc:C.code vars N c=some ac){st aV:au}(he:Abs.exec call n ac st=some (.normal,aV))
  {Out:X->au->Prop} (h:dP C fid vars N d aV Out):dP C fid vars N (.seq c d) st Out:=
 dP.seq (dP.exec cr bu bh hc he) (fun s hs=>by rw[hs.2];exact h) fun x s hx hs=>absurd hs.1 hx
def Bd:List Code->Code->Code
 |[],d=>d
 |c::r,d=>.seq c (Bd r d)
def kb (call:cj)(n:Nat):List bP->au->Option au
 |[],st=>some st
 |c::r,st=>match Abs.exec call n c st with
  |some (.normal,s)=>kb call n r s
  | _=>none
theorem dP.Mg (cr:C.P.follows .mixedOrders=true)(bu:eh C fid)(bh:gh C fid call){d:Code}{Out:X->au->Prop}:∀{cs:List Code} {qD:List bP},c7 (C.code vars N) cs=some qD->∀{st aV:au},kb call n qD st=some aV->
  dP C fid vars N d aV Out->dP C fid vars N (Bd cs d) st Out
 |[],qD,hm,st,aV,he,h=>by
  simp only[c7,ay]at hm;subst hm;simp only[kb,ay]at he;subst he;exact h
 |c::cs,qD,hm,st,aV,he,h=>by
  simp only[c7]at hm;split at hm
  ·rename_i a ha
   split at hm
   ·rename_i aC has
    cases hm;simp only[kb]at he;split at he
    ·rename_i s hs
     exact dP.pre cr bu bh ha hs (dP.Mg cr bu bh has he h)
    ·cases he
   ·cases hm
  ·cases hm
end
structure iD where
 pre:List bP
 R:e4
 post:bP
 mb:List ki
def F2:X->Bool
 | .normal| .ret=>true
 | _=>false
def iD.ends (B:iD)(v:V):X × au->Bool:=fun(x,s)=>F2 x&&match hY s.ax s.H B.mb with
 |some vs=>match finish false [] (gn vs) s.H s.low with
  |some (u,H',l)=>de u v&&H'.isEmpty&&Nat.beq l 0
  |none=>false
 |none=>false
def iD.ok (B:iD)(call:cj)(n:Nat)(args:List V)(v:V):Bool:=
 match kb call n B.pre {aH:=[],ax:=fo 0 args,H:=[],low:=0}with
 |some jd=>match cX call B.R.t0 {jd with aH:=[]} []with
  |some (st,_)=>match B.R.src.ag st.aH st.ax with
   | .map l=>match st.H[l]? with
     |some (.map bA)=>match B.R.all call n bA st.H.length n [] (jO B.R.it st)with
      |some outs=>outs.all fun ao=>match exec call n B.post {ao with low:=min st.low st.H.length}with
       |some p=>B.ends v p
       |none=>false
      |none=>false
     | _=>false
   | _=>false
  |none=>false
 |none=>false
structure uf (C:Ctx) (fn:Func) (B:iD):Prop where
 ok:∃(cs:List Code) (wA wB:Code),fn.body=some (Bd cs (.seq wA wB))/\c7 (C.code (Ctx.varsOf fn) fn.ntmps) cs=some B.pre/\F0 C (Ctx.varsOf fn) fn.ntmps wA=some B.R/\C.code (Ctx.varsOf fn) fn.ntmps wB=some B.post/\
  c7 C.res fn.results.toList=some B.mb/\(fn.name== "runtime.NumGoroutine")=false
theorem iD.calls (cr:C.P.follows .mixedOrders=true)(bu:eh C fid){call:cj}(bh:gh C fid call){n fU:Nat}{fn:Func}{B:iD}(af:C.P.funcs[fU]? =some fn)(cw:uf C fn B){args:List V}{v:V}(hlen:args.length<=fn.ntmps)
  (bx:B.ok call n args v=true) {xs:List Value} (aa:aQ C fid G [] w) (ad:aW fid G w args xs):Calls C.P fU ⟨xs⟩ w (fun e w'=>∃x,e=.returned x/\iY C fid G [] w v [] 0 x w'):=by
 obtain⟨cs,wA,wB,hb,r4,F3,F4,nD,-⟩:=cw.ok;refine Mf bu af hb nD (fresh:=false) hlen ?_ aa ad;unfold iD.ok at bx;split at bx
 case h_2=>cases bx
 rename_i jd cG;split at bx
 case h_2=>cases bx
 rename_i st wr hex;split at bx
 case h_2=>cases bx
 rename_i l hl;split at bx
 case h_2=>cases bx
 rename_i bA YC;split at bx
 case h_2=>cases bx
 rename_i outs YD;refine dP.Mg cr bu bh r4 cG ?_;refine dP.seq (dP.YA cr bu bh (Md F3) hex hl YC YD) (fun s hs=> ?_) fun x s hx hs=>absurd hs.1 hx;obtain⟨-,ao,qE,rfl⟩:=hs;have h1:=eV.1 bx ao qE;split at h1
 case h_2=>cases h1
 rename_i p hp;obtain⟨x,s2⟩:=p;refine(dP.exec cr bu bh F4 hp).mono fun y kU hy=> ?_;obtain⟨rfl,rfl⟩:=hy;unfold iD.ends at h1;simp only[cH]at h1;obtain⟨h2,aq⟩:=h1;refine⟨?_,?_⟩
 ·cases y with
  |normal=>exact .inl rfl
  |ret=>exact .inr rfl
  |exit i=>cases h2
 ·split at aq
  case h_2=>cases aq
  rename_i vs cO;split at aq
  case h_2=>cases aq
  rename_i u H' k gY;simp only[cH]at aq;obtain⟨⟨bf,fe⟩,fj⟩:=aq;have ae:=rS _ _ bf
  have ai:H'=[]:=by cases H' with
   |nil=>rfl
   |cons=>cases fe
  have bz:k=0:=dm fj;subst ae;subst ai;subst bz;exact⟨vs,cO,gY⟩
def iD.iS (B:iD)(call:cj)(n:Nat)(N:Nat):List (List V × V)->Prop
 |[]=>True
 |(aC,v)::r=>(bS v=true/\Nat.ble aC.length N=true/\B.ok call n aC v=true)/\B.iS call n N r
theorem iD.A7 (cr:C.P.follows .mixedOrders=true)(bu:eh C fid){call:cj}(bh:gh C fid call){n fU:Nat}{fn:Func}{B:iD}(af:C.P.funcs[fU]? =some fn)(cw:uf C fn B):∀{l:List (List V × V)},B.iS call n fn.ntmps l->lv C fid fU (iR l):=by
 intro l hl G H w args v xs aa dW gp;obtain⟨cs,wA,wB,hb,-,-,-,-,qz⟩:=cw.ok;rw[wi af hb qz]
 induction l with
 |nil=>cases gp
 |cons p r ih=>
  obtain⟨aC,u⟩:=p;simp only[iR]at gp;cases e:hX args aC with
  |true=>
   rw[e]at gp;have h':some u=some v:=gp;cases h';have e':=mB _ _ e;subst e';obtain⟨⟨h1,h2,aq⟩,-⟩:=hl;have hc:=iD.calls cr bu bh af cw (mj h2) aq aa.apart (cD.la dW);exact sP hc fun e w'=>fun⟨x,ae,ai⟩=>⟨x,ae,ai.beside aa h1⟩
  |false=>rw[e]at gp;exact ih hl.2 gp
end Go.Abs
namespace Go.Abs.cb
open Go Go.Abs Go.Proofs
noncomputable section
def C (g:Nat->Option Obj):Ctx:={P:=Tryz.prog,Ae:=some,raw:=fun i=>i==13||i==20||i==34||i==58||i==61||i==62||i==63||i==64||i==65||i==66||i==67||i==68||i==140||i==143||i==144||i==168||i==222||i==264||i==313||i==327||i==341||i==342||i==343||i==344||i==345||i==346||i==348||i==349||i==364||i==365||i==366||i==381,ej:=g,gQ:=fun p=>!(p== "names.go:37" ||p== "parser.go:280"),ve:=[350],I4:=fun p=>p== "ref.go:86" }
def YE (i:Nat):Bool:=i==13||i==58||i==327
def Mh (i:Nat):Option (List V->Option V):=match i with
 |35=>some DU
 |148=>some DR
 |237=>some DV
 |289=>some DQ
 |292=>some DS
 |335=>some DT
 | _=>none
def gq (g:Nat->Option Obj):Nat->Option bQ:=fun i=>match Mh i with
 |some s=>some (.ext s)
 |none=>match Tryz.prog.funcs[i]? with
  |some f=>match(C g).func f (YE i)with
   |some a=>some (.code a)
   |none=>none
  |none=>none
end
end Go.Abs.cb
namespace Go.Abs.cb
open Go Go.Abs Go.Proofs
set_option maxRecDepth 100000
theorem YF (caps:Array Value):Aw Tryz.prog {target:=.fn (.func 350) caps,args:= #[]}:=by
 refine⟨_,caps,350,caps,rfl,fun w=>⟨by simp[invoke,go_sem],?_⟩⟩;refine callsDIn_of_wpSIn Tryz.func350 rfl trivial fun aiA cs hu=> ?_;have hn:Tryz.f350.ntmps=18:=by kernel_rfl
 rw[hn];generalize hT:caps++Array.replicate (18-caps.size) undef=T;have hs:18<=T.size:=by rw[<-hT,sH,Array.size_replicate];omega
 clear hT;apply wpSIn_seq;apply wpSIn_region;simp[wpOpsSIn,go_sem,recoverD,hu,Exit.thenS];apply wpSIn_seq;apply wpSIn_region;have aiB:∀(A:Array Value) (i:Nat),A.getD i undef=(A[i]?).getD undef:=fun A i=>q8 ..;have h1:1<T.size:=by omega
 have bf:4<T.size:=by omega
 have fe:5<T.size:=by omega
 have fj:6<T.size:=by omega
 simp[wpOpsSIn,go_sem,Exit.thenS,Act.eval,Act.put,Array.getElem?_setIfInBounds,h1,bf,fe,fj];refine wpSIn_cond (t:=false) (by simp[Act.eval,Array.getElem?_setIfInBounds,h1,bf,fe,fj]) ?_;simp only[ga,if_false];refine wpSIn_of_wpIn rfl (wpIn_skip ?_);have hr:Tryz.f350.results= #[]:=by kernel_rfl
 have aiC:Tryz.f350.resultTypes= #[]:=by kernel_rfl
 simp_all [bodyPostS,results];rw[<-hu]
theorem qF{g:Nat->Option Obj}:eh (C g) id:=⟨fun f i h=>by cases h;rfl,fun i hi caps=>by
 have pj:i∈[350]:=hi;simp only[cY,u7,or_false]at pj;subst pj;exact YF caps⟩
theorem mixed{g:Nat->Option Obj}:(C g).P.follows .mixedOrders=true:=by kernel_rfl
end Go.Abs.cb
namespace Go.Proofs
open Go.Shelf
def Tryz.YG:Go.Shelf.Ren:=⟨fun|161=>237|231=>299|227=>300|233=>301|235=>302|228=>336|197=>337|151=>338|260=>360|152=>361|137=>292|119=>377|224=>378|225=>379|217=>331|266=>356|n=>n,fun|9=>9|4=>4|3=>3|5=>5|117=>336|116=>335|0=>0|124=>339|105=>371|21=>21|119=>361|46=>94|139=>423|138=>422|n=>n,fun|3=>5|4=>6|n=>n⟩
theorem Tryz.YH:Go.Proofs.Lays.n161 Tryz.prog Tryz.YG:=by constructor<;>intros<;>kernel_rfl
open Go.RowKit in
theorem Tryz.strings_TrimLeft_one (s:ByteArray)(c:UInt8)(hc:c.toNat<128)(w:World):
 Calls Tryz.prog 237 #[.string s,.string ⟨#[c]⟩] w fun e w'=>e=.returned (.string ⟨(Lib.trimLeftB s.data.toList c).toArray⟩)/\w'=w:=Any.strings_TrimLeft_one Tryz.YH s c hc w
def Tryz.YI:Go.Shelf.Ren:=⟨fun|125=>35|128=>69|129=>70|n=>n,fun|46=>94|3=>3|51=>143|53=>145|4=>4|5=>5|9=>9|n=>n,fun|n=>n⟩
theorem Tryz.YJ:Go.Proofs.Lays.n125 Tryz.prog Tryz.YI:=by constructor<;>intros<;>kernel_rfl
theorem Tryz.bits_Len (x:Int)(w:World)(h0:0<=x)(h1:x<=18446744073709551615):
 Calls Tryz.prog 35 #[.int .u64 x] w fun e w'=>e=.returned (.int .i64 (Lib.bitLen x.toNat))/\w'=w:=Any.bits_Len Tryz.YJ x w h0 h1
def Tryz.YK:Go.Shelf.Ren:=⟨fun|137=>292|217=>331|266=>356|n=>n,fun|9=>9|5=>5|3=>3|n=>n,fun|n=>n⟩
theorem Tryz.YL:Go.Proofs.Lays.n137 Tryz.prog Tryz.YK:=by constructor<;>intros<;>kernel_rfl
open Go.RowKit in
theorem Tryz.strings_IndexByte (s:ByteArray)(c:Int)(w:World):
 Calls Tryz.prog 292 #[.string s,.int .u8 c] w fun e w'=>e=.returned (.int .i64 (Lib.indexByte s.data.toList c.toNat.toUInt8))/\w'=w:=Any.strings_IndexByte Tryz.YL s c w
def Tryz.YM:Go.Shelf.Ren:=⟨fun|172=>148|244=>234|245=>235|247=>293|279=>294|280=>295|281=>296|282=>297|287=>332|316=>333|171=>335|205=>334|321=>357|322=>358|243=>359|246=>376|283=>385|284=>386|285=>387|286=>388|129=>70|317=>391|318=>392|319=>393|320=>394|337=>396|338=>397|n=>n,fun|9=>9|3=>3|75=>222|76=>223|4=>4|5=>5|167=>325|37=>326|0=>0|85=>327|2=>2|168=>329|53=>145|175=>364|46=>94|210=>368|127=>395|145=>398|143=>396|21=>21|171=>428|173=>430|212=>432|51=>143|20=>20|213=>433|232=>434|233=>435|80=>159|n=>n,fun|15=>1|16=>2|17=>7|18=>8|19=>9|n=>n⟩
theorem Tryz.YN:Go.Proofs.Lays.n172 Tryz.prog Tryz.YM:=by constructor<;>intros<;>kernel_rfl
open Go.RowKit in
theorem Tryz.strconv_Atoi (s:ByteArray)(n:Int)(hl:s.size<=18)(h:Lib.atoi s.data.toList=some n)(w:World):
 Calls Tryz.prog 148 #[.string s] w fun e w'=>e=.returned (.tuple #[.int .i64 n,.nilIface])/\∃t,w'=Lib.bytesWorld w 5 t:=Any.strconv_Atoi Tryz.YN s n hl h w
def Tryz.YO:Go.Shelf.Ren:=⟨fun|171=>335|243=>359|246=>376|283=>385|284=>386|285=>387|286=>388|129=>70|317=>391|318=>392|319=>393|320=>394|337=>396|338=>397|n=>n,fun|3=>3|9=>9|2=>2|4=>4|171=>428|0=>0|53=>145|37=>326|5=>5|173=>430|212=>432|51=>143|20=>20|213=>433|46=>94|232=>434|233=>435|n=>n,fun|17=>7|18=>8|19=>9|n=>n⟩
theorem Tryz.YP:Go.Proofs.LaysM.n171 Tryz.prog Tryz.YO:=by constructor<;>intros<;>first|kernel_rfl|(constructor<;>intros<;>kernel_rfl)
open Go.RowKit Go.Sort Go.Lib in
theorem Tryz.strconv_Itoa (n:Int)(h0:-9223372036854775808<=n)(h1:n<=9223372036854775807)(w:World)(lx:Lib.TabIs Tryz.prog w "internal/strconv.uint64pow10" .u64 Lib.pow10Tab):
 Calls Tryz.prog 335 #[.int .i64 n] w fun e w'=>e=.returned (.string ⟨(Lib.itoa n).toArray⟩)/\∃k os,w'=grow (w.drewN k) os:=Any.strconv_Itoa Tryz.YP n h0 h1 w lx
def Tryz.YQ:Go.Shelf.Ren:=⟨fun|171=>335|243=>359|246=>376|283=>385|284=>386|285=>387|286=>388|129=>70|317=>391|318=>392|319=>393|320=>394|337=>396|338=>397|n=>n,fun|3=>3|9=>9|2=>2|4=>4|171=>428|0=>0|53=>145|37=>326|5=>5|173=>430|212=>432|51=>143|20=>20|213=>433|46=>94|232=>434|233=>435|n=>n,fun|17=>7|18=>8|19=>9|n=>n⟩
theorem Tryz.YR:Go.Proofs.Lays.n171 Tryz.prog Tryz.YQ:=by constructor<;>intros<;>kernel_rfl
open Go.RowKit Go.Sort Go.Lib in
theorem Tryz.strconv_Itoa_small (i:Nat)(hi:i<100)(w:World):
 Calls Tryz.prog 335 #[.int .i64 i] w fun e w'=>e=.returned (.string ⟨(Lib.decDigits i).toArray⟩)/\w'=w:=Any.strconv_Itoa_small Tryz.YR i hi w
def Tryz.YS:Go.Shelf.Ren:=⟨fun|157=>289|229=>328|199=>329|261=>355|311=>374|312=>375|n=>n,fun|9=>9|31=>226|3=>3|5=>5|4=>4|119=>361|0=>0|40=>363|152=>389|21=>21|154=>391|51=>143|141=>393|196=>412|193=>409|198=>415|49=>413|194=>410|201=>418|226=>426|46=>94|227=>427|n=>n,fun|0=>0|6=>3|n=>n⟩
theorem Tryz.YT:Go.Proofs.Lays.n157 Tryz.prog Tryz.YS:=by constructor<;>intros<;>kernel_rfl
open Go.RowKit Go.Lib in
theorem Tryz.strings_Fields (s:ByteArray)(w:World)(hs:s.size<4294967281)(YU:∀(j:Nat) b,s.data.toList[j]? =some b->b.toNat<128)(lx:Lib.TabIs Tryz.prog w "strings.asciiSpace" .u8 Lib.asciiSpaceTab):
 Calls Tryz.prog 289 #[.string s] w fun e w'=>
  e=.returned (.slice (some ⟨w.heap.size,0,none⟩) (Lib.fields s.data.toList).length (Lib.fields s.data.toList).length)/\w'=w.alloc (.cells ((Lib.fields s.data.toList).map fun l=>Value.string ⟨l.toArray⟩).toArray 9):=Any.strings_Fields Tryz.YT (by kernel_rfl) (by kernel_rfl) s w hs YU lx
end Go.Proofs
namespace Go.Abs.cb
open Go Go.Abs Go.Proofs
variable{fid:Nat->Nat}{g:Nat->Option Obj}
set_option maxRecDepth 100000 in
theorem ug{i:Nat}{fn:Func}(af:Tryz.prog.funcs[i]? =some fn)(hb:fn.body.isSome=true)(hn:(fn.name== "runtime.NumGoroutine")=false){R:Value->World->Prop}{xs:List Value}{w:World}
  (h:Calls Tryz.prog i ⟨xs⟩ w fun e w'=>∃x,e=.returned x/\R x w'):ow (C g).P R ((callFunc i ⟨xs⟩).run (C g).P w):=by
 obtain⟨c,hc⟩:=Option.isSome_iff_exists.1 hb;rw[wi (C:=C g) af hc hn];exact h
theorem yI{w:World}{I:Nat->Prop}{s:List UInt8}{x:Value}(h:ev w I (.str s) x):x=.string ⟨⟨s⟩⟩:=by cases h;rfl
theorem YV:Tryz.f292.body.isSome=true:=by kernel_rfl
theorem YW:(Tryz.f292.name== "runtime.NumGoroutine")=false:=by kernel_rfl
theorem YX:Tryz.f148.body.isSome=true:=by kernel_rfl
theorem YY:(Tryz.f148.name== "runtime.NumGoroutine")=false:=by kernel_rfl
theorem YZ:Tryz.f289.body.isSome=true:=by kernel_rfl
theorem Y0:(Tryz.f289.name== "runtime.NumGoroutine")=false:=by kernel_rfl
theorem Mi:Tryz.f335.body.isSome=true:=by kernel_rfl
theorem Mj:(Tryz.f335.name== "runtime.NumGoroutine")=false:=by kernel_rfl
set_option maxRecDepth 100000 in
theorem Y1 (lx:∀(G:bw) (H:Heap) (w:World),aQ (C g) id G H w->Lib.TabIs Tryz.prog w "internal/strconv.uint64pow10" .u64 Lib.pow10Tab):lv (C g) id 335 DT:=by
 intro G H w args v xs aa dW hs;unfold DT at hs;split at hs
 ·rename_i n
  split at hs
  ·rename_i hn
   cases hs;obtain⟨k,rfl⟩:=CU hn.1;cases dW with
   |cons _ x _ xs h1 iw=>
    cases iw;cases h1;have hk:k<10:=by omega
    refine ug Tryz.func335 Mi Mj ((Tryz.strconv_Itoa_small k (by omega) w).mono ?_);rintro e w' ⟨rfl,rfl⟩;rw[Lib.decDigits_one hk];exact⟨_,rfl,G,aa,fun m _=>.refl _ _ _ _,.p _ _ (.str _)⟩
  ·split at hs
   ·rename_i hn
    cases hs;cases dW with
    |cons _ x _ xs h1 iw=>
     cases iw;cases h1;refine ug Tryz.func335 Mi Mj ((Tryz.strconv_Itoa n (by omega) (by omega) w (lx G H w aa)).mono ?_);rintro e w' ⟨rfl,q,os,rfl⟩
     have ae:Lib.itoa n=[45,UInt8.ofNat (48+n.natAbs)]:=by
      unfold Lib.itoa;rw[if_pos hn.2,Lib.decDigits_one (by omega)]
     have du:w.heap.size<=(Sort.grow (w.drewN q) os).heap.size:=by simp[Sort.grow,World.drewN]
     have hk:∀b,b<w.heap.size->(Sort.grow (w.drewN q) os).heap[b]? =w.heap[b]? :=fun b hb=>by
      simp only[Sort.grow,World.drewN];rw[IG hb]
     rw[ae];exact⟨_,rfl,G,aa.restore du hk,fun m _=>.restore du hk rfl rfl m _,.p _ _ (.str _)⟩
   ·cases hs
 ·cases hs
set_option maxRecDepth 100000 in
theorem Y2:lv (C g) id 292 DS:=by
 intro G H w args v xs aa dW hs;unfold DS at hs;split at hs
 ·rename_i s c
  cases hs;cases dW with
  |cons _ x _ xs h1 iw=>
   cases iw with
   |cons _ y _ bX h2 nq=>
    cases nq;cases h2;obtain rfl:=yI h1;refine ug Tryz.func292 YV YW ((Tryz.strings_IndexByte _ c w).mono ?_);rintro e w' ⟨rfl,rfl⟩;exact⟨_,rfl,G,aa,fun m _=>.refl _ _ _ _,.p _ _ (.int .i64 _)⟩
 ·cases hs
set_option maxRecDepth 100000 in
theorem Y3:lv (C g) id 148 DR:=by
 intro G H w args v xs aa dW hs;unfold DR at hs;split at hs
 ·rename_i s
  split at hs
  ·rename_i hl
   obtain⟨n,hn,rfl⟩:=bW.1 hs;cases dW with
   |cons _ x _ xs h1 iw=>
    cases iw;obtain rfl:=yI h1;refine ug Tryz.func148 YX YY ((Tryz.strconv_Atoi ⟨⟨s⟩⟩ n hl hn w).mono ?_);rintro e w' ⟨rfl,t,rfl⟩
    have du:w.heap.size<=(Lib.bytesWorld w 5 t).heap.size:=by
     unfold Lib.bytesWorld World.freeze;have h0:w.drew.heap=w.heap:=rfl;split<;>simp[h0]
    have hk:∀b,b<w.heap.size->(Lib.bytesWorld w 5 t).heap[b]? =w.heap[b]? :=fun b hb=>by
     have h1:(w.drew.alloc (.cells (Lib.bytesCells w 5 t) 5)).heap[b]? =w.heap[b]? :=alloc_old (w:=w.drew) hb;unfold Lib.bytesWorld World.freeze;split
     ·exact h1
     ·show(Array.modify _ _ _)[b]? =_
      rw[II,if_neg (fun e=>by have e':w.heap.size=b:=e;omega)];exact h1
    have vp:(Lib.bytesWorld w 5 t).os=w.os/\(Lib.bytesWorld w 5 t).tape=w.tape/\(Lib.bytesWorld w 5 t).output=w.output:=by
     unfold Lib.bytesWorld World.freeze;split<;>exact⟨rfl,rfl,rfl⟩
    refine⟨_,rfl,G,aa.restore du hk,fun m _=>.restore du hk vp.1 vp.2.2 m _,.p _ _ (.aR _ _ (.cons _ _ _ _ (.int .i64 n) (.cons _ _ _ _ .gP .nil)))⟩
  ·cases hs
 ·cases hs
theorem Mk{w:World}{I:Nat->Prop}:∀(l:List (List UInt8)),cD w I ((l.map V.str).flatMap aL) (l.map fun x=>Value.string ⟨x.toArray⟩)
 |[]=>.nil
 |a::l=>.cons _ _ _ _ (.str a) (Mk l)
set_option maxRecDepth 100000 in
theorem Y4 (lx:∀(G:bw) (H:Heap) (w:World),aQ (C g) id G H w->Lib.TabIs Tryz.prog w "strings.asciiSpace" .u8 Lib.asciiSpaceTab):lv (C g) id 289 DQ:=by
 intro G H w args v xs aa dW hs;unfold DQ at hs;split at hs
 ·rename_i s
  split at hs
  ·rename_i hc
   simp only[cH,decide_eq_true_eq]at hc;cases hs;cases dW with
   |cons _ x _ xs h1 iw=>
    cases iw;obtain rfl:=yI h1;refine ug Tryz.func289 YZ Y0 ((Tryz.strings_Fields ⟨⟨s⟩⟩ w hc.2 (fun j b hb=> ?_) (lx G H w aa)).mono ?_)
    ·have:=eV.1 hc.1 b (ml hb)
     have h':=UInt8.lt_iff_toNat_lt.1 (of_decide_eq_true this);simpa using h'
    rintro e w' ⟨rfl,rfl⟩;refine⟨_,rfl,⟨G.β,fun b=>G.I b\/(b=w.heap.size/\True)⟩,aa.nw _ True,fun m _=>.nw _ True m _,?_⟩;refine .p _ _ ?_;cases af:Lib.fields s with
    |nil=>simp only[Db,if_true,n3];exact .emp _
    |cons a r=>
     simp only[List.isEmpty_cons,ga,if_false];rw[<-eA (f:=V.str)];refine .list 1 _ _ 0 _ _ (.inr ⟨rfl,trivial⟩) ?_ (fun d hd=> ?_) (Mk (a::r)) (aI _)
     ·intro j x hx
      rw[JP (j4 w _),dK,<-fN];exact hx
     ·obtain⟨y,-,rfl⟩:=dn.1 hd
      rfl
  ·cases hs
 ·cases hs
theorem Y5:Tryz.f35.body.isSome=true:=by kernel_rfl
theorem Y6:(Tryz.f35.name== "runtime.NumGoroutine")=false:=by kernel_rfl
set_option maxRecDepth 100000 in
theorem Y7:lv (C g) id 35 DU:=by
 intro G H w args v xs aa dW hs;unfold DU at hs;split at hs
 ·rename_i n
  split at hs
  ·rename_i hn
   cases hs;cases dW with
   |cons _ x _ xs h1 iw=>
    cases iw;cases h1;refine ug Tryz.func35 Y5 Y6 ((Tryz.bits_Len n w (by omega) (by omega)).mono ?_);rintro e w' ⟨rfl,rfl⟩;exact⟨_,rfl,G,aa,fun m _=>.refl _ _ _ _,.p _ _ (.int .i64 _)⟩
  ·cases hs
 ·cases hs
theorem Y8:Tryz.f237.body.isSome=true:=by kernel_rfl
theorem Y9:(Tryz.f237.name== "runtime.NumGoroutine")=false:=by kernel_rfl
set_option maxRecDepth 100000 in
theorem Za:lv (C g) id 237 DV:=by
 intro G H w args v xs aa dW hs;unfold DV at hs;split at hs
 ·rename_i s c
  split at hs
  ·rename_i hc
   cases hs;cases dW with
   |cons _ x _ xs h1 iw=>
    cases iw with
    |cons _ y _ bX h2 nq=>
     cases nq;obtain rfl:=yI h1;obtain rfl:=yI h2;have qe:c.toNat<128:=by simpa using UInt8.lt_iff_toNat_lt.1 hc
     refine ug Tryz.func237 Y8 Y9 ((Tryz.strings_TrimLeft_one ⟨⟨s⟩⟩ c qe w).mono ?_);rintro e w' ⟨rfl,rfl⟩;exact⟨_,rfl,G,aa,fun m _=>.refl _ _ _ _,.p _ _ (.str _)⟩
  ·cases hs
 ·cases hs
end Go.Abs.cb
