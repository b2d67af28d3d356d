/- Texts of this claim, joined and written short by a program. -/
import Derived.Test.YtdoflpjbdlgciaaGreatDoorP08
import Derived.Test.YtdoflpjbdlgciaaGreatDoorP01
import Derived.Test.YtdoflpjbdlgciaaGreatDoorProg
import Derived.Test.YtdoflpjbdlgciaaGreatDoorP02
import Derived.Tactics
import Derived.Tactics2
import Derived.Defers
import Derived.Recover
import Derived.Laws.Pointers
import Derived.TacticsInMore
import Derived.RegionIn
import Derived.LoopNIn
import Derived.RecoverIn
import Derived.Shelf.Strings.OnBuilder
import Derived.Shelf.Strings.Trim
import Derived.Shelf.Small.Bits
import Derived.Shelf.Small.Strs
import Derived.Shelf.Strconv.Atoi
import Derived.Shelf.Strconv.Itoa3
import Derived.Shelf.Strings.Fields
import Derived.Test.YtdoflpjbdlgciaaGreatDoorP00
set_option linter.unusedVariables false
set_option linter.unusedSimpArgs false
set_option linter.unusedSectionVars false
namespace Go.Abs
open Go
variable{C:Ctx}{fid:Nat->Nat}{w w':World}{G G':cc}{H H':Heap}
structure fJ where
 t0:List bP
 src:aj
 it:Nat
 aC:Nat × Bool
 t1:List bP
 more:aj
 ef:Nat
 pair:Nat × Bool
 t2:List bP
 body:b8
def fJ.step (R:fJ)(call:c1)(e:V)(st:au):Option au:=
 match c5 call R.t1 (({st with aG:=[]}:au).put (some R.aC) e) []with
 |some (aX,_)=>some {aX with aG:=[]}
 |none=>none
def fJ.round (R:fJ)(call:c1)(n:Nat)(k v:V)(st:au):Option au:=
 match R.step call (.bd [.bool true,k,v]) {st with low:=st.H.length}with
 |some cm=>match R.more.ai cm.aG cm.aw with
  | .bool true=>
    if ek (bR cm.aw R.it) (bR st.aw R.it)=true then
     match c5 call R.t2 (({cm with aG:=[]}:au).put (some R.pair) (.bd [k,v])) []with
     |some (gP,_)=>match exec call n R.body {gP with aG:=[]}with
      |some (.normal,lU)=>some lU
      |some (.exit id,lU)=>if id=R.ef then some lU else none
      | _=>none
     |none=>none
    else none
  | _=>none
 |none=>none
def fJ.fin (R:fJ)(call:c1)(st:au):Option au:=
 match R.step call (.bd [.bool false]) {st with low:=st.H.length}with
 |some cm=>match R.more.ai cm.aG cm.aw with
  | .bool false=>some cm
  | _=>none
 |none=>none
def iA (it:Nat)(st:au):au:={st with aG:=[],aw:=fN st.aw it (.ptr st.H.length 0),H:=st.H++[.gone]}
section
variable{vars:List Nat}{N:Nat}{call:c1}{n:Nat}
theorem Ch{id:Nat}{ops:Array Oper}{hN:Oper}{os:List Oper}{d0:Nat}{bK:List bP}{cm aX:au}{wr:List Bool}{a:Act}{x:Value}{aE:World}{az:cc}{Q:Exit->Act->World->Prop}{ro:Option Nat}
  (bF:fp C fid) (bn:hB C fid call) (pX:ops.toList=hN::os) (hd:hN.dst=some d0) (bx:hN.guard=none) (hnd:∀c,hN.op≠ .defer c) (hm:ee (C.oper vars N ops) os=some bK)
  (cn:(execOp a.eval hN).run C.P w=.ok (.value x) aE) (hL:dO C fid vars N az cm (a.put (some d0) x) aE) (he:c5 call bK cm []=some (aX,wr))
  (dP:∀G' bl w',dO C fid vars N G' aX bl w'->(∀m,m<=aX.low->Ext az aE G' w' m cm.H.length)->bl.defers=a.defers->Q .normal bl w'):
  (Code.region id ops false).wpIn (eJ ro) 0 C.P Q a w:=by
 obtain⟨S,bb,h0,hn,-,hs⟩:=tQ _ _ _ _ _ he;have hlen:bK.length=os.length:=vn _ hm;have ea:ops.size=os.length+1:=by rw[<-hJ,pX];rfl
 have key:∀k j,j+k=os.length->∀bD al bG,dO C fid vars N bD (S j) al bG->(∀m,m<=(S j).low->Ext az aE bD bG m cm.H.length)->al.defers=a.defers->cm.H.length<=(S j).H.length->
   wpOpsIn (eJ ro) 0 C.P ops Q (List.range' (j+1) k) al bG:=by
  intro k
  induction k with
  |zero=>
   intro j hj bD al bG bH cw ff _;have e:j=bK.length:=by omega
   subst e;rw[hn]at bH cw;exact dP bD al bG bH cw ff
  |succ k ih=>
   intro j hj bD al bG bH cw ff gW;have ob:j<os.length:=by omega
   have kZ:os[j]? =some os[j]:=by simp[ob]
   have ho:ops[j+1]? =some os[j]:=by rw[<-iX,pX];simp[ob]
   have ES:j<bK.length:=by omega
   have gi:bK[j]? =some bK[j]:=by simp[ES]
   have aZ:tP C vars N ops os[j] bK[j]:=B2 (vo _ hm kZ gi);have cg:=hs j _ gi;rw[uZ,wpOpsIn_cons];have eP:=cg.b2 bn.b2;refine y3 (T:=fun _=>True) bF bn ho aZ cg bH.rel (fun _=>.inl rfl) bH.low (fun t _=>bH.env t) (fun x _=>by cases x<;>trivial) (fun _ _ _ _ _=>trivial) bH.size ?_;intro x fI jV p1 p2 p3
   have y6:bf C fid jV (S (j+1)).H fI:=by
    cases ae:bb j with
    |true=>rw[ae]at p1;exact p1
    |false=>rw[ae]at p1;rw[cg.still bn.b2 ae];exact p1
   have oj:=p2 0 (cI _)
   refine ih (j+1) (by omega) jV _ fI ⟨y6,fun t=> ?_,by rw[xx];exact bH.size,eP.bound bH.low⟩ (fun m hm=>(cw m (dc hm eP.1.low)).trans ((p2 m hm).le (aM _) gW)) (by rw[put_defers];exact ff)
    (dc gW eP.1.len)
   refine y5 (fun d hd=>by rw[bH.size];exact aZ.lt d hd) (fun h=>p3 t h) (fun h=> ?_);rw[cg.look aZ h];exact(bH.env t).ext bH.rel oj
 refine wpIn_region ?_;rw[ea,HW,uZ,wpOpsIn_cons];have ajQ:ops[0]? =some hN:=by rw[<-iX,pX];rfl
 refine JD ajQ bx hnd cn ?_;rw[hd];rw[<-h0]at hL;exact key os.length 0 (by omega) az _ aE hL (fun m _=>.refl _ _ _ _) (put_defers _ _ _) (by rw[h0];exact aM _)
theorem Po{k0 r:Nat}{ops:Array Oper}{os:List Oper}{bK:List bP}{cm aX:au}{wr:List Bool}{a:Act}{aE:World}{az:cc}{Q:Exit->Act->World->Prop}{ro:Option Nat}
  (bF:fp C fid) (bn:hB C fid call) (zg:∀j,j<os.length->ops[k0+j]? =os[j]?) (hm:ee (C.oper vars N ops) os=some bK)
  (hL:dO C fid vars N az cm a aE) (he:c5 call bK cm []=some (aX,wr))
  (dP:∀G' bl w',dO C fid vars N G' aX bl w'->(∀m,m<=aX.low->Ext az aE G' w' m cm.H.length)->bl.defers=a.defers->wpOpsIn (eJ ro) 0 C.P ops Q (List.range' (k0+os.length) r) bl w'):
  wpOpsIn (eJ ro) 0 C.P ops Q (List.range' k0 (os.length+r)) a aE:=by
 obtain⟨S,bb,h0,hn,-,hs⟩:=tQ _ _ _ _ _ he;have hlen:bK.length=os.length:=vn _ hm
 have key:∀k j,j+k=os.length->∀bD al bG,dO C fid vars N bD (S j) al bG->(∀m,m<=(S j).low->Ext az aE bD bG m cm.H.length)->al.defers=a.defers->cm.H.length<=(S j).H.length->
   wpOpsIn (eJ ro) 0 C.P ops Q (List.range' (k0+j) (k+r)) al bG:=by
  intro k
  induction k with
  |zero=>
   intro j hj bD al bG bH cw ff _;have e:j=bK.length:=by omega
   subst e;rw[hn]at bH cw;rw[hlen,er];exact dP bD al bG bH cw ff
  |succ k ih=>
   intro j hj bD al bG bH cw ff gW;have ob:j<os.length:=by omega
   have kZ:os[j]? =some os[j]:=by simp[ob]
   have ho:ops[k0+j]? =some os[j]:=(zg j ob).trans kZ;have ES:j<bK.length:=by omega
   have gi:bK[j]? =some bK[j]:=by simp[ES]
   have aZ:tP C vars N ops os[j] bK[j]:=B2 (vo _ hm kZ gi);have cg:=hs j _ gi;rw[show k+1+r=(k+r)+1 by omega,uZ,wpOpsIn_cons];have eP:=cg.b2 bn.b2;refine y3 (T:=fun _=>True) bF bn ho aZ cg bH.rel (fun _=>.inl rfl) bH.low (fun t _=>bH.env t) (fun x _=>by cases x<;>trivial) (fun _ _ _ _ _=>trivial) bH.size ?_;intro x fI jV p1 p2 p3
   have y6:bf C fid jV (S (j+1)).H fI:=by
    cases ae:bb j with
    |true=>rw[ae]at p1;exact p1
    |false=>rw[ae]at p1;rw[cg.still bn.b2 ae];exact p1
   have oj:=p2 0 (cI _)
   refine ih (j+1) (by omega) jV _ fI ⟨y6,fun t=> ?_,by rw[xx];exact bH.size,eP.bound bH.low⟩ (fun m hm=>(cw m (dc hm eP.1.low)).trans ((p2 m hm).le (aM _) gW)) (by rw[put_defers];exact ff)
    (dc gW eP.1.len)
   refine y5 (fun d hd=>by rw[bH.size];exact aZ.lt d hd) (fun h=>p3 t h) (fun h=> ?_);rw[cg.look aZ h];exact(bH.env t).ext bH.rel oj
 rw[<-h0]at hL;exact key os.length 0 (by omega) az _ aE hL (fun m _=>.refl _ _ _ _) rfl (by rw[h0];exact aM _)
theorem xC{m k:Nat}(h:Ext G w G' w' m k)(aa:bf C fid G H w){l:Nat}{h0:Home}(hb:G.β l=some h0)(hl:l<m):w'.heap[h0.b]? =w.heap[h0.b]? :=
 h.ey h0.b (aa.blk l h0 hb) fun fS h' ag e2=>.inr (by have:=aa.inj fS l h' h0 ag hb e2;omega)
theorem xD{m k:Nat}(h:Ext G w G' w' m k){l:Nat}{h0:Home}(hb:G.β l=some h0)(ht:h0.tag=0):∃h',G'.β l=some h'/\h'.b=h0.b:=by
 obtain⟨h',e,-,z,ajR,-⟩:=h.homes l h0 hb;exact⟨h',e,(ajR ((z ht).trans ht.symm)).1⟩
theorem JE (aa:bf C fid G H w){l:Nat}{h:Home}(hb:G.β l=some h)(hl:H[l]? =some .gone):h.tag=0/\h.ej=false:=by
 obtain⟨o,ho,hr⟩:=aa.obj l h hb;rw[hl]at ho;cases ho;exact hr
theorem zh (aa:bf C fid G H w){l:Nat}{h:Home}(hb:G.β l=some h){bs:List (V × V)}(hl:H[l]? =some (.map bs)):h.tag=0/\h.ej=false/\∃es bT,w.heap[h.b]? =some (.map es bT)/\
  bk fid G w (bs.map (·.1)) (es.toList.map (·.key))/\bk fid G w (bs.map (·.2)) (es.toList.map (·.val))/\oQ es bT:=by
 obtain⟨o,ho,hr⟩:=aa.obj l h hb;rw[hl]at ho;cases ho;exact hr
theorem JF{H:Heap}{l:Nat}{o:cD}(h:H[l]? =some o):H.set l o=H:=by
 apply yp;intro i;by_cases e:l=i
 ·subst e
  have hl:l<H.length:=by
   rcases gq l H.length with q|q
   ·exact q
   ·rw[nt q]at h;cases h
  rw[tu hl,h]
 ·rw[lG e]
def mD (es:Array MapEntry)(d:List Nat):Array Nat:=(d.map fun i=>((es[i]?).map (·.born)).getD 0).toArray
theorem Pp (es:Array MapEntry)(d:List Nat){i:Nat}{e:MapEntry}(h:es[i]? =some e):mD es (d++[i])=(mD es d).push e.born:=by
 unfold mD;rw[lh,eG,me,h];simp
structure tU (C:Ctx) (fid:Nat->Nat) (vars:List Nat) (N base li l r kF bT:Nat) (es:Array MapEntry) (bs:List (V × V)) (st:au) (G:cc) (w:World) (d:List Nat) (s:au) (az:cc) (al:Act) (aE:World):Prop where
 rel:dO C fid vars N az s al aE
 b2:gG st {s with low:=min st.low li}
 len:li<s.H.length
 ext:∀m,m<=min st.low li->Ext G w az aE m st.H.length
 marks:k5 C az aE base al.defers
 hi:∃h,az.β li=some h/\h.b=r
 hm:∃h,az.β l=some h/\h.b=kF
 gone:s.H[li]? =some .gone
 mp:s.H[l]? =some (.map bs)
 iter:aE.heap[r]? =some (.mapIter (some kF) bT (mD es d) bT)
 map:aE.heap[kF]? =some (.map es bT)
theorem tU.on{base li l r kF bT:Nat}{es:Array MapEntry}{bs:List (V × V)}{st:au}{d:List Nat}{s ar:au}{az bD:cc}{al a2:Act}{aE bG:World}
  (h:tU C fid vars N base li l r kF bT es bs st G w d s az al aE) (jX:l<li) (aAQ:li<=st.H.length) (aa:dO C fid vars N bD ar a2 bG) (dw:∀m,m<=ar.low->Ext az aE bD bG m s.H.length) (jq:li<ar.low) (dm:Fr s.H s.H.length ar.H ar.low) (eY:ar.ro=s.ro)
  (hd:k5 C bD bG base a2.defers):tU C fid vars N base li l r kF bT es bs st G w d ar bD a2 bG:=by
 obtain⟨h1,ag,q1⟩:=h.hi;obtain⟨h2,e2,aT⟩:=h.hm;have g1:=JE h.rel.rel ag h.gone;have g2:=zh h.rel.rel e2 h.mp;have mE:=dw _ (aM _);have ll:=h.b2.1.len;refine⟨aa,⟨⟨dc h.b2.1.len dm.len,jK _ _,fun x hx=> ?_⟩,eY.trans h.b2.2⟩,rj h.len dm.len,fun m hm=> ?_,hd,?_,?_,?_,?_,?_,?_⟩
 ·have en:x<min st.low li:=hx
  exact(dm.same x (by omega)).trans (h.b2.1.same x hx)
 ·exact(h.ext m hm).trans ((dw m (by omega)).le (aM _) ll)
 ·obtain⟨h',e',q'⟩:=xD mE ag g1.1;exact⟨h',e',q'.trans q1⟩
 ·obtain⟨h',e',q'⟩:=xD mE e2 g2.1;exact⟨h',e',q'.trans aT⟩
 ·rw[dm.same li jq];exact h.gone
 ·rw[dm.same l (by omega)];exact h.mp
 ·have:=xC mE h.rel.rel ag jq
  rw[q1]at this;rw[this];exact h.iter
 ·have:=xC mE h.rel.rel e2 (by omega)
  rw[aT]at this;rw[this];exact h.map
theorem dO.reset{st:au}{a:Act}(h:dO C fid vars N G st a w):dO C fid vars N G {st with aG:=[],low:=st.H.length} a w:=
 ⟨h.rel,h.clear.env,h.size,aM _⟩
theorem ajS{es:Array MapEntry}{d:List Nat}(hn:(es.toList.map (·.born)).Nodup)(aH:∀i∈d,i<es.size)(h:(leftOf es (mD es d)).size=0):∀i,i<es.size->i∈d:=by
 intro i hi;have h0:leftOf es (mD es d)= #[]:=af6 h;unfold leftOf at h0;rw[af9]at h0;have h1:=h0 es[i] (by simp);simp only[mb,M6]at h1;rw[agc]at h1;unfold mD at h1;simp only[List.mem_toArray,eM]at h1;obtain⟨j,hj,hb⟩:=h1;have ob:=aH j hj;simp only[Array.getElem?_eq_getElem ob,tz,w8]at hb
 have:j=i:=by
  have WM:j<(es.toList.map (·.born)).length:=by simpa using ob
  have WN:i<(es.toList.map (·.born)).length:=by simpa using hi
  have hp:=TI.1 hn;rcases Nat.lt_trichotomy j i with q|q|q
  ·exact absurd (by simpa using hb) (hp j i WM WN q)
  ·exact q
  ·exact absurd (by simpa using hb.symm) (hp i j WN WM q)
 rw[<-this];exact hj
theorem ajT{es:Array MapEntry}{d:List Nat}{e:MapEntry}(he:e∈(leftOf es (mD es d)).toList):∃i,es[i]? =some e/\i∉d/\(leftOf es (mD es (d++[i]))).size<(leftOf es (mD es d)).size:=by
 have he':e∈es.toList/\(mD es d).contains e.born=false:=by
  unfold leftOf at he;simpa using he
 obtain⟨i,hi⟩:=oN.1 he'.1;rw[iX]at hi;refine⟨i,hi,fun hid=> ?_,?_⟩
 ·have:(mD es d).contains e.born=true:=by
   rw[agc];unfold mD;simp only[List.mem_toArray,eM];exact⟨i,hid,by rw[hi];rfl⟩
  rw[this]at he';cases he'.2
 ·rw[Pp es d hi]
  unfold leftOf;have key:∀p:MapEntry->Bool,(es.filter p).size=(es.toList.filter p).length:=fun p=>by rw[<-hJ,Array.toList_filter]
  rw[key,key];refine filter_lt _ _ (fun x hx=> ?_) e ?_ ?_ _ he'.1
  ·simp only[Array.contains_push,mb,uX]at hx⊢
   simp at hx⊢;exact hx.1
  ·rw[he'.2];rfl
  ·simp
theorem ajU (cR:C.P.follows .mixedOrders=true)(bF:fp C fid)(bn:hB C fid call){k0 i1 i2:Nat}{hN on jY:Oper}{kG kH jZ:Array Oper}{ou ov:List Oper}
  {mt it aC more pair out ef:Nat} {tm rQ rR:TypeId} {body:Code} {R:fJ}
  (h0:kG[k0]? =some hN) (vF:C.ch vars (.tmp mt)=some R.src) (sK:hN.op=.range tm (.tmp mt)) (vG:hN.dst=some it) (vH:hN.guard=none) (hit:it<N) (vI:C.P.underlying tm=some (.map rQ rR))
  (h1:kH.toList=on::ou) (qK:on.op=.next (.tmp it) false) (hnd:on.dst=some aC) (sL:on.guard=none) (og:aC<N)
  (h2:jZ.toList=jY::ov) (sM:jY.op=.entry (.tmp it)) (vJ:jY.dst=some pair) (vK:jY.guard=none) (vL:pair<N)
  (qL:vars.contains it=true) (sN:R.aC=(aC,vars.contains aC)) (vM:R.pair=(pair,vars.contains pair))
  (qG:ee (C.oper vars N kH) ou=some R.t1) (oT:ee (C.oper vars N jZ) ov=some R.t2) (qM:C.ch vars (.tmp more)=some R.more) (xE:C.code vars N body=some R.body) (Pq:R.ef=ef) (E4:R.it=it)
  {st:au} {l:Nat} {bs:List (V × V)} (rS:R.src.ai st.aG st.aw=.map l) (ow:st.H[l]? =some (.map bs)) (Inv:List Nat->au->Prop) (Out:au->Prop)
  (vN:Inv [] (iA it st)) (sO:∀d s,Inv d s->bR s.aw it=.ptr st.H.length 0)
  (pZ:∀d s,Inv d s->∀i kv,i∉d->bs[i]? =some kv->∃ar,R.round call n kv.1 kv.2 s=some ar/\st.H.length<ar.low/\Inv (d++[i]) ar)
  (je:∀d s,Inv d s->d.Nodup->(∀i,i∈d↔i<bs.length)->∃ar,R.fin call s=some ar/\st.H.length<ar.low/\Out ar)
  {a:Act} {ro:Option Nat} {base:Nat} {Q Pr:Exit->Act->World->Prop} (aa:dO C fid vars N G st a w) (eY:vB G st.ro ro) (eT:k5 C G w base a.defers) (hb:base<=w.heap.size)
  (dP:∀ar G' bl w',Out ar->gG st {ar with low:=min st.low st.H.length}->Fin C fid vars N base st G w {ar with low:=min st.low st.H.length} G' bl w'->Q .normal bl w'):
  wpOpIn (eJ ro) 0 C.P kG Pr k0 (fun bl w'=>(Code.block out (.loop (.seq (.region i1 kH false) (.seq (.cond (.tmp more) .skip (.exit out)) (.block ef (.seq (.region i2 jZ false) body)))))).wpIn (eJ ro) 0 C.P Q bl w') a w:=by
 have lM:=sH bF aa (.tmp mt) R.src vF;rw[rS]at lM;obtain⟨ft,vO,Ps,Pt⟩:=lM.mapInv;obtain⟨-,-,es,bT,fc,eC,c3,cg⟩:=zh aa.rel vO ow;have jX:l<st.H.length:=aa.rel.lt vO
 have EC:(execOp a.eval hN).run C.P w=.ok (.value (.pointer (some ⟨w.heap.size,0,none⟩))) (w.alloc (.mapIter (some ft.b) bT #[] bT)):=by
  unfold execOp;rw[sK];have e:a.eval (.tmp mt)=.map (some ft.b):=Pt;simp only[e,Sem.run_bind,run_range_map w tm rQ rR ft.b es bT vI fc,Result.andThen_ok,Sem.run_pure]
 have Pu:bs.length=es.size:=by
  have:=eC.length;simpa using this.symm
 have Pv:=aa.rel.push .gone (.mapIter (some ft.b) bT #[] bT) 0 0 ⟨rfl,rfl⟩;have rO:∀m k,k<=st.H.length->Ext G w ⟨cA G.β st.H.length ⟨w.heap.size,0,0,false⟩,G.I⟩ (w.alloc (.mapIter (some ft.b) bT #[] bT)) m k:=fun m k ah=>(Ext.push aa.rel (.mapIter (some ft.b) bT #[] bT) 0 0 m).le (aM _) ah
 have Pw:dO C fid vars N ⟨cA G.β st.H.length ⟨w.heap.size,0,0,false⟩,G.I⟩ {st with H:=st.H++[.gone]} a (w.alloc (.mapIter (some ft.b) bT #[] bT)):=
  ⟨Pv,fun t=>(aa.env t).ext aa.rel (rO 0 0 (cI _)),aa.size,by have:=aa.low;simp only[e1,dE,eF];omega⟩
 have lQ:dO C fid vars N ⟨cA G.β st.H.length ⟨w.heap.size,0,0,false⟩,G.I⟩ (iA it st) (a.put (some it) (.pointer (some ⟨w.heap.size,0,none⟩))) (w.alloc (.mapIter (some ft.b) bT #[] bT)):=by
  have:=Pw.put hit (v:=.ptr st.H.length 0) (x:=.pointer (some ⟨w.heap.size,0,none⟩)) (.ptr st.H.length 0 ⟨w.heap.size,0,0,false⟩ (du _ _ _) rfl);rw[qL]at this;exact this.clear
 suffices Px:∀G' bl w',dO C fid vars N G' (iA it st) bl w'->(∀m,m<=(iA it st).H.length->Ext ⟨cA G.β st.H.length ⟨w.heap.size,0,0,false⟩,G.I⟩ (w.alloc (.mapIter (some ft.b) bT #[] bT)) G' w' m (iA it st).H.length)->
   bl.defers=a.defers->(Code.block out (.loop (.seq (.region i1 kH false) (.seq (.cond (.tmp more) .skip (.exit out)) (.block ef (.seq (.region i2 jZ false) body)))))).wpIn (eJ ro) 0 C.P Q bl w' by
  refine JD h0 vH (by rw[sK];simp) EC ?_;rw[vG];exact Px _ _ _ lQ (fun m _=>.refl _ _ _ _) (by rw[put_defers])
 intro G' bl w' bH cw ff
 refine wpIn_block (Js (fun k al aE=>∃d s az,Inv d s/\d.Nodup/\(∀i∈d,i<bs.length)/\(leftOf es (mD es d)).size<k/\tU C fid vars N base st.H.length l w.heap.size ft.b bT es bs st G w d s az al aE) ?_
  (j:=(leftOf es (mD es [])).size+1) ?_)
 ·rintro k al aE ⟨d,s,az,a7,WO,lL,ah,bL⟩
  obtain⟨bE,rfl⟩:∃bE,k=bE+1:=⟨k-1,by omega⟩;refine⟨bE,rfl,?_⟩;obtain⟨av,bI,b3⟩:=bL.hi;obtain⟨bc,cz,cZ⟩:=bL.hm
  have E5:al.eval (.tmp it)=.pointer (some ⟨w.heap.size,0,none⟩):=by
   have:=bL.rel.env it;rw[show dX vars s it=bR s.aw it by unfold dX;rw[if_pos qL],sO d s a7]at this;obtain⟨h5,dF,-,ez⟩:=this.oU;rw[bI]at dF;cases dF;rw[b3]at ez;exact ez
  have tV:∀c,on.op≠ .defer c:=by rw[qK];simp
  have xw:∀c,jY.op≠ .defer c:=by rw[sM];simp
  rcases WK (P:=C.P) on.type bL.iter bL.map cg.1 (aM _)with⟨ea,cn⟩|⟨e,he,bG,vP,Py,Pz,cn⟩
  ·
   have eD:=ajS cg.2 (fun i hi=>by rw[<-Pu];exact lL i hi) ea;obtain⟨ar,ae,jq,PA⟩:=je d s a7 WO fun i=>⟨lL i,fun hi=>eD i (by rw[<-Pu];exact hi)⟩;unfold fJ.fin fJ.step at ae;split at ae
   ·rename_i s1 fy
    split at fy
    ·rename_i j0 wr hex
     cases fy;split at ae
     ·rename_i sP
      cases ae
      have zi:(execOp al.eval on).run C.P aE=.ok (.value (.tuple #[.bool false])) aE:=by
       unfold execOp;rw[qK];simp only[E5,Sem.run_bind,cn,Result.andThen_ok,Sem.run_pure]
      have vC:dO C fid vars N az (({s with aG:=[],low:=s.H.length}:au).put (some R.aC) (.bd [.bool false])) (al.put (some aC) (.tuple #[.bool false])) aE:=by
       rw[sN];exact bL.rel.reset.put og (.bd _ _ (.cons _ _ _ _ (.p _ _ (.bool false)) .nil))
      refine wpIn_seq (Ch bF bn h1 hnd sL tV qG zi vC hex fun bD a2 fI gW jv sI=> ?_);have gj:=kE ({s with aG:=[],low:=s.H.length}:au) (some R.aC) (.bd [.bool false]);have dm:=o2 bn.b2 _ _ _ _ _ (by rw[gj.1,gj.2.1];exact aM _) hex
      have eA:tU C fid vars N base st.H.length l w.heap.size ft.b bT es bs st G w d {j0 with aG:=[]} bD a2 fI:=by
       refine bL.on jX (aM _) gW.clear (fun m hm=> ?_) jq ?_ ?_ ?_
       ·have:=jv m hm
        rw[gj.1]at this;exact this
       ·have:=dm.1
        rw[gj.1,gj.2.1]at this;exact this
       ·exact dm.2.trans gj.2.2
       ·have:=bL.marks.ext (jv 0 (cI _))
        rw[sI];exact this
      have af:=sH bF eA.rel (.tmp more) R.more qM;rw[sP]at af;refine wpIn_seq (wpIn_cond_false af.k1 (wpIn_exit ?_));show(if out=out then Q .normal a2 fI else _);rw[if_pos rfl];exact dP _ bD a2 fI PA eA.b2 ⟨⟨eA.rel.rel,eA.rel.env,eA.rel.size,dc (pC _ _) (se eA.len)⟩,eA.ext,eA.marks⟩
     ·cases ae
    ·cases fy
   ·cases ae
  ·
   obtain⟨i,hi,hid,lv⟩:=ajT he
   have rT:i<es.size:=by
    rcases gq i es.size with q|q
    ·exact q
    ·rw[HU q]at hi;cases hi
   obtain⟨ajV,ajW,bN,sz,E6,xv,yW,-⟩:=zh bL.rel.rel cz bL.mp;rw[cZ,bL.map]at E6;cases E6;obtain⟨PB,xB⟩:=JE bL.rel.rel bI bL.gone;obtain⟨kv,lV⟩:∃kv,bs[i]? =some kv:=⟨bs[i]'(by omega),by simp⟩
   have PC:bq fid az aE kv.1 e.key:=by
    obtain⟨x,hx,hr⟩:=xv.get (i:=i) (v:=kv.1) (by rw[kR,lV];rfl);rw[kR,iX,hi]at hx;cases hx;exact hr
   have mF:bq fid az aE kv.2 e.val:=by
    obtain⟨x,hx,hr⟩:=yW.get (i:=i) (v:=kv.2) (by rw[kR,lV];rfl);rw[kR,iX,hi]at hx;cases hx;exact hr
   obtain⟨ar,ae,jq,zj⟩:=pZ d s a7 i kv hid lV;have hT:=turn bL.rel.rel bI xB (.mapIter (some ft.b) bT ((mD es d).push e.born) bT) .gone fun _ _ _=>⟨PB,xB⟩;rw[JF bL.gone]at hT;have vQ:bG.heap=(aE.putObj av.b (.mapIter (some ft.b) bT ((mD es d).push e.born) bT)).heap:=by rw[vP,b3];rfl
   have zk:bf C fid az s.H bG:=hT.1.jR vQ;have zl:∀m,m<=st.H.length->Ext az aE az bG m s.H.length:=fun m hm=>(hT.2.le hm (aM _)).trans (.jR vQ Py Pz _ _)
   have E7:bG.heap[w.heap.size]? =some (.mapIter (some ft.b) bT ((mD es d).push e.born) bT):=by
    rw[vQ,<-b3];exact World.putObj_heap_same (bL.rel.rel.blk _ _ bI)
   have qF:bG.heap[ft.b]? =some (.map es bT):=by
    rw[vQ,World.putObj_heap_other (fun q=> ?_)]
    ·exact bL.map
    ·have:=bL.rel.rel.inj _ _ _ _ bI cz (by rw[cZ,<-q]);omega
   have E8:dO C fid vars N az s al bG:=⟨zk,fun t=>(bL.rel.env t).ext bL.rel.rel (zl 0 (cI _)),bL.rel.size,bL.rel.low⟩;have zm:=zl 0 (cI _)
   have E9:tU C fid vars N base st.H.length l w.heap.size ft.b bT es bs st G w (d++[i]) s az al bG:=
    ⟨E8,bL.b2,bL.len,fun m hm=>(bL.ext m hm).trans ((zl m (by omega)).le (aM _) bL.b2.1.len),bL.marks.ext zm,bL.hi,bL.hm,bL.gone,bL.mp,by rw[Pp es d hi];exact E7,qF⟩
   have Fa:=PC.ext bL.rel.rel zm;have Fb:=mF.ext bL.rel.rel zm;unfold fJ.round fJ.step at ae;split at ae
   case h_2=>cases ae
   rename_i s1 fy;split at fy
   case h_2=>cases fy
   rename_i j0 wr hex;cases fy;split at ae
   case h_2=>cases ae
   rename_i sP;split at ae
   case isFalse=>cases ae
   rename_i PD
   have PE:bR j0.aw it=.ptr st.H.length 0:=by
    have:=vw _ _ PD;rw[E4]at this;exact this.trans (sO d s a7)
   split at ae
   case h_2=>cases ae
   rename_i s2 PF Fc
   have zi:(execOp al.eval on).run C.P aE=.ok (.value (.tuple #[.bool true,e.key,e.val])) bG:=by
    unfold execOp;rw[qK];simp only[E5,Sem.run_bind,cn,Result.andThen_ok,Sem.run_pure]
   have vC:dO C fid vars N az (({s with aG:=[],low:=s.H.length}:au).put (some R.aC) (.bd [.bool true,kv.1,kv.2])) (al.put (some aC) (.tuple #[.bool true,e.key,e.val])) bG:=by
    rw[sN];exact E8.reset.put og (.bd _ _ (.cons _ _ _ _ (.p _ _ (.bool true)) (.cons _ _ _ _ Fa (.cons _ _ _ _ Fb .nil))))
   have gj:=kE ({s with aG:=[],low:=s.H.length}:au) (some R.aC) (.bd [.bool true,kv.1,kv.2]);have dm:=o2 bn.b2 _ _ _ _ _ (by rw[gj.1,gj.2.1];exact aM _) hex;have mG:=kE ({j0 with aG:=[]}:au) (some R.pair) (.bd [kv.1,kv.2]);have rM:j0.low<=j0.H.length:=dm.bound (by rw[gj.1,gj.2.1];exact aM _);have vR:=o2 bn.b2 _ _ _ _ _ (by rw[mG.1,mG.2.1];exact rM) Fc;have y4:s2.low<=s2.H.length:=vR.bound (by rw[mG.1,mG.2.1];exact rM)
   obtain⟨dp,fu,JG,ajX,ajY⟩:∃dp fu,exec call n R.body {s2 with aG:=[]}=some (dp,fu)/\(dp=.normal\/dp=.exit ef)/\fu=ar:=by
    split at ae
    ·rename_i fu zc;cases ae;exact⟨_,_,zc,.inl rfl,rfl⟩
    ·rename_i id fu zc
     split at ae
     ·rename_i ajZ;cases ae;exact⟨_,_,zc,.inr (by rw[ajZ,Pq]),rfl⟩
     ·cases ae
    ·cases ae
   subst ajY;have sQ:=mz bn.b2 n _ _ _ _ (show({s2 with aG:=[]}:au).low<=({s2 with aG:=[]}:au).H.length from y4) JG;have aj0:fu.low<=s2.low:=sQ.1.low;have aj1:s2.low<=j0.low:=by have:=vR.1.low;rw[mG.2.1]at this;exact this
   refine wpIn_seq (Ch bF bn h1 hnd sL tV qG zi vC hex fun bD a2 fI gW jv sI=> ?_)
   have eA:tU C fid vars N base st.H.length l w.heap.size ft.b bT es bs st G w (d++[i]) {j0 with aG:=[]} bD a2 fI:=by
    refine E9.on jX (aM _) gW.clear (fun m hm=> ?_) (by show st.H.length<j0.low;omega) ?_ ?_ ?_
    ·have:=jv m hm
     rw[gj.1]at this;exact this
    ·have:=dm.1
     rw[gj.1,gj.2.1]at this;exact this
    ·exact dm.2.trans gj.2.2
    ·have:=E9.marks.ext (jv 0 (cI _))
     rw[sI];exact this
   have af:=sH bF eA.rel (.tmp more) R.more qM;rw[sP]at af;refine wpIn_seq (wpIn_cond_true af.k1 (wpIn_skip ?_));show(Code.block ef (.seq (.region i2 jZ false) body)).wpIn (eJ ro) 0 C.P _ a2 fI;refine wpIn_block (wpIn_seq ?_)
   have PG:a2.eval (.tmp it)=.pointer (some ⟨w.heap.size,0,none⟩):=by
    have:=eA.rel.env it;rw[show dX vars {j0 with aG:=[]} it=bR j0.aw it by unfold dX;rw[if_pos qL],PE]at this;obtain⟨h5,dF,-,ez⟩:=this.oU;obtain⟨gb,hz,hC⟩:=eA.hi;rw[hz]at dF;cases dF;rw[hC]at ez;exact ez
   have PH:(execOp a2.eval jY).run C.P fI=.ok (.value (.tuple #[e.key,e.val])) fI:=by
    have WQ:=eA.iter;rw[Pp es d hi]at WQ;have EU:=WL (P:=C.P) WQ eA.map (by rw[<-iX]at hi;exact e0 hi) cg.2;unfold execOp;rw[sM];simp only[PG,Sem.run_bind,EU,Result.andThen_ok,Sem.run_pure]
   have Fe:=jv 0 (cI _)
   have PI:dO C fid vars N bD (({j0 with aG:=[]}:au).put (some R.pair) (.bd [kv.1,kv.2])) (a2.put (some pair) (.tuple #[e.key,e.val])) fI:=by
    rw[vM];exact eA.rel.put vL (.bd _ _ (.cons _ _ _ _ (Fa.ext zk Fe) (.cons _ _ _ _ (Fb.ext zk Fe) .nil)))
   refine Ch bF bn h2 vJ vK xw oT PH PI Fc fun jV a3 Ci zd vE EX=> ?_
   have nI:tU C fid vars N base st.H.length l w.heap.size ft.b bT es bs st G w (d++[i]) {s2 with aG:=[]} jV a3 Ci:=by
    refine eA.on jX (aM _) zd.clear (fun m hm=> ?_) (by show st.H.length<s2.low;omega) ?_ ?_ ?_
    ·have:=vE m hm
     rw[mG.1]at this;exact this
    ·have:=vR.1
     rw[mG.1,mG.2.1]at this;exact⟨this.len,dc this.low rM,this.same⟩
    ·exact vR.2.trans mG.2.2
    ·have:=eA.marks.ext (vE 0 (cI _))
     rw[EX];exact this
   show body.wpIn (eJ ro) 0 C.P _ a3 Ci;refine rN (n:=n) cR bF bn body _ _ _ xE _ _ _ JG jV a3 Ci ro base _ nI.rel ?_ nI.marks (dc hb (nI.ext 0 (cI _)).size) fun Ff a4 JH F=> ?_
   ·have lu:({s2 with aG:=[]}:au).ro=st.ro:=nI.b2.2
    rw[lu];exact eY.ext (nI.ext 0 (cI _))
   have xF:tU C fid vars N base st.H.length l w.heap.size ft.b bT es bs st G w (d++[i]) fu Ff a4 JH:=
    nI.on jX (aM _) F.rel F.ext jq ⟨sQ.1.len,dc sQ.1.low y4,sQ.1.same⟩ sQ.2 F.marks
   have rL:∃d s az,Inv d s/\d.Nodup/\(∀i∈d,i<bs.length)/\(leftOf es (mD es d)).size<bE/\tU C fid vars N base st.H.length l w.heap.size ft.b bT es bs st G w d s az a4 JH:=by
    refine⟨d++[i],fu,Ff,zj,Bg.2 ⟨WO,by simp,fun x hx y hy=> ?_⟩,fun x hx=> ?_,by omega,xF⟩
    ·simp only[dL,ys,or_false]at hy
     subst hy;exact fun q=>hid (q ▸ hx)
    ·rcases kS.1 hx with q|q
     ·exact lL x q
     ·simp only[dL,ys,or_false]at q
      subst q;omega
   rcases ajX with rfl|rfl
   ·exact rL
   ·show(if ef=ef then _ else _)
    rw[if_pos rfl];exact rL
 ·have gh:(iA it st).H.length=st.H.length+1:=by unfold iA;simp
  have ag:=cw (st.H.length+1) (by show st.H.length+1<=(iA it st).H.length;rw[gh];exact aM _);have eW:=rO 0 st.H.length (aM _)
  have qE:(⟨cA G.β st.H.length ⟨w.heap.size,0,0,false⟩,G.I⟩:cc).β l=some ft:=by
   show cA G.β st.H.length ⟨w.heap.size,0,0,false⟩ l=some ft;rw[dH (by omega)];exact vO
  have yO:(⟨cA G.β st.H.length ⟨w.heap.size,0,0,false⟩,G.I⟩:cc).β st.H.length=some ⟨w.heap.size,0,0,false⟩:=du _ _ _;refine⟨[],iA it st,G',vN,H9,fun i hi=>(by cases hi),yr _,⟨⟨bH.rel,bH.env,bH.size,?_⟩,⟨⟨?_,jK _ _,fun x hx=> ?_⟩,rfl⟩,?_,fun m hm=> ?_,?_,?_,?_,?_,?_,?_,?_⟩⟩
  ·exact lQ.low
  ·show st.H.length<=(iA it st).H.length
   omega
  ·have en:x<min st.low st.H.length:=hx
   show(st.H++[cD.gone])[x]? =_;rw[gM (by omega)]
  ·omega
  ·exact(rO m st.H.length (aM _)).trans ((cw m (by show m<=(iA it st).H.length;omega)).le (aM _) (by show st.H.length<=(iA it st).H.length;omega))
  ·rw[ff]
   exact(eT.ext eW).ext ag
  ·exact xD ag yO rfl
  ·exact xD ag qE Ps
  ·show(st.H++[cD.gone])[st.H.length]? =_
   simp
  ·show(st.H++[cD.gone])[l]? =_
   rw[gM jX];exact ow
  ·have:=xC ag lQ.rel yO (yr _)
   rw[this];exact ml _ _
  ·have:=xC ag lQ.rel qE (by omega)
   rw[this,alloc_old (aa.rel.blk _ _ vO)];exact fc
theorem aj2 (cR:C.P.follows .mixedOrders=true)(bF:fp C fid)(bn:hB C fid call){i0 i1 i2:Nat}{hN on jY:Oper}{kG kH jZ:Array Oper}{p4 ou ov:List Oper}
  {mt it aC more pair out ef:Nat} {tm rQ rR:TypeId} {body:Code} {R:fJ}
  (h0:kG.toList=p4++[hN]) (pS:ee (C.oper vars N kG) p4=some R.t0) (vF:C.ch vars (.tmp mt)=some R.src) (sK:hN.op=.range tm (.tmp mt)) (vG:hN.dst=some it) (vH:hN.guard=none) (hit:it<N) (vI:C.P.underlying tm=some (.map rQ rR))
  (h1:kH.toList=on::ou) (qK:on.op=.next (.tmp it) false) (hnd:on.dst=some aC) (sL:on.guard=none) (og:aC<N)
  (h2:jZ.toList=jY::ov) (sM:jY.op=.entry (.tmp it)) (vJ:jY.dst=some pair) (vK:jY.guard=none) (vL:pair<N)
  (qL:vars.contains it=true) (sN:R.aC=(aC,vars.contains aC)) (vM:R.pair=(pair,vars.contains pair))
  (qG:ee (C.oper vars N kH) ou=some R.t1) (oT:ee (C.oper vars N jZ) ov=some R.t2) (qM:C.ch vars (.tmp more)=some R.more) (xE:C.code vars N body=some R.body) (Pq:R.ef=ef) (E4:R.it=it)
  {jw st:au} {wr:List Bool} (he:c5 call R.t0 {jw with aG:=[]} []=some (st,wr)) {l:Nat} {bs:List (V × V)} (rS:R.src.ai st.aG st.aw=.map l) (ow:st.H[l]? =some (.map bs)) (Inv:List Nat->au->Prop) (Out:au->Prop)
  (vN:Inv [] (iA it st)) (sO:∀d s,Inv d s->bR s.aw it=.ptr st.H.length 0)
  (pZ:∀d s,Inv d s->∀i kv,i∉d->bs[i]? =some kv->∃ar,R.round call n kv.1 kv.2 s=some ar/\st.H.length<ar.low/\Inv (d++[i]) ar)
  (je:∀d s,Inv d s->d.Nodup->(∀i,i∈d↔i<bs.length)->∃ar,R.fin call s=some ar/\st.H.length<ar.low/\Out ar)
  {a:Act} {ro:Option Nat} {base:Nat} {Q:Exit->Act->World->Prop} (aa:dO C fid vars N G jw a w) (eY:vB G jw.ro ro) (eT:k5 C G w base a.defers) (hb:base<=w.heap.size)
  (dP:∀ar G' bl w',Out ar->gG jw {ar with low:=min st.low st.H.length}->Fin C fid vars N base jw G w {ar with low:=min st.low st.H.length} G' bl w'->Q .normal bl w'):
  (Code.seq (.region i0 kG false) (.block out (.loop (.seq (.region i1 kH false) (.seq (.cond (.tmp more) .skip (.exit out)) (.block ef (.seq (.region i2 jZ false) body))))))).wpIn (eJ ro) 0 C.P Q a w:=by
 have dm:=o2 bn.b2 _ _ _ _ _ (show({jw with aG:=[]}:au).low<=({jw with aG:=[]}:au).H.length from aa.low) he;have zn:gG jw st:=dm;have ea:kG.size=p4.length+1:=by rw[<-hJ,h0];simp
 refine wpIn_seq (wpIn_region ?_);rw[ea,HW];refine Po bF bn (k0:=0) (fun j hj=>by rw[er,<-iX,h0,gM hj]) pS aa.clear he fun az al aE bH cw ff=> ?_;have eW:=cw 0 (cI _);have ah:kG[0+p4.length]? =some hN:=by rw[er,<-iX,h0];simp
 have Fg:k5 C az aE base al.defers:=by rw[ff];exact eT.ext eW
 rw[uZ,wpOpsIn_cons]
 exact(ajU (n:=n) cR bF bn ah vF sK vG vH hit vI h1 qK hnd sL og h2 sM vJ vK vL qL sN vM qG oT qM xE Pq E4 rS ow Inv Out vN sO pZ je bH (by rw[zn.2];exact eY.ext eW) Fg (dc hb eW.size)
  fun ar G' bl w' ho ae F=>dP ar G' bl w' ho (zn.trans ae) ((Fin.trans (st:=jw) (cm:=st) ⟨bH,cw,Fg⟩ F zn ae)))
end
end Go.Abs
namespace Go.Abs
open Go
variable{C:Ctx}{fid:Nat->Nat}{w w':World}{G G':cc}{H H':Heap}
section
variable{vars:List Nat}{N:Nat}{call:c1}{n:Nat}
def di (C:Ctx)(fid:Nat->Nat)(vars:List Nat)(N:Nat)(c:Code)(st:au)(Out:X->au->Prop):Prop:=
 ∀(G:cc) (a:Act) (w:World) (ro:Option Nat) (base:Nat) (Q:Exit->Act->World->Prop),dO C fid vars N G st a w->vB G st.ro ro->k5 C G w base a.defers->base<=w.heap.size->
  (∀x aX G' bl w',Out x aX->gG st aX->Fin C fid vars N base st G w aX G' bl w'->Q (B8 x) bl w')->c.wpIn (eJ ro) 0 C.P Q a w
theorem di.exec (cR:C.P.follows .mixedOrders=true)(bF:fp C fid)(bn:hB C fid call){c:Code}{ac:b8}(hc:C.code vars N c=some ac){st aX:au}{x:X}(he:Abs.exec call n ac st=some (x,aX)):
  di C fid vars N c st (fun y s=>y=x/\s=aX):=fun G a w ro base Q aa eY eT hb dP=>
 rN (n:=n) cR bF bn c _ _ _ hc _ _ _ he G a w ro base Q aa eY eT hb fun G' bl w' F=>dP x aX G' bl w' ⟨rfl,rfl⟩ (mz bn.b2 n _ _ _ _ aa.low he) F
theorem di.mono{c:Code}{st:au}{Out WR:X->au->Prop}(h:di C fid vars N c st Out)(hm:∀x s,Out x s->WR x s):di C fid vars N c st WR:=fun G a w ro base Q aa eY eT hb dP=>
 h G a w ro base Q aa eY eT hb fun x s G' bl w' ho=>dP x s G' bl w' (hm x s ho)
theorem di.seq{c d:Code}{st:au}{JI Out:X->au->Prop}(h1:di C fid vars N c st JI)(h2:∀s,JI .normal s->di C fid vars N d s Out)(av:∀x s,x≠ .normal->JI x s->Out x s):
  di C fid vars N (.seq c d) st Out:=fun G a w ro base Q aa eY eT hb dP=>by
 refine wpIn_seq (h1 G a w ro base _ aa eY eT hb fun x s az al aE ho ae F=> ?_);cases x with
 |normal=>
  refine h2 s ho az al aE ro base _ F.rel (by rw[ae.2];exact eY.ext (F.ext 0 (cI _))) F.marks (dc hb (F.ext 0 (cI _)).size) fun cH s2 bD a2 bG aj3 zo tT=> ?_;exact dP cH s2 bD a2 bG aj3 (ae.trans zo) (F.trans tT ae zo)
 |exit id=>exact dP (.exit id) s az al aE (av _ _ (by simp) ho) ae F
 |ret=>exact dP .ret s az al aE (av _ _ (by simp) ho) ae F
structure PJ (C:Ctx) (vars:List Nat) (N:Nat) (c:Code) (R:fJ):Prop where
 ok:∃(i0 i1 i2:Nat) (hN on jY:Oper) (kG kH jZ:Array Oper) (p4 ou ov:List Oper) (mt aC more pair out:Nat) (tm rQ rR:TypeId) (body:Code),
  c=.seq (.region i0 kG false) (.block out (.loop (.seq (.region i1 kH false) (.seq (.cond (.tmp more) .skip (.exit out)) (.block R.ef (.seq (.region i2 jZ false) body))))))/\
  kG.toList=p4++[hN]/\ee (C.oper vars N kG) p4=some R.t0/\C.ch vars (.tmp mt)=some R.src/\hN.op=.range tm (.tmp mt)/\hN.dst=some R.it/\hN.guard=none/\R.it<N/\C.P.underlying tm=some (.map rQ rR)/\
  kH.toList=on::ou/\on.op=.next (.tmp R.it) false/\on.dst=some aC/\on.guard=none/\aC<N/\
  jZ.toList=jY::ov/\jY.op=.entry (.tmp R.it)/\jY.dst=some pair/\jY.guard=none/\pair<N/\
  vars.contains R.it=true/\R.aC=(aC,vars.contains aC)/\R.pair=(pair,vars.contains pair)/\
  ee (C.oper vars N kH) ou=some R.t1/\ee (C.oper vars N jZ) ov=some R.t2/\C.ch vars (.tmp more)=some R.more/\C.code vars N body=some R.body
theorem di.range (cR:C.P.follows .mixedOrders=true)(bF:fp C fid)(bn:hB C fid call){c:Code}{R:fJ}(hc:PJ C vars N c R){jw st:au}{wr:List Bool}(he:c5 call R.t0 {jw with aG:=[]} []=some (st,wr))
  {l:Nat} {bs:List (V × V)} (rS:R.src.ai st.aG st.aw=.map l) (ow:st.H[l]? =some (.map bs)) (Inv:List Nat->au->Prop) (Out:au->Prop)
  (vN:Inv [] (iA R.it st)) (sO:∀d s,Inv d s->bR s.aw R.it=.ptr st.H.length 0)
  (pZ:∀d s,Inv d s->∀i kv,i∉d->bs[i]? =some kv->∃ar,R.round call n kv.1 kv.2 s=some ar/\st.H.length<ar.low/\Inv (d++[i]) ar)
  (je:∀d s,Inv d s->d.Nodup->(∀i,i∈d↔i<bs.length)->∃ar,R.fin call s=some ar/\st.H.length<ar.low/\Out ar):
  di C fid vars N c jw (fun x s=>x=.normal/\∃ar,Out ar/\s={ar with low:=min st.low st.H.length}):=fun G a w ro base Q aa eY eT hb dP=>by
 obtain⟨i0,i1,i2,hN,on,jY,kG,kH,jZ,p4,ou,ov,mt,aC,more,pair,out,tm,rQ,rR,body,rfl,h0,pS,vF,sK,vG,vH,hit,vI,h1,qK,hnd,sL,og,h2,sM,vJ,vK,vL,qL,sN,vM,qG,oT,qM,xE⟩:=hc.ok
 exact aj2 cR bF bn h0 pS vF sK vG vH hit vI h1 qK hnd sL og h2 sM vJ vK vL qL sN vM qG oT qM xE rfl rfl he rS ow Inv Out vN sO pZ je aa eY eT hb
  fun ar G' bl w' ho ae F=>dP .normal _ G' bl w' ⟨rfl,ar,ho,rfl⟩ ae F
def zp{α:Type}:List α->Option (List α × α)
 |[]=>none
 |a::l=>match zp l with
  |none=>some ([],a)
  |some (r,b)=>some (a::r,b)
theorem aj4{α:Type}:∀{l:List α},zp l=none->l=[]
 |[],_=>rfl
 |a::l,h=>by simp only[zp]at h;split at h<;>cases h
theorem PK{α:Type}:∀{l r:List α} {b:α},zp l=some (r,b)->l=r++[b]
 |[],_,_,h=>by cases h
 |a::l,r,b,h=>by
  simp only[zp]at h;split at h
  ·rename_i hn;cases h;rw[aj4 hn];rfl
  ·rename_i nu e3 hn;cases h;rw[PK hn];rfl
def zq (C:Ctx)(vars:List Nat)(N:Nat):Code->Option fJ
 | .seq (.region _ kG false) (.block out (.loop (.seq (.region _ kH false) (.seq (.cond (.tmp more) .skip (.exit WS)) (.block ef (.seq (.region _ jZ false) body))))))=>
   match zp kG.toList,kH.toList,jZ.toList with
   |some (p4,⟨some it,.range tm (.tmp mt),_,_,_,none⟩),⟨some aC,.next (.tmp WT) false,_,_,_,none⟩::ou,⟨some pair,.entry (.tmp WU),_,_,_,none⟩::ov=>
    match C.P.underlying tm,ee (C.oper vars N kG) p4,C.ch vars (.tmp mt),ee (C.oper vars N kH) ou,ee (C.oper vars N jZ) ov,C.ch vars (.tmp more),C.code vars N body with
    |some (.map _ _),some t0,some src,some t1,some t2,some tO,some b=>
     if WS=out/\WT=it/\WU=it/\it<N/\aC<N/\pair<N/\vars.contains it=true then some ⟨t0,src,it,(aC,vars.contains aC),t1,tO,ef,(pair,vars.contains pair),t2,b⟩else none
    | _,_,_,_,_,_,_=>none
   | _,_,_=>none
 | _=>none
theorem WV{c:Code}{R:fJ}(h:zq C vars N c=some R):PJ C vars N c R:=by
 unfold zq at h;split at h
 ·rename_i i0 kG out i1 kH more WS ef i2 jZ body
  split at h
  ·rename_i p4 it tm mt aAR aAS aAT aC WT aAU O8 aAV ou pair WU aAW aAX aAY ov eW ag e2
   split at h
   ·rename_i rQ rR t0 src t1 t2 tO b kD aj5 us qA aj6 aj7 aj8
    split at h
    ·rename_i hc
     obtain⟨rfl,rfl,rfl,h1,h2,av,bc⟩:=hc;cases h;exact⟨_,_,_,_,_,_,_,_,_,_,_,_,_,_,_,_,_,_,_,_,_,rfl,PK eW,aj5,us,rfl,rfl,rfl,h1,kD,ag,rfl,rfl,rfl,h2,e2,rfl,rfl,rfl,av,bc,rfl,rfl,qA,aj6,aj7,aj8⟩
    ·cases h
   ·cases h
  ·cases h
 ·cases h
def Fh (d:List Nat)(k:Nat):List Nat:=(List.range k).filter fun i=>!d.contains i
def fJ.all (R:fJ)(call:c1)(n:Nat)(bs:List (V × V))(li:Nat):Nat->List Nat->au->Option (List au)
 |0,_,_=>none
 |f+1,d,s=>
  if ek (bR s.aw R.it) (.ptr li 0)=true then
   match Fh d bs.length with
   |[]=>match R.fin call s with
    |some ar=>if Nat.blt li ar.low=true then some [ar]else none
    |none=>none
   |i::is=>(ee (fun i=>match bs[i]? with
     |some kv=>match R.round call n kv.1 kv.2 s with
      |some ar=>if Nat.blt li ar.low=true then R.all call n bs li f (d++[i]) ar else none
      |none=>none
     |none=>none) (i::is)).map List.flatten
  else none
theorem WW{α β:Type}{f:α->Option β}:∀{l:List α} {aJ:List β},ee f l=some aJ->∀{a:α},a∈l->∃b∈aJ,f a=some b
 |[],_,_,_,h=>by cases h
 |x::l,aJ,hm,a,h=>by
  simp only[ee]at hm;split at hm
  ·rename_i b hb
   split at hm
   ·rename_i aAZ Ew
    cases hm;rcases dL.1 h with rfl|h
    ·exact⟨b,by simp,hb⟩
    ·obtain⟨e3,h1,h2⟩:=WW Ew h
     exact⟨e3,by simp[h1],h2⟩
   ·cases hm
  ·cases hm
theorem fJ.PL{R:fJ}{bs:List (V × V)}{li f:Nat}{d:List Nat}{s:au}{o:List au}(h:R.all call n bs li f d s=some o):bR s.aw R.it=.ptr li 0:=by
 cases f with
 |zero=>cases h
 |succ f=>
  simp only[fJ.all]at h;split at h
  ·rename_i bj;exact vw _ _ bj
  ·cases h
theorem di.aj9 (cR:C.P.follows .mixedOrders=true)(bF:fp C fid)(bn:hB C fid call){c:Code}{R:fJ}(hc:PJ C vars N c R){jw st:au}{wr:List Bool}(he:c5 call R.t0 {jw with aG:=[]} []=some (st,wr)){l:Nat}{bs:List (V × V)}
  (rS:R.src.ai st.aG st.aw=.map l) (ow:st.H[l]? =some (.map bs)) {f:Nat} {outs:List au} (ao:R.all call n bs st.H.length f [] (iA R.it st)=some outs):
  di C fid vars N c jw (fun x s=>x=.normal/\∃ar∈outs,s={ar with low:=min st.low st.H.length}):=by
 refine di.range (n:=n) cR bF bn hc he rS ow (fun d s=>∃f o,R.all call n bs st.H.length f d s=some o/\∀x∈o,x∈outs) (fun s=>s∈outs) ⟨f,outs,ao,fun _ h=>h⟩ (fun d s ⟨f,o,h,_⟩=>fJ.PL h) ?_ ?_
 ·rintro d s ⟨f,o,h,hs⟩ i kv hid lV
  have hit:=fJ.PL h
  have rT:i<bs.length:=by
   rcases gq i bs.length with q|q
   ·exact q
   ·rw[nt q]at lV;cases lV
  have dG:i∈Fh d bs.length:=by
   unfold Fh;simp[rT,hid]
  cases f with
  |zero=>cases h
  |succ f=>
   simp only[fJ.all,hit]at h;split at h
   ·split at h
    ·rename_i hr;rw[hr]at dG;cases dG
    ·rename_i j is hr
     rw[hr]at dG;obtain⟨os,BF,rfl⟩:=cG.1 h;obtain⟨b,hb,zr⟩:=WW BF dG;rw[lV]at zr;simp only at zr;split at zr
     ·rename_i ar fH
      split at zr
      ·rename_i jq
       refine⟨ar,fH,?_,f,b,zr,fun x hx=>hs x (List.mem_flatten.2 ⟨b,hb,hx⟩)⟩;have:=ma jq;omega
      ·cases zr
     ·cases zr
   ·cases h
 ·rintro d s ⟨f,o,h,hs⟩ _ eD
  have hit:=fJ.PL h;cases f with
  |zero=>cases h
  |succ f=>
   have hr:Fh d bs.length=[]:=by
    unfold Fh;rw[List.filter_eq_nil_iff];intro i hi;have:=(eD i).2 (M9.1 hi);simp[this]
   simp only[fJ.all,hr]at h;split at h
   case isFalse=>cases h
   cases ae:R.fin call s with
   |none=>rw[ae]at h;cases h
   |some ar=>
    rw[ae]at h;simp only at h;split at h
    ·rename_i jq
     cases h;refine⟨ar,rfl,?_,hs _ (by simp)⟩;have:=ma jq;omega
    ·cases h
end
theorem WX (bF:fp C fid){ot:Nat}{fn:Func}{c:Code}{pY:List mV}{fresh:Bool}(ae:C.P.funcs[ot]? =some fn)(hb:fn.body=some c)(tS:ee C.res fn.results.toList=some pY)
  {args:List V} {v:V} {low':Nat} {xs:List Value} (hlen:args.length<=fn.ntmps)
  (PM:di C fid (Ctx.varsOf fn) fn.ntmps c {aG:=[],aw:=gF 0 args,H,low:=H.length} (fun x st=>(x=.normal\/x=.ret)/\∃vs,hK st.aw st.H pY=some vs/\finish fresh H (jW vs) st.H st.low=some (v,H',low')))
  (aa:bf C fid G H w) (af:bk fid G w args xs):Calls C.P ot ⟨xs⟩ w (fun e w'=>∃x,e=.returned x/\lq C fid G H w v H' low' x w'):=by
 have jc:=af.length
 have ju:dO C fid (Ctx.varsOf fn) fn.ntmps G {aG:=[],aw:=gF 0 args,H,low:=H.length} {tmps:=(⟨xs⟩:Array Value)++Array.replicate (fn.ntmps-(⟨xs⟩:Array Value).size) undef,defers:=[]} w:=by
  refine⟨aa,fun t=> ?_,?_,aM _⟩
  ·unfold dX
   split
   ·rw[Pl]
    simp only[cI,if_true,Nat.sub_zero];cases ao:args[t]? with
    |none=>exact .undef _
    |some u=>
     obtain⟨x,hx,zf⟩:=af.get ao
     have aH:t<xs.length:=by
      rcases gq t xs.length with h|h
      ·exact h
      ·simp[nt h]at hx
     have:((⟨xs⟩:Array Value)++Array.replicate (fn.ntmps-(⟨xs⟩:Array Value).size) undef).getD t undef=x:=by
      rw[w4,af7 (by simpa using aH)];simp[hx]
     rw[this];exact zf
   ·exact .undef _
  ·simp only[yq,Array.size_replicate]
   show xs.length+(fn.ntmps-xs.length)=fn.ntmps;rw[jc];omega
 refine(callsIn_wide (n:=0)).1 (callsIn_of_wp_marks ae hb trivial ?_);refine PM G _ w none w.heap.size _ ju trivial (.nil _ _ _) (aM _) fun x st G' bl w' ho eP F=> ?_;obtain⟨Pn,vs,hr,sB⟩:=ho;obtain⟨rs,Pm,dx,hm,EY⟩:=F.marks
 have oo:LeavesInM Fence.wide 0 C.P fn bl.tmps (fun e w'=>∃x,e=.returned x/\lq C fid G H w v H' low' x w') bl.defers .returning w':=by
  rw[Pm];refine Jy (m0:=fun m=>m<=st.low) rs w' dx hm EY F.rel.rel F.ext (fun _ _ _=>trivial) fun bG ct dN jT=> ?_
  obtain⟨x,hx,zf⟩:=WC tS ct (fun t ht=>by
   have:=F.rel.env t;rw[O5 (WE ht)]at this;exact jT this) hr
  exact⟨x,hx,x,rfl,Wy aa ct dN eP.1 zf sB⟩
 rcases Pn with rfl|rfl
 ·exact oo
 ·exact oo
end Go.Abs
namespace Go.Abs
open Go
variable{C:Ctx}{fid:Nat->Nat}{w w':World}{G G':cc}{H H':Heap}
section
variable{vars:List Nat}{N:Nat}{call:c1}{n:Nat}
theorem di.pre (cR:C.P.follows .mixedOrders=true)(bF:fp C fid)(bn:hB C fid call){c d:Code}{ac:b8}(hc:C.code vars N c=some ac){st aX:au}(he:Abs.exec call n ac st=some (.normal,aX))
  {Out:X->au->Prop} (h:di C fid vars N d aX Out):di C fid vars N (.seq c d) st Out:=
 di.seq (di.exec cR bF bn hc he) (fun s hs=>by rw[hs.2];exact h) fun x s hx hs=>absurd hs.1 hx
def PN:List Code->Code->Code
 |[],d=>d
 |c::r,d=>.seq c (PN r d)
def nh (call:c1)(n:Nat):List b8->au->Option au
 |[],st=>some st
 |c::r,st=>match Abs.exec call n c st with
  |some (.normal,s)=>nh call n r s
  | _=>none
theorem di.WY (cR:C.P.follows .mixedOrders=true)(bF:fp C fid)(bn:hB C fid call){d:Code}{Out:X->au->Prop}:∀{cs:List Code} {JJ:List b8},ee (C.code vars N) cs=some JJ->∀{st aX:au},nh call n JJ st=some aX->
  di C fid vars N d aX Out->di C fid vars N (PN cs d) st Out
 |[],JJ,hm,st,aX,he,h=>by
  simp only[ee,aA]at hm;subst hm;simp only[nh,aA]at he;subst he;exact h
 |c::cs,JJ,hm,st,aX,he,h=>by
  simp only[ee]at hm;split at hm
  ·rename_i a ao
   split at hm
   ·rename_i aU has
    cases hm;simp only[nh]at he;split at he
    ·rename_i s hs
     exact di.pre cR bF bn ao hs (di.WY cR bF bn has he h)
    ·cases he
   ·cases hm
  ·cases hm
end
structure ni where
 pre:List b8
 R:fJ
 post:b8
 pY:List mV
def aka:X->Bool
 | .normal| .ret=>true
 | _=>false
def ni.ends (B:ni)(v:V):X × au->Bool:=fun(x,s)=>aka x&&match hK s.aw s.H B.pY with
 |some vs=>match finish false [] (jW vs) s.H s.low with
  |some (u,H',l)=>ek u v&&H'.isEmpty&&Nat.beq l 0
  |none=>false
 |none=>false
def ni.ok (B:ni)(call:c1)(n:Nat)(args:List V)(v:V):Bool:=
 match nh call n B.pre {aG:=[],aw:=gF 0 args,H:=[],low:=0}with
 |some jw=>match c5 call B.R.t0 {jw with aG:=[]} []with
  |some (st,_)=>match B.R.src.ai st.aG st.aw with
   | .map l=>match st.H[l]? with
     |some (.map bs)=>match B.R.all call n bs st.H.length n [] (iA B.R.it st)with
      |some outs=>outs.all fun ar=>match exec call n B.post {ar with low:=min st.low st.H.length}with
       |some p=>B.ends v p
       |none=>false
      |none=>false
     | _=>false
   | _=>false
  |none=>false
 |none=>false
structure JK (C:Ctx) (fn:Func) (B:ni):Prop where
 ok:∃(cs:List Code) (JL JM:Code),fn.body=some (PN cs (.seq JL JM))/\ee (C.code (Ctx.varsOf fn) fn.ntmps) cs=some B.pre/\zq C (Ctx.varsOf fn) fn.ntmps JL=some B.R/\C.code (Ctx.varsOf fn) fn.ntmps JM=some B.post/\
  ee C.res fn.results.toList=some B.pY/\(fn.name== "runtime.NumGoroutine")=false
theorem ni.calls (cR:C.P.follows .mixedOrders=true)(bF:fp C fid){call:c1}(bn:hB C fid call){n ot:Nat}{fn:Func}{B:ni}(ae:C.P.funcs[ot]? =some fn)(dK:JK C fn B){args:List V}{v:V}(hlen:args.length<=fn.ntmps)
  (aZ:B.ok call n args v=true) {xs:List Value} (aa:bf C fid G [] w) (af:bk fid G w args xs):Calls C.P ot ⟨xs⟩ w (fun e w'=>∃x,e=.returned x/\lq C fid G [] w v [] 0 x w'):=by
 obtain⟨cs,JL,JM,hb,JN,akb,akc,tS,-⟩:=dK.ok;refine WX bF ae hb tS (fresh:=false) hlen ?_ aa af;unfold ni.ok at aZ;split at aZ
 case h_2=>cases aZ
 rename_i jw cg;split at aZ
 case h_2=>cases aZ
 rename_i st wr hex;split at aZ
 case h_2=>cases aZ
 rename_i l hl;split at aZ
 case h_2=>cases aZ
 rename_i bs akd;split at aZ
 case h_2=>cases aZ
 rename_i outs ake;refine di.WY cR bF bn JN cg ?_;refine di.seq (di.aj9 cR bF bn (WV akb) hex hl akd ake) (fun s hs=> ?_) fun x s hx hs=>absurd hs.1 hx;obtain⟨-,ar,zs,rfl⟩:=hs;have h1:=eV.1 aZ ar zs;split at h1
 case h_2=>cases h1
 rename_i p hp;obtain⟨x,s2⟩:=p;refine(di.exec cR bF bn akc hp).mono fun y fu hy=> ?_;obtain⟨rfl,rfl⟩:=hy;unfold ni.ends at h1;simp only[ca]at h1;obtain⟨h2,av⟩:=h1;refine⟨?_,?_⟩
 ·cases y with
  |normal=>exact .inl rfl
  |ret=>exact .inr rfl
  |exit i=>cases h2
 ·split at av
  case h_2=>cases av
  rename_i vs c3;split at av
  case h_2=>cases av
  rename_i u H' k je;simp only[ca]at av;obtain⟨⟨bc,h5⟩,gb⟩:=av;have ag:=vw _ _ bc
  have e2:H'=[]:=by cases H' with
   |nil=>rfl
   |cons=>cases h5
  have bI:k=0:=e8 gb;subst ag;subst e2;subst bI;exact⟨vs,c3,je⟩
def ni.hq (B:ni)(call:c1)(n:Nat)(N:Nat):List (List V × V)->Prop
 |[]=>True
 |(aU,v)::r=>(bQ v=true/\Nat.ble aU.length N=true/\B.ok call n aU v=true)/\B.hq call n N r
theorem ni.JC (cR:C.P.follows .mixedOrders=true)(bF:fp C fid){call:c1}(bn:hB C fid call){n ot:Nat}{fn:Func}{B:ni}(ae:C.P.funcs[ot]? =some fn)(dK:JK C fn B):∀{l:List (List V × V)},B.hq call n fn.ntmps l->o6 C fid ot (hk l):=by
 intro l hl G H w args v xs aa eX ng;obtain⟨cs,JL,JM,hb,-,-,-,-,E1⟩:=dK.ok;rw[EZ ae hb E1]
 induction l with
 |nil=>cases ng
 |cons p r ih=>
  obtain⟨aU,u⟩:=p;simp only[hk]at ng;cases e:nv args aU with
  |true=>
   rw[e]at ng;have h':some u=some v:=ng;cases h';have e':=tR _ _ e;subst e';obtain⟨⟨h1,h2,av⟩,-⟩:=hl;have hc:=ni.calls cR bF bn ae dK (ma h2) av aa.apart (dn.oP eX);exact DN hc fun e w'=>fun⟨x,ag,e2⟩=>⟨x,ag,e2.beside aa h1⟩
  |false=>rw[e]at ng;exact ih hl.2 ng
end Go.Abs
namespace Go.Abs.bZ
open Go Go.Abs Go.Proofs
noncomputable section
def C (g:Nat->Option Obj):Ctx:={P:=Tryz.prog,Im:=some,raw:=fun i=>i==39||i==83||i==217||i==226||i==271||i==306||i==341||i==394||i==396||i==415||i==447||i==451||i==497,fG:=g,jM:=fun p=>!(p== "names.go:37" ||p== "parser.go:280"),Bq:=[506],T5:=fun p=>p== "ref.go:86" }
def akf (i:Nat):Bool:=i==39||i==83||i==217||i==226||i==341||i==415
def WZ (i:Nat):Option (List V->Option V):=match i with
 |55=>some Eb
 |219=>some ND
 |244=>some Ea
 |252=>some NC
 |369=>some NF
 |424=>some IM
 |427=>some IP
 | _=>none
def fw (g:Nat->Option Obj):Nat->Option cb:=fun i=>match WZ i with
 |some s=>some (.ext s)
 |none=>match Tryz.prog.funcs[i]? with
  |some f=>match(C g).func f (akf i)with
   |some a=>some (.code a)
   |none=>none
  |none=>none
end
end Go.Abs.bZ
namespace Go.Abs.bZ
open Go Go.Abs Go.Proofs
set_option maxRecDepth 100000
theorem akg (caps:Array Value):IY Tryz.prog {target:=.fn (.func 506) caps,args:= #[]}:=by
 refine⟨_,caps,506,caps,rfl,fun w=>⟨by simp[invoke,go_sem],?_⟩⟩;refine callsDIn_of_wpSIn Tryz.func506 rfl trivial fun aA0 cs hu=> ?_;have hn:Tryz.f506.ntmps=18:=by kernel_rfl
 rw[hn];generalize hT:caps++Array.replicate (18-caps.size) undef=T;have hs:18<=T.size:=by rw[<-hT,yq,Array.size_replicate];omega
 clear hT;apply wpSIn_seq;apply wpSIn_region;simp[wpOpsSIn,go_sem,recoverD,hu,Exit.thenS];apply wpSIn_seq;apply wpSIn_region;have aA1:∀(A:Array Value) (i:Nat),A.getD i undef=(A[i]?).getD undef:=fun A i=>w4 ..;have h1:1<T.size:=by omega
 have bc:4<T.size:=by omega
 have h5:5<T.size:=by omega
 have gb:6<T.size:=by omega
 simp[wpOpsSIn,go_sem,Exit.thenS,Act.eval,Act.put,Array.getElem?_setIfInBounds,h1,bc,h5,gb];refine wpSIn_cond (t:=false) (by simp[Act.eval,Array.getElem?_setIfInBounds,h1,bc,h5,gb]) ?_;simp only[gN,if_false];refine wpSIn_of_wpIn rfl (wpIn_skip ?_);have hr:Tryz.f506.results= #[]:=by kernel_rfl
 have aA2:Tryz.f506.resultTypes= #[]:=by kernel_rfl
 simp_all [bodyPostS,results];rw[<-hu]
theorem tW{g:Nat->Option Obj}:fp (C g) id:=⟨fun f i h=>by cases h;rfl,fun i hi caps=>by
 have tM:i∈[506]:=hi;simp only[dL,ys,or_false]at tM;subst tM;exact akg caps⟩
theorem mixed{g:Nat->Option Obj}:(C g).P.follows .mixedOrders=true:=by kernel_rfl
end Go.Abs.bZ
namespace Go.Proofs
open Go.Shelf
def Tryz.W0:Go.Shelf.Ren:=⟨fun|156=>244|165=>351|166=>352|169=>353|240=>420|241=>421|276=>478|277=>479|n=>n,fun|31=>24|9=>9|3=>3|4=>4|0=>0|20=>20|72=>388|76=>306|70=>386|37=>225|75=>305|127=>437|164=>483|5=>5|80=>241|n=>n,fun|n=>n⟩
theorem Tryz.W1:Go.Proofs.Lays.n156 Tryz.prog Tryz.W0:=by constructor<;>intros<;>kernel_rfl
theorem Tryz.W2:Builder.Extra Tryz.prog Tryz.W0:={
 sizeBuilder:=by kernel_rfl
 liesBuilder:=by kernel_rfl
 t5:=Tryz.underlying5
 a5:=Tryz.isAgg5
 z5:=Tryz.sizeOf5
 v5:=Tryz.zeroValue5
 infoByte:=by kernel_rfl
 cellsByte:=by kernel_rfl
 sizeByte:=by kernel_rfl
 neB5:=by decide}
open Go.RowKit in
theorem Tryz.strings_Join_none (a:Option Addr)(c:Nat)(sep:ByteArray)(w:World):
 Calls Tryz.prog 244 #[.slice a 0 c,.string sep] w fun e w'=>e=.returned (.string ⟨#[]⟩)/\w'=w:=Any.strings_Join_none Tryz.W1 Tryz.W2 a c sep w
open Go.RowKit in
theorem Tryz.strings_Join (JO o c:Nat)(xs:List ByteArray)(sep:ByteArray)(w:World)(ve:∀(j:Nat) x,xs[j]? =some x->w.cell? ⟨JO,o+j,none⟩=some (.string x))(akh:JO<w.heap.size)(hZ:xs.length<=140737488355328)(fb:xs.length<=c)(hlen:(Lib.join (xs.map (·.data.toList)) sep.data.toList).length<=140737488355328):
 Calls Tryz.prog 244 #[.slice (some ⟨JO,o,none⟩) xs.length c,.string sep] w fun e w'=>e=.returned (.string ⟨(Lib.join (xs.map (·.data.toList)) sep.data.toList).toArray⟩)/\Below w.heap.size w w':=Any.strings_Join Tryz.W1 Tryz.W2 JO o c xs sep w ve akh hZ fb hlen
def Tryz.aki:Go.Shelf.Ren:=⟨fun|161=>369|231=>434|227=>435|233=>436|235=>437|228=>492|197=>493|151=>494|260=>518|152=>519|137=>427|119=>534|224=>535|225=>536|217=>488|266=>515|n=>n,fun|9=>9|4=>4|3=>3|5=>5|117=>454|116=>453|0=>0|124=>457|105=>496|21=>21|119=>487|46=>280|139=>547|138=>546|n=>n,fun|3=>8|4=>9|n=>n⟩
theorem Tryz.akj:Go.Proofs.Lays.n161 Tryz.prog Tryz.aki:=by constructor<;>intros<;>kernel_rfl
open Go.RowKit in
theorem Tryz.strings_TrimLeft_one (s:ByteArray)(c:UInt8)(hc:c.toNat<128)(w:World):
 Calls Tryz.prog 369 #[.string s,.string ⟨#[c]⟩] w fun e w'=>e=.returned (.string ⟨(Lib.trimLeftB s.data.toList c).toArray⟩)/\w'=w:=Any.strings_TrimLeft_one Tryz.akj s c hc w
def Tryz.akk:Go.Shelf.Ren:=⟨fun|125=>219|128=>337|129=>338|n=>n,fun|46=>280|3=>3|51=>371|53=>373|4=>4|5=>5|9=>9|n=>n,fun|n=>n⟩
theorem Tryz.akl:Go.Proofs.Lays.n125 Tryz.prog Tryz.akk:=by constructor<;>intros<;>kernel_rfl
theorem Tryz.bits_Len (x:Int)(w:World)(h0:0<=x)(h1:x<=18446744073709551615):
 Calls Tryz.prog 219 #[.int .u64 x] w fun e w'=>e=.returned (.int .i64 (Lib.bitLen x.toNat))/\w'=w:=Any.bits_Len Tryz.akl x w h0 h1
def Tryz.akm:Go.Shelf.Ren:=⟨fun|137=>427|217=>488|266=>515|n=>n,fun|9=>9|5=>5|3=>3|n=>n,fun|n=>n⟩
theorem Tryz.akn:Go.Proofs.Lays.n137 Tryz.prog Tryz.akm:=by constructor<;>intros<;>kernel_rfl
open Go.RowKit in
theorem Tryz.strings_IndexByte (s:ByteArray)(c:Int)(w:World):
 Calls Tryz.prog 427 #[.string s,.int .u8 c] w fun e w'=>e=.returned (.int .i64 (Lib.indexByte s.data.toList c.toNat.toUInt8))/\w'=w:=Any.strings_IndexByte Tryz.akn s c w
def Tryz.ako:Go.Shelf.Ren:=⟨fun|172=>252|244=>366|245=>367|247=>428|279=>429|280=>430|281=>431|282=>432|287=>489|316=>490|171=>55|205=>491|321=>516|322=>517|243=>131|246=>242|283=>347|284=>348|285=>349|286=>350|129=>338|317=>416|318=>417|319=>418|320=>419|337=>476|338=>477|n=>n,fun|9=>9|3=>3|75=>305|76=>306|4=>4|5=>5|167=>444|37=>225|0=>0|85=>445|2=>2|168=>447|53=>373|175=>490|46=>280|210=>494|127=>437|145=>523|143=>521|21=>21|171=>382|173=>384|212=>435|51=>371|20=>20|213=>436|232=>513|233=>514|80=>241|n=>n,fun|15=>2|16=>3|17=>0|18=>4|19=>5|n=>n⟩
theorem Tryz.akp:Go.Proofs.Lays.n172 Tryz.prog Tryz.ako:=by constructor<;>intros<;>kernel_rfl
open Go.RowKit in
theorem Tryz.strconv_Atoi (s:ByteArray)(n:Int)(hl:s.size<=18)(h:Lib.atoi s.data.toList=some n)(w:World):
 Calls Tryz.prog 252 #[.string s] w fun e w'=>e=.returned (.tuple #[.int .i64 n,.nilIface])/\∃t,w'=Lib.bytesWorld w 5 t:=Any.strconv_Atoi Tryz.akp s n hl h w
def Tryz.akq:Go.Shelf.Ren:=⟨fun|171=>55|243=>131|246=>242|283=>347|284=>348|285=>349|286=>350|129=>338|317=>416|318=>417|319=>418|320=>419|337=>476|338=>477|n=>n,fun|3=>3|9=>9|2=>2|4=>4|171=>382|0=>0|53=>373|37=>225|5=>5|173=>384|212=>435|51=>371|20=>20|213=>436|46=>280|232=>513|233=>514|n=>n,fun|17=>0|18=>4|19=>5|n=>n⟩
theorem Tryz.akr:Go.Proofs.LaysM.n171 Tryz.prog Tryz.akq:=by constructor<;>intros<;>first|kernel_rfl|(constructor<;>intros<;>kernel_rfl)
open Go.RowKit Go.Sort Go.Lib in
theorem Tryz.strconv_Itoa (n:Int)(h0:-9223372036854775808<=n)(h1:n<=9223372036854775807)(w:World)(o7:Lib.TabIs Tryz.prog w "internal/strconv.uint64pow10" .u64 Lib.pow10Tab):
 Calls Tryz.prog 55 #[.int .i64 n] w fun e w'=>e=.returned (.string ⟨(Lib.itoa n).toArray⟩)/\∃k os,w'=grow (w.drewN k) os:=Any.strconv_Itoa Tryz.akr n h0 h1 w o7
def Tryz.aks:Go.Shelf.Ren:=⟨fun|171=>55|243=>131|246=>242|283=>347|284=>348|285=>349|286=>350|129=>338|317=>416|318=>417|319=>418|320=>419|337=>476|338=>477|n=>n,fun|3=>3|9=>9|2=>2|4=>4|171=>382|0=>0|53=>373|37=>225|5=>5|173=>384|212=>435|51=>371|20=>20|213=>436|46=>280|232=>513|233=>514|n=>n,fun|17=>0|18=>4|19=>5|n=>n⟩
theorem Tryz.akt:Go.Proofs.Lays.n171 Tryz.prog Tryz.aks:=by constructor<;>intros<;>kernel_rfl
open Go.RowKit Go.Sort Go.Lib in
theorem Tryz.strconv_Itoa_small (i:Nat)(hi:i<100)(w:World):
 Calls Tryz.prog 55 #[.int .i64 i] w fun e w'=>e=.returned (.string ⟨(Lib.decDigits i).toArray⟩)/\w'=w:=Any.strconv_Itoa_small Tryz.akt i hi w
def Tryz.aku:Go.Shelf.Ren:=⟨fun|157=>424|229=>485|199=>486|261=>514|311=>532|312=>533|n=>n,fun|9=>9|31=>24|3=>3|5=>5|4=>4|119=>487|0=>0|40=>489|152=>515|21=>21|154=>517|51=>371|141=>519|196=>537|193=>534|198=>540|49=>538|194=>535|201=>543|226=>550|46=>280|227=>551|n=>n,fun|0=>1|6=>7|n=>n⟩
theorem Tryz.akv:Go.Proofs.Lays.n157 Tryz.prog Tryz.aku:=by constructor<;>intros<;>kernel_rfl
open Go.RowKit Go.Lib in
theorem Tryz.strings_Fields (s:ByteArray)(w:World)(hs:s.size<4294967281)(akw:∀(j:Nat) b,s.data.toList[j]? =some b->b.toNat<128)(o7:Lib.TabIs Tryz.prog w "strings.asciiSpace" .u8 Lib.asciiSpaceTab):
 Calls Tryz.prog 424 #[.string s] w fun e w'=>
  e=.returned (.slice (some ⟨w.heap.size,0,none⟩) (Lib.fields s.data.toList).length (Lib.fields s.data.toList).length)/\w'=w.alloc (.cells ((Lib.fields s.data.toList).map fun l=>Value.string ⟨l.toArray⟩).toArray 9):=Any.strings_Fields Tryz.akv (by kernel_rfl) (by kernel_rfl) s w hs akw o7
end Go.Proofs
