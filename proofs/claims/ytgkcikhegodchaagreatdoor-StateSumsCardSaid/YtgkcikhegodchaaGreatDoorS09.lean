/- Texts of this claim, joined and written short by a program. -/
import Derived.Test.YtgkcikhegodchaaGreatDoorS08
import Derived.Shelf.Strings.Builder1
import Derived.Test.YtgkcikhegodchaaGreatDoorS01
import Derived.Test.YtgkcikhegodchaaGreatDoorProg
import Derived.Test.YtgkcikhegodchaaGreatDoorS00
set_option linter.unusedVariables false
set_option linter.unusedSimpArgs false
set_option linter.unusedSectionVars false
namespace Go.Abs
open Go
variable{C:Ctx}{fid:Nat->Nat}{w w':World}{G G':bT}{H H':Heap}
structure eS where
 t0:List bI
 src:ai
 it:Nat
 aB:Nat × Bool
 t1:List bI
 more:ai
 eT:Nat
 pair:Nat × Bool
 t2:List bI
 body:cm
def eS.step (R:eS)(call:cP)(e:V)(st:av):Option av:=
 match cY call R.t1 (({st with aC:=[]}:av).put (some R.aB) e) []with
 |some (aV,_)=>some {aV with aC:=[]}
 |none=>none
def eS.round (R:eS)(call:cP)(n:Nat)(k v:V)(st:av):Option av:=
 match R.step call (.aU [.bool true,k,v]) {st with low:=st.H.length}with
 |some st1=>match R.more.ag st1.aC st1.au with
  | .bool true=>
    if dL (bA st1.au R.it) (bA st.au R.it)=true then
     match cY call R.t2 (({st1 with aC:=[]}:av).put (some R.pair) (.aU [k,v])) []with
     |some (st2,_)=>match exec call n R.body {st2 with aC:=[]}with
      |some (.normal,lT)=>some lT
      |some (.exit id,lT)=>if id=R.eT then some lT else none
      | _=>none
     |none=>none
    else none
  | _=>none
 |none=>none
def eS.fin (R:eS)(call:cP)(st:av):Option av:=
 match R.step call (.aU [.bool false]) {st with low:=st.H.length}with
 |some st1=>match R.more.ag st1.aC st1.au with
  | .bool false=>some st1
  | _=>none
 |none=>none
def hF (it:Nat)(st:av):av:={st with aC:=[],au:=dw st.au it (.ptr st.H.length 0),H:=st.H++[.gone]}
section
variable{vars:List Nat}{N:Nat}{call:cP}{n:Nat}
theorem Cf{id:Nat}{ops:Array Oper}{hG:Oper}{os:List Oper}{d0:Nat}{bF:List bI}{st1 aV:av}{wr:List Bool}{a:Act}{x:Value}{aD:World}{ay:bT}{Q:Exit->Act->World->Prop}{ro:Option Nat}
  (bw:eW C fid) (ba:gL C fid call) (qc:ops.toList=hG::os) (hd:hG.dst=some d0) (a6:hG.guard=none) (hnd:∀c,hG.op≠ .defer c) (hm:dF (C.oper vars N ops) os=some bF)
  (cc:(execOp a.eval hG).run C.P w=.ok (.value x) aD) (fI:dC C fid vars N ay st1 (a.put (some d0) x) aD) (he:cY call bF st1 []=some (aV,wr))
  (dD:∀G' a8 w',dC C fid vars N G' aV a8 w'->(∀m,m<=aV.low->Ext ay aD G' w' m st1.H.length)->a8.defers=a.defers->Q .normal a8 w'):
  (Code.region id ops false).wpIn (eH ro) 0 C.P Q a w:=by
 obtain⟨S,aY,h0,hn,-,hs⟩:=uo _ _ _ _ _ he;have hlen:bF.length=os.length:=vr _ hm;have dk:ops.size=os.length+1:=by rw[<-fC,qc];rfl
 have key:∀k j,j+k=os.length->∀bl al bJ,dC C fid vars N bl (S j) al bJ->(∀m,m<=(S j).low->Ext ay aD bl bJ m st1.H.length)->al.defers=a.defers->st1.H.length<=(S j).H.length->
   wpOpsIn (eH ro) 0 C.P ops Q (List.range' (j+1) k) al bJ:=by
  intro k
  induction k with
  |zero=>
   intro j hj bl al bJ bB b4 eI _;have e:j=bF.length:=by omega
   subst e;rw[hn]at bB b4;exact dD bl al bJ bB b4 eI
  |succ k ih=>
   intro j hj bl al bJ bB b4 eI gM;have nP:j<os.length:=by omega
   have jU:os[j]? =some os[j]:=by simp[nP]
   have ho:ops[j+1]? =some os[j]:=by rw[<-gr,qc];simp[nP]
   have EG:j<bF.length:=by omega
   have gd:bF[j]? =some bF[j]:=by simp[EG]
   have bh:um C vars N ops os[j] bF[j]:=BX (vt _ hm jU gd);have b7:=hs j _ gd;rw[qw,wpOpsIn_cons];have eN:=b7.bQ ba.bQ;refine ze (T:=fun _=>True) bw ba ho bh b7 bB.rel (fun _=>.inl rfl) bB.low (fun t _=>bB.env t) (fun x _=>by cases x<;>trivial) (fun _ _ _ _ _=>trivial) bB.size ?_;intro x fQ jY p1 p2 p3
   have zh:aX C fid jY (S (j+1)).H fQ:=by
    cases ae:aY j with
    |true=>rw[ae]at p1;exact p1
    |false=>rw[ae]at p1;rw[b7.still ba.bQ ae];exact p1
   have oF:=p2 0 (cD _)
   refine ih (j+1) (by omega) jY _ fQ ⟨zh,fun t=> ?_,by rw[xB];exact bB.size,eN.bound bB.low⟩ (fun m hm=>(b4 m (cM hm eN.1.low)).trans ((p2 m hm).le (aF _) gM)) (by rw[put_defers];exact eI)
    (cM gM eN.1.len)
   refine zg (fun d hd=>by rw[bB.size];exact bh.lt d hd) (fun h=>p3 t h) (fun h=> ?_);rw[b7.look bh h];exact(bB.env t).ext bB.rel oF
 refine wpIn_region ?_;rw[dk,DD,qw,wpOpsIn_cons];have aje:ops[0]? =some hG:=by rw[<-gr,qc];rfl
 refine IY aje a6 hnd cc ?_;rw[hd];rw[<-h0]at fI;exact key os.length 0 (by omega) ay _ aD fI (fun m _=>.refl _ _ _ _) (put_defers _ _ _) (by rw[h0];exact aF _)
theorem Ox{k0 r:Nat}{ops:Array Oper}{os:List Oper}{bF:List bI}{st1 aV:av}{wr:List Bool}{a:Act}{aD:World}{ay:bT}{Q:Exit->Act->World->Prop}{ro:Option Nat}
  (bw:eW C fid) (ba:gL C fid call) (zt:∀j,j<os.length->ops[k0+j]? =os[j]?) (hm:dF (C.oper vars N ops) os=some bF)
  (fI:dC C fid vars N ay st1 a aD) (he:cY call bF st1 []=some (aV,wr))
  (dD:∀G' a8 w',dC C fid vars N G' aV a8 w'->(∀m,m<=aV.low->Ext ay aD G' w' m st1.H.length)->a8.defers=a.defers->wpOpsIn (eH ro) 0 C.P ops Q (List.range' (k0+os.length) r) a8 w'):
  wpOpsIn (eH ro) 0 C.P ops Q (List.range' k0 (os.length+r)) a aD:=by
 obtain⟨S,aY,h0,hn,-,hs⟩:=uo _ _ _ _ _ he;have hlen:bF.length=os.length:=vr _ hm
 have key:∀k j,j+k=os.length->∀bl al bJ,dC C fid vars N bl (S j) al bJ->(∀m,m<=(S j).low->Ext ay aD bl bJ m st1.H.length)->al.defers=a.defers->st1.H.length<=(S j).H.length->
   wpOpsIn (eH ro) 0 C.P ops Q (List.range' (k0+j) (k+r)) al bJ:=by
  intro k
  induction k with
  |zero=>
   intro j hj bl al bJ bB b4 eI _;have e:j=bF.length:=by omega
   subst e;rw[hn]at bB b4;rw[hlen,dP];exact dD bl al bJ bB b4 eI
  |succ k ih=>
   intro j hj bl al bJ bB b4 eI gM;have nP:j<os.length:=by omega
   have jU:os[j]? =some os[j]:=by simp[nP]
   have ho:ops[k0+j]? =some os[j]:=(zt j nP).trans jU;have EG:j<bF.length:=by omega
   have gd:bF[j]? =some bF[j]:=by simp[EG]
   have bh:um C vars N ops os[j] bF[j]:=BX (vt _ hm jU gd);have b7:=hs j _ gd;rw[show k+1+r=(k+r)+1 by omega,qw,wpOpsIn_cons];have eN:=b7.bQ ba.bQ;refine ze (T:=fun _=>True) bw ba ho bh b7 bB.rel (fun _=>.inl rfl) bB.low (fun t _=>bB.env t) (fun x _=>by cases x<;>trivial) (fun _ _ _ _ _=>trivial) bB.size ?_;intro x fQ jY p1 p2 p3
   have zh:aX C fid jY (S (j+1)).H fQ:=by
    cases ae:aY j with
    |true=>rw[ae]at p1;exact p1
    |false=>rw[ae]at p1;rw[b7.still ba.bQ ae];exact p1
   have oF:=p2 0 (cD _)
   refine ih (j+1) (by omega) jY _ fQ ⟨zh,fun t=> ?_,by rw[xB];exact bB.size,eN.bound bB.low⟩ (fun m hm=>(b4 m (cM hm eN.1.low)).trans ((p2 m hm).le (aF _) gM)) (by rw[put_defers];exact eI)
    (cM gM eN.1.len)
   refine zg (fun d hd=>by rw[bB.size];exact bh.lt d hd) (fun h=>p3 t h) (fun h=> ?_);rw[b7.look bh h];exact(bB.env t).ext bB.rel oF
 rw[<-h0]at fI;exact key os.length 0 (by omega) ay _ aD fI (fun m _=>.refl _ _ _ _) rfl (by rw[h0];exact aF _)
theorem xI{m k:Nat}(h:Ext G w G' w' m k)(U:aX C fid G H w){l:Nat}{h0:Home}(hb:G.β l=some h0)(hl:l<m):w'.heap[h0.b]? =w.heap[h0.b]? :=
 h.ek h0.b (U.blk l h0 hb) fun fc h' ab aj=>.inr (by have:=U.inj fc l h' h0 ab hb aj;omega)
theorem xJ{m k:Nat}(h:Ext G w G' w' m k){l:Nat}{h0:Home}(hb:G.β l=some h0)(ht:h0.tag=0):∃h',G'.β l=some h'/\h'.b=h0.b:=by
 obtain⟨h',e,-,z,ajf,-⟩:=h.homes l h0 hb;exact⟨h',e,(ajf ((z ht).trans ht.symm)).1⟩
theorem IZ (U:aX C fid G H w){l:Nat}{h:Home}(hb:G.β l=some h)(hl:H[l]? =some .gone):h.tag=0/\h.fz=false:=by
 obtain⟨o,ho,hr⟩:=U.obj l h hb;rw[hl]at ho;cases ho;exact hr
theorem zu (U:aX C fid G H w){l:Nat}{h:Home}(hb:G.β l=some h){bf:List (V × V)}(hl:H[l]? =some (.map bf)):h.tag=0/\h.fz=false/\∃es bL,w.heap[h.b]? =some (.map es bL)/\
  a1 fid G w (bf.map (·.1)) (es.toList.map (·.key))/\a1 fid G w (bf.map (·.2)) (es.toList.map (·.val))/\o4 es bL:=by
 obtain⟨o,ho,hr⟩:=U.obj l h hb;rw[hl]at ho;cases ho;exact hr
theorem I0{H:Heap}{l:Nat}{o:bU}(h:H[l]? =some o):H.set l o=H:=by
 apply o0;intro i;by_cases e:l=i
 ·subst e
  have hl:l<H.length:=by
   rcases fV l H.length with q|q
   ·exact q
   ·rw[nA q]at h;cases h
  rw[mP hl,h]
 ·rw[iv e]
def mz (es:Array MapEntry)(d:List Nat):Array Nat:=(d.map fun i=>((es[i]?).map (·.born)).getD 0).toArray
theorem Oy (es:Array MapEntry)(d:List Nat){i:Nat}{e:MapEntry}(h:es[i]? =some e):mz es (d++[i])=(mz es d).push e.born:=by
 unfold mz;rw[jP,de,iO,h];simp
structure uu (C:Ctx) (fid:Nat->Nat) (vars:List Nat) (N base li l r kE bL:Nat) (es:Array MapEntry) (bf:List (V × V)) (st:av) (G:bT) (w:World) (d:List Nat) (s:av) (ay:bT) (al:Act) (aD:World):Prop where
 rel:dC C fid vars N ay s al aD
 bQ:gy st {s with low:=min st.low li}
 len:li<s.H.length
 ext:∀m,m<=min st.low li->Ext G w ay aD m st.H.length
 marks:k6 C ay aD base al.defers
 hi:∃h,ay.β li=some h/\h.b=r
 hm:∃h,ay.β l=some h/\h.b=kE
 gone:s.H[li]? =some .gone
 mp:s.H[l]? =some (.map bf)
 iter:aD.heap[r]? =some (.mapIter (some kE) bL (mz es d) bL)
 map:aD.heap[kE]? =some (.map es bL)
theorem uu.on{base li l r kE bL:Nat}{es:Array MapEntry}{bf:List (V × V)}{st:av}{d:List Nat}{s ao:av}{ay bl:bT}{al a2:Act}{aD bJ:World}
  (h:uu C fid vars N base li l r kE bL es bf st G w d s ay al aD) (jZ:l<li) (azI:li<=st.H.length) (U:dC C fid vars N bl ao a2 bJ) (c7:∀m,m<=ao.low->Ext ay aD bl bJ m s.H.length) (kB:li<ao.low) (cR:Fr s.H s.H.length ao.H ao.low) (dU:ao.ro=s.ro)
  (hd:k6 C bl bJ base a2.defers):uu C fid vars N base li l r kE bL es bf st G w d ao bl a2 bJ:=by
 obtain⟨h1,ab,q1⟩:=h.hi;obtain⟨h2,aj,q2⟩:=h.hm;have g1:=IZ h.rel.rel ab h.gone;have g2:=zu h.rel.rel aj h.mp;have qe:=c7 _ (aF _);have lu:=h.bQ.1.len;refine⟨U,⟨⟨cM h.bQ.1.len cR.len,jO _ _,fun x hx=> ?_⟩,dU.trans h.bQ.2⟩,rB h.len cR.len,fun m hm=> ?_,hd,?_,?_,?_,?_,?_,?_⟩
 ·have dM:x<min st.low li:=hx
  exact(cR.same x (by omega)).trans (h.bQ.1.same x hx)
 ·exact(h.ext m hm).trans ((c7 m (by omega)).le (aF _) lu)
 ·obtain⟨h',e',q'⟩:=xJ qe ab g1.1;exact⟨h',e',q'.trans q1⟩
 ·obtain⟨h',e',q'⟩:=xJ qe aj g2.1;exact⟨h',e',q'.trans q2⟩
 ·rw[cR.same li kB];exact h.gone
 ·rw[cR.same l (by omega)];exact h.mp
 ·have:=xI qe h.rel.rel ab kB
  rw[q1]at this;rw[this];exact h.iter
 ·have:=xI qe h.rel.rel aj (by omega)
  rw[q2]at this;rw[this];exact h.map
theorem dC.reset{st:av}{a:Act}(h:dC C fid vars N G st a w):dC C fid vars N G {st with aC:=[],low:=st.H.length} a w:=
 ⟨h.rel,h.clear.env,h.size,aF _⟩
theorem ajg{es:Array MapEntry}{d:List Nat}(hn:(es.toList.map (·.born)).Nodup)(aK:∀i∈d,i<es.size)(h:(leftOf es (mz es d)).size=0):∀i,i<es.size->i∈d:=by
 intro i hi;have h0:leftOf es (mz es d)= #[]:=afu h;unfold leftOf at h0;rw[afv]at h0;have h1:=h0 es[i] (by simp);simp only[mb,HM]at h1;rw[afy]at h1;unfold mz at h1;simp only[List.mem_toArray,dX]at h1;obtain⟨j,hj,hb⟩:=h1;have nP:=aK j hj;simp only[HC nP,o1,tW]at hb
 have:j=i:=by
  have VR:j<(es.toList.map (·.born)).length:=by simpa using nP
  have VS:i<(es.toList.map (·.born)).length:=by simpa using hi
  have hp:=Mb.1 hn;rcases Nat.lt_trichotomy j i with q|q|q
  ·exact absurd (by simpa using hb) (hp j i VR VS q)
  ·exact q
  ·exact absurd (by simpa using hb.symm) (hp i j VS VR q)
 rw[<-this];exact hj
theorem ajh{es:Array MapEntry}{d:List Nat}{e:MapEntry}(he:e∈(leftOf es (mz es d)).toList):∃i,es[i]? =some e/\i∉d/\(leftOf es (mz es (d++[i]))).size<(leftOf es (mz es d)).size:=by
 have p8:e∈es.toList/\(mz es d).contains e.born=false:=by
  unfold leftOf at he;simpa using he
 obtain⟨i,hi⟩:=pL.1 p8.1;rw[gr]at hi;refine⟨i,hi,fun hid=> ?_,?_⟩
 ·have:(mz es d).contains e.born=true:=by
   rw[afy];unfold mz;simp only[List.mem_toArray,dX];exact⟨i,hid,by rw[hi];rfl⟩
  rw[this]at p8;cases p8.2
 ·rw[Oy es d hi]
  unfold leftOf;have key:∀p:MapEntry->Bool,(es.filter p).size=(es.toList.filter p).length:=fun p=>by rw[<-fC,Array.toList_filter]
  rw[key,key];refine filter_lt _ _ (fun x hx=> ?_) e ?_ ?_ _ p8.1
  ·simp only[Array.contains_push,mb,yz]at hx⊢
   simp at hx⊢;exact hx.1
  ·rw[p8.2];rfl
  ·simp
theorem aji (cw:C.P.follows .mixedOrders=true)(bw:eW C fid)(ba:gL C fid call){k0 i1 i2:Nat}{hG on j0:Oper}{kF kG j1:Array Oper}{oJ oK:List Oper}
  {mt it aB more pair out eT:Nat} {tm r5 r6:TypeId} {body:Code} {R:eS}
  (h0:kF[k0]? =some hG) (vK:C.b5 vars (.tmp mt)=some R.src) (tc:hG.op=.range tm (.tmp mt)) (vL:hG.dst=some it) (vM:hG.guard=none) (hit:it<N) (vN:C.P.underlying tm=some (.map r5 r6))
  (h1:kG.toList=on::oJ) (qQ:on.op=.next (.tmp it) false) (hnd:on.dst=some aB) (td:on.guard=none) (oD:aB<N)
  (h2:j1.toList=j0::oK) (te:j0.op=.entry (.tmp it)) (vO:j0.dst=some pair) (vP:j0.guard=none) (vQ:pair<N)
  (qR:vars.contains it=true) (tf:R.aB=(aB,vars.contains aB)) (vR:R.pair=(pair,vars.contains pair))
  (qM:dF (C.oper vars N kG) oJ=some R.t1) (o7:dF (C.oper vars N j1) oK=some R.t2) (qS:C.b5 vars (.tmp more)=some R.more) (xK:C.code vars N body=some R.body) (Oz:R.eT=eT) (EO:R.it=it)
  {st:av} {l:Nat} {bf:List (V × V)} (qf:R.src.ag st.aC st.au=.map l) (nc:st.H[l]? =some (.map bf)) (Inv:List Nat->av->Prop) (Out:av->Prop)
  (tg:Inv [] (hF it st)) (qT:∀d s,Inv d s->bA s.au it=.ptr st.H.length 0)
  (oL:∀d s,Inv d s->∀i kv,i∉d->bf[i]? =some kv->∃ao,R.round call n kv.1 kv.2 s=some ao/\st.H.length<ao.low/\Inv (d++[i]) ao)
  (iC:∀d s,Inv d s->d.Nodup->(∀i,i∈d↔i<bf.length)->∃ao,R.fin call s=some ao/\st.H.length<ao.low/\Out ao)
  {a:Act} {ro:Option Nat} {base:Nat} {Q OA:Exit->Act->World->Prop} (U:dC C fid vars N G st a w) (dU:vG G st.ro ro) (eR:k6 C G w base a.defers) (hb:base<=w.heap.size)
  (dD:∀ao G' a8 w',Out ao->gy st {ao with low:=min st.low st.H.length}->Fin C fid vars N base st G w {ao with low:=min st.low st.H.length} G' a8 w'->Q .normal a8 w'):
  wpOpIn (eH ro) 0 C.P kF OA k0 (fun a8 w'=>(Code.block out (.loop (.seq (.region i1 kG false) (.seq (.cond (.tmp more) .skip (.exit out)) (.block eT (.seq (.region i2 j1 false) body)))))).wpIn (eH ro) 0 C.P Q a8 w') a w:=by
 have lv:=s8 bw U (.tmp mt) R.src vK;rw[qf]at lv;obtain⟨fg,vS,OB,OC⟩:=lv.mapInv;obtain⟨-,-,es,bL,eM,eD,cW,b7⟩:=zu U.rel vS nc;have jZ:l<st.H.length:=U.rel.lt vS
 have Er:(execOp a.eval hG).run C.P w=.ok (.value (.pointer (some ⟨w.heap.size,0,none⟩))) (w.alloc (.mapIter (some fg.b) bL #[] bL)):=by
  unfold execOp;rw[tc];have e:a.eval (.tmp mt)=.map (some fg.b):=OC;simp only[e,Sem.run_bind,run_range_map w tm r5 r6 fg.b es bL vN eM,Result.andThen_ok,Sem.run_pure]
 have OD:bf.length=es.size:=by
  have:=eD.length;simpa using this.symm
 have OE:=U.rel.push .gone (.mapIter (some fg.b) bL #[] bL) 0 0 ⟨rfl,rfl⟩;have r3:∀m k,k<=st.H.length->Ext G w ⟨ck G.β st.H.length ⟨w.heap.size,0,0,false⟩,G.I⟩ (w.alloc (.mapIter (some fg.b) bL #[] bL)) m k:=fun m k hk=>(Ext.push U.rel (.mapIter (some fg.b) bL #[] bL) 0 0 m).le (aF _) hk
 have OG:dC C fid vars N ⟨ck G.β st.H.length ⟨w.heap.size,0,0,false⟩,G.I⟩ {st with H:=st.H++[.gone]} a (w.alloc (.mapIter (some fg.b) bL #[] bL)):=
  ⟨OE,fun t=>(U.env t).ext U.rel (r3 0 0 (cD _)),U.size,by have:=U.low;simp only[fD,fl,mQ];omega⟩
 have lQ:dC C fid vars N ⟨ck G.β st.H.length ⟨w.heap.size,0,0,false⟩,G.I⟩ (hF it st) (a.put (some it) (.pointer (some ⟨w.heap.size,0,none⟩))) (w.alloc (.mapIter (some fg.b) bL #[] bL)):=by
  have:=OG.put hit (v:=.ptr st.H.length 0) (x:=.pointer (some ⟨w.heap.size,0,none⟩)) (.ptr st.H.length 0 ⟨w.heap.size,0,0,false⟩ (dh _ _ _) rfl);rw[qR]at this;exact this.clear
 suffices OH:∀G' a8 w',dC C fid vars N G' (hF it st) a8 w'->(∀m,m<=(hF it st).H.length->Ext ⟨ck G.β st.H.length ⟨w.heap.size,0,0,false⟩,G.I⟩ (w.alloc (.mapIter (some fg.b) bL #[] bL)) G' w' m (hF it st).H.length)->
   a8.defers=a.defers->(Code.block out (.loop (.seq (.region i1 kG false) (.seq (.cond (.tmp more) .skip (.exit out)) (.block eT (.seq (.region i2 j1 false) body)))))).wpIn (eH ro) 0 C.P Q a8 w' by
  refine IY h0 vM (by rw[tc];simp) Er ?_;rw[vL];exact OH _ _ _ lQ (fun m _=>.refl _ _ _ _) (by rw[put_defers])
 intro G' a8 w' bB b4 eI
 refine wpIn_block (IK (fun k al aD=>∃d s ay,Inv d s/\d.Nodup/\(∀i∈d,i<bf.length)/\(leftOf es (mz es d)).size<k/\uu C fid vars N base st.H.length l w.heap.size fg.b bL es bf st G w d s ay al aD) ?_
  (j:=(leftOf es (mz es [])).size+1) ?_)
 ·rintro k al aD ⟨d,s,ay,bk,VT,lP,hk,bH⟩
  obtain⟨bz,rfl⟩:∃bz,k=bz+1:=⟨k-1,by omega⟩;refine⟨bz,rfl,?_⟩;obtain⟨ar,bC,cd⟩:=bH.hi;obtain⟨aR,cu,c2⟩:=bH.hm
  have EP:al.eval (.tmp it)=.pointer (some ⟨w.heap.size,0,none⟩):=by
   have:=bH.rel.env it;rw[show dJ vars s it=bA s.au it by unfold dJ;rw[if_pos qR],qT d s bk]at this;obtain⟨h5,dv,-,fZ⟩:=this.nH;rw[bC]at dv;cases dv;rw[cd]at fZ;exact fZ
  have r7:∀c,on.op≠ .defer c:=by rw[qQ];simp
  have sY:∀c,j0.op≠ .defer c:=by rw[te];simp
  rcases VP (P:=C.P) on.type bH.iter bH.map b7.1 (aF _)with⟨dk,cc⟩|⟨e,he,bJ,vT,OI,OJ,cc⟩
  ·
   have eP:=ajg b7.2 (fun i hi=>by rw[<-OD];exact lP i hi) dk;obtain⟨ao,ae,kB,OK⟩:=iC d s bk VT fun i=>⟨lP i,fun hi=>eP i (by rw[<-OD];exact hi)⟩;unfold eS.fin eS.step at ae;split at ae
   ·rename_i s1 gI
    split at gI
    ·rename_i j2 wr hex
     cases gI;split at ae
     ·rename_i th
      cases ae
      have zv:(execOp al.eval on).run C.P aD=.ok (.value (.tuple #[.bool false])) aD:=by
       unfold execOp;rw[qQ];simp only[EP,Sem.run_bind,cc,Result.andThen_ok,Sem.run_pure]
      have vH:dC C fid vars N ay (({s with aC:=[],low:=s.H.length}:av).put (some R.aB) (.aU [.bool false])) (al.put (some aB) (.tuple #[.bool false])) aD:=by
       rw[tf];exact bH.rel.reset.put oD (.aU _ _ (.cons _ _ _ _ (.p _ _ (.bool false)) .nil))
      refine wpIn_seq (Cf bw ba h1 hnd td r7 qM zv vH hex fun bl a2 fQ gM jj ta=> ?_);have gf:=kD ({s with aC:=[],low:=s.H.length}:av) (some R.aB) (.aU [.bool false]);have cR:=pk ba.bQ _ _ _ _ _ (by rw[gf.1,gf.2.1];exact aF _) hex
      have ep:uu C fid vars N base st.H.length l w.heap.size fg.b bL es bf st G w d {j2 with aC:=[]} bl a2 fQ:=by
       refine bH.on jZ (aF _) gM.clear (fun m hm=> ?_) kB ?_ ?_ ?_
       ·have:=jj m hm
        rw[gf.1]at this;exact this
       ·have:=cR.1
        rw[gf.1,gf.2.1]at this;exact this
       ·exact cR.2.trans gf.2.2
       ·have:=bH.marks.ext (jj 0 (cD _))
        rw[ta];exact this
      have af:=s8 bw ep.rel (.tmp more) R.more qS;rw[th]at af;refine wpIn_seq (wpIn_cond_false af.kY (wpIn_exit ?_));show(if out=out then Q .normal a2 fQ else _);rw[if_pos rfl];exact dD _ bl a2 fQ OK ep.bQ ⟨⟨ep.rel.rel,ep.rel.env,ep.rel.size,cM (nB _ _) (qz ep.len)⟩,ep.ext,ep.marks⟩
     ·cases ae
    ·cases gI
   ·cases ae
  ·
   obtain⟨i,hi,hid,r8⟩:=ajh he
   have nd:i<es.size:=by
    rcases fV i es.size with q|q
    ·exact q
    ·rw[Be q]at hi;cases hi
   obtain⟨ajj,ajk,bK,sX,ER,xA,y8,-⟩:=zu bH.rel.rel cu bH.mp;rw[c2,bH.map]at ER;cases ER;obtain⟨OL,xH⟩:=IZ bH.rel.rel bC bH.gone;obtain⟨kv,jE⟩:∃kv,bf[i]? =some kv:=⟨bf[i]'(by omega),by simp⟩
   have OM:bd fid ay aD kv.1 e.key:=by
    obtain⟨x,hx,hr⟩:=xA.get (i:=i) (v:=kv.1) (by rw[h8,jE];rfl);rw[h8,gr,hi]at hx;cases hx;exact hr
   have mA:bd fid ay aD kv.2 e.val:=by
    obtain⟨x,hx,hr⟩:=y8.get (i:=i) (v:=kv.2) (by rw[h8,jE];rfl);rw[h8,gr,hi]at hx;cases hx;exact hr
   obtain⟨ao,ae,kB,zw⟩:=oL d s bk i kv hid jE;have hT:=turn bH.rel.rel bC xH (.mapIter (some fg.b) bL ((mz es d).push e.born) bL) .gone fun _ _ _=>⟨OL,xH⟩;rw[I0 bH.gone]at hT;have vU:bJ.heap=(aD.putObj ar.b (.mapIter (some fg.b) bL ((mz es d).push e.born) bL)).heap:=by rw[vT,cd];rfl
   have zx:aX C fid ay s.H bJ:=hT.1.jf vU;have zy:∀m,m<=st.H.length->Ext ay aD ay bJ m s.H.length:=fun m hm=>(hT.2.le hm (aF _)).trans (.jf vU OI OJ _ _)
   have vV:bJ.heap[w.heap.size]? =some (.mapIter (some fg.b) bL ((mz es d).push e.born) bL):=by
    rw[vU,<-cd];exact World.putObj_heap_same (bH.rel.rel.blk _ _ bC)
   have sU:bJ.heap[fg.b]? =some (.map es bL):=by
    rw[vU,World.putObj_heap_other (fun q=> ?_)]
    ·exact bH.map
    ·have:=bH.rel.rel.inj _ _ _ _ bC cu (by rw[c2,<-q]);omega
   have ES:dC C fid vars N ay s al bJ:=⟨zx,fun t=>(bH.rel.env t).ext bH.rel.rel (zy 0 (cD _)),bH.rel.size,bH.rel.low⟩;have zz:=zy 0 (cD _)
   have ET:uu C fid vars N base st.H.length l w.heap.size fg.b bL es bf st G w (d++[i]) s ay al bJ:=
    ⟨ES,bH.bQ,bH.len,fun m hm=>(bH.ext m hm).trans ((zy m (by omega)).le (aF _) bH.bQ.1.len),bH.marks.ext zz,bH.hi,bH.hm,bH.gone,bH.mp,by rw[Oy es d hi];exact vV,sU⟩
   have EU:=OM.ext bH.rel.rel zz;have EV:=mA.ext bH.rel.rel zz;unfold eS.round eS.step at ae;split at ae
   case h_2=>cases ae
   rename_i s1 gI;split at gI
   case h_2=>cases gI
   rename_i j2 wr hex;cases gI;split at ae
   case h_2=>cases ae
   rename_i th;split at ae
   case isFalse=>cases ae
   rename_i ON
   have OO:bA j2.au it=.ptr st.H.length 0:=by
    have:=vB _ _ ON;rw[EO]at this;exact this.trans (qT d s bk)
   split at ae
   case h_2=>cases ae
   rename_i s2 OP EW
   have zv:(execOp al.eval on).run C.P aD=.ok (.value (.tuple #[.bool true,e.key,e.val])) bJ:=by
    unfold execOp;rw[qQ];simp only[EP,Sem.run_bind,cc,Result.andThen_ok,Sem.run_pure]
   have vH:dC C fid vars N ay (({s with aC:=[],low:=s.H.length}:av).put (some R.aB) (.aU [.bool true,kv.1,kv.2])) (al.put (some aB) (.tuple #[.bool true,e.key,e.val])) bJ:=by
    rw[tf];exact ES.reset.put oD (.aU _ _ (.cons _ _ _ _ (.p _ _ (.bool true)) (.cons _ _ _ _ EU (.cons _ _ _ _ EV .nil))))
   have gf:=kD ({s with aC:=[],low:=s.H.length}:av) (some R.aB) (.aU [.bool true,kv.1,kv.2]);have cR:=pk ba.bQ _ _ _ _ _ (by rw[gf.1,gf.2.1];exact aF _) hex;have mB:=kD ({j2 with aC:=[]}:av) (some R.pair) (.aU [kv.1,kv.2]);have r1:j2.low<=j2.H.length:=cR.bound (by rw[gf.1,gf.2.1];exact aF _);have vW:=pk ba.bQ _ _ _ _ _ (by rw[mB.1,mB.2.1];exact r1) EW;have zf:s2.low<=s2.H.length:=vW.bound (by rw[mB.1,mB.2.1];exact r1)
   obtain⟨gA,e6,I1,ajl,ajm⟩:∃gA e6,exec call n R.body {s2 with aC:=[]}=some (gA,e6)/\(gA=.normal\/gA=.exit eT)/\e6=ao:=by
    split at ae
    ·rename_i e6 zo;cases ae;exact⟨_,_,zo,.inl rfl,rfl⟩
    ·rename_i id e6 zo
     split at ae
     ·rename_i ajn;cases ae;exact⟨_,_,zo,.inr (by rw[ajn,Oz]),rfl⟩
     ·cases ae
    ·cases ae
   subst ajm;have ti:=mw ba.bQ n _ _ _ _ (show({s2 with aC:=[]}:av).low<=({s2 with aC:=[]}:av).H.length from zf) I1;have ajo:e6.low<=s2.low:=ti.1.low;have ajp:s2.low<=j2.low:=by have:=vW.1.low;rw[mB.2.1]at this;exact this
   refine wpIn_seq (Cf bw ba h1 hnd td r7 qM zv vH hex fun bl a2 fQ gM jj ta=> ?_)
   have ep:uu C fid vars N base st.H.length l w.heap.size fg.b bL es bf st G w (d++[i]) {j2 with aC:=[]} bl a2 fQ:=by
    refine ET.on jZ (aF _) gM.clear (fun m hm=> ?_) (by show st.H.length<j2.low;omega) ?_ ?_ ?_
    ·have:=jj m hm
     rw[gf.1]at this;exact this
    ·have:=cR.1
     rw[gf.1,gf.2.1]at this;exact this
    ·exact cR.2.trans gf.2.2
    ·have:=ET.marks.ext (jj 0 (cD _))
     rw[ta];exact this
   have af:=s8 bw ep.rel (.tmp more) R.more qS;rw[th]at af;refine wpIn_seq (wpIn_cond_true af.kY (wpIn_skip ?_));show(Code.block eT (.seq (.region i2 j1 false) body)).wpIn (eH ro) 0 C.P _ a2 fQ;refine wpIn_block (wpIn_seq ?_)
   have OQ:a2.eval (.tmp it)=.pointer (some ⟨w.heap.size,0,none⟩):=by
    have:=ep.rel.env it;rw[show dJ vars {j2 with aC:=[]} it=bA j2.au it by unfold dJ;rw[if_pos qR],OO]at this;obtain⟨h5,dv,-,fZ⟩:=this.nH;obtain⟨eo,gY,hU⟩:=ep.hi;rw[gY]at dv;cases dv;rw[hU]at fZ;exact fZ
   have OR:(execOp a2.eval j0).run C.P fQ=.ok (.value (.tuple #[e.key,e.val])) fQ:=by
    have VU:=ep.iter;rw[Oy es d hi]at VU;have s9:=VQ (P:=C.P) VU ep.map (by rw[<-gr]at hi;exact gV hi) b7.2;unfold execOp;rw[te];simp only[OQ,Sem.run_bind,s9,Result.andThen_ok,Sem.run_pure]
   have EX:=jj 0 (cD _)
   have OS:dC C fid vars N bl (({j2 with aC:=[]}:av).put (some R.pair) (.aU [kv.1,kv.2])) (a2.put (some pair) (.tuple #[e.key,e.val])) fQ:=by
    rw[vR];exact ep.rel.put vQ (.aU _ _ (.cons _ _ _ _ (EU.ext zx EX) (.cons _ _ _ _ (EV.ext zx EX) .nil)))
   refine Cf bw ba h2 vO vP sY o7 OR OS EW fun jY a3 Cg zp vJ EK=> ?_
   have nW:uu C fid vars N base st.H.length l w.heap.size fg.b bL es bf st G w (d++[i]) {s2 with aC:=[]} jY a3 Cg:=by
    refine ep.on jZ (aF _) zp.clear (fun m hm=> ?_) (by show st.H.length<s2.low;omega) ?_ ?_ ?_
    ·have:=vJ m hm
     rw[mB.1]at this;exact this
    ·have:=vW.1
     rw[mB.1,mB.2.1]at this;exact⟨this.len,cM this.low r1,this.same⟩
    ·exact vW.2.trans mB.2.2
    ·have:=ep.marks.ext (vJ 0 (cD _))
     rw[EK];exact this
   show body.wpIn (eH ro) 0 C.P _ a3 Cg;refine r2 (n:=n) cw bw ba body _ _ _ xK _ _ _ I1 jY a3 Cg ro base _ nW.rel ?_ nW.marks (cM hb (nW.ext 0 (cD _)).size) fun EY a4 I2 F=> ?_
   ·have lC:({s2 with aC:=[]}:av).ro=st.ro:=nW.bQ.2
    rw[lC];exact dU.ext (nW.ext 0 (cD _))
   have xL:uu C fid vars N base st.H.length l w.heap.size fg.b bL es bf st G w (d++[i]) e6 EY a4 I2:=
    nW.on jZ (aF _) F.rel F.ext kB ⟨ti.1.len,cM ti.1.low zf,ti.1.same⟩ ti.2 F.marks
   have xC:∃d s ay,Inv d s/\d.Nodup/\(∀i∈d,i<bf.length)/\(leftOf es (mz es d)).size<bz/\uu C fid vars N base st.H.length l w.heap.size fg.b bL es bf st G w d s ay a4 I2:=by
    refine⟨d++[i],e6,EY,zw,tU.2 ⟨VT,by simp,fun x hx y hy=> ?_⟩,fun x hx=> ?_,by omega,xL⟩
    ·simp only[dp,rE,or_false]at hy
     subst hy;exact fun q=>hid (q ▸ hx)
    ·rcases jc.1 hx with q|q
     ·exact lP x q
     ·simp only[dp,rE,or_false]at q
      subst q;omega
   rcases ajl with rfl|rfl
   ·exact xC
   ·show(if eT=eT then _ else _)
    rw[if_pos rfl];exact xC
 ·have dY:(hF it st).H.length=st.H.length+1:=by unfold hF;simp
  have ab:=b4 (st.H.length+1) (by show st.H.length+1<=(hF it st).H.length;rw[dY];exact aF _);have eL:=r3 0 st.H.length (aF _)
  have oB:(⟨ck G.β st.H.length ⟨w.heap.size,0,0,false⟩,G.I⟩:bT).β l=some fg:=by
   show ck G.β st.H.length ⟨w.heap.size,0,0,false⟩ l=some fg;rw[dx (by omega)];exact vS
  have vp:(⟨ck G.β st.H.length ⟨w.heap.size,0,0,false⟩,G.I⟩:bT).β st.H.length=some ⟨w.heap.size,0,0,false⟩:=dh _ _ _;refine⟨[],hF it st,G',tg,DK,fun i hi=>(by cases hi),yC _,⟨⟨bB.rel,bB.env,bB.size,?_⟩,⟨⟨?_,jO _ _,fun x hx=> ?_⟩,rfl⟩,?_,fun m hm=> ?_,?_,?_,?_,?_,?_,?_,?_⟩⟩
  ·exact lQ.low
  ·show st.H.length<=(hF it st).H.length
   omega
  ·have dM:x<min st.low st.H.length:=hx
   show(st.H++[bU.gone])[x]? =_;rw[fB (by omega)]
  ·omega
  ·exact(r3 m st.H.length (aF _)).trans ((b4 m (by show m<=(hF it st).H.length;omega)).le (aF _) (by show st.H.length<=(hF it st).H.length;omega))
  ·rw[eI]
   exact(eR.ext eL).ext ab
  ·exact xJ ab vp rfl
  ·exact xJ ab oB OB
  ·show(st.H++[bU.gone])[st.H.length]? =_
   simp
  ·show(st.H++[bU.gone])[l]? =_
   rw[fB jZ];exact nc
  ·have:=xI ab lQ.rel vp (yC _)
   rw[this];exact mi _ _
  ·have:=xI ab lQ.rel oB (by omega)
   rw[this,alloc_old (U.rel.blk _ _ vS)];exact eM
theorem ajq (cw:C.P.follows .mixedOrders=true)(bw:eW C fid)(ba:gL C fid call){i0 i1 i2:Nat}{hG on j0:Oper}{kF kG j1:Array Oper}{qg oJ oK:List Oper}
  {mt it aB more pair out eT:Nat} {tm r5 r6:TypeId} {body:Code} {R:eS}
  (h0:kF.toList=qg++[hG]) (oC:dF (C.oper vars N kF) qg=some R.t0) (vK:C.b5 vars (.tmp mt)=some R.src) (tc:hG.op=.range tm (.tmp mt)) (vL:hG.dst=some it) (vM:hG.guard=none) (hit:it<N) (vN:C.P.underlying tm=some (.map r5 r6))
  (h1:kG.toList=on::oJ) (qQ:on.op=.next (.tmp it) false) (hnd:on.dst=some aB) (td:on.guard=none) (oD:aB<N)
  (h2:j1.toList=j0::oK) (te:j0.op=.entry (.tmp it)) (vO:j0.dst=some pair) (vP:j0.guard=none) (vQ:pair<N)
  (qR:vars.contains it=true) (tf:R.aB=(aB,vars.contains aB)) (vR:R.pair=(pair,vars.contains pair))
  (qM:dF (C.oper vars N kG) oJ=some R.t1) (o7:dF (C.oper vars N j1) oK=some R.t2) (qS:C.b5 vars (.tmp more)=some R.more) (xK:C.code vars N body=some R.body) (Oz:R.eT=eT) (EO:R.it=it)
  {iD st:av} {wr:List Bool} (he:cY call R.t0 {iD with aC:=[]} []=some (st,wr)) {l:Nat} {bf:List (V × V)} (qf:R.src.ag st.aC st.au=.map l) (nc:st.H[l]? =some (.map bf)) (Inv:List Nat->av->Prop) (Out:av->Prop)
  (tg:Inv [] (hF it st)) (qT:∀d s,Inv d s->bA s.au it=.ptr st.H.length 0)
  (oL:∀d s,Inv d s->∀i kv,i∉d->bf[i]? =some kv->∃ao,R.round call n kv.1 kv.2 s=some ao/\st.H.length<ao.low/\Inv (d++[i]) ao)
  (iC:∀d s,Inv d s->d.Nodup->(∀i,i∈d↔i<bf.length)->∃ao,R.fin call s=some ao/\st.H.length<ao.low/\Out ao)
  {a:Act} {ro:Option Nat} {base:Nat} {Q:Exit->Act->World->Prop} (U:dC C fid vars N G iD a w) (dU:vG G iD.ro ro) (eR:k6 C G w base a.defers) (hb:base<=w.heap.size)
  (dD:∀ao G' a8 w',Out ao->gy iD {ao with low:=min st.low st.H.length}->Fin C fid vars N base iD G w {ao with low:=min st.low st.H.length} G' a8 w'->Q .normal a8 w'):
  (Code.seq (.region i0 kF false) (.block out (.loop (.seq (.region i1 kG false) (.seq (.cond (.tmp more) .skip (.exit out)) (.block eT (.seq (.region i2 j1 false) body))))))).wpIn (eH ro) 0 C.P Q a w:=by
 have cR:=pk ba.bQ _ _ _ _ _ (show({iD with aC:=[]}:av).low<=({iD with aC:=[]}:av).H.length from U.low) he;have zA:gy iD st:=cR;have dk:kF.size=qg.length+1:=by rw[<-fC,h0];simp
 refine wpIn_seq (wpIn_region ?_);rw[dk,DD];refine Ox bw ba (k0:=0) (fun j hj=>by rw[dP,<-gr,h0,fB hj]) oC U.clear he fun ay al aD bB b4 eI=> ?_;have eL:=b4 0 (cD _);have hk:kF[0+qg.length]? =some hG:=by rw[dP,<-gr,h0];simp
 have EZ:k6 C ay aD base al.defers:=by rw[eI];exact eR.ext eL
 rw[qw,wpOpsIn_cons]
 exact(aji (n:=n) cw bw ba hk vK tc vL vM hit vN h1 qQ hnd td oD h2 te vO vP vQ qR tf vR qM o7 qS xK Oz EO qf nc Inv Out tg qT oL iC bB (by rw[zA.2];exact dU.ext eL) EZ (cM hb eL.size)
  fun ao G' a8 w' ho ae F=>dD ao G' a8 w' ho (zA.trans ae) ((Fin.trans (st:=iD) (st1:=st) ⟨bB,b4,EZ⟩ F zA ae)))
end
end Go.Abs
namespace Go.Abs
open Go
variable{C:Ctx}{fid:Nat->Nat}{w w':World}{G G':bT}{H H':Heap}
section
variable{vars:List Nat}{N:Nat}{call:cP}{n:Nat}
def cS (C:Ctx)(fid:Nat->Nat)(vars:List Nat)(N:Nat)(c:Code)(st:av)(Out:X->av->Prop):Prop:=
 ∀(G:bT) (a:Act) (w:World) (ro:Option Nat) (base:Nat) (Q:Exit->Act->World->Prop),dC C fid vars N G st a w->vG G st.ro ro->k6 C G w base a.defers->base<=w.heap.size->
  (∀x aV G' a8 w',Out x aV->gy st aV->Fin C fid vars N base st G w aV G' a8 w'->Q (B4 x) a8 w')->c.wpIn (eH ro) 0 C.P Q a w
theorem cS.exec (cw:C.P.follows .mixedOrders=true)(bw:eW C fid)(ba:gL C fid call){c:Code}{ac:cm}(hc:C.code vars N c=some ac){st aV:av}{x:X}(he:Abs.exec call n ac st=some (x,aV)):
  cS C fid vars N c st (fun y s=>y=x/\s=aV):=fun G a w ro base Q U dU eR hb dD=>
 r2 (n:=n) cw bw ba c _ _ _ hc _ _ _ he G a w ro base Q U dU eR hb fun G' a8 w' F=>dD x aV G' a8 w' ⟨rfl,rfl⟩ (mw ba.bQ n _ _ _ _ U.low he) F
theorem cS.mono{c:Code}{st:av}{Out VV:X->av->Prop}(h:cS C fid vars N c st Out)(hm:∀x s,Out x s->VV x s):cS C fid vars N c st VV:=fun G a w ro base Q U dU eR hb dD=>
 h G a w ro base Q U dU eR hb fun x s G' a8 w' ho=>dD x s G' a8 w' (hm x s ho)
theorem cS.seq{c d:Code}{st:av}{I3 Out:X->av->Prop}(h1:cS C fid vars N c st I3)(h2:∀s,I3 .normal s->cS C fid vars N d s Out)(ar:∀x s,x≠ .normal->I3 x s->Out x s):
  cS C fid vars N (.seq c d) st Out:=fun G a w ro base Q U dU eR hb dD=>by
 refine wpIn_seq (h1 G a w ro base _ U dU eR hb fun x s ay al aD ho ae F=> ?_);cases x with
 |normal=>
  refine h2 s ho ay al aD ro base _ F.rel (by rw[ae.2];exact dU.ext (F.ext 0 (cD _))) F.marks (cM hb (F.ext 0 (cD _)).size) fun dy s2 bl a2 bJ ajr zB ur=> ?_;exact dD dy s2 bl a2 bJ ajr (ae.trans zB) (F.trans ur ae zB)
 |exit id=>exact dD (.exit id) s ay al aD (ar _ _ (by simp) ho) ae F
 |ret=>exact dD .ret s ay al aD (ar _ _ (by simp) ho) ae F
structure OT (C:Ctx) (vars:List Nat) (N:Nat) (c:Code) (R:eS):Prop where
 ok:∃(i0 i1 i2:Nat) (hG on j0:Oper) (kF kG j1:Array Oper) (qg oJ oK:List Oper) (mt aB more pair out:Nat) (tm r5 r6:TypeId) (body:Code),
  c=.seq (.region i0 kF false) (.block out (.loop (.seq (.region i1 kG false) (.seq (.cond (.tmp more) .skip (.exit out)) (.block R.eT (.seq (.region i2 j1 false) body))))))/\
  kF.toList=qg++[hG]/\dF (C.oper vars N kF) qg=some R.t0/\C.b5 vars (.tmp mt)=some R.src/\hG.op=.range tm (.tmp mt)/\hG.dst=some R.it/\hG.guard=none/\R.it<N/\C.P.underlying tm=some (.map r5 r6)/\
  kG.toList=on::oJ/\on.op=.next (.tmp R.it) false/\on.dst=some aB/\on.guard=none/\aB<N/\
  j1.toList=j0::oK/\j0.op=.entry (.tmp R.it)/\j0.dst=some pair/\j0.guard=none/\pair<N/\
  vars.contains R.it=true/\R.aB=(aB,vars.contains aB)/\R.pair=(pair,vars.contains pair)/\
  dF (C.oper vars N kG) oJ=some R.t1/\dF (C.oper vars N j1) oK=some R.t2/\C.b5 vars (.tmp more)=some R.more/\C.code vars N body=some R.body
theorem cS.range (cw:C.P.follows .mixedOrders=true)(bw:eW C fid)(ba:gL C fid call){c:Code}{R:eS}(hc:OT C vars N c R){iD st:av}{wr:List Bool}(he:cY call R.t0 {iD with aC:=[]} []=some (st,wr))
  {l:Nat} {bf:List (V × V)} (qf:R.src.ag st.aC st.au=.map l) (nc:st.H[l]? =some (.map bf)) (Inv:List Nat->av->Prop) (Out:av->Prop)
  (tg:Inv [] (hF R.it st)) (qT:∀d s,Inv d s->bA s.au R.it=.ptr st.H.length 0)
  (oL:∀d s,Inv d s->∀i kv,i∉d->bf[i]? =some kv->∃ao,R.round call n kv.1 kv.2 s=some ao/\st.H.length<ao.low/\Inv (d++[i]) ao)
  (iC:∀d s,Inv d s->d.Nodup->(∀i,i∈d↔i<bf.length)->∃ao,R.fin call s=some ao/\st.H.length<ao.low/\Out ao):
  cS C fid vars N c iD (fun x s=>x=.normal/\∃ao,Out ao/\s={ao with low:=min st.low st.H.length}):=fun G a w ro base Q U dU eR hb dD=>by
 obtain⟨i0,i1,i2,hG,on,j0,kF,kG,j1,qg,oJ,oK,mt,aB,more,pair,out,tm,r5,r6,body,rfl,h0,oC,vK,tc,vL,vM,hit,vN,h1,qQ,hnd,td,oD,h2,te,vO,vP,vQ,qR,tf,vR,qM,o7,qS,xK⟩:=hc.ok
 exact ajq cw bw ba h0 oC vK tc vL vM hit vN h1 qQ hnd td oD h2 te vO vP vQ qR tf vR qM o7 qS xK rfl rfl he qf nc Inv Out tg qT oL iC U dU eR hb
  fun ao G' a8 w' ho ae F=>dD .normal _ G' a8 w' ⟨rfl,ao,ho,rfl⟩ ae F
def zC{α:Type}:List α->Option (List α × α)
 |[]=>none
 |a::l=>match zC l with
  |none=>some ([],a)
  |some (r,b)=>some (a::r,b)
theorem ajs{α:Type}:∀{l:List α},zC l=none->l=[]
 |[],_=>rfl
 |a::l,h=>by simp only[zC]at h;split at h<;>cases h
theorem OU{α:Type}:∀{l r:List α} {b:α},zC l=some (r,b)->l=r++[b]
 |[],_,_,h=>by cases h
 |a::l,r,b,h=>by
  simp only[zC]at h;split at h
  ·rename_i hn;cases h;rw[ajs hn];rfl
  ·rename_i mS eA hn;cases h;rw[OU hn];rfl
def zD (C:Ctx)(vars:List Nat)(N:Nat):Code->Option eS
 | .seq (.region _ kF false) (.block out (.loop (.seq (.region _ kG false) (.seq (.cond (.tmp more) .skip (.exit VW)) (.block eT (.seq (.region _ j1 false) body))))))=>
   match zC kF.toList,kG.toList,j1.toList with
   |some (qg,⟨some it,.range tm (.tmp mt),_,_,_,none⟩),⟨some aB,.next (.tmp VX) false,_,_,_,none⟩::oJ,⟨some pair,.entry (.tmp VY),_,_,_,none⟩::oK=>
    match C.P.underlying tm,dF (C.oper vars N kF) qg,C.b5 vars (.tmp mt),dF (C.oper vars N kG) oJ,dF (C.oper vars N j1) oK,C.b5 vars (.tmp more),C.code vars N body with
    |some (.map _ _),some t0,some src,some t1,some t2,some uk,some b=>
     if VW=out/\VX=it/\VY=it/\it<N/\aB<N/\pair<N/\vars.contains it=true then some ⟨t0,src,it,(aB,vars.contains aB),t1,uk,eT,(pair,vars.contains pair),t2,b⟩else none
    | _,_,_,_,_,_,_=>none
   | _,_,_=>none
 | _=>none
theorem OV{c:Code}{R:eS}(h:zD C vars N c=some R):OT C vars N c R:=by
 unfold zD at h;split at h
 ·rename_i i0 kF out i1 kG more VW eT i2 j1 body
  split at h
  ·rename_i qg it tm mt azJ azK azL aB VX azM Og azN oJ pair VY azO azP azQ oK eL ab aj
   split at h
   ·rename_i r5 r6 t0 src t1 t2 uk b jV VZ us mW V0 ajt V1
    split at h
    ·rename_i hc
     obtain⟨rfl,rfl,rfl,h1,h2,ar,aR⟩:=hc;cases h;exact⟨_,_,_,_,_,_,_,_,_,_,_,_,_,_,_,_,_,_,_,_,_,rfl,OU eL,VZ,us,rfl,rfl,rfl,h1,jV,ab,rfl,rfl,rfl,h2,aj,rfl,rfl,rfl,ar,aR,rfl,rfl,mW,V0,ajt,V1⟩
    ·cases h
   ·cases h
  ·cases h
 ·cases h
def E0 (d:List Nat)(k:Nat):List Nat:=(List.range k).filter fun i=>!d.contains i
def eS.all (R:eS)(call:cP)(n:Nat)(bf:List (V × V))(li:Nat):Nat->List Nat->av->Option (List av)
 |0,_,_=>none
 |f+1,d,s=>
  if dL (bA s.au R.it) (.ptr li 0)=true then
   match E0 d bf.length with
   |[]=>match R.fin call s with
    |some ao=>if Nat.blt li ao.low=true then some [ao]else none
    |none=>none
   |i::is=>(dF (fun i=>match bf[i]? with
     |some kv=>match R.round call n kv.1 kv.2 s with
      |some ao=>if Nat.blt li ao.low=true then R.all call n bf li f (d++[i]) ao else none
      |none=>none
     |none=>none) (i::is)).map List.flatten
  else none
theorem V2{α β:Type}{f:α->Option β}:∀{l:List α} {aH:List β},dF f l=some aH->∀{a:α},a∈l->∃b∈aH,f a=some b
 |[],_,_,_,h=>by cases h
 |x::l,aH,hm,a,h=>by
  simp only[dF]at hm;split at hm
  ·rename_i b hb
   split at hm
   ·rename_i azR Ej
    cases hm;rcases dp.1 h with rfl|h
    ·exact⟨b,by simp,hb⟩
    ·obtain⟨eA,h1,h2⟩:=V2 Ej h
     exact⟨eA,by simp[h1],h2⟩
   ·cases hm
  ·cases hm
theorem eS.OW{R:eS}{bf:List (V × V)}{li f:Nat}{d:List Nat}{s:av}{o:List av}(h:R.all call n bf li f d s=some o):bA s.au R.it=.ptr li 0:=by
 cases f with
 |zero=>cases h
 |succ f=>
  simp only[eS.all]at h;split at h
  ·rename_i bg;exact vB _ _ bg
  ·cases h
theorem cS.aju (cw:C.P.follows .mixedOrders=true)(bw:eW C fid)(ba:gL C fid call){c:Code}{R:eS}(hc:OT C vars N c R){iD st:av}{wr:List Bool}(he:cY call R.t0 {iD with aC:=[]} []=some (st,wr)){l:Nat}{bf:List (V × V)}
  (qf:R.src.ag st.aC st.au=.map l) (nc:st.H[l]? =some (.map bf)) {f:Nat} {outs:List av} (ha:R.all call n bf st.H.length f [] (hF R.it st)=some outs):
  cS C fid vars N c iD (fun x s=>x=.normal/\∃ao∈outs,s={ao with low:=min st.low st.H.length}):=by
 refine cS.range (n:=n) cw bw ba hc he qf nc (fun d s=>∃f o,R.all call n bf st.H.length f d s=some o/\∀x∈o,x∈outs) (fun s=>s∈outs) ⟨f,outs,ha,fun _ h=>h⟩ (fun d s ⟨f,o,h,_⟩=>eS.OW h) ?_ ?_
 ·rintro d s ⟨f,o,h,hs⟩ i kv hid jE
  have hit:=eS.OW h
  have nd:i<bf.length:=by
   rcases fV i bf.length with q|q
   ·exact q
   ·rw[nA q]at jE;cases jE
  have eQ:i∈E0 d bf.length:=by
   unfold E0;simp[nd,hid]
  cases f with
  |zero=>cases h
  |succ f=>
   simp only[eS.all,hit]at h;split at h
   ·split at h
    ·rename_i hr;rw[hr]at eQ;cases eQ
    ·rename_i j is hr
     rw[hr]at eQ;obtain⟨os,Bx,rfl⟩:=cj.1 h;obtain⟨b,hb,zE⟩:=V2 Bx eQ;rw[jE]at zE;simp only at zE;split at zE
     ·rename_i ao da
      split at zE
      ·rename_i kB
       refine⟨ao,da,?_,f,b,zE,fun x hx=>hs x (List.mem_flatten.2 ⟨b,hb,hx⟩)⟩;have:=ma kB;omega
      ·cases zE
     ·cases zE
   ·cases h
 ·rintro d s ⟨f,o,h,hs⟩ _ eP
  have hit:=eS.OW h;cases f with
  |zero=>cases h
  |succ f=>
   have hr:E0 d bf.length=[]:=by
    unfold E0;rw[List.filter_eq_nil_iff];intro i hi;have:=(eP i).2 (Bj.1 hi);simp[this]
   simp only[eS.all,hr]at h;split at h
   case isFalse=>cases h
   cases ae:R.fin call s with
   |none=>rw[ae]at h;cases h
   |some ao=>
    rw[ae]at h;simp only at h;split at h
    ·rename_i kB
     cases h;refine⟨ao,rfl,?_,hs _ (by simp)⟩;have:=ma kB;omega
    ·cases h
end
theorem OX (bw:eW C fid){ib:Nat}{fn:Func}{c:Code}{pr:List mR}{fresh:Bool}(ae:C.P.funcs[ib]? =some fn)(hb:fn.body=some c)(r0:dF C.res fn.results.toList=some pr)
  {args:List V} {v:V} {low':Nat} {xs:List Value} (hlen:args.length<=fn.ntmps)
  (OY:cS C fid (Ctx.varsOf fn) fn.ntmps c {aC:=[],au:=fW 0 args,H,low:=H.length} (fun x st=>(x=.normal\/x=.ret)/\∃vs,gH st.au st.H pr=some vs/\finish fresh H (iB vs) st.H st.low=some (v,H',low')))
  (U:aX C fid G H w) (af:a1 fid G w args xs):Calls C.P ib ⟨xs⟩ w (fun e w'=>∃x,e=.returned x/\k1 C fid G H w v H' low' x w'):=by
 have ly:=af.length
 have jD:dC C fid (Ctx.varsOf fn) fn.ntmps G {aC:=[],au:=fW 0 args,H,low:=H.length} {tmps:=(⟨xs⟩:Array Value)++Array.replicate (fn.ntmps-(⟨xs⟩:Array Value).size) undef,defers:=[]} w:=by
  refine⟨U,fun t=> ?_,?_,aF _⟩
  ·unfold dJ
   split
   ·rw[Ot]
    simp only[cD,if_true,Nat.sub_zero];cases ha:args[t]? with
    |none=>exact .undef _
    |some u=>
     obtain⟨x,hx,zr⟩:=af.get ha
     have aK:t<xs.length:=by
      rcases fV t xs.length with h|h
      ·exact h
      ·simp[nA h]at hx
     have:((⟨xs⟩:Array Value)++Array.replicate (fn.ntmps-(⟨xs⟩:Array Value).size) undef).getD t undef=x:=by
      rw[w8,SU (by simpa using aK)];simp[hx]
     rw[this];exact zr
   ·exact .undef _
  ·simp only[yB,Array.size_replicate]
   show xs.length+(fn.ntmps-xs.length)=fn.ntmps;rw[ly];omega
 refine(callsIn_wide (n:=0)).1 (callsIn_of_wp_marks ae hb trivial ?_);refine OY G _ w none w.heap.size _ jD trivial (.nil _ _ _) (aF _) fun x st G' a8 w' ho eN F=> ?_;obtain⟨Ov,vs,hr,s3⟩:=ho;obtain⟨rs,Ou,db,hm,EM⟩:=F.marks
 have oH:LeavesInM Fence.wide 0 C.P fn a8.tmps (fun e w'=>∃x,e=.returned x/\k1 C fid G H w v H' low' x w') a8.defers .returning w':=by
  rw[Ou];refine IV (m0:=fun m=>m<=st.low) rs w' db hm EM F.rel.rel F.ext (fun _ _ _=>trivial) fun bJ b6 dI kf=> ?_
  obtain⟨x,hx,zr⟩:=VI r0 b6 (fun t ht=>by
   have:=F.rel.env t;rw[Od (VK ht)]at this;exact kf this) hr
  exact⟨x,hx,x,rfl,VE U b6 dI eN.1 zr s3⟩
 rcases Ov with rfl|rfl
 ·exact oH
 ·exact oH
end Go.Abs
namespace Go.Abs
open Go
variable{C:Ctx}{fid:Nat->Nat}{w w':World}{G G':bT}{H H':Heap}
section
variable{vars:List Nat}{N:Nat}{call:cP}{n:Nat}
theorem cS.pre (cw:C.P.follows .mixedOrders=true)(bw:eW C fid)(ba:gL C fid call){c d:Code}{ac:cm}(hc:C.code vars N c=some ac){st aV:av}(he:Abs.exec call n ac st=some (.normal,aV))
  {Out:X->av->Prop} (h:cS C fid vars N d aV Out):cS C fid vars N (.seq c d) st Out:=
 cS.seq (cS.exec cw bw ba hc he) (fun s hs=>by rw[hs.2];exact h) fun x s hx hs=>absurd hs.1 hx
def I4:List Code->Code->Code
 |[],d=>d
 |c::r,d=>.seq c (I4 r d)
def E1 (call:cP)(n:Nat):List cm->av->Option av
 |[],st=>some st
 |c::r,st=>match Abs.exec call n c st with
  |some (.normal,s)=>E1 call n r s
  | _=>none
theorem cS.V3 (cw:C.P.follows .mixedOrders=true)(bw:eW C fid)(ba:gL C fid call){d:Code}{Out:X->av->Prop}:∀{cs:List Code} {vX:List cm},dF (C.code vars N) cs=some vX->∀{st aV:av},E1 call n vX st=some aV->
  cS C fid vars N d aV Out->cS C fid vars N (I4 cs d) st Out
 |[],vX,hm,st,aV,he,h=>by
  simp only[dF,aA]at hm;subst hm;simp only[E1,aA]at he;subst he;exact h
 |c::cs,vX,hm,st,aV,he,h=>by
  simp only[dF]at hm;split at hm
  ·rename_i a ha
   split at hm
   ·rename_i aQ has
    cases hm;simp only[E1]at he;split at he
    ·rename_i s hs
     exact cS.pre cw bw ba ha hs (cS.V3 cw bw ba has he h)
    ·cases he
   ·cases hm
  ·cases hm
end
structure lV where
 pre:List cm
 R:eS
 post:cm
 pr:List mR
def OZ:X->Bool
 | .normal| .ret=>true
 | _=>false
def lV.ends (B:lV)(v:V):X × av->Bool:=fun(x,s)=>OZ x&&match gH s.au s.H B.pr with
 |some vs=>match finish false [] (iB vs) s.H s.low with
  |some (u,H',l)=>dL u v&&H'.isEmpty&&Nat.beq l 0
  |none=>false
 |none=>false
def lV.ok (B:lV)(call:cP)(n:Nat)(args:List V)(v:V):Bool:=
 match E1 call n B.pre {aC:=[],au:=fW 0 args,H:=[],low:=0}with
 |some iD=>match cY call B.R.t0 {iD with aC:=[]} []with
  |some (st,_)=>match B.R.src.ag st.aC st.au with
   | .map l=>match st.H[l]? with
     |some (.map bf)=>match B.R.all call n bf st.H.length n [] (hF B.R.it st)with
      |some outs=>outs.all fun ao=>match exec call n B.post {ao with low:=min st.low st.H.length}with
       |some p=>B.ends v p
       |none=>false
      |none=>false
     | _=>false
   | _=>false
  |none=>false
 |none=>false
structure Ch (C:Ctx) (fn:Func) (B:lV):Prop where
 ok:∃(cs:List Code) (Ci Cj:Code),fn.body=some (I4 cs (.seq Ci Cj))/\dF (C.code (Ctx.varsOf fn) fn.ntmps) cs=some B.pre/\zD C (Ctx.varsOf fn) fn.ntmps Ci=some B.R/\C.code (Ctx.varsOf fn) fn.ntmps Cj=some B.post/\
  dF C.res fn.results.toList=some B.pr/\(fn.name== "runtime.NumGoroutine")=false
theorem lV.calls (cw:C.P.follows .mixedOrders=true)(bw:eW C fid){call:cP}(ba:gL C fid call){n ib:Nat}{fn:Func}{B:lV}(ae:C.P.funcs[ib]? =some fn)(cQ:Ch C fn B){args:List V}{v:V}(hlen:args.length<=fn.ntmps)
  (bh:B.ok call n args v=true) {xs:List Value} (U:aX C fid G [] w) (af:a1 fid G w args xs):Calls C.P ib ⟨xs⟩ w (fun e w'=>∃x,e=.returned x/\k1 C fid G [] w v [] 0 x w'):=by
 obtain⟨cs,Ci,Cj,hb,xM,O0,O1,r0,-⟩:=cQ.ok;refine OX bw ae hb r0 (fresh:=false) hlen ?_ U af;unfold lV.ok at bh;split at bh
 case h_2=>cases bh
 rename_i iD b7;split at bh
 case h_2=>cases bh
 rename_i st wr hex;split at bh
 case h_2=>cases bh
 rename_i l hl;split at bh
 case h_2=>cases bh
 rename_i bf ajv;split at bh
 case h_2=>cases bh
 rename_i outs ajw;refine cS.V3 cw bw ba xM b7 ?_;refine cS.seq (cS.aju cw bw ba (OV O0) hex hl ajv ajw) (fun s hs=> ?_) fun x s hx hs=>absurd hs.1 hx;obtain⟨-,ao,vY,rfl⟩:=hs;have h1:=eU.1 bh ao vY;split at h1
 case h_2=>cases h1
 rename_i p hp;obtain⟨x,s2⟩:=p;refine(cS.exec cw bw ba O1 hp).mono fun y e6 hy=> ?_;obtain⟨rfl,rfl⟩:=hy;unfold lV.ends at h1;simp only[cn]at h1;obtain⟨h2,ar⟩:=h1;refine⟨?_,?_⟩
 ·cases y with
  |normal=>exact .inl rfl
  |ret=>exact .inr rfl
  |exit i=>cases h2
 ·split at ar
  case h_2=>cases ar
  rename_i vs cW;split at ar
  case h_2=>cases ar
  rename_i u H' k iC;simp only[cn]at ar;obtain⟨⟨aR,h5⟩,eo⟩:=ar;have ab:=vB _ _ aR
  have aj:H'=[]:=by cases H' with
   |nil=>rfl
   |cons=>cases h5
  have bC:k=0:=ey eo;subst ab;subst aj;subst bC;exact⟨vs,cW,iC⟩
def lV.jz (B:lV)(call:cP)(n:Nat)(N:Nat):List (List V × V)->Prop
 |[]=>True
 |(aQ,v)::r=>(bx v=true/\Nat.ble aQ.length N=true/\B.ok call n aQ v=true)/\B.jz call n N r
theorem lV.Ow (cw:C.P.follows .mixedOrders=true)(bw:eW C fid){call:cP}(ba:gL C fid call){n ib:Nat}{fn:Func}{B:lV}(ae:C.P.funcs[ib]? =some fn)(cQ:Ch C fn B):∀{l:List (List V × V)},B.jz call n fn.ntmps l->iS C fid ib (jy l):=by
 intro l hl G H w args v xs U eC lU;obtain⟨cs,Ci,Cj,hb,-,-,-,-,zs⟩:=cQ.ok;rw[Cc ae hb zs]
 induction l with
 |nil=>cases lU
 |cons p r ih=>
  obtain⟨aQ,u⟩:=p;simp only[jy]at lU;cases e:nC args aQ with
  |true=>
   rw[e]at lU;have h':some u=some v:=lU;cases h';have e':=uq _ _ e;subst e';obtain⟨⟨h1,h2,ar⟩,-⟩:=hl;have hc:=lV.calls cw bw ba ae cQ (ma h2) ar U.apart (c8.ov eC);exact xd hc fun e w'=>fun⟨x,ab,aj⟩=>⟨x,ab,aj.beside U h1⟩
  |false=>rw[e]at lU;exact ih hl.2 lU
end Go.Abs
namespace Go.Abs
open Go Go.Proofs Go.Shelf
variable{C:Ctx}{fid:Nat->Nat}{ρ:Ren}
def E2:sK:=fun args H=>match args with
 |[.ptr l 0]=>match H[l]? with
  |some (.cells [.undef,b])=>some (.aU [],[(l,.cells [.undef,b])],[])
  | _=>none
 | _=>none
theorem ajx{args:List V}{H:Heap}{v:V}{H':Heap}{low:Nat}(h:u9 E2 args H=some (v,H',low)):
  ∃l b,args=[.ptr l 0]/\H[l]? =some (.cells [.undef,b])/\v=.aU []/\H'=H.set l (.cells [.undef,b])/\low=min H.length l:=by
 obtain⟨r,hr,he⟩:=cj.1 h;unfold E2 at hr;split at hr
 ·rename_i l
  split at hr
  ·rename_i b hb
   cases hr;simp only[xj,xk,ot,DL,pP,bq]at he;exact⟨l,b,rfl,hb,he.1.symm,he.2.1.symm,he.2.2.symm⟩
  ·cases hr
 ·cases hr
theorem ajy (L:Lays.n240 C.P ρ)(X:Builder.X72 C.P ρ)(Ck:C.yQ=some (ρ.t 72)):xG C fid (ρ.f 240) E2:=by
 intro G H w args v H' low xs U gw he;obtain⟨l,b,rfl,hl,rfl,rfl,rfl⟩:=ajx he
 obtain⟨x,rfl⟩:∃x,xs=[x]:=by
  cases gw with|cons _ x _ xs _ hs=>cases hs;exact⟨x,rfl⟩
 have hx:bd fid G w (.ptr l 0) x:=by cases gw;assumption
 obtain⟨h0,hb,oC,rfl⟩:=hx.nH;obtain⟨aP,ho,hr⟩:=U.obj l h0 hb;rw[hl]at ho;cases ho;obtain⟨⟨ht,ED⟩,ae,c,e,hc,af⟩:=hr;obtain⟨c',e',o8,Cl,hc0⟩:=ED b rfl;rw[hc]at o8;cases o8;rw[Ck]at Cl;cases Cl;have hlen:c.size=2:=by rw[<-fC,af.length];rfl
 have s9:(callFunc (ρ.f 240) ⟨[.pointer (some ⟨h0.b,0,none⟩)]⟩).run C.P w=.ok (.enter (ρ.f 240) ⟨[.pointer (some ⟨h0.b,0,none⟩)]⟩) w:=enters_of L.f240 (by kernel_rfl) rfl _ _;refine⟨?_,_,_,s9⟩;rw[s9]
 have nb:H.set l (.cells [.undef,b])=H:=by
  refine o0 fun i=> ?_;by_cases hi:l=i
  ·subst hi
   rw[mP (e0.1 hl).1,hl]
  ·rw[iv hi]
 rcases hc0 with hc0|hc0
 ·refine(Any.Builder_copyCheck_fresh L X h0.b w ?_ ?_ ?_).mono ?_
  ·rw[Lib.cell_of_heap hc];exact hc0
  ·simp[World.shape?,hc,hlen]
  ·exact Lib.frozen_of_heap hc 0
  ·rintro e w' ⟨rfl,rfl⟩
   have hs:(w.setCell ⟨h0.b,0,none⟩ (.pointer (some ⟨h0.b,0,none⟩))).heap.size=w.heap.size:=by simp[World.setCell]
   have hk:∀eA,eA≠h0.b->(w.setCell ⟨h0.b,0,none⟩ (.pointer (some ⟨h0.b,0,none⟩))).heap[eA]? =w.heap[eA]? :=fun eA aZ=>by
    simp only[World.setCell,DB];rw[if_neg fun e=>aZ e.symm]
   have hn:(w.setCell ⟨h0.b,0,none⟩ (.pointer (some ⟨h0.b,0,none⟩))).heap[h0.b]? =some (.cells (c.setIfInBounds 0 (.pointer (some ⟨h0.b,0,none⟩))) (ρ.t 72) (0,0)):=by
    simp only[World.setCell,DB,if_true,hc,o1];rfl
   have hx:=Ext.write U hb ae rfl (aF _) id rfl hs hk rfl rfl;refine⟨_,rfl,⟨ck G.β l h0,G.I⟩,aX.write U hb ae rfl ae (aF _) id rfl hs hk _ ⟨⟨ht,fun v _=>⟨_,_,hn,Ck,.inr ?_⟩⟩,ae,_,_,hn,?_⟩,fun m hm=>hx.le (cM hm (nB _ _)) (aF _),.aU _ _ .nil⟩
   ·rw[Array.getElem?_setIfInBounds_self,if_pos (by omega)]
   ·have BH:a1 fid ⟨ck G.β l h0,G.I⟩ (w.setCell ⟨h0.b,0,none⟩ (.pointer (some ⟨h0.b,0,none⟩))) [.undef,b] c.toList:=af.ext U hx
    rw[Array.toList_setIfInBounds];generalize c.toList=q at BH;cases BH with
    |cons _ x _ xs _ hs=>exact .cons _ _ _ _ (.undef _) hs
 ·refine(Any.Builder_copyCheck_used L X h0.b w (by rw[Lib.cell_of_heap hc];exact hc0)).mono ?_
  rintro e w' ⟨rfl,rfl⟩;exact⟨_,rfl,G,by rw[nb];exact U,fun m _=>.refl _ _ _ _,.aU _ _ .nil⟩
end Go.Abs
namespace Go.Abs
open Go Go.Proofs Go.Shelf Go.RowKit
section
variable{P:Program}{ρ:Ren}
set_option maxHeartbeats 2000000 in
set_option maxRecDepth 100000 in
theorem ajz (L:Lays.n169 P ρ)(X:Builder.Extra P ρ){b g cap:Nat}{c cur:Array Value}{s:List UInt8}{rest:List Value}{w:World}(hc:w.heap[b]? =some (.cells c (ρ.t 72) (0,0)))
  (r4:c[1]? =some (.slice (some ⟨g,0,none⟩) s.length cap)) (a6:w.heap[g]? =some (.cells cur (ρ.t 5) (0,0))) (V4:cur.toList=(s.map fun b=>Value.int .u8 b.toNat)++rest) (h0:s≠[]) (hle:s.length<=cap) (hm:s.length<=1099511627776):
  Calls P (ρ.f 169) #[.pointer (some ⟨b,0,none⟩)] w fun e w'=>e=.returned (.string ⟨⟨s⟩⟩)/\w'=w.drew.freeze ⟨g,0,none⟩ s.length:=by
 have oB:s.length≠0:=by simpa using h0
 have I5:w.drew.heap[g]? =some (.cells cur (ρ.t 5) (0,0)):=a6
 have dj:w.drew.cell? ⟨b,1,none⟩=some (.slice (some ⟨g,0,none⟩) s.length cap):=by
  have:w.drew.heap[b]? =some (.cells c (ρ.t 72) (0,0)):=hc;rw[Lib.cell_of_heap this];exact r4
 have dk:s.length<=cur.size:=by rw[<-fC,V4,fD,ef];omega
 have azS:(Builtin.unsafeSliceData_ #[(ρ.t 37)] (ρ.t 127) #[.slice (some ⟨g,0,none⟩) s.length cap]).run P w.drew=.ok (.pointer (some ⟨g,0,none⟩)) w.drew:=
  Lib.run_unsafeSliceData_row _ _ _ _ _ _ (by omega)
 have azT:(Builtin.unsafeString_ #[(ρ.t 127),(ρ.t 3)] (ρ.t 9) #[.pointer (some ⟨g,0,none⟩),.int .i64 s.length]).run P w.drew=.ok (.string ⟨s.toArray⟩) (w.drew.freeze ⟨g,0,none⟩ s.length):=by
  refine Lib.run_unsafeString_row w.drew (ρ.t 127) (ρ.t 3) (ρ.t 9) (ρ.t 5) L.t127 X.cellsByte g cur.size (by simp[World.shape?,I5]) s h0 dk (by omega) ?_;intro j x hx;rw[Addr.add_lit,dP,Lib.cell_of_heap I5,<-gr,V4,fB (by rw[ef];exact(e0.1 hx).1),h8,hx];rfl
 have mixed:=L.mixed;have t72:=L.t72;have a72:=L.a72;have z72:=L.z72;have v72:=L.v72;have azU:=run_underlying L.t72;have t70:=L.t70;have a70:=L.a70;have z70:=L.z70;have v70:=L.v70;have azV:=run_underlying L.t70;have t37:=L.t37;have a37:=L.a37;have z37:=L.z37;have v37:=L.v37;have azW:=run_underlying L.t37;have t127:=L.t127;have a127:=L.a127;have z127:=L.z127;have v127:=L.v127;have azX:=run_underlying L.t127;have t3:=L.t3;have a3:=L.a3;have z3:=L.z3;have v3:=L.v3;have V0:=run_underlying L.t3;have t9:=L.t9;have a9:=L.a9;have z9:=L.z9;have v9:=L.v9;have azY:=run_underlying L.t9;have t5:=X.t5;have a5:=X.a5;have z5:=X.z5;have v5:=X.v5;have V1:=run_underlying X.t5
 go_enter L.f169,Body.n169_ntmps ρ
 go_wp2
 go_region_o
 all_goals (go_wp2;go_ret;exact⟨rfl,rfl⟩)
end
variable{C:Ctx}{fid:Nat->Nat}{ρ:Ren}
def E3:sK:=fun args H=>match args with
 |[.ptr l 0]=>match H[l]? with
  |some (.cells [.undef,.ca k 1 0 n tag])=>match H[k]? with
   |some (.qC s)=>if s.length=n/\n=tag/\n<=2^40 then some (.str s,[(k,.dead n)],[])else none
   | _=>none
  | _=>none
 | _=>none
theorem ajA{args:List V}{H:Heap}{v:V}{H':Heap}{low:Nat}(h:u9 E3 args H=some (v,H',low)):
  ∃l k s,args=[.ptr l 0]/\H[l]? =some (.cells [.undef,.ca k 1 0 s.length s.length])/\H[k]? =some (.qC s)/\s.length<=1099511627776/\v=.str s/\H'=H.set k (.dead s.length)/\low=min H.length k:=by
 obtain⟨r,hr,he⟩:=cj.1 h;unfold E3 at hr;split at hr
 ·rename_i l
  split at hr
  ·rename_i k n tag hb
   split at hr
   ·rename_i s hk
    split at hr
    ·rename_i hc
     obtain⟨rfl,rfl,hm⟩:=hc;cases hr;simp only[xj,xk,ot,DL,pP,bq]at he;exact⟨l,k,s,rfl,hb,hk,hm,he.1.symm,he.2.1.symm,he.2.2.symm⟩
    ·cases hr
   ·cases hr
  ·cases hr
 ·cases hr
theorem ajB{w:World}{a:Addr}{n b:Nat}(h:b≠a.block):(w.freeze a n).heap[b]? =w.heap[b]? :=by
 unfold World.freeze;split
 ·rfl
 ·simp only[DB]
  rw[if_neg fun e=>h e.symm]
theorem ajC{w:World}{a:Addr}{n:Nat}:(w.freeze a n).heap.size=w.heap.size:=by
 unfold World.freeze;split<;>simp
theorem V5{w:World}{a:Addr}{n:Nat}:(w.freeze a n).os=w.os/\(w.freeze a n).output=w.output:=by
 unfold World.freeze;split<;>exact⟨rfl,rfl⟩
theorem ajD (L:Lays.n169 C.P ρ)(X:Builder.Extra C.P ρ)(Ck:C.yQ=some (ρ.t 72))(vz:C.xl=ρ.t 5):xG C fid (ρ.f 169) E3:=by
 intro G H w args v H' low xs U gw he;obtain⟨l,k,s,rfl,hl,hk,hm,rfl,rfl,rfl⟩:=ajA he
 obtain⟨x,rfl⟩:∃x,xs=[x]:=by
  cases gw with|cons _ x _ xs _ hs=>cases hs;exact⟨x,rfl⟩
 have hx:bd fid G w (.ptr l 0) x:=by cases gw;assumption
 obtain⟨h0,hb,oC,rfl⟩:=hx.nH;obtain⟨aP,ho,hr⟩:=U.obj l h0 hb;rw[hl]at ho;cases ho;obtain⟨⟨ht,ED⟩,ae,c,e,hc,af⟩:=hr;obtain⟨c',e',o8,Cl,hc0⟩:=ED _ rfl;rw[hc]at o8;cases o8;rw[Ck]at Cl;cases Cl;obtain⟨y,O2,hy⟩:=af.get (i:=1) (v:=.ca k 1 0 s.length s.length) rfl;rw[gr]at O2;obtain⟨h1,c4,cI,cap,E4,o9,hD,rfl⟩:=hy.nI;obtain⟨aP,en,ajE⟩:=U.obj k h1 E4;rw[hk]at en;cases en;obtain⟨hfz,p6,UG,cur,rest,a6,fq,hM⟩:=ajE;obtain⟨rfl,rfl,nK,nO⟩:=hD p6;rw[vz]at a6;rw[HV]at O2;have s9:(callFunc (ρ.f 169) ⟨[.pointer (some ⟨h0.b,0,none⟩)]⟩).run C.P w=.ok (.enter (ρ.f 169) ⟨[.pointer (some ⟨h0.b,0,none⟩)]⟩) w:=enters_of L.f169 (by kernel_rfl) rfl _ _;refine⟨?_,_,_,s9⟩;rw[s9];refine(ajz L X hc O2 a6 hM (Bg.1 UG) nO hm).mono ?_;rintro e w' ⟨rfl,rfl⟩;have rU:aX C fid G H w.drew:=U.jf rfl;have c7:∀m n,Ext G w G w.drew m n:=fun m n=>Ext.jf (w:=w) (w':=w.drew) rfl rfl rfl m n;have dk:(w.drew.freeze ⟨h1.b,0,none⟩ s.length).heap.size=w.drew.heap.size:=ajC;have sO:∀b,b≠h1.b->(w.drew.freeze ⟨h1.b,0,none⟩ s.length).heap[b]? =w.drew.heap[b]? :=fun b aZ=>ajB (a:=⟨h1.b,0,none⟩) aZ;have hx:=Ext.write rU E4 hfz rfl (aF _) id rfl dk sO V5.1 V5.2;refine⟨_,rfl,⟨ck G.β k h1,G.I⟩,aX.write rU E4 hfz rfl hfz (aF _) id rfl dk sO _ ⟨hfz,p6⟩,fun m hm=>(c7 m H.length).trans (hx.le (cM hm (nB _ _)) (aF _)),.p _ _ (.str _)⟩
end Go.Abs
namespace Go.Abs.bs
open Go Go.Abs Go.Proofs
noncomputable section
def A (g:Nat->Option Obj):Ctx:={P:=Tryz.prog,DT:=some,raw:=fun i=>i==27||i==46||i==116||i==235||i==297||i==93||i==406||i==165||i==451||i==268||i==269||i==270||i==271||i==272||i==273||i==274||i==275||i==487||i==488||i==489||i==490||i==491||i==492||i==494||i==495||i==375||i==378||i==379||i==513||i==514||i==515||i==437||i==527,e2:=g,ju:=fun p=>!(p== "names.go:37" ||p== "parser.go:280"),yP:=[496],Mw:=fun p=>p== "ref.go:86",yQ:=some 133,xl:=5,Tb:=fun p=>p== "builder.go:114" }
def C (g:Nat->Option Obj):Ctx:={P:=Tryz.prog,DT:=some,raw:=fun i=>i==46||i==116||i==235||i==297||i==93||i==406||i==165||i==451||i==268||i==269||i==270||i==271||i==272||i==273||i==274||i==275||i==487||i==488||i==489||i==490||i==491||i==492||i==494||i==495||i==375||i==378||i==379||i==513||i==514||i==515||i==437||i==527,e2:=g,ju:=fun p=>!(p== "names.go:37" ||p== "parser.go:280"),yP:=[496],Mw:=fun p=>p== "ref.go:86" }
def ajF (i:Nat):Bool:=i==27||i==46||i==116||i==235
def ajG (i:Nat):Bool:=i==46||i==116||i==235
def V6 (i:Nat):Option (List V->Option V):=match i with
 |61=>some DY
 |166=>some DZ
 |238=>some DX
 |241=>some DW
 |368=>some yW
 |371=>some yX
 |381=>some D0
 | _=>none
def V7 (i:Nat):Option sK:=match i with
 |63=>some E3
 |132=>some E2
 | _=>none
def V8 (i:Nat):Option (List V->Option V):=match i with
 |368=>some yW
 |371=>some yX
 | _=>none
def iE (g:Nat->Option Obj):Nat->Option bV:=fun i=>match V7 i with
 |some s=>some (.o3 s)
 |none=>match V6 i with
 |some s=>some (.ext s)
 |none=>match Tryz.prog.funcs[i]? with
  |some f=>match(A g).func f (ajF i)with
   |some a=>some (.code a)
   |none=>none
  |none=>none
def nX (g:Nat->Option Obj):Nat->Option bV:=fun i=>match V8 i with
 |some s=>some (.ext s)
 |none=>match Tryz.prog.funcs[i]? with
  |some f=>match(C g).func f (ajG i)with
   |some a=>some (.code a)
   |none=>none
  |none=>none
end
end Go.Abs.bs
