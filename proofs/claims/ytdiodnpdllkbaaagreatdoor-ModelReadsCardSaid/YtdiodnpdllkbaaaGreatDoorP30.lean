/- Texts of this claim, joined and written short by a program. -/
import Derived.Test.YtdiodnpdllkbaaaGreatDoorP29
import Derived.Test.YtdiodnpdllkbaaaGreatDoorP00
set_option linter.unusedVariables false
set_option linter.unusedSimpArgs false
set_option linter.unusedSectionVars false
namespace Go.Abs
open Go
variable{C:Ctx}{fid:Nat->Nat}{w w':World}{G G':bX}{H H':Heap}
structure zs where
 dm:cj
 c:ag
 E1:List bO
 m:ag
 k:ag
 bK:Nat
structure Yn (C:Ctx) (vars:List Nat) (N:Nat) (body:Code) (D:zs):Prop where
 ok:∃(tJ:Code) (x id:Nat) (ops:Array Oper) (os:List Oper) (gW:Oper) (m k:Operand) (t ei rO u:TypeId),
  body=.seq tJ (.cond (.tmp x) (.region id ops false) .skip)/\C.code vars N tJ=some D.dm/\C.b3 vars (.tmp x)=some D.c/\ops.toList=os++[gW]/\dH (C.oper vars N ops) os=some D.E1/\
  gW.op=.call {callee:=.builtin .delete,args:= #[m,k],argTypes:= #[t,u]}/\gW.dst=none/\gW.guard=none/\C.b3 vars m=some D.m/\C.b3 vars k=some D.k/\C.P.underlying t=some (.map ei rO)/\C.jd ei=some D.bK
def fc.BI (R:fc)(call:cU)(kv:V × V)(st:aq):Option aq:=
 match R.step call (.aU [.bool true,kv.1,kv.2]) {st with low:=st.H.length}with
 |some b4=>match R.more.ae b4.aG b4.av with
  | .bool true=>
    if dP (bk b4.av R.it) (bk st.av R.it)=true then
     match cQ call R.t2 (({b4 with aG:=[]}:aq).put (some R.pair) (.aU [kv.1,kv.2])) []with
     |some (fU,_)=>some {fU with aG:=[]}
     |none=>none
    else none
  | _=>none
 |none=>none
def O3 (R:fc)(D:zs)(aa:Nat->Option bY)(l li:Nat)(bb:List (V × V))(kv:V × V)(s:aq)(Inv:List (V × V)->aq->Prop):Prop:=
 ∃s2 dL,R.BI (bZ aa) kv s=some s2/\dx aa D.dm s2=some (.normal,dL)/\li<dL.low/\
  ((D.c.ae dL.aG dL.av=.bool false/\Inv bb dL)\/
   (D.c.ae dL.aG dL.av=.bool true/\∃jR wr bM,cQ (bZ aa) D.E1 {dL with aG:=[]} []=some (jR,wr)/\li<jR.low/\D.m.ae jR.aG jR.av=.map l/\h4 D.bK (D.k.ae jR.aG jR.av) bb=some bM/\
     Inv (iy D.bK (D.k.ae jR.aG jR.av) bb) {jR with aG:=[],H:=jR.H.set l (.map (iy D.bK (D.k.ae jR.aG jR.av) bb)),low:=min jR.low l}))
theorem akR{α β:Type}{l:List α}{m:List β}{p:α × β}(h:p∈l.zip m):∃i:Nat,l[i]? =some p.1/\m[i]? =some p.2:=by
 obtain⟨i,hi⟩:=ns.1 h
 refine⟨i,?_⟩
 rw[xD]at hi
 exact hi
theorem akS{α β:Type}{l:List α}{m:List β}{i:Nat}{a:α}{b:β}(h1:l[i]? =some a)(h2:m[i]? =some b):(a,b)∈l.zip m:=
 hz (xD.2 ⟨h1,h2⟩:(l.zip m)[i]? =some (a,b))
theorem akT{es:Array MapEntry}(hn:(es.toList.map (·.born)).Nodup){i j:Nat}{a b:MapEntry}(h1:es.toList[i]? =some a)(h2:es.toList[j]? =some b)(h:a.born=b.born):i=j:=by
 obtain⟨hi,q1⟩:=e2.1 h1
 obtain⟨hj,aS⟩:=e2.1 h2
 have hp:=QD.1 hn
 rcases Nat.lt_trichotomy i j with q|q|q
 ·exact absurd (show(es.toList.map (·.born))[i]'(by simpa using hi)=(es.toList.map (·.born))[j]'(by simpa using hj) by rw[FP,FP,q1,aS,h]) (hp i j (by simpa using hi) (by simpa using hj) q)
 ·exact q
 ·exact absurd (show(es.toList.map (·.born))[j]'(by simpa using hj)=(es.toList.map (·.born))[i]'(by simpa using hi) by rw[FP,FP,q1,aS,h]) (hp j i (by simpa using hj) (by simpa using hi) q)
theorem akU{es:Array MapEntry}{seen:Array Nat}{e:MapEntry}(he:e∈(leftOf es seen).toList):(leftOf es (seen.push e.born)).size<(leftOf es seen).size:=by
 have oX:e∈es.toList/\seen.contains e.born=false:=by
  unfold leftOf at he
  simpa using he
 unfold leftOf
 have key:∀p:MapEntry->Bool,(es.filter p).size=(es.toList.filter p).length:=fun p=>by rw[<-hB,Array.toList_filter]
 rw[key,key]
 refine filter_lt _ _ (fun x hx=> ?_) e ?_ ?_ _ oX.1
 ·simp only[Array.contains_push,nV,B9]at hx⊢
  simp at hx⊢
  exact hx.1
 ·rw[oX.2];rfl
 ·simp
theorem akV{es bD:Array MapEntry}{seen:Array Nat}(h:bD.toList.Sublist es.toList):(leftOf bD seen).size<=(leftOf es seen).size:=by
 unfold leftOf
 have key:∀(es:Array MapEntry) (p:MapEntry->Bool),(es.filter p).size=(es.toList.filter p).length:=fun es p=>by rw[<-hB,Array.toList_filter]
 rw[key,key]
 exact(h.filter _).length_le
theorem akW{es:Array MapEntry}{seen:Array Nat}(h:(leftOf es seen).size=0):∀e∈es.toList,e.born∈seen:=by
 intro e he
 have h0:leftOf es seen= #[]:=aaY h
 unfold leftOf at h0
 rw[aa1]at h0
 have h1:=h0 e (by simpa using he)
 simp only[nV,Km]at h1
 rw[aa6]at h1
 exact h1
section
variable{vars:List Nat}{N n:Nat}{aa:Nat->Option bY}
theorem Yo{c:cj}{st:aq}{r:X × aq}(h:dx aa c st=some r):∃n,Abs.exec (bZ aa) n c st=some r:=by
 obtain⟨n,hn⟩:=ga.1 h
 exact⟨n,rF (Cm n) (aK _) c st r hn⟩
theorem akX (cD:C.P.follows .mixedOrders=true)(bu:eZ C fid)(a6:gH C fid (bZ aa)){k0 i1 i2:Nat}{gQ on jm:Oper}{j8 j9 jn:Array Oper}{nE nF:List Oper}
  {mt it aB more pair out fN:Nat} {tm qR qS:TypeId} {body:Code} {R:fc} {D:zs}
  (h0:j8[k0]? =some gQ) (uZ:C.b3 vars (.tmp mt)=some R.src) (rZ:gQ.op=.range tm (.tmp mt)) (u0:gQ.dst=some it) (u1:gQ.guard=none) (hit:it<N) (u2:C.P.underlying tm=some (.map qR qS))
  (h1:j9.toList=on::nE) (pN:on.op=.next (.tmp it) false) (hnd:on.dst=some aB) (r0:on.guard=none) (mG:aB<N)
  (h2:jn.toList=jm::nF) (r1:jm.op=.entry (.tmp it)) (u3:jm.dst=some pair) (u4:jm.guard=none) (u5:pair<N)
  (pO:vars.contains it=true) (r2:R.aB=(aB,vars.contains aB)) (u6:R.pair=(pair,vars.contains pair))
  (pG:dH (C.oper vars N j9) nE=some R.t1) (n3:dH (C.oper vars N jn) nF=some R.t2) (r3:C.b3 vars (.tmp more)=some R.more) (wQ:Yn C vars N body D) (Df:R.it=it)
  {st:aq} {l:Nat} {bb:List (V × V)} (oh:R.src.ae st.aG st.av=.map l) (nG:st.H[l]? =some (.map bb)) (Inv:List V->List (V × V)->aq->Prop) (Out:List (V × V)->aq->Prop)
  (u7:Inv [] bb (h8 it st)) (r4:∀d es s,Inv d es s->bk s.av it=.ptr st.H.length 0)
  (o4:∀d es s,Inv d es s->∀kv∈es,O3 R D aa l st.H.length es kv s (fun bD al=>Inv (d++[kv.1]) bD al))
  (iF:∀d es s,Inv d es s->(∀kv∈es,kv.1∈d)->∃al,R.fin (bZ aa) s=some al/\st.H.length<al.low/\Out es al)
  {a:Act} {ro:Option Nat} {base:Nat} {Q Mh:Exit->Act->World->Prop} (U:dy C fid vars N G st a w) (eJ:uU G st.ro ro) (eE:kF C G w base a.defers) (hb:base<=w.heap.size)
  (dz:∀es al G' a7 w',Out es al->gb st {al with low:=min st.low l}->Fin C fid vars N base st G w {al with low:=min st.low l} G' a7 w'->Q .normal a7 w'):
  wpOpIn (en ro) 0 C.P j8 Mh k0 (fun a7 w'=>(Code.block out (.loop (.seq (.region i1 j9 false) (.seq (.cond (.tmp more) .skip (.exit out)) (.block fN (.seq (.region i2 jn false) body)))))).wpIn (en ro) 0 C.P Q a7 w') a w:=by
 obtain⟨tJ,sZ,Yp,Jr,Yq,gW,cB,Gt,atJ,atK,atL,atM,rfl,oV,akY,O4,akZ,Yr,ak0,ak1,ak2,iP,ak3,ak4⟩:=wQ.ok
 have lX:=rX bu U (.tmp mt) R.src uZ
 rw[oh]at lX
 obtain⟨e0,u9,Mi,Mj⟩:=lX.mapInv
 obtain⟨-,-,es,bE,fa,ef,cS,cd⟩:=yq U.rel u9 nG
 have jl:l<st.H.length:=U.rel.lt u9
 have CP:(execOp a.eval gQ).run C.P w=.ok (.value (.pointer (some ⟨w.heap.size,0,none⟩))) (w.alloc (.mapIter (some e0.b) bE #[] bE)):=by
  unfold execOp
  rw[rZ]
  have e:a.eval (.tmp mt)=.map (some e0.b):=Mj
  simp only[e,Sem.run_bind,run_range_map w tm qR qS e0.b es bE u2 fa,Result.andThen_ok,Sem.run_pure]
 have Ml:=U.rel.push .gone (.mapIter (some e0.b) bE #[] bE) 0 0 ⟨rfl,rfl⟩
 have qQ:∀m k,k<=st.H.length->Ext G w ⟨ck G.β st.H.length ⟨w.heap.size,0,0,false⟩,G.I⟩ (w.alloc (.mapIter (some e0.b) bE #[] bE)) m k:=fun m k hk=>(Ext.push U.rel (.mapIter (some e0.b) bE #[] bE) 0 0 m).le (aK _) hk
 have Mm:dy C fid vars N ⟨ck G.β st.H.length ⟨w.heap.size,0,0,false⟩,G.I⟩ {st with H:=st.H++[.gone]} a (w.alloc (.mapIter (some e0.b) bE #[] bE)):=
  ⟨Ml,fun t=>(U.env t).ext U.rel (qQ 0 0 (cx _)),U.size,by have:=U.low;simp only[gM,ev,ja];omega⟩
 have oZ:dy C fid vars N ⟨ck G.β st.H.length ⟨w.heap.size,0,0,false⟩,G.I⟩ (h8 it st) (a.put (some it) (.pointer (some ⟨w.heap.size,0,none⟩))) (w.alloc (.mapIter (some e0.b) bE #[] bE)):=by
  have:=Mm.put hit (v:=.ptr st.H.length 0) (x:=.pointer (some ⟨w.heap.size,0,none⟩)) (.ptr st.H.length 0 ⟨w.heap.size,0,0,false⟩ (de _ _ _) rfl)
  rw[pO]at this
  exact this.clear
 suffices Mn:∀G' a7 w',dy C fid vars N G' (h8 it st) a7 w'->(∀m,m<=(h8 it st).H.length->Ext ⟨ck G.β st.H.length ⟨w.heap.size,0,0,false⟩,G.I⟩ (w.alloc (.mapIter (some e0.b) bE #[] bE)) G' w' m (h8 it st).H.length)->
   a7.defers=a.defers->(Code.block out (.loop (.seq (.region i1 j9 false) (.seq (.cond (.tmp more) .skip (.exit out)) (.block fN (.seq (.region i2 jn false) (.seq tJ (.cond (.tmp sZ) (.region Yp Jr false) .skip)))))))).wpIn (en ro) 0 C.P Q a7 w' by
  refine GZ h0 u1 (by rw[rZ];simp) CP ?_
  rw[u0]
  exact Mn _ _ _ oZ (fun m _=>.refl _ _ _ _) (by rw[put_defers])
 intro G' a7 w' bA b9 eD
 refine wpIn_block (GN (fun k ai aH=>∃d seen es bb s ay,Inv d bb s/\(leftOf es seen).size<k/\qh C fid vars N base st.H.length l w.heap.size e0.b bE st G w seen es d bb s ay ai aH) ?_
  (j:=(leftOf es #[]).size+1) ?_)
 ·rintro k ai aH ⟨d,seen,es,bb,s,ay,aW,hk,bq⟩
  obtain⟨bp,rfl⟩:∃bp,k=bp+1:=⟨k-1,by omega⟩
  refine⟨bp,rfl,?_⟩
  obtain⟨ar,bT,b1⟩:=bq.hi
  obtain⟨aQ,cF,cL⟩:=bq.hm
  have Dg:ai.eval (.tmp it)=.pointer (some ⟨w.heap.size,0,none⟩):=by
   have:=bq.rel.env it
   rw[show dC vars s it=bk s.av it by unfold dC;rw[if_pos pO],r4 d bb s aW]at this
   obtain⟨h5,ej,-,fl⟩:=this.n4
   rw[bT]at ej;cases ej
   rw[b1]at fl;exact fl
  have te:∀c,on.op≠ .defer c:=by rw[pN];simp
  have Az:∀c,jm.op≠ .defer c:=by rw[r1];simp
  obtain⟨ae3,ae4,bD,rP,Di,wE,x8,x9⟩:=yq bq.rel.rel cF bq.mp
  rw[cL,bq.map]at Di
  cases Di
  have Mk:bb.length=es.size:=by
   have:=wE.length
   simpa using this.symm
  rcases Tx (P:=C.P) on.type bq.iter bq.map x9.1 (aK _)with⟨dJ,cr⟩|⟨e,he,bG,yr,Mo,Mp,cr⟩
  ·
   have eA:∀kv∈bb,kv.1∈d:=fun kv lv=>by
    obtain⟨i,hi⟩:=ns.1 lv
    have qU:i<es.toList.length:=by
     have:=(e2.1 hi).1
     simp;omega
    have ak5:es.toList[i]? =some es.toList[i]:=hX qU
    exact bq.hand _ (akS ak5 hi) (akW dJ _ (Kp qU))
   obtain⟨al,ab,jZ,Dh⟩:=iF d bb s aW eA
   unfold fc.fin fc.step at ab
   split at ab
   ·rename_i s1 fJ
    split at fJ
    ·rename_i jo wr hex
     cases fJ
     split at ab
     ·rename_i r5
      cases ab
      have ys:(execOp ai.eval on).run C.P aH=.ok (.value (.tuple #[.bool false])) aH:=by
       unfold execOp
       rw[pN]
       simp only[Dg,Sem.run_bind,cr,Result.andThen_ok,Sem.run_pure]
      have uV:dy C fid vars N ay (({s with aG:=[],low:=s.H.length}:aq).put (some R.aB) (.aU [.bool false])) (ai.put (some aB) (.tuple #[.bool false])) aH:=by
       rw[r2]
       exact bq.rel.reset.put mG (.aU _ _ (.cons _ _ _ _ (.p _ _ (.bool false)) .nil))
      refine wpIn_seq (AW bu a6 h1 hnd r0 te pG ys uV hex fun bl a2 fr gx iR rY=> ?_)
      have fL:=j5 ({s with aG:=[],low:=s.H.length}:aq) (some R.aB) (.aU [.bool false])
      have cZ:=oa a6.bM _ _ _ _ _ (by rw[fL.1,fL.2.1];exact aK _) hex
      have dY:qh C fid vars N base st.H.length l w.heap.size e0.b bE st G w seen es d bb {jo with aG:=[]} bl a2 fr:=by
       refine bq.on jl gx.clear (fun m hm=> ?_) jZ ?_ ?_ ?_
       ·have:=iR m hm
        rw[fL.1]at this;exact this
       ·have:=cZ.1
        rw[fL.1,fL.2.1]at this;exact this
       ·exact cZ.2.trans fL.2.2
       ·have:=bq.marks.ext (iR 0 (cx _))
        rw[rY];exact this
      have ad:=rX bu dY.rel (.tmp more) R.more r3
      rw[r5]at ad
      refine wpIn_seq (wpIn_cond_false ad.kz (wpIn_exit ?_))
      show(if out=out then Q .normal a2 fr else _)
      rw[if_pos rfl]
      have:=dY.len
      exact dz _ _ bl a2 fr Dh dY.bM ⟨⟨dY.rel.rel,dY.rel.env,dY.rel.size,cV (qt _ _) (cV (xI jl) (xI dY.len))⟩,dY.ext,dY.marks⟩
     ·cases ab
    ·cases fJ
   ·cases ab
  ·
   have Ys:e∈es.toList/\seen.contains e.born=false:=by
    unfold leftOf at he
    simpa using he
   obtain⟨i,hi⟩:=ns.1 Ys.1
   have qT:=akU he
   have qU:i<es.toList.length:=(e2.1 hi).1
   obtain⟨Mq,wM⟩:=G0 bq.rel.rel bT bq.gone
   obtain⟨kv,lv⟩:∃kv,bb[i]? =some kv:=⟨bb[i]'(by simp at qU;omega),by simp⟩
   have Mr:a8 fid ay aH kv.1 e.key:=by
    obtain⟨x,hx,hr⟩:=wE.get (i:=i) (v:=kv.1) (by rw[jy,lv];rfl)
    rw[jy,hi]at hx
    cases hx;exact hr
   have l9:a8 fid ay aH kv.2 e.val:=by
    obtain⟨x,hx,hr⟩:=x8.get (i:=i) (v:=kv.2) (by rw[jy,lv];rfl)
    rw[jy,hi]at hx
    cases hx;exact hr
   obtain⟨atN,dL,tK,G2,Ti,wH⟩:=o4 d bb s aW kv (hz lv)
   have hT:=turn bq.rel.rel bT wM (.mapIter (some e0.b) bE (seen.push e.born) bE) .gone fun _ _ _=>⟨Mq,wM⟩
   rw[G1 bq.gone]at hT
   have va:bG.heap=(aH.putObj ar.b (.mapIter (some e0.b) bE (seen.push e.born) bE)).heap:=by rw[yr,b1];rfl
   have yu:aZ C fid ay s.H bG:=hT.1.lU va
   have yv:∀m,m<=st.H.length->Ext ay aH ay bG m s.H.length:=fun m hm=>(hT.2.le hm (aK _)).trans (.lU va Mo Mp _ _)
   have Ms:bG.heap[w.heap.size]? =some (.mapIter (some e0.b) bE (seen.push e.born) bE):=by
    rw[va,<-b1];exact World.putObj_heap_same (bq.rel.rel.blk _ _ bT)
   have rN:bG.heap[e0.b]? =some (.map es bE):=by
    rw[va,World.putObj_heap_other (fun q=> ?_)]
    ·exact bq.map
    ·have:=bq.rel.rel.inj _ _ _ _ bT cF (by rw[cL,<-q]);omega
   have Dj:dy C fid vars N ay s ai bG:=⟨yu,fun t=>(bq.rel.env t).ext bq.rel.rel (yv 0 (cx _)),bq.rel.size,bq.rel.low⟩
   have yw:=yv 0 (cx _)
   have Dk:qh C fid vars N base st.H.length l w.heap.size e0.b bE st G w (seen.push e.born) es (d++[kv.1]) bb s ay ai bG:=
    ⟨Dj,bq.bM,bq.len,fun m hm=>(bq.ext m hm).trans ((yv m (by omega)).le (aK _) bq.bM.1.len),bq.marks.ext yw,bq.hi,bq.hm,bq.gone,bq.mp,Ms,rN,fun p hp BJ=>by
     obtain⟨j,ak6,Yt⟩:=akR hp
     rw[Array.mem_push]at BJ
     rcases BJ with BJ|BJ
     ·exact we _ (bq.hand p hp BJ)
     ·have:=akT x9.2 ak6 hi BJ
      subst this
      rw[lv]at Yt
      cases Yt
      simp⟩
   have Dl:=Mr.ext bq.rel.rel yw
   have Dm:=l9.ext bq.rel.rel yw
   unfold fc.BI fc.step at tK
   split at tK
   case h_2=>cases tK
   rename_i s1 fJ
   split at fJ
   case h_2=>cases fJ
   rename_i jo wr hex
   cases fJ
   split at tK
   case h_2=>cases tK
   rename_i r5
   split at tK
   case isFalse=>cases tK
   rename_i Mt
   have Mu:bk jo.av it=.ptr st.H.length 0:=by
    have:=uO _ _ Mt
    rw[Df]at this
    exact this.trans (r4 d bb s aW)
   split at tK
   case h_2=>cases tK
   rename_i s2 Mv Dn
   cases tK
   have ys:(execOp ai.eval on).run C.P aH=.ok (.value (.tuple #[.bool true,e.key,e.val])) bG:=by
    unfold execOp
    rw[pN]
    simp only[Dg,Sem.run_bind,cr,Result.andThen_ok,Sem.run_pure]
   have uV:dy C fid vars N ay (({s with aG:=[],low:=s.H.length}:aq).put (some R.aB) (.aU [.bool true,kv.1,kv.2])) (ai.put (some aB) (.tuple #[.bool true,e.key,e.val])) bG:=by
    rw[r2]
    exact Dj.reset.put mG (.aU _ _ (.cons _ _ _ _ (.p _ _ (.bool true)) (.cons _ _ _ _ Dl (.cons _ _ _ _ Dm .nil))))
   have fL:=j5 ({s with aG:=[],low:=s.H.length}:aq) (some R.aB) (.aU [.bool true,kv.1,kv.2])
   have cZ:=oa a6.bM _ _ _ _ _ (by rw[fL.1,fL.2.1];exact aK _) hex
   have ma:=j5 ({jo with aG:=[]}:aq) (some R.pair) (.aU [kv.1,kv.2])
   have qN:jo.low<=jo.H.length:=cZ.bound (by rw[fL.1,fL.2.1];exact aK _)
   have vb:=oa a6.bM _ _ _ _ _ (by rw[ma.1,ma.2.1];exact qN) Dn
   have yf:s2.low<=s2.H.length:=vb.bound (by rw[ma.1,ma.2.1];exact qN)
   obtain⟨Gw,Yu⟩:=Yo G2
   have r6:=l4 a6.bM Gw _ _ _ _ (show({s2 with aG:=[]}:aq).low<=({s2 with aG:=[]}:aq).H.length from yf) Yu
   have ae8:dL.low<=s2.low:=r6.1.low
   have ae9:s2.low<=jo.low:=by have:=vb.1.low;rw[ma.2.1]at this;exact this
   refine wpIn_seq (AW bu a6 h1 hnd r0 te pG ys uV hex fun bl a2 fr gx iR rY=> ?_)
   have dY:qh C fid vars N base st.H.length l w.heap.size e0.b bE st G w (seen.push e.born) es (d++[kv.1]) bb {jo with aG:=[]} bl a2 fr:=by
    refine Dk.on jl gx.clear (fun m hm=> ?_) (by show st.H.length<jo.low;omega) ?_ ?_ ?_
    ·have:=iR m hm
     rw[fL.1]at this;exact this
    ·have:=cZ.1
     rw[fL.1,fL.2.1]at this;exact this
    ·exact cZ.2.trans fL.2.2
    ·have:=Dk.marks.ext (iR 0 (cx _))
     rw[rY];exact this
   have ad:=rX bu dY.rel (.tmp more) R.more r3
   rw[r5]at ad
   refine wpIn_seq (wpIn_cond_true ad.kz (wpIn_skip ?_))
   show(Code.block fN (.seq (.region i2 jn false) (.seq tJ (.cond (.tmp sZ) (.region Yp Jr false) .skip)))).wpIn (en ro) 0 C.P _ a2 fr
   refine wpIn_block (wpIn_seq ?_)
   have Mw:a2.eval (.tmp it)=.pointer (some ⟨w.heap.size,0,none⟩):=by
    have:=dY.rel.env it
    rw[show dC vars {jo with aG:=[]} it=bk jo.av it by unfold dC;rw[if_pos pO],Mu]at this
    obtain⟨h5,ej,-,fl⟩:=this.n4
    obtain⟨ft,j2,gz⟩:=dY.hi
    rw[j2]at ej;cases ej
    rw[gz]at fl;exact fl
   have Mx:(execOp a2.eval jm).run C.P fr=.ok (.value (.tuple #[e.key,e.val])) fr:=by
    have C5:=Ty (P:=C.P) dY.iter dY.map Ys.1 x9.2
    unfold execOp
    rw[r1]
    simp only[Mw,Sem.run_bind,C5,Result.andThen_ok,Sem.run_pure]
   have Dp:=iR 0 (cx _)
   have My:dy C fid vars N bl (({jo with aG:=[]}:aq).put (some R.pair) (.aU [kv.1,kv.2])) (a2.put (some pair) (.tuple #[e.key,e.val])) fr:=by
    rw[u6]
    exact dY.rel.put u5 (.aU _ _ (.cons _ _ _ _ (Dl.ext yu Dp) (.cons _ _ _ _ (Dm.ext yu Dp) .nil)))
   refine AW bu a6 h2 u3 u4 Az n3 Mx My Dn fun ji a3 AX yn uX C8=> ?_
   have mb:qh C fid vars N base st.H.length l w.heap.size e0.b bE st G w (seen.push e.born) es (d++[kv.1]) bb {s2 with aG:=[]} ji a3 AX:=by
    refine dY.on jl yn.clear (fun m hm=> ?_) (by show st.H.length<s2.low;omega) ?_ ?_ ?_
    ·have:=uX m hm
     rw[ma.1]at this;exact this
    ·have:=vb.1
     rw[ma.1,ma.2.1]at this
     exact⟨this.len,cV this.low qN,this.same⟩
    ·exact vb.2.trans ma.2.2
    ·have:=dY.marks.ext (uX 0 (cx _))
     rw[C8];exact this
   refine wpIn_seq (qO (n:=Gw) cD bu a6 tJ _ _ _ oV _ _ _ Yu ji a3 AX ro base _ mb.rel ?_ mb.marks (cV hb (mb.ext 0 (cx _)).size) fun Dq a4 G3 F=> ?_)
   ·have kZ:({s2 with aG:=[]}:aq).ro=st.ro:=mb.bM.2
    rw[kZ]
    exact eJ.ext (mb.ext 0 (cx _))
   have tf:qh C fid vars N base st.H.length l w.heap.size e0.b bE st G w (seen.push e.born) es (d++[kv.1]) bb dL Dq a4 G3:=
    mb.on jl F.rel F.ext Ti ⟨r6.1.len,cV r6.1.low yf,r6.1.same⟩ r6.2 F.marks
   have Js:=rX bu tf.rel (.tmp sZ) D.c akY
   rcases wH with⟨hc,yt⟩|⟨hc,jR,A4,atO,Yv,ak7,ak8,ak9,yt⟩
   ·rw[hc]at Js
    refine wpIn_cond_false Js.kz (wpIn_skip ?_)
    exact⟨d++[kv.1],seen.push e.born,es,bb,dL,Dq,yt,by omega,tf⟩
   ·rw[hc]at Js
    refine wpIn_cond_true Js.kz (wpIn_region ?_)
    have ala:Jr.size=Yq.length+1:=by rw[<-hB,O4];simp
    rw[ala,FH]
    have Yw:dL.low<=dL.H.length:=tf.rel.low
    have Jt:=oa a6.bM _ _ _ _ _ (show({dL with aG:=[]}:aq).low<=({dL with aG:=[]}:aq).H.length from Yw) Yv
    refine Me bu a6 (k0:=0) (fun j hj=>by rw[eO,<-auF,O4,gE hj]) akZ tf.rel.clear Yv fun alb a5 alc ald Yx ale=> ?_
    have hk:Jr[0+Yq.length]? =some gW:=by rw[eO,<-auF,O4];simp
    have OV:qh C fid vars N base st.H.length l w.heap.size e0.b bE st G w (seen.push e.born) es (d++[kv.1]) bb jR alb a5 alc:=by
     refine tf.on jl ald Yx ak7 ⟨Jt.1.len,cV Jt.1.low Yw,Jt.1.same⟩ Jt.2 ?_
     rw[ale]
     exact tf.marks.ext (Yx 0 (cx _))
    obtain⟨alf,alg,atP,alh,uY,ali⟩:=OV.del jl (vars':=vars) bu ak3 Yr ak2 iP ak4 ak8 ak9
    rw[ub,wpOpsIn_cons]
    refine GZ hk ak1 (by rw[Yr];simp) alh ?_
    rw[ak0]
    refine⟨d++[kv.1],seen.push e.born,alf,_,_,alg,yt,?_,ali⟩
    have:=akV (seen:=seen.push e.born) uY
    omega
 ·have gY:(h8 it st).H.length=st.H.length+1:=by unfold h8;simp
  have af:=b9 (st.H.length+1) (by show st.H.length+1<=(h8 it st).H.length;rw[gY];exact aK _)
  have dI:=qQ 0 st.H.length (aK _)
  have pF:(⟨ck G.β st.H.length ⟨w.heap.size,0,0,false⟩,G.I⟩:bX).β l=some e0:=by
   show ck G.β st.H.length ⟨w.heap.size,0,0,false⟩ l=some e0
   rw[dp (by omega)];exact u9
  have x0:(⟨ck G.β st.H.length ⟨w.heap.size,0,0,false⟩,G.I⟩:bX).β st.H.length=some ⟨w.heap.size,0,0,false⟩:=de _ _ _
  refine⟨[],#[],es,bb,h8 it st,G',u7,wh _,⟨⟨bA.rel,bA.env,bA.size,?_⟩,⟨⟨?_,jU _ _,fun x hx=> ?_⟩,rfl⟩,?_,fun m hm=> ?_,?_,?_,?_,?_,?_,?_,?_,fun p _ hp=>by simp at hp⟩⟩
  ·exact oZ.low
  ·show st.H.length<=(h8 it st).H.length
   omega
  ·have dW:x<min st.low l:=hx
   show(st.H++[cc.gone])[x]? =_
   rw[gE (by omega)]
  ·omega
  ·exact(qQ m st.H.length (aK _)).trans ((b9 m (by show m<=(h8 it st).H.length;omega)).le (aK _) (by show st.H.length<=(h8 it st).H.length;omega))
  ·rw[eD]
   exact(eE.ext dI).ext af
  ·exact wP af x0 rfl
  ·exact wP af pF Mi
  ·show(st.H++[cc.gone])[st.H.length]? =_
   simp
  ·show(st.H++[cc.gone])[l]? =_
   rw[gE jl];exact nG
  ·have:=wO af oZ.rel x0 (wh _)
   rw[this];exact oQ _ _
  ·have:=wO af oZ.rel pF (by omega)
   rw[this,alloc_old (U.rel.blk _ _ u9)];exact fa
end
end Go.Abs
namespace Go.Abs
open Go
variable{C:Ctx}{fid:Nat->Nat}{w w':World}{G G':bX}{H H':Heap}
variable{vars:List Nat}{N:Nat}{aa:Nat->Option bY}
theorem c3.dx (cD:C.P.follows .mixedOrders=true)(bu:eZ C fid)(a6:gH C fid (bZ aa)){c:Code}{ac:cj}(hc:C.code vars N c=some ac){st aF:aq}{x:X}(he:Abs.dx aa ac st=some (x,aF)):
  c3 C fid vars N c st (fun y s=>y=x/\s=aF):=by
 obtain⟨n,hn⟩:=Yo he
 exact c3.exec (n:=n) cD bu a6 hc hn
theorem c3.block{id:Nat}{c:Code}{st:aq}{Out:X->aq->Prop}(h:c3 C fid vars N c st (fun x s=>Out (AZ id x) s)):c3 C fid vars N (.block id c) st Out:=fun G a w ro base Q U eJ eE hb dz=>by
 refine wpIn_block (h G a w ro base _ U eJ eE hb fun x s ay ai aH ho ab F=> ?_)
 have:=dz _ _ ay ai aH ho ab F
 cases x with
 |normal=>exact this
 |ret=>exact this
 |exit j=>
  simp only[AZ]at this
  cases hb:Nat.beq j id with
  |true=>
   rw[hb]at this
   have e:=e8 hb
   subst e
   simp only[AK,Exit.inBlock,if_true]
   exact this
  |false=>
   rw[hb]at this
   have e:¬j=id:=fun e=>by rw[e,zX]at hb;cases hb
   simp only[AK,Exit.inBlock,e,if_false]
   exact this
theorem c3.loop{c:Code}{st:aq}{Out:X->aq->Prop}(I:Nat->aq->Prop)(k:Nat)(h0:I k st)(h:∀k s,I k s->c3 C fid vars N c s (fun x al=>(x=.normal/\∃j,k=j+1/\I j al)\/(x≠ .normal/\Out x al))):c3 C fid vars N (.loop c) st Out:=fun G a w ro base Q U eJ eE hb dz=>by
 refine GN (fun k ai aH=>∃j s ay,k=j+1/\I j s/\gb st s/\Fin C fid vars N base st G w s ay ai aH) ?_ (j:=k+1) ⟨k,st,G,rfl,h0,.refl _,.refl U eE⟩
 rintro _ ai aH ⟨k,s,ay,rfl,aW,ab,F⟩
 refine⟨k,rfl,?_⟩
 refine h k s aW ay ai aH ro base _ F.rel (by rw[ab.2];exact eJ.ext (F.ext 0 (cx _))) F.marks (cV hb (F.ext 0 (cx _)).size) fun x s2 bl a2 bG ho yy ta=> ?_
 rcases ho with⟨rfl,j,hj,alj⟩|⟨hx,ho⟩
 ·exact⟨j,s2,bl,hj,alj,ab.trans yy,F.trans ta ab yy⟩
 ·have:=dz x s2 bl a2 bG ho (ab.trans yy) (F.trans ta ab yy)
  cases x with
  |normal=>exact absurd rfl hx
  |exit id=>exact this
  |ret=>exact this
def O5:Go.Op->Option (Operand × Operand × TypeId × TypeId)
 | .call ⟨.builtin .delete,⟨[m,k]⟩,⟨[t,u]⟩⟩=>some (m,k,t,u)
 | _=>none
theorem alk{o:Go.Op}{m k:Operand}{t u:TypeId}(h:O5 o=some (m,k,t,u)):o=.call {callee:=.builtin .delete,args:= #[m,k],argTypes:= #[t,u]}:=by
 unfold O5 at h
 split at h
 ·cases h;rfl
 ·cases h
def BK (C:Ctx)(vars:List Nat)(N:Nat):Code->Option zs
 | .seq tJ (.cond (.tmp x) (.region _ ops false) .skip)=>match yz ops.toList with
   |some (os,⟨none,gW,_,_,_,none⟩)=>match O5 gW with
    |some (m,k,t,_)=>match C.code vars N tJ,C.b3 vars (.tmp x),dH (C.oper vars N ops) os,C.b3 vars m,C.b3 vars k,C.P.underlying t with
     |some dm,some c,some E1,some am,some gX,some (.map ei _)=>(C.jd ei).map fun bK=>⟨dm,c,E1,am,gX,bK⟩
     | _,_,_,_,_,_=>none
    | _=>none
   | _=>none
 | _=>none
theorem alm{body:Code}{D:zs}(h:BK C vars N body=some D):Yn C vars N body D:=by
 unfold BK at h
 split at h
 ·rename_i tJ x id ops
  split at h
  ·rename_i os gW ty ps lS dI
   split at h
   ·rename_i m k t u hd
    split at h
    ·rename_i dm c E1 am gX ei rO af aj bT cF ej j2
     obtain⟨bK,gp,rfl⟩:=ct.1 h
     exact⟨tJ,x,id,ops,os,_,m,k,t,ei,rO,u,rfl,af,aj,MA dI,bT,alk hd,rfl,rfl,cF,ej,j2,gp⟩
    ·cases h
   ·cases h
  ·cases h
 ·cases h
def Ju:Code->Code
 | .seq (.region _ _ false) (.block _ (.loop (.seq (.region _ _ false) (.seq (.cond (.tmp _) .skip (.exit _)) (.block _ (.seq (.region _ _ false) body))))))=>body
 | _=>.skip
theorem c3.aln (cD:C.P.follows .mixedOrders=true)(bu:eZ C fid)(a6:gH C fid (bZ aa)){c:Code}{R:fc}{D:zs}(hr:yA C vars N c=some R)(hd:BK C vars N (Ju c)=some D){iS st:aq}{wr:List Bool}(he:cQ (bZ aa) R.t0 {iS with aG:=[]} []=some (st,wr))
  {l:Nat} {bb:List (V × V)} (oh:R.src.ae st.aG st.av=.map l) (nG:st.H[l]? =some (.map bb)) (Inv:List V->List (V × V)->aq->Prop) (Out:List (V × V)->aq->Prop)
  (u7:Inv [] bb (h8 R.it st)) (r4:∀d es s,Inv d es s->bk s.av R.it=.ptr st.H.length 0)
  (o4:∀d es s,Inv d es s->∀kv∈es,O3 R D aa l st.H.length es kv s (fun bD al=>Inv (d++[kv.1]) bD al))
  (iF:∀d es s,Inv d es s->(∀kv∈es,kv.1∈d)->∃al,R.fin (bZ aa) s=some al/\st.H.length<al.low/\Out es al):
  c3 C fid vars N c iS (fun x s=>x=.normal/\∃es al,Out es al/\s={al with low:=min st.low l}):=fun G a w ro base Q U eJ eE hb dz=>by
 obtain⟨i0,i1,i2,gQ,on,jm,j8,j9,jn,o5,nE,nF,mt,aB,more,pair,out,tm,qR,qS,body,rfl,h0,oY,uZ,rZ,u0,u1,hit,u2,h1,pN,hnd,r0,mG,h2,r1,u3,u4,u5,pO,r2,u6,pG,n3,r3,wQ⟩:=(TH hr).ok
 have cZ:=oa a6.bM _ _ _ _ _ (show({iS with aG:=[]}:aq).low<=({iS with aG:=[]}:aq).H.length from U.low) he
 have yx:gb iS st:=cZ
 have dJ:j8.size=o5.length+1:=by rw[<-hB,h0];simp
 refine wpIn_seq (wpIn_region ?_)
 rw[dJ,FH]
 refine Me bu a6 (k0:=0) (fun j hj=>by rw[eO,<-auF,h0,gE hj]) oY U.clear he fun ay ai aH bA b9 eD=> ?_
 have dI:=b9 0 (cx _)
 have hk:j8[0+o5.length]? =some gQ:=by rw[eO,<-auF,h0];simp
 have Dr:kF C ay aH base ai.defers:=by rw[eD];exact eE.ext dI
 rw[ub,wpOpsIn_cons]
 exact akX (aa:=aa) cD bu a6 hk uZ rZ u0 u1 hit u2 h1 pN hnd r0 mG h2 r1 u3 u4 u5 pO r2 u6 pG n3 r3 (alm hd) rfl oh nG Inv Out u7 r4 o4 iF bA (by rw[yx.2];exact eJ.ext dI) Dr (cV hb dI.size)
  fun es al G' a7 w' ho ab F=>dz .normal _ G' a7 w' ⟨rfl,es,al,ho,rfl⟩ (yx.trans ab) (Fin.trans (st:=iS) (b4:=st) ⟨bA,b9,Dr⟩ F yx ab)
end Go.Abs
namespace Go.Abs
open Go
section
variable{aa:Nat->Option bY}{b:Nat}{σ:bV}{H:Heap}{av:Env}{R:fc}
theorem Yy{e:V}{Q:bV->Heap->Prop}(h:Op aa b R.t1 (fV mL (some R.aB) e) (fW σ (some R.aB) e) H [] (fun aN H' _=>Q aN H'))(hs:Fits av σ)(hb:b<=H.length):
  ∃dD H' low' aN,R.step (bZ aa) e ⟨[],av,H,H.length,none⟩=some ⟨[],dD,H',low',none⟩/\Fits dD aN/\b<=low'/\b<=H'.length/\Q aN H':=by
 obtain⟨nJ,lC,af,aj,bT⟩:=yG sb hs H H.length (some R.aB) e
 obtain⟨mM,dD,H',low',e6,aN,q1,aS,b1,cL,et⟩:=h nJ lC H.length aj bT hb hb
 refine⟨dD,H',low',aN,?_,aS,b1,cL,et⟩
 unfold fc.step
 rw[af,q1]
theorem alo{Q:bV->Heap->Prop}(h:Op aa b R.t1 (fV mL (some R.aB) (.aU [.bool false])) (fW σ (some R.aB) (.aU [.bool false])) H [] (fun aN H' _=>bN mL aN R.more=.bool false/\Q aN H'))(hs:Fits av σ)(hb:b<=H.length){low:Nat}:
  ∃dD H' low' aN,R.fin (bZ aa) ⟨[],av,H,low,none⟩=some ⟨[],dD,H',low',none⟩/\Fits dD aN/\b<=low'/\b<=H'.length/\Q aN H':=by
 obtain⟨dD,H',low',aN,q1,aS,b1,cL,et,gz⟩:=Yy h hs hb
 refine⟨dD,H',low',aN,?_,aS,b1,cL,gz⟩
 unfold fc.fin
 simp only[q1]
 rw[vf sb aS,et]
theorem alp{kv:V × V}{Q:bV->Heap->Prop}{li:Nat}(hit:σ R.it=.ptr li 0)
  (h:Op aa b R.t1 (fV mL (some R.aB) (.aU [.bool true,kv.1,kv.2])) (fW σ (some R.aB) (.aU [.bool true,kv.1,kv.2])) H [] (fun c1 H1 _=>bN mL c1 R.more=.bool true/\c1 R.it=.ptr li 0/\
    Op aa b R.t2 (fV mL (some R.pair) (.aU [kv.1,kv.2])) (fW c1 (some R.pair) (.aU [kv.1,kv.2])) H1 [] (fun js H2 _=>Q js H2))) (hs:Fits av σ) (hb:b<=H.length) {low:Nat}:
  ∃dD H' low' aN,R.BI (bZ aa) kv ⟨[],av,H,low,none⟩=some ⟨[],dD,H',low',none⟩/\Fits dD aN/\b<=low'/\b<=H'.length/\Q aN H':=by
 obtain⟨lC,H1,bI,c1,q1,aS,b1,cL,et,gz,jI⟩:=Yy h hs hb
 obtain⟨HB,wZ,af,aj,bT⟩:=yG sb aS H1 bI (some R.pair) (.aU [kv.1,kv.2])
 obtain⟨mM,dD,H',low',e6,aN,bA,b9,eD,gx,iR⟩:=jI HB wZ bI aj bT b1 cL
 refine⟨dD,H',low',aN,?_,b9,eD,gx,iR⟩
 unfold fc.BI
 simp only[q1]
 rw[vf sb aS,et]
 have e:dP (bk lC R.it) (bk av R.it)=true:=by rw[aS,hs,gz,hit];simp[dP]
 simp only[e,if_true,af,bA]
end
section
variable{C:Ctx}{fid:Nat->Nat}{vars:List Nat}{N:Nat}{aa:Nat->Option bY}
theorem c3.zt (cD:C.P.follows .mixedOrders=true)(bu:eZ C fid)(a6:gH C fid (bZ aa)){a d:Code}{A B:cj}(hc:C.code vars N a=some A){st al:aq}{x:X}{Out:X->aq->Prop}(he:Abs.dx aa (.seq A B) st=some (x,al))
  (k:∀s,Abs.dx aa B s=some (x,al)->c3 C fid vars N d s Out) (ee:x≠ .normal->Out x al):c3 C fid vars N (.seq a d) st Out:=by
 rw[gn]at he
 cases hA:Abs.dx aa A st with
 |none=>rw[hA]at he;cases he
 |some p=>
  obtain⟨y,s⟩:=p
  rw[hA]at he
  refine c3.seq (c3.dx cD bu a6 hc hA) (fun s1 h1=> ?_) fun nd s1 hy h1=> ?_
  ·obtain⟨af,rfl⟩:=h1
   subst af
   exact k s1 he
  ·obtain⟨rfl,rfl⟩:=h1
   cases nd with
   |normal=>exact absurd rfl hy
   |exit i=>cases he;exact ee (by simp)
   |ret=>cases he;exact ee (by simp)
end
end Go.Abs
