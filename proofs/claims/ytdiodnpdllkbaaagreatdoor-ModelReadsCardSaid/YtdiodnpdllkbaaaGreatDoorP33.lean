/- Texts of this claim, joined and written short by a program. -/
import Derived.Test.YtdiodnpdllkbaaaGreatDoorP32
import Derived.Test.YtdiodnpdllkbaaaGreatDoorP29
import Derived.Test.YtdiodnpdllkbaaaGreatDoorP14
import Derived.Test.YtdiodnpdllkbaaaGreatDoorP00
set_option linter.unusedVariables false
set_option linter.unusedSimpArgs false
set_option linter.unusedSectionVars false
namespace Go.Abs.bw
open Go Go.Abs
noncomputable section
structure ql (hs:List gk) (ks:List Int) (d:List V) (k:List Int):Prop where
 dk:k.Nodup
 sub:∀t∈k,t∈ks
 next:∀t∈k,aD t∈d->∃h∈hs,h.Table=t/\h.da∈ks
 dQ:∀K:Int->Prop,(∀t,K t->t∈ks)->(∀t,K t->∃h∈hs,h.Table=t/\K h.da)->∀t,K t->t∈k
theorem ql.start{hs:List gk}{ks:List Int}(h:ks.Nodup):ql hs ks [] ks:=⟨h,fun _ h=>h,fun t _ h=>(by cases h),fun _ h _=>h⟩
theorem ql.stay{hs:List gk}{ks k:List Int}{d:List V}(h:ql hs ks d k){t:Int}(bc:(hs.any fun h=>(h.Table==t)&&decide (h.da∈k))=true):ql hs ks (d++[aD t]) k:=by
 refine⟨h.dk,h.sub,fun u hu hd=> ?_,h.dQ⟩
 rcases jA.1 hd with hd|hd
 ·exact h.next u hu hd
 ·simp only[dA,sP,or_false,V.int.injEq,true_and]at hd
  subst hd
  obtain⟨x,hx,h1⟩:=ry.1 bc
  simp only[b8,beq_iff_eq,decide_eq_true_eq]at h1
  exact⟨x,hx,h1.1,h.sub _ h1.2⟩
theorem ql.gone{hs:List gk}{ks k:List Int}{d:List V}(h:ql hs ks d k){t:Int}(bc:(hs.any fun h=>(h.Table==t)&&decide (h.da∈k))=false):ql hs ks (d++[aD t]) (k.erase t):=by
 refine⟨h.dk.erase t,fun u hu=>h.sub u (List.mem_of_mem_erase hu),fun u hu hd=> ?_,fun K h1 h2 u hu=> ?_⟩
 ·have PC:u≠t:=fun e=>by subst e;exact(List.Nodup.not_mem_erase h.dk) hu
  rcases jA.1 hd with hd|hd
  ·exact h.next u (List.mem_of_mem_erase hu) hd
  ·simp only[dA,sP,or_false,V.int.injEq,true_and]at hd
   exact absurd hd PC
 ·have hk:=h.dQ K h1 h2
  have PC:u≠t:=fun e=>by
   subst e
   obtain⟨x,hx,af,aj⟩:=h2 u hu
   have:=QR.1 bc x hx
   simp[af,hk _ aj]at this
  exact(List.mem_erase_of_ne PC).2 (hk u hu)
theorem ql.fin{hs:List gk}{ks k:List Int}{d:List V}(h:ql hs ks d k)(ao:∀t∈k,aD t∈d):DL hs ks k:=⟨h.sub,h.dk,fun t ht=>h.next t ht (ao t ht),h.dQ⟩
variable{C:Ctx}{fid:Nat->Nat}{vars:List Nat}{N:Nat}{aa:Nat->Option bY}
structure sB (j:dN) (ai eu l:Nat) (ts:List Nat) (vs:List V) (ks:List Int) (b:Nat) (s:aq):Prop where
 aG:s.aG=[]
 ro:s.ro=none
 ok:∃σ,Fits s.av σ/\At σ (1::7::ts) (.ptr ai 0::.ptr eu 0::vs)
 own:Own s.H [[(eu,.cells [.map l])],[(l,.map (gi aD V.bool (cf ks)))],[(ai,.cells (iM j))]]
 len:b<=s.H.length
theorem BS{s:aq}(h1:s.aG=[])(h2:s.ro=none):s=⟨[],s.av,s.H,s.low,none⟩:=by cases s;simp_all
theorem amY (sy:aa 70=some (.code BG))(nC:zq aa){j:dN}(hl:j.Model.b7.l.length<=12){ai eu l li:Nat}{ts:List Nat}{vs:List V}{ks k:List Int}{d:List V}{s:aq}(ht:∀t∈ts,t≠10/\t≠122/\t≠130)(aua:l<li)
  (hs:sB j ai eu l (120::ts) (.ptr li 0::vs) k (li+1) s) (hp:ql j.Model.b7.l ks d k) {kv:V × V} (lv:kv∈gi aD V.bool (cf k)):
  O3 U lx aa l li (gi aD V.bool (cf k)) kv s fun bD al=>∃bp,bD=gi aD V.bool (cf bp)/\sB j ai eu l (120::ts) (.ptr li 0::vs) bp (li+1) al/\ql j.Model.b7.l ks (d++[kv.1]) bp:=by
 obtain⟨t,zB,rfl⟩:∃t∈k,kv=(aD t,.bool true):=by
  unfold gi cf at lv
  rw[rB]at lv
  obtain⟨t,h1,h2⟩:=ey.1 lv
  exact⟨t,h1,h2.symm⟩
 obtain⟨Fi,Fj,⟨σ,ab,fT⟩,aA,hlen⟩:=hs
 rw[BS Fi Fj]
 have g1:σ 1=.ptr ai 0:=(ew fT).1
 have g7:σ 7=.ptr eu 0:=(ew (ew fT).2).1
 have PD:σ 120=.ptr li 0:=(ew (ew (ew fT).2).2).1
 have PE:ts.map σ=vs:=(ew (ew (ew fT).2).2).2
 obtain⟨wZ,H2,c5,js,q1,aS,b1,cL,nn,et,gz,jI⟩:=alp (aa:=aa) (R:=U) (b:=li+1) (kv:=(aD t,.bool true)) (σ:=σ) (H:=s.H) (li:=li) (low:=s.low)
  (Q:=fun aN H'=>∃nn,aN 10=.ptr nn 0/\(∀x,x≠10->x≠122->aN x=σ x)/\Own H' [[(nn,.cells [aD t])],[(eu,.cells [.map l])],[(l,.map (gi aD V.bool (cf k)))],[(ai,.cells (iM j))]])
  PD (pp (.bool true) <| dV ⟨rfl,by
   show up σ 122 (.bool true) 120=_
   rw[iU _ _ (by decide)];exact PD,pp (aD t) <| yJ rfl aA fun H' nn hb tk=>yK (vs:=[aD t]) (cs':=[aD t]) rfl tk 0 rfl hb rfl rfl ⟨rfl,aK _⟩ (by simp[bS]) rfl fun FV amZ=>dV ⟨nn,rfl,fun x hx Ym=>by
    show up (up σ 122 (.bool true)) 10 (.ptr nn 0) x=_
    rw[iU _ _ hx,iU _ _ Ym],amZ⟩⟩) ab hlen
 have am0:=amX j hl t k
 obtain⟨gR,tl,sw,JQ,gS,bA,b9,eD,gx,rfl,rfl,rfl⟩:=alZ (aa:=aa) (b:=li+1) (σ:=js) (H:=H2) sy nC (ts:=[]) (vs:=[]) jI (by
  show[js 1,js 7,js 10]=_
  rw[gz 1 (by decide) (by decide),gz 7 (by decide) (by decide),et,g1,g7]) am0 wZ c5 aS b1 cL
 refine⟨_,_,q1,bA,eD,?_⟩
 have vS:∀(aN:bV),(∀x,x≠10->x≠122->x≠130->aN x=σ x)->At aN (1::7::120::ts) (.ptr ai 0::.ptr eu 0::.ptr li 0::vs):=fun aN h=>by
  show _::_::_::List.map aN ts=_
  rw[h 1 (by decide) (by decide) (by decide),h 7 (by decide) (by decide) (by decide),h 120 (by decide) (by decide) (by decide),g1,g7,PD,<-PE]
  congr 3
  exact pn fun x hx=>h x (ht x hx).1 (ht x hx).2.1 (ht x hx).2.2
 have AD:(bk tl 130)=.bool (!(j.Model.b7.l.any fun h=>(h.Table==t)&&decide (h.da∈k))):=by rw[b9,ve]
 cases hc:(j.Model.b7.l.any fun h=>(h.Table==t)&&decide (h.da∈k))with
 |true=>
  refine .inl ⟨?_,k,rfl,⟨rfl,rfl,⟨_,b9,vS _ fun x h1 h2 ar=> ?_⟩,jI.drop 0,cL⟩,hp.stay hc⟩
  ·show bk tl 130=_
   rw[AD,hc];rfl
  ·rw[iU _ _ ar,gz x h1 h2]
 |false=>
  have wX:bk tl 7=.ptr eu 0:=by rw[b9,iU _ _ (by decide),gz 7 (by decide) (by decide),g7]
  have am1:bk tl 10=.ptr nn 0:=by rw[b9,iU _ _ (by decide),et]
  have f7:=jI.get 1 rfl
  have f10:=jI.get 0 rfl
  have aR:=jI.get 2 rfl
  have hex:cQ (bZ aa) Jw ⟨[],tl,sw,JQ,none⟩ []=some (⟨[(132,aD t),(131,.map l)],tl,sw,min (min JQ sw.length) sw.length,none⟩,[false,false]):=by
   simp[Jw,cQ,e3,jK,gN,fY,ag.ae,wX,am1,f7,f10,aq.put,iT]
  refine .inr ⟨?_,_,_,_,hex,by show li<min (min JQ sw.length) sw.length;omega,rfl,DE (gj:=V.bool) DD t (cf k),k.erase t,PB t k,⟨rfl,rfl,⟨_,b9,vS _ fun x h1 h2 ar=> ?_⟩,?_,?_⟩,hp.gone hc⟩
  ·show bk tl 130=_
   rw[AD,hc];rfl
  ·rw[iU _ _ ar,gz x h1 h2]
  ·have:=jI.put 2 (a:=l) (o:=.map (gi aD V.bool (cf k))) (o':=.map (gi aD V.bool (cf (k.erase t)))) rfl
   have h2:=this.drop 0
   show Own (sw.set l (.map (iy 0 (aD t) (gi aD V.bool (cf k))))) _
   rw[PB];exact h2
  ·show li+1<=(sw.set l _).length
   rw[zT];exact cL
theorem am2 (cD:C.P.follows .mixedOrders=true)(bu:eZ C fid)(a6:gH C fid (bZ aa)){ri:Code}(hr:yA C vars N ri=some U)(hd:BK C vars N (Ju ri)=some lx)(sy:aa 70=some (.code BG))(nC:zq aa)
  {j:dN} (hl:j.Model.b7.l.length<=12) {ai eu l:Nat} {ts:List Nat} {vs:List V} {ks:List Int} {s:aq} (hnd:ks.Nodup) (ht:∀t∈ts,t≠10/\t≠122/\t≠130/\t≠120) (hs:sB j ai eu l ts vs ks 0 s):
  c3 C fid vars N ri s fun x al=>x=.normal/\∃bp,DL j.Model.b7.l ks bp/\sB j ai eu l ts vs bp 0 al:=by
 obtain⟨Fi,Fj,⟨σ,ab,fT⟩,aA,hlen⟩:=hs
 have g1:σ 1=.ptr ai 0:=(ew fT).1
 have g7:σ 7=.ptr eu 0:=(ew (ew fT).2).1
 have PE:ts.map σ=vs:=(ew (ew fT).2).2
 have f7:=aA.get 0 rfl
 have aR:=aA.get 1 rfl
 have jl:=wT aR
 rw[BS Fi Fj]
 have wX:bk s.av 7=.ptr eu 0:=by rw[ab];exact g7
 have hex:cQ (bZ aa) U.t0 ⟨[],s.av,s.H,s.low,none⟩ []=some (⟨[(119,.map l)],s.av,s.H,min s.low s.H.length,none⟩,[false]):=by
  simp[U,cQ,e3,jK,gN,fY,ag.ae,wX,f7,aq.put,iT]
 refine(c3.aln cD bu a6 hr hd (iS:=⟨[],s.av,s.H,s.low,none⟩) hex (l:=l) (bb:=gi aD V.bool (cf ks)) rfl aR
  (fun d es al=>∃bp,es=gi aD V.bool (cf bp)/\sB j ai eu l (120::ts) (.ptr s.H.length 0::vs) bp (s.H.length+1) al/\ql j.Model.b7.l ks d bp)
  (fun es al=>∃bp,DL j.Model.b7.l ks bp/\sB j ai eu l ts vs bp 0 al) ⟨ks,rfl,⟨rfl,rfl,⟨_,VO ab 120 (.ptr s.H.length 0),?_⟩,⟨fun m hm p hp=> ?_,aA.2⟩,?_⟩,.start hnd⟩ ?_ ?_ ?_).mono ?_
 ·show up σ 120 (.ptr s.H.length 0) 1::up σ 120 (.ptr s.H.length 0) 7::up σ 120 (.ptr s.H.length 0) 120::List.map (up σ 120 (.ptr s.H.length 0)) ts=_
  rw[iU _ _ (by decide),iU _ _ (by decide),ve,g1,g7,<-PE]
  congr 3
  exact pn fun x hx=>iU _ _ (ht x hx).2.2.2
 ·show(s.H++[cc.gone])[p.1]? =_
  rw[gE (aA.lt hm hp)]
  exact aA.1 m hm p hp
 ·show s.H.length+1<=(s.H++[cc.gone]).length
  simp
 ·rintro d es al ⟨bp,-,h,-⟩
  obtain⟨aN,h1,h2⟩:=h.ok
  show bk al.av 120=_
  rw[h1]
  exact(ew (ew (ew h2).2).2).1
 ·rintro d es al ⟨bp,rfl,h,hp⟩ kv lv
  exact amY sy nC hl (fun t q=>⟨(ht t q).1,(ht t q).2.1,(ht t q).2.2.1⟩) jl h hp lv
 ·rintro d es al ⟨bp,rfl,⟨du,am3,⟨aN,h1,h2⟩,tk,nu⟩,hp⟩ eA
  rw[BS du am3]
  obtain⟨dD,H',low',js,q1,aS,b1,cL,et,rfl⟩:=alo (aa:=aa) (R:=U) (b:=s.H.length+1) (σ:=aN) (H:=al.H) (low:=al.low) (Q:=fun js H2=>js=up aN 122 (.bool false)/\H2=al.H) (pp (.bool false) <| dV ⟨rfl,rfl,rfl⟩) h1 nu
  subst et
  refine⟨_,q1,b1,bp,hp.fin fun t zB=>eA (aD t,.bool true) ?_,rfl,rfl,⟨_,aS,?_⟩,tk,cx _⟩
  ·unfold gi cf
   rw[rB]
   exact ey.2 ⟨t,zB,rfl⟩
  ·show up aN 122 (.bool false) 1::up aN 122 (.bool false) 7::List.map (up aN 122 (.bool false)) ts=_
   have dm:=(ew h2).1
   have zC:=(ew (ew h2).2).1
   have am4:=(ew (ew (ew h2).2).2).2
   rw[iU _ _ (by decide),iU _ _ (by decide),dm,zC,<-am4]
   congr 2
   exact pn fun x hx=>iU _ _ (ht x hx).2.1
 ·rintro x al ⟨rfl,es,s2,⟨bp,h1,h2⟩,rfl⟩
  exact⟨rfl,bp,h1,h2.aG,h2.ro,h2.ok,h2.own,h2.len⟩
end
end Go.Abs.bw
namespace Go.Abs.bw
open Go Go.Abs
noncomputable section
variable{C:Ctx}{fid:Nat->Nat}{vars:List Nat}{N:Nat}{aa:Nat->Option bY}
theorem BT{c:cj}{σ:bV}{H:Heap}{Q:X->bV->Heap->Prop}{av:Env}(h:eS aa 0 c σ H Q)(ab:Fits av σ)(low:Nat):
  ∃x dD H' low' aN,dx aa c ⟨[],av,H,low,none⟩=some (x,⟨[],dD,H',low',none⟩)/\Fits dD aN/\Q x aN H':=by
 obtain⟨x,dD,H',low',aN,h1,h2,-,-,ar⟩:=h av low ab (cx _) (cx _)
 exact⟨x,dD,H',low',aN,h1,h2,ar⟩
theorem Zg{σ:bV}{a b c d:Nat}{x y z w:V}(h:At σ [a,b,c,d] [x,y,z,w]):At σ [a,b] [x,y]:=by
 simp only[At,eo,mT,Ce]at h⊢
 exact⟨h.1,h.2.1,trivial⟩
theorem am5{σ:bV}{a b:Nat}{x y:V}(h:At σ [a,b] [x,y]):At σ [b] [y]:=by
 simp only[At,eo,mT,Ce]at h⊢
 exact⟨h.2.1,trivial⟩
def PF:cj:=.region [⟨some (118,true),.bin .lss (.var 117) (.var 116),none⟩] none
def PG:cj:=.cond (.var 118) .skip (.exit 4)
def PH:cj:=.region [⟨some (133,false),.bin .add (.var 117) (.const (.int .i64 1)),none⟩,⟨some (117,true),.mv (.tmp 133),none⟩] none
section
variable{b:Nat}{σ:bV}{H:Heap}
theorem am6{ah:dN}{ai eu l:Nat}{m:List (Int × Bool)}(j:At σ [1,7] [.ptr ai 0,.ptr eu 0])(aA:Own H [[(eu,.cells [.map l])],[(l,.map (gi aD V.bool m))],[(ai,.cells (iM ah))]]):
  eS aa b (xk (hA 6)) σ H fun x aN H'=>x=.normal/\H'=H/\At aN [1,7,116,117] [.ptr ai 0,.ptr eu 0,aD ah.Model.b7.len,aD 0]:=by
 rw[<-wY j]
 refine o6 <| pp (.ptr ai 0) <| pp (.ptr ai 6) <| ph (bg 3 iX ah.Model.b7) (hK rfl (aA.get 2 rfl) rfl) <| ph (aD ah.Model.b7.len) (qZ rfl _) <| pp (aD 0) <| dV ⟨rfl,rfl,rfl⟩
theorem am7{i n:Int}(h1:σ 116=aD n)(h2:σ 117=aD i):eS aa b (.seq PF PG) σ H fun x aN H'=>x=(if i<n then .normal else .exit 4)/\H'=H/\aN=up σ 118 (.bool (decide (i<n))):=by
 refine kc <| o6 <| ph (.bool (decide (i<n))) ?_ <| dV ?_
 ·rw[jq]
  show(dB .lss (σ 117) (σ 116)).map _=_
  rw[h1,h2];rfl
 ·by_cases h:i<n
  ·refine qW (β:=decide (i<n)) rfl (by simpa using h) (qV ⟨by rw[if_pos h],rfl,rfl⟩)
  ·refine qX (β:=decide (i<n)) rfl (by simpa using h) (Dz ⟨by rw[if_neg h],rfl,rfl⟩)
theorem am8{i:Int}(h2:σ 117=aD i):eS aa b PH σ H fun x aN H'=>x=.normal/\H'=H/\aN=up σ 117 (aD (bJ (i+1))):=by
 refine o6 <| ph (aD (bJ (i+1))) ?_ <| pp (aD (bJ (i+1))) <| dV ⟨rfl,rfl,rfl⟩
 rw[jq]
 show(dB .add (σ 117) (aD 1)).map _=_
 rw[h2];rfl
end
theorem am9 (cD:C.P.follows .mixedOrders=true)(bu:eZ C fid)(a6:gH C fid (bZ aa)){hd nc ri inc:Code}(dq:C.code vars N hd=some PF)(fb:C.code vars N nc=some PG)(gG:C.code vars N inc=some PH)
  (hr:yA C vars N ri=some U) (kW:BK C vars N (Ju ri)=some lx) (sy:aa 70=some (.code BG)) (nC:zq aa) {j:dN} (hl:j.Model.b7.l.length<=12) {ai eu l:Nat} {ks:List Int} {s:aq} (hnd:ks.Nodup)
  (hs:sB j ai eu l [116,117] [aD j.Model.b7.len,aD 0] ks 0 s):
  c3 C fid vars N (.block 4 (.loop (.seq hd (.seq nc (.seq (.block 5 ri) inc))))) s fun x al=>x=.normal/\∃bp,pV j.Model.b7.l ks j.Model.b7.l.length bp/\sB j ai eu l [] [] bp 0 al:=by
 refine c3.block (c3.loop (fun k al=>∃(i:Nat) (bp:List Int),i+k=j.Model.b7.l.length/\bp.Nodup/\pV j.Model.b7.l ks i bp/\sB j ai eu l [116,117] [aD j.Model.b7.len,aD i] bp 0 al) j.Model.b7.l.length ⟨0,ks,by omega,hnd,.zero,hs⟩ ?_)
 rintro k s1 ⟨i,cq,aub,ana,Cy,Fi,Fj,⟨σ,ab,fT⟩,aA,hlen⟩
 have g1:σ 1=.ptr ai 0:=(ew fT).1
 have g7:σ 7=.ptr eu 0:=(ew (ew fT).2).1
 have Zh:σ 116=aD j.Model.b7.len:=(ew (ew (ew fT).2).2).1
 have Zi:σ 117=aD i:=(ew (ew (ew (ew fT).2).2).2).1
 rw[BS Fi Fj]
 obtain⟨x,dD,H',low',aN,q1,aS,b1,rfl,et⟩:=BT (aa:=aa) (am7 (H:=s1.H) Zh Zi) ab s1.low
 have Zj:j.Model.b7.len=(j.Model.b7.l.length:Int):=rfl
 have PI:At aN [1,7,116,117] [.ptr ai 0,.ptr eu 0,aD j.Model.b7.len,aD i]:=by
  rw[et]
  show[up σ 118 (.bool (decide ((i:Int)<j.Model.b7.len))) 1,up σ 118 (.bool (decide ((i:Int)<j.Model.b7.len))) 7,up σ 118 (.bool (decide ((i:Int)<j.Model.b7.len))) 116,up σ 118 (.bool (decide ((i:Int)<j.Model.b7.len))) 117]=_
  rw[iU _ _ (by decide),iU _ _ (by decide),iU _ _ (by decide),iU _ _ (by decide),g1,g7,Zh,Zi]
 by_cases hi:i<j.Model.b7.l.length
 ·have hx:x=.normal:=by rw[b1,if_pos (by rw[Zj];omega)]
  subst hx
  refine c3.zt cD bu a6 dq q1 (fun s2 oT=>c3.seq (c3.dx cD bu a6 fb oT) (fun dL ar=> ?_) fun y dL hy ar=>absurd ar.1 hy) (fun h=>absurd rfl h)
  obtain⟨-,rfl⟩:=ar
  refine c3.seq (G4:=fun y dL=>y=.normal/\∃bp,DL j.Model.b7.l cq bp/\sB j ai eu l [116,117] [aD j.Model.b7.len,aD i] bp 0 dL) (c3.block ((am2 (s:=⟨[],dD,s1.H,low',none⟩) cD bu a6 hr kW sy nC hl ana (ts:=[116,117]) (vs:=[aD j.Model.b7.len,aD i]) (by decide) ⟨rfl,rfl,⟨aN,aS,PI⟩,aA,cx _⟩).mono fun y dL hy=>⟨by rw[hy.1];rfl,hy.2⟩)) (fun dL ar=> ?_) fun y dL hy ar=>absurd ar.1 hy
  obtain⟨-,ee,Zk,L7,AQ,⟨gS,anb,vS⟩,zx,Te⟩:=ar
  have dm:gS 1=.ptr ai 0:=(ew vS).1
  have zC:gS 7=.ptr eu 0:=(ew (ew vS).2).1
  have anc:gS 116=aD j.Model.b7.len:=(ew (ew (ew vS).2).2).1
  have bi:gS 117=aD i:=(ew (ew (ew (ew vS).2).2).2).1
  rw[BS L7 AQ]
  obtain⟨y,Nb,Nc,auc,Nd,bA,b9,rfl,rfl,iR⟩:=BT (aa:=aa) (am8 (H:=dL.H) bi) anb dL.low
  refine(c3.dx cD bu a6 gG bA).mono fun y jR hy=> ?_
  obtain⟨rfl,rfl⟩:=hy
  refine .inl ⟨rfl,k-1,by omega,i+1,ee,by omega,Zk.dk,.succ Cy Zk,rfl,rfl,⟨Nd,b9,?_⟩,zx,cx _⟩
  rw[iR]
  show[up gS 117 (aD (bJ ((i:Int)+1))) 1,up gS 117 (aD (bJ ((i:Int)+1))) 7,up gS 117 (aD (bJ ((i:Int)+1))) 116,up gS 117 (aD (bJ ((i:Int)+1))) 117]=_
  rw[iU _ _ (by decide),iU _ _ (by decide),iU _ _ (by decide),ve,dm,zC,anc,fN (by omega)]
 ·have hx:x=.exit 4:=by rw[b1,if_neg (by rw[Zj];omega)]
  subst hx
  refine c3.zt cD bu a6 dq q1 (fun s2 oT=>c3.seq (c3.dx cD bu a6 fb oT) (fun dL ar=>absurd ar.1 (by simp)) fun y dL hy ar=> ?_) (fun _=> ?_)
  ·obtain⟨rfl,rfl⟩:=ar
   have:i=j.Model.b7.l.length:=by omega
   subst this
   exact .inr ⟨by simp,rfl,cq,Cy,rfl,rfl,⟨aN,aS,Zg PI⟩,aA,cx _⟩
  ·have:i=j.Model.b7.l.length:=by omega
   subst this
   exact .inr ⟨by simp,rfl,cq,Cy,rfl,rfl,⟨aN,aS,Zg PI⟩,aA,cx _⟩
theorem ane (cD:C.P.follows .mixedOrders=true)(bu:eZ C fid)(a6:gH C fid (bZ aa)){p1 p2 p3 j6 qa xi EU hd nc ri inc:Code}(af:C.code vars N p1=some (hA 1))(aj:C.code vars N p2=some (hA 2))(bT:C.code vars N p3=some (hA 3))(cF:C.code vars N j6=some (hA 4))(ej:C.code vars N qa=some (hA 5))
  (j2:C.code vars N xi=some (xk (hA 6))) (wX:C.code vars N EU=some (hA 7)) (dq:C.code vars N hd=some PF) (fb:C.code vars N nc=some PG) (gG:C.code vars N inc=some PH)
  (hr:yA C vars N ri=some U) (kW:BK C vars N (Ju ri)=some lx) (sy:aa 70=some (.code BG)) (nC:zq aa) (PJ:Jn aa) (j:dN):
  c3 C fid vars N (.seq p1 (.seq p2 (.seq p3 (.seq j6 (.seq qa (.seq (.seq xi (.block 4 (.loop (.seq hd (.seq nc (.seq (.block 5 ri) inc)))))) EU)))))) ⟨[],fQ 0 [.agg (iM j)],[],0,none⟩
   fun x s=>x=.ret/\bk s.av 2=.bool (DK j.Model.Tables.l j.Model.b7.l):=by
 obtain⟨x,lC,H1,bI,c1,q1,aS,b1⟩:=BT (aa:=aa) (alq (H0:=[]) PJ j (amT j)) (MW 0 [.agg (iM j)]) 0
 unfold DK
 cases bx:(decide (j.Model.b7.l.length<=12)&&j.Model.b7.l.all (vq j.Model.Tables.l))with
 |false=>
  rw[bx]at b1
  obtain⟨rfl,fT⟩:=b1
  have ad:bk lC 2=.bool false:=(aS 2).trans (ew fT).1
  have aT:(decide (j.Model.b7.l.length<=12)&&(j.Model.b7.l.all (vq j.Model.Tables.l)&&HJ j.Model.b7.l j.Model.Tables.l.length))=false:=by
   rw[<-Cf,bx];rfl
  rw[aT]
  refine c3.zt cD bu a6 af q1 (fun s2 h2=>c3.zt cD bu a6 aj h2 (fun dL ar=>c3.seq (c3.dx cD bu a6 bT ar) (fun jR aQ=>absurd aQ.1 (by simp)) fun y jR hy aQ=> ?_) fun _=>⟨rfl,ad⟩) fun _=>⟨rfl,ad⟩
  obtain⟨rfl,rfl⟩:=aQ
  exact⟨rfl,ad⟩
 |true=>
  rw[bx]at b1
  obtain⟨rfl,ai,-,fT,aA⟩:=b1
  obtain⟨Zl,eA⟩:=Bool.and_eq_true_iff.1 bx
  have hl:j.Model.b7.l.length<=12:=by simpa using Zl
  rw[Zl,eA,fI,fI]
  refine c3.zt cD bu a6 af q1 (fun s2 h2=>c3.zt cD bu a6 aj h2 (fun dL ar=>c3.seq (c3.dx cD bu a6 bT ar) (fun jR aQ=> ?_) fun y jR hy aQ=>absurd aQ.1 hy) fun h=>absurd rfl h) fun h=>absurd rfl h
  obtain⟨-,rfl⟩:=aQ
  obtain⟨x,wZ,H2,c5,js,bA,b9,rfl,eu,l,-,-,anf,Zm⟩:=BT (aa:=aa) (alK (b:=0) j fT aA (amW j hl)) aS bI
  refine c3.zt cD bu a6 cF bA (fun s2 h2=>c3.seq (c3.dx cD bu a6 ej h2) (fun jR aQ=> ?_) fun y jR hy aQ=>absurd aQ.1 hy) fun h=>absurd rfl h
  obtain⟨-,rfl⟩:=aQ
  obtain⟨x,tl,sw,JQ,gS,t1,t2,rfl,rfl,vS⟩:=BT (aa:=aa) (am6 (b:=0) anf Zm) b9 c5
  have hnd:(xr j.Model.b7.l []).Nodup:=Ze _ FR
  refine c3.seq (c3.seq (c3.dx cD bu a6 j2 t1) (fun jR aQ=> ?_) fun y jR hy aQ=>absurd aQ.1 hy) (fun PK h5=> ?_) fun y PK hy (h5:y=.normal/\∃bp,pV j.Model.b7.l (xr j.Model.b7.l []) j.Model.b7.l.length bp/\sB j ai eu l [] [] bp 0 PK)=>absurd h5.1 hy
  ·obtain⟨-,rfl⟩:=aQ
   exact am9 cD bu a6 dq fb gG hr kW sy nC hl hnd ⟨rfl,rfl,⟨gS,t2,vS⟩,Zm,cx _⟩
  ·obtain⟨-,bp,ang,anh,L0,⟨ani,anj,ank⟩,anl,-⟩:=h5
   rw[BS anh L0]
   have zC:At ani [7] [.ptr eu 0]:=am5 ank
   obtain⟨x,anm,aud,aue,auf,ky,oR,rfl,ann⟩:=BT (aa:=aa) (alX (b:=0) zC anl) anj PK.low
   refine(c3.dx cD bu a6 wX ky).mono fun y aug hy=> ?_
   obtain⟨rfl,rfl⟩:=hy
   refine⟨rfl,?_⟩
   show bk anm 2=_
   rw[oR 2,(ew ann).1]
   have wN:∀h∈j.Model.b7.l,0<=h.Table/\h.Table<(j.Model.Tables.l.length:Int):=fun h fj=>by
    have:=eV.1 eA h fj
    unfold vq at this
    simp only[b8,decide_eq_true_eq]at this
    exact⟨this.1.1,this.1.2⟩
   rw[<-aiu (N:=j.Model.Tables.l.length) hnd (fun t=>by rw[Zf];simp) wN ang]
   unfold cf
   rw[oG]
end
end Go.Abs.bw
namespace Go.Abs.bw
open Go Go.Abs
noncomputable section
theorem PL (x:bH)(n:Nat):decide ((x.length:Int)>(n:Int))=!decide (x.length<=n):=by
 rw[Y8];congr 1;exact decide_eq_decide.2 (by omega)
def Fk (t:Table):Bool:=decide (t.Name.length<=40)&&decide (t.bP.l.length<=12)
def Fl (s:List Int)(ts:List Table):Bool:=ts.all Fk&&(decide (s.length<=12)&&decide (ts.length<=20))
theorem ano (s:ak Int)(ts:ak Table)(h:cm ts.l):HN s ts=some (Fl s.l ts.l):=by
 unfold HN
 rw[xn (f:=HM ts) ts.l h (fun t=>!Fk t) (fun k t ht=>by
  simp only[HM,k8 (kl ht),cond_true,fP,ht,cg]
  rw[show decide ((t.Name.length:Int)>40)=!decide (t.Name.length<=40)from PL t.Name 40,show decide (t.bP.len>12)=!decide (t.bP.l.length<=12)from my t.bP 12]
  unfold Fk
  cases decide (t.Name.length<=40)<;>cases decide (t.bP.l.length<=12)<;>rfl) (by simp only[HM,mw,cond_false])]
 unfold Fl
 rw[sK,show decide (s.len<=12)=decide (s.l.length<=12)from Fg s 12,show decide (ts.len<=20)=decide (ts.l.length<=20)from Fg ts 20]
 cases ts.l.any fun t=>!Fk t<;>rfl
def Fm (o:cl):Bool:=decide (o.Name.length<=40)&&decide (o.bC.l.length<=6)
def PM (x:eK):Bool:=decide (x.Delta.l.length<=20)&&(decide (x.ia.l.length<=10)&&decide (x.hL.l.length<=40))
def PN (x:eK):Bool:=x.ia.l.all fun r=>decide (r.eT.l.length<=20)
def Fo (a:Action):Bool:=(decide (a.bL.l.length<=6)&&PM a.eK)&&PN a.eK
def Fp (m:Model):Bool:=
 (decide (m.bC.l.length<=8)&&(decide (m.Tables.l.length<=6)&&(decide (m.fE.l.length<=20)&&(decide (m.fu.l.length<=60)&&(decide (m.Operations.l.length<=8)&&(decide (m.Actions.l.length<=30)&&(decide (m.b7.l.length<=12)&&Fl m.bC.l m.Tables.l)))))))&&
 ((m.fE.l.all fun x=>decide (x.length<=40))&&((m.fu.l.all fun c=>decide (c.Row.eT.l.length<=20))&&(m.Operations.l.all Fm&&m.Actions.l.all Fo)))
theorem anp (m:Model):HU m=some (Fp m):=by
 unfold HU Fp
 rw[show decide (m.bC.len>8)=!decide (m.bC.l.length<=8)from my m.bC 8,show decide (m.Tables.len>6)=!decide (m.Tables.l.length<=6)from my m.Tables 6,
  show decide (m.fE.len>20)=!decide (m.fE.l.length<=20)from my m.fE 20,show decide (m.fu.len>60)=!decide (m.fu.l.length<=60)from my m.fu 60,
  show decide (m.Operations.len>8)=!decide (m.Operations.l.length<=8)from my m.Operations 8,show decide (m.Actions.len>30)=!decide (m.Actions.l.length<=30)from my m.Actions 30,
  show decide (m.b7.len>12)=!decide (m.b7.l.length<=12)from my m.b7 12]
 cases h1:decide (m.bC.l.length<=8)with
 |false=>rfl
 |true=>
 cases h2:decide (m.Tables.l.length<=6)with
 |false=>rfl
 |true=>
 cases ar:decide (m.fE.l.length<=20)with
 |false=>rfl
 |true=>
 cases aQ:decide (m.fu.l.length<=60)with
 |false=>rfl
 |true=>
 cases h5:decide (m.Operations.l.length<=8)with
 |false=>rfl
 |true=>
 cases ft:decide (m.Actions.l.length<=30)with
 |false=>rfl
 |true=>
 cases kZ:decide (m.b7.l.length<=12)with
 |false=>rfl
 |true=>
 have aS:m.Tables.l.length<=6:=by simpa using h2
 have b1:m.fE.l.length<=20:=by simpa using ar
 have cL:m.fu.l.length<=60:=by simpa using aQ
 have et:m.Operations.l.length<=8:=by simpa using h5
 have gz:m.Actions.l.length<=30:=by simpa using ft
 simp only[hZ,cond_false,fI]
 rw[ano m.bC m.Tables (by unfold cm;omega)]
 cases Fl m.bC.l m.Tables.l with
 |false=>rfl
 |true=>
 simp only[cg,hZ,cond_false,fI]
 rw[xn (f:=HO m) m.fE.l (by omega) (fun x=>!decide (x.length<=40)) (fun k x hx=>by
  simp only[HO,k8 (kl hx),cond_true,fP,hx,cg]
  rw[show decide ((x.length:Int)>40)=!decide (x.length<=40)from PL x 40]
  cases decide (x.length<=40)<;>rfl) (by simp only[HO,mw,cond_false])]
 rw[sK]
 cases m.fE.l.any fun x=>!decide (x.length<=40)with
 |true=>rfl
 |false=>
 simp only[cg,ue,cond_false,fI]
 rw[xn (f:=HP m) m.fu.l (by omega) (fun c=>!decide (c.Row.eT.l.length<=20)) (fun k c hx=>by
  simp only[HP,k8 (kl hx),cond_true,fP,hx,cg]
  rw[show decide (c.Row.eT.len>20)=!decide (c.Row.eT.l.length<=20)from my c.Row.eT 20]
  cases decide (c.Row.eT.l.length<=20)<;>rfl) (by simp only[HP,mw,cond_false])]
 rw[sK (l:=m.fu.l)]
 cases m.fu.l.any fun c=>!decide (c.Row.eT.l.length<=20)with
 |true=>rfl
 |false=>
 simp only[cg,ue,cond_false,fI]
 rw[xn (f:=HQ m) m.Operations.l (by omega) (fun o=>!Fm o) (fun k o hx=>by
  simp only[HQ,k8 (kl hx),cond_true,fP,hx,cg]
  rw[show decide ((o.Name.length:Int)>40)=!decide (o.Name.length<=40)from PL o.Name 40,show decide (o.bC.len>6)=!decide (o.bC.l.length<=6)from my o.bC 6]
  unfold Fm
  cases decide (o.Name.length<=40)<;>cases decide (o.bC.l.length<=6)<;>rfl) (by simp only[HQ,mw,cond_false])]
 rw[sK (l:=m.Operations.l)]
 cases m.Operations.l.any fun o=>!Fm o with
 |true=>rfl
 |false=>
 simp only[cg,ue,cond_false,fI]
 rw[xn (f:=HS m) m.Actions.l (by omega) (fun a=>!Fo a) (fun k a hx=>by
  simp only[HS,k8 (kl hx),cond_true,fP,hx,cg]
  rw[show decide (a.bL.len>6)=!decide (a.bL.l.length<=6)from my a.bL 6,show decide (a.eK.Delta.len>20)=!decide (a.eK.Delta.l.length<=20)from my a.eK.Delta 20,
   show decide (a.eK.ia.len>10)=!decide (a.eK.ia.l.length<=10)from my a.eK.ia 10,show decide (a.eK.hL.len>40)=!decide (a.eK.hL.l.length<=40)from my a.eK.hL 40]
  unfold Fo PM
  cases decide (a.bL.l.length<=6)with
  |false=>rfl
  |true=>
   cases decide (a.eK.Delta.l.length<=20)with
   |false=>rfl
   |true=>
    cases fj:decide (a.eK.ia.l.length<=10)with
    |false=>rfl
    |true=>
     cases decide (a.eK.hL.l.length<=40)with
     |false=>rfl
     |true=>
      have hl:a.eK.ia.l.length<=10:=by simpa using fj
      simp only[hZ,cond_false,cg,zV,fI]
      rw[xn (f:=HR a) a.eK.ia.l (by omega) (fun r=>!decide (r.eT.l.length<=20)) (fun k r hx=>by
       simp only[HR,k8 (kl hx),cond_true,fP,hx,cg]
       rw[show decide (r.eT.len>20)=!decide (r.eT.l.length<=20)from my r.eT 20]
       cases decide (r.eT.l.length<=20)<;>rfl) (by simp only[HR,mw,cond_false])]
      unfold PN
      rw[sK]
      cases a.eK.ia.l.any fun r=>!decide (r.eT.l.length<=20)<;>rfl) (by simp only[HS,mw,cond_false])]
 rw[sK (l:=m.Actions.l)]
 cases m.Actions.l.any fun a=>!Fo a<;>rfl
structure BU (m:Model):Prop where
 PO:m.bC.l.length<=8
 tables:m.Tables.l.length<=6
 anq:m.fE.l.length<=21
 cons:m.fu.l.length<=60
 ops:m.Operations.l.length<=8
 gV:m.Actions.l.length<=31
 auh:m.b7.l.length<=13
 aa:∀t∈m.Tables.l,t.Name.length<=40/\t.bP.l.length<=12
 aui:∀x∈m.fE.l,x.length<=40
 anr:∀c∈m.fu.l,c.Row.eT.l.length<=20
 op:∀o∈m.Operations.l,o.Name.length<=40/\o.bC.l.length<=6
 act:∀a∈m.Actions.l,a.bL.l.length<=6/\Y9 a.eK
theorem ans{m:Model}(h:Fp m=true):BU m:=by
 unfold Fp Fl at h
 simp only[b8,decide_eq_true_eq,eV]at h
 obtain⟨⟨ai,a2,a3,a4,a5,zD,eu,ant,-,-⟩,dm,gy,jO,lg⟩:=h
 refine⟨ai,a2,by omega,a4,a5,by omega,by omega,fun t ht=> ?_,dm,gy,fun o ho=> ?_,fun a ao=> ?_⟩
 ·have:=ant t ht
  unfold Fk at this
  simpa using this
 ·have:=jO o ho
  unfold Fm at this
  simpa using this
 ·have:=lg a ao
  unfold Fo PM PN at this
  simp only[b8,decide_eq_true_eq,eV]at this
  obtain⟨⟨dq,fb,gG,iC⟩,jj⟩:=this
  exact⟨dq,by unfold cm;omega,by unfold cm;omega,by unfold cm;omega,fun r hr=>by have:=jj r hr;unfold cm;omega⟩
def vT (m:Model):Bool:=
 mu m.bC.l m.Tables.l&&(decide (m.fE.l.length<=24)&&(BQ m.fE.l&&(JL m.bC.l m.Tables.l (hQ m.bC.l m.Tables.l true) m.fE.len m.fu.l&&(zz m.bC.l.length m.Operations.l&&
  (zA m.bC.l m.Tables.l (hQ m.bC.l m.Tables.l true).length m.Operations.l m.Actions.l&&DK m.Tables.l m.b7.l)))))
theorem Fq{m:Model}(b:BU m):ou m=some (vT m):=by
 have hs:cm m.bC.l:=by have:=b.PO;unfold cm;omega
 have ht:cm m.Tables.l:=by have:=b.tables;unfold cm;omega
 have hc:∀t∈m.Tables.l,cm t.bP.l:=fun t h=>by have:=b.aa t h;unfold cm;omega
 unfold ou vT
 rw[Pu m.bC m.Tables hs ht hc]
 simp only[cg]
 cases ad:mu m.bC.l m.Tables.l with
 |false=>rfl
 |true=>
  simp only[cond_true,fI]
  rw[show decide (m.fE.len>24)=!decide (m.fE.l.length<=24)from my m.fE 24]
  cases decide (m.fE.l.length<=24)with
  |false=>rfl
  |true=>
   simp only[hZ,cond_false,fI]
   rw[YT m.fE (by have:=b.anq;unfold cm;omega)]
   simp only[cg]
   cases BQ m.fE.l with
   |false=>rfl
   |true=>
    obtain⟨x,ex,el⟩:=YR m.bC m.Tables true hs ht hc
    rw[ad]at el
    simp only[cond_true]at el
    have rh:∀t∈m.Tables.l,oE m.bC.l.length t.bP.l=true:=fun t h=>JF ((BM ad).2.2.2 t h)
    simp only[hZ,cond_false,fI]
    rw[ex]
    simp only[cg]
    have af:=amo (dN.mk m x) (by have:=b.cons;show m.fu.l.length<_;omega) (by show x.l.length<=_;rw[el];have:=amq ad true;omega) ht rh (fun c h=>by have:=b.anr c h;unfold cm;omega)
    have aj:=amF (dN.mk m x) (by have:=b.ops;show m.Operations.l.length<=_;omega) (fun o h=>by have:=(b.op o h).2;unfold cm;omega)
    rw[af,aj]
    simp only[cg]
    rw[show(dN.mk m x).strict.l=hQ m.bC.l m.Tables.l true from el]
    cases JL m.bC.l m.Tables.l (hQ m.bC.l m.Tables.l true) m.fE.len m.fu.l with
    |false=>rfl
    |true=>
     simp only[cond_true,fI]
     cases c4:zz m.bC.l.length m.Operations.l with
     |false=>rfl
     |true=>
      have PQ:=c4
      unfold zz at PQ
      simp only[b8,eV]at PQ
      have bT:=amN (dN.mk m x) hs ht hc ad PQ.1 (fun o h=>by have:=(b.op o h).2;unfold cm;omega) (fun a h=>(b.act a h).2) (fun a h=>by have:=(b.act a h).1;unfold cm;omega) (by have:=b.gV;unfold cm;show m.Actions.l.length<_;omega)
      rw[bT]
      simp only[cg,cond_true,fI]
      rw[show(dN.mk m x).strict.len=((hQ m.bC.l m.Tables.l true).length:Int)from by rw[gL];show((x.l.length:Nat):Int)=_;rw[el]]
      cases zA m.bC.l m.Tables.l ((hQ m.bC.l m.Tables.l true).length:Int) m.Operations.l m.Actions.l<;>rfl
end
end Go.Abs.bw
namespace Go.Abs.bw
open Go Go.Abs Go.Abs.Lex
noncomputable section
theorem xt (c:UInt8)(n:Nat):((c.toNat:Int)==(n:Int))=(c.toNat==n):=by
 rw[zU];simp;omega
theorem Zn{s:bH}{k:Nat}(h:k<s.length):decide ((k:Int)<(s.length:Int))=true:=by simp;exact h
theorem Zo{s:bH}{k:Nat}(h:s.length<=k):decide ((k:Int)<(s.length:Int))=false:=by simp;exact h
theorem anu{s:bH}(hl:s.length<4611686018427387904)(p:UInt8->Bool){f:Int->Option (dM Int Int)}(ab:∀(k:Nat) c,s[k]? =some c->f k=some (bif p c then .next (bJ (k+1))else .out k))(he:∀k:Nat,s.length<=k->f k=some (.out k)):
  ∀(n k:Nat),k+n=s.length->c0 f (k:Int)=some (((k+ke p (s.drop k):Nat)):Int):=by
 intro n
 induction n with
 |zero=>
  intro k hk
  rw[k4,he k (by omega),B6 (by omega)];rfl
 |succ n ih=>
  intro k hk
  have aX:k<s.length:=by omega
  have hx:s[k]? =some s[k]:=by simp[aX]
  rw[k4,ab k _ hx,wc aX,yS]
  cases hp:p s[k]with
  |true=>
   simp only[cond_true,if_true]
   rw[fN (by omega),ih (k+1) (by omega)]
   congr 2;omega
  |false=>rfl
theorem Zp{s:bH}{a c:Nat}(h1:a<=c)(h2:c<=s.length):q0 s (a:Int) (c:Int)=some ((s.take c).drop a):=by
 unfold q0
 rw[if_pos (by omega)];simp
end
end Go.Abs.bw
namespace Go.Abs.bw
open Go Go.Abs Go.Abs.Lex
noncomputable section
theorem PR (c:UInt8):yT (c.toNat:Int)=some (ml c):=by
 unfold yT ml
 rw[show decide ((c.toNat:Int)>=97)=decide (97<=c.toNat)from decide_eq_decide.2 (by omega),show decide ((c.toNat:Int)<=122)=decide (c.toNat<=122)from decide_eq_decide.2 (by omega)]
theorem PS (c:UInt8):yU (c.toNat:Int)=some (iY c):=by
 unfold yU iY
 rw[show decide ((c.toNat:Int)>=48)=decide (48<=c.toNat)from decide_eq_decide.2 (by omega),show decide ((c.toNat:Int)<=57)=decide (c.toNat<=57)from decide_eq_decide.2 (by omega)]
theorem anv (c:UInt8):DT (c.toNat:Int)=some (om c):=by
 unfold DT om
 rw[PR,PS,show((c.toNat:Int)==95)=(c.toNat==95)from xt c 95]
 cases ml c<;>cases iY c<;>rfl
theorem Zq (c:UInt8):A9 (c.toNat:Int)=some (kd c):=by
 unfold A9 kd
 rw[show((c.toNat:Int)==9)=(c.toNat==9)from xt c 9,show((c.toNat:Int)==10)=(c.toNat==10)from xt c 10,show((c.toNat:Int)==13)=(c.toNat==13)from xt c 13,show((c.toNat:Int)==32)=(c.toNat==32)from xt c 32]
 cases c.toNat==9<;>cases c.toNat==10<;>cases c.toNat==13<;>cases c.toNat==32<;>rfl
theorem anw (c:UInt8):Ba (c.toNat:Int)=some (c.toNat != 10):=by
 unfold Ba bne
 rw[show((c.toNat:Int)==10)=(c.toNat==10)from xt c 10]
theorem Zr (s:bH)(hl:s.length<4611686018427387904){f:Int->Option Bool}{p:UInt8->Bool}(ab:∀c:UInt8,f (c.toNat:Int)=some (p c)):A8 s f=some ((ke p s:Nat):Int):=by
 unfold A8
 have h:=anu (s:=s) hl p (f:=DQ s f) (fun k c hx=>by
  have aX:=kl hx
  simp only[DQ,Zn aX,cond_true,fP,hx,cg,ab]
  cases p c<;>rfl) (fun k hk=>by simp only[DQ,Zo hk,cond_false,cg]) s.length 0 (by omega)
 rw[show c0 (DQ s f) 0=_ from h]
 simp
theorem anx (s:bH)(hl:s.length<4611686018427387904):DS s=some ((eU false s:Nat):Int):=by
 have key:∀(n k:Nat),k+n=s.length->∃o:cP Int Int,c0 (Bb s) (k:Int)=some o/\(match o with| .go p=>p| .ret p=>p)=((k+eU false (s.drop k):Nat):Int):=by
  intro n
  induction n using Nat.strongRecOn with
  |ind n ih=>
   intro k hk
   rw[k4]
   rcases fX k s.length with aX|hge
   ·have hx:s[k]? =some s[k]:=by simp[aX]
    have JR:s.drop k=s[k]::s.drop (k+1):=wc aX
    have uY:q0 s (k:Int) (s.length:Int)=some (s.drop k):=by rw[Zp (by omega) (aK _),Kq]
    have ab:Bb s (k:Int)=bif kd s[k]then some (.next (bJ ((k:Int)+1)))else(bif s[k].toNat==35 then some (.next (bJ ((k:Int)+(ke (fun c=>c.toNat != 10) (s.drop k):Nat))))else some (.out (.ret (k:Int)))):=by
     simp only[Bb,Zn aX,cond_true,fP,hx,cg,Zq,uY,Zr (s.drop k) (by rw[sN];omega) anw]
     rw[show((s[k].toNat:Int)==35)=(s[k].toNat==35)from xt s[k] 35]
    rw[ab,JR]
    cases hw:kd s[k]with
    |true=>
     simp only[cond_true]
     rw[fN (by omega)]
     obtain⟨o,h1,h2⟩:=ih (s.length-(k+1)) (by omega) (k+1) (by omega)
     refine⟨o,h1,?_⟩
     rw[h2]
     simp only[eU,hw,if_true]
     congr 1;omega
    |false=>
     cases rj:s[k].toNat==35 with
     |true=>
      have BV:s[k].toNat=35:=by simpa using rj
      have bf:(fun c:UInt8=>c.toNat != 10) s[k]=true:=by simp[BV]
      have hr:=Wm (s[k]::s.drop (k+1))
      have h0:eU false (s[k]::s.drop (k+1))=eU true (s[k]::s.drop (k+1)):=by
       simp only[eU,hw,hY,if_false,BV,if_true]
       rfl
      have lV:1<=ke (fun c=>c.toNat != 10) (s[k]::s.drop (k+1)):=by rw[yS,if_pos bf];omega
      have hle:ke (fun c=>c.toNat != 10) (s[k]::s.drop (k+1))<=s.length-k:=by
       have:=DH (fun c=>c.toNat != 10) (s[k]::s.drop (k+1))
       rw[<-JR,sN]at this
       rw[JR]at this;exact this
      rw[h0,hr]
      generalize U:ke (fun c=>c.toNat != 10) (s[k]::s.drop (k+1))=R at lV hle⊢
      have PT:(s[k]::s.drop (k+1)).drop R=s.drop (k+R):=by rw[<-JR,sR]
      simp only[cond_true,cond_false]
      rw[PT,iN (by omega) (by omega)]
      obtain⟨o,h1,h2⟩:=ih (s.length-(k+R)) (by omega) (k+R) (by omega)
      refine⟨o,by rw[show(k:Int)+(R:Int)=((k+R:Nat):Int) by omega];exact h1,?_⟩
      rw[h2];congr 1;omega
     |false=>
      have anz:¬s[k].toNat=35:=by simpa using rj
      refine⟨.ret (k:Int),rfl,?_⟩
      simp only[eU,hw,hY,if_false,anz]
      simp
   ·refine⟨.go (k:Int),by simp only[Bb,Zo hge,cond_false],?_⟩
    rw[B6 hge];simp[eU]
 obtain⟨o,h1,h2⟩:=key s.length 0 (by omega)
 unfold DS
 rw[show c0 (Bb s) 0=_ from h1]
 simp only[eO,List.drop_zero]at h2
 cases o<;>simp_all
theorem anA (s w:bH):HL s w=some (pre s w):=by
 unfold HL Ni pre
 by_cases h:w.length<=s.length
 ·have d:decide ((s.length:Int)>=(w.length:Int))=true:=by simp;exact h
  have hs:q0 s 0 (w.length:Int)=some (s.take w.length):=by
   have:=Zp (s:=s) (a:=0) (c:=w.length) (cx _) h
   simpa using this
  rw[d,hs];rfl
 ·have d:decide ((s.length:Int)>=(w.length:Int))=false:=by simp;omega
  have e:(s.take w.length==w)=false:=by
   rw[B5 (by omega),Bool.eq_false_iff]
   intro fj
   have:=congrArg List.length (eq_of_beq fj)
   omega
  rw[d,e];rfl
theorem Zs (s:bH):A7 s=some ((sym s:Nat):Int):=by
 unfold A7
 have hl:(ak.mk two).l=two:=rfl
 rw[show c0 (DN s) 0=some (bif two.any (pre s)then .ret ()else .go ())from xn (f:=DN s) two (by decide) (pre s) (fun k x hx=>by
  have hd:decide ((k:Int)<(ak.mk [[61,61],[33,61],[60,61],[62,61],[46,46]]).len)=true:=k8 (show k<two.length from kl hx)
  have bj:([[61,61],[33,61],[60,61],[62,61],[46,46]]:List bH)[k]? =some x:=hx
  simp only[DN,hd,cond_true,ak.l,fP,bj,cg,anA]
  cases pre s x<;>rfl) (by
  have hd:decide ((two.length:Int)<(ak.mk [[61,61],[33,61],[60,61],[62,61],[46,46]]).len)=false:=by decide
  simp only[DN,hd,cond_false])]
 unfold sym
 cases h:two.any (pre s)with
 |true=>rfl
 |false=>
  simp only[cond_false,cg,hY,if_false]
  cases s with
  |nil=>rfl
  |cons c r=>
   have bf:((c::r) != ([]:bH))=true:=rfl
   have hi:bQ (c::r) 0=some c:=rfl
   have hu:UInt8.ofNat ((c.toNat:Int)).toNat=c:=by simp
   rw[bf,hi]
   simp only[cond_true,cg,strings_IndexByte,hu]
   rw[show decide (Lib.indexByte [60,62,61,43,45,42,40,41,123,125,44,58,59] c>=0)=Lex.one.contains c from aim Lex.one c]
   cases Lex.one.contains c<;>rfl
theorem anB (c:UInt8)(r:bH):DP (c::r)=some (vo (c::r)):=by
 unfold DP vo
 have hi:bQ (c::r) 0=some c:=rfl
 rw[hi]
 simp only[cg,PR,PS,Zs]
 have hd:decide (((sym (c::r):Nat):Int)>0)=decide (0<sym (c::r)):=decide_eq_decide.2 (by omega)
 rw[hd]
 cases ml c<;>cases iY c<;>rfl
end
end Go.Abs.bw
namespace Go.Abs.bw
open Go Go.Abs Go.Abs.Lex
noncomputable section
variable{aa:Nat->Option bY}
section
variable{call:cU}{ae:ag->V}{H:Heap}{low:Nat}
theorem qm (x:ag):b2 call ae H low (.len 0 x)=match ae x with
  | .str s=>some (.int .i64 s.length,H,low)
  | _=>none:=by
 show step ae H low (.len 0 x)=_
 cases hx:ae x<;>simp[step,hx]
theorem vU (x i:ag):b2 call ae H low (.qw x i)=match ae x,kr (ae i)with
 | .str s,some i=>(s[i]?).map fun c=>(.int .u8 c.toNat,H,low)
 | _,_=>none:=rfl
theorem xu (x:ag)(lo hi:Option ag):b2 call ae H low (.oI x lo hi)=match ae x with
 | .str s=>match eF ae 0 lo,eF ae s.length hi with
   |some a,some b=>if a<=b/\b<=s.length then some (.str ((s.take b).drop a),H,low)else none
   | _,_=>none
 | _=>none:=rfl
end
structure lN (aa:Nat->Option bY):Prop where
 letter:XW aa
 digit:XX aa
 part:XY aa
 anC:XZ aa
 BI:X0 aa
 symbol:X1 aa
 run:X2 aa
 skip:X3 aa
 nl:X4 aa
 anD:aa 75=some (.code Yg)
 Zt:aa 76=some (.code O2)
 anE:aa 38=some (.code Ye)
 anF:aa 28=some (.code EY)
 anG:∃sp,aa 139=some (.ext sp)/\sp [.str HI]=some (.list 1 (kw.map .str))
def aM (aa:Nat->Option bY)(f:V)(args:List V)(H:Heap)(v:V):Prop:=bZ aa f args H=some (v,H,H.length)
def bv (c:UInt8):V:=.int .u8 c.toNat
theorem anH (T:lN aa)(c:UInt8)(H:Heap):aM aa (.fn 78 [] []) [bv c] H (.bool (ml c)):=T.letter H _ _ (PR c)
theorem Zu (T:lN aa)(c:UInt8)(H:Heap):aM aa (.fn 81 [] []) [bv c] H (.bool (iY c)):=T.digit H _ _ (PS c)
theorem anI (T:lN aa)(c:UInt8)(H:Heap):aM aa (.fn 80 [] []) [bv c] H (.bool (om c)):=T.part H _ _ (anv c)
theorem anJ (T:lN aa)(c:UInt8)(H:Heap):aM aa (.fn 83 [] []) [bv c] H (.bool (kd c)):=T.anC H _ _ (Zq c)
theorem anK (T:lN aa)(c:UInt8)(r:List UInt8)(H:Heap):aM aa (.fn 84 [] []) [.str (c::r)] H (.bool (vo (c::r))):=T.BI H _ _ (anB c r)
theorem anL (T:lN aa)(s:List UInt8)(H:Heap):aM aa (.fn 82 [] []) [.str s] H (.int .i64 (sym s)):=T.symbol H _ _ (Zs s)
theorem anM (T:lN aa){s:List UInt8}{H:Heap}(hl:s.length<4611686018427387904):aM aa (.fn 77 [] []) [.str s] H (.int .i64 (eU false s)):=T.skip H _ _ (anx s hl)
theorem Zv (T:lN aa){s:List UInt8}{p:UInt8->Bool}{i:Nat}{H:Heap}(hl:s.length<4611686018427387904)(ab:∀(c:UInt8) H,aM aa (.fn i [] []) [bv c] H (.bool (p c))):
  aM aa (.fn 79 [] []) [.str s,.fn i [] []] H (.int .i64 (ke p s)):=
 T.run H [] (Own.nil H) s (fun n=>if 0<=n/\n<256 then some (p (UInt8.ofNat n.toNat))else none) (.fn i [] []) (fun H low=>by simp[eP,dF,bs,bW]) (fun H' z q _ aT=>by
   split at aT
   ·rename_i h
    cases aT
    have:=ab (UInt8.ofNat z.toNat) H'
    unfold aM bv at this
    have e:((UInt8.ofNat z.toNat).toNat:Int)=z:=by
     rw[UInt8.toNat_ofNat'];omega
    rw[e]at this
    exact this
   ·cases aT) _ (Zr s hl fun c=>by
   have h1:c.toNat<256:=c.toNat_lt
   rw[if_pos ⟨by omega,by omega⟩]
   simp)
def zE (l:List (List UInt8))(k:Nat):List (V × V):=(l.take k).foldl (fun e s=>ld 1 (.str s) (.bool true) e) []
def sC:List (V × V):=kw.map fun s=>(V.str s,V.bool true)
theorem anN:zE kw 35=sC:=by kernel_rfl
theorem anO (T:lN aa)(H:Heap):bZ aa (.fn 139 [] []) [.str HI] H=some (.list 1 (kw.map .str),H,H.length):=by
 obtain⟨sp,h1,h2⟩:=T.anG
 rw[mE,h1]
 simp[h2,bW,bs]
def strKeys (es:List (V × V)):Prop:=∀p∈es,∃t,p.1=V.str t
theorem anP{es:List (V × V)}(h:strKeys es)(s:List UInt8)(v:V):strKeys (ld 1 (.str s) v es):=by
 induction es with
 |nil=>intro p hp;simp[ld]at hp;exact⟨s,by rw[hp]⟩
 |cons q es ih=>
  obtain⟨t,ht⟩:=h q (by simp)
  obtain⟨a,b⟩:=q
  simp only at ht;subst ht
  simp only[ld,ix]
  split
  ·intro p hp
   rcases dA.1 hp with rfl|hp
   ·exact⟨s,rfl⟩
   ·exact h p (by simp[hp])
  ·intro p hp
   rcases dA.1 hp with rfl|hp
   ·exact⟨t,rfl⟩
   ·exact ih (fun p hp=>h p (by simp[hp])) p hp
theorem anQ{es:List (V × V)}(h:strKeys es)(s:List UInt8):∃o,h4 1 (.str s) es=some o:=by
 induction es with
 |nil=>exact⟨none,rfl⟩
 |cons q es ih=>
  obtain⟨t,ht⟩:=h q (by simp)
  obtain⟨a,b⟩:=q
  simp only at ht;subst ht
  obtain⟨o,ho⟩:=ih (fun p hp=>h p (by simp[hp]))
  simp only[h4,ix]
  cases(s==t)with
  |true=>exact⟨some b,rfl⟩
  |false=>exact⟨o,ho⟩
theorem anR (l:List (List UInt8))(k:Nat):strKeys (zE l k):=by
 unfold zE
 generalize l.take k=m
 have:∀(m:List (List UInt8)) e,strKeys e->strKeys (m.foldl (fun e s=>ld 1 (.str s) (.bool true) e) e):=by
  intro m
  induction m with
  |nil=>intro e h;exact h
  |cons a m ih=>intro e h;exact ih _ (anP h _ _)
 exact this m [] (fun p hp=>by cases hp)
theorem anS{l:List (List UInt8)}{k:Nat}{s:List UInt8}(h:l[k]? =some s):zE l (k+1)=ld 1 (.str s) (.bool true) (zE l k):=by
 unfold zE
 rw[zS,h]
 simp
theorem anT (s:List UInt8):h4 1 (.str s) sC=some (if kw.contains s then some (.bool true)else none):=by
 unfold sC
 generalize kw=l
 induction l with
 |nil=>rfl
 |cons a l ih=>
  simp only[eo,h4,ix,List.contains_cons]
  cases auj:(s==a)with
  |true=>rfl
  |false=>simp[ih]
theorem sD{H:Heap}{p:Nat}{o:cc}(h:H[p]? =some o)(t:Heap):(H++t)[p]? =some o:=by
 have hp:p<H.length:=by
  rcases fX p H.length with h1|h1
  ·exact h1
  ·rw[lb h1]at h;cases h
 rw[gE hp,h]
set_option maxHeartbeats 1000000 in
theorem anU (T:lN aa)(H:Heap):bZ aa (.fn 75 [] []) [] H=some (.map H.length,H++[.map sC],H.length):=by
 have key:=afX (aa:=aa) (b:=8) (n:=6) (i:=7) (t:=13) (blk:=1) (ex:=0) (body:=O1)
  (I:=fun k st=>st.H=H++[.map (zE kw k)]/\st.low=H.length/\bk st.av 1=.map H.length/\bk st.av 5=.list 1 (kw.map .str)/\bk st.av 7=.int .i64 k/\bk st.av 6=.int .i64 (35:Nat))
  (Q:=fun x st=>st.H=H++[.map sC]/\st.low=H.length/\x=.exit 0/\bk st.av 1=.map H.length)
  (N:=35) (by decide) (by decide) (by decide)
  (fun k st h=>⟨h.2.2.2.2.1,h.2.2.2.2.2,by rw[h.1,h.2.1];simp⟩)
  (by
    rintro k st hk ⟨h1,h2,ar,aQ,h5,ft⟩
    obtain⟨w,hn⟩:∃w,kw[k]? =some w:=⟨_,hX (by rw[Wn];exact hk)⟩
    have gY:yD 1 (V.list 1 (kw.map .str))=true:=rfl
    have bj:(el (V.list 1 (kw.map .str)))[k]? =some (.str w):=by simp[el,hn]
    have Zw:aE (V.str w)=[V.str w]:=rfl
    obtain⟨o,ho⟩:=anQ (anR kw k) w
    refine⟨.normal,_,by simp[O1,fZ,fQ,gn,h6,iO,jC,jD,lf,jY,cQ,e3,ly,kG,jq,k2,k3,lA,me,lz,jK,mc,nH,ag.ae,bk,fB,aq.put,dB,kS,kR,dX,eP,dF,bs,bW,fy,hE,finish,old,ez,flat,iT,mA,gN,fY,aE,S.R,S.q,S.k,S.rt,S.gg,S.b0,S.e,S.r,S.o,S.n,S.rg,S.m,S.bF,S.ls,S.c9,S.eq,S.ne,S.lt,S.gt,S.dc,S.no,S.hI,S.st,S.fA,S.gq,S.iG,S.ex,S.c,S.cs,S.h7,S.gI,S.z,S.fn,S.ij,h1,h2,ar,aQ,h5,ft,afW,gY,bj,TZ,step,ho,ui,-List.getElem?_map];rfl,?_⟩
    simp only[true_or,if_true,fB,h1,h2]
    refine⟨by simp[h5],by simp,by simp[anS hn],by simp,by simp[ar],by simp[aQ],by simp,by simp[ft]⟩)
  (by
    rintro st ⟨h1,h2,ar,aQ,h5,ft⟩
    exact⟨by rw[h1,anN],h2,rfl,by simp[fB,ar]⟩)
 obtain⟨x,aF,h1,h2,ar,rfl,aQ⟩:=key 35 0 {aG:=[],av:=[(0,.iw),(1,.map H.length),(5,.list 1 (kw.map .str)),(6,.int .i64 35),(7,.int .i64 0)],H:=H++[.map []],low:=H.length} (by omega)
  ⟨rfl,rfl,rfl,rfl,rfl,rfl⟩
 have hx:=anO T (H++[.map []])
 simp only[HI]at hx
 have hlen:(el (V.list 1 (kw.map .str))).length=35:=by simp[el,Wn]
 have gY:yD 1 (V.list 1 (kw.map .str))=true:=rfl
 rw[mE,T.anD]
 simp[Yg,fZ,fQ,gn,h6,iO,jC,jD,lf,jY,cQ,e3,ly,kG,jq,k2,k3,lA,me,lz,jK,mc,nH,ag.ae,bk,ec,aq.put,dB,kS,kR,dX,eP,dF,bs,bW,fy,hE,finish,old,ez,flat,iT,mA,gN,fY,aE,S.R,S.q,S.k,S.rt,S.gg,S.b0,S.e,S.r,S.o,S.n,S.rg,S.m,S.bF,S.ls,S.c9,S.eq,S.ne,S.lt,S.gt,S.dc,S.no,S.hI,S.st,S.fA,S.gq,S.iG,S.ex,S.c,S.cs,S.h7,S.gI,S.z,S.fn,S.ij,TX,T1 1,gY,hlen,hx,h1,h2,ar,aQ,fB,eG]
set_option maxHeartbeats 1000000 in
theorem Zx (T:lN aa)(s:List UInt8)(H:Heap):bZ aa (.fn 38 [] []) [.str s] H=some (.fn 76 [] [.ptr H.length 0,.ptr (H.length+2) 0],H++[.cells [.str s],.map sC,.cells [.map (H.length+1)]],H.length):=by
 have hk:=anU T (H++[.cells [.str s]])
 simp only[gM,ev,ja,eO,mS,jz,jB]at hk
 rw[mE,T.anE]
 simp[Ye,fZ,fQ,gn,h6,iO,jC,jD,lf,jY,cQ,e3,ly,kG,jq,k2,k3,lA,me,lz,jK,mc,nH,ag.ae,bk,ec,aq.put,dB,kS,kR,dX,eP,dF,bs,bW,fy,hE,finish,old,ez,flat,iT,mA,gN,fY,aE,S.R,S.q,S.k,S.rt,S.gg,S.b0,S.e,S.r,S.o,S.n,S.rg,S.m,S.bF,S.ls,S.c9,S.eq,S.ne,S.lt,S.gt,S.dc,S.no,S.hI,S.st,S.fA,S.gq,S.iG,S.ex,S.c,S.cs,S.h7,S.gI,S.z,S.fn,S.ij,MG,bS,ed,hk,jL,hD,setCells,eG]
end
end Go.Abs.bw
