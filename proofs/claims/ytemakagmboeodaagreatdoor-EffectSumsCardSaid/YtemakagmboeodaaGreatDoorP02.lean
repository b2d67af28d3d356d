/- Texts of this claim, joined and written short by a program. -/
import Derived.Test.YtemakagmboeodaaGreatDoorP01
import Derived.Laws.Cells
import Derived.Laws.CopyRow
import Derived.ChangeKeysEq
import Derived.DefersIn
import Derived.Test.YtemakagmboeodaaGreatDoorP00
set_option linter.unusedVariables false
set_option linter.unusedSimpArgs false
set_option linter.unusedSectionVars false
namespace Go.Abs
open Go
variable{C:Ctx}{fid:Nat->Nat}{w w':World}{G G':bw}{H:Heap}
def b0 (β:Nat->Option Home)(l:Nat)(h:Home):Nat->Option Home:=fun x=>if x=l then some h else β x
theorem cM (β:Nat->Option Home)(l:Nat)(h:Home):b0 β l h l=some h:=by simp[b0]
theorem cZ{β:Nat->Option Home}{l x:Nat}{h:Home}(hx:x≠l):b0 β l h x=β x:=by simp[b0,hx]
theorem aQ.lt (aa:aQ C fid G H w){l:Nat}{h:Home}(hb:G.β l=some h):l<H.length:=by
 obtain⟨o,ho,-⟩:=aa.obj l h hb;rcases fF l H.length with h'|h'
 ·exact h'
 ·simp[k6 h']at ho
theorem aQ.none (aa:aQ C fid G H w){l:Nat}(hl:H.length<=l):G.β l=none:=by
 cases hb:G.β l with
 |none=>rfl
 |some h=>exact absurd (aa.lt hb) (by omega)
theorem alloc_old{o:Obj}{b:Nat}(hb:b<w.heap.size):(w.alloc o).heap[b]? =w.heap[b]? :=by
 show(w.heap.push o)[b]? =_;rw[Array.getElem?_push,if_neg (by omega)]
theorem j4 (w:World)(o:Obj):(w.alloc o).heap[w.heap.size]? =some o:=by
 show(w.heap.push o)[_]? =_;simp
theorem vo{l:Nat}(hn:G.β l=none)(h:Home):jE G.β (b0 G.β l h):=fun x h0 hb=>by
 have:x≠l:=fun e=>by subst e;rw[hn]at hb;cases hb
 exact⟨h0,by rw[cZ this];exact hb,aI _,id,fun _=>⟨rfl,rfl⟩,fun _=>rfl⟩
theorem aQ.hZ (aa:aQ C fid G H w)(h:w'.heap=w.heap):aQ C fid G H w' where
 obj l x hb:=by
  obtain⟨o,ho,hr⟩:=aa.obj l x hb;exact⟨o,ho,hr.mono (.refl _) (fun b hb=>⟨hb,by rw[h]⟩) (by rw[h])⟩
 inj:=aa.inj
 cL l x hb:=by rw[h];exact aa.cL l x hb
 cu b hb:=by rw[h];exact aa.cu b hb
 iq:=aa.iq
 ej b o aT:=by rw[h];exact aa.ej b o aT
theorem Ext.hZ (h:w'.heap=w.heap)(ho:w'.os=w.os)(hp:w'.output=w.output)(m n:Nat):Ext G w G w' m n:=
 ⟨by rw[h];exact aI _,ho,hp,fun _ _ _=>by rw[h],.refl _,fun _ h hb=>.inl ⟨h,hb,.inl rfl⟩,fun _ h=>h,fun _ h=>.inl h⟩
theorem aQ.push (aa:aQ C fid G H w)(o:bd)(aJ:Obj)(tag ef:Nat)
  (ho:gT C fid ⟨b0 G.β H.length ⟨w.heap.size,tag,ef,false⟩,G.I⟩ (w.alloc aJ) ⟨w.heap.size,tag,ef,false⟩ o):
  aQ C fid ⟨b0 G.β H.length ⟨w.heap.size,tag,ef,false⟩,G.I⟩ (H++[o]) (w.alloc aJ):=by
 have hn:=aa.none (aI H.length);have hle:=vo hn ⟨w.heap.size,tag,ef,false⟩;refine⟨fun l h hb=> ?_,fun l eB h h' e e' q=> ?_,fun l h hb=> ?_,fun b hb=> ?_,fun l h hb af=> ?_,fun b o aT=>⟨(aa.ej b o aT).1,by rw[alloc_old (aa.cu b (aa.ej b o aT).1).1];exact(aa.ej b o aT).2⟩⟩
 ·by_cases hl:l=H.length
  ·subst hl
   simp only[cM]at hb;cases hb;exact⟨o,by simp,ho⟩
  ·simp only[cZ hl]at hb
   obtain⟨cC,e',hr⟩:=aa.obj l h hb;have:=aa.lt hb;refine⟨cC,by rw[ft this];exact e',hr.mono (G':=⟨b0 G.β H.length _,G.I⟩) hle (fun b hb=>⟨hb,alloc_old (aa.cu b hb).1⟩) (alloc_old (aa.cL l h hb))⟩
 ·by_cases hl:l=H.length<;>by_cases nk:eB=H.length
  ·rw[hl,nk]
  ·subst hl;simp only[cM]at e;cases e
   simp only[cZ nk]at e';have:=aa.cL eB h' e';simp only at q;omega
  ·subst nk;simp only[cM]at e';cases e'
   simp only[cZ hl]at e;have:=aa.cL l h e;simp only at q;omega
  ·simp only[cZ hl]at e;simp only[cZ nk]at e'
   exact aa.inj l eB h h' e e' q
 ·rw[World.size_alloc]
  by_cases hl:l=H.length
  ·subst hl;simp only[cM]at hb;cases hb;simp
  ·simp only[cZ hl]at hb;have:=aa.cL l h hb;omega
 ·have hi:=aa.cu b hb
  refine⟨by rw[World.size_alloc];omega,fun l h e q=> ?_⟩;by_cases hl:l=H.length
  ·subst hl;simp only[cM]at e;cases e;simp only at q;omega
  ·simp only[cZ hl]at e;exact hi.2 l h e q
 ·by_cases hl:l=H.length
  ·subst hl;simp only[cM]at hb;cases hb;cases af
  ·simp only[cZ hl]at hb;exact aa.iq l h hb af
theorem Ext.push (aa:aQ C fid G H w)(aJ:Obj)(tag ef m:Nat):
  Ext G w ⟨b0 G.β H.length ⟨w.heap.size,tag,ef,false⟩,G.I⟩ (w.alloc aJ) m H.length where
 size:=by simp
 os:=rfl
 output:=rfl
 eg b hb _:=alloc_old hb
 homes:=vo (aa.none (aI _)) _
 kJ l h hb:=by
  by_cases hl:l=H.length
  ·subst hl;simp only[cM]at hb;cases hb;exact .inr ⟨aI _,aI _⟩
  ·simp only[cZ hl]at hb;exact .inl ⟨h,hb,.inl rfl⟩
 cu _ h:=h
 lb _ h:=.inl h
theorem aQ.write (aa:aQ C fid G H w){l:Nat}{h h':Home}(hb:G.β l=some h)(af:h.fz=false)(eN:h'.b=h.b)(D1:h'.fz=false)
  (eD:h.tag<=h'.tag) (aP:h.tag=0->h'.tag=0) (en:h'.ef=h.ef) (hs:w'.heap.size=w.heap.size)
  (rG:∀b,b≠h.b->w'.heap[b]? =w.heap[b]?) (o:bd) (ho:gT C fid ⟨b0 G.β l h',G.I⟩ w' h' o):
  aQ C fid ⟨b0 G.β l h',G.I⟩ (H.set l o) w':=by
 have aY:=aa.lt hb;have D2:∀b,G.I b->b≠h.b:=fun b hi e=>by have:=(aa.cu b hi).2 l h hb e.symm;rw[af]at this;cases this
 have hle:jE G.β (b0 G.β l h'):=fun x h0 e=>by
  by_cases hx:x=l
  ·subst hx;rw[hb]at e;cases e
   exact⟨h',cM _ _ _,eD,aP,fun _=>⟨eN,en⟩,fun q=>by rw[af]at q;cases q⟩
  ·exact⟨h0,by rw[cZ hx];exact e,aI _,id,fun _=>⟨rfl,rfl⟩,fun _=>rfl⟩
 refine⟨fun x h0 e=> ?_,fun x y h1 h2 ae ai q=> ?_,fun x h0 e=> ?_,fun b hi=> ?_,fun x h0 e q=> ?_,fun b o aT=>⟨(aa.ej b o aT).1,by rw[rG b (D2 b (aa.ej b o aT).1)];exact(aa.ej b o aT).2⟩⟩
 ·by_cases hx:x=l
  ·subst hx;simp only[cM]at e;cases e
   exact⟨o,by simp[aY],ho⟩
  ·simp only[cZ hx]at e
   obtain⟨cC,e',hr⟩:=aa.obj x h0 e;have bb:h0.b≠h.b:=fun q=>hx (aa.inj x l h0 h e hb q);exact⟨cC,by rw[iL (jn hx)];exact e',hr.mono (G':=⟨b0 G.β l _,G.I⟩) hle (fun b hi=>⟨hi,rG b (D2 b hi)⟩) (rG _ bb)⟩
 ·by_cases hx:x=l<;>by_cases hy:y=l
  ·rw[hx,hy]
  ·subst hx;simp only[cM]at ae;cases ae;simp only[cZ hy]at ai
   exact aa.inj x y h h2 hb ai (eN ▸ q)
  ·subst hy;simp only[cM]at ai;cases ai;simp only[cZ hx]at ae
   exact aa.inj x y h1 h ae hb (eN ▸ q)
  ·simp only[cZ hx]at ae;simp only[cZ hy]at ai
   exact aa.inj x y h1 h2 ae ai q
 ·rw[hs]
  by_cases hx:x=l
  ·subst hx;simp only[cM]at e;cases e;rw[eN];exact aa.cL x h hb
  ·simp only[cZ hx]at e;exact aa.cL x h0 e
 ·refine⟨by rw[hs];exact(aa.cu b hi).1,fun x h0 e q=> ?_⟩
  by_cases hx:x=l
  ·subst hx;simp only[cM]at e;cases e
   exact absurd (q.symm.trans eN) (D2 b hi)
  ·simp only[cZ hx]at e;exact(aa.cu b hi).2 x h0 e q
 ·by_cases hx:x=l
  ·subst hx;simp only[cM]at e;cases e;rw[D1]at q;cases q
  ·simp only[cZ hx]at e;exact aa.iq x h0 e q
theorem Ext.write (_hR:aQ C fid G H w){l:Nat}{h h':Home}(hb:G.β l=some h)(af:h.fz=false)(eN:h'.b=h.b)
  (eD:h.tag<=h'.tag) (aP:h.tag=0->h'.tag=0) (en:h'.ef=h.ef) (hs:w'.heap.size=w.heap.size)
  (rG:∀b,b≠h.b->w'.heap[b]? =w.heap[b]?) (vp:w'.os=w.os) (hp:w'.output=w.output):
  Ext G w ⟨b0 G.β l h',G.I⟩ w' l H.length where
 size:=by rw[hs];exact aI _
 os:=vp
 output:=hp
 eg b _ k:=rG b fun e=>by
  rcases k l h hb e.symm with q|q
  ·rw[af]at q;cases q
  ·omega
 homes x h0 e:=by
  by_cases hx:x=l
  ·subst hx;rw[hb]at e;cases e
   exact⟨h',cM _ _ _,eD,aP,fun _=>⟨eN,en⟩,fun q=>by rw[af]at q;cases q⟩
  ·exact⟨h0,by simp only[cZ hx];exact e,aI _,id,fun _=>⟨rfl,rfl⟩,fun _=>rfl⟩
 kJ x h0 e:=by
  by_cases hx:x=l
  ·subst hx;simp only[cM]at e;cases e;exact .inl ⟨h,hb,.inl eN.symm⟩
  ·simp only[cZ hx]at e;exact .inl ⟨h0,e,.inl rfl⟩
 cu _ h:=h
 lb _ h:=.inl h
theorem aQ.move (aa:aQ C fid G H w){l:Nat}{h:Home}(hb:G.β l=some h)(af:h.fz=false)(aJ:Obj)(tag ef:Nat)(eD:h.tag<tag)(aP:h.tag≠0)
  (o:bd) (ho:gT C fid ⟨b0 G.β l ⟨w.heap.size,tag,ef,false⟩,G.I⟩ (w.alloc aJ) ⟨w.heap.size,tag,ef,false⟩ o):
  aQ C fid ⟨b0 G.β l ⟨w.heap.size,tag,ef,false⟩,G.I⟩ (H.set l o) (w.alloc aJ)/\Ext G w ⟨b0 G.β l ⟨w.heap.size,tag,ef,false⟩,G.I⟩ (w.alloc aJ) l H.length:=by
 have aY:=aa.lt hb
 have hle:jE G.β (b0 G.β l ⟨w.heap.size,tag,ef,false⟩):=fun x h0 e=>by
  by_cases hx:x=l
  ·subst hx;rw[hb]at e;cases e
   exact⟨_,cM _ _ _,sM eD,fun q=>absurd q aP,fun q=>by simp only at q;omega,fun q=>by rw[af]at q;cases q⟩
  ·exact⟨h0,by rw[cZ hx];exact e,aI _,id,fun _=>⟨rfl,rfl⟩,fun _=>rfl⟩
 refine⟨⟨fun x h0 e=> ?_,fun x y h1 h2 ae ai q=> ?_,fun x h0 e=> ?_,fun b hi=> ?_,fun x h0 e q=> ?_,fun b o aT=>⟨(aa.ej b o aT).1,by rw[alloc_old (aa.cu b (aa.ej b o aT).1).1];exact(aa.ej b o aT).2⟩⟩,⟨by simp,rfl,rfl,fun b eN _=>alloc_old eN,hle,fun x h0 e=> ?_,fun _ h=>h,fun _ h=>.inl h⟩⟩
 ·by_cases hx:x=l
  ·subst hx;simp only[cM]at e;cases e
   exact⟨o,by simp[aY],ho⟩
  ·simp only[cZ hx]at e
   obtain⟨cC,e',hr⟩:=aa.obj x h0 e;exact⟨cC,by rw[iL (jn hx)];exact e',hr.mono (G':=⟨b0 G.β l _,G.I⟩) hle (fun b hi=>⟨hi,alloc_old (aa.cu b hi).1⟩) (alloc_old (aa.cL x h0 e))⟩
 ·by_cases hx:x=l<;>by_cases hy:y=l
  ·rw[hx,hy]
  ·subst hx;simp only[cM]at ae;cases ae;simp only[cZ hy]at ai
   have:=aa.cL y h2 ai;simp only at q;omega
  ·subst hy;simp only[cM]at ai;cases ai;simp only[cZ hx]at ae
   have:=aa.cL x h1 ae;simp only at q;omega
  ·simp only[cZ hx]at ae;simp only[cZ hy]at ai
   exact aa.inj x y h1 h2 ae ai q
 ·rw[World.size_alloc]
  by_cases hx:x=l
  ·subst hx;simp only[cM]at e;cases e;simp
  ·simp only[cZ hx]at e;have:=aa.cL x h0 e;omega
 ·refine⟨by rw[World.size_alloc];have:=(aa.cu b hi).1;omega,fun x h0 e q=> ?_⟩
  by_cases hx:x=l
  ·subst hx;simp only[cM]at e;cases e
   have:=(aa.cu b hi).1;simp only at q;omega
  ·simp only[cZ hx]at e;exact(aa.cu b hi).2 x h0 e q
 ·by_cases hx:x=l
  ·subst hx;simp only[cM]at e;cases e;cases q
  ·simp only[cZ hx]at e;exact aa.iq x h0 e q
 ·by_cases hx:x=l
  ·subst hx;simp only[cM]at e;cases e;exact .inl ⟨h,hb,.inr (aI _)⟩
  ·simp only[cZ hx]at e;exact .inl ⟨h0,e,.inl rfl⟩
theorem tq{es:Nat}:∀{ds:List V},(∀d∈ds,(aL d).length=es)->∀(n:Nat),(ds.drop n).flatMap aL=(ds.flatMap aL).drop (n*es)
 |ds,_,0=>by simp
 |[],_,n+1=>by simp
 |d::ds,h,n+1=>by
  have h1:=h d (by simp);rw[List.drop_succ_cons,tq (fun x hx=>h x (by simp[hx])) n,j0,xo,Nat.add_comm,<-u9];congr 1;rw[List.drop_left' h1]
theorem vq{es:Nat}:∀{ds:List V},(∀d∈ds,(aL d).length=es)->∀(n:Nat),(ds.take n).flatMap aL=(ds.flatMap aL).take (n*es)
 |ds,_,0=>by simp
 |[],_,n+1=>by simp
 |d::ds,h,n+1=>by
  have h1:=h d (by simp);rw[List.take_succ_cons,j0,vq (fun x hx=>h x (by simp[hx])) n,j0,xo,List.take_append,h1,CV (l:=aL d) (by rw[h1];exact Nat.le_add_left _ _),Nat.add_sub_cancel]
theorem j5{es:Nat}:∀{ds:List V},(∀d∈ds,(aL d).length=es)->(ds.flatMap aL).length=ds.length*es
 |[],_=>by simp
 |d::ds,h=>by
  rw[j0,fO,j5 (fun x hx=>h x (by simp[hx])),h d (by simp),iN,xo,Nat.add_comm]
theorem vr:∀(a b:List V),cB (a++b)=(cB a&&cB b)
 |[],b=>by simp[cB]
 |v::a,b=>by simp[cB,vr a b,zY]
theorem UL (v:V)(h:bS v=true):cB (aL v)=true:=by
 cases v<;>simp_all [aL,cB,bS]
theorem Ar:∀{ds:List V},cB ds=true->cB (ds.flatMap aL)=true
 |[],_=>by simp[cB]
 |d::ds,h=>by
  simp only[cB,cH]at h;rw[j0,vr,UL d h.1,Ar h.2];rfl
theorem JO:∀{ds:List V},cB ds=true->(∀n,cB (ds.drop n)=true)/\∀n,cB (ds.take n)=true:=by
 intro ds h;constructor
 ·intro n
  have:cB (ds.take n++ds.drop n)=true:=by rw[CX];exact h
  rw[vr,cH]at this;exact this.2
 ·intro n
  have:cB (ds.take n++ds.drop n)=true:=by rw[CX];exact h
  rw[vr,cH]at this;exact this.1
theorem JP{b o:Nat}{c:Array Value}{e:TypeId}{f:Nat × Nat}(h:w.heap[b]? =some (.cells c e f)):w.cell? ⟨b,o,none⟩=c[o]? :=by
 simp[World.cell?,h]
theorem gb.qc{b:Nat}{c:Array Value}{e:TypeId}{f:Nat × Nat}{vals rest:List Value}(h:w.heap[b]? =some (.cells c e f))(hc:c.toList=vals++rest):
  gb w b 0 vals:=by
 intro j x hx
 rw[JP h,dK,<-fN,hc,ft (by
  rcases fF j vals.length with q|q
  ·exact q
  ·simp[k6 q]at hx)]
 exact hx
theorem gb.drop{b o:Nat}{vals:List Value}(h:gb w b o vals)(n:Nat):gb w b (o+n) (vals.drop n):=by
 intro j x hx;rw[C2]at hx;rw[n9];exact h (n+j) x hx
theorem gb.take{b o:Nat}{vals:List Value}(h:gb w b o vals)(n:Nat):gb w b o (vals.take n):=by
 intro j x hx;rw[C3]at hx;split at hx
 ·exact h j x hx
 ·cases hx
theorem D3{l es:Nat}{ds:List V}{h:Home}{fz:Bool}(ho:gT C fid G w h (.row es ds fz))(ch:G.I h.b)(hp:cB ds=true){off len n cap:Nat}{a:Addr}
  (ha:a=⟨h.b,off*es,none⟩/\n=len/\(off+cap)*es<=h.ef/\len<=cap) (hl:off+len<=ds.length):
  ev w G.I (.list es ((ds.drop off).take len)) (.slice (some a) n cap):=by
 obtain⟨-,-,-,-,hu,c,e,vals,rest,hc,-,ad,hr⟩:=ho;obtain⟨rfl,rfl,-,dB⟩:=ha;have vt:=(((gb.qc hc ad).drop (off*es)).take (n*es));have jF:∀d∈ds.drop off,(aL d).length=es:=fun d hd=>hu d (zO hd);have hlen:((ds.drop off).take n).length=n:=by simp;omega
 have key:=ev.list (w:=w) (I:=G.I) es ((ds.drop off).take n) h.b (off*es) cap ((vals.drop (off*es)).take (n*es)) ch (by simpa using vt)
  (fun d hd=>jF d (CY hd)) (by
    rw[vq jF,tq hu];exact((hr.drop _).take _).lZ ((JO ((JO (Ar hp)).1 _)).2 _)) (by rw[hlen];exact dB)
 rwa [hlen]at key
theorem JQ (aa:aQ C fid G H w){l es:Nat}{ds:List V}(hH:H[l]? =some (.row es ds false)){h:Home}(hb:G.β l=some h):
  let G':bw:=⟨b0 G.β l {h with fz:=true},fun b=>G.I b\/b=h.b⟩
  aQ C fid G' (H.set l (.row es ds true)) w/\Ext G w G' w l H.length/\gT C fid G' w {h with fz:=true} (.row es ds true):=by
 intro G';obtain⟨o,ho,hr⟩:=aa.obj l h hb;rw[hH]at ho;cases ho;have af:h.fz=false:=hr.2.2.1
 have hle:jE G.β G'.β:=fun x h0 e=>by
  by_cases hx:x=l
  ·subst hx;rw[hb]at e;cases e
   exact⟨_,cM _ _ _,aI _,id,fun _=>⟨rfl,rfl⟩,fun q=>by rw[af]at q;cases q⟩
  ·exact⟨h0,by show b0 _ _ _ _=_;rw[cZ hx];exact e,aI _,id,fun _=>⟨rfl,rfl⟩,fun _=>rfl⟩
 have JR:∀b,G.I b->G'.I b/\w.heap[b]? =w.heap[b]? :=fun b hi=>⟨.inl hi,rfl⟩
 have hO:gT C fid G' w {h with fz:=true} (.row es ds true):=by
  have:=gT.mono (G':=G') hle JR rfl hr;exact⟨this.1,this.2.1,rfl,this.2.2.2⟩
 refine⟨⟨fun x h0 e=> ?_,fun x y h1 h2 ae ai q=> ?_,fun x h0 e=> ?_,fun b hi=> ?_,fun x h0 e q=> ?_,fun b o aT=>⟨.inl (aa.ej b o aT).1,(aa.ej b o aT).2⟩⟩,⟨aI _,rfl,rfl,fun _ _ _=>rfl,hle,fun x h0 e=> ?_,fun _ h=>.inl h,fun b hi=> ?_⟩,hO⟩
 ·by_cases hx:x=l
  ·subst hx;rw[show G'.β=b0 _ _ _ from rfl,cM]at e;cases e
   exact⟨_,by simp[aa.lt hb],hO⟩
  ·rw[show G'.β=b0 _ _ _ from rfl,cZ hx]at e
   obtain⟨cC,e',cE⟩:=aa.obj x h0 e;exact⟨cC,by rw[iL (jn hx)];exact e',cE.mono hle JR rfl⟩
 ·have JS:∀z aq,G'.β z=some aq->∃bf,G.β z=some bf/\bf.b=aq.b:=fun z aq e=>by
   by_cases aP:z=l
   ·subst aP;rw[show G'.β=b0 _ _ _ from rfl,cM]at e;cases e;exact⟨h,hb,rfl⟩
   ·rw[show G'.β=b0 _ _ _ from rfl,cZ aP]at e;exact⟨aq,e,rfl⟩
  obtain⟨bf,cn,l0⟩:=JS x h1 ae;obtain⟨fe,dG,UM⟩:=JS y h2 ai;exact aa.inj x y bf fe cn dG (l0.trans (q.trans UM.symm))
 ·by_cases hx:x=l
  ·subst hx;rw[show G'.β=b0 _ _ _ from rfl,cM]at e;cases e;exact aa.cL x h hb
  ·rw[show G'.β=b0 _ _ _ from rfl,cZ hx]at e;exact aa.cL x h0 e
 ·rcases hi with hi|rfl
  ·refine⟨(aa.cu b hi).1,fun x h0 e q=> ?_⟩
   by_cases hx:x=l
   ·subst hx;rw[show G'.β=b0 _ _ _ from rfl,cM]at e;cases e;rfl
   ·rw[show G'.β=b0 _ _ _ from rfl,cZ hx]at e;exact(aa.cu b hi).2 x h0 e q
  ·refine⟨aa.cL l h hb,fun x h0 e q=> ?_⟩
   by_cases hx:x=l
   ·subst hx;rw[show G'.β=b0 _ _ _ from rfl,cM]at e;cases e;rfl
   ·rw[show G'.β=b0 _ _ _ from rfl,cZ hx]at e;exact absurd (aa.inj x l h0 h e hb q) hx
 ·by_cases hx:x=l
  ·subst hx;rw[show G'.β=b0 _ _ _ from rfl,cM]at e;cases e;exact .inr rfl
  ·rw[show G'.β=b0 _ _ _ from rfl,cZ hx]at e;exact .inl (aa.iq x h0 e q)
 ·by_cases hx:x=l
  ·subst hx;rw[show G'.β=b0 _ _ _ from rfl,cM]at e;cases e;exact .inl ⟨h,hb,.inl rfl⟩
  ·rw[show G'.β=b0 _ _ _ from rfl,cZ hx]at e;exact .inl ⟨h0,e,.inl rfl⟩
 ·rcases hi with hi|rfl
  ·exact .inl hi
  ·exact .inr (.inr ⟨l,h,hb,rfl⟩)
structure jq (C:Ctx) (fid:Nat->Nat) (G:bw) (H:Heap) (w:World) (low:Nat) (G':bw) (H':Heap) (low':Nat):Prop where
 rel:aQ C fid G' H' w
 ext:∀m,m<=low'->Ext G w G' w m H.length
 low:low'<=low
 len:H'.length=H.length
theorem jq.refl (aa:aQ C fid G H w)(low:Nat):jq C fid G H w low G H low:=⟨aa,fun _ _=>.refl _ _ _ _,aI _,rfl⟩
theorem jq.trans{tr JT:bw}{og JU:Heap}{low ts JV:Nat}(h:jq C fid G H w low tr og ts)(k:jq C fid tr og w ts JT JU JV):jq C fid G H w low JT JU JV:=
 ⟨k.rel,fun m hm=>(h.ext m (cA hm k.low)).trans ((k.ext m hm).le (aI _) (Nat.le_of_eq h.len.symm)),cA k.low h.low,k.len.trans h.len⟩
theorem aQ.swap (aa:aQ C fid G H w){l:Nat}{h:Home}(hb:G.β l=some h){o:bd}(ho:gT C fid G w h o):aQ C fid G (H.set l o) w:=
 ⟨fun x h0 e=>by
  by_cases hx:x=l
  ·subst hx
   rw[hb]at e;cases e;exact⟨o,by simp[aa.lt hb],ho⟩
  ·obtain⟨cC,e',cE⟩:=aa.obj x h0 e
   exact⟨cC,by rw[iL (jn hx)];exact e',cE⟩,aa.inj,aa.cL,aa.cu,aa.iq,aa.ej⟩
theorem aZ.xF{vs:List V}{x:Value}(h:aZ fid G w (.agg vs) x):∃vals,x=.agg ⟨vals⟩/\aW fid G w vs vals:=by
 cases h with
 |p _ _ h=>cases h with|agg _ vals hr=>exact⟨vals,rfl,hr.la⟩
 |agg _ vals hr=>exact⟨vals,rfl,hr⟩
theorem aZ.D4{vs:List V}{x:Value}(h:aZ fid G w (.aR vs) x):∃vals,x=.tuple ⟨vals⟩/\aW fid G w vs vals:=by
 cases h with
 |p _ _ h=>cases h with|aR _ vals hr=>exact⟨vals,rfl,hr.la⟩
 |aR _ vals hr=>exact⟨vals,rfl,hr⟩
structure xG (C:Ctx) (fid:Nat->Nat) (w:World) (f:Heap->Nat->V->Option (V × Heap × Nat)):Prop where
 ok:∀{G:bw} {H H':Heap} {low low':Nat} {v v':V} {x:Value},aQ C fid G H w->aZ fid G w v x->f H low v=some (v',H',low')->∃G',jq C fid G H w low G' H' low'/\aZ fid G' w v' x
structure As (C:Ctx) (fid:Nat->Nat) (w:World) (f:Heap->Nat->V->Option (V × Heap × Nat)):Prop where
 ok:∀{G:bw} {H H':Heap} {low low':Nat} {v v':V} {cq:List Value},aQ C fid G H w->aW fid G w (aL v) cq->f H low v=some (v',H',low')->
  ∃G',jq C fid G H w low G' H' low'/\aW fid G' w (aL v') cq/\(aL v').length=(aL v).length
theorem Au{f:Heap->Nat->V->Option (V × Heap × Nat)}(af:xG C fid w f):∀{vs vs':List V} {xs:List Value} {G:bw} {H H':Heap} {low low':Nat},aQ C fid G H w->aW fid G w vs xs->
  il f H low vs=some (vs',H',low')->∃G',jq C fid G H w low G' H' low'/\aW fid G' w vs' xs
 |[],_,_,G,H,H',low,low',aa,.nil,he=>by
  simp only[il,ay,a6]at he;obtain⟨rfl,rfl,rfl⟩:=he;exact⟨G,.refl aa _,.nil⟩
 |v::r,_,_,G,H,H',low,low',aa,.cons _ x _ xs ad hs,he=>by
  simp only[il]at he;split at he
  ·rename_i v1 H1 bm h1
   split at he
   ·rename_i cc cT eH h2
    simp only[ay,a6]at he;obtain⟨rfl,rfl,rfl⟩:=he;obtain⟨az,f1,bM⟩:=af.ok aa ad h1;obtain⟨a7,f2,dC⟩:=Au af f1.rel (hs.ext aa (f1.ext 0 (ct _))) h2;exact⟨a7,f1.trans f2,.cons _ _ _ _ (bM.ext f1.rel (f2.ext 0 (ct _))) dC⟩
   ·cases he
  ·cases he
theorem JW{f:Heap->Nat->V->Option (V × Heap × Nat)}(af:As C fid w f):∀{vs vs':List V} {xs:List Value} {G:bw} {H H':Heap} {low low':Nat},aQ C fid G H w->aW fid G w (vs.flatMap aL) xs->
  il f H low vs=some (vs',H',low')->
  ∃G',jq C fid G H w low G' H' low'/\aW fid G' w (vs'.flatMap aL) xs/\vs'.length=vs.length/\∀es,(∀d∈vs,(aL d).length=es)->∀d∈vs',(aL d).length=es
 |[],_,_,G,H,H',low,low',aa,h,he=>by
  simp only[il,ay,a6]at he;obtain⟨rfl,rfl,rfl⟩:=he;exact⟨G,.refl aa _,h,rfl,fun _ h=>h⟩
 |v::r,_,xs,G,H,H',low,low',aa,h,he=>by
  simp only[il]at he;split at he
  ·rename_i v1 H1 bm h1
   split at he
   ·rename_i cc cT eH h2
    simp only[ay,a6]at he;obtain⟨rfl,rfl,rfl⟩:=he;rw[j0]at h;obtain⟨bX,cq,rfl,hy,aP⟩:=h.split;obtain⟨az,f1,bM,dH⟩:=af.ok aa hy h1;obtain⟨a7,f2,dC,rH,iu⟩:=JW af f1.rel (aP.ext aa (f1.ext 0 (ct _))) h2;refine⟨a7,f1.trans f2,?_,by simp[rH],fun es hu d hd=> ?_⟩
    ·rw[j0];exact(bM.ext f1.rel (f2.ext 0 (ct _))).append dC
    ·rcases cY.1 hd with rfl|hd
     ·rw[dH];exact hu v (by simp)
     ·exact iu es (fun d hd=>hu d (by simp[hd])) d hd
   ·cases he
  ·cases he
theorem As.of{f:Heap->Nat->V->Option (V × Heap × Nat)}(ad:xG C fid w f)
  (jG:∀{H H':Heap} {low low':Nat} {v v':V},f H low v=some (v',H',low')->(∀vs,v≠ .agg vs)->aL v'=[v'])
  (D5:∀{G:bw} {H H':Heap} {low low':Nat} {vs:List V} {v':V} {cq:List Value},aQ C fid G H w->aW fid G w vs cq->f H low (.agg vs)=some (v',H',low')->
    ∃G' vs',v'=.agg vs'/\jq C fid G H w low G' H' low'/\aW fid G' w vs' cq):As C fid w f:=by
 refine⟨fun {G H H' low low' v v' cq} aa h he=> ?_⟩;by_cases ha:∃vs,v=.agg vs
 ·obtain⟨vs,rfl⟩:=ha
  obtain⟨G',vs',rfl,f1,bM⟩:=D5 aa h he;exact⟨G',f1,bM,by have:=bM.length;have:=h.length;simp only[aL]at *; omega⟩
 ·have qd:∀vs,v≠ .agg vs:=fun vs e=>ha ⟨vs,e⟩
  have e:aL v=[v]:=by cases v<;>first|rfl|(exfalso;exact qd _ rfl)
  rw[e]at h;cases h with
  |cons _ x _ xs h hs=>
   cases hs;obtain⟨az,f1,bM⟩:=ad.ok aa h he;rw[jG he qd,e];exact⟨az,f1,.cons _ _ _ _ bM .nil,rfl⟩
theorem UN{l es off len tag n cap:Nat}{a:Addr}{h:Home}{ds ds':List V}{low:Nat}{c:Array Value}{e:TypeId}{vals rest:List Value}(ht:ds.length=tag)(hle:off+len<=ds.length)
  {tr:bw} {og:Heap} {ts:Nat} {JX:List V} (hb:G.β l=some h) (eD:h.tag=tag) (ha:a=⟨h.b,off*es,none⟩/\n=len/\(off+cap)*es<=h.ef/\len<=cap)
  (iT:0<ds.length) (dT:0<es) (hc:w.heap[h.b]? =some (.cells c e (0,0))) (du:h.ef=c.size) (gd:c.toList=vals++rest)
  (nn:aW fid tr w (ds'.flatMap aL) vals) (hlen:ds'.length=ds.length)
  (lf:∀d∈ds',(aL d).length=es) (af:jq C fid G H w low tr og ts)
  (D6:og[l]? =some (.row es JX false)) (UO:JX.length=tag) (hp:cB ds'=true):
  ∃G',jq C fid G H w low G' (og.set l (.row es ds' true)) (min ts l)/\aZ fid G' w (.list es ((ds'.drop off).take len)) (.slice (some a) n cap):=by
 obtain⟨h',eN,t1,-,m1,-⟩:=(af.ext 0 (ct _)).homes l h hb;obtain⟨cC,gU,cE⟩:=af.rel.obj l h' eN;rw[D6]at gU;cases gU;have JY:h'.tag=h.tag:=by rw[cE.1,UO,eD]
 obtain⟨eb,D7⟩:=m1 JY
 have hO:gT C fid tr w h' (.row es ds' false):=
  ⟨by rw[JY,eD,<-ht,hlen],by omega,cE.2.2.1,dT,lf,c,e,vals,rest,by rw[eb];exact hc,by rw[D7];exact du,gd,nn⟩
 have UP:=af.rel.swap eN hO
 have aY:l<og.length:=by
  rcases fF l og.length with q|q
  ·exact q
  ·rw[k6 q]at D6;cases D6
 have UQ:(og.set l (.row es ds' false))[l]? =some (.row es ds' false):=by simp[aY]
 obtain⟨h1,h2,aq⟩:=JQ UP UQ eN;rw[List.set_set]at h1
 have fz:jq C fid tr og w ts _ (og.set l (.row es ds' true)) (min ts l):=
  ⟨h1,fun m hm=>h2.le (cA hm (mn _ _)) (by simp),ig _ _,by simp⟩
 refine⟨_,af.trans fz,.p _ _ (D3 (l:=l) aq (.inr rfl) hp ?_ (by rw[hlen];exact hle))⟩;show a=⟨h'.b,off*es,none⟩/\n=len/\(off+cap)*es<=h'.ef/\len<=cap;rw[eb,D7];exact ha
theorem D8:∀(n:Nat),xG C fid w (ea n)/\As C fid w (ea n)
 |0=>by
  have ad:xG C fid w (ea 0):=by
   refine⟨fun {G H H' low low' v v' x} aa h he=> ?_⟩;simp only[ea]at he;split at he
   ·simp only[ay,a6]at he
    obtain⟨rfl,rfl,rfl⟩:=he;exact⟨G,.refl aa _,h⟩
   ·cases he
  refine⟨ad,.of ad (fun {H H' low low' v v'} he qd=> ?_) (fun {G H H' low low' vs v' cq} aa h he=> ?_)⟩
  ·simp only[ea]at he
   split at he
   ·simp only[ay,a6]at he
    obtain⟨rfl,-,-⟩:=he;cases v<;>first|rfl|(exfalso;exact qd _ rfl)
   ·cases he
  ·simp only[ea]at he
   split at he
   ·simp only[ay,a6]at he
    obtain⟨rfl,rfl,rfl⟩:=he;exact⟨G,vs,rfl,.refl aa _,h⟩
   ·cases he
 |n+1=>by
  obtain⟨D9,UR⟩:=D8 n
  have ad:xG C fid w (ea (n+1)):=by
   refine⟨fun {G H H' low low' v v' x} aa h he=> ?_⟩;simp only[ea]at he;split at he
   ·simp only[ay,a6]at he
    obtain⟨rfl,rfl,rfl⟩:=he;exact⟨G,.refl aa _,h⟩
   ·split at he
    ·rename_i vs
     split at he
     ·rename_i vs' H1 bm h1
      simp only[ay,a6]at he;obtain⟨rfl,rfl,rfl⟩:=he;obtain⟨vals,rfl,hr⟩:=h.xF;obtain⟨az,f1,bM⟩:=Au D9 aa hr h1;exact⟨az,f1,.agg _ _ bM⟩
     ·cases he
    ·rename_i vs
     split at he
     ·rename_i vs' H1 bm h1
      simp only[ay,a6]at he;obtain⟨rfl,rfl,rfl⟩:=he;obtain⟨vals,rfl,hr⟩:=h.D4;obtain⟨az,f1,bM⟩:=Au D9 aa hr h1;exact⟨az,f1,.aR _ _ bM⟩
     ·cases he
    ·rename_i l es off len tag _
     split at he
     ·rename_i bG ds fz hl
      split at he
      ·rename_i hc
       obtain⟨rfl,ht,hle⟩:=hc;split at he
       ·rename_i hp
        simp only[ay,a6]at he;obtain⟨rfl,rfl,rfl⟩:=he;cases h with
        |p _ _ h=>cases h
        |aN _ _ _ _ _ h a n cap hb US ha=>
         obtain⟨o,ho,hr⟩:=aa.obj l h hb;rw[hl]at ho;cases ho;have eD:h.tag=tag:=hr.1.trans ht;cases fz with
         |true=>
          exact⟨G,.refl aa _,.p _ _ (D3 (l:=l) hr (aa.iq l h hb hr.2.2.1) hp (ha eD) hle)⟩
         |false=>
          obtain⟨h1,h2,aq⟩:=JQ aa hl hb;exact⟨_,⟨h1,fun m hm=>h2.le (cA hm (mn _ _)) (aI _),ig _ _,by simp⟩,.p _ _ (D3 (l:=l) aq (.inr rfl) hp (ha eD) hle)⟩
       ·split at he
        ·rename_i ds' H1 bm h1
         split at he
         ·rename_i IZ sV UT
          split at he
          ·rename_i vu
           obtain⟨rfl,oh,hp⟩:=vu;simp only[ay,a6]at he;obtain⟨rfl,rfl,rfl⟩:=he;cases h with
           |p _ _ h=>cases h
           |aN _ _ _ _ _ h a n cap hb US ha=>
            obtain⟨o,ho,hr⟩:=aa.obj l h hb;rw[hl]at ho;cases ho;have eD:h.tag=tag:=hr.1.trans ht;obtain⟨-,iT,-,dT,hu,c,e,vals,rest,hc,du,gd,dU⟩:=hr;obtain⟨az,f1,bM,dH,gf⟩:=JW UR aa dU h1;exact UN ht hle hb eD (ha eD) iT dT hc du gd bM dH (gf _ hu) f1 UT oh hp
          ·cases he
         ·cases he
        ·cases he
      ·cases he
     ·cases he
    ·simp only[ay,a6]at he
     obtain⟨rfl,rfl,rfl⟩:=he;exact⟨G,.refl aa _,h⟩
  refine⟨ad,.of ad (fun {H H' low low' v v'} he qd=> ?_) (fun {G H H' low low' vs v' cq} aa h he=> ?_)⟩
  ·simp only[ea]at he
   repeat' split at he
   all_goals first
    |cases he;done
    |(simp only[ay,a6]at he;obtain⟨rfl,-,-⟩:=he;first|rfl|(exfalso;exact qd _ rfl)|(cases v<;>first|rfl|(exfalso;exact qd _ rfl)))
  ·simp only[ea]at he
   split at he
   ·simp only[ay,a6]at he
    obtain⟨rfl,rfl,rfl⟩:=he;exact⟨G,vs,rfl,.refl aa _,h⟩
   ·split at he
    ·rename_i vs' H1 bm h1
     simp only[ay,a6]at he;obtain⟨rfl,rfl,rfl⟩:=he;obtain⟨az,f1,bM⟩:=Au D9 aa h h1;exact⟨az,vs',rfl,f1,bM⟩
    ·cases he
theorem Av (aa:aQ C fid G H w){low low':Nat}{v v':V}{x:Value}{H':Heap}(ad:aZ fid G w v x)(he:hR H low v=some (v',H',low')):
 ∃G',jq C fid G H w low G' H' low'/\aZ fid G' w v' x:=(D8 16).1.ok aa ad he
theorem UU (aa:aQ C fid G H w){low low':Nat}{v v':V}{cq:List Value}{H':Heap}(ad:aW fid G w (aL v) cq)(he:hR H low v=some (v',H',low')):
 ∃G',jq C fid G H w low G' H' low'/\aW fid G' w (aL v') cq/\(aL v').length=(aL v).length:=(D8 16).2.ok aa ad he
theorem Ea:∀{vs vs':List V} {xs:List Value} {G:bw} {H H':Heap} {low low':Nat},aQ C fid G H w->aW fid G w vs xs->eL H low vs=some (vs',H',low')->
  ∃G',jq C fid G H w low G' H' low'/\aW fid G' w vs' xs
 |[],_,_,G,H,H',low,low',aa,.nil,he=>by
  simp only[eL,ay,a6]at he;obtain⟨rfl,rfl,rfl⟩:=he;exact⟨G,.refl aa _,.nil⟩
 |v::r,_,_,G,H,H',low,low',aa,.cons _ x _ xs ad hs,he=>by
  simp only[eL]at he;split at he
  ·rename_i v1 H1 bm h1
   split at he
   ·rename_i cc cT eH h2
    simp only[ay,a6]at he;obtain⟨rfl,rfl,rfl⟩:=he;obtain⟨az,f1,bM⟩:=Av aa ad h1;obtain⟨a7,f2,dC⟩:=Ea f1.rel (hs.ext aa (f1.ext 0 (ct _))) h2;exact⟨a7,f1.trans f2,.cons _ _ _ _ (bM.ext f1.rel (f2.ext 0 (ct _))) dC⟩
   ·cases he
  ·cases he
end Go.Abs
namespace Go.Abs
open Go
variable{C:Ctx}{fid:Nat->Nat}{w w':World}{G G':bw}{H:Heap}
def Aw (P:Program)(d:Deferred):Prop:=
 ∃fv cap f args,d.target=.fn fv cap/\∀w,(invoke d.target d.args).run P w=.ok (.enter f args) w/\
  CallsDIn Fence.wide 0 P f args .returning w fun e u' w'=>(∃v,e=.returned v)/\u'=.returning/\w'=w
structure eh (C:Ctx) (fid:Nat->Nat):Prop where
 f:∀f i,C.Ae f=some i->i=f
 UW:∀i,i∈C.ve->∀caps:Array Value,Aw C.P {target:=.fn (.func i) caps,args:= #[]}
mutual
theorem xH{I:Nat->Prop}:∀(x:Value) {v:V},j1 x=some v->v=.undef\/ev w I v x
 | .bool b,v,h=>by simp only[j1,ay]at h;subst h;exact .inr (.bool b)
 | .int k n,v,h=>by simp only[j1,ay]at h;subst h;exact .inr (.int k n)
 | .string ⟨⟨s⟩⟩,v,h=>by simp only[j1,ay]at h;subst h;exact .inr (.str s)
 | .pointer none,v,h=>by simp only[j1,ay]at h;subst h;exact .inr .gy
 | .slice none 0 0,v,h=>by simp only[j1,ay]at h;subst h;exact .inr .ak
 | .map none,v,h=>by simp only[j1,ay]at h;subst h;exact .inr .hQ
 | .nilFunc,v,h=>by simp only[j1,ay]at h;subst h;exact .inr .ik
 | .nilIface,v,h=>by simp only[j1,ay]at h;subst h;exact .inr .gP
 | .agg ⟨vs⟩,v,h=>by
   simp only[j1,bW]at h;obtain⟨us,hu,rfl⟩:=h;exact .inr (.agg us vs (xI vs hu))
 | .tuple ⟨[]⟩,v,h=>by simp only[j1,ay]at h;subst h;exact .inl rfl
 | .tuple ⟨_::_⟩,v,h=>by simp[j1]at h
 | .slice none (n+1) _,v,h=>by simp[j1]at h
 | .slice none 0 (n+1),v,h=>by simp[j1]at h
 | .pointer (some _),v,h| .slice (some _) _ _,v,h| .map (some _),v,h| .float ..,v,h| .complex ..,v,h| .chan ..,v,h| .func ..,v,h| .iface ..,v,h=>by simp[j1]at h
theorem xI{I:Nat->Prop}:∀(xs:List Value) {vs:List V},vd xs=some vs->cD w I vs xs
 |[],vs,h=>by simp only[vd,ay]at h;subst h;exact .nil
 |x::r,vs,h=>by
  simp only[vd]at h;split at h
  ·rename_i v ad
   split at h
   ·cases h
   ·simp only[bW]at h
    obtain⟨us,hu,rfl⟩:=h;exact .cons v x us r ((xH x ad).resolve_left (by rintro rfl;simp_all [p5])) (xI r hu)
  ·cases h
end
def eo (C:Ctx)(fid:Nat->Nat)(vars:List Nat)(G:bw)(w:World)(ag:ah->V)(ρ:Operand->Value):Prop:=
 ∀x bY,C.bF vars x=some bY->aZ fid G w (ag bY) (ρ x)
def cv (C:Ctx)(fid:Nat->Nat)(G:bw)(H:Heap)(w:World)(UX:Nat)(r:Result Next)(v:V)(H':Heap)(low':Nat):Prop:=
 ∃x w' G',(r=.ok (.value x) w'\/(r=.ok .skip w'/\x=undef))/\aQ C fid G' H' w'/\(∀m,m<=low'->Ext G w G' w' m H.length)/\aZ fid G' w' v x/\low'<=UX/\H.length<=H'.length
theorem cv.same (aa:aQ C fid G H w){low:Nat}{r:Result Next}{v:V}{x:Value}(hr:r=.ok (.value x) w)(ad:aZ fid G w v x):cv C fid G H w low r v H low:=
 ⟨x,w,G,.inl hr,aa,fun _ _=>.refl _ _ _ _,ad,aI _,aI _⟩
theorem cv.alloc (aa:aQ C fid G H w){low:Nat}{r:Result Next}{v:V}{x:Value}{o:bd}{aJ:Obj}(tag ef:Nat)(hr:r=.ok (.value x) (w.alloc aJ))
  (ho:gT C fid ⟨b0 G.β H.length ⟨w.heap.size,tag,ef,false⟩,G.I⟩ (w.alloc aJ) ⟨w.heap.size,tag,ef,false⟩ o)
  (ad:aZ fid ⟨b0 G.β H.length ⟨w.heap.size,tag,ef,false⟩,G.I⟩ (w.alloc aJ) v x):cv C fid G H w low r v (H++[o]) low:=
 ⟨x,_,_,.inl hr,aa.push o aJ tag ef ho,fun m _=>.push aa aJ tag ef m,ad,aI _,by simp⟩
theorem cv.vv{low bm:Nat}{az:bw}{H1:Heap}(f:jq C fid G H w low az H1 bm){r:Result Next}{v:V}{H':Heap}{low':Nat}(h:cv C fid az H1 w bm r v H' low'):
  cv C fid G H w low r v H' low':=by
 obtain⟨x,w',G',hr,aa,he,ad,hl,hn⟩:=h;refine⟨x,w',G',hr,aa,fun m hm=>(f.ext m (cA hm hl)).trans ((he m hm).le (aI _) (Nat.le_of_eq f.len.symm)),ad,cA hl f.low,by have:=f.len;omega⟩
section ops
variable{vars:List Nat}{ag:ah->V}{ρ:Operand->Value}{low low':Nat}{v:V}{H':Heap}{pos:String}{cF:b8}{o:Oper}
theorem Eb (bu:eh C fid){f:FuncId}{bY:ah}(h:C.bF vars (.func f)=some bY){aH ax:Env}:aZ fid G w (bY.ag aH ax) (.func (.func f) #[] #[]):=by
 simp only[Ctx.bF,bW]at h;obtain⟨i,hi,rfl⟩:=h;have e:=bu.f f i hi;subst e;exact aZ.fn (fid:=fid) (G:=G) (w:=w) i [] [] [] [] .nil .nil
theorem aZ.j6{x:Value}{b:Bool}(h:aZ fid G w (.bool b) x):x=.bool b:=by
 cases h with|p _ _ h=>cases h;rfl
theorem aZ.gH{x:Value}{k:IntKind}{n:Int}(h:aZ fid G w (.int k n) x):x=.int k n:=by
 cases h with|p _ _ h=>cases h;rfl
theorem aZ.kK{x:Value}{s:List UInt8}(h:aZ fid G w (.str s) x):x=.string ⟨⟨s⟩⟩:=by
 cases h with|p _ _ h=>cases h;rfl
theorem aZ.mu{x:Value}{l o:Nat}(h:aZ fid G w (.ptr l o) x):∃h,G.β l=some h/\h.tag=0/\x=.pointer (some ⟨h.b,o,none⟩):=by
 cases h with
 |p _ _ h=>cases h
 |ptr _ _ h hb ht=>exact⟨h,hb,ht,rfl⟩
theorem aZ.mapInv{x:Value}{l:Nat}(h:aZ fid G w (.map l) x):∃h,G.β l=some h/\h.tag=0/\x=.map (some h.b):=by
 cases h with
 |p _ _ h=>cases h
 |map _ h hb ht=>exact⟨h,hb,ht,rfl⟩
theorem aZ.xJ{x:Value}{l es i f tag:Nat}(h:aZ fid G w (.fm l es i f tag) x):
  ∃h a,G.β l=some h/\tag<=h.tag/\(h.tag=tag->a=⟨h.b,i*es+f,none⟩)/\x=.pointer (some a):=by
 cases h with
 |p _ _ h=>cases h
 |fm _ _ _ _ _ h a hb hle ha=>exact⟨h,a,hb,hle,ha,rfl⟩
theorem aZ.Ec{x:Value}{vs:List V}{f:Nat}(h:aZ fid G w (.dp vs f) x):
  ∃b o vals,G.I b/\gb w b o vals/\cD w G.I vs vals/\x=.pointer (some ⟨b,o+f,none⟩):=by
 cases h with
 |p _ _ h=>cases h
 |dp _ _ b o vals ch hc hr=>exact⟨b,o,vals,ch,hc,hr,rfl⟩
theorem aZ.kL{x:Value}{l es off len tag:Nat}(h:aZ fid G w (.aN l es off len tag) x):
  ∃h a n cap,G.β l=some h/\tag<=h.tag/\(h.tag=tag->a=⟨h.b,off*es,none⟩/\n=len/\(off+cap)*es<=h.ef/\len<=cap)/\x=.slice (some a) n cap:=by
 cases h with
 |p _ _ h=>cases h
 |aN _ _ _ _ _ h a n cap hb hle ha=>exact⟨h,a,n,cap,hb,hle,ha,rfl⟩
theorem aZ.vw{x:Value}{i:Nat}{fs cs:List V}(h:aZ fid G w (.fn i fs cs) x):
  ∃xs bX,aW fid G w fs xs/\aW fid G w cs bX/\x=.func (.func i) ⟨xs⟩ ⟨bX⟩:=by
 cases h with
 |p _ _ h=>cases h with|fn _ _ _ xs bX af hc=>exact⟨xs,bX,cD.la af,cD.la hc,rfl⟩
 |fn _ _ _ xs bX af hc=>exact⟨xs,bX,af,hc,rfl⟩
theorem aZ.UY{x:Value}{l:Nat}(h:aZ fid G w (.yield l) x):∃h,G.β l=some h/\h.tag=0/\x=.func (.yield h.b) #[] #[]:=by
 cases h with
 |p _ _ h=>cases h
 |yield _ h hb ht=>exact⟨h,hb,ht,rfl⟩
theorem aW.kF{cs:List V}{xs:List Value}(h:aW fid G w cs xs){o:Nat}{sh:Option Nat}{u:V}(hr:Abs.kF cs o sh=some u):
  match sh with
  |none=>∃x,xs[o]? =some x/\aZ fid G w u x
  |some n=>o+n<=xs.length/\aZ fid G w u (.agg ⟨(xs.drop o).take n⟩):=by
 cases sh with
 |none=>exact h.get hr
 |some n=>
  simp only[Abs.kF]at hr;split at hr
  ·rename_i hle
   simp only[ay]at hr;subst hr;exact⟨by rw[h.length];exact hle,.agg _ _ ((h.drop o).take n)⟩
  ·cases hr
theorem JZ{t:TypeId}{sh:Option Nat}(h:C.shapeOf t=some sh):
  (∃n,sh=some n/\(∀w,(isAgg t).run C.P w=.ok true w)/\∀w,(Go.sizeOf t).run C.P w=.ok n w)\/(sh=none/\∀w,(isAgg t).run C.P w=.ok false w):=by
 unfold Ctx.shapeOf at h
 have key:∀d,C.P.underlying t=some d->∀w,(isAgg t).run C.P w=.ok (match d with| .struct _| .array _ _=>true| _=>false) w:=by
  intro d hd w;unfold isAgg;rw[Sem.run_bind,run_underlying hd];cases d<;>rfl
 have kj:∀n,C.sizeOf t=some n->∀w,(Go.sizeOf t).run C.P w=.ok n w:=by
  intro n hn w;simp only[Ctx.sizeOf,bW]at hn;obtain⟨i,hi,rfl⟩:=hn;unfold Go.sizeOf;rw[Sem.run_bind,run_typeInfo (P:=C.P) w hi];rfl
 cases hd:C.P.underlying t with
 |none=>rw[hd]at h;cases h
 |some d=>
  rw[hd]at h;have hk:=key d hd
  cases d<;>simp only[ay,bW]at h<;>
   first
    |exact .inr ⟨h.symm,hk⟩
    |(obtain⟨n,hn,rfl⟩:=h;exact .inl ⟨n,rfl,hk,kj n hn⟩)
theorem Ed{t:TypeId}{sh:Option Nat}(h:C.shapeOf t=some sh){b o:Nat}{cs:List V}{vals:List Value}{f:Nat}(hc:gb w b o vals)(ad:aW fid G w cs vals){u:V}
  (hr:Abs.kF cs f sh=some u):∃x,(loadVar t ⟨b,o+f,none⟩).run C.P w=.ok x w/\aZ fid G w u x:=by
 have hk:=ad.kF hr;rcases JZ h with⟨n,rfl,ha,hs⟩|⟨rfl,ha⟩
 ·obtain⟨hle,hu⟩:=hk
  refine⟨_,?_,hu⟩
  have en:∀(j:Nat) (x:Value),((vals.drop f).take n)[j]? =some x->w.cell? (Addr.add ⟨b,o+f,none⟩ j)=some x:=by
   intro j x hx;rw[Addr.add_lit];rw[C3]at hx;split at hx
   ·rw[C2]at hx;rw[n9];exact hc _ _ hx
   ·cases hx
  have hl:=run_loadCells_list (P:=C.P) w ⟨b,o+f,none⟩ _ en;have hlen:((vals.drop f).take n).length=n:=by simp;omega
  rw[hlen]at hl;unfold loadVar;simp only[Sem.run_bind,ha,hs,Result.andThen_ok,if_true,hl,Sem.run_pure]
 ·obtain⟨x,hx,hu⟩:=hk
  refine⟨x,?_,hu⟩;unfold loadVar;simp only[Sem.run_bind,ha,Result.andThen_ok,ga,if_false,run_load,hc f x hx]
theorem J0 (aa:aQ C fid G H w){t:TypeId}{sh:Option Nat}(h:C.shapeOf t=some sh){a u:V}{x:Value}(ha:aZ fid G w a x)(he:na H sh a=some u):
  ∃y,(Instr.loadAt t x).run C.P w=.ok y w/\aZ fid G w u y:=by
 unfold na at he;split at he
 ·rename_i l o
  obtain⟨h0,hb,ht,rfl⟩:=ha.mu;split at he
  ·rename_i vs hl
   obtain⟨aJ,ho,hr⟩:=aa.obj l h0 hb;rw[hl]at ho;cases ho;obtain⟨-,-,c,e,hc,ad⟩:=hr;obtain⟨y,hy,hu⟩:=Ed (o:=0) h (gb.qc (vals:=c.toList) (rest:=[]) hc (by simp)) ad he;rw[dK]at hy;exact⟨y,by simp only[Instr.loadAt,Instr.sureAddr,Sem.run_bind,Sem.run_pure,Result.andThen_ok,hy],hu⟩
  ·cases he
 ·rename_i l es i f tag
  obtain⟨h0,dd,hb,hle,fQ,rfl⟩:=ha.xJ;split at he
  ·rename_i bG ds fz hl
   split at he
   ·rename_i hc
    obtain⟨rfl,eD⟩:=hc;obtain⟨aJ,ho,hr⟩:=aa.obj l h0 hb;rw[hl]at ho;cases ho;obtain⟨ht,-,-,-,hu,c,e,vals,rest,hc,en,ad,dU⟩:=hr;obtain⟨d,hd,UZ⟩:=sE.1 he;have kM:(aL d).length=bG:=hu d (ml hd)
    have U0:aW fid G w (aL d) ((vals.drop (i*bG)).take bG):=by
     have h1:(ds.drop i).flatMap aL=(ds.flatMap aL).drop (i*bG):=tq hu i
     have h2:ds.drop i=d::ds.drop (i+1):=by
      obtain⟨hi,rfl⟩:=fu.1 hd;exact xh hi
     have aq:=(dU.drop (i*bG)).take bG;rw[<-h1,h2,j0,List.take_append,kM,Nat.sub_self,List.take_zero,lQ,CV (by omega)]at aq;exact aq
    have vt:gb w h0.b (i*bG) ((vals.drop (i*bG)).take bG):=by
     have:=((gb.qc hc ad).drop (i*bG)).take bG;rwa [dK]at this
    obtain⟨y,hy,U1⟩:=Ed h vt U0 UZ;rw[fQ (ht.trans eD)];exact⟨y,by simp only[Instr.loadAt,Instr.sureAddr,Sem.run_bind,Sem.run_pure,Result.andThen_ok,hy],U1⟩
   ·cases he
  ·cases he
 ·rename_i vs f
  obtain⟨b,o,vals,ch,hc,hr,rfl⟩:=ha.Ec;obtain⟨y,hy,hu⟩:=Ed h hc (cD.la (fid:=fid) hr) he;exact⟨y,by simp only[Instr.loadAt,Instr.sureAddr,Sem.run_bind,Sem.run_pure,Result.andThen_ok,hy],hu⟩
 ·cases he
theorem J1{c:V}{x:Value}(h:aZ fid G w c x)(hc:e1 c=true):x.oneCell'=true:=by
 cases h with
 |p _ _ h=>cases h<;>first|rfl|simp[e1]at hc
 |agg=>simp[e1]at hc
 |aR=>simp[e1]at hc
 |undef=>simp[e1]at hc
 | _=>rfl
theorem Ax:∀{cs:List V} {xs:List Value},aW fid G w cs xs->b7 cs=true->∀x∈xs,x.oneCell'=true
 | _,_,.nil,_,x,hx=>by simp at hx
 | _,_,.cons v y vs bX h hs,hc,x,hx=>by
   simp only[b7,cH]at hc;rcases cY.1 hx with rfl|hx
   ·exact J1 h hc.1
   ·exact Ax hs hc.2 x hx
theorem vx{v:V}{y:Value}(h:aZ fid G w v y)(hc:b7 (aL v)=true):aW fid G w (aL v) y.cells.toList/\∀c∈y.cells.toList,c.oneCell'=true:=by
 by_cases ad:∃vs,v=.agg vs
 ·obtain⟨vs,rfl⟩:=ad
  obtain⟨vals,rfl,hr⟩:=h.xF;exact⟨hr,Ax hr hc⟩
 ·have e:aL v=[v]:=by
   cases v<;>first|rfl|(exfalso;exact ad ⟨_,rfl⟩)
  rw[e]at hc⊢;have h1:y.oneCell'=true:=J1 h (by simpa[b7]using hc);have e':y.cells= #[y]:=by cases y<;>first|rfl|simp[Value.oneCell']at h1
  rw[e'];exact⟨.cons _ _ _ _ h .nil,fun c hc=>by simp at hc;subst hc;exact h1⟩
theorem xK:∀{bX:List V} {cq:List Value} {cs:List V} {xs:List Value} (o:Nat),aW fid G w cs xs->aW fid G w bX cq->o+bX.length<=cs.length->
  aW fid G w (setCells cs o bX) (xs.take o++cq++xs.drop (o+cq.length))
 | _,_,cs,xs,o,h,.nil,_=>by simpa[setCells]using h
 | _,_,cs,xs,o,h,.cons y z bX cq hy hs,hl=>by
   have hlen:=h.length;simp only[iN]at hl;have ih:=xK (o+1) (h.set o hy) hs (by simp;omega);simp only[setCells];have e:=list_seg_step xs o z cq (by have:=hs.length;omega);rw[<-iN (a:=z)]at e;rw[<-e];exact ih
theorem J2:∀(bX cs:List V) (o:Nat),(setCells cs o bX).length=cs.length
 |[],cs,o=>rfl
 |y::bX,cs,o=>by rw[setCells,J2 bX];simp
theorem setRow_other{g b:Nat}(hb:b≠g)(c:Array Value):(w.setRow g c).heap[b]? =w.heap[b]? :=by
 unfold World.setRow;simp only[II];rw[if_neg (by omega)]
theorem setRow_size (g:Nat)(c:Array Value):(w.setRow g c).heap.size=w.heap.size:=by
 unfold World.setRow;simp
theorem U2{vs bX:List V}{o:Nat}(bx:b7 bX=true)(fG:o+bX.length<=vs.length){v:V}(h:setCells vs o bX=[.undef,v]):(∃v',vs=[.undef,v'])/\(bX=[]\/1<=o):=by
 match bX,bx,fG,h with
 |[],_,_,h=>exact⟨⟨v,h⟩,.inl rfl⟩
 |[y],bx,fG,h=>
  simp only[setCells]at h
  match o,vs,fG,h with
  |0,a::r,_,h=>
   simp only[C4,Dd]at h;rw[h.1]at bx;simp[b7,e1]at bx
  |1,[a,b],_,h=>
   simp only[IP,C4,Dd]at h;rw[h.1];exact⟨⟨b,rfl⟩,.inr (aI _)⟩
  |1,a::b::c::r,_,h=>simp at h
  |n+2,a::b::c::r,_,h=>simp at h
  |n+2,[a,b],fG,_=>simp at fG
 |y::z::r,bx,fG,h=>
  have hl:∀(xs a:List V) (o:Nat),(setCells a o xs).length=a.length:=by
   intro xs
   induction xs with
   |nil=>intro a o;rfl
   |cons x xs ih=>intro a o;rw[setCells,ih,List.length_set]
  have:=congrArg List.length h;rw[hl]at this;simp only[iN,n3]at this fG;have ho:o=0:=by omega
  have hr:r=[]:=u5.1 (by omega);subst ho hr
  match vs,this,h with
  |[a,b],_,h=>
   simp[setCells]at h;rw[h.1]at bx;simp[b7,e1]at bx
theorem U3 (aa:aQ C fid G H w){l:Nat}{h:Home}{vs bX:List V}(hb:G.β l=some h)(hl:H[l]? =some (.cells vs)){o:Nat}{cq:List Value}(hy:aW fid G w bX cq)
  (bx:b7 bX=true) (fG:o+bX.length<=vs.length) {c:Array Value} {e:TypeId} (hc:w.heap[h.b]? =some (.cells c e (0,0))):
  ∃G',aQ C fid G' (H.set l (.cells (setCells vs o bX))) (w.setRow h.b (c.toList.take o++cq++c.toList.drop (o+cq.length)).toArray)/\
   Ext G w G' (w.setRow h.b (c.toList.take o++cq++c.toList.drop (o+cq.length)).toArray) l H.length:=by
 obtain⟨aJ,ho,hr⟩:=aa.obj l h hb;rw[hl]at ho;cases ho;obtain⟨ht,af,c',e',qe,ad⟩:=hr;rw[hc]at qe;cases qe;refine⟨⟨b0 G.β l h,G.I⟩,?_,?_⟩
 ·refine aQ.write aa hb af rfl af (aI _) id rfl (setRow_size _ _) (fun b bb=>setRow_other bb _) _ ?_
  have fp:xE C (w.setRow h.b (c.toList.take o++cq++c.toList.drop (o+cq.length)).toArray) h.b (setCells vs o bX):=fun v Ee=>by
   obtain⟨⟨v',q1⟩,q2⟩:=U2 bx fG Ee;obtain⟨c1,ae,bM,dC,iv⟩:=ht.2 v' q1;rw[hc]at bM;cases bM;refine⟨_,e,setRow_heap w h.b c _ e _ hc,dC,?_⟩
   have key:(c.toList.take o++cq++c.toList.drop (o+cq.length)).toArray[0]? =c[0]? :=by
    rw[n2,<-fN];rcases q2 with rfl|q2
    ·have:cq=[]:=by have:=hy.length;exact u5.1 (by simpa using this)
     subst this;simp
    ·have ew:=ad.length
     rw[q1]at ew;rw[jl,ft (by rw[sI];simp only[iN,n3]at ew;omega),C3,if_pos (by omega)]
   rw[key];exact iv
  refine⟨⟨ht.1,fp⟩,af,_,e,setRow_heap w h.b c _ e _ hc,?_⟩
  have hx:Ext G w ⟨b0 G.β l h,G.I⟩ (w.setRow h.b (c.toList.take o++cq++c.toList.drop (o+cq.length)).toArray) l H.length:=
   Ext.write aa hb af rfl (aI _) id rfl (setRow_size _ _) (fun b bb=>setRow_other bb _) rfl rfl
  exact((xK o ad hy fG).ext aa hx)
 ·exact Ext.write aa hb af rfl (aI _) id rfl (setRow_size _ _) (fun b bb=>setRow_other bb _) rfl rfl
theorem J3:∀(xs a b:List V) (o:Nat),o+xs.length<=a.length->setCells (a++b) o xs=setCells a o xs++b
 |[],_,_,_,_=>rfl
 |x::xs,a,b,o,h=>by
  simp only[iN]at h;rw[setCells,setCells,zP _ _ (by omega),J3 xs _ b (o+1) (by simp;omega)]
theorem J4:∀(xs a b:List V) (o:Nat),setCells (a++b) (a.length+o) xs=a++setCells b o xs
 |[],_,_,_=>rfl
 |x::xs,a,b,o=>by
  rw[setCells,setCells,List.set_append_right _ _ (by omega),Nat.add_sub_cancel_left,n9,J4 xs a]
theorem Ef{es:Nat}{d':V}{f:Nat}{xs:List V}:∀{ds:List V} {i:Nat} {d:V},(∀d∈ds,(aL d).length=es)->ds[i]? =some d->f+xs.length<=es->aL d'=setCells (aL d) f xs->
  (ds.set i d').flatMap aL=setCells (ds.flatMap aL) (i*es+f) xs
 |[],i,d,_,h,_,_=>by simp at h
 |a::ds,0,d,hu,h,af,he=>by
  simp at h;subst h;have:=hu a (by simp);rw[C4,j0,j0,he,Nat.zero_mul,dK,J3 _ _ _ _ (by omega)]
 |a::ds,i+1,d,hu,h,af,he=>by
  have h1:=hu a (by simp);have ih:=Ef (fun x hx=>hu x (by simp[hx])) (i:=i) (d:=d) (ds:=ds) (by simpa using h) af he;rw[IP,j0,j0,ih,xo,Nat.add_comm (i*es) es,n9,<-h1,J4]
theorem U4{d d':V}{f:Nat}{xs:List V}(h:rj d f xs=some d')(hp:kG xs=true):aL d'=setCells (aL d) f xs/\f+xs.length<=(aL d).length:=by
 unfold rj at h;split at h
 ·split at h
  ·simp only[ay]at h;subst h
   rename_i hle;exact⟨rfl,hle⟩
  ·cases h
 ·rename_i bb
  have e:aL d=[d]:=by cases d<;>first|rfl|(exfalso;exact bb _ rfl)
  split at h
  ·rename_i x
   simp only[ay]at h;subst h;rw[e];refine⟨?_,by simp⟩;simp only[kG,xn]at hp;cases x<;>first|rfl|simp[plainCell]at hp
  ·cases h
theorem Eg:∀{xs:List V},kG xs=true->b7 xs=true
 |[],_=>rfl
 |x::xs,h=>by
  simp only[kG,cH]at h;simp only[b7,cH];exact⟨by cases x<;>simp_all [plainCell,e1],Eg h.2⟩
theorem J5 (aa:aQ C fid G H w){l es:Nat}{ds ds':List V}{h:Home}(hb:G.β l=some h)(hl:H[l]? =some (.row es ds false))(hn:ds'.length=ds.length)
  (jF:∀d∈ds',(aL d).length=es) {o:Nat} {bX:List V} {cq:List Value} (hy:aW fid G w bX cq) (fG:o+bX.length<=ds.length*es)
  (tt:∀vals,aW fid G w (ds.flatMap aL) vals->aW fid G w (ds'.flatMap aL) (vals.take o++cq++vals.drop (o+cq.length))) {c:Array Value} {e:TypeId} (hc:w.heap[h.b]? =some (.cells c e (0,0))):
  ∃G',aQ C fid G' (H.set l (.row es ds' false)) (w.setRow h.b (c.toList.take o++cq++c.toList.drop (o+cq.length)).toArray)/\
   Ext G w G' (w.setRow h.b (c.toList.take o++cq++c.toList.drop (o+cq.length)).toArray) l H.length:=by
 obtain⟨aJ,ho,hr⟩:=aa.obj l h hb;rw[hl]at ho;cases ho;obtain⟨ht,iT,af,dT,hu,c',e',vals,rest,qe,en,ad,dU⟩:=hr;rw[hc]at qe;cases qe
 have hx:Ext G w ⟨b0 G.β l h,G.I⟩ (w.setRow h.b (c.toList.take o++cq++c.toList.drop (o+cq.length)).toArray) l H.length:=
  Ext.write aa hb af rfl (aI _) id rfl (setRow_size _ _) (fun b bb=>setRow_other bb _) rfl rfl
 have hB:=j5 hu;have jH:=dU.length;have vy:=hy.length;refine⟨_,?_,hx⟩;refine aQ.write aa hb af rfl af (aI _) id rfl (setRow_size _ _) (fun b bb=>setRow_other bb _) _ ?_;refine⟨by rw[ht,hn],by omega,af,dT,jF,_,e,vals.take o++cq++vals.drop (o+cq.length),rest,setRow_heap w h.b c _ e _ hc,?_,?_,?_⟩
 ·rw[en]
  simp only[pW,fO,sI,xj,e9];have:c.size=vals.length+rest.length:=by rw[<-e9,ad,fO]
  omega
 ·rw[IM,ad,List.take_append_of_le_length (by omega),List.drop_append_of_le_length (by omega),jl _ _ rest]
 ·exact(tt vals dU).ext aa hx
theorem U5 (aa:aQ C fid G H w){t:TypeId}{n:Nat}(hs:C.sizeOf t=some n){a u:V}{x y:Value}(ha:aZ fid G w a x)(hu:aZ fid G w u y){l:Nat}(he:p6 H n a u=some (H',l)):
  ∃w' G',(Instr.storeAt t x y).run C.P w=.ok () w'/\aQ C fid G' H' w'/\Ext G w G' w' l H.length/\l<H.length/\H'.length=H.length:=by
 have du:∀w,(Go.sizeOf t).run C.P w=.ok n w:=by
  intro w;simp only[Ctx.sizeOf,bW]at hs;obtain⟨i,hi,rfl⟩:=hs;unfold Go.sizeOf;rw[Sem.run_bind,run_typeInfo (P:=C.P) w hi];rfl
 have bR:∀(b o:Nat) (c:Array Value) (e:TypeId),w.heap[b]? =some (.cells c e (0,0))->(aL u).length=n->b7 (aL u)=true->o+n<=c.size->x=.pointer (some ⟨b,o,none⟩)->
   (Instr.storeAt t x y).run C.P w=.ok () (w.setRow b (c.toList.take o++y.cells.toList++c.toList.drop (o+y.cells.toList.length)).toArray):=by
  intro b o c e hc hlen bx hle hx;obtain⟨h1,h2⟩:=vx hu bx;have hl:=h1.length;subst hx;have U6:y.cells.size=n:=by rw[<-e9,hl,hlen]
  simp only[Instr.storeAt,Instr.sureAddr,storeVar,Sem.run_bind,Sem.run_pure,Result.andThen_ok,du,U6,ne_eq,not_true,if_false];have:=run_storeCells_at C.P b o e y.cells.toList 0 c w hc (by omega) h2;simpa using this
 unfold p6 at he;split at he
 ·rename_i eB o
  obtain⟨h0,hb,ht,rfl⟩:=ha.mu;split at he
  ·rename_i vs hl
   split at he
   ·rename_i hc
    obtain⟨hlen,hle,bx⟩:=hc;simp only[ay,a6]at he;obtain⟨rfl,rfl⟩:=he;obtain⟨aJ,ho,hr⟩:=aa.obj eB h0 hb;rw[hl]at ho;cases ho;obtain⟨-,-,c,e,hc,ad⟩:=hr;have jH:=ad.length;obtain⟨h1,h2⟩:=vx hu bx;obtain⟨G',bq,cc⟩:=U3 aa hb hl h1 bx (by rw[hlen];exact hle) hc;exact⟨_,G',bR h0.b o c e hc hlen bx (by rw[<-e9];omega) rfl,bq,cc,aa.lt hb,by simp⟩
   ·cases he
  ·cases he
 ·rename_i eB es i f tag
  obtain⟨h0,dd,hb,l1,fQ,rfl⟩:=ha.xJ;split at he
  ·rename_i bG ds hl
   split at he
   ·rename_i hc
    obtain⟨rfl,eD,hlen,gV⟩:=hc;split at he
    ·rename_i d hd
     split at he
     ·rename_i d' vz
      simp only[ay,a6]at he;obtain⟨rfl,rfl⟩:=he;obtain⟨aJ,ho,hr⟩:=aa.obj eB h0 hb;rw[hl]at ho;cases ho;obtain⟨ht,iT,af,dT,j7,c,e,vals,rest,hc,en,ad,dU⟩:=hr;obtain⟨p1,cN⟩:=U4 vz gV;have kM:(aL d).length=bG:=j7 d (ml hd);have bx:=Eg gV;obtain⟨h1,h2⟩:=vx hu bx
      have hi:i<ds.length:=by
       obtain⟨hi,-⟩:=fu.1 hd;exact hi
      have hmul:i*bG+bG<=ds.length*bG:=by
       have:(i+1)*bG<=ds.length*bG:=CZ _ hi;rw[xo]at this;exact this
      have U7:(aL d').length=bG:=by rw[p1,J2,kM]
      have hB:=j5 j7;have jH:=dU.length;have kN:c.size=vals.length+rest.length:=by rw[<-e9,ad,fO]
      obtain⟨G',bq,cc⟩:=J5 aa hb hl (ds':=ds.set i d') (by simp)
       (fun a ha=>by rcases List.mem_or_eq_of_mem_set ha with q|rfl;exact j7 a q;exact U7) (o:=i*bG+f) h1 (by omega) (fun vals ad=>by rw[Ef j7 hd (by omega) p1];exact xK _ ad h1 (by omega)) hc
      refine⟨_,G',bR h0.b (i*bG+f) c e hc hlen bx (by omega) ?_,bq,cc,aa.lt hb,by simp⟩;rw[fQ (ht.trans eD)]
     ·cases he
    ·cases he
   ·cases he
  ·cases he
 ·cases he
end ops
end Go.Abs
