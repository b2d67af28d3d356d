/- Texts of this claim, joined and written short by a program. -/
import Derived.Test.YtdoflpjbdlgciaaGreatDoorP01
import Derived.Laws.Cells
import Derived.Laws.CopyRow
import Derived.ChangeKeysEq
import Derived.DefersIn
import Derived.Test.YtdoflpjbdlgciaaGreatDoorP00
set_option linter.unusedVariables false
set_option linter.unusedSimpArgs false
set_option linter.unusedSectionVars false
namespace Go.Abs
open Go
variable{C:Ctx}{fid:Nat->Nat}{w w':World}{G G':cc}{H:Heap}
def cA (β:Nat->Option Home)(l:Nat)(h:Home):Nat->Option Home:=fun x=>if x=l then some h else β x
theorem du (β:Nat->Option Home)(l:Nat)(h:Home):cA β l h l=some h:=by simp[cA]
theorem dH{β:Nat->Option Home}{l x:Nat}{h:Home}(hx:x≠l):cA β l h x=β x:=by simp[cA,hx]
theorem bf.lt (aa:bf C fid G H w){l:Nat}{h:Home}(hb:G.β l=some h):l<H.length:=by
 obtain⟨o,ho,-⟩:=aa.obj l h hb;rcases gq l H.length with h'|h'
 ·exact h'
 ·simp[nt h']at ho
theorem bf.none (aa:bf C fid G H w){l:Nat}(hl:H.length<=l):G.β l=none:=by
 cases hb:G.β l with
 |none=>rfl
 |some h=>exact absurd (aa.lt hb) (by omega)
theorem alloc_old{o:Obj}{b:Nat}(hb:b<w.heap.size):(w.alloc o).heap[b]? =w.heap[b]? :=by
 show(w.heap.push o)[b]? =_;rw[Array.getElem?_push,if_neg (by omega)]
theorem ml (w:World)(o:Obj):(w.alloc o).heap[w.heap.size]? =some o:=by
 show(w.heap.push o)[_]? =_;simp
theorem BD{l:Nat}(hn:G.β l=none)(h:Home):mj G.β (cA G.β l h):=fun x h0 hb=>by
 have:x≠l:=fun e=>by subst e;rw[hn]at hb;cases hb
 exact⟨h0,by rw[dH this];exact hb,aM _,id,fun _=>⟨rfl,rfl⟩,fun _=>rfl⟩
theorem bf.jR (aa:bf C fid G H w)(h:w'.heap=w.heap):bf C fid G H w' where
 obj l x hb:=by
  obtain⟨o,ho,hr⟩:=aa.obj l x hb;exact⟨o,ho,hr.mono (.refl _) (fun b hb=>⟨hb,by rw[h]⟩) (by rw[h])⟩
 inj:=aa.inj
 blk l x hb:=by rw[h];exact aa.blk l x hb
 dd b hb:=by rw[h];exact aa.dd b hb
 kX:=aa.kX
 fG b o bx:=by rw[h];exact aa.fG b o bx
theorem Ext.jR (h:w'.heap=w.heap)(ho:w'.os=w.os)(hp:w'.output=w.output)(m n:Nat):Ext G w G w' m n:=
 ⟨by rw[h];exact aM _,ho,hp,fun _ _ _=>by rw[h],.refl _,fun _ h hb=>.inl ⟨h,hb,.inl rfl⟩,fun _ h=>h,fun _ h=>.inl h⟩
theorem bf.push (aa:bf C fid G H w)(o:cD)(a1:Obj)(tag fB:Nat)
  (ho:jQ C fid ⟨cA G.β H.length ⟨w.heap.size,tag,fB,false⟩,G.I⟩ (w.alloc a1) ⟨w.heap.size,tag,fB,false⟩ o):
  bf C fid ⟨cA G.β H.length ⟨w.heap.size,tag,fB,false⟩,G.I⟩ (H++[o]) (w.alloc a1):=by
 have hn:=aa.none (aM H.length);have hle:=BD hn ⟨w.heap.size,tag,fB,false⟩;refine⟨fun l h hb=> ?_,fun l fS h h' e e' q=> ?_,fun l h hb=> ?_,fun b hb=> ?_,fun l h hb ae=> ?_,fun b o bx=>⟨(aa.fG b o bx).1,by rw[alloc_old (aa.dd b (aa.fG b o bx).1).1];exact(aa.fG b o bx).2⟩⟩
 ·by_cases hl:l=H.length
  ·subst hl
   simp only[du]at hb;cases hb;exact⟨o,by simp,ho⟩
  ·simp only[dH hl]at hb
   obtain⟨o',e',hr⟩:=aa.obj l h hb;have:=aa.lt hb;refine⟨o',by rw[gM this];exact e',hr.mono (G':=⟨cA G.β H.length _,G.I⟩) hle (fun b hb=>⟨hb,alloc_old (aa.dd b hb).1⟩) (alloc_old (aa.blk l h hb))⟩
 ·by_cases hl:l=H.length<;>by_cases nb:fS=H.length
  ·rw[hl,nb]
  ·subst hl;simp only[du]at e;cases e
   simp only[dH nb]at e';have:=aa.blk fS h' e';simp only at q;omega
  ·subst nb;simp only[du]at e';cases e'
   simp only[dH hl]at e;have:=aa.blk l h e;simp only at q;omega
  ·simp only[dH hl]at e;simp only[dH nb]at e'
   exact aa.inj l fS h h' e e' q
 ·rw[World.size_alloc]
  by_cases hl:l=H.length
  ·subst hl;simp only[du]at hb;cases hb;simp
  ·simp only[dH hl]at hb;have:=aa.blk l h hb;omega
 ·have hi:=aa.dd b hb
  refine⟨by rw[World.size_alloc];omega,fun l h e q=> ?_⟩;by_cases hl:l=H.length
  ·subst hl;simp only[du]at e;cases e;simp only at q;omega
  ·simp only[dH hl]at e;exact hi.2 l h e q
 ·by_cases hl:l=H.length
  ·subst hl;simp only[du]at hb;cases hb;cases ae
  ·simp only[dH hl]at hb;exact aa.kX l h hb ae
theorem Ext.push (aa:bf C fid G H w)(a1:Obj)(tag fB m:Nat):
  Ext G w ⟨cA G.β H.length ⟨w.heap.size,tag,fB,false⟩,G.I⟩ (w.alloc a1) m H.length where
 size:=by simp
 os:=rfl
 output:=rfl
 ey b hb _:=alloc_old hb
 homes:=BD (aa.none (aM _)) _
 n7 l h hb:=by
  by_cases hl:l=H.length
  ·subst hl;simp only[du]at hb;cases hb;exact .inr ⟨aM _,aM _⟩
  ·simp only[dH hl]at hb;exact .inl ⟨h,hb,.inl rfl⟩
 dd _ h:=h
 oR _ h:=.inl h
theorem bf.write (aa:bf C fid G H w){l:Nat}{h h':Home}(hb:G.β l=some h)(ae:h.ej=false)(hv:h'.b=h.b)(NL:h'.ej=false)
  (fX:h.tag<=h'.tag) (aI:h.tag=0->h'.tag=0) (fa:h'.fB=h.fB) (hs:w'.heap.size=w.heap.size)
  (Ed:∀b,b≠h.b->w'.heap[b]? =w.heap[b]?) (o:cD) (ho:jQ C fid ⟨cA G.β l h',G.I⟩ w' h' o):
  bf C fid ⟨cA G.β l h',G.I⟩ (H.set l o) w':=by
 have aH:=aa.lt hb;have NM:∀b,G.I b->b≠h.b:=fun b hi e=>by have:=(aa.dd b hi).2 l h hb e.symm;rw[ae]at this;cases this
 have hle:mj G.β (cA G.β l h'):=fun x h0 e=>by
  by_cases hx:x=l
  ·subst hx;rw[hb]at e;cases e
   exact⟨h',du _ _ _,fX,aI,fun _=>⟨hv,fa⟩,fun q=>by rw[ae]at q;cases q⟩
  ·exact⟨h0,by rw[dH hx];exact e,aM _,id,fun _=>⟨rfl,rfl⟩,fun _=>rfl⟩
 refine⟨fun x h0 e=> ?_,fun x y h1 h2 ag e2 q=> ?_,fun x h0 e=> ?_,fun b hi=> ?_,fun x h0 e q=> ?_,fun b o bx=>⟨(aa.fG b o bx).1,by rw[Ed b (NM b (aa.fG b o bx).1)];exact(aa.fG b o bx).2⟩⟩
 ·by_cases hx:x=l
  ·subst hx;simp only[du]at e;cases e
   exact⟨o,by simp[aH],ho⟩
  ·simp only[dH hx]at e
   obtain⟨o',e',hr⟩:=aa.obj x h0 e;have bu:h0.b≠h.b:=fun q=>hx (aa.inj x l h0 h e hb q);exact⟨o',by rw[lG (lj hx)];exact e',hr.mono (G':=⟨cA G.β l _,G.I⟩) hle (fun b hi=>⟨hi,Ed b (NM b hi)⟩) (Ed _ bu)⟩
 ·by_cases hx:x=l<;>by_cases hy:y=l
  ·rw[hx,hy]
  ·subst hx;simp only[du]at ag;cases ag;simp only[dH hy]at e2
   exact aa.inj x y h h2 hb e2 (hv ▸ q)
  ·subst hy;simp only[du]at e2;cases e2;simp only[dH hx]at ag
   exact aa.inj x y h1 h ag hb (hv ▸ q)
  ·simp only[dH hx]at ag;simp only[dH hy]at e2
   exact aa.inj x y h1 h2 ag e2 q
 ·rw[hs]
  by_cases hx:x=l
  ·subst hx;simp only[du]at e;cases e;rw[hv];exact aa.blk x h hb
  ·simp only[dH hx]at e;exact aa.blk x h0 e
 ·refine⟨by rw[hs];exact(aa.dd b hi).1,fun x h0 e q=> ?_⟩
  by_cases hx:x=l
  ·subst hx;simp only[du]at e;cases e
   exact absurd (q.symm.trans hv) (NM b hi)
  ·simp only[dH hx]at e;exact(aa.dd b hi).2 x h0 e q
 ·by_cases hx:x=l
  ·subst hx;simp only[du]at e;cases e;rw[NL]at q;cases q
  ·simp only[dH hx]at e;exact aa.kX x h0 e q
theorem Ext.write (_hR:bf C fid G H w){l:Nat}{h h':Home}(hb:G.β l=some h)(ae:h.ej=false)(hv:h'.b=h.b)
  (fX:h.tag<=h'.tag) (aI:h.tag=0->h'.tag=0) (fa:h'.fB=h.fB) (hs:w'.heap.size=w.heap.size)
  (Ed:∀b,b≠h.b->w'.heap[b]? =w.heap[b]?) (BF:w'.os=w.os) (hp:w'.output=w.output):
  Ext G w ⟨cA G.β l h',G.I⟩ w' l H.length where
 size:=by rw[hs];exact aM _
 os:=BF
 output:=hp
 ey b _ k:=Ed b fun e=>by
  rcases k l h hb e.symm with q|q
  ·rw[ae]at q;cases q
  ·omega
 homes x h0 e:=by
  by_cases hx:x=l
  ·subst hx;rw[hb]at e;cases e
   exact⟨h',du _ _ _,fX,aI,fun _=>⟨hv,fa⟩,fun q=>by rw[ae]at q;cases q⟩
  ·exact⟨h0,by simp only[dH hx];exact e,aM _,id,fun _=>⟨rfl,rfl⟩,fun _=>rfl⟩
 n7 x h0 e:=by
  by_cases hx:x=l
  ·subst hx;simp only[du]at e;cases e;exact .inl ⟨h,hb,.inl hv.symm⟩
  ·simp only[dH hx]at e;exact .inl ⟨h0,e,.inl rfl⟩
 dd _ h:=h
 oR _ h:=.inl h
theorem bf.move (aa:bf C fid G H w){l:Nat}{h:Home}(hb:G.β l=some h)(ae:h.ej=false)(a1:Obj)(tag fB:Nat)(fX:h.tag<tag)(aI:h.tag≠0)
  (o:cD) (ho:jQ C fid ⟨cA G.β l ⟨w.heap.size,tag,fB,false⟩,G.I⟩ (w.alloc a1) ⟨w.heap.size,tag,fB,false⟩ o):
  bf C fid ⟨cA G.β l ⟨w.heap.size,tag,fB,false⟩,G.I⟩ (H.set l o) (w.alloc a1)/\Ext G w ⟨cA G.β l ⟨w.heap.size,tag,fB,false⟩,G.I⟩ (w.alloc a1) l H.length:=by
 have aH:=aa.lt hb
 have hle:mj G.β (cA G.β l ⟨w.heap.size,tag,fB,false⟩):=fun x h0 e=>by
  by_cases hx:x=l
  ·subst hx;rw[hb]at e;cases e
   exact⟨_,du _ _ _,se fX,fun q=>absurd q aI,fun q=>by simp only at q;omega,fun q=>by rw[ae]at q;cases q⟩
  ·exact⟨h0,by rw[dH hx];exact e,aM _,id,fun _=>⟨rfl,rfl⟩,fun _=>rfl⟩
 refine⟨⟨fun x h0 e=> ?_,fun x y h1 h2 ag e2 q=> ?_,fun x h0 e=> ?_,fun b hi=> ?_,fun x h0 e q=> ?_,fun b o bx=>⟨(aa.fG b o bx).1,by rw[alloc_old (aa.dd b (aa.fG b o bx).1).1];exact(aa.fG b o bx).2⟩⟩,⟨by simp,rfl,rfl,fun b hv _=>alloc_old hv,hle,fun x h0 e=> ?_,fun _ h=>h,fun _ h=>.inl h⟩⟩
 ·by_cases hx:x=l
  ·subst hx;simp only[du]at e;cases e
   exact⟨o,by simp[aH],ho⟩
  ·simp only[dH hx]at e
   obtain⟨o',e',hr⟩:=aa.obj x h0 e;exact⟨o',by rw[lG (lj hx)];exact e',hr.mono (G':=⟨cA G.β l _,G.I⟩) hle (fun b hi=>⟨hi,alloc_old (aa.dd b hi).1⟩) (alloc_old (aa.blk x h0 e))⟩
 ·by_cases hx:x=l<;>by_cases hy:y=l
  ·rw[hx,hy]
  ·subst hx;simp only[du]at ag;cases ag;simp only[dH hy]at e2
   have:=aa.blk y h2 e2;simp only at q;omega
  ·subst hy;simp only[du]at e2;cases e2;simp only[dH hx]at ag
   have:=aa.blk x h1 ag;simp only at q;omega
  ·simp only[dH hx]at ag;simp only[dH hy]at e2
   exact aa.inj x y h1 h2 ag e2 q
 ·rw[World.size_alloc]
  by_cases hx:x=l
  ·subst hx;simp only[du]at e;cases e;simp
  ·simp only[dH hx]at e;have:=aa.blk x h0 e;omega
 ·refine⟨by rw[World.size_alloc];have:=(aa.dd b hi).1;omega,fun x h0 e q=> ?_⟩
  by_cases hx:x=l
  ·subst hx;simp only[du]at e;cases e
   have:=(aa.dd b hi).1;simp only at q;omega
  ·simp only[dH hx]at e;exact(aa.dd b hi).2 x h0 e q
 ·by_cases hx:x=l
  ·subst hx;simp only[du]at e;cases e;cases q
  ·simp only[dH hx]at e;exact aa.kX x h0 e q
 ·by_cases hx:x=l
  ·subst hx;simp only[du]at e;cases e;exact .inl ⟨h,hb,.inr (aM _)⟩
  ·simp only[dH hx]at e;exact .inl ⟨h0,e,.inl rfl⟩
theorem yJ{es:Nat}:∀{ds:List V},(∀d∈ds,(aF d).length=es)->∀(n:Nat),(ds.drop n).flatMap aF=(ds.flatMap aF).drop (n*es)
 |ds,_,0=>by simp
 |[],_,n+1=>by simp
 |d::ds,h,n+1=>by
  have h1:=h d (by simp);rw[TN,yJ (fun x hx=>h x (by simp[hx])) n,lH,DL,Nat.add_comm,<-tA];congr 1;rw[List.drop_left' h1]
theorem BG{es:Nat}:∀{ds:List V},(∀d∈ds,(aF d).length=es)->∀(n:Nat),(ds.take n).flatMap aF=(ds.flatMap aF).take (n*es)
 |ds,_,0=>by simp
 |[],_,n+1=>by simp
 |d::ds,h,n+1=>by
  have h1:=h d (by simp);rw[List.take_succ_cons,lH,BG (fun x hx=>h x (by simp[hx])) n,lH,DL,List.take_append,h1,MV (l:=aF d) (by rw[h1];exact Nat.le_add_left _ _),Nat.add_sub_cancel]
theorem nc{es:Nat}:∀{ds:List V},(∀d∈ds,(aF d).length=es)->(ds.flatMap aF).length=ds.length*es
 |[],_=>by simp
 |d::ds,h=>by
  rw[lH,e1,nc (fun x hx=>h x (by simp[hx])),h d (by simp),dE,DL,Nat.add_comm]
theorem BH:∀(a b:List V),cx (a++b)=(cx a&&cx b)
 |[],b=>by simp[cx]
 |v::a,b=>by simp[cx,BH a b,DK]
theorem agP (v:V)(h:bQ v=true):cx (aF v)=true:=by
 cases v<;>simp_all [aF,cx,bQ]
theorem IQ:∀{ds:List V},cx ds=true->cx (ds.flatMap aF)=true
 |[],_=>by simp[cx]
 |d::ds,h=>by
  simp only[cx,ca]at h;rw[lH,BH,agP d h.1,IQ h.2];rfl
theorem UQ:∀{ds:List V},cx ds=true->(∀n,cx (ds.drop n)=true)/\∀n,cx (ds.take n)=true:=by
 intro ds h;constructor
 ·intro n
  have:cx (ds.take n++ds.drop n)=true:=by rw[MX];exact h
  rw[BH,ca]at this;exact this.2
 ·intro n
  have:cx (ds.take n++ds.drop n)=true:=by rw[MX];exact h
  rw[BH,ca]at this;exact this.1
theorem UR{b o:Nat}{c:Array Value}{e:TypeId}{f:Nat × Nat}(h:w.heap[b]? =some (.cells c e f)):w.cell? ⟨b,o,none⟩=c[o]? :=by
 simp[World.cell?,h]
theorem iv.va{b:Nat}{c:Array Value}{e:TypeId}{f:Nat × Nat}{vals rest:List Value}(h:w.heap[b]? =some (.cells c e f))(hc:c.toList=vals++rest):
  iv w b 0 vals:=by
 intro j x hx
 rw[UR h,er,<-iX,hc,gM (by
  rcases gq j vals.length with q|q
  ·exact q
  ·simp[nt q]at hx)]
 exact hx
theorem iv.drop{b o:Nat}{vals:List Value}(h:iv w b o vals)(n:Nat):iv w b (o+n) (vals.drop n):=by
 intro j x hx;rw[TR]at hx;rw[rl];exact h (n+j) x hx
theorem iv.take{b o:Nat}{vals:List Value}(h:iv w b o vals)(n:Nat):iv w b o (vals.take n):=by
 intro j x hx;rw[HX]at hx;split at hx
 ·exact h j x hx
 ·cases hx
theorem NN{l es:Nat}{ds:List V}{h:Home}{ej:Bool}(ho:jQ C fid G w h (.row es ds ej))(a7:G.I h.b)(hp:cx ds=true){off len n cap:Nat}{a:Addr}
  (ao:a=⟨h.b,off*es,none⟩/\n=len/\(off+cap)*es<=h.fB/\len<=cap) (hl:off+len<=ds.length):
  fW w G.I (.list es ((ds.drop off).take len)) (.slice (some a) n cap):=by
 obtain⟨-,-,-,-,hu,c,e,vals,rest,hc,-,af,hr⟩:=ho;obtain⟨rfl,rfl,-,fb⟩:=ao;have iw:=(((iv.va hc af).drop (off*es)).take (n*es));have mm:∀d∈ds.drop off,(aF d).length=es:=fun d hd=>hu d (HV hd);have hlen:((ds.drop off).take n).length=n:=by simp;omega
 have key:=fW.list (w:=w) (I:=G.I) es ((ds.drop off).take n) h.b (off*es) cap ((vals.drop (off*es)).take (n*es)) a7 (by simpa using iw)
  (fun d hd=>mm d (Be hd)) (by
    rw[BG mm,yJ hu];exact((hr.drop _).take _).pM ((UQ ((UQ (IQ hp)).1 _)).2 _)) (by rw[hlen];exact fb)
 rwa [hlen]at key
theorem US (aa:bf C fid G H w){l es:Nat}{ds:List V}(fo:H[l]? =some (.row es ds false)){h:Home}(hb:G.β l=some h):
  let G':cc:=⟨cA G.β l {h with ej:=true},fun b=>G.I b\/b=h.b⟩
  bf C fid G' (H.set l (.row es ds true)) w/\Ext G w G' w l H.length/\jQ C fid G' w {h with ej:=true} (.row es ds true):=by
 intro G';obtain⟨o,ho,hr⟩:=aa.obj l h hb;rw[fo]at ho;cases ho;have ae:h.ej=false:=hr.2.2.1
 have hle:mj G.β G'.β:=fun x h0 e=>by
  by_cases hx:x=l
  ·subst hx;rw[hb]at e;cases e
   exact⟨_,du _ _ _,aM _,id,fun _=>⟨rfl,rfl⟩,fun q=>by rw[ae]at q;cases q⟩
  ·exact⟨h0,by show cA _ _ _ _=_;rw[dH hx];exact e,aM _,id,fun _=>⟨rfl,rfl⟩,fun _=>rfl⟩
 have UT:∀b,G.I b->G'.I b/\w.heap[b]? =w.heap[b]? :=fun b hi=>⟨.inl hi,rfl⟩
 have aB:jQ C fid G' w {h with ej:=true} (.row es ds true):=by
  have:=jQ.mono (G':=G') hle UT rfl hr;exact⟨this.1,this.2.1,rfl,this.2.2.2⟩
 refine⟨⟨fun x h0 e=> ?_,fun x y h1 h2 ag e2 q=> ?_,fun x h0 e=> ?_,fun b hi=> ?_,fun x h0 e q=> ?_,fun b o bx=>⟨.inl (aa.fG b o bx).1,(aa.fG b o bx).2⟩⟩,⟨aM _,rfl,rfl,fun _ _ _=>rfl,hle,fun x h0 e=> ?_,fun _ h=>.inl h,fun b hi=> ?_⟩,aB⟩
 ·by_cases hx:x=l
  ·subst hx;rw[show G'.β=cA _ _ _ from rfl,du]at e;cases e
   exact⟨_,by simp[aa.lt hb],aB⟩
  ·rw[show G'.β=cA _ _ _ from rfl,dH hx]at e
   obtain⟨o',e',fH⟩:=aa.obj x h0 e;exact⟨o',by rw[lG (lj hx)];exact e',fH.mono hle UT rfl⟩
 ·have UU:∀z av,G'.β z=some av->∃bc,G.β z=some bc/\bc.b=av.b:=fun z av e=>by
   by_cases aI:z=l
   ·subst aI;rw[show G'.β=cA _ _ _ from rfl,du]at e;cases e;exact⟨h,hb,rfl⟩
   ·rw[show G'.β=cA _ _ _ from rfl,dH aI]at e;exact⟨av,e,rfl⟩
  obtain⟨bc,cz,lk⟩:=UU x h1 ag;obtain⟨h5,dF,vb⟩:=UU y h2 e2;exact aa.inj x y bc h5 cz dF (lk.trans (q.trans vb.symm))
 ·by_cases hx:x=l
  ·subst hx;rw[show G'.β=cA _ _ _ from rfl,du]at e;cases e;exact aa.blk x h hb
  ·rw[show G'.β=cA _ _ _ from rfl,dH hx]at e;exact aa.blk x h0 e
 ·rcases hi with hi|rfl
  ·refine⟨(aa.dd b hi).1,fun x h0 e q=> ?_⟩
   by_cases hx:x=l
   ·subst hx;rw[show G'.β=cA _ _ _ from rfl,du]at e;cases e;rfl
   ·rw[show G'.β=cA _ _ _ from rfl,dH hx]at e;exact(aa.dd b hi).2 x h0 e q
  ·refine⟨aa.blk l h hb,fun x h0 e q=> ?_⟩
   by_cases hx:x=l
   ·subst hx;rw[show G'.β=cA _ _ _ from rfl,du]at e;cases e;rfl
   ·rw[show G'.β=cA _ _ _ from rfl,dH hx]at e;exact absurd (aa.inj x l h0 h e hb q) hx
 ·by_cases hx:x=l
  ·subst hx;rw[show G'.β=cA _ _ _ from rfl,du]at e;cases e;exact .inr rfl
  ·rw[show G'.β=cA _ _ _ from rfl,dH hx]at e;exact .inl (aa.kX x h0 e q)
 ·by_cases hx:x=l
  ·subst hx;rw[show G'.β=cA _ _ _ from rfl,du]at e;cases e;exact .inl ⟨h,hb,.inl rfl⟩
  ·rw[show G'.β=cA _ _ _ from rfl,dH hx]at e;exact .inl ⟨h0,e,.inl rfl⟩
 ·rcases hi with hi|rfl
  ·exact .inl hi
  ·exact .inr (.inr ⟨l,h,hb,rfl⟩)
structure lK (C:Ctx) (fid:Nat->Nat) (G:cc) (H:Heap) (w:World) (low:Nat) (G':cc) (H':Heap) (low':Nat):Prop where
 rel:bf C fid G' H' w
 ext:∀m,m<=low'->Ext G w G' w m H.length
 low:low'<=low
 len:H'.length=H.length
theorem lK.refl (aa:bf C fid G H w)(low:Nat):lK C fid G H w low G H low:=⟨aa,fun _ _=>.refl _ _ _ _,aM _,rfl⟩
theorem lK.trans{yK UW:cc}{sr UX:Heap}{low yL UY:Nat}(h:lK C fid G H w low yK sr yL)(k:lK C fid yK sr w yL UW UX UY):lK C fid G H w low UW UX UY:=
 ⟨k.rel,fun m hm=>(h.ext m (dc hm k.low)).trans ((k.ext m hm).le (aM _) (Nat.le_of_eq h.len.symm)),dc k.low h.low,k.len.trans h.len⟩
theorem bf.swap (aa:bf C fid G H w){l:Nat}{h:Home}(hb:G.β l=some h){o:cD}(ho:jQ C fid G w h o):bf C fid G (H.set l o) w:=
 ⟨fun x h0 e=>by
  by_cases hx:x=l
  ·subst hx
   rw[hb]at e;cases e;exact⟨o,by simp[aa.lt hb],ho⟩
  ·obtain⟨o',e',fH⟩:=aa.obj x h0 e
   exact⟨o',by rw[lG (lj hx)];exact e',fH⟩,aa.inj,aa.blk,aa.dd,aa.kX,aa.fG⟩
theorem bq.Ee{vs:List V}{x:Value}(h:bq fid G w (.agg vs) x):∃vals,x=.agg ⟨vals⟩/\bk fid G w vs vals:=by
 cases h with
 |p _ _ h=>cases h with|agg _ vals hr=>exact⟨vals,rfl,hr.oP⟩
 |agg _ vals hr=>exact⟨vals,rfl,hr⟩
theorem bq.NP{vs:List V}{x:Value}(h:bq fid G w (.bd vs) x):∃vals,x=.tuple ⟨vals⟩/\bk fid G w vs vals:=by
 cases h with
 |p _ _ h=>cases h with|bd _ vals hr=>exact⟨vals,rfl,hr.oP⟩
 |bd _ vals hr=>exact⟨vals,rfl,hr⟩
structure Ef (C:Ctx) (fid:Nat->Nat) (w:World) (f:Heap->Nat->V->Option (V × Heap × Nat)):Prop where
 ok:∀{G:cc} {H H':Heap} {low low':Nat} {v v':V} {x:Value},bf C fid G H w->bq fid G w v x->f H low v=some (v',H',low')->∃G',lK C fid G H w low G' H' low'/\bq fid G' w v' x
structure IU (C:Ctx) (fid:Nat->Nat) (w:World) (f:Heap->Nat->V->Option (V × Heap × Nat)):Prop where
 ok:∀{G:cc} {H H':Heap} {low low':Nat} {v v':V} {dj:List Value},bf C fid G H w->bk fid G w (aF v) dj->f H low v=some (v',H',low')->
  ∃G',lK C fid G H w low G' H' low'/\bk fid G' w (aF v') dj/\(aF v').length=(aF v).length
theorem IV{f:Heap->Nat->V->Option (V × Heap × Nat)}(ae:Ef C fid w f):∀{vs vs':List V} {xs:List Value} {G:cc} {H H':Heap} {low low':Nat},bf C fid G H w->bk fid G w vs xs->
  kT f H low vs=some (vs',H',low')->∃G',lK C fid G H w low G' H' low'/\bk fid G' w vs' xs
 |[],_,_,G,H,H',low,low',aa,.nil,he=>by
  simp only[kT,aA,bC]at he;obtain⟨rfl,rfl,rfl⟩:=he;exact⟨G,.refl aa _,.nil⟩
 |v::r,_,_,G,H,H',low,low',aa,.cons _ x _ xs af hs,he=>by
  simp only[kT]at he;split at he
  ·rename_i v1 H1 bS h1
   split at he
   ·rename_i cw H2 dM h2
    simp only[aA,bC]at he;obtain⟨rfl,rfl,rfl⟩:=he;obtain⟨az,f1,ct⟩:=ae.ok aa af h1;obtain⟨bD,f2,dN⟩:=IV ae f1.rel (hs.ext aa (f1.ext 0 (cI _))) h2;exact⟨bD,f1.trans f2,.cons _ _ _ _ (ct.ext f1.rel (f2.ext 0 (cI _))) dN⟩
   ·cases he
  ·cases he
theorem UZ{f:Heap->Nat->V->Option (V × Heap × Nat)}(ae:IU C fid w f):∀{vs vs':List V} {xs:List Value} {G:cc} {H H':Heap} {low low':Nat},bf C fid G H w->bk fid G w (vs.flatMap aF) xs->
  kT f H low vs=some (vs',H',low')->
  ∃G',lK C fid G H w low G' H' low'/\bk fid G' w (vs'.flatMap aF) xs/\vs'.length=vs.length/\∀es,(∀d∈vs,(aF d).length=es)->∀d∈vs',(aF d).length=es
 |[],_,_,G,H,H',low,low',aa,h,he=>by
  simp only[kT,aA,bC]at he;obtain⟨rfl,rfl,rfl⟩:=he;exact⟨G,.refl aa _,h,rfl,fun _ h=>h⟩
 |v::r,_,xs,G,H,H',low,low',aa,h,he=>by
  simp only[kT]at he;split at he
  ·rename_i v1 H1 bS h1
   split at he
   ·rename_i cw H2 dM h2
    simp only[aA,bC]at he;obtain⟨rfl,rfl,rfl⟩:=he;rw[lH]at h;obtain⟨cL,dj,rfl,hy,aI⟩:=h.split;obtain⟨az,f1,ct,ck⟩:=ae.ok aa hy h1;obtain⟨bD,f2,dN,kY,qA⟩:=UZ ae f1.rel (aI.ext aa (f1.ext 0 (cI _))) h2;refine⟨bD,f1.trans f2,?_,by simp[kY],fun es hu d hd=> ?_⟩
    ·rw[lH];exact(ct.ext f1.rel (f2.ext 0 (cI _))).append dN
    ·rcases dL.1 hd with rfl|hd
     ·rw[ck];exact hu v (by simp)
     ·exact qA es (fun d hd=>hu d (by simp[hd])) d hd
   ·cases he
  ·cases he
theorem IU.of{f:Heap->Nat->V->Option (V × Heap × Nat)}(af:Ef C fid w f)
  (nz:∀{H H':Heap} {low low':Nat} {v v':V},f H low v=some (v',H',low')->(∀vs,v≠ .agg vs)->aF v'=[v'])
  (NQ:∀{G:cc} {H H':Heap} {low low':Nat} {vs:List V} {v':V} {dj:List Value},bf C fid G H w->bk fid G w vs dj->f H low (.agg vs)=some (v',H',low')->
    ∃G' vs',v'=.agg vs'/\lK C fid G H w low G' H' low'/\bk fid G' w vs' dj):IU C fid w f:=by
 refine⟨fun {G H H' low low' v v' dj} aa h he=> ?_⟩;by_cases ao:∃vs,v=.agg vs
 ·obtain⟨vs,rfl⟩:=ao
  obtain⟨G',vs',rfl,f1,ct⟩:=NQ aa h he;exact⟨G',f1,ct,by have:=ct.length;have:=h.length;simp only[aF]at *; omega⟩
 ·have vc:∀vs,v≠ .agg vs:=fun vs e=>ao ⟨vs,e⟩
  have e:aF v=[v]:=by cases v<;>first|rfl|(exfalso;exact vc _ rfl)
  rw[e]at h;cases h with
  |cons _ x _ xs h hs=>
   cases hs;obtain⟨az,f1,ct⟩:=af.ok aa h he;rw[nz he vc,e];exact⟨az,f1,.cons _ _ _ _ ct .nil,rfl⟩
theorem agQ{l es off len tag n cap:Nat}{a:Addr}{h:Home}{ds ds':List V}{low:Nat}{c:Array Value}{e:TypeId}{vals rest:List Value}(ht:ds.length=tag)(hle:off+len<=ds.length)
  {yK:cc} {sr:Heap} {yL:Nat} {U0:List V} (hb:G.β l=some h) (fX:h.tag=tag) (ao:a=⟨h.b,off*es,none⟩/\n=len/\(off+cap)*es<=h.fB/\len<=cap)
  (jb:0<ds.length) (fc:0<es) (hc:w.heap[h.b]? =some (.cells c e (0,0))) (ea:h.fB=c.size) (jS:c.toList=vals++rest)
  (tH:bk fid yK w (ds'.flatMap aF) vals) (hlen:ds'.length=ds.length)
  (oS:∀d∈ds',(aF d).length=es) (ae:lK C fid G H w low yK sr yL)
  (NR:sr[l]? =some (.row es U0 false)) (agR:U0.length=tag) (hp:cx ds'=true):
  ∃G',lK C fid G H w low G' (sr.set l (.row es ds' true)) (min yL l)/\bq fid G' w (.list es ((ds'.drop off).take len)) (.slice (some a) n cap):=by
 obtain⟨h',hv,t1,-,m1,-⟩:=(ae.ext 0 (cI _)).homes l h hb;obtain⟨o',kZ,fH⟩:=ae.rel.obj l h' hv;rw[NR]at kZ;cases kZ;have U1:h'.tag=h.tag:=by rw[fH.1,agR,fX]
 obtain⟨eb,Eg⟩:=m1 U1
 have aB:jQ C fid yK w h' (.row es ds' false):=
  ⟨by rw[U1,fX,<-ht,hlen],by omega,fH.2.2.1,fc,oS,c,e,vals,rest,by rw[eb];exact hc,by rw[Eg];exact ea,jS,tH⟩
 have agS:=ae.rel.swap hv aB
 have aH:l<sr.length:=by
  rcases gq l sr.length with q|q
  ·exact q
  ·rw[nt q]at NR;cases NR
 have agT:(sr.set l (.row es ds' false))[l]? =some (.row es ds' false):=by simp[aH]
 obtain⟨h1,h2,av⟩:=US agS agT hv;rw[List.set_set]at h1
 have ej:lK C fid yK sr w yL _ (sr.set l (.row es ds' true)) (min yL l):=
  ⟨h1,fun m hm=>h2.le (dc hm (pC _ _)) (by simp),jK _ _,by simp⟩
 refine⟨_,ae.trans ej,.p _ _ (NN (l:=l) av (.inr rfl) hp ?_ (by rw[hlen];exact hle))⟩;show a=⟨h'.b,off*es,none⟩/\n=len/\(off+cap)*es<=h'.fB/\len<=cap;rw[eb,Eg];exact ao
theorem NS:∀(n:Nat),Ef C fid w (ei n)/\IU C fid w (ei n)
 |0=>by
  have af:Ef C fid w (ei 0):=by
   refine⟨fun {G H H' low low' v v' x} aa h he=> ?_⟩;simp only[ei]at he;split at he
   ·simp only[aA,bC]at he
    obtain⟨rfl,rfl,rfl⟩:=he;exact⟨G,.refl aa _,h⟩
   ·cases he
  refine⟨af,.of af (fun {H H' low low' v v'} he vc=> ?_) (fun {G H H' low low' vs v' dj} aa h he=> ?_)⟩
  ·simp only[ei]at he
   split at he
   ·simp only[aA,bC]at he
    obtain⟨rfl,-,-⟩:=he;cases v<;>first|rfl|(exfalso;exact vc _ rfl)
   ·cases he
  ·simp only[ei]at he
   split at he
   ·simp only[aA,bC]at he
    obtain⟨rfl,rfl,rfl⟩:=he;exact⟨G,vs,rfl,.refl aa _,h⟩
   ·cases he
 |n+1=>by
  obtain⟨NT,agU⟩:=NS n
  have af:Ef C fid w (ei (n+1)):=by
   refine⟨fun {G H H' low low' v v' x} aa h he=> ?_⟩;simp only[ei]at he;split at he
   ·simp only[aA,bC]at he
    obtain⟨rfl,rfl,rfl⟩:=he;exact⟨G,.refl aa _,h⟩
   ·split at he
    ·rename_i vs
     split at he
     ·rename_i vs' H1 bS h1
      simp only[aA,bC]at he;obtain⟨rfl,rfl,rfl⟩:=he;obtain⟨vals,rfl,hr⟩:=h.Ee;obtain⟨az,f1,ct⟩:=IV NT aa hr h1;exact⟨az,f1,.agg _ _ ct⟩
     ·cases he
    ·rename_i vs
     split at he
     ·rename_i vs' H1 bS h1
      simp only[aA,bC]at he;obtain⟨rfl,rfl,rfl⟩:=he;obtain⟨vals,rfl,hr⟩:=h.NP;obtain⟨az,f1,ct⟩:=IV NT aa hr h1;exact⟨az,f1,.bd _ _ ct⟩
     ·cases he
    ·rename_i l es off len tag _
     split at he
     ·rename_i bN ds ej hl
      split at he
      ·rename_i hc
       obtain⟨rfl,ht,hle⟩:=hc;split at he
       ·rename_i hp
        simp only[aA,bC]at he;obtain⟨rfl,rfl,rfl⟩:=he;cases h with
        |p _ _ h=>cases h
        |b7 _ _ _ _ _ h a n cap hb NU ao=>
         obtain⟨o,ho,hr⟩:=aa.obj l h hb;rw[hl]at ho;cases ho;have fX:h.tag=tag:=hr.1.trans ht;cases ej with
         |true=>
          exact⟨G,.refl aa _,.p _ _ (NN (l:=l) hr (aa.kX l h hb hr.2.2.1) hp (ao fX) hle)⟩
         |false=>
          obtain⟨h1,h2,av⟩:=US aa hl hb;exact⟨_,⟨h1,fun m hm=>h2.le (dc hm (pC _ _)) (aM _),jK _ _,by simp⟩,.p _ _ (NN (l:=l) av (.inr rfl) hp (ao fX) hle)⟩
       ·split at he
        ·rename_i ds' H1 bS h1
         split at he
         ·rename_i TZ Nb BI
          split at he
          ·rename_i IW
           obtain⟨rfl,oT,hp⟩:=IW;simp only[aA,bC]at he;obtain⟨rfl,rfl,rfl⟩:=he;cases h with
           |p _ _ h=>cases h
           |b7 _ _ _ _ _ h a n cap hb NU ao=>
            obtain⟨o,ho,hr⟩:=aa.obj l h hb;rw[hl]at ho;cases ho;have fX:h.tag=tag:=hr.1.trans ht;obtain⟨-,jb,-,fc,hu,c,e,vals,rest,hc,ea,jS,fx⟩:=hr;obtain⟨az,f1,ct,ck,kD⟩:=UZ agU aa fx h1;exact agQ ht hle hb fX (ao fX) jb fc hc ea jS ct ck (kD _ hu) f1 BI oT hp
          ·cases he
         ·cases he
        ·cases he
      ·cases he
     ·cases he
    ·simp only[aA,bC]at he
     obtain⟨rfl,rfl,rfl⟩:=he;exact⟨G,.refl aa _,h⟩
  refine⟨af,.of af (fun {H H' low low' v v'} he vc=> ?_) (fun {G H H' low low' vs v' dj} aa h he=> ?_)⟩
  ·simp only[ei]at he
   repeat' split at he
   all_goals first
    |cases he;done
    |(simp only[aA,bC]at he;obtain⟨rfl,-,-⟩:=he;first|rfl|(exfalso;exact vc _ rfl)|(cases v<;>first|rfl|(exfalso;exact vc _ rfl)))
  ·simp only[ei]at he
   split at he
   ·simp only[aA,bC]at he
    obtain⟨rfl,rfl,rfl⟩:=he;exact⟨G,vs,rfl,.refl aa _,h⟩
   ·split at he
    ·rename_i vs' H1 bS h1
     simp only[aA,bC]at he;obtain⟨rfl,rfl,rfl⟩:=he;obtain⟨az,f1,ct⟩:=IV NT aa h h1;exact⟨az,vs',rfl,f1,ct⟩
    ·cases he
theorem IX (aa:bf C fid G H w){low low':Nat}{v v':V}{x:Value}{H':Heap}(af:bq fid G w v x)(he:fR H low v=some (v',H',low')):
 ∃G',lK C fid G H w low G' H' low'/\bq fid G' w v' x:=(NS 16).1.ok aa af he
theorem agV (aa:bf C fid G H w){low low':Nat}{v v':V}{dj:List Value}{H':Heap}(af:bk fid G w (aF v) dj)(he:fR H low v=some (v',H',low')):
 ∃G',lK C fid G H w low G' H' low'/\bk fid G' w (aF v') dj/\(aF v').length=(aF v).length:=(NS 16).2.ok aa af he
theorem NV:∀{vs vs':List V} {xs:List Value} {G:cc} {H H':Heap} {low low':Nat},bf C fid G H w->bk fid G w vs xs->e4 H low vs=some (vs',H',low')->
  ∃G',lK C fid G H w low G' H' low'/\bk fid G' w vs' xs
 |[],_,_,G,H,H',low,low',aa,.nil,he=>by
  simp only[e4,aA,bC]at he;obtain⟨rfl,rfl,rfl⟩:=he;exact⟨G,.refl aa _,.nil⟩
 |v::r,_,_,G,H,H',low,low',aa,.cons _ x _ xs af hs,he=>by
  simp only[e4]at he;split at he
  ·rename_i v1 H1 bS h1
   split at he
   ·rename_i cw H2 dM h2
    simp only[aA,bC]at he;obtain⟨rfl,rfl,rfl⟩:=he;obtain⟨az,f1,ct⟩:=IX aa af h1;obtain⟨bD,f2,dN⟩:=NV f1.rel (hs.ext aa (f1.ext 0 (cI _))) h2;exact⟨bD,f1.trans f2,.cons _ _ _ _ (ct.ext f1.rel (f2.ext 0 (cI _))) dN⟩
   ·cases he
  ·cases he
end Go.Abs
namespace Go.Abs
open Go
variable{C:Ctx}{fid:Nat->Nat}{w w':World}{G G':cc}{H:Heap}
def IY (P:Program)(d:Deferred):Prop:=
 ∃fv cap f args,d.target=.fn fv cap/\∀w,(invoke d.target d.args).run P w=.ok (.enter f args) w/\
  CallsDIn Fence.wide 0 P f args .returning w fun e u' w'=>(∃v,e=.returned v)/\u'=.returning/\w'=w
structure fp (C:Ctx) (fid:Nat->Nat):Prop where
 f:∀f i,C.Im f=some i->i=f
 agW:∀i,i∈C.Bq->∀caps:Array Value,IY C.P {target:=.fn (.func i) caps,args:= #[]}
mutual
theorem Eh{I:Nat->Prop}:∀(x:Value) {v:V},mW x=some v->v=.undef\/fW w I v x
 | .bool b,v,h=>by simp only[mW,aA]at h;subst h;exact .inr (.bool b)
 | .int k n,v,h=>by simp only[mW,aA]at h;subst h;exact .inr (.int k n)
 | .string ⟨⟨s⟩⟩,v,h=>by simp only[mW,aA]at h;subst h;exact .inr (.str s)
 | .pointer none,v,h=>by simp only[mW,aA]at h;subst h;exact .inr .iY
 | .slice none 0 0,v,h=>by simp only[mW,aA]at h;subst h;exact .inr .aY
 | .map none,v,h=>by simp only[mW,aA]at h;subst h;exact .inr .h7
 | .nilFunc,v,h=>by simp only[mW,aA]at h;subst h;exact .inr .kA
 | .nilIface,v,h=>by simp only[mW,aA]at h;subst h;exact .inr .jL
 | .agg ⟨vs⟩,v,h=>by
   simp only[mW,cG]at h;obtain⟨us,hu,rfl⟩:=h;exact .inr (.agg us vs (Ei vs hu))
 | .tuple ⟨[]⟩,v,h=>by simp only[mW,aA]at h;subst h;exact .inl rfl
 | .tuple ⟨_::_⟩,v,h=>by simp[mW]at h
 | .slice none (n+1) _,v,h=>by simp[mW]at h
 | .slice none 0 (n+1),v,h=>by simp[mW]at h
 | .pointer (some _),v,h| .slice (some _) _ _,v,h| .map (some _),v,h| .float ..,v,h| .complex ..,v,h| .chan ..,v,h| .func ..,v,h| .iface ..,v,h=>by simp[mW]at h
theorem Ei{I:Nat->Prop}:∀(xs:List Value) {vs:List V},Bp xs=some vs->dn w I vs xs
 |[],vs,h=>by simp only[Bp,aA]at h;subst h;exact .nil
 |x::r,vs,h=>by
  simp only[Bp]at h;split at h
  ·rename_i v af
   split at h
   ·cases h
   ·simp only[cG]at h
    obtain⟨us,hu,rfl⟩:=h;exact .cons v x us r ((Eh x af).resolve_left (by rintro rfl;simp_all [u3])) (Ei r hu)
  ·cases h
end
def fC (C:Ctx)(fid:Nat->Nat)(vars:List Nat)(G:cc)(w:World)(ai:aj->V)(ρ:Operand->Value):Prop:=
 ∀x cJ,C.ch vars x=some cJ->bq fid G w (ai cJ) (ρ x)
def df (C:Ctx)(fid:Nat->Nat)(G:cc)(H:Heap)(w:World)(agX:Nat)(r:Result Next)(v:V)(H':Heap)(low':Nat):Prop:=
 ∃x w' G',(r=.ok (.value x) w'\/(r=.ok .skip w'/\x=undef))/\bf C fid G' H' w'/\(∀m,m<=low'->Ext G w G' w' m H.length)/\bq fid G' w' v x/\low'<=agX/\H.length<=H'.length
theorem df.same (aa:bf C fid G H w){low:Nat}{r:Result Next}{v:V}{x:Value}(hr:r=.ok (.value x) w)(af:bq fid G w v x):df C fid G H w low r v H low:=
 ⟨x,w,G,.inl hr,aa,fun _ _=>.refl _ _ _ _,af,aM _,aM _⟩
theorem df.alloc (aa:bf C fid G H w){low:Nat}{r:Result Next}{v:V}{x:Value}{o:cD}{a1:Obj}(tag fB:Nat)(hr:r=.ok (.value x) (w.alloc a1))
  (ho:jQ C fid ⟨cA G.β H.length ⟨w.heap.size,tag,fB,false⟩,G.I⟩ (w.alloc a1) ⟨w.heap.size,tag,fB,false⟩ o)
  (af:bq fid ⟨cA G.β H.length ⟨w.heap.size,tag,fB,false⟩,G.I⟩ (w.alloc a1) v x):df C fid G H w low r v (H++[o]) low:=
 ⟨x,_,_,.inl hr,aa.push o a1 tag fB ho,fun m _=>.push aa a1 tag fB m,af,aM _,by simp⟩
theorem df.BJ{low bS:Nat}{az:cc}{H1:Heap}(f:lK C fid G H w low az H1 bS){r:Result Next}{v:V}{H':Heap}{low':Nat}(h:df C fid az H1 w bS r v H' low'):
  df C fid G H w low r v H' low':=by
 obtain⟨x,w',G',hr,aa,he,af,hl,hn⟩:=h;refine⟨x,w',G',hr,aa,fun m hm=>(f.ext m (dc hm hl)).trans ((he m hm).le (aM _) (Nat.le_of_eq f.len.symm)),af,dc hl f.low,by have:=f.len;omega⟩
section ops
variable{vars:List Nat}{ai:aj->V}{ρ:Operand->Value}{low low':Nat}{v:V}{H':Heap}{pos:String}{dq:cS}{o:Oper}
theorem NW (bF:fp C fid){f:FuncId}{cJ:aj}(h:C.ch vars (.func f)=some cJ){aG aw:Env}:bq fid G w (cJ.ai aG aw) (.func (.func f) #[] #[]):=by
 simp only[Ctx.ch,cG]at h;obtain⟨i,hi,rfl⟩:=h;have e:=bF.f f i hi;subst e;exact bq.fn (fid:=fid) (G:=G) (w:=w) i [] [] [] [] .nil .nil
theorem bq.k1{x:Value}{b:Bool}(h:bq fid G w (.bool b) x):x=.bool b:=by
 cases h with|p _ _ h=>cases h;rfl
theorem bq.kf{x:Value}{k:IntKind}{n:Int}(h:bq fid G w (.int k n) x):x=.int k n:=by
 cases h with|p _ _ h=>cases h;rfl
theorem bq.n8{x:Value}{s:List UInt8}(h:bq fid G w (.str s) x):x=.string ⟨⟨s⟩⟩:=by
 cases h with|p _ _ h=>cases h;rfl
theorem bq.oU{x:Value}{l o:Nat}(h:bq fid G w (.ptr l o) x):∃h,G.β l=some h/\h.tag=0/\x=.pointer (some ⟨h.b,o,none⟩):=by
 cases h with
 |p _ _ h=>cases h
 |ptr _ _ h hb ht=>exact⟨h,hb,ht,rfl⟩
theorem bq.mapInv{x:Value}{l:Nat}(h:bq fid G w (.map l) x):∃h,G.β l=some h/\h.tag=0/\x=.map (some h.b):=by
 cases h with
 |p _ _ h=>cases h
 |map _ h hb ht=>exact⟨h,hb,ht,rfl⟩
theorem bq.Ej{x:Value}{l es i f tag:Nat}(h:bq fid G w (.hg l es i f tag) x):
  ∃h a,G.β l=some h/\tag<=h.tag/\(h.tag=tag->a=⟨h.b,i*es+f,none⟩)/\x=.pointer (some a):=by
 cases h with
 |p _ _ h=>cases h
 |hg _ _ _ _ _ h a hb hle ao=>exact⟨h,a,hb,hle,ao,rfl⟩
theorem bq.NX{x:Value}{vs:List V}{f:Nat}(h:bq fid G w (.dW vs f) x):
  ∃b o vals,G.I b/\iv w b o vals/\dn w G.I vs vals/\x=.pointer (some ⟨b,o+f,none⟩):=by
 cases h with
 |p _ _ h=>cases h
 |dW _ _ b o vals a7 hc hr=>exact⟨b,o,vals,a7,hc,hr,rfl⟩
theorem bq.oV{x:Value}{l es off len tag:Nat}(h:bq fid G w (.b7 l es off len tag) x):
  ∃h a n cap,G.β l=some h/\tag<=h.tag/\(h.tag=tag->a=⟨h.b,off*es,none⟩/\n=len/\(off+cap)*es<=h.fB/\len<=cap)/\x=.slice (some a) n cap:=by
 cases h with
 |p _ _ h=>cases h
 |b7 _ _ _ _ _ h a n cap hb hle ao=>exact⟨h,a,n,cap,hb,hle,ao,rfl⟩
theorem bq.BK{x:Value}{i:Nat}{fs cs:List V}(h:bq fid G w (.fn i fs cs) x):
  ∃xs cL,bk fid G w fs xs/\bk fid G w cs cL/\x=.func (.func i) ⟨xs⟩ ⟨cL⟩:=by
 cases h with
 |p _ _ h=>cases h with|fn _ _ _ xs cL ae hc=>exact⟨xs,cL,dn.oP ae,dn.oP hc,rfl⟩
 |fn _ _ _ xs cL ae hc=>exact⟨xs,cL,ae,hc,rfl⟩
theorem bq.agY{x:Value}{l:Nat}(h:bq fid G w (.yield l) x):∃h,G.β l=some h/\h.tag=0/\x=.func (.yield h.b) #[] #[]:=by
 cases h with
 |p _ _ h=>cases h
 |yield _ h hb ht=>exact⟨h,hb,ht,rfl⟩
theorem bk.iq{cs:List V}{xs:List Value}(h:bk fid G w cs xs){o:Nat}{sh:Option Nat}{u:V}(hr:Abs.iq cs o sh=some u):
  match sh with
  |none=>∃x,xs[o]? =some x/\bq fid G w u x
  |some n=>o+n<=xs.length/\bq fid G w u (.agg ⟨(xs.drop o).take n⟩):=by
 cases sh with
 |none=>exact h.get hr
 |some n=>
  simp only[Abs.iq]at hr;split at hr
  ·rename_i hle
   simp only[aA]at hr;subst hr;exact⟨by rw[h.length];exact hle,.agg _ _ ((h.drop o).take n)⟩
  ·cases hr
theorem U2{t:TypeId}{sh:Option Nat}(h:C.shapeOf t=some sh):
  (∃n,sh=some n/\(∀w,(isAgg t).run C.P w=.ok true w)/\∀w,(Go.sizeOf t).run C.P w=.ok n w)\/(sh=none/\∀w,(isAgg t).run C.P w=.ok false w):=by
 unfold Ctx.shapeOf at h
 have key:∀d,C.P.underlying t=some d->∀w,(isAgg t).run C.P w=.ok (match d with| .struct _| .array _ _=>true| _=>false) w:=by
  intro d hd w;unfold isAgg;rw[Sem.run_bind,run_underlying hd];cases d<;>rfl
 have mn:∀n,C.sizeOf t=some n->∀w,(Go.sizeOf t).run C.P w=.ok n w:=by
  intro n hn w;simp only[Ctx.sizeOf,cG]at hn;obtain⟨i,hi,rfl⟩:=hn;unfold Go.sizeOf;rw[Sem.run_bind,run_typeInfo (P:=C.P) w hi];rfl
 cases hd:C.P.underlying t with
 |none=>rw[hd]at h;cases h
 |some d=>
  rw[hd]at h;have ah:=key d hd
  cases d<;>simp only[aA,cG]at h<;>
   first
    |exact .inr ⟨h.symm,ah⟩
    |(obtain⟨n,hn,rfl⟩:=h;exact .inl ⟨n,rfl,ah,mn n hn⟩)
theorem NY{t:TypeId}{sh:Option Nat}(h:C.shapeOf t=some sh){b o:Nat}{cs:List V}{vals:List Value}{f:Nat}(hc:iv w b o vals)(af:bk fid G w cs vals){u:V}
  (hr:Abs.iq cs f sh=some u):∃x,(loadVar t ⟨b,o+f,none⟩).run C.P w=.ok x w/\bq fid G w u x:=by
 have ah:=af.iq hr;rcases U2 h with⟨n,rfl,ao,hs⟩|⟨rfl,ao⟩
 ·obtain⟨hle,hu⟩:=ah
  refine⟨_,?_,hu⟩
  have fa:∀(j:Nat) (x:Value),((vals.drop f).take n)[j]? =some x->w.cell? (Addr.add ⟨b,o+f,none⟩ j)=some x:=by
   intro j x hx;rw[Addr.add_lit];rw[HX]at hx;split at hx
   ·rw[TR]at hx;rw[rl];exact hc _ _ hx
   ·cases hx
  have hl:=run_loadCells_list (P:=C.P) w ⟨b,o+f,none⟩ _ fa;have hlen:((vals.drop f).take n).length=n:=by simp;omega
  rw[hlen]at hl;unfold loadVar;simp only[Sem.run_bind,ao,hs,Result.andThen_ok,if_true,hl,Sem.run_pure]
 ·obtain⟨x,hx,hu⟩:=ah
  refine⟨x,?_,hu⟩;unfold loadVar;simp only[Sem.run_bind,ao,Result.andThen_ok,gN,if_false,run_load,hc f x hx]
theorem U3 (aa:bf C fid G H w){t:TypeId}{sh:Option Nat}(h:C.shapeOf t=some sh){a u:V}{x:Value}(ao:bq fid G w a x)(he:jN H sh a=some u):
  ∃y,(Instr.loadAt t x).run C.P w=.ok y w/\bq fid G w u y:=by
 unfold jN at he;split at he
 ·rename_i l o
  obtain⟨h0,hb,ht,rfl⟩:=ao.oU;split at he
  ·rename_i vs hl
   obtain⟨a1,ho,hr⟩:=aa.obj l h0 hb;rw[hl]at ho;cases ho;obtain⟨-,-,c,e,hc,af⟩:=hr;obtain⟨y,hy,hu⟩:=NY (o:=0) h (iv.va (vals:=c.toList) (rest:=[]) hc (by simp)) af he;rw[er]at hy;exact⟨y,by simp only[Instr.loadAt,Instr.sureAddr,Sem.run_bind,Sem.run_pure,Result.andThen_ok,hy],hu⟩
  ·cases he
 ·rename_i l es i f tag
  obtain⟨h0,dh,hb,hle,iG,rfl⟩:=ao.Ej;split at he
  ·rename_i bN ds ej hl
   split at he
   ·rename_i hc
    obtain⟨rfl,fX⟩:=hc;obtain⟨a1,ho,hr⟩:=aa.obj l h0 hb;rw[hl]at ho;cases ho;obtain⟨ht,-,-,-,hu,c,e,vals,rest,hc,fa,af,fx⟩:=hr;obtain⟨d,hd,Ek⟩:=dT.1 he;have lL:(aF d).length=bN:=hu d (e0 hd)
    have agZ:bk fid G w (aF d) ((vals.drop (i*bN)).take bN):=by
     have h1:(ds.drop i).flatMap aF=(ds.flatMap aF).drop (i*bN):=yJ hu i
     have h2:ds.drop i=d::ds.drop (i+1):=by
      obtain⟨hi,rfl⟩:=fF.1 hd;exact qm hi
     have av:=(fx.drop (i*bN)).take bN;rw[<-h1,h2,lH,List.take_append,lL,Nat.sub_self,List.take_zero,rk,MV (by omega)]at av;exact av
    have iw:iv w h0.b (i*bN) ((vals.drop (i*bN)).take bN):=by
     have:=((iv.va hc af).drop (i*bN)).take bN;rwa [er]at this
    obtain⟨y,hy,ag0⟩:=NY h iw agZ Ek;rw[iG (ht.trans fX)];exact⟨y,by simp only[Instr.loadAt,Instr.sureAddr,Sem.run_bind,Sem.run_pure,Result.andThen_ok,hy],ag0⟩
   ·cases he
  ·cases he
 ·rename_i vs f
  obtain⟨b,o,vals,a7,hc,hr,rfl⟩:=ao.NX;obtain⟨y,hy,hu⟩:=NY h hc (dn.oP (fid:=fid) hr) he;exact⟨y,by simp only[Instr.loadAt,Instr.sureAddr,Sem.run_bind,Sem.run_pure,Result.andThen_ok,hy],hu⟩
 ·cases he
theorem U4{c:V}{x:Value}(h:bq fid G w c x)(hc:eH c=true):x.oneCell'=true:=by
 cases h with
 |p _ _ h=>cases h<;>first|rfl|simp[eH]at hc
 |agg=>simp[eH]at hc
 |bd=>simp[eH]at hc
 |undef=>simp[eH]at hc
 | _=>rfl
theorem IZ:∀{cs:List V} {xs:List Value},bk fid G w cs xs->bX cs=true->∀x∈xs,x.oneCell'=true
 | _,_,.nil,_,x,hx=>by simp at hx
 | _,_,.cons v y vs cL h hs,hc,x,hx=>by
   simp only[bX,ca]at hc;rcases dL.1 hx with rfl|hx
   ·exact U4 h hc.1
   ·exact IZ hs hc.2 x hx
theorem BL{v:V}{y:Value}(h:bq fid G w v y)(hc:bX (aF v)=true):bk fid G w (aF v) y.cells.toList/\∀c∈y.cells.toList,c.oneCell'=true:=by
 by_cases af:∃vs,v=.agg vs
 ·obtain⟨vs,rfl⟩:=af
  obtain⟨vals,rfl,hr⟩:=h.Ee;exact⟨hr,IZ hr hc⟩
 ·have e:aF v=[v]:=by
   cases v<;>first|rfl|(exfalso;exact af ⟨_,rfl⟩)
  rw[e]at hc⊢;have h1:y.oneCell'=true:=U4 h (by simpa[bX]using hc);have e':y.cells= #[y]:=by cases y<;>first|rfl|simp[Value.oneCell']at h1
  rw[e'];exact⟨.cons _ _ _ _ h .nil,fun c hc=>by simp at hc;subst hc;exact h1⟩
theorem El:∀{cL:List V} {dj:List Value} {cs:List V} {xs:List Value} (o:Nat),bk fid G w cs xs->bk fid G w cL dj->o+cL.length<=cs.length->
  bk fid G w (setCells cs o cL) (xs.take o++dj++xs.drop (o+dj.length))
 | _,_,cs,xs,o,h,.nil,_=>by simpa[setCells]using h
 | _,_,cs,xs,o,h,.cons y z cL dj hy hs,hl=>by
   have hlen:=h.length;simp only[dE]at hl;have ih:=El (o+1) (h.set o hy) hs (by simp;omega);simp only[setCells];have e:=list_seg_step xs o z dj (by have:=hs.length;omega);rw[<-dE (a:=z)]at e;rw[<-e];exact ih
theorem U5:∀(cL cs:List V) (o:Nat),(setCells cs o cL).length=cs.length
 |[],cs,o=>rfl
 |y::cL,cs,o=>by rw[setCells,U5 cL];simp
theorem setRow_other{g b:Nat}(hb:b≠g)(c:Array Value):(w.setRow g c).heap[b]? =w.heap[b]? :=by
 unfold World.setRow;simp only[Array.getElem?_modify];rw[if_neg (by omega)]
theorem setRow_size (g:Nat)(c:Array Value):(w.setRow g c).heap.size=w.heap.size:=by
 unfold World.setRow;simp
theorem ag1{vs cL:List V}{o:Nat}(aZ:bX cL=true)(hS:o+cL.length<=vs.length){v:V}(h:setCells vs o cL=[.undef,v]):(∃v',vs=[.undef,v'])/\(cL=[]\/1<=o):=by
 match cL,aZ,hS,h with
 |[],_,_,h=>exact⟨⟨v,h⟩,.inl rfl⟩
 |[y],aZ,hS,h=>
  simp only[setCells]at h
  match o,vs,hS,h with
  |0,a::r,_,h=>
   simp only[M3,xa]at h;rw[h.1]at aZ;simp[bX,eH]at aZ
  |1,[a,b],_,h=>
   simp only[TS,M3,xa]at h;rw[h.1];exact⟨⟨b,rfl⟩,.inr (aM _)⟩
  |1,a::b::c::r,_,h=>simp at h
  |n+2,a::b::c::r,_,h=>simp at h
  |n+2,[a,b],hS,_=>simp at hS
 |y::z::r,aZ,hS,h=>
  have hl:∀(xs a:List V) (o:Nat),(setCells a o xs).length=a.length:=by
   intro xs
   induction xs with
   |nil=>intro a o;rfl
   |cons x xs ih=>intro a o;rw[setCells,ih,yt]
  have:=congrArg List.length h;rw[hl]at this;simp only[dE,eF]at this hS;have ho:o=0:=by omega
  have hr:r=[]:=yo.1 (by omega);subst ho hr
  match vs,this,h with
  |[a,b],_,h=>
   simp[setCells]at h;rw[h.1]at aZ;simp[bX,eH]at aZ
theorem ag2 (aa:bf C fid G H w){l:Nat}{h:Home}{vs cL:List V}(hb:G.β l=some h)(hl:H[l]? =some (.cells vs)){o:Nat}{dj:List Value}(hy:bk fid G w cL dj)
  (aZ:bX cL=true) (hS:o+cL.length<=vs.length) {c:Array Value} {e:TypeId} (hc:w.heap[h.b]? =some (.cells c e (0,0))):
  ∃G',bf C fid G' (H.set l (.cells (setCells vs o cL))) (w.setRow h.b (c.toList.take o++dj++c.toList.drop (o+dj.length)).toArray)/\
   Ext G w G' (w.setRow h.b (c.toList.take o++dj++c.toList.drop (o+dj.length)).toArray) l H.length:=by
 obtain⟨a1,ho,hr⟩:=aa.obj l h hb;rw[hl]at ho;cases ho;obtain⟨ht,ae,c',e',vd,af⟩:=hr;rw[hc]at vd;cases vd;refine⟨⟨cA G.β l h,G.I⟩,?_,?_⟩
 ·refine bf.write aa hb ae rfl ae (aM _) id rfl (setRow_size _ _) (fun b bu=>setRow_other bu _) _ ?_
  have kg:Ec C (w.setRow h.b (c.toList.take o++dj++c.toList.drop (o+dj.length)).toArray) h.b (setCells vs o cL):=fun v NZ=>by
   obtain⟨⟨v',q1⟩,aT⟩:=ag1 aZ hS NZ;obtain⟨dk,ag,ct,dN,jT⟩:=ht.2 v' q1;rw[hc]at ct;cases ct;refine⟨_,e,setRow_heap w h.b c _ e _ hc,dN,?_⟩
   have key:(c.toList.take o++dj++c.toList.drop (o+dj.length)).toArray[0]? =c[0]? :=by
    rw[r9,<-iX];rcases aT with rfl|aT
    ·have:dj=[]:=by have:=hy.length;exact yo.1 (by simpa using this)
     subst this;simp
    ·have h8:=af.length
     rw[q1]at h8;rw[jJ,gM (by rw[mc];simp only[dE,eF]at h8;omega),HX,if_pos (by omega)]
   rw[key];exact jT
  refine⟨⟨ht.1,kg⟩,ae,_,e,setRow_heap w h.b c _ e _ hc,?_⟩
  have hx:Ext G w ⟨cA G.β l h,G.I⟩ (w.setRow h.b (c.toList.take o++dj++c.toList.drop (o+dj.length)).toArray) l H.length:=
   Ext.write aa hb ae rfl (aM _) id rfl (setRow_size _ _) (fun b bu=>setRow_other bu _) rfl rfl
  exact((El o af hy hS).ext aa hx)
 ·exact Ext.write aa hb ae rfl (aM _) id rfl (setRow_size _ _) (fun b bu=>setRow_other bu _) rfl rfl
theorem U6:∀(xs a b:List V) (o:Nat),o+xs.length<=a.length->setCells (a++b) o xs=setCells a o xs++b
 |[],_,_,_,_=>rfl
 |x::xs,a,b,o,h=>by
  simp only[dE]at h;rw[setCells,setCells,TJ _ _ (by omega),U6 xs _ b (o+1) (by simp;omega)]
theorem U7:∀(xs a b:List V) (o:Nat),setCells (a++b) (a.length+o) xs=a++setCells b o xs
 |[],_,_,_=>rfl
 |x::xs,a,b,o=>by
  rw[setCells,setCells,List.set_append_right _ _ (by omega),Nat.add_sub_cancel_left,rl,U7 xs a]
theorem N0{es:Nat}{d':V}{f:Nat}{xs:List V}:∀{ds:List V} {i:Nat} {d:V},(∀d∈ds,(aF d).length=es)->ds[i]? =some d->f+xs.length<=es->aF d'=setCells (aF d) f xs->
  (ds.set i d').flatMap aF=setCells (ds.flatMap aF) (i*es+f) xs
 |[],i,d,_,h,_,_=>by simp at h
 |a::ds,0,d,hu,h,ae,he=>by
  simp at h;subst h;have:=hu a (by simp);rw[M3,lH,lH,he,Nat.zero_mul,er,U6 _ _ _ _ (by omega)]
 |a::ds,i+1,d,hu,h,ae,he=>by
  have h1:=hu a (by simp);have ih:=N0 (fun x hx=>hu x (by simp[hx])) (i:=i) (d:=d) (ds:=ds) (by simpa using h) ae he;rw[TS,lH,lH,ih,DL,Nat.add_comm (i*es) es,rl,<-h1,U7]
theorem ag3{d d':V}{f:Nat}{xs:List V}(h:xg d f xs=some d')(hp:mf xs=true):aF d'=setCells (aF d) f xs/\f+xs.length<=(aF d).length:=by
 unfold xg at h;split at h
 ·split at h
  ·simp only[aA]at h;subst h
   rename_i hle;exact⟨rfl,hle⟩
  ·cases h
 ·rename_i bu
  have e:aF d=[d]:=by cases d<;>first|rfl|(exfalso;exact bu _ rfl)
  split at h
  ·rename_i x
   simp only[aA]at h;subst h;rw[e];refine⟨?_,by simp⟩;simp only[mf,u0]at hp;cases x<;>first|rfl|simp[plainCell]at hp
  ·cases h
theorem N1:∀{xs:List V},mf xs=true->bX xs=true
 |[],_=>rfl
 |x::xs,h=>by
  simp only[mf,ca]at h;simp only[bX,ca];exact⟨by cases x<;>simp_all [plainCell,eH],N1 h.2⟩
theorem U8 (aa:bf C fid G H w){l es:Nat}{ds ds':List V}{h:Home}(hb:G.β l=some h)(hl:H[l]? =some (.row es ds false))(hn:ds'.length=ds.length)
  (mm:∀d∈ds',(aF d).length=es) {o:Nat} {cL:List V} {dj:List Value} (hy:bk fid G w cL dj) (hS:o+cL.length<=ds.length*es)
  (ve:∀vals,bk fid G w (ds.flatMap aF) vals->bk fid G w (ds'.flatMap aF) (vals.take o++dj++vals.drop (o+dj.length))) {c:Array Value} {e:TypeId} (hc:w.heap[h.b]? =some (.cells c e (0,0))):
  ∃G',bf C fid G' (H.set l (.row es ds' false)) (w.setRow h.b (c.toList.take o++dj++c.toList.drop (o+dj.length)).toArray)/\
   Ext G w G' (w.setRow h.b (c.toList.take o++dj++c.toList.drop (o+dj.length)).toArray) l H.length:=by
 obtain⟨a1,ho,hr⟩:=aa.obj l h hb;rw[hl]at ho;cases ho;obtain⟨ht,jb,ae,fc,hu,c',e',vals,rest,vd,fa,af,fx⟩:=hr;rw[hc]at vd;cases vd
 have hx:Ext G w ⟨cA G.β l h,G.I⟩ (w.setRow h.b (c.toList.take o++dj++c.toList.drop (o+dj.length)).toArray) l H.length:=
  Ext.write aa hb ae rfl (aM _) id rfl (setRow_size _ _) (fun b bu=>setRow_other bu _) rfl rfl
 have ll:=nc hu;have lM:=fx.length;have ss:=hy.length;refine⟨_,?_,hx⟩;refine bf.write aa hb ae rfl ae (aM _) id rfl (setRow_size _ _) (fun b bu=>setRow_other bu _) _ ?_;refine⟨by rw[ht,hn],by omega,ae,fc,mm,_,e,vals.take o++dj++vals.drop (o+dj.length),rest,setRow_heap w h.b c _ e _ hc,?_,?_,?_⟩
 ·rw[fa]
  simp only[uY,e1,mc,pD,hJ];have:c.size=vals.length+rest.length:=by rw[<-hJ,af,e1]
  omega
 ·rw[MZ,af,List.take_append_of_le_length (by omega),List.drop_append_of_le_length (by omega),jJ _ _ rest]
 ·exact(ve vals fx).ext aa hx
theorem ag4 (aa:bf C fid G H w){t:TypeId}{n:Nat}(hs:C.sizeOf t=some n){a u:V}{x y:Value}(ao:bq fid G w a x)(hu:bq fid G w u y){l:Nat}(he:jO H n a u=some (H',l)):
  ∃w' G',(Instr.storeAt t x y).run C.P w=.ok () w'/\bf C fid G' H' w'/\Ext G w G' w' l H.length/\l<H.length/\H'.length=H.length:=by
 have ea:∀w,(Go.sizeOf t).run C.P w=.ok n w:=by
  intro w;simp only[Ctx.sizeOf,cG]at hs;obtain⟨i,hi,rfl⟩:=hs;unfold Go.sizeOf;rw[Sem.run_bind,run_typeInfo (P:=C.P) w hi];rfl
 have cn:∀(b o:Nat) (c:Array Value) (e:TypeId),w.heap[b]? =some (.cells c e (0,0))->(aF u).length=n->bX (aF u)=true->o+n<=c.size->x=.pointer (some ⟨b,o,none⟩)->
   (Instr.storeAt t x y).run C.P w=.ok () (w.setRow b (c.toList.take o++y.cells.toList++c.toList.drop (o+y.cells.toList.length)).toArray):=by
  intro b o c e hc hlen aZ hle hx;obtain⟨h1,h2⟩:=BL hu aZ;have hl:=h1.length;subst hx;have ag5:y.cells.size=n:=by rw[<-hJ,hl,hlen]
  simp only[Instr.storeAt,Instr.sureAddr,storeVar,Sem.run_bind,Sem.run_pure,Result.andThen_ok,ea,ag5,ne_eq,not_true,if_false];have:=run_storeCells_at C.P b o e y.cells.toList 0 c w hc (by omega) h2;simpa using this
 unfold jO at he;split at he
 ·rename_i fS o
  obtain⟨h0,hb,ht,rfl⟩:=ao.oU;split at he
  ·rename_i vs hl
   split at he
   ·rename_i hc
    obtain⟨hlen,hle,aZ⟩:=hc;simp only[aA,bC]at he;obtain⟨rfl,rfl⟩:=he;obtain⟨a1,ho,hr⟩:=aa.obj fS h0 hb;rw[hl]at ho;cases ho;obtain⟨-,-,c,e,hc,af⟩:=hr;have lM:=af.length;obtain⟨h1,h2⟩:=BL hu aZ;obtain⟨G',bH,cw⟩:=ag2 aa hb hl h1 aZ (by rw[hlen];exact hle) hc;exact⟨_,G',cn h0.b o c e hc hlen aZ (by rw[<-hJ];omega) rfl,bH,cw,aa.lt hb,by simp⟩
   ·cases he
  ·cases he
 ·rename_i fS es i f tag
  obtain⟨h0,dh,hb,qB,iG,rfl⟩:=ao.Ej;split at he
  ·rename_i bN ds hl
   split at he
   ·rename_i hc
    obtain⟨rfl,fX,hlen,kh⟩:=hc;split at he
    ·rename_i d hd
     split at he
     ·rename_i d' ag6
      simp only[aA,bC]at he;obtain⟨rfl,rfl⟩:=he;obtain⟨a1,ho,hr⟩:=aa.obj fS h0 hb;rw[hl]at ho;cases ho;obtain⟨ht,jb,ae,fc,nA,c,e,vals,rest,hc,fa,af,fx⟩:=hr;obtain⟨p1,p2⟩:=ag3 ag6 kh;have lL:(aF d).length=bN:=nA d (e0 hd);have aZ:=N1 kh;obtain⟨h1,h2⟩:=BL hu aZ
      have hi:i<ds.length:=by
       obtain⟨hi,-⟩:=fF.1 hd;exact hi
      have hmul:i*bN+bN<=ds.length*bN:=by
       have:(i+1)*bN<=ds.length*bN:=MY _ hi;rw[DL]at this;exact this
      have ag7:(aF d').length=bN:=by rw[p1,U5,lL]
      have ll:=nc nA;have lM:=fx.length;have oW:c.size=vals.length+rest.length:=by rw[<-hJ,af,e1]
      obtain⟨G',bH,cw⟩:=U8 aa hb hl (ds':=ds.set i d') (by simp)
       (fun a ao=>by rcases List.mem_or_eq_of_mem_set ao with q|rfl;exact nA a q;exact ag7) (o:=i*bN+f) h1 (by omega) (fun vals af=>by rw[N0 nA hd (by omega) p1];exact El _ af h1 (by omega)) hc
      refine⟨_,G',cn h0.b (i*bN+f) c e hc hlen aZ (by omega) ?_,bH,cw,aa.lt hb,by simp⟩;rw[iG (ht.trans fX)]
     ·cases he
    ·cases he
   ·cases he
  ·cases he
 ·cases he
end ops
end Go.Abs
