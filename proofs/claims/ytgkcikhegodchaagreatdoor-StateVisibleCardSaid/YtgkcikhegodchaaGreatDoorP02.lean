/- Texts of this claim, joined and written short by a program. -/
import Derived.Test.YtgkcikhegodchaaGreatDoorP01
import Derived.Laws.Cells
import Derived.Laws.CopyRow
import Derived.ChangeKeysEq
import Derived.DefersIn
import Derived.Test.YtgkcikhegodchaaGreatDoorP00
set_option linter.unusedVariables false
set_option linter.unusedSimpArgs false
set_option linter.unusedSectionVars false
namespace Go.Abs
open Go
variable{C:Ctx}{fid:Nat->Nat}{w w':World}{G G':cg}{H:Heap}
def cE (β:Nat->Option Home)(l:Nat)(h:Home):Nat->Option Home:=fun x=>if x=l then some h else β x
theorem dw (β:Nat->Option Home)(l:Nat)(h:Home):cE β l h l=some h:=by simp[cE]
theorem dH{β:Nat->Option Home}{l x:Nat}{h:Home}(hx:x≠l):cE β l h x=β x:=by simp[cE,hx]
theorem bd.lt (U:bd C fid G H w){l:Nat}{h:Home}(hb:G.β l=some h):l<H.length:=by
 obtain⟨o,ho,-⟩:=U.obj l h hb;rcases gD l H.length with h'|h'
 ·exact h'
 ·simp[nP h']at ho
theorem bd.none (U:bd C fid G H w){l:Nat}(hl:H.length<=l):G.β l=none:=by
 cases hb:G.β l with
 |none=>rfl
 |some h=>exact absurd (U.lt hb) (by omega)
theorem alloc_old{o:Obj}{b:Nat}(hb:b<w.heap.size):(w.alloc o).heap[b]? =w.heap[b]? :=by
 show(w.heap.push o)[b]? =_;rw[Array.getElem?_push,if_neg (by omega)]
theorem mE (w:World)(o:Obj):(w.alloc o).heap[w.heap.size]? =some o:=by
 show(w.heap.push o)[_]? =_;simp
theorem Cx{l:Nat}(hn:G.β l=none)(h:Home):mD G.β (cE G.β l h):=fun x h0 hb=>by
 have:x≠l:=fun e=>by subst e;rw[hn]at hb;cases hb
 exact⟨h0,by rw[dH this];exact hb,aN _,id,fun _=>⟨rfl,rfl⟩,fun _=>rfl⟩
theorem bd.jo (U:bd C fid G H w)(h:w'.heap=w.heap):bd C fid G H w' where
 obj l x hb:=by
  obtain⟨o,ho,hr⟩:=U.obj l x hb;exact⟨o,ho,hr.mono (.refl _) (fun b hb=>⟨hb,by rw[h]⟩) (by rw[h])⟩
 inj:=U.inj
 blk l x hb:=by rw[h];exact U.blk l x hb
 c9 b hb:=by rw[h];exact U.c9 b hb
 kV:=U.kV
 ff b o bb:=by rw[h];exact U.ff b o bb
theorem Ext.jo (h:w'.heap=w.heap)(ho:w'.os=w.os)(hp:w'.output=w.output)(m n:Nat):Ext G w G w' m n:=
 ⟨by rw[h];exact aN _,ho,hp,fun _ _ _=>by rw[h],.refl _,fun _ h hb=>.inl ⟨h,hb,.inl rfl⟩,fun _ h=>h,fun _ h=>.inl h⟩
theorem bd.push (U:bd C fid G H w)(o:cf)(aY:Obj)(tag fI:Nat)
  (ho:j8 C fid ⟨cE G.β H.length ⟨w.heap.size,tag,fI,false⟩,G.I⟩ (w.alloc aY) ⟨w.heap.size,tag,fI,false⟩ o):
  bd C fid ⟨cE G.β H.length ⟨w.heap.size,tag,fI,false⟩,G.I⟩ (H++[o]) (w.alloc aY):=by
 have hn:=U.none (aN H.length);have hle:=Cx hn ⟨w.heap.size,tag,fI,false⟩;refine⟨fun l h hb=> ?_,fun l fB h h' e e' q=> ?_,fun l h hb=> ?_,fun b hb=> ?_,fun l h hb ag=> ?_,fun b o bb=>⟨(U.ff b o bb).1,by rw[alloc_old (U.c9 b (U.ff b o bb).1).1];exact(U.ff b o bb).2⟩⟩
 ·by_cases hl:l=H.length
  ·subst hl
   simp only[dw]at hb;cases hb;exact⟨o,by simp,ho⟩
  ·simp only[dH hl]at hb
   obtain⟨o',e',hr⟩:=U.obj l h hb;have:=U.lt hb;refine⟨o',by rw[fY this];exact e',hr.mono (G':=⟨cE G.β H.length _,G.I⟩) hle (fun b hb=>⟨hb,alloc_old (U.c9 b hb).1⟩) (alloc_old (U.blk l h hb))⟩
 ·by_cases hl:l=H.length<;>by_cases nR:fB=H.length
  ·rw[hl,nR]
  ·subst hl;simp only[dw]at e;cases e
   simp only[dH nR]at e';have:=U.blk fB h' e';simp only at q;omega
  ·subst nR;simp only[dw]at e';cases e'
   simp only[dH hl]at e;have:=U.blk l h e;simp only at q;omega
  ·simp only[dH hl]at e;simp only[dH nR]at e'
   exact U.inj l fB h h' e e' q
 ·rw[World.size_alloc]
  by_cases hl:l=H.length
  ·subst hl;simp only[dw]at hb;cases hb;simp
  ·simp only[dH hl]at hb;have:=U.blk l h hb;omega
 ·have hi:=U.c9 b hb
  refine⟨by rw[World.size_alloc];omega,fun l h e q=> ?_⟩;by_cases hl:l=H.length
  ·subst hl;simp only[dw]at e;cases e;simp only at q;omega
  ·simp only[dH hl]at e;exact hi.2 l h e q
 ·by_cases hl:l=H.length
  ·subst hl;simp only[dw]at hb;cases hb;cases ag
  ·simp only[dH hl]at hb;exact U.kV l h hb ag
theorem Ext.push (U:bd C fid G H w)(aY:Obj)(tag fI m:Nat):
  Ext G w ⟨cE G.β H.length ⟨w.heap.size,tag,fI,false⟩,G.I⟩ (w.alloc aY) m H.length where
 size:=by simp
 os:=rfl
 output:=rfl
 eH b hb _:=alloc_old hb
 homes:=Cx (U.none (aN _)) _
 oG l h hb:=by
  by_cases hl:l=H.length
  ·subst hl;simp only[dw]at hb;cases hb;exact .inr ⟨aN _,aN _⟩
  ·simp only[dH hl]at hb;exact .inl ⟨h,hb,.inl rfl⟩
 c9 _ h:=h
 pI _ h:=.inl h
theorem bd.write (U:bd C fid G H w){l:Nat}{h h':Home}(hb:G.β l=some h)(ag:h.fz=false)(hB:h'.b=h.b)(Ol:h'.fz=false)
  (gg:h.tag<=h'.tag) (aJ:h.tag=0->h'.tag=0) (fJ:h'.fI=h.fI) (hs:w'.heap.size=w.heap.size)
  (x6:∀b,b≠h.b->w'.heap[b]? =w.heap[b]?) (o:cf) (ho:j8 C fid ⟨cE G.β l h',G.I⟩ w' h' o):
  bd C fid ⟨cE G.β l h',G.I⟩ (H.set l o) w':=by
 have aG:=U.lt hb;have Om:∀b,G.I b->b≠h.b:=fun b hi e=>by have:=(U.c9 b hi).2 l h hb e.symm;rw[ag]at this;cases this
 have hle:mD G.β (cE G.β l h'):=fun x h0 e=>by
  by_cases hx:x=l
  ·subst hx;rw[hb]at e;cases e
   exact⟨h',dw _ _ _,gg,aJ,fun _=>⟨hB,fJ⟩,fun q=>by rw[ag]at q;cases q⟩
  ·exact⟨h0,by rw[dH hx];exact e,aN _,id,fun _=>⟨rfl,rfl⟩,fun _=>rfl⟩
 refine⟨fun x h0 e=> ?_,fun x y h1 h2 ad e2 q=> ?_,fun x h0 e=> ?_,fun b hi=> ?_,fun x h0 e q=> ?_,fun b o bb=>⟨(U.ff b o bb).1,by rw[x6 b (Om b (U.ff b o bb).1)];exact(U.ff b o bb).2⟩⟩
 ·by_cases hx:x=l
  ·subst hx;simp only[dw]at e;cases e
   exact⟨o,by simp[aG],ho⟩
  ·simp only[dH hx]at e
   obtain⟨o',e',hr⟩:=U.obj x h0 e;have bq:h0.b≠h.b:=fun q=>hx (U.inj x l h0 h e hb q);exact⟨o',by rw[jE (lI hx)];exact e',hr.mono (G':=⟨cE G.β l _,G.I⟩) hle (fun b hi=>⟨hi,x6 b (Om b hi)⟩) (x6 _ bq)⟩
 ·by_cases hx:x=l<;>by_cases hy:y=l
  ·rw[hx,hy]
  ·subst hx;simp only[dw]at ad;cases ad;simp only[dH hy]at e2
   exact U.inj x y h h2 hb e2 (hB ▸ q)
  ·subst hy;simp only[dw]at e2;cases e2;simp only[dH hx]at ad
   exact U.inj x y h1 h ad hb (hB ▸ q)
  ·simp only[dH hx]at ad;simp only[dH hy]at e2
   exact U.inj x y h1 h2 ad e2 q
 ·rw[hs]
  by_cases hx:x=l
  ·subst hx;simp only[dw]at e;cases e;rw[hB];exact U.blk x h hb
  ·simp only[dH hx]at e;exact U.blk x h0 e
 ·refine⟨by rw[hs];exact(U.c9 b hi).1,fun x h0 e q=> ?_⟩
  by_cases hx:x=l
  ·subst hx;simp only[dw]at e;cases e
   exact absurd (q.symm.trans hB) (Om b hi)
  ·simp only[dH hx]at e;exact(U.c9 b hi).2 x h0 e q
 ·by_cases hx:x=l
  ·subst hx;simp only[dw]at e;cases e;rw[Ol]at q;cases q
  ·simp only[dH hx]at e;exact U.kV x h0 e q
theorem Ext.write (_hR:bd C fid G H w){l:Nat}{h h':Home}(hb:G.β l=some h)(ag:h.fz=false)(hB:h'.b=h.b)
  (gg:h.tag<=h'.tag) (aJ:h.tag=0->h'.tag=0) (fJ:h'.fI=h.fI) (hs:w'.heap.size=w.heap.size)
  (x6:∀b,b≠h.b->w'.heap[b]? =w.heap[b]?) (Cy:w'.os=w.os) (hp:w'.output=w.output):
  Ext G w ⟨cE G.β l h',G.I⟩ w' l H.length where
 size:=by rw[hs];exact aN _
 os:=Cy
 output:=hp
 eH b _ k:=x6 b fun e=>by
  rcases k l h hb e.symm with q|q
  ·rw[ag]at q;cases q
  ·omega
 homes x h0 e:=by
  by_cases hx:x=l
  ·subst hx;rw[hb]at e;cases e
   exact⟨h',dw _ _ _,gg,aJ,fun _=>⟨hB,fJ⟩,fun q=>by rw[ag]at q;cases q⟩
  ·exact⟨h0,by simp only[dH hx];exact e,aN _,id,fun _=>⟨rfl,rfl⟩,fun _=>rfl⟩
 oG x h0 e:=by
  by_cases hx:x=l
  ·subst hx;simp only[dw]at e;cases e;exact .inl ⟨h,hb,.inl hB.symm⟩
  ·simp only[dH hx]at e;exact .inl ⟨h0,e,.inl rfl⟩
 c9 _ h:=h
 pI _ h:=.inl h
theorem bd.move (U:bd C fid G H w){l:Nat}{h:Home}(hb:G.β l=some h)(ag:h.fz=false)(aY:Obj)(tag fI:Nat)(gg:h.tag<tag)(aJ:h.tag≠0)
  (o:cf) (ho:j8 C fid ⟨cE G.β l ⟨w.heap.size,tag,fI,false⟩,G.I⟩ (w.alloc aY) ⟨w.heap.size,tag,fI,false⟩ o):
  bd C fid ⟨cE G.β l ⟨w.heap.size,tag,fI,false⟩,G.I⟩ (H.set l o) (w.alloc aY)/\Ext G w ⟨cE G.β l ⟨w.heap.size,tag,fI,false⟩,G.I⟩ (w.alloc aY) l H.length:=by
 have aG:=U.lt hb
 have hle:mD G.β (cE G.β l ⟨w.heap.size,tag,fI,false⟩):=fun x h0 e=>by
  by_cases hx:x=l
  ·subst hx;rw[hb]at e;cases e
   exact⟨_,dw _ _ _,pB gg,fun q=>absurd q aJ,fun q=>by simp only at q;omega,fun q=>by rw[ag]at q;cases q⟩
  ·exact⟨h0,by rw[dH hx];exact e,aN _,id,fun _=>⟨rfl,rfl⟩,fun _=>rfl⟩
 refine⟨⟨fun x h0 e=> ?_,fun x y h1 h2 ad e2 q=> ?_,fun x h0 e=> ?_,fun b hi=> ?_,fun x h0 e q=> ?_,fun b o bb=>⟨(U.ff b o bb).1,by rw[alloc_old (U.c9 b (U.ff b o bb).1).1];exact(U.ff b o bb).2⟩⟩,⟨by simp,rfl,rfl,fun b hB _=>alloc_old hB,hle,fun x h0 e=> ?_,fun _ h=>h,fun _ h=>.inl h⟩⟩
 ·by_cases hx:x=l
  ·subst hx;simp only[dw]at e;cases e
   exact⟨o,by simp[aG],ho⟩
  ·simp only[dH hx]at e
   obtain⟨o',e',hr⟩:=U.obj x h0 e;exact⟨o',by rw[jE (lI hx)];exact e',hr.mono (G':=⟨cE G.β l _,G.I⟩) hle (fun b hi=>⟨hi,alloc_old (U.c9 b hi).1⟩) (alloc_old (U.blk x h0 e))⟩
 ·by_cases hx:x=l<;>by_cases hy:y=l
  ·rw[hx,hy]
  ·subst hx;simp only[dw]at ad;cases ad;simp only[dH hy]at e2
   have:=U.blk y h2 e2;simp only at q;omega
  ·subst hy;simp only[dw]at e2;cases e2;simp only[dH hx]at ad
   have:=U.blk x h1 ad;simp only at q;omega
  ·simp only[dH hx]at ad;simp only[dH hy]at e2
   exact U.inj x y h1 h2 ad e2 q
 ·rw[World.size_alloc]
  by_cases hx:x=l
  ·subst hx;simp only[dw]at e;cases e;simp
  ·simp only[dH hx]at e;have:=U.blk x h0 e;omega
 ·refine⟨by rw[World.size_alloc];have:=(U.c9 b hi).1;omega,fun x h0 e q=> ?_⟩
  by_cases hx:x=l
  ·subst hx;simp only[dw]at e;cases e
   have:=(U.c9 b hi).1;simp only at q;omega
  ·simp only[dH hx]at e;exact(U.c9 b hi).2 x h0 e q
 ·by_cases hx:x=l
  ·subst hx;simp only[dw]at e;cases e;cases q
  ·simp only[dH hx]at e;exact U.kV x h0 e q
 ·by_cases hx:x=l
  ·subst hx;simp only[dw]at e;cases e;exact .inl ⟨h,hb,.inr (aN _)⟩
  ·simp only[dH hx]at e;exact .inl ⟨h0,e,.inl rfl⟩
theorem zL{es:Nat}:∀{ds:List V},(∀d∈ds,(aI d).length=es)->∀(n:Nat),(ds.drop n).flatMap aI=(ds.flatMap aI).drop (n*es)
 |ds,_,0=>by simp
 |[],_,n+1=>by simp
 |d::ds,h,n+1=>by
  have h1:=h d (by simp);rw[Vo,zL (fun x hx=>h x (by simp[hx])) n,lH,EC,Nat.add_comm,<-uN];congr 1;rw[List.drop_left' h1]
theorem Cz{es:Nat}:∀{ds:List V},(∀d∈ds,(aI d).length=es)->∀(n:Nat),(ds.take n).flatMap aI=(ds.flatMap aI).take (n*es)
 |ds,_,0=>by simp
 |[],_,n+1=>by simp
 |d::ds,h,n+1=>by
  have h1:=h d (by simp);rw[I6,lH,Cz (fun x hx=>h x (by simp[hx])) n,lH,EC,List.take_append,h1,Nt (l:=aI d) (by rw[h1];exact Nat.le_add_left _ _),Nat.add_sub_cancel]
theorem nv{es:Nat}:∀{ds:List V},(∀d∈ds,(aI d).length=es)->(ds.flatMap aI).length=ds.length*es
 |[],_=>by simp
 |d::ds,h=>by
  rw[lH,hO,nv (fun x hx=>h x (by simp[hx])),h d (by simp),iI,EC,Nat.add_comm]
theorem CA:∀(a b:List V),cj (a++b)=(cj a&&cj b)
 |[],b=>by simp[cj]
 |v::a,b=>by simp[cj,CA a b,Cj]
theorem aiq (v:V)(h:bx v=true):cj (aI v)=true:=by
 cases v<;>simp_all [aI,cj,bx]
theorem Jx:∀{ds:List V},cj ds=true->cj (ds.flatMap aI)=true
 |[],_=>by simp[cj]
 |d::ds,h=>by
  simp only[cj,cm]at h;rw[lH,CA,aiq d h.1,Jx h.2];rfl
theorem Wj:∀{ds:List V},cj ds=true->(∀n,cj (ds.drop n)=true)/\∀n,cj (ds.take n)=true:=by
 intro ds h;constructor
 ·intro n
  have:cj (ds.take n++ds.drop n)=true:=by rw[Nv];exact h
  rw[CA,cm]at this;exact this.2
 ·intro n
  have:cj (ds.take n++ds.drop n)=true:=by rw[Nv];exact h
  rw[CA,cm]at this;exact this.1
theorem Wk{b o:Nat}{c:Array Value}{e:TypeId}{f:Nat × Nat}(h:w.heap[b]? =some (.cells c e f)):w.cell? ⟨b,o,none⟩=c[o]? :=by
 simp[World.cell?,h]
theorem iM.vX{b:Nat}{c:Array Value}{e:TypeId}{f:Nat × Nat}{vals rest:List Value}(h:w.heap[b]? =some (.cells c e f))(hc:c.toList=vals++rest):
  iM w b 0 vals:=by
 intro j x hx
 rw[Wk h,eo,<-iG,hc,fY (by
  rcases gD j vals.length with q|q
  ·exact q
  ·simp[nP q]at hx)]
 exact hx
theorem iM.drop{b o:Nat}{vals:List Value}(h:iM w b o vals)(n:Nat):iM w b (o+n) (vals.drop n):=by
 intro j x hx;rw[Vp]at hx;rw[rb];exact h (n+j) x hx
theorem iM.take{b o:Nat}{vals:List Value}(h:iM w b o vals)(n:Nat):iM w b o (vals.take n):=by
 intro j x hx;rw[I7]at hx;split at hx
 ·exact h j x hx
 ·cases hx
theorem On{l es:Nat}{ds:List V}{h:Home}{fz:Bool}(ho:j8 C fid G w h (.row es ds fz))(bp:G.I h.b)(hp:cj ds=true){off len n cap:Nat}{a:Addr}
  (al:a=⟨h.b,off*es,none⟩/\n=len/\(off+cap)*es<=h.fI/\len<=cap) (hl:off+len<=ds.length):
  gf w G.I (.list es ((ds.drop off).take len)) (.slice (some a) n cap):=by
 obtain⟨-,-,-,-,hu,c,e,vals,rest,hc,-,af,hr⟩:=ho;obtain⟨rfl,rfl,-,ev⟩:=al;have iN:=(((iM.vX hc af).drop (off*es)).take (n*es));have mF:∀d∈ds.drop off,(aI d).length=es:=fun d hd=>hu d (I3 hd);have hlen:((ds.drop off).take n).length=n:=by simp;omega
 have key:=gf.list (w:=w) (I:=G.I) es ((ds.drop off).take n) h.b (off*es) cap ((vals.drop (off*es)).take (n*es)) bp (by simpa using iN)
  (fun d hd=>mF d (Ew hd)) (by
    rw[Cz mF,zL hu];exact((hr.drop _).take _).qA ((Wj ((Wj (Jx hp)).1 _)).2 _)) (by rw[hlen];exact ev)
 rwa [hlen]at key
theorem Wl (U:bd C fid G H w){l es:Nat}{ds:List V}(hH:H[l]? =some (.row es ds false)){h:Home}(hb:G.β l=some h):
  let G':cg:=⟨cE G.β l {h with fz:=true},fun b=>G.I b\/b=h.b⟩
  bd C fid G' (H.set l (.row es ds true)) w/\Ext G w G' w l H.length/\j8 C fid G' w {h with fz:=true} (.row es ds true):=by
 intro G';obtain⟨o,ho,hr⟩:=U.obj l h hb;rw[hH]at ho;cases ho;have ag:h.fz=false:=hr.2.2.1
 have hle:mD G.β G'.β:=fun x h0 e=>by
  by_cases hx:x=l
  ·subst hx;rw[hb]at e;cases e
   exact⟨_,dw _ _ _,aN _,id,fun _=>⟨rfl,rfl⟩,fun q=>by rw[ag]at q;cases q⟩
  ·exact⟨h0,by show cE _ _ _ _=_;rw[dH hx];exact e,aN _,id,fun _=>⟨rfl,rfl⟩,fun _=>rfl⟩
 have Wm:∀b,G.I b->G'.I b/\w.heap[b]? =w.heap[b]? :=fun b hi=>⟨.inl hi,rfl⟩
 have av:j8 C fid G' w {h with fz:=true} (.row es ds true):=by
  have:=j8.mono (G':=G') hle Wm rfl hr;exact⟨this.1,this.2.1,rfl,this.2.2.2⟩
 refine⟨⟨fun x h0 e=> ?_,fun x y h1 h2 ad e2 q=> ?_,fun x h0 e=> ?_,fun b hi=> ?_,fun x h0 e q=> ?_,fun b o bb=>⟨.inl (U.ff b o bb).1,(U.ff b o bb).2⟩⟩,⟨aN _,rfl,rfl,fun _ _ _=>rfl,hle,fun x h0 e=> ?_,fun _ h=>.inl h,fun b hi=> ?_⟩,av⟩
 ·by_cases hx:x=l
  ·subst hx;rw[show G'.β=cE _ _ _ from rfl,dw]at e;cases e
   exact⟨_,by simp[U.lt hb],av⟩
  ·rw[show G'.β=cE _ _ _ from rfl,dH hx]at e
   obtain⟨o',e',dd⟩:=U.obj x h0 e;exact⟨o',by rw[jE (lI hx)];exact e',dd.mono hle Wm rfl⟩
 ·have Wn:∀z au,G'.β z=some au->∃a7,G.β z=some a7/\a7.b=au.b:=fun z au e=>by
   by_cases aJ:z=l
   ·subst aJ;rw[show G'.β=cE _ _ _ from rfl,dw]at e;cases e;exact⟨h,hb,rfl⟩
   ·rw[show G'.β=cE _ _ _ from rfl,dH aJ]at e;exact⟨au,e,rfl⟩
  obtain⟨a7,cw,j9⟩:=Wn x h1 ad;obtain⟨h5,dC,tr⟩:=Wn y h2 e2;exact U.inj x y a7 h5 cw dC (j9.trans (q.trans tr.symm))
 ·by_cases hx:x=l
  ·subst hx;rw[show G'.β=cE _ _ _ from rfl,dw]at e;cases e;exact U.blk x h hb
  ·rw[show G'.β=cE _ _ _ from rfl,dH hx]at e;exact U.blk x h0 e
 ·rcases hi with hi|rfl
  ·refine⟨(U.c9 b hi).1,fun x h0 e q=> ?_⟩
   by_cases hx:x=l
   ·subst hx;rw[show G'.β=cE _ _ _ from rfl,dw]at e;cases e;rfl
   ·rw[show G'.β=cE _ _ _ from rfl,dH hx]at e;exact(U.c9 b hi).2 x h0 e q
  ·refine⟨U.blk l h hb,fun x h0 e q=> ?_⟩
   by_cases hx:x=l
   ·subst hx;rw[show G'.β=cE _ _ _ from rfl,dw]at e;cases e;rfl
   ·rw[show G'.β=cE _ _ _ from rfl,dH hx]at e;exact absurd (U.inj x l h0 h e hb q) hx
 ·by_cases hx:x=l
  ·subst hx;rw[show G'.β=cE _ _ _ from rfl,dw]at e;cases e;exact .inr rfl
  ·rw[show G'.β=cE _ _ _ from rfl,dH hx]at e;exact .inl (U.kV x h0 e q)
 ·by_cases hx:x=l
  ·subst hx;rw[show G'.β=cE _ _ _ from rfl,dw]at e;cases e;exact .inl ⟨h,hb,.inl rfl⟩
  ·rw[show G'.β=cE _ _ _ from rfl,dH hx]at e;exact .inl ⟨h0,e,.inl rfl⟩
 ·rcases hi with hi|rfl
  ·exact .inl hi
  ·exact .inr (.inr ⟨l,h,hb,rfl⟩)
structure l6 (C:Ctx) (fid:Nat->Nat) (G:cg) (H:Heap) (w:World) (low:Nat) (G':cg) (H':Heap) (low':Nat):Prop where
 rel:bd C fid G' H' w
 ext:∀m,m<=low'->Ext G w G' w m H.length
 low:low'<=low
 len:H'.length=H.length
theorem l6.refl (U:bd C fid G H w)(low:Nat):l6 C fid G H w low G H low:=⟨U,fun _ _=>.refl _ _ _ _,aN _,rfl⟩
theorem l6.trans{zM Wo:cg}{tt Wp:Heap}{low zN Wq:Nat}(h:l6 C fid G H w low zM tt zN)(k:l6 C fid zM tt w zN Wo Wp Wq):l6 C fid G H w low Wo Wp Wq:=
 ⟨k.rel,fun m hm=>(h.ext m (c4 hm k.low)).trans ((k.ext m hm).le (aN _) (Nat.le_of_eq h.len.symm)),c4 k.low h.low,k.len.trans h.len⟩
theorem bd.swap (U:bd C fid G H w){l:Nat}{h:Home}(hb:G.β l=some h){o:cf}(ho:j8 C fid G w h o):bd C fid G (H.set l o) w:=
 ⟨fun x h0 e=>by
  by_cases hx:x=l
  ·subst hx
   rw[hb]at e;cases e;exact⟨o,by simp[U.lt hb],ho⟩
  ·obtain⟨o',e',dd⟩:=U.obj x h0 e
   exact⟨o',by rw[jE (lI hx)];exact e',dd⟩,U.inj,U.blk,U.c9,U.kV,U.ff⟩
theorem bw.ET{vs:List V}{x:Value}(h:bw fid G w (.agg vs) x):∃vals,x=.agg ⟨vals⟩/\bj fid G w vs vals:=by
 cases h with
 |p _ _ h=>cases h with|agg _ vals hr=>exact⟨vals,rfl,hr.pG⟩
 |agg _ vals hr=>exact⟨vals,rfl,hr⟩
theorem bw.Oo{vs:List V}{x:Value}(h:bw fid G w (.aF vs) x):∃vals,x=.tuple ⟨vals⟩/\bj fid G w vs vals:=by
 cases h with
 |p _ _ h=>cases h with|aF _ vals hr=>exact⟨vals,rfl,hr.pG⟩
 |aF _ vals hr=>exact⟨vals,rfl,hr⟩
structure EU (C:Ctx) (fid:Nat->Nat) (w:World) (f:Heap->Nat->V->Option (V × Heap × Nat)):Prop where
 ok:∀{G:cg} {H H':Heap} {low low':Nat} {v v':V} {x:Value},bd C fid G H w->bw fid G w v x->f H low v=some (v',H',low')->∃G',l6 C fid G H w low G' H' low'/\bw fid G' w v' x
structure Jy (C:Ctx) (fid:Nat->Nat) (w:World) (f:Heap->Nat->V->Option (V × Heap × Nat)):Prop where
 ok:∀{G:cg} {H H':Heap} {low low':Nat} {v v':V} {dk:List Value},bd C fid G H w->bj fid G w (aI v) dk->f H low v=some (v',H',low')->
  ∃G',l6 C fid G H w low G' H' low'/\bj fid G' w (aI v') dk/\(aI v').length=(aI v).length
theorem Jz{f:Heap->Nat->V->Option (V × Heap × Nat)}(ag:EU C fid w f):∀{vs vs':List V} {xs:List Value} {G:cg} {H H':Heap} {low low':Nat},bd C fid G H w->bj fid G w vs xs->
  lg f H low vs=some (vs',H',low')->∃G',l6 C fid G H w low G' H' low'/\bj fid G' w vs' xs
 |[],_,_,G,H,H',low,low',U,.nil,he=>by
  simp only[lg,aD,bH]at he;obtain⟨rfl,rfl,rfl⟩:=he;exact⟨G,.refl U _,.nil⟩
 |v::r,_,_,G,H,H',low,low',U,.cons _ x _ xs af hs,he=>by
  simp only[lg]at he;split at he
  ·rename_i v1 H1 bL h1
   split at he
   ·rename_i cq H2 dL h2
    simp only[aD,bH]at he;obtain⟨rfl,rfl,rfl⟩:=he;obtain⟨aB,f1,b4⟩:=ag.ok U af h1;obtain⟨bC,f2,dq⟩:=Jz ag f1.rel (hs.ext U (f1.ext 0 (cN _))) h2;exact⟨bC,f1.trans f2,.cons _ _ _ _ (b4.ext f1.rel (f2.ext 0 (cN _))) dq⟩
   ·cases he
  ·cases he
theorem Wr{f:Heap->Nat->V->Option (V × Heap × Nat)}(ag:Jy C fid w f):∀{vs vs':List V} {xs:List Value} {G:cg} {H H':Heap} {low low':Nat},bd C fid G H w->bj fid G w (vs.flatMap aI) xs->
  lg f H low vs=some (vs',H',low')->
  ∃G',l6 C fid G H w low G' H' low'/\bj fid G' w (vs'.flatMap aI) xs/\vs'.length=vs.length/\∀es,(∀d∈vs,(aI d).length=es)->∀d∈vs',(aI d).length=es
 |[],_,_,G,H,H',low,low',U,h,he=>by
  simp only[lg,aD,bH]at he;obtain⟨rfl,rfl,rfl⟩:=he;exact⟨G,.refl U _,h,rfl,fun _ h=>h⟩
 |v::r,_,xs,G,H,H',low,low',U,h,he=>by
  simp only[lg]at he;split at he
  ·rename_i v1 H1 bL h1
   split at he
   ·rename_i cq H2 dL h2
    simp only[aD,bH]at he;obtain⟨rfl,rfl,rfl⟩:=he;rw[lH]at h;obtain⟨cQ,dk,rfl,hy,aJ⟩:=h.split;obtain⟨aB,f1,b4,b6⟩:=ag.ok U hy h1;obtain⟨bC,f2,dq,ll,rm⟩:=Wr ag f1.rel (aJ.ext U (f1.ext 0 (cN _))) h2;refine⟨bC,f1.trans f2,?_,by simp[ll],fun es hu d hd=> ?_⟩
    ·rw[lH];exact(b4.ext f1.rel (f2.ext 0 (cN _))).append dq
    ·rcases dG.1 hd with rfl|hd
     ·rw[b6];exact hu v (by simp)
     ·exact rm es (fun d hd=>hu d (by simp[hd])) d hd
   ·cases he
  ·cases he
theorem Jy.of{f:Heap->Nat->V->Option (V × Heap × Nat)}(af:EU C fid w f)
  (mG:∀{H H':Heap} {low low':Nat} {v v':V},f H low v=some (v',H',low')->(∀vs,v≠ .agg vs)->aI v'=[v'])
  (Oq:∀{G:cg} {H H':Heap} {low low':Nat} {vs:List V} {v':V} {dk:List Value},bd C fid G H w->bj fid G w vs dk->f H low (.agg vs)=some (v',H',low')->
    ∃G' vs',v'=.agg vs'/\l6 C fid G H w low G' H' low'/\bj fid G' w vs' dk):Jy C fid w f:=by
 refine⟨fun {G H H' low low' v v' dk} U h he=> ?_⟩;by_cases al:∃vs,v=.agg vs
 ·obtain⟨vs,rfl⟩:=al
  obtain⟨G',vs',rfl,f1,b4⟩:=Oq U h he;exact⟨G',f1,b4,by have:=b4.length;have:=h.length;simp only[aI]at *; omega⟩
 ·have vY:∀vs,v≠ .agg vs:=fun vs e=>al ⟨vs,e⟩
  have e:aI v=[v]:=by cases v<;>first|rfl|(exfalso;exact vY _ rfl)
  rw[e]at h;cases h with
  |cons _ x _ xs h hs=>
   cases hs;obtain⟨aB,f1,b4⟩:=af.ok U h he;rw[mG he vY,e];exact⟨aB,f1,.cons _ _ _ _ b4 .nil,rfl⟩
theorem air{l es off len tag n cap:Nat}{a:Addr}{h:Home}{ds ds':List V}{low:Nat}{c:Array Value}{e:TypeId}{vals rest:List Value}(ht:ds.length=tag)(hle:off+len<=ds.length)
  {zM:cg} {tt:Heap} {zN:Nat} {Ws:List V} (hb:G.β l=some h) (gg:h.tag=tag) (al:a=⟨h.b,off*es,none⟩/\n=len/\(off+cap)*es<=h.fI/\len<=cap)
  (iW:0<ds.length) (fc:0<es) (hc:w.heap[h.b]? =some (.cells c e (0,0))) (dr:h.fI=c.size) (jq:c.toList=vals++rest)
  (sx:bj fid zM w (ds'.flatMap aI) vals) (hlen:ds'.length=ds.length)
  (pJ:∀d∈ds',(aI d).length=es) (ag:l6 C fid G H w low zM tt zN)
  (Ot:tt[l]? =some (.row es Ws false)) (ais:Ws.length=tag) (hp:cj ds'=true):
  ∃G',l6 C fid G H w low G' (tt.set l (.row es ds' true)) (min zN l)/\bw fid G' w (.list es ((ds'.drop off).take len)) (.slice (some a) n cap):=by
 obtain⟨h',hB,t1,-,m1,-⟩:=(ag.ext 0 (cN _)).homes l h hb;obtain⟨o',ka,dd⟩:=ag.rel.obj l h' hB;rw[Ot]at ka;cases ka;have Wt:h'.tag=h.tag:=by rw[dd.1,ais,gg]
 obtain⟨eb,EV⟩:=m1 Wt
 have av:j8 C fid zM w h' (.row es ds' false):=
  ⟨by rw[Wt,gg,<-ht,hlen],by omega,dd.2.2.1,fc,pJ,c,e,vals,rest,by rw[eb];exact hc,by rw[EV];exact dr,jq,sx⟩
 have ait:=ag.rel.swap hB av
 have aG:l<tt.length:=by
  rcases gD l tt.length with q|q
  ·exact q
  ·rw[nP q]at Ot;cases Ot
 have aiu:(tt.set l (.row es ds' false))[l]? =some (.row es ds' false):=by simp[aG]
 obtain⟨h1,h2,au⟩:=Wl ait aiu hB;rw[List.set_set]at h1
 have fz:l6 C fid zM tt w zN _ (tt.set l (.row es ds' true)) (min zN l):=
  ⟨h1,fun m hm=>h2.le (c4 hm (oC _ _)) (by simp),j3 _ _,by simp⟩
 refine⟨_,ag.trans fz,.p _ _ (On (l:=l) au (.inr rfl) hp ?_ (by rw[hlen];exact hle))⟩;show a=⟨h'.b,off*es,none⟩/\n=len/\(off+cap)*es<=h'.fI/\len<=cap;rw[eb,EV];exact al
theorem Ou:∀(n:Nat),EU C fid w (ec n)/\Jy C fid w (ec n)
 |0=>by
  have af:EU C fid w (ec 0):=by
   refine⟨fun {G H H' low low' v v' x} U h he=> ?_⟩;simp only[ec]at he;split at he
   ·simp only[aD,bH]at he
    obtain⟨rfl,rfl,rfl⟩:=he;exact⟨G,.refl U _,h⟩
   ·cases he
  refine⟨af,.of af (fun {H H' low low' v v'} he vY=> ?_) (fun {G H H' low low' vs v' dk} U h he=> ?_)⟩
  ·simp only[ec]at he
   split at he
   ·simp only[aD,bH]at he
    obtain⟨rfl,-,-⟩:=he;cases v<;>first|rfl|(exfalso;exact vY _ rfl)
   ·cases he
  ·simp only[ec]at he
   split at he
   ·simp only[aD,bH]at he
    obtain⟨rfl,rfl,rfl⟩:=he;exact⟨G,vs,rfl,.refl U _,h⟩
   ·cases he
 |n+1=>by
  obtain⟨Ov,aiv⟩:=Ou n
  have af:EU C fid w (ec (n+1)):=by
   refine⟨fun {G H H' low low' v v' x} U h he=> ?_⟩;simp only[ec]at he;split at he
   ·simp only[aD,bH]at he
    obtain⟨rfl,rfl,rfl⟩:=he;exact⟨G,.refl U _,h⟩
   ·split at he
    ·rename_i vs
     split at he
     ·rename_i vs' H1 bL h1
      simp only[aD,bH]at he;obtain⟨rfl,rfl,rfl⟩:=he;obtain⟨vals,rfl,hr⟩:=h.ET;obtain⟨aB,f1,b4⟩:=Jz Ov U hr h1;exact⟨aB,f1,.agg _ _ b4⟩
     ·cases he
    ·rename_i vs
     split at he
     ·rename_i vs' H1 bL h1
      simp only[aD,bH]at he;obtain⟨rfl,rfl,rfl⟩:=he;obtain⟨vals,rfl,hr⟩:=h.Oo;obtain⟨aB,f1,b4⟩:=Jz Ov U hr h1;exact⟨aB,f1,.aF _ _ b4⟩
     ·cases he
    ·rename_i l es off len tag _
     split at he
     ·rename_i bV ds fz hl
      split at he
      ·rename_i hc
       obtain⟨rfl,ht,hle⟩:=hc;split at he
       ·rename_i hp
        simp only[aD,bH]at he;obtain⟨rfl,rfl,rfl⟩:=he;cases h with
        |p _ _ h=>cases h
        |cB _ _ _ _ _ h a n cap hb Ow al=>
         obtain⟨o,ho,hr⟩:=U.obj l h hb;rw[hl]at ho;cases ho;have gg:h.tag=tag:=hr.1.trans ht;cases fz with
         |true=>
          exact⟨G,.refl U _,.p _ _ (On (l:=l) hr (U.kV l h hb hr.2.2.1) hp (al gg) hle)⟩
         |false=>
          obtain⟨h1,h2,au⟩:=Wl U hl hb;exact⟨_,⟨h1,fun m hm=>h2.le (c4 hm (oC _ _)) (aN _),j3 _ _,by simp⟩,.p _ _ (On (l:=l) au (.inr rfl) hp (al gg) hle)⟩
       ·split at he
        ·rename_i ds' H1 bL h1
         split at he
         ·rename_i Vx Cn CB
          split at he
          ·rename_i CC
           obtain⟨rfl,pK,hp⟩:=CC;simp only[aD,bH]at he;obtain⟨rfl,rfl,rfl⟩:=he;cases h with
           |p _ _ h=>cases h
           |cB _ _ _ _ _ h a n cap hb Ow al=>
            obtain⟨o,ho,hr⟩:=U.obj l h hb;rw[hl]at ho;cases ho;have gg:h.tag=tag:=hr.1.trans ht;obtain⟨-,iW,-,fc,hu,c,e,vals,rest,hc,dr,jq,fC⟩:=hr;obtain⟨aB,f1,b4,b6,kW⟩:=Wr aiv U fC h1;exact air ht hle hb gg (al gg) iW fc hc dr jq b4 b6 (kW _ hu) f1 CB pK hp
          ·cases he
         ·cases he
        ·cases he
      ·cases he
     ·cases he
    ·simp only[aD,bH]at he
     obtain⟨rfl,rfl,rfl⟩:=he;exact⟨G,.refl U _,h⟩
  refine⟨af,.of af (fun {H H' low low' v v'} he vY=> ?_) (fun {G H H' low low' vs v' dk} U h he=> ?_)⟩
  ·simp only[ec]at he
   repeat' split at he
   all_goals first
    |cases he;done
    |(simp only[aD,bH]at he;obtain⟨rfl,-,-⟩:=he;first|rfl|(exfalso;exact vY _ rfl)|(cases v<;>first|rfl|(exfalso;exact vY _ rfl)))
  ·simp only[ec]at he
   split at he
   ·simp only[aD,bH]at he
    obtain⟨rfl,rfl,rfl⟩:=he;exact⟨G,vs,rfl,.refl U _,h⟩
   ·split at he
    ·rename_i vs' H1 bL h1
     simp only[aD,bH]at he;obtain⟨rfl,rfl,rfl⟩:=he;obtain⟨aB,f1,b4⟩:=Jz Ov U h h1;exact⟨aB,vs',rfl,f1,b4⟩
    ·cases he
theorem JA (U:bd C fid G H w){low low':Nat}{v v':V}{x:Value}{H':Heap}(af:bw fid G w v x)(he:gl H low v=some (v',H',low')):
 ∃G',l6 C fid G H w low G' H' low'/\bw fid G' w v' x:=(Ou 16).1.ok U af he
theorem aiw (U:bd C fid G H w){low low':Nat}{v v':V}{dk:List Value}{H':Heap}(af:bj fid G w (aI v) dk)(he:gl H low v=some (v',H',low')):
 ∃G',l6 C fid G H w low G' H' low'/\bj fid G' w (aI v') dk/\(aI v').length=(aI v).length:=(Ou 16).2.ok U af he
theorem Ox:∀{vs vs':List V} {xs:List Value} {G:cg} {H H':Heap} {low low':Nat},bd C fid G H w->bj fid G w vs xs->fb H low vs=some (vs',H',low')->
  ∃G',l6 C fid G H w low G' H' low'/\bj fid G' w vs' xs
 |[],_,_,G,H,H',low,low',U,.nil,he=>by
  simp only[fb,aD,bH]at he;obtain⟨rfl,rfl,rfl⟩:=he;exact⟨G,.refl U _,.nil⟩
 |v::r,_,_,G,H,H',low,low',U,.cons _ x _ xs af hs,he=>by
  simp only[fb]at he;split at he
  ·rename_i v1 H1 bL h1
   split at he
   ·rename_i cq H2 dL h2
    simp only[aD,bH]at he;obtain⟨rfl,rfl,rfl⟩:=he;obtain⟨aB,f1,b4⟩:=JA U af h1;obtain⟨bC,f2,dq⟩:=Ox f1.rel (hs.ext U (f1.ext 0 (cN _))) h2;exact⟨bC,f1.trans f2,.cons _ _ _ _ (b4.ext f1.rel (f2.ext 0 (cN _))) dq⟩
   ·cases he
  ·cases he
end Go.Abs
namespace Go.Abs
open Go
variable{C:Ctx}{fid:Nat->Nat}{w w':World}{G G':cg}{H:Heap}
def JB (P:Program)(d:Deferred):Prop:=
 ∃fv cap f args,d.target=.fn fv cap/\∀w,(invoke d.target d.args).run P w=.ok (.enter f args) w/\
  CallsDIn Fence.wide 0 P f args .returning w fun e u' w'=>(∃v,e=.returned v)/\u'=.returning/\w'=w
structure fl (C:Ctx) (fid:Nat->Nat):Prop where
 f:∀f i,C.EJ f=some i->i=f
 aix:∀i,i∈C.zE->∀caps:Array Value,JB C.P {target:=.fn (.func i) caps,args:= #[]}
mutual
theorem EW{I:Nat->Prop}:∀(x:Value) {v:V},ns x=some v->v=.undef\/gf w I v x
 | .bool b,v,h=>by simp only[ns,aD]at h;subst h;exact .inr (.bool b)
 | .int k n,v,h=>by simp only[ns,aD]at h;subst h;exact .inr (.int k n)
 | .string ⟨⟨s⟩⟩,v,h=>by simp only[ns,aD]at h;subst h;exact .inr (.str s)
 | .pointer none,v,h=>by simp only[ns,aD]at h;subst h;exact .inr .jj
 | .slice none 0 0,v,h=>by simp only[ns,aD]at h;subst h;exact .inr .cu
 | .map none,v,h=>by simp only[ns,aD]at h;subst h;exact .inr .jk
 | .nilFunc,v,h=>by simp only[ns,aD]at h;subst h;exact .inr .kr
 | .nilIface,v,h=>by simp only[ns,aD]at h;subst h;exact .inr .j5
 | .agg ⟨vs⟩,v,h=>by
   simp only[ns,cD]at h;obtain⟨us,hu,rfl⟩:=h;exact .inr (.agg us vs (EX vs hu))
 | .tuple ⟨[]⟩,v,h=>by simp only[ns,aD]at h;subst h;exact .inl rfl
 | .tuple ⟨_::_⟩,v,h=>by simp[ns]at h
 | .slice none (n+1) _,v,h=>by simp[ns]at h
 | .slice none 0 (n+1),v,h=>by simp[ns]at h
 | .pointer (some _),v,h| .slice (some _) _ _,v,h| .map (some _),v,h| .float ..,v,h| .complex ..,v,h| .chan ..,v,h| .func ..,v,h| .iface ..,v,h=>by simp[ns]at h
theorem EX{I:Nat->Prop}:∀(xs:List Value) {vs:List V},Cs xs=some vs->dp w I vs xs
 |[],vs,h=>by simp only[Cs,aD]at h;subst h;exact .nil
 |x::r,vs,h=>by
  simp only[Cs]at h;split at h
  ·rename_i v af
   split at h
   ·cases h
   ·simp only[cD]at h
    obtain⟨us,hu,rfl⟩:=h;exact .cons v x us r ((EW x af).resolve_left (by rintro rfl;simp_all [vO])) (EX r hu)
  ·cases h
end
def fK (C:Ctx)(fid:Nat->Nat)(vars:List Nat)(G:cg)(w:World)(ah:ai->V)(ρ:Operand->Value):Prop:=
 ∀x cO,C.cl vars x=some cO->bw fid G w (ah cO) (ρ x)
def df (C:Ctx)(fid:Nat->Nat)(G:cg)(H:Heap)(w:World)(aiy:Nat)(r:Result Next)(v:V)(H':Heap)(low':Nat):Prop:=
 ∃x w' G',(r=.ok (.value x) w'\/(r=.ok .skip w'/\x=undef))/\bd C fid G' H' w'/\(∀m,m<=low'->Ext G w G' w' m H.length)/\bw fid G' w' v x/\low'<=aiy/\H.length<=H'.length
theorem df.same (U:bd C fid G H w){low:Nat}{r:Result Next}{v:V}{x:Value}(hr:r=.ok (.value x) w)(af:bw fid G w v x):df C fid G H w low r v H low:=
 ⟨x,w,G,.inl hr,U,fun _ _=>.refl _ _ _ _,af,aN _,aN _⟩
theorem df.alloc (U:bd C fid G H w){low:Nat}{r:Result Next}{v:V}{x:Value}{o:cf}{aY:Obj}(tag fI:Nat)(hr:r=.ok (.value x) (w.alloc aY))
  (ho:j8 C fid ⟨cE G.β H.length ⟨w.heap.size,tag,fI,false⟩,G.I⟩ (w.alloc aY) ⟨w.heap.size,tag,fI,false⟩ o)
  (af:bw fid ⟨cE G.β H.length ⟨w.heap.size,tag,fI,false⟩,G.I⟩ (w.alloc aY) v x):df C fid G H w low r v (H++[o]) low:=
 ⟨x,_,_,.inl hr,U.push o aY tag fI ho,fun m _=>.push U aY tag fI m,af,aN _,by simp⟩
theorem df.CD{low bL:Nat}{aB:cg}{H1:Heap}(f:l6 C fid G H w low aB H1 bL){r:Result Next}{v:V}{H':Heap}{low':Nat}(h:df C fid aB H1 w bL r v H' low'):
  df C fid G H w low r v H' low':=by
 obtain⟨x,w',G',hr,U,he,af,hl,hn⟩:=h;refine⟨x,w',G',hr,U,fun m hm=>(f.ext m (c4 hm hl)).trans ((he m hm).le (aN _) (Nat.le_of_eq f.len.symm)),af,c4 hl f.low,by have:=f.len;omega⟩
section ops
variable{vars:List Nat}{ah:ai->V}{ρ:Operand->Value}{low low':Nat}{v:V}{H':Heap}{pos:String}{dv:cX}{o:Oper}
theorem Oy (bP:fl C fid){f:FuncId}{cO:ai}(h:C.cl vars (.func f)=some cO){aM ay:Env}:bw fid G w (cO.ah aM ay) (.func (.func f) #[] #[]):=by
 simp only[Ctx.cl,cD]at h;obtain⟨i,hi,rfl⟩:=h;have e:=bP.f f i hi;subst e;exact bw.fn (fid:=fid) (G:=G) (w:=w) i [] [] [] [] .nil .nil
theorem bw.ln{x:Value}{b:Bool}(h:bw fid G w (.bool b) x):x=.bool b:=by
 cases h with|p _ _ h=>cases h;rfl
theorem bw.ku{x:Value}{k:IntKind}{n:Int}(h:bw fid G w (.int k n) x):x=.int k n:=by
 cases h with|p _ _ h=>cases h;rfl
theorem bw.oH{x:Value}{s:List UInt8}(h:bw fid G w (.str s) x):x=.string ⟨⟨s⟩⟩:=by
 cases h with|p _ _ h=>cases h;rfl
theorem bw.nS{x:Value}{l o:Nat}(h:bw fid G w (.ptr l o) x):∃h,G.β l=some h/\h.tag=0/\x=.pointer (some ⟨h.b,o,none⟩):=by
 cases h with
 |p _ _ h=>cases h
 |ptr _ _ h hb ht=>exact⟨h,hb,ht,rfl⟩
theorem bw.mapInv{x:Value}{l:Nat}(h:bw fid G w (.map l) x):∃h,G.β l=some h/\h.tag=0/\x=.map (some h.b):=by
 cases h with
 |p _ _ h=>cases h
 |map _ h hb ht=>exact⟨h,hb,ht,rfl⟩
theorem bw.EY{x:Value}{l es i f tag:Nat}(h:bw fid G w (.hz l es i f tag) x):
  ∃h a,G.β l=some h/\tag<=h.tag/\(h.tag=tag->a=⟨h.b,i*es+f,none⟩)/\x=.pointer (some a):=by
 cases h with
 |p _ _ h=>cases h
 |hz _ _ _ _ _ h a hb hle al=>exact⟨h,a,hb,hle,al,rfl⟩
theorem bw.Oz{x:Value}{vs:List V}{f:Nat}(h:bw fid G w (.dz vs f) x):
  ∃b o vals,G.I b/\iM w b o vals/\dp w G.I vs vals/\x=.pointer (some ⟨b,o+f,none⟩):=by
 cases h with
 |p _ _ h=>cases h
 |dz _ _ b o vals bp hc hr=>exact⟨b,o,vals,bp,hc,hr,rfl⟩
theorem bw.oI{x:Value}{l es off len tag:Nat}(h:bw fid G w (.cB l es off len tag) x):
  ∃h a n cap,G.β l=some h/\tag<=h.tag/\(h.tag=tag->a=⟨h.b,off*es,none⟩/\n=len/\(off+cap)*es<=h.fI/\len<=cap)/\x=.slice (some a) n cap:=by
 cases h with
 |p _ _ h=>cases h
 |cB _ _ _ _ _ h a n cap hb hle al=>exact⟨h,a,n,cap,hb,hle,al,rfl⟩
theorem bw.CE{x:Value}{i:Nat}{fs cs:List V}(h:bw fid G w (.fn i fs cs) x):
  ∃xs cQ,bj fid G w fs xs/\bj fid G w cs cQ/\x=.func (.func i) ⟨xs⟩ ⟨cQ⟩:=by
 cases h with
 |p _ _ h=>cases h with|fn _ _ _ xs cQ ag hc=>exact⟨xs,cQ,dp.pG ag,dp.pG hc,rfl⟩
 |fn _ _ _ xs cQ ag hc=>exact⟨xs,cQ,ag,hc,rfl⟩
theorem bw.aiz{x:Value}{l:Nat}(h:bw fid G w (.yield l) x):∃h,G.β l=some h/\h.tag=0/\x=.func (.yield h.b) #[] #[]:=by
 cases h with
 |p _ _ h=>cases h
 |yield _ h hb ht=>exact⟨h,hb,ht,rfl⟩
theorem bj.iV{cs:List V}{xs:List Value}(h:bj fid G w cs xs){o:Nat}{sh:Option Nat}{u:V}(hr:Abs.iV cs o sh=some u):
  match sh with
  |none=>∃x,xs[o]? =some x/\bw fid G w u x
  |some n=>o+n<=xs.length/\bw fid G w u (.agg ⟨(xs.drop o).take n⟩):=by
 cases sh with
 |none=>exact h.get hr
 |some n=>
  simp only[Abs.iV]at hr;split at hr
  ·rename_i hle
   simp only[aD]at hr;subst hr;exact⟨by rw[h.length];exact hle,.agg _ _ ((h.drop o).take n)⟩
  ·cases hr
theorem Wu{t:TypeId}{sh:Option Nat}(h:C.shapeOf t=some sh):
  (∃n,sh=some n/\(∀w,(isAgg t).run C.P w=.ok true w)/\∀w,(Go.sizeOf t).run C.P w=.ok n w)\/(sh=none/\∀w,(isAgg t).run C.P w=.ok false w):=by
 unfold Ctx.shapeOf at h
 have key:∀d,C.P.underlying t=some d->∀w,(isAgg t).run C.P w=.ok (match d with| .struct _| .array _ _=>true| _=>false) w:=by
  intro d hd w;unfold isAgg;rw[Sem.run_bind,run_underlying hd];cases d<;>rfl
 have nT:∀n,C.sizeOf t=some n->∀w,(Go.sizeOf t).run C.P w=.ok n w:=by
  intro n hn w;simp only[Ctx.sizeOf,cD]at hn;obtain⟨i,hi,rfl⟩:=hn;unfold Go.sizeOf;rw[Sem.run_bind,run_typeInfo (P:=C.P) w hi];rfl
 cases hd:C.P.underlying t with
 |none=>rw[hd]at h;cases h
 |some d=>
  rw[hd]at h;have hk:=key d hd
  cases d<;>simp only[aD,cD]at h<;>
   first
    |exact .inr ⟨h.symm,hk⟩
    |(obtain⟨n,hn,rfl⟩:=h;exact .inl ⟨n,rfl,hk,nT n hn⟩)
theorem OA{t:TypeId}{sh:Option Nat}(h:C.shapeOf t=some sh){b o:Nat}{cs:List V}{vals:List Value}{f:Nat}(hc:iM w b o vals)(af:bj fid G w cs vals){u:V}
  (hr:Abs.iV cs f sh=some u):∃x,(loadVar t ⟨b,o+f,none⟩).run C.P w=.ok x w/\bw fid G w u x:=by
 have hk:=af.iV hr;rcases Wu h with⟨n,rfl,al,hs⟩|⟨rfl,al⟩
 ·obtain⟨hle,hu⟩:=hk
  refine⟨_,?_,hu⟩
  have fJ:∀(j:Nat) (x:Value),((vals.drop f).take n)[j]? =some x->w.cell? (Addr.add ⟨b,o+f,none⟩ j)=some x:=by
   intro j x hx;rw[Addr.add_lit];rw[I7]at hx;split at hx
   ·rw[Vp]at hx;rw[rb];exact hc _ _ hx
   ·cases hx
  have hl:=run_loadCells_list (P:=C.P) w ⟨b,o+f,none⟩ _ fJ;have hlen:((vals.drop f).take n).length=n:=by simp;omega
  rw[hlen]at hl;unfold loadVar;simp only[Sem.run_bind,al,hs,Result.andThen_ok,if_true,hl,Sem.run_pure]
 ·obtain⟨x,hx,hu⟩:=hk
  refine⟨x,?_,hu⟩;unfold loadVar;simp only[Sem.run_bind,al,Result.andThen_ok,fV,if_false,run_load,hc f x hx]
theorem Wv (U:bd C fid G H w){t:TypeId}{sh:Option Nat}(h:C.shapeOf t=some sh){a u:V}{x:Value}(al:bw fid G w a x)(he:kt H sh a=some u):
  ∃y,(Instr.loadAt t x).run C.P w=.ok y w/\bw fid G w u y:=by
 unfold kt at he;split at he
 ·rename_i l o
  obtain⟨h0,hb,ht,rfl⟩:=al.nS;split at he
  ·rename_i vs hl
   obtain⟨aY,ho,hr⟩:=U.obj l h0 hb;rw[hl]at ho;cases ho;obtain⟨-,-,c,e,hc,af⟩:=hr;obtain⟨y,hy,hu⟩:=OA (o:=0) h (iM.vX (vals:=c.toList) (rest:=[]) hc (by simp)) af he;rw[eo]at hy;exact⟨y,by simp only[Instr.loadAt,Instr.sureAddr,Sem.run_bind,Sem.run_pure,Result.andThen_ok,hy],hu⟩
  ·cases he
 ·rename_i l es i f tag
  obtain⟨h0,dh,hb,hle,iy,rfl⟩:=al.EY;split at he
  ·rename_i bV ds fz hl
   split at he
   ·rename_i hc
    obtain⟨rfl,gg⟩:=hc;obtain⟨aY,ho,hr⟩:=U.obj l h0 hb;rw[hl]at ho;cases ho;obtain⟨ht,-,-,-,hu,c,e,vals,rest,hc,fJ,af,fC⟩:=hr;obtain⟨d,hd,EZ⟩:=dW.1 he;have l7:(aI d).length=bV:=hu d (eZ hd)
    have aiA:bj fid G w (aI d) ((vals.drop (i*bV)).take bV):=by
     have h1:(ds.drop i).flatMap aI=(ds.flatMap aI).drop (i*bV):=zL hu i
     have h2:ds.drop i=d::ds.drop (i+1):=by
      obtain⟨hi,rfl⟩:=eY.1 hd;exact qo hi
     have au:=(fC.drop (i*bV)).take bV;rw[<-h1,h2,lH,List.take_append,l7,Nat.sub_self,List.take_zero,qt,Nt (by omega)]at au;exact au
    have iN:iM w h0.b (i*bV) ((vals.drop (i*bV)).take bV):=by
     have:=((iM.vX hc af).drop (i*bV)).take bV;rwa [eo]at this
    obtain⟨y,hy,aiB⟩:=OA h iN aiA EZ;rw[iy (ht.trans gg)];exact⟨y,by simp only[Instr.loadAt,Instr.sureAddr,Sem.run_bind,Sem.run_pure,Result.andThen_ok,hy],aiB⟩
   ·cases he
  ·cases he
 ·rename_i vs f
  obtain⟨b,o,vals,bp,hc,hr,rfl⟩:=al.Oz;obtain⟨y,hy,hu⟩:=OA h hc (dp.pG (fid:=fid) hr) he;exact⟨y,by simp only[Instr.loadAt,Instr.sureAddr,Sem.run_bind,Sem.run_pure,Result.andThen_ok,hy],hu⟩
 ·cases he
theorem Ww{c:V}{x:Value}(h:bw fid G w c x)(hc:dY c=true):x.oneCell'=true:=by
 cases h with
 |p _ _ h=>cases h<;>first|rfl|simp[dY]at hc
 |agg=>simp[dY]at hc
 |aF=>simp[dY]at hc
 |undef=>simp[dY]at hc
 | _=>rfl
theorem JC:∀{cs:List V} {xs:List Value},bj fid G w cs xs->bM cs=true->∀x∈xs,x.oneCell'=true
 | _,_,.nil,_,x,hx=>by simp at hx
 | _,_,.cons v y vs cQ h hs,hc,x,hx=>by
   simp only[bM,cm]at hc;rcases dG.1 hx with rfl|hx
   ·exact Ww h hc.1
   ·exact JC hs hc.2 x hx
theorem CF{v:V}{y:Value}(h:bw fid G w v y)(hc:bM (aI v)=true):bj fid G w (aI v) y.cells.toList/\∀c∈y.cells.toList,c.oneCell'=true:=by
 by_cases af:∃vs,v=.agg vs
 ·obtain⟨vs,rfl⟩:=af
  obtain⟨vals,rfl,hr⟩:=h.ET;exact⟨hr,JC hr hc⟩
 ·have e:aI v=[v]:=by
   cases v<;>first|rfl|(exfalso;exact af ⟨_,rfl⟩)
  rw[e]at hc⊢;have h1:y.oneCell'=true:=Ww h (by simpa[bM]using hc);have e':y.cells= #[y]:=by cases y<;>first|rfl|simp[Value.oneCell']at h1
  rw[e'];exact⟨.cons _ _ _ _ h .nil,fun c hc=>by simp at hc;subst hc;exact h1⟩
theorem E0:∀{cQ:List V} {dk:List Value} {cs:List V} {xs:List Value} (o:Nat),bj fid G w cs xs->bj fid G w cQ dk->o+cQ.length<=cs.length->
  bj fid G w (setCells cs o cQ) (xs.take o++dk++xs.drop (o+dk.length))
 | _,_,cs,xs,o,h,.nil,_=>by simpa[setCells]using h
 | _,_,cs,xs,o,h,.cons y z cQ dk hy hs,hl=>by
   have hlen:=h.length;simp only[iI]at hl;have ih:=E0 (o+1) (h.set o hy) hs (by simp;omega);simp only[setCells];have e:=list_seg_step xs o z dk (by have:=hs.length;omega);rw[<-iI (a:=z)]at e;rw[<-e];exact ih
theorem Wx:∀(cQ cs:List V) (o:Nat),(setCells cs o cQ).length=cs.length
 |[],cs,o=>rfl
 |y::cQ,cs,o=>by rw[setCells,Wx cQ];simp
theorem setRow_other{g b:Nat}(hb:b≠g)(c:Array Value):(w.setRow g c).heap[b]? =w.heap[b]? :=by
 unfold World.setRow;simp only[Nw];rw[if_neg (by omega)]
theorem setRow_size (g:Nat)(c:Array Value):(w.setRow g c).heap.size=w.heap.size:=by
 unfold World.setRow;simp
theorem aiC{vs cQ:List V}{o:Nat}(a1:bM cQ=true)(ia:o+cQ.length<=vs.length){v:V}(h:setCells vs o cQ=[.undef,v]):(∃v',vs=[.undef,v'])/\(cQ=[]\/1<=o):=by
 match cQ,a1,ia,h with
 |[],_,_,h=>exact⟨⟨v,h⟩,.inl rfl⟩
 |[y],a1,ia,h=>
  simp only[setCells]at h
  match o,vs,ia,h with
  |0,a::r,_,h=>
   simp only[NG,xP]at h;rw[h.1]at a1;simp[bM,dY]at a1
  |1,[a,b],_,h=>
   simp only[Vq,NG,xP]at h;rw[h.1];exact⟨⟨b,rfl⟩,.inr (aN _)⟩
  |1,a::b::c::r,_,h=>simp at h
  |n+2,a::b::c::r,_,h=>simp at h
  |n+2,[a,b],ia,_=>simp at ia
 |y::z::r,a1,ia,h=>
  have hl:∀(xs a:List V) (o:Nat),(setCells a o xs).length=a.length:=by
   intro xs
   induction xs with
   |nil=>intro a o;rfl
   |cons x xs ih=>intro a o;rw[setCells,ih,zu]
  have:=congrArg List.length h;rw[hl]at this;simp only[iI,oD]at this ia;have ho:o=0:=by omega
  have hr:r=[]:=zp.1 (by omega);subst ho hr
  match vs,this,h with
  |[a,b],_,h=>
   simp[setCells]at h;rw[h.1]at a1;simp[bM,dY]at a1
theorem aiD (U:bd C fid G H w){l:Nat}{h:Home}{vs cQ:List V}(hb:G.β l=some h)(hl:H[l]? =some (.cells vs)){o:Nat}{dk:List Value}(hy:bj fid G w cQ dk)
  (a1:bM cQ=true) (ia:o+cQ.length<=vs.length) {c:Array Value} {e:TypeId} (hc:w.heap[h.b]? =some (.cells c e (0,0))):
  ∃G',bd C fid G' (H.set l (.cells (setCells vs o cQ))) (w.setRow h.b (c.toList.take o++dk++c.toList.drop (o+dk.length)).toArray)/\
   Ext G w G' (w.setRow h.b (c.toList.take o++dk++c.toList.drop (o+dk.length)).toArray) l H.length:=by
 obtain⟨aY,ho,hr⟩:=U.obj l h hb;rw[hl]at ho;cases ho;obtain⟨ht,ag,c',e',pL,af⟩:=hr;rw[hc]at pL;cases pL;refine⟨⟨cE G.β l h,G.I⟩,?_,?_⟩
 ·refine bd.write U hb ag rfl ag (aN _) id rfl (setRow_size _ _) (fun b bq=>setRow_other bq _) _ ?_
  have hC:ES C (w.setRow h.b (c.toList.take o++dk++c.toList.drop (o+dk.length)).toArray) h.b (setCells vs o cQ):=fun v CG=>by
   obtain⟨⟨v',q1⟩,q2⟩:=aiC a1 ia CG;obtain⟨cT,ad,b4,dq,jK⟩:=ht.2 v' q1;rw[hc]at b4;cases b4;refine⟨_,e,setRow_heap w h.b c _ e _ hc,dq,?_⟩
   have key:(c.toList.take o++dk++c.toList.drop (o+dk.length)).toArray[0]? =c[0]? :=by
    rw[tg,<-iG];rcases q2 with rfl|q2
    ·have:dk=[]:=by have:=hy.length;exact zp.1 (by simpa using this)
     subst this;simp
    ·have gm:=af.length
     rw[q1]at gm;rw[kR,fY (by rw[q9];simp only[iI,oD]at gm;omega),I7,if_pos (by omega)]
   rw[key];exact jK
  refine⟨⟨ht.1,hC⟩,ag,_,e,setRow_heap w h.b c _ e _ hc,?_⟩
  have hx:Ext G w ⟨cE G.β l h,G.I⟩ (w.setRow h.b (c.toList.take o++dk++c.toList.drop (o+dk.length)).toArray) l H.length:=
   Ext.write U hb ag rfl (aN _) id rfl (setRow_size _ _) (fun b bq=>setRow_other bq _) rfl rfl
  exact((E0 o af hy ia).ext U hx)
 ·exact Ext.write U hb ag rfl (aN _) id rfl (setRow_size _ _) (fun b bq=>setRow_other bq _) rfl rfl
theorem Wy:∀(xs a b:List V) (o:Nat),o+xs.length<=a.length->setCells (a++b) o xs=setCells a o xs++b
 |[],_,_,_,_=>rfl
 |x::xs,a,b,o,h=>by
  simp only[iI]at h;rw[setCells,setCells,I4 _ _ (by omega),Wy xs _ b (o+1) (by simp;omega)]
theorem Wz:∀(xs a b:List V) (o:Nat),setCells (a++b) (a.length+o) xs=a++setCells b o xs
 |[],_,_,_=>rfl
 |x::xs,a,b,o=>by
  rw[setCells,setCells,List.set_append_right _ _ (by omega),Nat.add_sub_cancel_left,rb,Wz xs a]
theorem OB{es:Nat}{d':V}{f:Nat}{xs:List V}:∀{ds:List V} {i:Nat} {d:V},(∀d∈ds,(aI d).length=es)->ds[i]? =some d->f+xs.length<=es->aI d'=setCells (aI d) f xs->
  (ds.set i d').flatMap aI=setCells (ds.flatMap aI) (i*es+f) xs
 |[],i,d,_,h,_,_=>by simp at h
 |a::ds,0,d,hu,h,ag,he=>by
  simp at h;subst h;have:=hu a (by simp);rw[NG,lH,lH,he,Nat.zero_mul,eo,Wy _ _ _ _ (by omega)]
 |a::ds,i+1,d,hu,h,ag,he=>by
  have h1:=hu a (by simp);have ih:=OB (fun x hx=>hu x (by simp[hx])) (i:=i) (d:=d) (ds:=ds) (by simpa using h) ag he;rw[Vq,lH,lH,ih,EC,Nat.add_comm (i*es) es,rb,<-h1,Wz]
theorem aiE{d d':V}{f:Nat}{xs:List V}(h:xU d f xs=some d')(hp:mz xs=true):aI d'=setCells (aI d) f xs/\f+xs.length<=(aI d).length:=by
 unfold xU at h;split at h
 ·split at h
  ·simp only[aD]at h;subst h
   rename_i hle;exact⟨rfl,hle⟩
  ·cases h
 ·rename_i bq
  have e:aI d=[d]:=by cases d<;>first|rfl|(exfalso;exact bq _ rfl)
  split at h
  ·rename_i x
   simp only[aD]at h;subst h;rw[e];refine⟨?_,by simp⟩;simp only[mz,sj]at hp;cases x<;>first|rfl|simp[plainCell]at hp
  ·cases h
theorem OC:∀{xs:List V},mz xs=true->bM xs=true
 |[],_=>rfl
 |x::xs,h=>by
  simp only[mz,cm]at h;simp only[bM,cm];exact⟨by cases x<;>simp_all [plainCell,dY],OC h.2⟩
theorem WA (U:bd C fid G H w){l es:Nat}{ds ds':List V}{h:Home}(hb:G.β l=some h)(hl:H[l]? =some (.row es ds false))(hn:ds'.length=ds.length)
  (mF:∀d∈ds',(aI d).length=es) {o:Nat} {cQ:List V} {dk:List Value} (hy:bj fid G w cQ dk) (ia:o+cQ.length<=ds.length*es)
  (vZ:∀vals,bj fid G w (ds.flatMap aI) vals->bj fid G w (ds'.flatMap aI) (vals.take o++dk++vals.drop (o+dk.length))) {c:Array Value} {e:TypeId} (hc:w.heap[h.b]? =some (.cells c e (0,0))):
  ∃G',bd C fid G' (H.set l (.row es ds' false)) (w.setRow h.b (c.toList.take o++dk++c.toList.drop (o+dk.length)).toArray)/\
   Ext G w G' (w.setRow h.b (c.toList.take o++dk++c.toList.drop (o+dk.length)).toArray) l H.length:=by
 obtain⟨aY,ho,hr⟩:=U.obj l h hb;rw[hl]at ho;cases ho;obtain⟨ht,iW,ag,fc,hu,c',e',vals,rest,pL,fJ,af,fC⟩:=hr;rw[hc]at pL;cases pL
 have hx:Ext G w ⟨cE G.β l h,G.I⟩ (w.setRow h.b (c.toList.take o++dk++c.toList.drop (o+dk.length)).toArray) l H.length:=
  Ext.write U hb ag rfl (aN _) id rfl (setRow_size _ _) (fun b bq=>setRow_other bq _) rfl rfl
 have kx:=nv hu;have l8:=fC.length;have rn:=hy.length;refine⟨_,?_,hx⟩;refine bd.write U hb ag rfl ag (aN _) id rfl (setRow_size _ _) (fun b bq=>setRow_other bq _) _ ?_;refine⟨by rw[ht,hn],by omega,ag,fc,mF,_,e,vals.take o++dk++vals.drop (o+dk.length),rest,setRow_heap w h.b c _ e _ hc,?_,?_,?_⟩
 ·rw[fJ]
  simp only[vJ,hO,q9,qs,gY];have:c.size=vals.length+rest.length:=by rw[<-gY,af,hO]
  omega
 ·rw[Nz,af,List.take_append_of_le_length (by omega),List.drop_append_of_le_length (by omega),kR _ _ rest]
 ·exact(vZ vals fC).ext U hx
theorem aiF (U:bd C fid G H w){t:TypeId}{n:Nat}(hs:C.sizeOf t=some n){a u:V}{x y:Value}(al:bw fid G w a x)(hu:bw fid G w u y){l:Nat}(he:j6 H n a u=some (H',l)):
  ∃w' G',(Instr.storeAt t x y).run C.P w=.ok () w'/\bd C fid G' H' w'/\Ext G w G' w' l H.length/\l<H.length/\H'.length=H.length:=by
 have dr:∀w,(Go.sizeOf t).run C.P w=.ok n w:=by
  intro w;simp only[Ctx.sizeOf,cD]at hs;obtain⟨i,hi,rfl⟩:=hs;unfold Go.sizeOf;rw[Sem.run_bind,run_typeInfo (P:=C.P) w hi];rfl
 have ct:∀(b o:Nat) (c:Array Value) (e:TypeId),w.heap[b]? =some (.cells c e (0,0))->(aI u).length=n->bM (aI u)=true->o+n<=c.size->x=.pointer (some ⟨b,o,none⟩)->
   (Instr.storeAt t x y).run C.P w=.ok () (w.setRow b (c.toList.take o++y.cells.toList++c.toList.drop (o+y.cells.toList.length)).toArray):=by
  intro b o c e hc hlen a1 hle hx;obtain⟨h1,h2⟩:=CF hu a1;have hl:=h1.length;subst hx;have aiG:y.cells.size=n:=by rw[<-gY,hl,hlen]
  simp only[Instr.storeAt,Instr.sureAddr,storeVar,Sem.run_bind,Sem.run_pure,Result.andThen_ok,dr,aiG,ne_eq,not_true,if_false];have:=run_storeCells_at C.P b o e y.cells.toList 0 c w hc (by omega) h2;simpa using this
 unfold j6 at he;split at he
 ·rename_i fB o
  obtain⟨h0,hb,ht,rfl⟩:=al.nS;split at he
  ·rename_i vs hl
   split at he
   ·rename_i hc
    obtain⟨hlen,hle,a1⟩:=hc;simp only[aD,bH]at he;obtain⟨rfl,rfl⟩:=he;obtain⟨aY,ho,hr⟩:=U.obj fB h0 hb;rw[hl]at ho;cases ho;obtain⟨-,-,c,e,hc,af⟩:=hr;have l8:=af.length;obtain⟨h1,h2⟩:=CF hu a1;obtain⟨G',bI,cq⟩:=aiD U hb hl h1 a1 (by rw[hlen];exact hle) hc;exact⟨_,G',ct h0.b o c e hc hlen a1 (by rw[<-gY];omega) rfl,bI,cq,U.lt hb,by simp⟩
   ·cases he
  ·cases he
 ·rename_i fB es i f tag
  obtain⟨h0,dh,hb,qB,iy,rfl⟩:=al.EY;split at he
  ·rename_i bV ds hl
   split at he
   ·rename_i hc
    obtain⟨rfl,gg,hlen,ky⟩:=hc;split at he
    ·rename_i d hd
     split at he
     ·rename_i d' aiH
      simp only[aD,bH]at he;obtain⟨rfl,rfl⟩:=he;obtain⟨aY,ho,hr⟩:=U.obj fB h0 hb;rw[hl]at ho;cases ho;obtain⟨ht,iW,ag,fc,nU,c,e,vals,rest,hc,fJ,af,fC⟩:=hr;obtain⟨p1,p2⟩:=aiE aiH ky;have l7:(aI d).length=bV:=nU d (eZ hd);have a1:=OC ky;obtain⟨h1,h2⟩:=CF hu a1
      have hi:i<ds.length:=by
       obtain⟨hi,-⟩:=eY.1 hd;exact hi
      have hmul:i*bV+bV<=ds.length*bV:=by
       have:(i+1)*bV<=ds.length*bV:=Nx _ hi;rw[EC]at this;exact this
      have aiI:(aI d').length=bV:=by rw[p1,Wx,l7]
      have kx:=nv nU;have l8:=fC.length;have oJ:c.size=vals.length+rest.length:=by rw[<-gY,af,hO]
      obtain⟨G',bI,cq⟩:=WA U hb hl (ds':=ds.set i d') (by simp)
       (fun a al=>by rcases List.mem_or_eq_of_mem_set al with q|rfl;exact nU a q;exact aiI) (o:=i*bV+f) h1 (by omega) (fun vals af=>by rw[OB nU hd (by omega) p1];exact E0 _ af h1 (by omega)) hc
      refine⟨_,G',ct h0.b (i*bV+f) c e hc hlen a1 (by omega) ?_,bI,cq,U.lt hb,by simp⟩;rw[iy (ht.trans gg)]
     ·cases he
    ·cases he
   ·cases he
  ·cases he
 ·cases he
end ops
end Go.Abs
