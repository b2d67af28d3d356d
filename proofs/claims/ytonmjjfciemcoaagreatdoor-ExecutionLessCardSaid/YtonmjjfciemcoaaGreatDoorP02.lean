/- Texts of this claim, joined and written short by a program. -/
import Derived.Test.YtonmjjfciemcoaaGreatDoorP01
import Derived.Laws.Cells
import Derived.Laws.CopyRow
import Derived.ChangeKeysEq
import Derived.DefersIn
import Derived.Test.YtonmjjfciemcoaaGreatDoorP00
set_option linter.unusedVariables false
set_option linter.unusedSimpArgs false
set_option linter.unusedSectionVars false
namespace Go.Abs
open Go
variable{C:Ctx}{fid:Nat->Nat}{w w':World}{G G':bX}{H:Heap}
def cp (β:Nat->Option Home)(l:Nat)(h:Home):Nat->Option Home:=fun x=>if x=l then some h else β x
theorem dr (β:Nat->Option Home)(l:Nat)(h:Home):cp β l h l=some h:=by simp[cp]
theorem dE{β:Nat->Option Home}{l x:Nat}{h:Home}(hx:x≠l):cp β l h x=β x:=by simp[cp,hx]
theorem a8.lt (ab:a8 C fid G H w){l:Nat}{h:Home}(hb:G.β l=some h):l<H.length:=by
 obtain⟨o,ho,-⟩:=ab.obj l h hb;rcases gh l H.length with h'|h'
 ·exact h'
 ·simp[lQ h']at ho
theorem a8.none (ab:a8 C fid G H w){l:Nat}(hl:H.length<=l):G.β l=none:=by
 cases hb:G.β l with
 |none=>rfl
 |some h=>exact absurd (ab.lt hb) (by omega)
theorem alloc_old{o:Obj}{b:Nat}(hb:b<w.heap.size):(w.alloc o).heap[b]? =w.heap[b]? :=by
 show(w.heap.push o)[b]? =_;rw[Array.getElem?_push,if_neg (by omega)]
theorem mr (w:World)(o:Obj):(w.alloc o).heap[w.heap.size]? =some o:=by
 show(w.heap.push o)[_]? =_;simp
theorem C2{l:Nat}(hn:G.β l=none)(h:Home):mq G.β (cp G.β l h):=fun x h0 hb=>by
 have:x≠l:=fun e=>by subst e;rw[hn]at hb;cases hb
 exact⟨h0,by rw[dE this];exact hb,aH _,id,fun _=>⟨rfl,rfl⟩,fun _=>rfl⟩
theorem a8.jT (ab:a8 C fid G H w)(h:w'.heap=w.heap):a8 C fid G H w' where
 obj l x hb:=by
  obtain⟨o,ho,hr⟩:=ab.obj l x hb;exact⟨o,ho,hr.mono (.refl _) (fun b hb=>⟨hb,by rw[h]⟩) (by rw[h])⟩
 inj:=ab.inj
 blk l x hb:=by rw[h];exact ab.blk l x hb
 da b hb:=by rw[h];exact ab.da b hb
 k4:=ab.k4
 fG b o ba:=by rw[h];exact ab.fG b o ba
theorem Ext.jT (h:w'.heap=w.heap)(ho:w'.os=w.os)(hp:w'.output=w.output)(m n:Nat):Ext G w G w' m n:=
 ⟨by rw[h];exact aH _,ho,hp,fun _ _ _=>by rw[h],.refl _,fun _ h hb=>.inl ⟨h,hb,.inl rfl⟩,fun _ h=>h,fun _ h=>.inl h⟩
theorem a8.push (ab:a8 C fid G H w)(o:b5)(aV:Obj)(tag fA:Nat)
  (ho:jS C fid ⟨cp G.β H.length ⟨w.heap.size,tag,fA,false⟩,G.I⟩ (w.alloc aV) ⟨w.heap.size,tag,fA,false⟩ o):
  a8 C fid ⟨cp G.β H.length ⟨w.heap.size,tag,fA,false⟩,G.I⟩ (H++[o]) (w.alloc aV):=by
 have hn:=ab.none (aH H.length);have hle:=C2 hn ⟨w.heap.size,tag,fA,false⟩;refine⟨fun l h hb=> ?_,fun l fk h h' e e' q=> ?_,fun l h hb=> ?_,fun b hb=> ?_,fun l h hb ag=> ?_,fun b o ba=>⟨(ab.fG b o ba).1,by rw[alloc_old (ab.da b (ab.fG b o ba).1).1];exact(ab.fG b o ba).2⟩⟩
 ·by_cases hl:l=H.length
  ·subst hl
   simp only[dr]at hb;cases hb;exact⟨o,by simp,ho⟩
  ·simp only[dE hl]at hb
   obtain⟨o',e',hr⟩:=ab.obj l h hb;have:=ab.lt hb;refine⟨o',by rw[e5 this];exact e',hr.mono (G':=⟨cp G.β H.length _,G.I⟩) hle (fun b hb=>⟨hb,alloc_old (ab.da b hb).1⟩) (alloc_old (ab.blk l h hb))⟩
 ·by_cases hl:l=H.length<;>by_cases lS:fk=H.length
  ·rw[hl,lS]
  ·subst hl;simp only[dr]at e;cases e
   simp only[dE lS]at e';have:=ab.blk fk h' e';simp only at q;omega
  ·subst lS;simp only[dr]at e';cases e'
   simp only[dE hl]at e;have:=ab.blk l h e;simp only at q;omega
  ·simp only[dE hl]at e;simp only[dE lS]at e'
   exact ab.inj l fk h h' e e' q
 ·rw[World.size_alloc]
  by_cases hl:l=H.length
  ·subst hl;simp only[dr]at hb;cases hb;simp
  ·simp only[dE hl]at hb;have:=ab.blk l h hb;omega
 ·have hi:=ab.da b hb
  refine⟨by rw[World.size_alloc];omega,fun l h e q=> ?_⟩;by_cases hl:l=H.length
  ·subst hl;simp only[dr]at e;cases e;simp only at q;omega
  ·simp only[dE hl]at e;exact hi.2 l h e q
 ·by_cases hl:l=H.length
  ·subst hl;simp only[dr]at hb;cases hb;cases ag
  ·simp only[dE hl]at hb;exact ab.k4 l h hb ag
theorem Ext.push (ab:a8 C fid G H w)(aV:Obj)(tag fA m:Nat):
  Ext G w ⟨cp G.β H.length ⟨w.heap.size,tag,fA,false⟩,G.I⟩ (w.alloc aV) m H.length where
 size:=by simp
 os:=rfl
 output:=rfl
 keep b hb _:=alloc_old hb
 homes:=C2 (ab.none (aH _)) _
 oE l h hb:=by
  by_cases hl:l=H.length
  ·subst hl;simp only[dr]at hb;cases hb;exact .inr ⟨aH _,aH _⟩
  ·simp only[dE hl]at hb;exact .inl ⟨h,hb,.inl rfl⟩
 da _ h:=h
 pe _ h:=.inl h
theorem a8.write (ab:a8 C fid G H w){l:Nat}{h h':Home}(hb:G.β l=some h)(ag:h.fz=false)(fO:h'.b=h.b)(O4:h'.fz=false)
  (fX:h.tag<=h'.tag) (aR:h.tag=0->h'.tag=0) (eV:h'.fA=h.fA) (hs:w'.heap.size=w.heap.size)
  (ql:∀b,b≠h.b->w'.heap[b]? =w.heap[b]?) (o:b5) (ho:jS C fid ⟨cp G.β l h',G.I⟩ w' h' o):
  a8 C fid ⟨cp G.β l h',G.I⟩ (H.set l o) w':=by
 have aT:=ab.lt hb;have O5:∀b,G.I b->b≠h.b:=fun b hi e=>by have:=(ab.da b hi).2 l h hb e.symm;rw[ag]at this;cases this
 have hle:mq G.β (cp G.β l h'):=fun x h0 e=>by
  by_cases hx:x=l
  ·subst hx;rw[hb]at e;cases e
   exact⟨h',dr _ _ _,fX,aR,fun _=>⟨fO,eV⟩,fun q=>by rw[ag]at q;cases q⟩
  ·exact⟨h0,by rw[dE hx];exact e,aH _,id,fun _=>⟨rfl,rfl⟩,fun _=>rfl⟩
 refine⟨fun x h0 e=> ?_,fun x y h1 h2 af ak q=> ?_,fun x h0 e=> ?_,fun b hi=> ?_,fun x h0 e q=> ?_,fun b o ba=>⟨(ab.fG b o ba).1,by rw[ql b (O5 b (ab.fG b o ba).1)];exact(ab.fG b o ba).2⟩⟩
 ·by_cases hx:x=l
  ·subst hx;simp only[dr]at e;cases e
   exact⟨o,by simp[aT],ho⟩
  ·simp only[dE hx]at e
   obtain⟨o',e',hr⟩:=ab.obj x h0 e;have bg:h0.b≠h.b:=fun q=>hx (ab.inj x l h0 h e hb q);exact⟨o',by rw[jx (ly hx)];exact e',hr.mono (G':=⟨cp G.β l _,G.I⟩) hle (fun b hi=>⟨hi,ql b (O5 b hi)⟩) (ql _ bg)⟩
 ·by_cases hx:x=l<;>by_cases hy:y=l
  ·rw[hx,hy]
  ·subst hx;simp only[dr]at af;cases af;simp only[dE hy]at ak
   exact ab.inj x y h h2 hb ak (fO ▸ q)
  ·subst hy;simp only[dr]at ak;cases ak;simp only[dE hx]at af
   exact ab.inj x y h1 h af hb (fO ▸ q)
  ·simp only[dE hx]at af;simp only[dE hy]at ak
   exact ab.inj x y h1 h2 af ak q
 ·rw[hs]
  by_cases hx:x=l
  ·subst hx;simp only[dr]at e;cases e;rw[fO];exact ab.blk x h hb
  ·simp only[dE hx]at e;exact ab.blk x h0 e
 ·refine⟨by rw[hs];exact(ab.da b hi).1,fun x h0 e q=> ?_⟩
  by_cases hx:x=l
  ·subst hx;simp only[dr]at e;cases e
   exact absurd (q.symm.trans fO) (O5 b hi)
  ·simp only[dE hx]at e;exact(ab.da b hi).2 x h0 e q
 ·by_cases hx:x=l
  ·subst hx;simp only[dr]at e;cases e;rw[O4]at q;cases q
  ·simp only[dE hx]at e;exact ab.k4 x h0 e q
theorem Ext.write (_hR:a8 C fid G H w){l:Nat}{h h':Home}(hb:G.β l=some h)(ag:h.fz=false)(fO:h'.b=h.b)
  (fX:h.tag<=h'.tag) (aR:h.tag=0->h'.tag=0) (eV:h'.fA=h.fA) (hs:w'.heap.size=w.heap.size)
  (ql:∀b,b≠h.b->w'.heap[b]? =w.heap[b]?) (C3:w'.os=w.os) (hp:w'.output=w.output):
  Ext G w ⟨cp G.β l h',G.I⟩ w' l H.length where
 size:=by rw[hs];exact aH _
 os:=C3
 output:=hp
 keep b _ k:=ql b fun e=>by
  rcases k l h hb e.symm with q|q
  ·rw[ag]at q;cases q
  ·omega
 homes x h0 e:=by
  by_cases hx:x=l
  ·subst hx;rw[hb]at e;cases e
   exact⟨h',dr _ _ _,fX,aR,fun _=>⟨fO,eV⟩,fun q=>by rw[ag]at q;cases q⟩
  ·exact⟨h0,by simp only[dE hx];exact e,aH _,id,fun _=>⟨rfl,rfl⟩,fun _=>rfl⟩
 oE x h0 e:=by
  by_cases hx:x=l
  ·subst hx;simp only[dr]at e;cases e;exact .inl ⟨h,hb,.inl fO.symm⟩
  ·simp only[dE hx]at e;exact .inl ⟨h0,e,.inl rfl⟩
 da _ h:=h
 pe _ h:=.inl h
theorem a8.move (ab:a8 C fid G H w){l:Nat}{h:Home}(hb:G.β l=some h)(ag:h.fz=false)(aV:Obj)(tag fA:Nat)(fX:h.tag<tag)(aR:h.tag≠0)
  (o:b5) (ho:jS C fid ⟨cp G.β l ⟨w.heap.size,tag,fA,false⟩,G.I⟩ (w.alloc aV) ⟨w.heap.size,tag,fA,false⟩ o):
  a8 C fid ⟨cp G.β l ⟨w.heap.size,tag,fA,false⟩,G.I⟩ (H.set l o) (w.alloc aV)/\Ext G w ⟨cp G.β l ⟨w.heap.size,tag,fA,false⟩,G.I⟩ (w.alloc aV) l H.length:=by
 have aT:=ab.lt hb
 have hle:mq G.β (cp G.β l ⟨w.heap.size,tag,fA,false⟩):=fun x h0 e=>by
  by_cases hx:x=l
  ·subst hx;rw[hb]at e;cases e
   exact⟨_,dr _ _ _,vR fX,fun q=>absurd q aR,fun q=>by simp only at q;omega,fun q=>by rw[ag]at q;cases q⟩
  ·exact⟨h0,by rw[dE hx];exact e,aH _,id,fun _=>⟨rfl,rfl⟩,fun _=>rfl⟩
 refine⟨⟨fun x h0 e=> ?_,fun x y h1 h2 af ak q=> ?_,fun x h0 e=> ?_,fun b hi=> ?_,fun x h0 e q=> ?_,fun b o ba=>⟨(ab.fG b o ba).1,by rw[alloc_old (ab.da b (ab.fG b o ba).1).1];exact(ab.fG b o ba).2⟩⟩,⟨by simp,rfl,rfl,fun b fO _=>alloc_old fO,hle,fun x h0 e=> ?_,fun _ h=>h,fun _ h=>.inl h⟩⟩
 ·by_cases hx:x=l
  ·subst hx;simp only[dr]at e;cases e
   exact⟨o,by simp[aT],ho⟩
  ·simp only[dE hx]at e
   obtain⟨o',e',hr⟩:=ab.obj x h0 e;exact⟨o',by rw[jx (ly hx)];exact e',hr.mono (G':=⟨cp G.β l _,G.I⟩) hle (fun b hi=>⟨hi,alloc_old (ab.da b hi).1⟩) (alloc_old (ab.blk x h0 e))⟩
 ·by_cases hx:x=l<;>by_cases hy:y=l
  ·rw[hx,hy]
  ·subst hx;simp only[dr]at af;cases af;simp only[dE hy]at ak
   have:=ab.blk y h2 ak;simp only at q;omega
  ·subst hy;simp only[dr]at ak;cases ak;simp only[dE hx]at af
   have:=ab.blk x h1 af;simp only at q;omega
  ·simp only[dE hx]at af;simp only[dE hy]at ak
   exact ab.inj x y h1 h2 af ak q
 ·rw[World.size_alloc]
  by_cases hx:x=l
  ·subst hx;simp only[dr]at e;cases e;simp
  ·simp only[dE hx]at e;have:=ab.blk x h0 e;omega
 ·refine⟨by rw[World.size_alloc];have:=(ab.da b hi).1;omega,fun x h0 e q=> ?_⟩
  by_cases hx:x=l
  ·subst hx;simp only[dr]at e;cases e
   have:=(ab.da b hi).1;simp only at q;omega
  ·simp only[dE hx]at e;exact(ab.da b hi).2 x h0 e q
 ·by_cases hx:x=l
  ·subst hx;simp only[dr]at e;cases e;cases q
  ·simp only[dE hx]at e;exact ab.k4 x h0 e q
 ·by_cases hx:x=l
  ·subst hx;simp only[dr]at e;cases e;exact .inl ⟨h,hb,.inr (aH _)⟩
  ·simp only[dE hx]at e;exact .inl ⟨h0,e,.inl rfl⟩
theorem zZ{es:Nat}:∀{ds:List V},(∀d∈ds,(aC d).length=es)->∀(n:Nat),(ds.drop n).flatMap aC=(ds.flatMap aC).drop (n*es)
 |ds,_,0=>by simp
 |[],_,n+1=>by simp
 |d::ds,h,n+1=>by
  have h1:=h d (by simp);rw[List.drop_succ_cons,zZ (fun x hx=>h x (by simp[hx])) n,im,zL,Nat.add_comm,<-zH];congr 1;rw[List.drop_left' h1]
theorem C4{es:Nat}:∀{ds:List V},(∀d∈ds,(aC d).length=es)->∀(n:Nat),(ds.take n).flatMap aC=(ds.flatMap aC).take (n*es)
 |ds,_,0=>by simp
 |[],_,n+1=>by simp
 |d::ds,h,n+1=>by
  have h1:=h d (by simp);rw[List.take_succ_cons,im,C4 (fun x hx=>h x (by simp[hx])) n,im,zL,List.take_append,h1,JS (l:=aC d) (by rw[h1];exact Nat.le_add_left _ _),Nat.add_sub_cancel]
theorem nj{es:Nat}:∀{ds:List V},(∀d∈ds,(aC d).length=es)->(ds.flatMap aC).length=ds.length*es
 |[],_=>by simp
 |d::ds,h=>by
  rw[im,eZ,nj (fun x hx=>h x (by simp[hx])),h d (by simp),gD,zL,Nat.add_comm]
theorem yi:∀(a b:List V),cj (a++b)=(cj a&&cj b)
 |[],b=>by simp[cj]
 |v::a,b=>by simp[cj,yi a b,zI]
theorem akG (v:V)(h:bI v=true):cj (aC v)=true:=by
 cases v<;>simp_all [aC,cj,bI]
theorem KA:∀{ds:List V},cj ds=true->cj (ds.flatMap aC)=true
 |[],_=>by simp[cj]
 |d::ds,h=>by
  simp only[cj,b6]at h;rw[im,yi,akG d h.1,KA h.2];rfl
theorem KB:∀{ds:List V},cj ds=true->(∀n,cj (ds.drop n)=true)/\∀n,cj (ds.take n)=true:=by
 intro ds h;constructor
 ·intro n
  have:cj (ds.take n++ds.drop n)=true:=by rw[Oe];exact h
  rw[yi,b6]at this;exact this.2
 ·intro n
  have:cj (ds.take n++ds.drop n)=true:=by rw[Oe];exact h
  rw[yi,b6]at this;exact this.1
theorem Xo{b o:Nat}{c:Array Value}{e:TypeId}{f:Nat × Nat}(h:w.heap[b]? =some (.cells c e f)):w.cell? ⟨b,o,none⟩=c[o]? :=by
 simp[World.cell?,h]
theorem iL.vZ{b:Nat}{c:Array Value}{e:TypeId}{f:Nat × Nat}{vals rest:List Value}(h:w.heap[b]? =some (.cells c e f))(hc:c.toList=vals++rest):
  iL w b 0 vals:=by
 intro j x hx
 rw[Xo h,dA,<-fM,hc,e5 (by
  rcases gh j vals.length with q|q
  ·exact q
  ·simp[lQ q]at hx)]
 exact hx
theorem iL.drop{b o:Nat}{vals:List Value}(h:iL w b o vals)(n:Nat):iL w b (o+n) (vals.drop n):=by
 intro j x hx;rw[CG]at hx;rw[qV];exact h (n+j) x hx
theorem iL.take{b o:Nat}{vals:List Value}(h:iL w b o vals)(n:Nat):iL w b o (vals.take n):=by
 intro j x hx;rw[Fl]at hx;split at hx
 ·exact h j x hx
 ·cases hx
theorem O6{l es:Nat}{ds:List V}{h:Home}{fz:Bool}(ho:jS C fid G w h (.row es ds fz))(bq:G.I h.b)(hp:cj ds=true){off len n cap:Nat}{a:Addr}
  (ha:a=⟨h.b,off*es,none⟩/\n=len/\(off+cap)*es<=h.fA/\len<=cap) (hl:off+len<=ds.length):
  fN w G.I (.list es ((ds.drop off).take len)) (.slice (some a) n cap):=by
 obtain⟨-,-,-,-,hu,c,e,vals,rest,hc,-,ad,hr⟩:=ho;obtain⟨rfl,rfl,-,ea⟩:=ha;have iU:=(((iL.vZ hc ad).drop (off*es)).take (n*es));have mu:∀d∈ds.drop off,(aC d).length=es:=fun d hd=>hu d (x2 hd);have hlen:((ds.drop off).take n).length=n:=by simp;omega
 have key:=fN.list (w:=w) (I:=G.I) es ((ds.drop off).take n) h.b (off*es) cap ((vals.drop (off*es)).take (n*es)) bq (by simpa using iU)
  (fun d hd=>mu d (x3 hd)) (by
    rw[C4 mu,zZ hu];exact((hr.drop _).take _).qk ((KB ((KB (KA hp)).1 _)).2 _)) (by rw[hlen];exact ea)
 rwa [hlen]at key
theorem Xp (ab:a8 C fid G H w){l es:Nat}{ds:List V}(hH:H[l]? =some (.row es ds false)){h:Home}(hb:G.β l=some h):
  let G':bX:=⟨cp G.β l {h with fz:=true},fun b=>G.I b\/b=h.b⟩
  a8 C fid G' (H.set l (.row es ds true)) w/\Ext G w G' w l H.length/\jS C fid G' w {h with fz:=true} (.row es ds true):=by
 intro G';obtain⟨o,ho,hr⟩:=ab.obj l h hb;rw[hH]at ho;cases ho;have ag:h.fz=false:=hr.2.2.1
 have hle:mq G.β G'.β:=fun x h0 e=>by
  by_cases hx:x=l
  ·subst hx;rw[hb]at e;cases e
   exact⟨_,dr _ _ _,aH _,id,fun _=>⟨rfl,rfl⟩,fun q=>by rw[ag]at q;cases q⟩
  ·exact⟨h0,by show cp _ _ _ _=_;rw[dE hx];exact e,aH _,id,fun _=>⟨rfl,rfl⟩,fun _=>rfl⟩
 have Xq:∀b,G.I b->G'.I b/\w.heap[b]? =w.heap[b]? :=fun b hi=>⟨.inl hi,rfl⟩
 have aw:jS C fid G' w {h with fz:=true} (.row es ds true):=by
  have:=jS.mono (G':=G') hle Xq rfl hr;exact⟨this.1,this.2.1,rfl,this.2.2.2⟩
 refine⟨⟨fun x h0 e=> ?_,fun x y h1 h2 af ak q=> ?_,fun x h0 e=> ?_,fun b hi=> ?_,fun x h0 e q=> ?_,fun b o ba=>⟨.inl (ab.fG b o ba).1,(ab.fG b o ba).2⟩⟩,⟨aH _,rfl,rfl,fun _ _ _=>rfl,hle,fun x h0 e=> ?_,fun _ h=>.inl h,fun b hi=> ?_⟩,aw⟩
 ·by_cases hx:x=l
  ·subst hx;rw[show G'.β=cp _ _ _ from rfl,dr]at e;cases e
   exact⟨_,by simp[ab.lt hb],aw⟩
  ·rw[show G'.β=cp _ _ _ from rfl,dE hx]at e
   obtain⟨o',e',dj⟩:=ab.obj x h0 e;exact⟨o',by rw[jx (ly hx)];exact e',dj.mono hle Xq rfl⟩
 ·have Xr:∀z ar,G'.β z=some ar->∃aS,G.β z=some aS/\aS.b=ar.b:=fun z ar e=>by
   by_cases aR:z=l
   ·subst aR;rw[show G'.β=cp _ _ _ from rfl,dr]at e;cases e;exact⟨h,hb,rfl⟩
   ·rw[show G'.β=cp _ _ _ from rfl,dE aR]at e;exact⟨ar,e,rfl⟩
  obtain⟨aS,cL,kG⟩:=Xr x h1 af;obtain⟨h5,dF,v7⟩:=Xr y h2 ak;exact ab.inj x y aS h5 cL dF (kG.trans (q.trans v7.symm))
 ·by_cases hx:x=l
  ·subst hx;rw[show G'.β=cp _ _ _ from rfl,dr]at e;cases e;exact ab.blk x h hb
  ·rw[show G'.β=cp _ _ _ from rfl,dE hx]at e;exact ab.blk x h0 e
 ·rcases hi with hi|rfl
  ·refine⟨(ab.da b hi).1,fun x h0 e q=> ?_⟩
   by_cases hx:x=l
   ·subst hx;rw[show G'.β=cp _ _ _ from rfl,dr]at e;cases e;rfl
   ·rw[show G'.β=cp _ _ _ from rfl,dE hx]at e;exact(ab.da b hi).2 x h0 e q
  ·refine⟨ab.blk l h hb,fun x h0 e q=> ?_⟩
   by_cases hx:x=l
   ·subst hx;rw[show G'.β=cp _ _ _ from rfl,dr]at e;cases e;rfl
   ·rw[show G'.β=cp _ _ _ from rfl,dE hx]at e;exact absurd (ab.inj x l h0 h e hb q) hx
 ·by_cases hx:x=l
  ·subst hx;rw[show G'.β=cp _ _ _ from rfl,dr]at e;cases e;exact .inr rfl
  ·rw[show G'.β=cp _ _ _ from rfl,dE hx]at e;exact .inl (ab.k4 x h0 e q)
 ·by_cases hx:x=l
  ·subst hx;rw[show G'.β=cp _ _ _ from rfl,dr]at e;cases e;exact .inl ⟨h,hb,.inl rfl⟩
  ·rw[show G'.β=cp _ _ _ from rfl,dE hx]at e;exact .inl ⟨h0,e,.inl rfl⟩
 ·rcases hi with hi|rfl
  ·exact .inl hi
  ·exact .inr (.inr ⟨l,h,hb,rfl⟩)
structure lT (C:Ctx) (fid:Nat->Nat) (G:bX) (H:Heap) (w:World) (low:Nat) (G':bX) (H':Heap) (low':Nat):Prop where
 rel:a8 C fid G' H' w
 ext:∀m,m<=low'->Ext G w G' w m H.length
 low:low'<=low
 len:H'.length=H.length
theorem lT.refl (ab:a8 C fid G H w)(low:Nat):lT C fid G H w low G H low:=⟨ab,fun _ _=>.refl _ _ _ _,aH _,rfl⟩
theorem lT.trans{z1 Xt:bX}{tq Xu:Heap}{low z6 Xv:Nat}(h:lT C fid G H w low z1 tq z6)(k:lT C fid z1 tq w z6 Xt Xu Xv):lT C fid G H w low Xt Xu Xv:=
 ⟨k.rel,fun m hm=>(h.ext m (cY hm k.low)).trans ((k.ext m hm).le (aH _) (Nat.le_of_eq h.len.symm)),cY k.low h.low,k.len.trans h.len⟩
theorem a8.swap (ab:a8 C fid G H w){l:Nat}{h:Home}(hb:G.β l=some h){o:b5}(ho:jS C fid G w h o):a8 C fid G (H.set l o) w:=
 ⟨fun x h0 e=>by
  by_cases hx:x=l
  ·subst hx
   rw[hb]at e;cases e;exact⟨o,by simp[ab.lt hb],ho⟩
  ·obtain⟨o',e',dj⟩:=ab.obj x h0 e
   exact⟨o',by rw[jx (ly hx)];exact e',dj⟩,ab.inj,ab.blk,ab.da,ab.k4,ab.fG⟩
theorem bh.FU{vs:List V}{x:Value}(h:bh fid G w (.agg vs) x):∃vals,x=.agg ⟨vals⟩/\a6 fid G w vs vals:=by
 cases h with
 |p _ _ h=>cases h with|agg _ vals hr=>exact⟨vals,rfl,hr.oD⟩
 |agg _ vals hr=>exact⟨vals,rfl,hr⟩
theorem bh.O7{vs:List V}{x:Value}(h:bh fid G w (.aU vs) x):∃vals,x=.tuple ⟨vals⟩/\a6 fid G w vs vals:=by
 cases h with
 |p _ _ h=>cases h with|aU _ vals hr=>exact⟨vals,rfl,hr.oD⟩
 |aU _ vals hr=>exact⟨vals,rfl,hr⟩
structure FV (C:Ctx) (fid:Nat->Nat) (w:World) (f:Heap->Nat->V->Option (V × Heap × Nat)):Prop where
 ok:∀{G:bX} {H H':Heap} {low low':Nat} {v v':V} {x:Value},a8 C fid G H w->bh fid G w v x->f H low v=some (v',H',low')->∃G',lT C fid G H w low G' H' low'/\bh fid G' w v' x
structure KC (C:Ctx) (fid:Nat->Nat) (w:World) (f:Heap->Nat->V->Option (V × Heap × Nat)):Prop where
 ok:∀{G:bX} {H H':Heap} {low low':Nat} {v v':V} {zs:List Value},a8 C fid G H w->a6 fid G w (aC v) zs->f H low v=some (v',H',low')->
  ∃G',lT C fid G H w low G' H' low'/\a6 fid G' w (aC v') zs/\(aC v').length=(aC v).length
theorem KD{f:Heap->Nat->V->Option (V × Heap × Nat)}(ag:FV C fid w f):∀{vs vs':List V} {xs:List Value} {G:bX} {H H':Heap} {low low':Nat},a8 C fid G H w->a6 fid G w vs xs->
  kY f H low vs=some (vs',H',low')->∃G',lT C fid G H w low G' H' low'/\a6 fid G' w vs' xs
 |[],_,_,G,H,H',low,low',ab,.nil,he=>by
  simp only[kY,aB,bx]at he;obtain⟨rfl,rfl,rfl⟩:=he;exact⟨G,.refl ab _,.nil⟩
 |v::r,_,_,G,H,H',low,low',ab,.cons _ x _ xs ad hs,he=>by
  simp only[kY]at he;split at he
  ·rename_i v1 H1 bO h1
   split at he
   ·rename_i ca H2 dH h2
    simp only[aB,bx]at he;obtain⟨rfl,rfl,rfl⟩:=he;obtain⟨az,f1,bQ⟩:=ag.ok ab ad h1;obtain⟨bu,f2,c6⟩:=KD ag f1.rel (hs.ext ab (f1.ext 0 (cJ _))) h2;exact⟨bu,f1.trans f2,.cons _ _ _ _ (bQ.ext f1.rel (f2.ext 0 (cJ _))) c6⟩
   ·cases he
  ·cases he
theorem Xw{f:Heap->Nat->V->Option (V × Heap × Nat)}(ag:KC C fid w f):∀{vs vs':List V} {xs:List Value} {G:bX} {H H':Heap} {low low':Nat},a8 C fid G H w->a6 fid G w (vs.flatMap aC) xs->
  kY f H low vs=some (vs',H',low')->
  ∃G',lT C fid G H w low G' H' low'/\a6 fid G' w (vs'.flatMap aC) xs/\vs'.length=vs.length/\∀es,(∀d∈vs,(aC d).length=es)->∀d∈vs',(aC d).length=es
 |[],_,_,G,H,H',low,low',ab,h,he=>by
  simp only[kY,aB,bx]at he;obtain⟨rfl,rfl,rfl⟩:=he;exact⟨G,.refl ab _,h,rfl,fun _ h=>h⟩
 |v::r,_,xs,G,H,H',low,low',ab,h,he=>by
  simp only[kY]at he;split at he
  ·rename_i v1 H1 bO h1
   split at he
   ·rename_i ca H2 dH h2
    simp only[aB,bx]at he;obtain⟨rfl,rfl,rfl⟩:=he;rw[im]at h;obtain⟨cK,zs,rfl,hy,aR⟩:=h.split;obtain⟨az,f1,bQ,cb⟩:=ag.ok ab hy h1;obtain⟨bu,f2,c6,jk,oF⟩:=Xw ag f1.rel (aR.ext ab (f1.ext 0 (cJ _))) h2;refine⟨bu,f1.trans f2,?_,by simp[jk],fun es hu d hd=> ?_⟩
    ·rw[im];exact(bQ.ext f1.rel (f2.ext 0 (cJ _))).append c6
    ·rcases dx.1 hd with rfl|hd
     ·rw[cb];exact hu v (by simp)
     ·exact oF es (fun d hd=>hu d (by simp[hd])) d hd
   ·cases he
  ·cases he
theorem KC.of{f:Heap->Nat->V->Option (V × Heap × Nat)}(ad:FV C fid w f)
  (jl:∀{H H':Heap} {low low':Nat} {v v':V},f H low v=some (v',H',low')->(∀vs,v≠ .agg vs)->aC v'=[v'])
  (O8:∀{G:bX} {H H':Heap} {low low':Nat} {vs:List V} {v':V} {zs:List Value},a8 C fid G H w->a6 fid G w vs zs->f H low (.agg vs)=some (v',H',low')->
    ∃G' vs',v'=.agg vs'/\lT C fid G H w low G' H' low'/\a6 fid G' w vs' zs):KC C fid w f:=by
 refine⟨fun {G H H' low low' v v' zs} ab h he=> ?_⟩;by_cases ha:∃vs,v=.agg vs
 ·obtain⟨vs,rfl⟩:=ha
  obtain⟨G',vs',rfl,f1,bQ⟩:=O8 ab h he;exact⟨G',f1,bQ,by have:=bQ.length;have:=h.length;simp only[aC]at *; omega⟩
 ·have v8:∀vs,v≠ .agg vs:=fun vs e=>ha ⟨vs,e⟩
  have e:aC v=[v]:=by cases v<;>first|rfl|(exfalso;exact v8 _ rfl)
  rw[e]at h;cases h with
  |cons _ x _ xs h hs=>
   cases hs;obtain⟨az,f1,bQ⟩:=ad.ok ab h he;rw[jl he v8,e];exact⟨az,f1,.cons _ _ _ _ bQ .nil,rfl⟩
theorem akH{l es off len tag n cap:Nat}{a:Addr}{h:Home}{ds ds':List V}{low:Nat}{c:Array Value}{e:TypeId}{vals rest:List Value}(ht:ds.length=tag)(hle:off+len<=ds.length)
  {z1:bX} {tq:Heap} {z6:Nat} {Xx:List V} (hb:G.β l=some h) (fX:h.tag=tag) (ha:a=⟨h.b,off*es,none⟩/\n=len/\(off+cap)*es<=h.fA/\len<=cap)
  (iV:0<ds.length) (eo:0<es) (hc:w.heap[h.b]? =some (.cells c e (0,0))) (de:h.fA=c.size) (gv:c.toList=vals++rest)
  (sd:a6 fid z1 w (ds'.flatMap aC) vals) (hlen:ds'.length=ds.length)
  (pf:∀d∈ds',(aC d).length=es) (ag:lT C fid G H w low z1 tq z6)
  (O9:tq[l]? =some (.row es Xx false)) (akI:Xx.length=tag) (hp:cj ds'=true):
  ∃G',lT C fid G H w low G' (tq.set l (.row es ds' true)) (min z6 l)/\bh fid G' w (.list es ((ds'.drop off).take len)) (.slice (some a) n cap):=by
 obtain⟨h',fO,t1,-,m1,-⟩:=(ag.ext 0 (cJ _)).homes l h hb;obtain⟨o',jU,dj⟩:=ag.rel.obj l h' fO;rw[O9]at jU;cases jU;have Xy:h'.tag=h.tag:=by rw[dj.1,akI,fX]
 obtain⟨eb,FW⟩:=m1 Xy
 have aw:jS C fid z1 w h' (.row es ds' false):=
  ⟨by rw[Xy,fX,<-ht,hlen],by omega,dj.2.2.1,eo,pf,c,e,vals,rest,by rw[eb];exact hc,by rw[FW];exact de,gv,sd⟩
 have akJ:=ag.rel.swap fO aw
 have aT:l<tq.length:=by
  rcases gh l tq.length with q|q
  ·exact q
  ·rw[lQ q]at O9;cases O9
 have akK:(tq.set l (.row es ds' false))[l]? =some (.row es ds' false):=by simp[aT]
 obtain⟨h1,h2,ar⟩:=Xp akJ akK fO;rw[List.set_set]at h1
 have fz:lT C fid z1 tq w z6 _ (tq.set l (.row es ds' true)) (min z6 l):=
  ⟨h1,fun m hm=>h2.le (cY hm (nJ _ _)) (by simp),jM _ _,by simp⟩
 refine⟨_,ag.trans fz,.p _ _ (O6 (l:=l) ar (.inr rfl) hp ?_ (by rw[hlen];exact hle))⟩;show a=⟨h'.b,off*es,none⟩/\n=len/\(off+cap)*es<=h'.fA/\len<=cap;rw[eb,FW];exact ha
theorem Pa:∀(n:Nat),FV C fid w (dR n)/\KC C fid w (dR n)
 |0=>by
  have ad:FV C fid w (dR 0):=by
   refine⟨fun {G H H' low low' v v' x} ab h he=> ?_⟩;simp only[dR]at he;split at he
   ·simp only[aB,bx]at he
    obtain⟨rfl,rfl,rfl⟩:=he;exact⟨G,.refl ab _,h⟩
   ·cases he
  refine⟨ad,.of ad (fun {H H' low low' v v'} he v8=> ?_) (fun {G H H' low low' vs v' zs} ab h he=> ?_)⟩
  ·simp only[dR]at he
   split at he
   ·simp only[aB,bx]at he
    obtain⟨rfl,-,-⟩:=he;cases v<;>first|rfl|(exfalso;exact v8 _ rfl)
   ·cases he
  ·simp only[dR]at he
   split at he
   ·simp only[aB,bx]at he
    obtain⟨rfl,rfl,rfl⟩:=he;exact⟨G,vs,rfl,.refl ab _,h⟩
   ·cases he
 |n+1=>by
  obtain⟨Pb,akL⟩:=Pa n
  have ad:FV C fid w (dR (n+1)):=by
   refine⟨fun {G H H' low low' v v' x} ab h he=> ?_⟩;simp only[dR]at he;split at he
   ·simp only[aB,bx]at he
    obtain⟨rfl,rfl,rfl⟩:=he;exact⟨G,.refl ab _,h⟩
   ·split at he
    ·rename_i vs
     split at he
     ·rename_i vs' H1 bO h1
      simp only[aB,bx]at he;obtain⟨rfl,rfl,rfl⟩:=he;obtain⟨vals,rfl,hr⟩:=h.FU;obtain⟨az,f1,bQ⟩:=KD Pb ab hr h1;exact⟨az,f1,.agg _ _ bQ⟩
     ·cases he
    ·rename_i vs
     split at he
     ·rename_i vs' H1 bO h1
      simp only[aB,bx]at he;obtain⟨rfl,rfl,rfl⟩:=he;obtain⟨vals,rfl,hr⟩:=h.O7;obtain⟨az,f1,bQ⟩:=KD Pb ab hr h1;exact⟨az,f1,.aU _ _ bQ⟩
     ·cases he
    ·rename_i l es off len tag _
     split at he
     ·rename_i bN ds fz hl
      split at he
      ·rename_i hc
       obtain⟨rfl,ht,hle⟩:=hc;split at he
       ·rename_i hp
        simp only[aB,bx]at he;obtain⟨rfl,rfl,rfl⟩:=he;cases h with
        |p _ _ h=>cases h
        |bJ _ _ _ _ _ h a n cap hb Pc ha=>
         obtain⟨o,ho,hr⟩:=ab.obj l h hb;rw[hl]at ho;cases ho;have fX:h.tag=tag:=hr.1.trans ht;cases fz with
         |true=>
          exact⟨G,.refl ab _,.p _ _ (O6 (l:=l) hr (ab.k4 l h hb hr.2.2.1) hp (ha fX) hle)⟩
         |false=>
          obtain⟨h1,h2,ar⟩:=Xp ab hl hb;exact⟨_,⟨h1,fun m hm=>h2.le (cY hm (nJ _ _)) (aH _),jM _ _,by simp⟩,.p _ _ (O6 (l:=l) ar (.inr rfl) hp (ha fX) hle)⟩
       ·split at he
        ·rename_i ds' H1 bO h1
         split at he
         ·rename_i Wx kD C5
          split at he
          ·rename_i C6
           obtain⟨rfl,pg,hp⟩:=C6;simp only[aB,bx]at he;obtain⟨rfl,rfl,rfl⟩:=he;cases h with
           |p _ _ h=>cases h
           |bJ _ _ _ _ _ h a n cap hb Pc ha=>
            obtain⟨o,ho,hr⟩:=ab.obj l h hb;rw[hl]at ho;cases ho;have fX:h.tag=tag:=hr.1.trans ht;obtain⟨-,iV,-,eo,hu,c,e,vals,rest,hc,de,gv,ep⟩:=hr;obtain⟨az,f1,bQ,cb,jV⟩:=Xw akL ab ep h1;exact akH ht hle hb fX (ha fX) iV eo hc de gv bQ cb (jV _ hu) f1 C5 pg hp
          ·cases he
         ·cases he
        ·cases he
      ·cases he
     ·cases he
    ·simp only[aB,bx]at he
     obtain⟨rfl,rfl,rfl⟩:=he;exact⟨G,.refl ab _,h⟩
  refine⟨ad,.of ad (fun {H H' low low' v v'} he v8=> ?_) (fun {G H H' low low' vs v' zs} ab h he=> ?_)⟩
  ·simp only[dR]at he
   repeat' split at he
   all_goals first
    |cases he;done
    |(simp only[aB,bx]at he;obtain⟨rfl,-,-⟩:=he;first|rfl|(exfalso;exact v8 _ rfl)|(cases v<;>first|rfl|(exfalso;exact v8 _ rfl)))
  ·simp only[dR]at he
   split at he
   ·simp only[aB,bx]at he
    obtain⟨rfl,rfl,rfl⟩:=he;exact⟨G,vs,rfl,.refl ab _,h⟩
   ·split at he
    ·rename_i vs' H1 bO h1
     simp only[aB,bx]at he;obtain⟨rfl,rfl,rfl⟩:=he;obtain⟨az,f1,bQ⟩:=KD Pb ab h h1;exact⟨az,vs',rfl,f1,bQ⟩
    ·cases he
theorem FX (ab:a8 C fid G H w){low low':Nat}{v v':V}{x:Value}{H':Heap}(ad:bh fid G w v x)(he:fF H low v=some (v',H',low')):
 ∃G',lT C fid G H w low G' H' low'/\bh fid G' w v' x:=(Pa 16).1.ok ab ad he
theorem akM (ab:a8 C fid G H w){low low':Nat}{v v':V}{zs:List Value}{H':Heap}(ad:a6 fid G w (aC v) zs)(he:fF H low v=some (v',H',low')):
 ∃G',lT C fid G H w low G' H' low'/\a6 fid G' w (aC v') zs/\(aC v').length=(aC v).length:=(Pa 16).2.ok ab ad he
theorem Pf:∀{vs vs':List V} {xs:List Value} {G:bX} {H H':Heap} {low low':Nat},a8 C fid G H w->a6 fid G w vs xs->e0 H low vs=some (vs',H',low')->
  ∃G',lT C fid G H w low G' H' low'/\a6 fid G' w vs' xs
 |[],_,_,G,H,H',low,low',ab,.nil,he=>by
  simp only[e0,aB,bx]at he;obtain⟨rfl,rfl,rfl⟩:=he;exact⟨G,.refl ab _,.nil⟩
 |v::r,_,_,G,H,H',low,low',ab,.cons _ x _ xs ad hs,he=>by
  simp only[e0]at he;split at he
  ·rename_i v1 H1 bO h1
   split at he
   ·rename_i ca H2 dH h2
    simp only[aB,bx]at he;obtain⟨rfl,rfl,rfl⟩:=he;obtain⟨az,f1,bQ⟩:=FX ab ad h1;obtain⟨bu,f2,c6⟩:=Pf f1.rel (hs.ext ab (f1.ext 0 (cJ _))) h2;exact⟨bu,f1.trans f2,.cons _ _ _ _ (bQ.ext f1.rel (f2.ext 0 (cJ _))) c6⟩
   ·cases he
  ·cases he
end Go.Abs
namespace Go.Abs
open Go
variable{C:Ctx}{fid:Nat->Nat}{w w':World}{G G':bX}{H:Heap}
def KE (P:Program)(d:Deferred):Prop:=
 ∃fv cap f args,d.target=.fn fv cap/\∀w,(invoke d.target d.args).run P w=.ok (.enter f args) w/\
  CallsDIn Fence.wide 0 P f args .returning w fun e u' w'=>(∃v,e=.returned v)/\u'=.returning/\w'=w
structure e7 (C:Ctx) (fid:Nat->Nat):Prop where
 f:∀f i,C.Kc f=some i->i=f
 akN:∀i,i∈C.CQ->∀caps:Array Value,KE C.P {target:=.fn (.func i) caps,args:= #[]}
mutual
theorem FY{I:Nat->Prop}:∀(x:Value) {v:V},nf x=some v->v=.undef\/fN w I v x
 | .bool b,v,h=>by simp only[nf,aB]at h;subst h;exact .inr (.bool b)
 | .int k n,v,h=>by simp only[nf,aB]at h;subst h;exact .inr (.int k n)
 | .string ⟨⟨s⟩⟩,v,h=>by simp only[nf,aB]at h;subst h;exact .inr (.str s)
 | .pointer none,v,h=>by simp only[nf,aB]at h;subst h;exact .inr .ji
 | .slice none 0 0,v,h=>by simp only[nf,aB]at h;subst h;exact .inr .aN
 | .map none,v,h=>by simp only[nf,aB]at h;subst h;exact .inr .iu
 | .nilFunc,v,h=>by simp only[nf,aB]at h;subst h;exact .inr .kC
 | .nilIface,v,h=>by simp only[nf,aB]at h;subst h;exact .inr .jO
 | .agg ⟨vs⟩,v,h=>by
   simp only[nf,cA]at h;obtain⟨us,hu,rfl⟩:=h;exact .inr (.agg us vs (FZ vs hu))
 | .tuple ⟨[]⟩,v,h=>by simp only[nf,aB]at h;subst h;exact .inl rfl
 | .tuple ⟨_::_⟩,v,h=>by simp[nf]at h
 | .slice none (n+1) _,v,h=>by simp[nf]at h
 | .slice none 0 (n+1),v,h=>by simp[nf]at h
 | .pointer (some _),v,h| .slice (some _) _ _,v,h| .map (some _),v,h| .float ..,v,h| .complex ..,v,h| .chan ..,v,h| .func ..,v,h| .iface ..,v,h=>by simp[nf]at h
theorem FZ{I:Nat->Prop}:∀(xs:List Value) {vs:List V},CP xs=some vs->dh w I vs xs
 |[],vs,h=>by simp only[CP,aB]at h;subst h;exact .nil
 |x::r,vs,h=>by
  simp only[CP]at h;split at h
  ·rename_i v ad
   split at h
   ·cases h
   ·simp only[cA]at h
    obtain⟨us,hu,rfl⟩:=h;exact .cons v x us r ((FY x ad).resolve_left (by rintro rfl;simp_all [u0])) (FZ r hu)
  ·cases h
end
def fB (C:Ctx)(fid:Nat->Nat)(vars:List Nat)(G:bX)(w:World)(ah:aj->V)(ρ:Operand->Value):Prop:=
 ∀x cO,C.cg vars x=some cO->bh fid G w (ah cO) (ρ x)
def db (C:Ctx)(fid:Nat->Nat)(G:bX)(H:Heap)(w:World)(akO:Nat)(r:Result Next)(v:V)(H':Heap)(low':Nat):Prop:=
 ∃x w' G',(r=.ok (.value x) w'\/(r=.ok .skip w'/\x=undef))/\a8 C fid G' H' w'/\(∀m,m<=low'->Ext G w G' w' m H.length)/\bh fid G' w' v x/\low'<=akO/\H.length<=H'.length
theorem db.same (ab:a8 C fid G H w){low:Nat}{r:Result Next}{v:V}{x:Value}(hr:r=.ok (.value x) w)(ad:bh fid G w v x):db C fid G H w low r v H low:=
 ⟨x,w,G,.inl hr,ab,fun _ _=>.refl _ _ _ _,ad,aH _,aH _⟩
theorem db.alloc (ab:a8 C fid G H w){low:Nat}{r:Result Next}{v:V}{x:Value}{o:b5}{aV:Obj}(tag fA:Nat)(hr:r=.ok (.value x) (w.alloc aV))
  (ho:jS C fid ⟨cp G.β H.length ⟨w.heap.size,tag,fA,false⟩,G.I⟩ (w.alloc aV) ⟨w.heap.size,tag,fA,false⟩ o)
  (ad:bh fid ⟨cp G.β H.length ⟨w.heap.size,tag,fA,false⟩,G.I⟩ (w.alloc aV) v x):db C fid G H w low r v (H++[o]) low:=
 ⟨x,_,_,.inl hr,ab.push o aV tag fA ho,fun m _=>.push ab aV tag fA m,ad,aH _,by simp⟩
theorem db.C7{low bO:Nat}{az:bX}{H1:Heap}(f:lT C fid G H w low az H1 bO){r:Result Next}{v:V}{H':Heap}{low':Nat}(h:db C fid az H1 w bO r v H' low'):
  db C fid G H w low r v H' low':=by
 obtain⟨x,w',G',hr,ab,he,ad,hl,hn⟩:=h;refine⟨x,w',G',hr,ab,fun m hm=>(f.ext m (cY hm hl)).trans ((he m hm).le (aH _) (Nat.le_of_eq f.len.symm)),ad,cY hl f.low,by have:=f.len;omega⟩
section ops
variable{vars:List Nat}{ah:aj->V}{ρ:Operand->Value}{low low':Nat}{v:V}{H':Heap}{pos:String}{dm:cV}{o:Oper}
theorem Pg (bC:e7 C fid){f:FuncId}{cO:aj}(h:C.cg vars (.func f)=some cO){aF au:Env}:bh fid G w (cO.ah aF au) (.func (.func f) #[] #[]):=by
 simp only[Ctx.cg,cA]at h;obtain⟨i,hi,rfl⟩:=h;have e:=bC.f f i hi;subst e;exact bh.fn (fid:=fid) (G:=G) (w:=w) i [] [] [] [] .nil .nil
theorem bh.k5{x:Value}{b:Bool}(h:bh fid G w (.bool b) x):x=.bool b:=by
 cases h with|p _ _ h=>cases h;rfl
theorem bh.iW{x:Value}{k:IntKind}{n:Int}(h:bh fid G w (.int k n) x):x=.int k n:=by
 cases h with|p _ _ h=>cases h;rfl
theorem bh.oG{x:Value}{s:List UInt8}(h:bh fid G w (.str s) x):x=.string ⟨⟨s⟩⟩:=by
 cases h with|p _ _ h=>cases h;rfl
theorem bh.pj{x:Value}{l o:Nat}(h:bh fid G w (.ptr l o) x):∃h,G.β l=some h/\h.tag=0/\x=.pointer (some ⟨h.b,o,none⟩):=by
 cases h with
 |p _ _ h=>cases h
 |ptr _ _ h hb ht=>exact⟨h,hb,ht,rfl⟩
theorem bh.mapInv{x:Value}{l:Nat}(h:bh fid G w (.map l) x):∃h,G.β l=some h/\h.tag=0/\x=.map (some h.b):=by
 cases h with
 |p _ _ h=>cases h
 |map _ h hb ht=>exact⟨h,hb,ht,rfl⟩
theorem bh.F0{x:Value}{l es i f tag:Nat}(h:bh fid G w (.hz l es i f tag) x):
  ∃h a,G.β l=some h/\tag<=h.tag/\(h.tag=tag->a=⟨h.b,i*es+f,none⟩)/\x=.pointer (some a):=by
 cases h with
 |p _ _ h=>cases h
 |hz _ _ _ _ _ h a hb hle ha=>exact⟨h,a,hb,hle,ha,rfl⟩
theorem bh.Ph{x:Value}{vs:List V}{f:Nat}(h:bh fid G w (.dO vs f) x):
  ∃b o vals,G.I b/\iL w b o vals/\dh w G.I vs vals/\x=.pointer (some ⟨b,o+f,none⟩):=by
 cases h with
 |p _ _ h=>cases h
 |dO _ _ b o vals bq hc hr=>exact⟨b,o,vals,bq,hc,hr,rfl⟩
theorem bh.nk{x:Value}{l es off len tag:Nat}(h:bh fid G w (.bJ l es off len tag) x):
  ∃h a n cap,G.β l=some h/\tag<=h.tag/\(h.tag=tag->a=⟨h.b,off*es,none⟩/\n=len/\(off+cap)*es<=h.fA/\len<=cap)/\x=.slice (some a) n cap:=by
 cases h with
 |p _ _ h=>cases h
 |bJ _ _ _ _ _ h a n cap hb hle ha=>exact⟨h,a,n,cap,hb,hle,ha,rfl⟩
theorem bh.C8{x:Value}{i:Nat}{fs cs:List V}(h:bh fid G w (.fn i fs cs) x):
  ∃xs cK,a6 fid G w fs xs/\a6 fid G w cs cK/\x=.func (.func i) ⟨xs⟩ ⟨cK⟩:=by
 cases h with
 |p _ _ h=>cases h with|fn _ _ _ xs cK ag hc=>exact⟨xs,cK,dh.oD ag,dh.oD hc,rfl⟩
 |fn _ _ _ xs cK ag hc=>exact⟨xs,cK,ag,hc,rfl⟩
theorem bh.akP{x:Value}{l:Nat}(h:bh fid G w (.yield l) x):∃h,G.β l=some h/\h.tag=0/\x=.func (.yield h.b) #[] #[]:=by
 cases h with
 |p _ _ h=>cases h
 |yield _ h hb ht=>exact⟨h,hb,ht,rfl⟩
theorem a6.iJ{cs:List V}{xs:List Value}(h:a6 fid G w cs xs){o:Nat}{sh:Option Nat}{u:V}(hr:Abs.iJ cs o sh=some u):
  match sh with
  |none=>∃x,xs[o]? =some x/\bh fid G w u x
  |some n=>o+n<=xs.length/\bh fid G w u (.agg ⟨(xs.drop o).take n⟩):=by
 cases sh with
 |none=>exact h.get hr
 |some n=>
  simp only[Abs.iJ]at hr;split at hr
  ·rename_i hle
   simp only[aB]at hr;subst hr;exact⟨by rw[h.length];exact hle,.agg _ _ ((h.drop o).take n)⟩
  ·cases hr
theorem Xz{t:TypeId}{sh:Option Nat}(h:C.shapeOf t=some sh):
  (∃n,sh=some n/\(∀w,(isAgg t).run C.P w=.ok true w)/\∀w,(Go.sizeOf t).run C.P w=.ok n w)\/(sh=none/\∀w,(isAgg t).run C.P w=.ok false w):=by
 unfold Ctx.shapeOf at h
 have key:∀d,C.P.underlying t=some d->∀w,(isAgg t).run C.P w=.ok (match d with| .struct _| .array _ _=>true| _=>false) w:=by
  intro d hd w;unfold isAgg;rw[Sem.run_bind,run_underlying hd];cases d<;>rfl
 have mw:∀n,C.sizeOf t=some n->∀w,(Go.sizeOf t).run C.P w=.ok n w:=by
  intro n hn w;simp only[Ctx.sizeOf,cA]at hn;obtain⟨i,hi,rfl⟩:=hn;unfold Go.sizeOf;rw[Sem.run_bind,run_typeInfo (P:=C.P) w hi];rfl
 cases hd:C.P.underlying t with
 |none=>rw[hd]at h;cases h
 |some d=>
  rw[hd]at h;have hk:=key d hd
  cases d<;>simp only[aB,cA]at h<;>
   first
    |exact .inr ⟨h.symm,hk⟩
    |(obtain⟨n,hn,rfl⟩:=h;exact .inl ⟨n,rfl,hk,mw n hn⟩)
theorem Pj{t:TypeId}{sh:Option Nat}(h:C.shapeOf t=some sh){b o:Nat}{cs:List V}{vals:List Value}{f:Nat}(hc:iL w b o vals)(ad:a6 fid G w cs vals){u:V}
  (hr:Abs.iJ cs f sh=some u):∃x,(loadVar t ⟨b,o+f,none⟩).run C.P w=.ok x w/\bh fid G w u x:=by
 have hk:=ad.iJ hr;rcases Xz h with⟨n,rfl,ha,hs⟩|⟨rfl,ha⟩
 ·obtain⟨hle,hu⟩:=hk
  refine⟨_,?_,hu⟩
  have eV:∀(j:Nat) (x:Value),((vals.drop f).take n)[j]? =some x->w.cell? (Addr.add ⟨b,o+f,none⟩ j)=some x:=by
   intro j x hx;rw[Addr.add_lit];rw[Fl]at hx;split at hx
   ·rw[CG]at hx;rw[qV];exact hc _ _ hx
   ·cases hx
  have hl:=run_loadCells_list (P:=C.P) w ⟨b,o+f,none⟩ _ eV;have hlen:((vals.drop f).take n).length=n:=by simp;omega
  rw[hlen]at hl;unfold loadVar;simp only[Sem.run_bind,ha,hs,Result.andThen_ok,if_true,hl,Sem.run_pure]
 ·obtain⟨x,hx,hu⟩:=hk
  refine⟨x,?_,hu⟩;unfold loadVar;simp only[Sem.run_bind,ha,Result.andThen_ok,gq,if_false,run_load,hc f x hx]
theorem XA (ab:a8 C fid G H w){t:TypeId}{sh:Option Nat}(h:C.shapeOf t=some sh){a u:V}{x:Value}(ha:bh fid G w a x)(he:jQ H sh a=some u):
  ∃y,(Instr.loadAt t x).run C.P w=.ok y w/\bh fid G w u y:=by
 unfold jQ at he;split at he
 ·rename_i l o
  obtain⟨h0,hb,ht,rfl⟩:=ha.pj;split at he
  ·rename_i vs hl
   obtain⟨aV,ho,hr⟩:=ab.obj l h0 hb;rw[hl]at ho;cases ho;obtain⟨-,-,c,e,hc,ad⟩:=hr;obtain⟨y,hy,hu⟩:=Pj (o:=0) h (iL.vZ (vals:=c.toList) (rest:=[]) hc (by simp)) ad he;rw[dA]at hy;exact⟨y,by simp only[Instr.loadAt,Instr.sureAddr,Sem.run_bind,Sem.run_pure,Result.andThen_ok,hy],hu⟩
  ·cases he
 ·rename_i l es i f tag
  obtain⟨h0,c8,hb,hle,gY,rfl⟩:=ha.F0;split at he
  ·rename_i bN ds fz hl
   split at he
   ·rename_i hc
    obtain⟨rfl,fX⟩:=hc;obtain⟨aV,ho,hr⟩:=ab.obj l h0 hb;rw[hl]at ho;cases ho;obtain⟨ht,-,-,-,hu,c,e,vals,rest,hc,eV,ad,ep⟩:=hr;obtain⟨d,hd,F1⟩:=ek.1 he;have lA:(aC d).length=bN:=hu d (gg hd)
    have akQ:a6 fid G w (aC d) ((vals.drop (i*bN)).take bN):=by
     have h1:(ds.drop i).flatMap aC=(ds.flatMap aC).drop (i*bN):=zZ hu i
     have h2:ds.drop i=d::ds.drop (i+1):=by
      obtain⟨hi,rfl⟩:=fj.1 hd;exact uQ hi
     have ar:=(ep.drop (i*bN)).take bN;rw[<-h1,h2,im,List.take_append,lA,Ft,List.take_zero,lR,JS (by omega)]at ar;exact ar
    have iU:iL w h0.b (i*bN) ((vals.drop (i*bN)).take bN):=by
     have:=((iL.vZ hc ad).drop (i*bN)).take bN;rwa [dA]at this
    obtain⟨y,hy,akR⟩:=Pj h iU akQ F1;rw[gY (ht.trans fX)];exact⟨y,by simp only[Instr.loadAt,Instr.sureAddr,Sem.run_bind,Sem.run_pure,Result.andThen_ok,hy],akR⟩
   ·cases he
  ·cases he
 ·rename_i vs f
  obtain⟨b,o,vals,bq,hc,hr,rfl⟩:=ha.Ph;obtain⟨y,hy,hu⟩:=Pj h hc (dh.oD (fid:=fid) hr) he;exact⟨y,by simp only[Instr.loadAt,Instr.sureAddr,Sem.run_bind,Sem.run_pure,Result.andThen_ok,hy],hu⟩
 ·cases he
theorem XB{c:V}{x:Value}(h:bh fid G w c x)(hc:eF c=true):x.oneCell'=true:=by
 cases h with
 |p _ _ h=>cases h<;>first|rfl|simp[eF]at hc
 |agg=>simp[eF]at hc
 |aU=>simp[eF]at hc
 |undef=>simp[eF]at hc
 | _=>rfl
theorem C9:∀{cs:List V} {xs:List Value},a6 fid G w cs xs->bL cs=true->∀x∈xs,x.oneCell'=true
 | _,_,.nil,_,x,hx=>by simp at hx
 | _,_,.cons v y vs cK h hs,hc,x,hx=>by
   simp only[bL,b6]at hc;rcases dx.1 hx with rfl|hx
   ·exact XB h hc.1
   ·exact C9 hs hc.2 x hx
theorem Da{v:V}{y:Value}(h:bh fid G w v y)(hc:bL (aC v)=true):a6 fid G w (aC v) y.cells.toList/\∀c∈y.cells.toList,c.oneCell'=true:=by
 by_cases ad:∃vs,v=.agg vs
 ·obtain⟨vs,rfl⟩:=ad
  obtain⟨vals,rfl,hr⟩:=h.FU;exact⟨hr,C9 hr hc⟩
 ·have e:aC v=[v]:=by
   cases v<;>first|rfl|(exfalso;exact ad ⟨_,rfl⟩)
  rw[e]at hc⊢;have h1:y.oneCell'=true:=XB h (by simpa[bL]using hc);have e':y.cells= #[y]:=by cases y<;>first|rfl|simp[Value.oneCell']at h1
  rw[e'];exact⟨.cons _ _ _ _ h .nil,fun c hc=>by simp at hc;subst hc;exact h1⟩
theorem F2:∀{cK:List V} {zs:List Value} {cs:List V} {xs:List Value} (o:Nat),a6 fid G w cs xs->a6 fid G w cK zs->o+cK.length<=cs.length->
  a6 fid G w (setCells cs o cK) (xs.take o++zs++xs.drop (o+zs.length))
 | _,_,cs,xs,o,h,.nil,_=>by simpa[setCells]using h
 | _,_,cs,xs,o,h,.cons y z cK zs hy hs,hl=>by
   have hlen:=h.length;simp only[gD]at hl;have ih:=F2 (o+1) (h.set o hy) hs (by simp;omega);simp only[setCells];have e:=list_seg_step xs o z zs (by have:=hs.length;omega);rw[<-gD (a:=z)]at e;rw[<-e];exact ih
theorem XC:∀(cK cs:List V) (o:Nat),(setCells cs o cK).length=cs.length
 |[],cs,o=>rfl
 |y::cK,cs,o=>by rw[setCells,XC cK];simp
theorem setRow_other{g b:Nat}(hb:b≠g)(c:Array Value):(w.setRow g c).heap[b]? =w.heap[b]? :=by
 unfold World.setRow;simp only[CD];rw[if_neg (by omega)]
theorem setRow_size (g:Nat)(c:Array Value):(w.setRow g c).heap.size=w.heap.size:=by
 unfold World.setRow;simp
theorem akS{vs cK:List V}{o:Nat}(bc:bL cK=true)(h4:o+cK.length<=vs.length){v:V}(h:setCells vs o cK=[.undef,v]):(∃v',vs=[.undef,v'])/\(cK=[]\/1<=o):=by
 match cK,bc,h4,h with
 |[],_,_,h=>exact⟨⟨v,h⟩,.inl rfl⟩
 |[y],bc,h4,h=>
  simp only[setCells]at h
  match o,vs,h4,h with
  |0,a::r,_,h=>
   simp only[Oh,x6]at h;rw[h.1]at bc;simp[bL,eF]at bc
  |1,[a,b],_,h=>
   simp only[Wr,Oh,x6]at h;rw[h.1];exact⟨⟨b,rfl⟩,.inr (aH _)⟩
  |1,a::b::c::r,_,h=>simp at h
  |n+2,a::b::c::r,_,h=>simp at h
  |n+2,[a,b],h4,_=>simp at h4
 |y::z::r,bc,h4,h=>
  have hl:∀(xs a:List V) (o:Nat),(setCells a o xs).length=a.length:=by
   intro xs
   induction xs with
   |nil=>intro a o;rfl
   |cons x xs ih=>intro a o;rw[setCells,ih,x7]
  have:=congrArg List.length h;rw[hl]at this;simp only[gD,nL]at this h4;have ho:o=0:=by omega
  have hr:r=[]:=uR.1 (by omega);subst ho hr
  match vs,this,h with
  |[a,b],_,h=>
   simp[setCells]at h;rw[h.1]at bc;simp[bL,eF]at bc
theorem akT (ab:a8 C fid G H w){l:Nat}{h:Home}{vs cK:List V}(hb:G.β l=some h)(hl:H[l]? =some (.cells vs)){o:Nat}{zs:List Value}(hy:a6 fid G w cK zs)
  (bc:bL cK=true) (h4:o+cK.length<=vs.length) {c:Array Value} {e:TypeId} (hc:w.heap[h.b]? =some (.cells c e (0,0))):
  ∃G',a8 C fid G' (H.set l (.cells (setCells vs o cK))) (w.setRow h.b (c.toList.take o++zs++c.toList.drop (o+zs.length)).toArray)/\
   Ext G w G' (w.setRow h.b (c.toList.take o++zs++c.toList.drop (o+zs.length)).toArray) l H.length:=by
 obtain⟨aV,ho,hr⟩:=ab.obj l h hb;rw[hl]at ho;cases ho;obtain⟨ht,ag,c',e',tr,ad⟩:=hr;rw[hc]at tr;cases tr;refine⟨⟨cp G.β l h,G.I⟩,?_,?_⟩
 ·refine a8.write ab hb ag rfl ag (aH _) id rfl (setRow_size _ _) (fun b bg=>setRow_other bg _) _ ?_
  have hD:FT C (w.setRow h.b (c.toList.take o++zs++c.toList.drop (o+zs.length)).toArray) h.b (setCells vs o cK):=fun v wc=>by
   obtain⟨⟨v',q1⟩,q2⟩:=akS bc h4 wc;obtain⟨df,af,bQ,c6,iX⟩:=ht.2 v' q1;rw[hc]at bQ;cases bQ;refine⟨_,e,setRow_heap w h.b c _ e _ hc,c6,?_⟩
   have key:(c.toList.take o++zs++c.toList.drop (o+zs.length)).toArray[0]? =c[0]? :=by
    rw[r1,<-fM];rcases q2 with rfl|q2
    ·have:zs=[]:=by have:=hy.length;exact uR.1 (by simpa using this)
     subst this;simp
    ·have fm:=ad.length
     rw[q1]at fm;rw[kA,e5 (by rw[nc];simp only[gD,nL]at fm;omega),Fl,if_pos (by omega)]
   rw[key];exact iX
  refine⟨⟨ht.1,hD⟩,ag,_,e,setRow_heap w h.b c _ e _ hc,?_⟩
  have hx:Ext G w ⟨cp G.β l h,G.I⟩ (w.setRow h.b (c.toList.take o++zs++c.toList.drop (o+zs.length)).toArray) l H.length:=
   Ext.write ab hb ag rfl (aH _) id rfl (setRow_size _ _) (fun b bg=>setRow_other bg _) rfl rfl
  exact((F2 o ad hy h4).ext ab hx)
 ·exact Ext.write ab hb ag rfl (aH _) id rfl (setRow_size _ _) (fun b bg=>setRow_other bg _) rfl rfl
theorem XD:∀(xs a b:List V) (o:Nat),o+xs.length<=a.length->setCells (a++b) o xs=setCells a o xs++b
 |[],_,_,_,_=>rfl
 |x::xs,a,b,o,h=>by
  simp only[gD]at h;rw[setCells,setCells,JT _ _ (by omega),XD xs _ b (o+1) (by simp;omega)]
theorem XE:∀(xs a b:List V) (o:Nat),setCells (a++b) (a.length+o) xs=a++setCells b o xs
 |[],_,_,_=>rfl
 |x::xs,a,b,o=>by
  rw[setCells,setCells,List.set_append_right _ _ (by omega),Nat.add_sub_cancel_left,qV,XE xs a]
theorem Pk{es:Nat}{d':V}{f:Nat}{xs:List V}:∀{ds:List V} {i:Nat} {d:V},(∀d∈ds,(aC d).length=es)->ds[i]? =some d->f+xs.length<=es->aC d'=setCells (aC d) f xs->
  (ds.set i d').flatMap aC=setCells (ds.flatMap aC) (i*es+f) xs
 |[],i,d,_,h,_,_=>by simp at h
 |a::ds,0,d,hu,h,ag,he=>by
  simp at h;subst h;have:=hu a (by simp);rw[Oh,im,im,he,vS,dA,XD _ _ _ _ (by omega)]
 |a::ds,i+1,d,hu,h,ag,he=>by
  have h1:=hu a (by simp);have ih:=Pk (fun x hx=>hu x (by simp[hx])) (i:=i) (d:=d) (ds:=ds) (by simpa using h) ag he;rw[Wr,im,im,ih,zL,Nat.add_comm (i*es) es,qV,<-h1,XE]
theorem akU{d d':V}{f:Nat}{xs:List V}(h:yb d f xs=some d')(hp:mj xs=true):aC d'=setCells (aC d) f xs/\f+xs.length<=(aC d).length:=by
 unfold yb at h;split at h
 ·split at h
  ·simp only[aB]at h;subst h
   rename_i hle;exact⟨rfl,hle⟩
  ·cases h
 ·rename_i bg
  have e:aC d=[d]:=by cases d<;>first|rfl|(exfalso;exact bg _ rfl)
  split at h
  ·rename_i x
   simp only[aB]at h;subst h;rw[e];refine⟨?_,by simp⟩;simp only[mj,uW]at hp;cases x<;>first|rfl|simp[plainCell]at hp
  ·cases h
theorem Pl:∀{xs:List V},mj xs=true->bL xs=true
 |[],_=>rfl
 |x::xs,h=>by
  simp only[mj,b6]at h;simp only[bL,b6];exact⟨by cases x<;>simp_all [plainCell,eF],Pl h.2⟩
theorem XF (ab:a8 C fid G H w){l es:Nat}{ds ds':List V}{h:Home}(hb:G.β l=some h)(hl:H[l]? =some (.row es ds false))(hn:ds'.length=ds.length)
  (mu:∀d∈ds',(aC d).length=es) {o:Nat} {cK:List V} {zs:List Value} (hy:a6 fid G w cK zs) (h4:o+cK.length<=ds.length*es)
  (we:∀vals,a6 fid G w (ds.flatMap aC) vals->a6 fid G w (ds'.flatMap aC) (vals.take o++zs++vals.drop (o+zs.length))) {c:Array Value} {e:TypeId} (hc:w.heap[h.b]? =some (.cells c e (0,0))):
  ∃G',a8 C fid G' (H.set l (.row es ds' false)) (w.setRow h.b (c.toList.take o++zs++c.toList.drop (o+zs.length)).toArray)/\
   Ext G w G' (w.setRow h.b (c.toList.take o++zs++c.toList.drop (o+zs.length)).toArray) l H.length:=by
 obtain⟨aV,ho,hr⟩:=ab.obj l h hb;rw[hl]at ho;cases ho;obtain⟨ht,iV,ag,eo,hu,c',e',vals,rest,tr,eV,ad,ep⟩:=hr;rw[hc]at tr;cases tr
 have hx:Ext G w ⟨cp G.β l h,G.I⟩ (w.setRow h.b (c.toList.take o++zs++c.toList.drop (o+zs.length)).toArray) l H.length:=
  Ext.write ab hb ag rfl (aH _) id rfl (setRow_size _ _) (fun b bg=>setRow_other bg _) rfl rfl
 have km:=nj hu;have lB:=ep.length;have jW:=hy.length;refine⟨_,?_,hx⟩;refine a8.write ab hb ag rfl ag (aH _) id rfl (setRow_size _ _) (fun b bg=>setRow_other bg _) _ ?_;refine⟨by rw[ht,hn],by omega,ag,eo,mu,_,e,vals.take o++zs++vals.drop (o+zs.length),rest,setRow_heap w h.b c _ e _ hc,?_,?_,?_⟩
 ·rw[eV]
  simp only[ta,eZ,nc,nK,fw];have:c.size=vals.length+rest.length:=by rw[<-fw,ad,eZ]
  omega
 ·rw[CF,ad,List.take_append_of_le_length (by omega),List.drop_append_of_le_length (by omega),kA _ _ rest]
 ·exact(we vals ep).ext ab hx
theorem akV (ab:a8 C fid G H w){t:TypeId}{n:Nat}(hs:C.sizeOf t=some n){a u:V}{x y:Value}(ha:bh fid G w a x)(hu:bh fid G w u y){l:Nat}(he:jy H n a u=some (H',l)):
  ∃w' G',(Instr.storeAt t x y).run C.P w=.ok () w'/\a8 C fid G' H' w'/\Ext G w G' w' l H.length/\l<H.length/\H'.length=H.length:=by
 have de:∀w,(Go.sizeOf t).run C.P w=.ok n w:=by
  intro w;simp only[Ctx.sizeOf,cA]at hs;obtain⟨i,hi,rfl⟩:=hs;unfold Go.sizeOf;rw[Sem.run_bind,run_typeInfo (P:=C.P) w hi];rfl
 have cm:∀(b o:Nat) (c:Array Value) (e:TypeId),w.heap[b]? =some (.cells c e (0,0))->(aC u).length=n->bL (aC u)=true->o+n<=c.size->x=.pointer (some ⟨b,o,none⟩)->
   (Instr.storeAt t x y).run C.P w=.ok () (w.setRow b (c.toList.take o++y.cells.toList++c.toList.drop (o+y.cells.toList.length)).toArray):=by
  intro b o c e hc hlen bc hle hx;obtain⟨h1,h2⟩:=Da hu bc;have hl:=h1.length;subst hx;have akW:y.cells.size=n:=by rw[<-fw,hl,hlen]
  simp only[Instr.storeAt,Instr.sureAddr,storeVar,Sem.run_bind,Sem.run_pure,Result.andThen_ok,de,akW,ne_eq,not_true,if_false];have:=run_storeCells_at C.P b o e y.cells.toList 0 c w hc (by omega) h2;simpa using this
 unfold jy at he;split at he
 ·rename_i fk o
  obtain⟨h0,hb,ht,rfl⟩:=ha.pj;split at he
  ·rename_i vs hl
   split at he
   ·rename_i hc
    obtain⟨hlen,hle,bc⟩:=hc;simp only[aB,bx]at he;obtain⟨rfl,rfl⟩:=he;obtain⟨aV,ho,hr⟩:=ab.obj fk h0 hb;rw[hl]at ho;cases ho;obtain⟨-,-,c,e,hc,ad⟩:=hr;have lB:=ad.length;obtain⟨h1,h2⟩:=Da hu bc;obtain⟨G',bB,ca⟩:=akT ab hb hl h1 bc (by rw[hlen];exact hle) hc;exact⟨_,G',cm h0.b o c e hc hlen bc (by rw[<-fw];omega) rfl,bB,ca,ab.lt hb,by simp⟩
   ·cases he
  ·cases he
 ·rename_i fk es i f tag
  obtain⟨h0,c8,hb,oH,gY,rfl⟩:=ha.F0;split at he
  ·rename_i bN ds hl
   split at he
   ·rename_i hc
    obtain⟨rfl,fX,hlen,jm⟩:=hc;split at he
    ·rename_i d hd
     split at he
     ·rename_i d' Db
      simp only[aB,bx]at he;obtain⟨rfl,rfl⟩:=he;obtain⟨aV,ho,hr⟩:=ab.obj fk h0 hb;rw[hl]at ho;cases ho;obtain⟨ht,iV,ag,eo,iY,c,e,vals,rest,hc,eV,ad,ep⟩:=hr;obtain⟨p1,p2⟩:=akU Db jm;have lA:(aC d).length=bN:=iY d (gg hd);have bc:=Pl jm;obtain⟨h1,h2⟩:=Da hu bc
      have hi:i<ds.length:=by
       obtain⟨hi,-⟩:=fj.1 hd;exact hi
      have hmul:i*bN+bN<=ds.length*bN:=by
       have:(i+1)*bN<=ds.length*bN:=x4 _ hi;rw[zL]at this;exact this
      have akX:(aC d').length=bN:=by rw[p1,XC,lA]
      have km:=nj iY;have lB:=ep.length;have lU:c.size=vals.length+rest.length:=by rw[<-fw,ad,eZ]
      obtain⟨G',bB,ca⟩:=XF ab hb hl (ds':=ds.set i d') (by simp)
       (fun a ha=>by rcases aj0 ha with q|rfl;exact iY a q;exact akX) (o:=i*bN+f) h1 (by omega) (fun vals ad=>by rw[Pk iY hd (by omega) p1];exact F2 _ ad h1 (by omega)) hc
      refine⟨_,G',cm h0.b (i*bN+f) c e hc hlen bc (by omega) ?_,bB,ca,ab.lt hb,by simp⟩;rw[gY (ht.trans fX)]
     ·cases he
    ·cases he
   ·cases he
  ·cases he
 ·cases he
end ops
end Go.Abs
