/- Texts of this claim, joined and written short by a program. -/
import Derived.Test.YtoimeckpnnkbpaaGreatDoorP01
import Derived.Laws.Cells
import Derived.Laws.CopyRow
import Derived.ChangeKeysEq
import Derived.DefersIn
import Derived.Test.YtoimeckpnnkbpaaGreatDoorP00
set_option linter.unusedVariables false
set_option linter.unusedSimpArgs false
set_option linter.unusedSectionVars false
namespace Go.Abs
open Go
variable{C:Ctx}{fid:Nat->Nat}{w w':World}{G G':bX}{H:Heap}
def ck (β:Nat->Option Home)(l:Nat)(h:Home):Nat->Option Home:=fun x=>if x=l then some h else β x
theorem de (β:Nat->Option Home)(l:Nat)(h:Home):ck β l h l=some h:=by simp[ck]
theorem dp{β:Nat->Option Home}{l x:Nat}{h:Home}(hx:x≠l):ck β l h x=β x:=by simp[ck,hx]
theorem aZ.lt (U:aZ C fid G H w){l:Nat}{h:Home}(hb:G.β l=some h):l<H.length:=by
 obtain⟨o,ho,-⟩:=U.obj l h hb;rcases fX l H.length with h'|h'
 ·exact h'
 ·simp[lb h']at ho
theorem aZ.none (U:aZ C fid G H w){l:Nat}(hl:H.length<=l):G.β l=none:=by
 cases hb:G.β l with
 |none=>rfl
 |some h=>exact absurd (U.lt hb) (by omega)
theorem alloc_old{o:Obj}{b:Nat}(hb:b<w.heap.size):(w.alloc o).heap[b]? =w.heap[b]? :=by
 show(w.heap.push o)[b]? =_;rw[Array.getElem?_push,if_neg (by omega)]
theorem oQ (w:World)(o:Obj):(w.alloc o).heap[w.heap.size]? =some o:=by
 show(w.heap.push o)[_]? =_;simp
theorem Ae{l:Nat}(hn:G.β l=none)(h:Home):lT G.β (ck G.β l h):=fun x h0 hb=>by
 have:x≠l:=fun e=>by subst e;rw[hn]at hb;cases hb
 exact⟨h0,by rw[dp this];exact hb,aK _,id,fun _=>⟨rfl,rfl⟩,fun _=>rfl⟩
theorem aZ.lU (U:aZ C fid G H w)(h:w'.heap=w.heap):aZ C fid G H w' where
 obj l x hb:=by
  obtain⟨o,ho,hr⟩:=U.obj l x hb;exact⟨o,ho,hr.mono (.refl _) (fun b hb=>⟨hb,by rw[h]⟩) (by rw[h])⟩
 inj:=U.inj
 blk l x hb:=by rw[h];exact U.blk l x hb
 cX b hb:=by rw[h];exact U.cX b hb
 ku:=U.ku
 e9 b o bj:=by rw[h];exact U.e9 b o bj
theorem Ext.lU (h:w'.heap=w.heap)(ho:w'.os=w.os)(hp:w'.output=w.output)(m n:Nat):Ext G w G w' m n:=
 ⟨by rw[h];exact aK _,ho,hp,fun _ _ _=>by rw[h],.refl _,fun _ h hb=>.inl ⟨h,hb,.inl rfl⟩,fun _ h=>h,fun _ h=>.inl h⟩
theorem aZ.push (U:aZ C fid G H w)(o:cc)(aP:Obj)(tag ff:Nat)
  (ho:jg C fid ⟨ck G.β H.length ⟨w.heap.size,tag,ff,false⟩,G.I⟩ (w.alloc aP) ⟨w.heap.size,tag,ff,false⟩ o):
  aZ C fid ⟨ck G.β H.length ⟨w.heap.size,tag,ff,false⟩,G.I⟩ (H++[o]) (w.alloc aP):=by
 have hn:=U.none (aK H.length);have hle:=Ae hn ⟨w.heap.size,tag,ff,false⟩;refine⟨fun l h hb=> ?_,fun l l' h h' e e' q=> ?_,fun l h hb=> ?_,fun b hb=> ?_,fun l h hb ab=> ?_,fun b o bj=>⟨(U.e9 b o bj).1,by rw[alloc_old (U.cX b (U.e9 b o bj).1).1];exact(U.e9 b o bj).2⟩⟩
 ·by_cases hl:l=H.length
  ·subst hl
   simp only[de]at hb;cases hb;exact⟨o,by simp,ho⟩
  ·simp only[dp hl]at hb
   obtain⟨o',e',hr⟩:=U.obj l h hb;have:=U.lt hb;refine⟨o',by rw[gE this];exact e',hr.mono (G':=⟨ck G.β H.length _,G.I⟩) hle (fun b hb=>⟨hb,alloc_old (U.cX b hb).1⟩) (alloc_old (U.blk l h hb))⟩
 ·by_cases hl:l=H.length<;>by_cases nu:l'=H.length
  ·rw[hl,nu]
  ·subst hl;simp only[de]at e;cases e
   simp only[dp nu]at e';have:=U.blk l' h' e';simp only at q;omega
  ·subst nu;simp only[de]at e';cases e'
   simp only[dp hl]at e;have:=U.blk l h e;simp only at q;omega
  ·simp only[dp hl]at e;simp only[dp nu]at e'
   exact U.inj l l' h h' e e' q
 ·rw[World.size_alloc]
  by_cases hl:l=H.length
  ·subst hl;simp only[de]at hb;cases hb;simp
  ·simp only[dp hl]at hb;have:=U.blk l h hb;omega
 ·have hi:=U.cX b hb
  refine⟨by rw[World.size_alloc];omega,fun l h e q=> ?_⟩;by_cases hl:l=H.length
  ·subst hl;simp only[de]at e;cases e;simp only at q;omega
  ·simp only[dp hl]at e;exact hi.2 l h e q
 ·by_cases hl:l=H.length
  ·subst hl;simp only[de]at hb;cases hb;cases ab
  ·simp only[dp hl]at hb;exact U.ku l h hb ab
theorem Ext.push (U:aZ C fid G H w)(aP:Obj)(tag ff m:Nat):
  Ext G w ⟨ck G.β H.length ⟨w.heap.size,tag,ff,false⟩,G.I⟩ (w.alloc aP) m H.length where
 size:=by simp
 os:=rfl
 output:=rfl
 dQ b hb _:=alloc_old hb
 homes:=Ae (U.none (aK _)) _
 nt l h hb:=by
  by_cases hl:l=H.length
  ·subst hl;simp only[de]at hb;cases hb;exact .inr ⟨aK _,aK _⟩
  ·simp only[dp hl]at hb;exact .inl ⟨h,hb,.inl rfl⟩
 cX _ h:=h
 n1 _ h:=.inl h
theorem aZ.write (U:aZ C fid G H w){l:Nat}{h h':Home}(hb:G.β l=some h)(ab:h.dt=false)(iA:h'.b=h.b)(KL:h'.dt=false)
  (fR:h.tag<=h'.tag) (aT:h.tag=0->h'.tag=0) (fS:h'.ff=h.ff) (hs:w'.heap.size=w.heap.size)
  (Cs:∀b,b≠h.b->w'.heap[b]? =w.heap[b]?) (o:cc) (ho:jg C fid ⟨ck G.β l h',G.I⟩ w' h' o):
  aZ C fid ⟨ck G.β l h',G.I⟩ (H.set l o) w':=by
 have aX:=U.lt hb;have KM:∀b,G.I b->b≠h.b:=fun b hi e=>by have:=(U.cX b hi).2 l h hb e.symm;rw[ab]at this;cases this
 have hle:lT G.β (ck G.β l h'):=fun x h0 e=>by
  by_cases hx:x=l
  ·subst hx;rw[hb]at e;cases e
   exact⟨h',de _ _ _,fR,aT,fun _=>⟨iA,fS⟩,fun q=>by rw[ab]at q;cases q⟩
  ·exact⟨h0,by rw[dp hx];exact e,aK _,id,fun _=>⟨rfl,rfl⟩,fun _=>rfl⟩
 refine⟨fun x h0 e=> ?_,fun x y h1 h2 af e2 q=> ?_,fun x h0 e=> ?_,fun b hi=> ?_,fun x h0 e q=> ?_,fun b o bj=>⟨(U.e9 b o bj).1,by rw[Cs b (KM b (U.e9 b o bj).1)];exact(U.e9 b o bj).2⟩⟩
 ·by_cases hx:x=l
  ·subst hx;simp only[de]at e;cases e
   exact⟨o,by simp[aX],ho⟩
  ·simp only[dp hx]at e
   obtain⟨o',e',hr⟩:=U.obj x h0 e;have bf:h0.b≠h.b:=fun q=>hx (U.inj x l h0 h e hb q);exact⟨o',by rw[gm (kp hx)];exact e',hr.mono (G':=⟨ck G.β l _,G.I⟩) hle (fun b hi=>⟨hi,Cs b (KM b hi)⟩) (Cs _ bf)⟩
 ·by_cases hx:x=l<;>by_cases hy:y=l
  ·rw[hx,hy]
  ·subst hx;simp only[de]at af;cases af;simp only[dp hy]at e2
   exact U.inj x y h h2 hb e2 (iA ▸ q)
  ·subst hy;simp only[de]at e2;cases e2;simp only[dp hx]at af
   exact U.inj x y h1 h af hb (iA ▸ q)
  ·simp only[dp hx]at af;simp only[dp hy]at e2
   exact U.inj x y h1 h2 af e2 q
 ·rw[hs]
  by_cases hx:x=l
  ·subst hx;simp only[de]at e;cases e;rw[iA];exact U.blk x h hb
  ·simp only[dp hx]at e;exact U.blk x h0 e
 ·refine⟨by rw[hs];exact(U.cX b hi).1,fun x h0 e q=> ?_⟩
  by_cases hx:x=l
  ·subst hx;simp only[de]at e;cases e
   exact absurd (q.symm.trans iA) (KM b hi)
  ·simp only[dp hx]at e;exact(U.cX b hi).2 x h0 e q
 ·by_cases hx:x=l
  ·subst hx;simp only[de]at e;cases e;rw[KL]at q;cases q
  ·simp only[dp hx]at e;exact U.ku x h0 e q
theorem Ext.write (_hR:aZ C fid G H w){l:Nat}{h h':Home}(hb:G.β l=some h)(ab:h.dt=false)(iA:h'.b=h.b)
  (fR:h.tag<=h'.tag) (aT:h.tag=0->h'.tag=0) (fS:h'.ff=h.ff) (hs:w'.heap.size=w.heap.size)
  (Cs:∀b,b≠h.b->w'.heap[b]? =w.heap[b]?) (Af:w'.os=w.os) (hp:w'.output=w.output):
  Ext G w ⟨ck G.β l h',G.I⟩ w' l H.length where
 size:=by rw[hs];exact aK _
 os:=Af
 output:=hp
 dQ b _ k:=Cs b fun e=>by
  rcases k l h hb e.symm with q|q
  ·rw[ab]at q;cases q
  ·omega
 homes x h0 e:=by
  by_cases hx:x=l
  ·subst hx;rw[hb]at e;cases e
   exact⟨h',de _ _ _,fR,aT,fun _=>⟨iA,fS⟩,fun q=>by rw[ab]at q;cases q⟩
  ·exact⟨h0,by simp only[dp hx];exact e,aK _,id,fun _=>⟨rfl,rfl⟩,fun _=>rfl⟩
 nt x h0 e:=by
  by_cases hx:x=l
  ·subst hx;simp only[de]at e;cases e;exact .inl ⟨h,hb,.inl iA.symm⟩
  ·simp only[dp hx]at e;exact .inl ⟨h0,e,.inl rfl⟩
 cX _ h:=h
 n1 _ h:=.inl h
theorem aZ.move (U:aZ C fid G H w){l:Nat}{h:Home}(hb:G.β l=some h)(ab:h.dt=false)(aP:Obj)(tag ff:Nat)(fR:h.tag<tag)(aT:h.tag≠0)
  (o:cc) (ho:jg C fid ⟨ck G.β l ⟨w.heap.size,tag,ff,false⟩,G.I⟩ (w.alloc aP) ⟨w.heap.size,tag,ff,false⟩ o):
  aZ C fid ⟨ck G.β l ⟨w.heap.size,tag,ff,false⟩,G.I⟩ (H.set l o) (w.alloc aP)/\Ext G w ⟨ck G.β l ⟨w.heap.size,tag,ff,false⟩,G.I⟩ (w.alloc aP) l H.length:=by
 have aX:=U.lt hb
 have hle:lT G.β (ck G.β l ⟨w.heap.size,tag,ff,false⟩):=fun x h0 e=>by
  by_cases hx:x=l
  ·subst hx;rw[hb]at e;cases e
   exact⟨_,de _ _ _,xI fR,fun q=>absurd q aT,fun q=>by simp only at q;omega,fun q=>by rw[ab]at q;cases q⟩
  ·exact⟨h0,by rw[dp hx];exact e,aK _,id,fun _=>⟨rfl,rfl⟩,fun _=>rfl⟩
 refine⟨⟨fun x h0 e=> ?_,fun x y h1 h2 af e2 q=> ?_,fun x h0 e=> ?_,fun b hi=> ?_,fun x h0 e q=> ?_,fun b o bj=>⟨(U.e9 b o bj).1,by rw[alloc_old (U.cX b (U.e9 b o bj).1).1];exact(U.e9 b o bj).2⟩⟩,⟨by simp,rfl,rfl,fun b iA _=>alloc_old iA,hle,fun x h0 e=> ?_,fun _ h=>h,fun _ h=>.inl h⟩⟩
 ·by_cases hx:x=l
  ·subst hx;simp only[de]at e;cases e
   exact⟨o,by simp[aX],ho⟩
  ·simp only[dp hx]at e
   obtain⟨o',e',hr⟩:=U.obj x h0 e;exact⟨o',by rw[gm (kp hx)];exact e',hr.mono (G':=⟨ck G.β l _,G.I⟩) hle (fun b hi=>⟨hi,alloc_old (U.cX b hi).1⟩) (alloc_old (U.blk x h0 e))⟩
 ·by_cases hx:x=l<;>by_cases hy:y=l
  ·rw[hx,hy]
  ·subst hx;simp only[de]at af;cases af;simp only[dp hy]at e2
   have:=U.blk y h2 e2;simp only at q;omega
  ·subst hy;simp only[de]at e2;cases e2;simp only[dp hx]at af
   have:=U.blk x h1 af;simp only at q;omega
  ·simp only[dp hx]at af;simp only[dp hy]at e2
   exact U.inj x y h1 h2 af e2 q
 ·rw[World.size_alloc]
  by_cases hx:x=l
  ·subst hx;simp only[de]at e;cases e;simp
  ·simp only[dp hx]at e;have:=U.blk x h0 e;omega
 ·refine⟨by rw[World.size_alloc];have:=(U.cX b hi).1;omega,fun x h0 e q=> ?_⟩
  by_cases hx:x=l
  ·subst hx;simp only[de]at e;cases e
   have:=(U.cX b hi).1;simp only at q;omega
  ·simp only[dp hx]at e;exact(U.cX b hi).2 x h0 e q
 ·by_cases hx:x=l
  ·subst hx;simp only[de]at e;cases e;cases q
  ·simp only[dp hx]at e;exact U.ku x h0 e q
 ·by_cases hx:x=l
  ·subst hx;simp only[de]at e;cases e;exact .inl ⟨h,hb,.inr (aK _)⟩
  ·simp only[dp hx]at e;exact .inl ⟨h0,e,.inl rfl⟩
theorem xT{es:Nat}:∀{ds:List V},(∀d∈ds,(aE d).length=es)->∀(n:Nat),(ds.drop n).flatMap aE=(ds.flatMap aE).drop (n*es)
 |ds,_,0=>by simp
 |[],_,n+1=>by simp
 |d::ds,h,n+1=>by
  have h1:=h d (by simp);rw[QI,xT (fun x hx=>h x (by simp[hx])) n,kn,Cg,avO,<-sR];congr 1;rw[List.drop_left' h1]
theorem Ag{es:Nat}:∀{ds:List V},(∀d∈ds,(aE d).length=es)->∀(n:Nat),(ds.take n).flatMap aE=(ds.flatMap aE).take (n*es)
 |ds,_,0=>by simp
 |[],_,n+1=>by simp
 |d::ds,h,n+1=>by
  have h1:=h d (by simp);rw[List.take_succ_cons,kn,Ag (fun x hx=>h x (by simp[hx])) n,kn,Cg,List.take_append,h1,B5 (l:=aE d) (by rw[h1];exact Nat.le_add_left _ _),Nat.add_sub_cancel]
theorem nv{es:Nat}:∀{ds:List V},(∀d∈ds,(aE d).length=es)->(ds.flatMap aE).length=ds.length*es
 |[],_=>by simp
 |d::ds,h=>by
  rw[kn,gM,nv (fun x hx=>h x (by simp[hx])),h d (by simp),ev,Cg,avO]
theorem Ah:∀(a b:List V),bW (a++b)=(bW a&&bW b)
 |[],b=>by simp[bW]
 |v::a,b=>by simp[bW,Ah a b,Cf]
theorem abX (v:V)(h:bs v=true):bW (aE v)=true:=by
 cases v<;>simp_all [aE,bW,bs]
theorem KN:∀{ds:List V},bW ds=true->bW (ds.flatMap aE)=true
 |[],_=>by simp[bW]
 |d::ds,h=>by
  simp only[bW,b8]at h;rw[kn,Ah,abX d h.1,KN h.2];rfl
theorem Rz:∀{ds:List V},bW ds=true->(∀n,bW (ds.drop n)=true)/\∀n,bW (ds.take n)=true:=by
 intro ds h;constructor
 ·intro n
  have:bW (ds.take n++ds.drop n)=true:=by rw[B7];exact h
  rw[Ah,b8]at this;exact this.2
 ·intro n
  have:bW (ds.take n++ds.drop n)=true:=by rw[B7];exact h
  rw[Ah,b8]at this;exact this.1
theorem RA{b o:Nat}{c:Array Value}{e:TypeId}{f:Nat × Nat}(h:w.heap[b]? =some (.cells c e f)):w.cell? ⟨b,o,none⟩=c[o]? :=by
 simp[World.cell?,h]
theorem iz.xU{b:Nat}{c:Array Value}{e:TypeId}{f:Nat × Nat}{vals rest:List Value}(h:w.heap[b]? =some (.cells c e f))(hc:c.toList=vals++rest):
  iz w b 0 vals:=by
 intro j x hx
 rw[RA h,eO,<-auF,hc,gE (by
  rcases fX j vals.length with q|q
  ·exact q
  ·simp[lb q]at hx)]
 exact hx
theorem iz.drop{b o:Nat}{vals:List Value}(h:iz w b o vals)(n:Nat):iz w b (o+n) (vals.drop n):=by
 intro j x hx;rw[QK]at hx;rw[pr];exact h (n+j) x hx
theorem iz.take{b o:Nat}{vals:List Value}(h:iz w b o vals)(n:Nat):iz w b o (vals.take n):=by
 intro j x hx;rw[QL]at hx;split at hx
 ·exact h j x hx
 ·cases hx
theorem KO{l es:Nat}{ds:List V}{h:Home}{dt:Bool}(ho:jg C fid G w h (.row es ds dt))(aW:G.I h.b)(hp:bW ds=true){off len n cap:Nat}{a:Addr}
  (ao:a=⟨h.b,off*es,none⟩/\n=len/\(off+cap)*es<=h.ff/\len<=cap) (hl:off+len<=ds.length):
  fz w G.I (.list es ((ds.drop off).take len)) (.slice (some a) n cap):=by
 obtain⟨-,-,-,-,hu,c,e,vals,rest,hc,-,ad,hr⟩:=ho;obtain⟨rfl,rfl,-,e4⟩:=ao;have fT:=(((iz.xU hc ad).drop (off*es)).take (n*es));have nw:∀d∈ds.drop off,(aE d).length=es:=fun d hd=>hu d (B8 hd);have hlen:((ds.drop off).take n).length=n:=by simp;omega
 have key:=fz.list (w:=w) (I:=G.I) es ((ds.drop off).take n) h.b (off*es) cap ((vals.drop (off*es)).take (n*es)) aW (by simpa using fT)
  (fun d hd=>nw d (zP hd)) (by
    rw[Ag nw,xT hu];exact((hr.drop _).take _).pz ((Rz ((Rz (KN hp)).1 _)).2 _)) (by rw[hlen];exact e4)
 rwa [hlen]at key
theorem RB (U:aZ C fid G H w){l es:Nat}{ds:List V}(e5:H[l]? =some (.row es ds false)){h:Home}(hb:G.β l=some h):
  let G':bX:=⟨ck G.β l {h with dt:=true},fun b=>G.I b\/b=h.b⟩
  aZ C fid G' (H.set l (.row es ds true)) w/\Ext G w G' w l H.length/\jg C fid G' w {h with dt:=true} (.row es ds true):=by
 intro G';obtain⟨o,ho,hr⟩:=U.obj l h hb;rw[e5]at ho;cases ho;have ab:h.dt=false:=hr.2.2.1
 have hle:lT G.β G'.β:=fun x h0 e=>by
  by_cases hx:x=l
  ·subst hx;rw[hb]at e;cases e
   exact⟨_,de _ _ _,aK _,id,fun _=>⟨rfl,rfl⟩,fun q=>by rw[ab]at q;cases q⟩
  ·exact⟨h0,by show ck _ _ _ _=_;rw[dp hx];exact e,aK _,id,fun _=>⟨rfl,rfl⟩,fun _=>rfl⟩
 have RC:∀b,G.I b->G'.I b/\w.heap[b]? =w.heap[b]? :=fun b hi=>⟨.inl hi,rfl⟩
 have aA:jg C fid G' w {h with dt:=true} (.row es ds true):=by
  have:=jg.mono (G':=G') hle RC rfl hr;exact⟨this.1,this.2.1,rfl,this.2.2.2⟩
 refine⟨⟨fun x h0 e=> ?_,fun x y h1 h2 af e2 q=> ?_,fun x h0 e=> ?_,fun b hi=> ?_,fun x h0 e q=> ?_,fun b o bj=>⟨.inl (U.e9 b o bj).1,(U.e9 b o bj).2⟩⟩,⟨aK _,rfl,rfl,fun _ _ _=>rfl,hle,fun x h0 e=> ?_,fun _ h=>.inl h,fun b hi=> ?_⟩,aA⟩
 ·by_cases hx:x=l
  ·subst hx;rw[show G'.β=ck _ _ _ from rfl,de]at e;cases e
   exact⟨_,by simp[U.lt hb],aA⟩
  ·rw[show G'.β=ck _ _ _ from rfl,dp hx]at e
   obtain⟨o',e',gu⟩:=U.obj x h0 e;exact⟨o',by rw[gm (kp hx)];exact e',gu.mono hle RC rfl⟩
 ·have RD:∀z ar,G'.β z=some ar->∃aQ,G.β z=some aQ/\aQ.b=ar.b:=fun z ar e=>by
   by_cases aT:z=l
   ·subst aT;rw[show G'.β=ck _ _ _ from rfl,de]at e;cases e;exact⟨h,hb,rfl⟩
   ·rw[show G'.β=ck _ _ _ from rfl,dp aT]at e;exact⟨ar,e,rfl⟩
  obtain⟨aQ,cF,lg⟩:=RD x h1 af;obtain⟨h5,ej,uv⟩:=RD y h2 e2;exact U.inj x y aQ h5 cF ej (lg.trans (q.trans uv.symm))
 ·by_cases hx:x=l
  ·subst hx;rw[show G'.β=ck _ _ _ from rfl,de]at e;cases e;exact U.blk x h hb
  ·rw[show G'.β=ck _ _ _ from rfl,dp hx]at e;exact U.blk x h0 e
 ·rcases hi with hi|rfl
  ·refine⟨(U.cX b hi).1,fun x h0 e q=> ?_⟩
   by_cases hx:x=l
   ·subst hx;rw[show G'.β=ck _ _ _ from rfl,de]at e;cases e;rfl
   ·rw[show G'.β=ck _ _ _ from rfl,dp hx]at e;exact(U.cX b hi).2 x h0 e q
  ·refine⟨U.blk l h hb,fun x h0 e q=> ?_⟩
   by_cases hx:x=l
   ·subst hx;rw[show G'.β=ck _ _ _ from rfl,de]at e;cases e;rfl
   ·rw[show G'.β=ck _ _ _ from rfl,dp hx]at e;exact absurd (U.inj x l h0 h e hb q) hx
 ·by_cases hx:x=l
  ·subst hx;rw[show G'.β=ck _ _ _ from rfl,de]at e;cases e;exact .inr rfl
  ·rw[show G'.β=ck _ _ _ from rfl,dp hx]at e;exact .inl (U.ku x h0 e q)
 ·by_cases hx:x=l
  ·subst hx;rw[show G'.β=ck _ _ _ from rfl,de]at e;cases e;exact .inl ⟨h,hb,.inl rfl⟩
  ·rw[show G'.β=ck _ _ _ from rfl,dp hx]at e;exact .inl ⟨h0,e,.inl rfl⟩
 ·rcases hi with hi|rfl
  ·exact .inl hi
  ·exact .inr (.inr ⟨l,h,hb,rfl⟩)
structure lh (C:Ctx) (fid:Nat->Nat) (G:bX) (H:Heap) (w:World) (low:Nat) (G':bX) (H':Heap) (low':Nat):Prop where
 rel:aZ C fid G' H' w
 ext:∀m,m<=low'->Ext G w G' w m H.length
 low:low'<=low
 len:H'.length=H.length
theorem lh.refl (U:aZ C fid G H w)(low:Nat):lh C fid G H w low G H low:=⟨U,fun _ _=>.refl _ _ _ _,aK _,rfl⟩
theorem lh.trans{xV RE:bX}{rG RF:Heap}{low xW RG:Nat}(h:lh C fid G H w low xV rG xW)(k:lh C fid xV rG w xW RE RF RG):lh C fid G H w low RE RF RG:=
 ⟨k.rel,fun m hm=>(h.ext m (cV hm k.low)).trans ((k.ext m hm).le (aK _) (Nat.le_of_eq h.len.symm)),cV k.low h.low,k.len.trans h.len⟩
theorem aZ.swap (U:aZ C fid G H w){l:Nat}{h:Home}(hb:G.β l=some h){o:cc}(ho:jg C fid G w h o):aZ C fid G (H.set l o) w:=
 ⟨fun x h0 e=>by
  by_cases hx:x=l
  ·subst hx
   rw[hb]at e;cases e;exact⟨o,by simp[U.lt hb],ho⟩
  ·obtain⟨o',e',gu⟩:=U.obj x h0 e
   exact⟨o',by rw[gm (kp hx)];exact e',gu⟩,U.inj,U.blk,U.cX,U.ku,U.e9⟩
theorem a8.Ct{vs:List V}{x:Value}(h:a8 fid G w (.agg vs) x):∃vals,x=.agg ⟨vals⟩/\aY fid G w vs vals:=by
 cases h with
 |p _ _ h=>cases h with|agg _ vals hr=>exact⟨vals,rfl,hr.oP⟩
 |agg _ vals hr=>exact⟨vals,rfl,hr⟩
theorem a8.KP{vs:List V}{x:Value}(h:a8 fid G w (.aU vs) x):∃vals,x=.tuple ⟨vals⟩/\aY fid G w vs vals:=by
 cases h with
 |p _ _ h=>cases h with|aU _ vals hr=>exact⟨vals,rfl,hr.oP⟩
 |aU _ vals hr=>exact⟨vals,rfl,hr⟩
structure Cu (C:Ctx) (fid:Nat->Nat) (w:World) (f:Heap->Nat->V->Option (V × Heap × Nat)):Prop where
 ok:∀{G:bX} {H H':Heap} {low low':Nat} {v v':V} {x:Value},aZ C fid G H w->a8 fid G w v x->f H low v=some (v',H',low')->∃G',lh C fid G H w low G' H' low'/\a8 fid G' w v' x
structure F9 (C:Ctx) (fid:Nat->Nat) (w:World) (f:Heap->Nat->V->Option (V × Heap × Nat)):Prop where
 ok:∀{G:bX} {H H':Heap} {low low':Nat} {v v':V} {dd:List Value},aZ C fid G H w->aY fid G w (aE v) dd->f H low v=some (v',H',low')->
  ∃G',lh C fid G H w low G' H' low'/\aY fid G' w (aE v') dd/\(aE v').length=(aE v).length
theorem Ga{f:Heap->Nat->V->Option (V × Heap × Nat)}(ab:Cu C fid w f):∀{vs vs':List V} {xs:List Value} {G:bX} {H H':Heap} {low low':Nat},aZ C fid G H w->aY fid G w vs xs->
  kq f H low vs=some (vs',H',low')->∃G',lh C fid G H w low G' H' low'/\aY fid G' w vs' xs
 |[],_,_,G,H,H',low,low',U,.nil,he=>by
  simp only[kq,az,bt]at he;obtain⟨rfl,rfl,rfl⟩:=he;exact⟨G,.refl U _,.nil⟩
 |v::r,_,_,G,H,H',low,low',U,.cons _ x _ xs ad hs,he=>by
  simp only[kq]at he;split at he
  ·rename_i v1 H1 bI h1
   split at he
   ·rename_i b9 H2 c5 h2
    simp only[az,bt]at he;obtain⟨rfl,rfl,rfl⟩:=he;obtain⟨ay,f1,cq⟩:=ab.ok U ad h1;obtain⟨bl,f2,ee⟩:=Ga ab f1.rel (hs.ext U (f1.ext 0 (cx _))) h2;exact⟨bl,f1.trans f2,.cons _ _ _ _ (cq.ext f1.rel (f2.ext 0 (cx _))) ee⟩
   ·cases he
  ·cases he
theorem RH{f:Heap->Nat->V->Option (V × Heap × Nat)}(ab:F9 C fid w f):∀{vs vs':List V} {xs:List Value} {G:bX} {H H':Heap} {low low':Nat},aZ C fid G H w->aY fid G w (vs.flatMap aE) xs->
  kq f H low vs=some (vs',H',low')->
  ∃G',lh C fid G H w low G' H' low'/\aY fid G' w (vs'.flatMap aE) xs/\vs'.length=vs.length/\∀es,(∀d∈vs,(aE d).length=es)->∀d∈vs',(aE d).length=es
 |[],_,_,G,H,H',low,low',U,h,he=>by
  simp only[kq,az,bt]at he;obtain⟨rfl,rfl,rfl⟩:=he;exact⟨G,.refl U _,h,rfl,fun _ h=>h⟩
 |v::r,_,xs,G,H,H',low,low',U,h,he=>by
  simp only[kq]at he;split at he
  ·rename_i v1 H1 bI h1
   split at he
   ·rename_i b9 H2 c5 h2
    simp only[az,bt]at he;obtain⟨rfl,rfl,rfl⟩:=he;rw[kn]at h;obtain⟨cR,dd,rfl,hy,aT⟩:=h.split;obtain⟨ay,f1,cq,bF⟩:=ab.ok U hy h1;obtain⟨bl,f2,ee,iB,oR⟩:=RH ab f1.rel (aT.ext U (f1.ext 0 (cx _))) h2;refine⟨bl,f1.trans f2,?_,by simp[iB],fun es hu d hd=> ?_⟩
    ·rw[kn];exact(cq.ext f1.rel (f2.ext 0 (cx _))).append ee
    ·rcases dA.1 hd with rfl|hd
     ·rw[bF];exact hu v (by simp)
     ·exact oR es (fun d hd=>hu d (by simp[hd])) d hd
   ·cases he
  ·cases he
theorem F9.of{f:Heap->Nat->V->Option (V × Heap × Nat)}(ad:Cu C fid w f)
  (sW:∀{H H':Heap} {low low':Nat} {v v':V},f H low v=some (v',H',low')->(∀vs,v≠ .agg vs)->aE v'=[v'])
  (KQ:∀{G:bX} {H H':Heap} {low low':Nat} {vs:List V} {v':V} {dd:List Value},aZ C fid G H w->aY fid G w vs dd->f H low (.agg vs)=some (v',H',low')->
    ∃G' vs',v'=.agg vs'/\lh C fid G H w low G' H' low'/\aY fid G' w vs' dd):F9 C fid w f:=by
 refine⟨fun {G H H' low low' v v' dd} U h he=> ?_⟩;by_cases ao:∃vs,v=.agg vs
 ·obtain⟨vs,rfl⟩:=ao
  obtain⟨G',vs',rfl,f1,cq⟩:=KQ U h he;exact⟨G',f1,cq,by have:=cq.length;have:=h.length;simp only[aE]at *; omega⟩
 ·have uw:∀vs,v≠ .agg vs:=fun vs e=>ao ⟨vs,e⟩
  have e:aE v=[v]:=by cases v<;>first|rfl|(exfalso;exact uw _ rfl)
  rw[e]at h;cases h with
  |cons _ x _ xs h hs=>
   cases hs;obtain⟨ay,f1,cq⟩:=ad.ok U h he;rw[sW he uw,e];exact⟨ay,f1,.cons _ _ _ _ cq .nil,rfl⟩
theorem abY{l es off len tag n cap:Nat}{a:Addr}{h:Home}{ds ds':List V}{low:Nat}{c:Array Value}{e:TypeId}{vals rest:List Value}(ht:ds.length=tag)(hle:off+len<=ds.length)
  {xV:bX} {rG:Heap} {xW:Nat} {RI:List V} (hb:G.β l=some h) (fR:h.tag=tag) (ao:a=⟨h.b,off*es,none⟩/\n=len/\(off+cap)*es<=h.ff/\len<=cap)
  (lV:0<ds.length) (fa:0<es) (hc:w.heap[h.b]? =some (.cells c e (0,0))) (dJ:h.ff=c.size) (kU:c.toList=vals++rest)
  (sX:aY fid xV w (ds'.flatMap aE) vals) (hlen:ds'.length=ds.length)
  (n2:∀d∈ds',(aE d).length=es) (ab:lh C fid G H w low xV rG xW)
  (KR:rG[l]? =some (.row es RI false)) (abZ:RI.length=tag) (hp:bW ds'=true):
  ∃G',lh C fid G H w low G' (rG.set l (.row es ds' true)) (min xW l)/\a8 fid G' w (.list es ((ds'.drop off).take len)) (.slice (some a) n cap):=by
 obtain⟨h',iA,t1,-,m1,-⟩:=(ab.ext 0 (cx _)).homes l h hb;obtain⟨o',kx,gu⟩:=ab.rel.obj l h' iA;rw[KR]at kx;cases kx;have RJ:h'.tag=h.tag:=by rw[gu.1,abZ,fR]
 obtain⟨eb,Cv⟩:=m1 RJ
 have aA:jg C fid xV w h' (.row es ds' false):=
  ⟨by rw[RJ,fR,<-ht,hlen],by omega,gu.2.2.1,fa,n2,c,e,vals,rest,by rw[eb];exact hc,by rw[Cv];exact dJ,kU,sX⟩
 have ab0:=ab.rel.swap iA aA
 have aX:l<rG.length:=by
  rcases fX l rG.length with q|q
  ·exact q
  ·rw[lb q]at KR;cases KR
 have ab1:(rG.set l (.row es ds' false))[l]? =some (.row es ds' false):=by simp[aX]
 obtain⟨h1,h2,ar⟩:=RB ab0 ab1 iA;rw[List.set_set]at h1
 have dt:lh C fid xV rG w xW _ (rG.set l (.row es ds' true)) (min xW l):=
  ⟨h1,fun m hm=>h2.le (cV hm (qt _ _)) (by simp),jU _ _,by simp⟩
 refine⟨_,ab.trans dt,.p _ _ (KO (l:=l) ar (.inr rfl) hp ?_ (by rw[hlen];exact hle))⟩;show a=⟨h'.b,off*es,none⟩/\n=len/\(off+cap)*es<=h'.ff/\len<=cap;rw[eb,Cv];exact ao
theorem KS:∀(n:Nat),Cu C fid w (dF n)/\F9 C fid w (dF n)
 |0=>by
  have ad:Cu C fid w (dF 0):=by
   refine⟨fun {G H H' low low' v v' x} U h he=> ?_⟩;simp only[dF]at he;split at he
   ·simp only[az,bt]at he
    obtain⟨rfl,rfl,rfl⟩:=he;exact⟨G,.refl U _,h⟩
   ·cases he
  refine⟨ad,.of ad (fun {H H' low low' v v'} he uw=> ?_) (fun {G H H' low low' vs v' dd} U h he=> ?_)⟩
  ·simp only[dF]at he
   split at he
   ·simp only[az,bt]at he
    obtain⟨rfl,-,-⟩:=he;cases v<;>first|rfl|(exfalso;exact uw _ rfl)
   ·cases he
  ·simp only[dF]at he
   split at he
   ·simp only[az,bt]at he
    obtain⟨rfl,rfl,rfl⟩:=he;exact⟨G,vs,rfl,.refl U _,h⟩
   ·cases he
 |n+1=>by
  obtain⟨KT,ab2⟩:=KS n
  have ad:Cu C fid w (dF (n+1)):=by
   refine⟨fun {G H H' low low' v v' x} U h he=> ?_⟩;simp only[dF]at he;split at he
   ·simp only[az,bt]at he
    obtain⟨rfl,rfl,rfl⟩:=he;exact⟨G,.refl U _,h⟩
   ·split at he
    ·rename_i vs
     split at he
     ·rename_i vs' H1 bI h1
      simp only[az,bt]at he;obtain⟨rfl,rfl,rfl⟩:=he;obtain⟨vals,rfl,hr⟩:=h.Ct;obtain⟨ay,f1,cq⟩:=Ga KT U hr h1;exact⟨ay,f1,.agg _ _ cq⟩
     ·cases he
    ·rename_i vs
     split at he
     ·rename_i vs' H1 bI h1
      simp only[az,bt]at he;obtain⟨rfl,rfl,rfl⟩:=he;obtain⟨vals,rfl,hr⟩:=h.KP;obtain⟨ay,f1,cq⟩:=Ga KT U hr h1;exact⟨ay,f1,.aU _ _ cq⟩
     ·cases he
    ·rename_i l es off len tag _
     split at he
     ·rename_i bD ds dt hl
      split at he
      ·rename_i hc
       obtain⟨rfl,ht,hle⟩:=hc;split at he
       ·rename_i hp
        simp only[az,bt]at he;obtain⟨rfl,rfl,rfl⟩:=he;cases h with
        |p _ _ h=>cases h
        |cz _ _ _ _ _ h a n cap hb KU ao=>
         obtain⟨o,ho,hr⟩:=U.obj l h hb;rw[hl]at ho;cases ho;have fR:h.tag=tag:=hr.1.trans ht;cases dt with
         |true=>
          exact⟨G,.refl U _,.p _ _ (KO (l:=l) hr (U.ku l h hb hr.2.2.1) hp (ao fR) hle)⟩
         |false=>
          obtain⟨h1,h2,ar⟩:=RB U hl hb;exact⟨_,⟨h1,fun m hm=>h2.le (cV hm (qt _ _)) (aK _),jU _ _,by simp⟩,.p _ _ (KO (l:=l) ar (.inr rfl) hp (ao fR) hle)⟩
       ·split at he
        ·rename_i ds' H1 bI h1
         split at he
         ·rename_i QT QU Ai
          split at he
          ·rename_i Gb
           obtain⟨rfl,n3,hp⟩:=Gb;simp only[az,bt]at he;obtain⟨rfl,rfl,rfl⟩:=he;cases h with
           |p _ _ h=>cases h
           |cz _ _ _ _ _ h a n cap hb KU ao=>
            obtain⟨o,ho,hr⟩:=U.obj l h hb;rw[hl]at ho;cases ho;have fR:h.tag=tag:=hr.1.trans ht;obtain⟨-,lV,-,fa,hu,c,e,vals,rest,hc,dJ,kU,fg⟩:=hr;obtain⟨ay,f1,cq,bF,ky⟩:=RH ab2 U fg h1;exact abY ht hle hb fR (ao fR) lV fa hc dJ kU cq bF (ky _ hu) f1 Ai n3 hp
          ·cases he
         ·cases he
        ·cases he
      ·cases he
     ·cases he
    ·simp only[az,bt]at he
     obtain⟨rfl,rfl,rfl⟩:=he;exact⟨G,.refl U _,h⟩
  refine⟨ad,.of ad (fun {H H' low low' v v'} he uw=> ?_) (fun {G H H' low low' vs v' dd} U h he=> ?_)⟩
  ·simp only[dF]at he
   repeat' split at he
   all_goals first
    |cases he;done
    |(simp only[az,bt]at he;obtain⟨rfl,-,-⟩:=he;first|rfl|(exfalso;exact uw _ rfl)|(cases v<;>first|rfl|(exfalso;exact uw _ rfl)))
  ·simp only[dF]at he
   split at he
   ·simp only[az,bt]at he
    obtain⟨rfl,rfl,rfl⟩:=he;exact⟨G,vs,rfl,.refl U _,h⟩
   ·split at he
    ·rename_i vs' H1 bI h1
     simp only[az,bt]at he;obtain⟨rfl,rfl,rfl⟩:=he;obtain⟨ay,f1,cq⟩:=Ga KT U h h1;exact⟨ay,vs',rfl,f1,cq⟩
    ·cases he
theorem Gc (U:aZ C fid G H w){low low':Nat}{v v':V}{x:Value}{H':Heap}(ad:a8 fid G w v x)(he:eP H low v=some (v',H',low')):
 ∃G',lh C fid G H w low G' H' low'/\a8 fid G' w v' x:=(KS 16).1.ok U ad he
theorem ab3 (U:aZ C fid G H w){low low':Nat}{v v':V}{dd:List Value}{H':Heap}(ad:aY fid G w (aE v) dd)(he:eP H low v=some (v',H',low')):
 ∃G',lh C fid G H w low G' H' low'/\aY fid G' w (aE v') dd/\(aE v').length=(aE v).length:=(KS 16).2.ok U ad he
theorem KV:∀{vs vs':List V} {xs:List Value} {G:bX} {H H':Heap} {low low':Nat},aZ C fid G H w->aY fid G w vs xs->dX H low vs=some (vs',H',low')->
  ∃G',lh C fid G H w low G' H' low'/\aY fid G' w vs' xs
 |[],_,_,G,H,H',low,low',U,.nil,he=>by
  simp only[dX,az,bt]at he;obtain⟨rfl,rfl,rfl⟩:=he;exact⟨G,.refl U _,.nil⟩
 |v::r,_,_,G,H,H',low,low',U,.cons _ x _ xs ad hs,he=>by
  simp only[dX]at he;split at he
  ·rename_i v1 H1 bI h1
   split at he
   ·rename_i b9 H2 c5 h2
    simp only[az,bt]at he;obtain⟨rfl,rfl,rfl⟩:=he;obtain⟨ay,f1,cq⟩:=Gc U ad h1;obtain⟨bl,f2,ee⟩:=KV f1.rel (hs.ext U (f1.ext 0 (cx _))) h2;exact⟨bl,f1.trans f2,.cons _ _ _ _ (cq.ext f1.rel (f2.ext 0 (cx _))) ee⟩
   ·cases he
  ·cases he
end Go.Abs
namespace Go.Abs
open Go
variable{C:Ctx}{fid:Nat->Nat}{w w':World}{G G':bX}{H:Heap}
def Gd (P:Program)(d:Deferred):Prop:=
 ∃fv cap f args,d.target=.fn fv cap/\∀w,(invoke d.target d.args).run P w=.ok (.enter f args) w/\
  CallsDIn Fence.wide 0 P f args .returning w fun e u' w'=>(∃v,e=.returned v)/\u'=.returning/\w'=w
structure eZ (C:Ctx) (fid:Nat->Nat):Prop where
 f:∀f i,C.FZ f=some i->i=f
 ab4:∀i,i∈C.Aa->∀caps:Array Value,Gd C.P {target:=.fn (.func i) caps,args:= #[]}
mutual
theorem Cw{I:Nat->Prop}:∀(x:Value) {v:V},mC x=some v->v=.undef\/fz w I v x
 | .bool b,v,h=>by simp only[mC,az]at h;subst h;exact .inr (.bool b)
 | .int k n,v,h=>by simp only[mC,az]at h;subst h;exact .inr (.int k n)
 | .string ⟨⟨s⟩⟩,v,h=>by simp only[mC,az]at h;subst h;exact .inr (.str s)
 | .pointer none,v,h=>by simp only[mC,az]at h;subst h;exact .inr .jb
 | .slice none 0 0,v,h=>by simp only[mC,az]at h;subst h;exact .inr .cp
 | .map none,v,h=>by simp only[mC,az]at h;subst h;exact .inr .iw
 | .nilFunc,v,h=>by simp only[mC,az]at h;subst h;exact .inr .jV
 | .nilIface,v,h=>by simp only[mC,az]at h;subst h;exact .inr .ig
 | .agg ⟨vs⟩,v,h=>by
   simp only[mC,ct]at h;obtain⟨us,hu,rfl⟩:=h;exact .inr (.agg us vs (Ge vs hu))
 | .tuple ⟨[]⟩,v,h=>by simp only[mC,az]at h;subst h;exact .inl rfl
 | .tuple ⟨_::_⟩,v,h=>by simp[mC]at h
 | .slice none (n+1) _,v,h=>by simp[mC]at h
 | .slice none 0 (n+1),v,h=>by simp[mC]at h
 | .pointer (some _),v,h| .slice (some _) _ _,v,h| .map (some _),v,h| .float ..,v,h| .complex ..,v,h| .chan ..,v,h| .func ..,v,h| .iface ..,v,h=>by simp[mC]at h
theorem Ge{I:Nat->Prop}:∀(xs:List Value) {vs:List V},z8 xs=some vs->c7 w I vs xs
 |[],vs,h=>by simp only[z8,az]at h;subst h;exact .nil
 |x::r,vs,h=>by
  simp only[z8]at h;split at h
  ·rename_i v ad
   split at h
   ·cases h
   ·simp only[ct]at h
    obtain⟨us,hu,rfl⟩:=h;exact .cons v x us r ((Cw x ad).resolve_left (by rintro rfl;simp_all [ui])) (Ge r hu)
  ·cases h
end
def fh (C:Ctx)(fid:Nat->Nat)(vars:List Nat)(G:bX)(w:World)(ae:ag->V)(ρ:Operand->Value):Prop:=
 ∀x cv,C.b3 vars x=some cv->a8 fid G w (ae cv) (ρ x)
def dj (C:Ctx)(fid:Nat->Nat)(G:bX)(H:Heap)(w:World)(ab5:Nat)(r:Result Next)(v:V)(H':Heap)(low':Nat):Prop:=
 ∃x w' G',(r=.ok (.value x) w'\/(r=.ok .skip w'/\x=undef))/\aZ C fid G' H' w'/\(∀m,m<=low'->Ext G w G' w' m H.length)/\a8 fid G' w' v x/\low'<=ab5/\H.length<=H'.length
theorem dj.same (U:aZ C fid G H w){low:Nat}{r:Result Next}{v:V}{x:Value}(hr:r=.ok (.value x) w)(ad:a8 fid G w v x):dj C fid G H w low r v H low:=
 ⟨x,w,G,.inl hr,U,fun _ _=>.refl _ _ _ _,ad,aK _,aK _⟩
theorem dj.alloc (U:aZ C fid G H w){low:Nat}{r:Result Next}{v:V}{x:Value}{o:cc}{aP:Obj}(tag ff:Nat)(hr:r=.ok (.value x) (w.alloc aP))
  (ho:jg C fid ⟨ck G.β H.length ⟨w.heap.size,tag,ff,false⟩,G.I⟩ (w.alloc aP) ⟨w.heap.size,tag,ff,false⟩ o)
  (ad:a8 fid ⟨ck G.β H.length ⟨w.heap.size,tag,ff,false⟩,G.I⟩ (w.alloc aP) v x):dj C fid G H w low r v (H++[o]) low:=
 ⟨x,_,_,.inl hr,U.push o aP tag ff ho,fun m _=>.push U aP tag ff m,ad,aK _,by simp⟩
theorem dj.Aj{low bI:Nat}{ay:bX}{H1:Heap}(f:lh C fid G H w low ay H1 bI){r:Result Next}{v:V}{H':Heap}{low':Nat}(h:dj C fid ay H1 w bI r v H' low'):
  dj C fid G H w low r v H' low':=by
 obtain⟨x,w',G',hr,U,he,ad,hl,hn⟩:=h;refine⟨x,w',G',hr,U,fun m hm=>(f.ext m (cV hm hl)).trans ((he m hm).le (aK _) (Nat.le_of_eq f.len.symm)),ad,cV hl f.low,by have:=f.len;omega⟩
section ops
variable{vars:List Nat}{ae:ag->V}{ρ:Operand->Value}{low low':Nat}{v:V}{H':Heap}{pos:String}{c8:cH}{o:Oper}
theorem KW (bu:eZ C fid){f:FuncId}{cv:ag}(h:C.b3 vars (.func f)=some cv){aG av:Env}:a8 fid G w (cv.ae aG av) (.func (.func f) #[] #[]):=by
 simp only[Ctx.b3,ct]at h;obtain⟨i,hi,rfl⟩:=h;have e:=bu.f f i hi;subst e;exact a8.fn (fid:=fid) (G:=G) (w:=w) i [] [] [] [] .nil .nil
theorem a8.kz{x:Value}{b:Bool}(h:a8 fid G w (.bool b) x):x=.bool b:=by
 cases h with|p _ _ h=>cases h;rfl
theorem a8.jE{x:Value}{k:IntKind}{n:Int}(h:a8 fid G w (.int k n) x):x=.int k n:=by
 cases h with|p _ _ h=>cases h;rfl
theorem a8.oS{x:Value}{s:List UInt8}(h:a8 fid G w (.str s) x):x=.string ⟨⟨s⟩⟩:=by
 cases h with|p _ _ h=>cases h;rfl
theorem a8.n4{x:Value}{l o:Nat}(h:a8 fid G w (.ptr l o) x):∃h,G.β l=some h/\h.tag=0/\x=.pointer (some ⟨h.b,o,none⟩):=by
 cases h with
 |p _ _ h=>cases h
 |ptr _ _ h hb ht=>exact⟨h,hb,ht,rfl⟩
theorem a8.mapInv{x:Value}{l:Nat}(h:a8 fid G w (.map l) x):∃h,G.β l=some h/\h.tag=0/\x=.map (some h.b):=by
 cases h with
 |p _ _ h=>cases h
 |map _ h hb ht=>exact⟨h,hb,ht,rfl⟩
theorem a8.Cx{x:Value}{l es i f tag:Nat}(h:a8 fid G w (.gF l es i f tag) x):
  ∃h a,G.β l=some h/\tag<=h.tag/\(h.tag=tag->a=⟨h.b,i*es+f,none⟩)/\x=.pointer (some a):=by
 cases h with
 |p _ _ h=>cases h
 |gF _ _ _ _ _ h a hb hle ao=>exact⟨h,a,hb,hle,ao,rfl⟩
theorem a8.KX{x:Value}{vs:List V}{f:Nat}(h:a8 fid G w (.dn vs f) x):
  ∃b o vals,G.I b/\iz w b o vals/\c7 w G.I vs vals/\x=.pointer (some ⟨b,o+f,none⟩):=by
 cases h with
 |p _ _ h=>cases h
 |dn _ _ b o vals aW hc hr=>exact⟨b,o,vals,aW,hc,hr,rfl⟩
theorem a8.pA{x:Value}{l es off len tag:Nat}(h:a8 fid G w (.cz l es off len tag) x):
  ∃h a n cap,G.β l=some h/\tag<=h.tag/\(h.tag=tag->a=⟨h.b,off*es,none⟩/\n=len/\(off+cap)*es<=h.ff/\len<=cap)/\x=.slice (some a) n cap:=by
 cases h with
 |p _ _ h=>cases h
 |cz _ _ _ _ _ h a n cap hb hle ao=>exact⟨h,a,n,cap,hb,hle,ao,rfl⟩
theorem a8.Ak{x:Value}{i:Nat}{fs cs:List V}(h:a8 fid G w (.fn i fs cs) x):
  ∃xs cR,aY fid G w fs xs/\aY fid G w cs cR/\x=.func (.func i) ⟨xs⟩ ⟨cR⟩:=by
 cases h with
 |p _ _ h=>cases h with|fn _ _ _ xs cR ab hc=>exact⟨xs,cR,c7.oP ab,c7.oP hc,rfl⟩
 |fn _ _ _ xs cR ab hc=>exact⟨xs,cR,ab,hc,rfl⟩
theorem a8.ab6{x:Value}{l:Nat}(h:a8 fid G w (.yield l) x):∃h,G.β l=some h/\h.tag=0/\x=.func (.yield h.b) #[] #[]:=by
 cases h with
 |p _ _ h=>cases h
 |yield _ h hb ht=>exact⟨h,hb,ht,rfl⟩
theorem aY.fY{cs:List V}{xs:List Value}(h:aY fid G w cs xs){o:Nat}{sh:Option Nat}{u:V}(hr:Abs.fY cs o sh=some u):
  match sh with
  |none=>∃x,xs[o]? =some x/\a8 fid G w u x
  |some n=>o+n<=xs.length/\a8 fid G w u (.agg ⟨(xs.drop o).take n⟩):=by
 cases sh with
 |none=>exact h.get hr
 |some n=>
  simp only[Abs.fY]at hr;split at hr
  ·rename_i hle
   simp only[az]at hr;subst hr;exact⟨by rw[h.length];exact hle,.agg _ _ ((h.drop o).take n)⟩
  ·cases hr
theorem RL{t:TypeId}{sh:Option Nat}(h:C.shapeOf t=some sh):
  (∃n,sh=some n/\(∀w,(isAgg t).run C.P w=.ok true w)/\∀w,(Go.sizeOf t).run C.P w=.ok n w)\/(sh=none/\∀w,(isAgg t).run C.P w=.ok false w):=by
 unfold Ctx.shapeOf at h
 have key:∀d,C.P.underlying t=some d->∀w,(isAgg t).run C.P w=.ok (match d with| .struct _| .array _ _=>true| _=>false) w:=by
  intro d hd w;unfold isAgg;rw[Sem.run_bind,run_underlying hd];cases d<;>rfl
 have kV:∀n,C.sizeOf t=some n->∀w,(Go.sizeOf t).run C.P w=.ok n w:=by
  intro n hn w;simp only[Ctx.sizeOf,ct]at hn;obtain⟨i,hi,rfl⟩:=hn;unfold Go.sizeOf;rw[Sem.run_bind,run_typeInfo (P:=C.P) w hi];rfl
 cases hd:C.P.underlying t with
 |none=>rw[hd]at h;cases h
 |some d=>
  rw[hd]at h;have cW:=key d hd
  cases d<;>simp only[az,ct]at h<;>
   first
    |exact .inr ⟨h.symm,cW⟩
    |(obtain⟨n,hn,rfl⟩:=h;exact .inl ⟨n,rfl,cW,kV n hn⟩)
theorem KY{t:TypeId}{sh:Option Nat}(h:C.shapeOf t=some sh){b o:Nat}{cs:List V}{vals:List Value}{f:Nat}(hc:iz w b o vals)(ad:aY fid G w cs vals){u:V}
  (hr:Abs.fY cs f sh=some u):∃x,(loadVar t ⟨b,o+f,none⟩).run C.P w=.ok x w/\a8 fid G w u x:=by
 have cW:=ad.fY hr;rcases RL h with⟨n,rfl,ao,hs⟩|⟨rfl,ao⟩
 ·obtain⟨hle,hu⟩:=cW
  refine⟨_,?_,hu⟩
  have fS:∀(j:Nat) (x:Value),((vals.drop f).take n)[j]? =some x->w.cell? (Addr.add ⟨b,o+f,none⟩ j)=some x:=by
   intro j x hx;rw[Addr.add_lit];rw[QL]at hx;split at hx
   ·rw[QK]at hx;rw[pr];exact hc _ _ hx
   ·cases hx
  have hl:=run_loadCells_list (P:=C.P) w ⟨b,o+f,none⟩ _ fS;have hlen:((vals.drop f).take n).length=n:=by simp;omega
  rw[hlen]at hl;unfold loadVar;simp only[Sem.run_bind,ao,hs,Result.andThen_ok,if_true,hl,Sem.run_pure]
 ·obtain⟨x,hx,hu⟩:=cW
  refine⟨x,?_,hu⟩;unfold loadVar;simp only[Sem.run_bind,ao,Result.andThen_ok,hY,if_false,run_load,hc f x hx]
theorem RM (U:aZ C fid G H w){t:TypeId}{sh:Option Nat}(h:C.shapeOf t=some sh){a u:V}{x:Value}(ao:a8 fid G w a x)(he:gN H sh a=some u):
  ∃y,(Instr.loadAt t x).run C.P w=.ok y w/\a8 fid G w u y:=by
 unfold gN at he;split at he
 ·rename_i l o
  obtain⟨h0,hb,ht,rfl⟩:=ao.n4;split at he
  ·rename_i vs hl
   obtain⟨aP,ho,hr⟩:=U.obj l h0 hb;rw[hl]at ho;cases ho;obtain⟨-,-,c,e,hc,ad⟩:=hr;obtain⟨y,hy,hu⟩:=KY (o:=0) h (iz.xU (vals:=c.toList) (rest:=[]) hc (by simp)) ad he;rw[eO]at hy;exact⟨y,by simp only[Instr.loadAt,Instr.sureAddr,Sem.run_bind,Sem.run_pure,Result.andThen_ok,hy],hu⟩
  ·cases he
 ·rename_i l es i f tag
  obtain⟨h0,dc,hb,hle,jF,rfl⟩:=ao.Cx;split at he
  ·rename_i bD ds dt hl
   split at he
   ·rename_i hc
    obtain⟨rfl,fR⟩:=hc;obtain⟨aP,ho,hr⟩:=U.obj l h0 hb;rw[hl]at ho;cases ho;obtain⟨ht,-,-,-,hu,c,e,vals,rest,hc,fS,ad,fg⟩:=hr;obtain⟨d,hd,Cy⟩:=dZ.1 he;have kW:(aE d).length=bD:=hu d (hz hd)
    have ab7:aY fid G w (aE d) ((vals.drop (i*bD)).take bD):=by
     have h1:(ds.drop i).flatMap aE=(ds.flatMap aE).drop (i*bD):=xT hu i
     have h2:ds.drop i=d::ds.drop (i+1):=by
      obtain⟨hi,rfl⟩:=pY.1 hd;exact wc hi
     have ar:=(fg.drop (i*bD)).take bD;rw[<-h1,h2,kn,List.take_append,kW,Nat.sub_self,List.take_zero,rz,B5 (by omega)]at ar;exact ar
    have fT:iz w h0.b (i*bD) ((vals.drop (i*bD)).take bD):=by
     have:=((iz.xU hc ad).drop (i*bD)).take bD;rwa [eO]at this
    obtain⟨y,hy,ab8⟩:=KY h fT ab7 Cy;rw[jF (ht.trans fR)];exact⟨y,by simp only[Instr.loadAt,Instr.sureAddr,Sem.run_bind,Sem.run_pure,Result.andThen_ok,hy],ab8⟩
   ·cases he
  ·cases he
 ·rename_i vs f
  obtain⟨b,o,vals,aW,hc,hr,rfl⟩:=ao.KX;obtain⟨y,hy,hu⟩:=KY h hc (c7.oP (fid:=fid) hr) he;exact⟨y,by simp only[Instr.loadAt,Instr.sureAddr,Sem.run_bind,Sem.run_pure,Result.andThen_ok,hy],hu⟩
 ·cases he
theorem RN{c:V}{x:Value}(h:a8 fid G w c x)(hc:ed c=true):x.oneCell'=true:=by
 cases h with
 |p _ _ h=>cases h<;>first|rfl|simp[ed]at hc
 |agg=>simp[ed]at hc
 |aU=>simp[ed]at hc
 |undef=>simp[ed]at hc
 | _=>rfl
theorem Gf:∀{cs:List V} {xs:List Value},aY fid G w cs xs->bS cs=true->∀x∈xs,x.oneCell'=true
 | _,_,.nil,_,x,hx=>by simp at hx
 | _,_,.cons v y vs cR h hs,hc,x,hx=>by
   simp only[bS,b8]at hc;rcases dA.1 hx with rfl|hx
   ·exact RN h hc.1
   ·exact Gf hs hc.2 x hx
theorem Al{v:V}{y:Value}(h:a8 fid G w v y)(hc:bS (aE v)=true):aY fid G w (aE v) y.cells.toList/\∀c∈y.cells.toList,c.oneCell'=true:=by
 by_cases ad:∃vs,v=.agg vs
 ·obtain⟨vs,rfl⟩:=ad
  obtain⟨vals,rfl,hr⟩:=h.Ct;exact⟨hr,Gf hr hc⟩
 ·have e:aE v=[v]:=by
   cases v<;>first|rfl|(exfalso;exact ad ⟨_,rfl⟩)
  rw[e]at hc⊢;have h1:y.oneCell'=true:=RN h (by simpa[bS]using hc);have e':y.cells= #[y]:=by cases y<;>first|rfl|simp[Value.oneCell']at h1
  rw[e'];exact⟨.cons _ _ _ _ h .nil,fun c hc=>by simp at hc;subst hc;exact h1⟩
theorem Cz:∀{cR:List V} {dd:List Value} {cs:List V} {xs:List Value} (o:Nat),aY fid G w cs xs->aY fid G w cR dd->o+cR.length<=cs.length->
  aY fid G w (setCells cs o cR) (xs.take o++dd++xs.drop (o+dd.length))
 | _,_,cs,xs,o,h,.nil,_=>by simpa[setCells]using h
 | _,_,cs,xs,o,h,.cons y z cR dd hy hs,hl=>by
   have hlen:=h.length;simp only[ev]at hl;have ih:=Cz (o+1) (h.set o hy) hs (by simp;omega);simp only[setCells];have e:=list_seg_step xs o z dd (by have:=hs.length;omega);rw[<-ev (a:=z)]at e;rw[<-e];exact ih
theorem RO:∀(cR cs:List V) (o:Nat),(setCells cs o cR).length=cs.length
 |[],cs,o=>rfl
 |y::cR,cs,o=>by rw[setCells,RO cR];simp
theorem setRow_other{g b:Nat}(hb:b≠g)(c:Array Value):(w.setRow g c).heap[b]? =w.heap[b]? :=by
 unfold World.setRow;simp only[axd];rw[if_neg (by omega)]
theorem setRow_size (g:Nat)(c:Array Value):(w.setRow g c).heap.size=w.heap.size:=by
 unfold World.setRow;simp
theorem ag1{vs cR:List V}{o:Nat}(bx:bS cR=true)(lW:o+cR.length<=vs.length){v:V}(h:setCells vs o cR=[.undef,v]):(∃v',vs=[.undef,v'])/\(cR=[]\/1<=o):=by
 match cR,bx,lW,h with
 |[],_,_,h=>exact⟨⟨v,h⟩,.inl rfl⟩
 |[y],bx,lW,h=>
  simp only[setCells]at h
  match o,vs,lW,h with
  |0,a::r,_,h=>
   simp only[T8,Ce]at h;rw[h.1]at bx;simp[bS,ed]at bx
  |1,[a,b],_,h=>
   simp only[U1,T8,Ce]at h;rw[h.1];exact⟨⟨b,rfl⟩,.inr (aK _)⟩
  |1,a::b::c::r,_,h=>simp at h
  |n+2,a::b::c::r,_,h=>simp at h
  |n+2,[a,b],lW,_=>simp at lW
 |y::z::r,bx,lW,h=>
  have hl:∀(xs a:List V) (o:Nat),(setCells a o xs).length=a.length:=by
   intro xs
   induction xs with
   |nil=>intro a o;rfl
   |cons x xs ih=>intro a o;rw[setCells,ih,zT]
  have:=congrArg List.length h;rw[hl]at this;simp only[ev,ja]at this lW;have ho:o=0:=by omega
  have hr:r=[]:=Kf.1 (by omega);subst ho hr
  match vs,this,h with
  |[a,b],_,h=>
   simp[setCells]at h;rw[h.1]at bx;simp[bS,ed]at bx
theorem ab9 (U:aZ C fid G H w){l:Nat}{h:Home}{vs cR:List V}(hb:G.β l=some h)(hl:H[l]? =some (.cells vs)){o:Nat}{dd:List Value}(hy:aY fid G w cR dd)
  (bx:bS cR=true) (lW:o+cR.length<=vs.length) {c:Array Value} {e:TypeId} (hc:w.heap[h.b]? =some (.cells c e (0,0))):
  ∃G',aZ C fid G' (H.set l (.cells (setCells vs o cR))) (w.setRow h.b (c.toList.take o++dd++c.toList.drop (o+dd.length)).toArray)/\
   Ext G w G' (w.setRow h.b (c.toList.take o++dd++c.toList.drop (o+dd.length)).toArray) l H.length:=by
 obtain⟨aP,ho,hr⟩:=U.obj l h hb;rw[hl]at ho;cases ho;obtain⟨ht,ab,c',e',ux,ad⟩:=hr;rw[hc]at ux;cases ux;refine⟨⟨ck G.β l h,G.I⟩,?_,?_⟩
 ·refine aZ.write U hb ab rfl ab (aK _) id rfl (setRow_size _ _) (fun b bf=>setRow_other bf _) _ ?_
  have j1:Is C (w.setRow h.b (c.toList.take o++dd++c.toList.drop (o+dd.length)).toArray) h.b (setCells vs o cR):=fun v ac9=>by
   obtain⟨⟨v',q1⟩,aS⟩:=ag1 bx lW ac9;obtain⟨dq,af,cq,ee,k1⟩:=ht.2 v' q1;rw[hc]at cq;cases cq;refine⟨_,e,setRow_heap w h.b c _ e _ hc,ee,?_⟩
   have key:(c.toList.take o++dd++c.toList.drop (o+dd.length)).toArray[0]? =c[0]? :=by
    rw[tZ,<-auF];rcases aS with rfl|aS
    ·have:dd=[]:=by have:=hy.length;exact Kf.1 (by simpa using this)
     subst this;simp
    ·have hG:=ad.length
     rw[q1]at hG;rw[mS,gE (by rw[sM];simp only[ev,ja]at hG;omega),QL,if_pos (by omega)]
   rw[key];exact k1
  refine⟨⟨ht.1,j1⟩,ab,_,e,setRow_heap w h.b c _ e _ hc,?_⟩
  have hx:Ext G w ⟨ck G.β l h,G.I⟩ (w.setRow h.b (c.toList.take o++dd++c.toList.drop (o+dd.length)).toArray) l H.length:=
   Ext.write U hb ab rfl (aK _) id rfl (setRow_size _ _) (fun b bf=>setRow_other bf _) rfl rfl
  exact((Cz o ad hy lW).ext U hx)
 ·exact Ext.write U hb ab rfl (aK _) id rfl (setRow_size _ _) (fun b bf=>setRow_other bf _) rfl rfl
theorem RP:∀(xs a b:List V) (o:Nat),o+xs.length<=a.length->setCells (a++b) o xs=setCells a o xs++b
 |[],_,_,_,_=>rfl
 |x::xs,a,b,o,h=>by
  simp only[ev]at h;rw[setCells,setCells,QF _ _ (by omega),RP xs _ b (o+1) (by simp;omega)]
theorem RQ:∀(xs a b:List V) (o:Nat),setCells (a++b) (a.length+o) xs=a++setCells b o xs
 |[],_,_,_=>rfl
 |x::xs,a,b,o=>by
  rw[setCells,setCells,List.set_append_right _ _ (by omega),Nat.add_sub_cancel_left,pr,RQ xs a]
theorem KZ{es:Nat}{d':V}{f:Nat}{xs:List V}:∀{ds:List V} {i:Nat} {d:V},(∀d∈ds,(aE d).length=es)->ds[i]? =some d->f+xs.length<=es->aE d'=setCells (aE d) f xs->
  (ds.set i d').flatMap aE=setCells (ds.flatMap aE) (i*es+f) xs
 |[],i,d,_,h,_,_=>by simp at h
 |a::ds,0,d,hu,h,ab,he=>by
  simp at h;subst h;have:=hu a (by simp);rw[T8,kn,kn,he,Nat.zero_mul,eO,RP _ _ _ _ (by omega)]
 |a::ds,i+1,d,hu,h,ab,he=>by
  have h1:=hu a (by simp);have ih:=KZ (fun x hx=>hu x (by simp[hx])) (i:=i) (d:=d) (ds:=ds) (by simpa using h) ab he;rw[U1,kn,kn,ih,Cg,avO (i*es) es,pr,<-h1,RQ]
theorem aca{d d':V}{f:Nat}{xs:List V}(h:wi d f xs=some d')(hp:lQ xs=true):aE d'=setCells (aE d) f xs/\f+xs.length<=(aE d).length:=by
 unfold wi at h;split at h
 ·split at h
  ·simp only[az]at h;subst h
   rename_i hle;exact⟨rfl,hle⟩
  ·cases h
 ·rename_i bf
  have e:aE d=[d]:=by cases d<;>first|rfl|(exfalso;exact bf _ rfl)
  split at h
  ·rename_i x
   simp only[az]at h;subst h;rw[e];refine⟨?_,by simp⟩;simp only[lQ,xH]at hp;cases x<;>first|rfl|simp[plainCell]at hp
  ·cases h
theorem K0:∀{xs:List V},lQ xs=true->bS xs=true
 |[],_=>rfl
 |x::xs,h=>by
  simp only[lQ,b8]at h;simp only[bS,b8];exact⟨by cases x<;>simp_all [plainCell,ed],K0 h.2⟩
theorem RR (U:aZ C fid G H w){l es:Nat}{ds ds':List V}{h:Home}(hb:G.β l=some h)(hl:H[l]? =some (.row es ds false))(hn:ds'.length=ds.length)
  (nw:∀d∈ds',(aE d).length=es) {o:Nat} {cR:List V} {dd:List Value} (hy:aY fid G w cR dd) (lW:o+cR.length<=ds.length*es)
  (xX:∀vals,aY fid G w (ds.flatMap aE) vals->aY fid G w (ds'.flatMap aE) (vals.take o++dd++vals.drop (o+dd.length))) {c:Array Value} {e:TypeId} (hc:w.heap[h.b]? =some (.cells c e (0,0))):
  ∃G',aZ C fid G' (H.set l (.row es ds' false)) (w.setRow h.b (c.toList.take o++dd++c.toList.drop (o+dd.length)).toArray)/\
   Ext G w G' (w.setRow h.b (c.toList.take o++dd++c.toList.drop (o+dd.length)).toArray) l H.length:=by
 obtain⟨aP,ho,hr⟩:=U.obj l h hb;rw[hl]at ho;cases ho;obtain⟨ht,lV,ab,fa,hu,c',e',vals,rest,ux,fS,ad,fg⟩:=hr;rw[hc]at ux;cases ux
 have hx:Ext G w ⟨ck G.β l h,G.I⟩ (w.setRow h.b (c.toList.take o++dd++c.toList.drop (o+dd.length)).toArray) l H.length:=
  Ext.write U hb ab rfl (aK _) id rfl (setRow_size _ _) (fun b bf=>setRow_other bf _) rfl rfl
 have kA:=nv hu;have lX:=fg.length;have Am:=hy.length;refine⟨_,?_,hx⟩;refine aZ.write U hb ab rfl ab (aK _) id rfl (setRow_size _ _) (fun b bf=>setRow_other bf _) _ ?_;refine⟨by rw[ht,hn],by omega,ab,fa,nw,_,e,vals.take o++dd++vals.drop (o+dd.length),rest,setRow_heap w h.b c _ e _ hc,?_,?_,?_⟩
 ·rw[fS]
  simp only[zR,gM,sM,sN,hB];have:c.size=vals.length+rest.length:=by rw[<-hB,ad,gM]
  omega
 ·rw[QJ,ad,List.take_append_of_le_length (by omega),List.drop_append_of_le_length (by omega),mS _ _ rest]
 ·exact(xX vals fg).ext U hx
theorem acb (U:aZ C fid G H w){t:TypeId}{n:Nat}(hs:C.sizeOf t=some n){a u:V}{x y:Value}(ao:a8 fid G w a x)(hu:a8 fid G w u y){l:Nat}(he:hD H n a u=some (H',l)):
  ∃w' G',(Instr.storeAt t x y).run C.P w=.ok () w'/\aZ C fid G' H' w'/\Ext G w G' w' l H.length/\l<H.length/\H'.length=H.length:=by
 have dJ:∀w,(Go.sizeOf t).run C.P w=.ok n w:=by
  intro w;simp only[Ctx.sizeOf,ct]at hs;obtain⟨i,hi,rfl⟩:=hs;unfold Go.sizeOf;rw[Sem.run_bind,run_typeInfo (P:=C.P) w hi];rfl
 have cr:∀(b o:Nat) (c:Array Value) (e:TypeId),w.heap[b]? =some (.cells c e (0,0))->(aE u).length=n->bS (aE u)=true->o+n<=c.size->x=.pointer (some ⟨b,o,none⟩)->
   (Instr.storeAt t x y).run C.P w=.ok () (w.setRow b (c.toList.take o++y.cells.toList++c.toList.drop (o+y.cells.toList.length)).toArray):=by
  intro b o c e hc hlen bx hle hx;obtain⟨h1,h2⟩:=Al hu bx;have hl:=h1.length;subst hx;have acd:y.cells.size=n:=by rw[<-hB,hl,hlen]
  simp only[Instr.storeAt,Instr.sureAddr,storeVar,Sem.run_bind,Sem.run_pure,Result.andThen_ok,dJ,acd,ne_eq,not_true,if_false];have:=run_storeCells_at C.P b o e y.cells.toList 0 c w hc (by omega) h2;simpa using this
 unfold hD at he;split at he
 ·rename_i l' o
  obtain⟨h0,hb,ht,rfl⟩:=ao.n4;split at he
  ·rename_i vs hl
   split at he
   ·rename_i hc
    obtain⟨hlen,hle,bx⟩:=hc;simp only[az,bt]at he;obtain⟨rfl,rfl⟩:=he;obtain⟨aP,ho,hr⟩:=U.obj l' h0 hb;rw[hl]at ho;cases ho;obtain⟨-,-,c,e,hc,ad⟩:=hr;have lX:=ad.length;obtain⟨h1,h2⟩:=Al hu bx;obtain⟨G',bA,b9⟩:=ab9 U hb hl h1 bx (by rw[hlen];exact hle) hc;exact⟨_,G',cr h0.b o c e hc hlen bx (by rw[<-hB];omega) rfl,bA,b9,U.lt hb,by simp⟩
   ·cases he
  ·cases he
 ·rename_i l' es i f tag
  obtain⟨h0,dc,hb,rH,jF,rfl⟩:=ao.Cx;split at he
  ·rename_i bD ds hl
   split at he
   ·rename_i hc
    obtain⟨rfl,fR,hlen,jG⟩:=hc;split at he
    ·rename_i d hd
     split at he
     ·rename_i d' ace
      simp only[az,bt]at he;obtain⟨rfl,rfl⟩:=he;obtain⟨aP,ho,hr⟩:=U.obj l' h0 hb;rw[hl]at ho;cases ho;obtain⟨ht,lV,ab,fa,mW,c,e,vals,rest,hc,fS,ad,fg⟩:=hr;obtain⟨p1,p2⟩:=aca ace jG;have kW:(aE d).length=bD:=mW d (hz hd);have bx:=K0 jG;obtain⟨h1,h2⟩:=Al hu bx
      have hi:i<ds.length:=by
       obtain⟨hi,-⟩:=pY.1 hd;exact hi
      have hmul:i*bD+bD<=ds.length*bD:=by
       have:(i+1)*bD<=ds.length*bD:=Ki _ hi;rw[Cg]at this;exact this
      have acf:(aE d').length=bD:=by rw[p1,RO,kW]
      have kA:=nv mW;have lX:=fg.length;have qB:c.size=vals.length+rest.length:=by rw[<-hB,ad,gM]
      obtain⟨G',bA,b9⟩:=RR U hb hl (ds':=ds.set i d') (by simp)
       (fun a ao=>by rcases List.mem_or_eq_of_mem_set ao with q|rfl;exact mW a q;exact acf) (o:=i*bD+f) h1 (by omega) (fun vals ad=>by rw[KZ mW hd (by omega) p1];exact Cz _ ad h1 (by omega)) hc
      refine⟨_,G',cr h0.b (i*bD+f) c e hc hlen bx (by omega) ?_,bA,b9,U.lt hb,by simp⟩;rw[jF (ht.trans fR)]
     ·cases he
    ·cases he
   ·cases he
  ·cases he
 ·cases he
end ops
end Go.Abs
