/- Texts of this claim, joined and written short by a program. -/
import Derived.Test.YtdiodnpdllkbaaaGreatDoorP02
import Derived.Laws.Cells
import Derived.Test.YtdiodnpdllkbaaaGreatDoorP00
set_option linter.unusedVariables false
set_option linter.unusedSimpArgs false
set_option linter.unusedSectionVars false
namespace Go.Abs
open Go
variable{C:Ctx}{fid:Nat->Nat}{w w':World}{G G':bX}{H:Heap}
def ck (β:Nat->Option Home)(l:Nat)(h:Home):Nat->Option Home:=fun x=>if x=l then some h else β x
theorem de (β:Nat->Option Home)(l:Nat)(h:Home):ck β l h l=some h:=by simp[ck]
theorem dp{β:Nat->Option Home}{l x:Nat}{h:Home}(hx:x≠l):ck β l h x=β x:=by simp[ck,hx]
theorem aZ.lt (U:aZ C fid G H w){l:Nat}{h:Home}(hb:G.β l=some h):l<H.length:=by
 obtain⟨o,ho,-⟩:=U.obj l h hb
 rcases fX l H.length with h'|h'
 ·exact h'
 ·simp[lb h']at ho
theorem aZ.none (U:aZ C fid G H w){l:Nat}(hl:H.length<=l):G.β l=none:=by
 cases hb:G.β l with
 |none=>rfl
 |some h=>exact absurd (U.lt hb) (by omega)
theorem alloc_old{o:Obj}{b:Nat}(hb:b<w.heap.size):(w.alloc o).heap[b]? =w.heap[b]? :=by
 show(w.heap.push o)[b]? =_
 rw[Array.getElem?_push,if_neg (by omega)]
theorem oQ (w:World)(o:Obj):(w.alloc o).heap[w.heap.size]? =some o:=by
 show(w.heap.push o)[_]? =_
 simp
theorem Ae{l:Nat}(hn:G.β l=none)(h:Home):lT G.β (ck G.β l h):=fun x h0 hb=>by
 have:x≠l:=fun e=>by subst e;rw[hn]at hb;cases hb
 exact⟨h0,by rw[dp this];exact hb,aK _,id,fun _=>⟨rfl,rfl⟩,fun _=>rfl⟩
theorem aZ.lU (U:aZ C fid G H w)(h:w'.heap=w.heap):aZ C fid G H w' where
 obj l x hb:=by
  obtain⟨o,ho,hr⟩:=U.obj l x hb
  exact⟨o,ho,hr.mono (.refl _) (fun b hb=>⟨hb,by rw[h]⟩) (by rw[h])⟩
 inj:=U.inj
 blk l x hb:=by rw[h];exact U.blk l x hb
 cX b hb:=by rw[h];exact U.cX b hb
 ku:=U.ku
 e9 b o bj:=by rw[h];exact U.e9 b o bj
theorem Ext.lU (h:w'.heap=w.heap)(ho:w'.os=w.os)(hp:w'.output=w.output)(m n:Nat):Ext G w G w' m n:=
 ⟨by rw[h];exact aK _,ho,hp,fun _ _ _=>by rw[h],.refl _,fun _ h hb=>.inl ⟨h,hb,.inl rfl⟩,fun _ h=>h,fun _ h=>.inl h⟩
theorem aZ.push (U:aZ C fid G H w)(o:cc)(aP:Obj)(tag ff:Nat)
  (ho:jg C fid ⟨ck G.β H.length ⟨w.heap.size,tag,ff,false⟩,G.I⟩ (w.alloc aP) ⟨w.heap.size,tag,ff,false⟩ o):
  aZ C fid ⟨ck G.β H.length ⟨w.heap.size,tag,ff,false⟩,G.I⟩ (H++[o]) (w.alloc aP):=by
 have hn:=U.none (aK H.length)
 have hle:=Ae hn ⟨w.heap.size,tag,ff,false⟩
 refine⟨fun l h hb=> ?_,fun l fo h h' e e' q=> ?_,fun l h hb=> ?_,fun b hb=> ?_,fun l h hb ab=> ?_,fun b o bj=>⟨(U.e9 b o bj).1,by rw[alloc_old (U.cX b (U.e9 b o bj).1).1];exact(U.e9 b o bj).2⟩⟩
 ·by_cases hl:l=H.length
  ·subst hl
   simp only[de]at hb;cases hb
   exact⟨o,by simp,ho⟩
  ·simp only[dp hl]at hb
   obtain⟨o',e',hr⟩:=U.obj l h hb
   have:=U.lt hb
   refine⟨o',by rw[gE this];exact e',hr.mono (G':=⟨ck G.β H.length _,G.I⟩) hle (fun b hb=>⟨hb,alloc_old (U.cX b hb).1⟩) (alloc_old (U.blk l h hb))⟩
 ·by_cases hl:l=H.length<;>by_cases nu:fo=H.length
  ·rw[hl,nu]
  ·subst hl;simp only[de]at e;cases e
   simp only[dp nu]at e'
   have:=U.blk fo h' e';simp only at q;omega
  ·subst nu;simp only[de]at e';cases e'
   simp only[dp hl]at e
   have:=U.blk l h e;simp only at q;omega
  ·simp only[dp hl]at e;simp only[dp nu]at e'
   exact U.inj l fo h h' e e' q
 ·rw[World.size_alloc]
  by_cases hl:l=H.length
  ·subst hl;simp only[de]at hb;cases hb;simp
  ·simp only[dp hl]at hb;have:=U.blk l h hb;omega
 ·have hi:=U.cX b hb
  refine⟨by rw[World.size_alloc];omega,fun l h e q=> ?_⟩
  by_cases hl:l=H.length
  ·subst hl;simp only[de]at e;cases e;simp only at q;omega
  ·simp only[dp hl]at e;exact hi.2 l h e q
 ·by_cases hl:l=H.length
  ·subst hl;simp only[de]at hb;cases hb;cases ab
  ·simp only[dp hl]at hb;exact U.ku l h hb ab
theorem Ext.push (U:aZ C fid G H w)(aP:Obj)(tag ff m:Nat):
  Ext G w ⟨ck G.β H.length ⟨w.heap.size,tag,ff,false⟩,G.I⟩ (w.alloc aP) m H.length where
 size:=by simp
 os:=rfl
 output:=rfl
 dQ b hb _:=alloc_old hb
 homes:=Ae (U.none (aK _)) _
 nt l h hb:=by
  by_cases hl:l=H.length
  ·subst hl;simp only[de]at hb;cases hb;exact .inr ⟨aK _,aK _⟩
  ·simp only[dp hl]at hb;exact .inl ⟨h,hb,.inl rfl⟩
 cX _ h:=h
 n1 _ h:=.inl h
theorem aZ.write (U:aZ C fid G H w){l:Nat}{h h':Home}(hb:G.β l=some h)(ab:h.dt=false)(iA:h'.b=h.b)(KL:h'.dt=false)
  (fR:h.tag<=h'.tag) (aT:h.tag=0->h'.tag=0) (fS:h'.ff=h.ff) (hs:w'.heap.size=w.heap.size)
  (Cs:∀b,b≠h.b->w'.heap[b]? =w.heap[b]?) (o:cc) (ho:jg C fid ⟨ck G.β l h',G.I⟩ w' h' o):
  aZ C fid ⟨ck G.β l h',G.I⟩ (H.set l o) w':=by
 have aX:=U.lt hb
 have KM:∀b,G.I b->b≠h.b:=fun b hi e=>by have:=(U.cX b hi).2 l h hb e.symm;rw[ab]at this;cases this
 have hle:lT G.β (ck G.β l h'):=fun x h0 e=>by
  by_cases hx:x=l
  ·subst hx;rw[hb]at e;cases e
   exact⟨h',de _ _ _,fR,aT,fun _=>⟨iA,fS⟩,fun q=>by rw[ab]at q;cases q⟩
  ·exact⟨h0,by rw[dp hx];exact e,aK _,id,fun _=>⟨rfl,rfl⟩,fun _=>rfl⟩
 refine⟨fun x h0 e=> ?_,fun x y h1 h2 af aj q=> ?_,fun x h0 e=> ?_,fun b hi=> ?_,fun x h0 e q=> ?_,fun b o bj=>⟨(U.e9 b o bj).1,by rw[Cs b (KM b (U.e9 b o bj).1)];exact(U.e9 b o bj).2⟩⟩
 ·by_cases hx:x=l
  ·subst hx;simp only[de]at e;cases e
   exact⟨o,by simp[aX],ho⟩
  ·simp only[dp hx]at e
   obtain⟨o',e',hr⟩:=U.obj x h0 e
   have bf:h0.b≠h.b:=fun q=>hx (U.inj x l h0 h e hb q)
   exact⟨o',by rw[gm (kp hx)];exact e',hr.mono (G':=⟨ck G.β l _,G.I⟩) hle (fun b hi=>⟨hi,Cs b (KM b hi)⟩) (Cs _ bf)⟩
 ·by_cases hx:x=l<;>by_cases hy:y=l
  ·rw[hx,hy]
  ·subst hx;simp only[de]at af;cases af;simp only[dp hy]at aj
   exact U.inj x y h h2 hb aj (iA ▸ q)
  ·subst hy;simp only[de]at aj;cases aj;simp only[dp hx]at af
   exact U.inj x y h1 h af hb (iA ▸ q)
  ·simp only[dp hx]at af;simp only[dp hy]at aj
   exact U.inj x y h1 h2 af aj q
 ·rw[hs]
  by_cases hx:x=l
  ·subst hx;simp only[de]at e;cases e;rw[iA];exact U.blk x h hb
  ·simp only[dp hx]at e;exact U.blk x h0 e
 ·refine⟨by rw[hs];exact(U.cX b hi).1,fun x h0 e q=> ?_⟩
  by_cases hx:x=l
  ·subst hx;simp only[de]at e;cases e
   exact absurd (q.symm.trans iA) (KM b hi)
  ·simp only[dp hx]at e;exact(U.cX b hi).2 x h0 e q
 ·by_cases hx:x=l
  ·subst hx;simp only[de]at e;cases e;rw[KL]at q;cases q
  ·simp only[dp hx]at e;exact U.ku x h0 e q
theorem Ext.write (_hR:aZ C fid G H w){l:Nat}{h h':Home}(hb:G.β l=some h)(ab:h.dt=false)(iA:h'.b=h.b)
  (fR:h.tag<=h'.tag) (aT:h.tag=0->h'.tag=0) (fS:h'.ff=h.ff) (hs:w'.heap.size=w.heap.size)
  (Cs:∀b,b≠h.b->w'.heap[b]? =w.heap[b]?) (Af:w'.os=w.os) (hp:w'.output=w.output):
  Ext G w ⟨ck G.β l h',G.I⟩ w' l H.length where
 size:=by rw[hs];exact aK _
 os:=Af
 output:=hp
 dQ b _ k:=Cs b fun e=>by
  rcases k l h hb e.symm with q|q
  ·rw[ab]at q;cases q
  ·omega
 homes x h0 e:=by
  by_cases hx:x=l
  ·subst hx;rw[hb]at e;cases e
   exact⟨h',de _ _ _,fR,aT,fun _=>⟨iA,fS⟩,fun q=>by rw[ab]at q;cases q⟩
  ·exact⟨h0,by simp only[dp hx];exact e,aK _,id,fun _=>⟨rfl,rfl⟩,fun _=>rfl⟩
 nt x h0 e:=by
  by_cases hx:x=l
  ·subst hx;simp only[de]at e;cases e;exact .inl ⟨h,hb,.inl iA.symm⟩
  ·simp only[dp hx]at e;exact .inl ⟨h0,e,.inl rfl⟩
 cX _ h:=h
 n1 _ h:=.inl h
theorem aZ.move (U:aZ C fid G H w){l:Nat}{h:Home}(hb:G.β l=some h)(ab:h.dt=false)(aP:Obj)(tag ff:Nat)(fR:h.tag<tag)(aT:h.tag≠0)
  (o:cc) (ho:jg C fid ⟨ck G.β l ⟨w.heap.size,tag,ff,false⟩,G.I⟩ (w.alloc aP) ⟨w.heap.size,tag,ff,false⟩ o):
  aZ C fid ⟨ck G.β l ⟨w.heap.size,tag,ff,false⟩,G.I⟩ (H.set l o) (w.alloc aP)/\Ext G w ⟨ck G.β l ⟨w.heap.size,tag,ff,false⟩,G.I⟩ (w.alloc aP) l H.length:=by
 have aX:=U.lt hb
 have hle:lT G.β (ck G.β l ⟨w.heap.size,tag,ff,false⟩):=fun x h0 e=>by
  by_cases hx:x=l
  ·subst hx;rw[hb]at e;cases e
   exact⟨_,de _ _ _,xI fR,fun q=>absurd q aT,fun q=>by simp only at q;omega,fun q=>by rw[ab]at q;cases q⟩
  ·exact⟨h0,by rw[dp hx];exact e,aK _,id,fun _=>⟨rfl,rfl⟩,fun _=>rfl⟩
 refine⟨⟨fun x h0 e=> ?_,fun x y h1 h2 af aj q=> ?_,fun x h0 e=> ?_,fun b hi=> ?_,fun x h0 e q=> ?_,fun b o bj=>⟨(U.e9 b o bj).1,by rw[alloc_old (U.cX b (U.e9 b o bj).1).1];exact(U.e9 b o bj).2⟩⟩,⟨by simp,rfl,rfl,fun b iA _=>alloc_old iA,hle,fun x h0 e=> ?_,fun _ h=>h,fun _ h=>.inl h⟩⟩
 ·by_cases hx:x=l
  ·subst hx;simp only[de]at e;cases e
   exact⟨o,by simp[aX],ho⟩
  ·simp only[dp hx]at e
   obtain⟨o',e',hr⟩:=U.obj x h0 e
   exact⟨o',by rw[gm (kp hx)];exact e',hr.mono (G':=⟨ck G.β l _,G.I⟩) hle (fun b hi=>⟨hi,alloc_old (U.cX b hi).1⟩) (alloc_old (U.blk x h0 e))⟩
 ·by_cases hx:x=l<;>by_cases hy:y=l
  ·rw[hx,hy]
  ·subst hx;simp only[de]at af;cases af;simp only[dp hy]at aj
   have:=U.blk y h2 aj;simp only at q;omega
  ·subst hy;simp only[de]at aj;cases aj;simp only[dp hx]at af
   have:=U.blk x h1 af;simp only at q;omega
  ·simp only[dp hx]at af;simp only[dp hy]at aj
   exact U.inj x y h1 h2 af aj q
 ·rw[World.size_alloc]
  by_cases hx:x=l
  ·subst hx;simp only[de]at e;cases e;simp
  ·simp only[dp hx]at e;have:=U.blk x h0 e;omega
 ·refine⟨by rw[World.size_alloc];have:=(U.cX b hi).1;omega,fun x h0 e q=> ?_⟩
  by_cases hx:x=l
  ·subst hx;simp only[de]at e;cases e
   have:=(U.cX b hi).1;simp only at q;omega
  ·simp only[dp hx]at e;exact(U.cX b hi).2 x h0 e q
 ·by_cases hx:x=l
  ·subst hx;simp only[de]at e;cases e;cases q
  ·simp only[dp hx]at e;exact U.ku x h0 e q
 ·by_cases hx:x=l
  ·subst hx;simp only[de]at e;cases e;exact .inl ⟨h,hb,.inr (aK _)⟩
  ·simp only[dp hx]at e;exact .inl ⟨h0,e,.inl rfl⟩
theorem xT{es:Nat}:∀{ds:List V},(∀d∈ds,(aE d).length=es)->∀(n:Nat),(ds.drop n).flatMap aE=(ds.flatMap aE).drop (n*es)
 |ds,_,0=>by simp
 |[],_,n+1=>by simp
 |d::ds,h,n+1=>by
  have h1:=h d (by simp)
  rw[QI,xT (fun x hx=>h x (by simp[hx])) n,kn,Cg,Nat.add_comm,<-sR]
  congr 1
  rw[List.drop_left' h1]
theorem Ag{es:Nat}:∀{ds:List V},(∀d∈ds,(aE d).length=es)->∀(n:Nat),(ds.take n).flatMap aE=(ds.flatMap aE).take (n*es)
 |ds,_,0=>by simp
 |[],_,n+1=>by simp
 |d::ds,h,n+1=>by
  have h1:=h d (by simp)
  rw[Kj,kn,Ag (fun x hx=>h x (by simp[hx])) n,kn,Cg,List.take_append,h1,B5 (l:=aE d) (by rw[h1];exact Nat.le_add_left _ _),Nat.add_sub_cancel]
theorem nv{es:Nat}:∀{ds:List V},(∀d∈ds,(aE d).length=es)->(ds.flatMap aE).length=ds.length*es
 |[],_=>by simp
 |d::ds,h=>by
  rw[kn,gM,nv (fun x hx=>h x (by simp[hx])),h d (by simp),ev,Cg,Nat.add_comm]
theorem Ah:∀(a b:List V),bW (a++b)=(bW a&&bW b)
 |[],b=>by simp[bW]
 |v::a,b=>by simp[bW,Ah a b,Cf]
theorem abX (v:V)(h:bs v=true):bW (aE v)=true:=by
 cases v<;>simp_all [aE,bW,bs]
theorem KN:∀{ds:List V},bW ds=true->bW (ds.flatMap aE)=true
 |[],_=>by simp[bW]
 |d::ds,h=>by
  simp only[bW,b8]at h
  rw[kn,Ah,abX d h.1,KN h.2];rfl
theorem Rz:∀{ds:List V},bW ds=true->(∀n,bW (ds.drop n)=true)/\∀n,bW (ds.take n)=true:=by
 intro ds h
 constructor
 ·intro n
  have:bW (ds.take n++ds.drop n)=true:=by rw[B7];exact h
  rw[Ah,b8]at this;exact this.2
 ·intro n
  have:bW (ds.take n++ds.drop n)=true:=by rw[B7];exact h
  rw[Ah,b8]at this;exact this.1
theorem RA{b o:Nat}{c:Array Value}{e:TypeId}{f:Nat × Nat}(h:w.heap[b]? =some (.cells c e f)):w.cell? ⟨b,o,none⟩=c[o]? :=by
 simp[World.cell?,h]
theorem iz.xU{b:Nat}{c:Array Value}{e:TypeId}{f:Nat × Nat}{vals rest:List Value}(h:w.heap[b]? =some (.cells c e f))(hc:c.toList=vals++rest):
  iz w b 0 vals:=by
 intro j x hx
 rw[RA h,eO,<-auF,hc,gE (by
  rcases fX j vals.length with q|q
  ·exact q
  ·simp[lb q]at hx)]
 exact hx
theorem iz.drop{b o:Nat}{vals:List Value}(h:iz w b o vals)(n:Nat):iz w b (o+n) (vals.drop n):=by
 intro j x hx
 rw[QK]at hx
 rw[pr];exact h (n+j) x hx
theorem iz.take{b o:Nat}{vals:List Value}(h:iz w b o vals)(n:Nat):iz w b o (vals.take n):=by
 intro j x hx
 rw[QL]at hx
 split at hx
 ·exact h j x hx
 ·cases hx
theorem KO{l es:Nat}{ds:List V}{h:Home}{dt:Bool}(ho:jg C fid G w h (.row es ds dt))(aW:G.I h.b)(hp:bW ds=true){off len n cap:Nat}{a:Addr}
  (ao:a=⟨h.b,off*es,none⟩/\n=len/\(off+cap)*es<=h.ff/\len<=cap) (hl:off+len<=ds.length):
  fz w G.I (.list es ((ds.drop off).take len)) (.slice (some a) n cap):=by
 obtain⟨-,-,-,-,hu,c,e,vals,rest,hc,-,ad,hr⟩:=ho
 obtain⟨rfl,rfl,-,e4⟩:=ao
 have fT:=(((iz.xU hc ad).drop (off*es)).take (n*es))
 have nw:∀d∈ds.drop off,(aE d).length=es:=fun d hd=>hu d (B8 hd)
 have hlen:((ds.drop off).take n).length=n:=by simp;omega
 have key:=fz.list (w:=w) (I:=G.I) es ((ds.drop off).take n) h.b (off*es) cap ((vals.drop (off*es)).take (n*es)) aW (by simpa using fT)
  (fun d hd=>nw d (zP hd)) (by
    rw[Ag nw,xT hu]
    exact((hr.drop _).take _).pz ((Rz ((Rz (KN hp)).1 _)).2 _)) (by rw[hlen];exact e4)
 rwa [hlen]at key
theorem RB (U:aZ C fid G H w){l es:Nat}{ds:List V}(e5:H[l]? =some (.row es ds false)){h:Home}(hb:G.β l=some h):
  let G':bX:=⟨ck G.β l {h with dt:=true},fun b=>G.I b\/b=h.b⟩
  aZ C fid G' (H.set l (.row es ds true)) w/\Ext G w G' w l H.length/\jg C fid G' w {h with dt:=true} (.row es ds true):=by
 intro G'
 obtain⟨o,ho,hr⟩:=U.obj l h hb
 rw[e5]at ho;cases ho
 have ab:h.dt=false:=hr.2.2.1
 have hle:lT G.β G'.β:=fun x h0 e=>by
  by_cases hx:x=l
  ·subst hx;rw[hb]at e;cases e
   exact⟨_,de _ _ _,aK _,id,fun _=>⟨rfl,rfl⟩,fun q=>by rw[ab]at q;cases q⟩
  ·exact⟨h0,by show ck _ _ _ _=_;rw[dp hx];exact e,aK _,id,fun _=>⟨rfl,rfl⟩,fun _=>rfl⟩
 have RC:∀b,G.I b->G'.I b/\w.heap[b]? =w.heap[b]? :=fun b hi=>⟨.inl hi,rfl⟩
 have aA:jg C fid G' w {h with dt:=true} (.row es ds true):=by
  have:=jg.mono (G':=G') hle RC rfl hr
  exact⟨this.1,this.2.1,rfl,this.2.2.2⟩
 refine⟨⟨fun x h0 e=> ?_,fun x y h1 h2 af aj q=> ?_,fun x h0 e=> ?_,fun b hi=> ?_,fun x h0 e q=> ?_,fun b o bj=>⟨.inl (U.e9 b o bj).1,(U.e9 b o bj).2⟩⟩,⟨aK _,rfl,rfl,fun _ _ _=>rfl,hle,fun x h0 e=> ?_,fun _ h=>.inl h,fun b hi=> ?_⟩,aA⟩
 ·by_cases hx:x=l
  ·subst hx;rw[show G'.β=ck _ _ _ from rfl,de]at e;cases e
   exact⟨_,by simp[U.lt hb],aA⟩
  ·rw[show G'.β=ck _ _ _ from rfl,dp hx]at e
   obtain⟨o',e',gu⟩:=U.obj x h0 e
   exact⟨o',by rw[gm (kp hx)];exact e',gu.mono hle RC rfl⟩
 ·have RD:∀z ar,G'.β z=some ar->∃aQ,G.β z=some aQ/\aQ.b=ar.b:=fun z ar e=>by
   by_cases aT:z=l
   ·subst aT;rw[show G'.β=ck _ _ _ from rfl,de]at e;cases e;exact⟨h,hb,rfl⟩
   ·rw[show G'.β=ck _ _ _ from rfl,dp aT]at e;exact⟨ar,e,rfl⟩
  obtain⟨aQ,cF,lg⟩:=RD x h1 af
  obtain⟨h5,ej,uv⟩:=RD y h2 aj
  exact U.inj x y aQ h5 cF ej (lg.trans (q.trans uv.symm))
 ·by_cases hx:x=l
  ·subst hx;rw[show G'.β=ck _ _ _ from rfl,de]at e;cases e;exact U.blk x h hb
  ·rw[show G'.β=ck _ _ _ from rfl,dp hx]at e;exact U.blk x h0 e
 ·rcases hi with hi|rfl
  ·refine⟨(U.cX b hi).1,fun x h0 e q=> ?_⟩
   by_cases hx:x=l
   ·subst hx;rw[show G'.β=ck _ _ _ from rfl,de]at e;cases e;rfl
   ·rw[show G'.β=ck _ _ _ from rfl,dp hx]at e;exact(U.cX b hi).2 x h0 e q
  ·refine⟨U.blk l h hb,fun x h0 e q=> ?_⟩
   by_cases hx:x=l
   ·subst hx;rw[show G'.β=ck _ _ _ from rfl,de]at e;cases e;rfl
   ·rw[show G'.β=ck _ _ _ from rfl,dp hx]at e;exact absurd (U.inj x l h0 h e hb q) hx
 ·by_cases hx:x=l
  ·subst hx;rw[show G'.β=ck _ _ _ from rfl,de]at e;cases e;exact .inr rfl
  ·rw[show G'.β=ck _ _ _ from rfl,dp hx]at e;exact .inl (U.ku x h0 e q)
 ·by_cases hx:x=l
  ·subst hx;rw[show G'.β=ck _ _ _ from rfl,de]at e;cases e;exact .inl ⟨h,hb,.inl rfl⟩
  ·rw[show G'.β=ck _ _ _ from rfl,dp hx]at e;exact .inl ⟨h0,e,.inl rfl⟩
 ·rcases hi with hi|rfl
  ·exact .inl hi
  ·exact .inr (.inr ⟨l,h,hb,rfl⟩)
structure lh (C:Ctx) (fid:Nat->Nat) (G:bX) (H:Heap) (w:World) (low:Nat) (G':bX) (H':Heap) (low':Nat):Prop where
 rel:aZ C fid G' H' w
 ext:∀m,m<=low'->Ext G w G' w m H.length
 low:low'<=low
 len:H'.length=H.length
theorem lh.refl (U:aZ C fid G H w)(low:Nat):lh C fid G H w low G H low:=⟨U,fun _ _=>.refl _ _ _ _,aK _,rfl⟩
theorem lh.trans{xV RE:bX}{rG RF:Heap}{low xW RG:Nat}(h:lh C fid G H w low xV rG xW)(k:lh C fid xV rG w xW RE RF RG):lh C fid G H w low RE RF RG:=
 ⟨k.rel,fun m hm=>(h.ext m (cV hm k.low)).trans ((k.ext m hm).le (aK _) (Nat.le_of_eq h.len.symm)),cV k.low h.low,k.len.trans h.len⟩
theorem aZ.swap (U:aZ C fid G H w){l:Nat}{h:Home}(hb:G.β l=some h){o:cc}(ho:jg C fid G w h o):aZ C fid G (H.set l o) w:=
 ⟨fun x h0 e=>by
  by_cases hx:x=l
  ·subst hx
   rw[hb]at e;cases e
   exact⟨o,by simp[U.lt hb],ho⟩
  ·obtain⟨o',e',gu⟩:=U.obj x h0 e
   exact⟨o',by rw[gm (kp hx)];exact e',gu⟩,U.inj,U.blk,U.cX,U.ku,U.e9⟩
theorem a8.Ct{vs:List V}{x:Value}(h:a8 fid G w (.agg vs) x):∃vals,x=.agg ⟨vals⟩/\aY fid G w vs vals:=by
 cases h with
 |p _ _ h=>cases h with|agg _ vals hr=>exact⟨vals,rfl,hr.oP⟩
 |agg _ vals hr=>exact⟨vals,rfl,hr⟩
theorem a8.KP{vs:List V}{x:Value}(h:a8 fid G w (.aU vs) x):∃vals,x=.tuple ⟨vals⟩/\aY fid G w vs vals:=by
 cases h with
 |p _ _ h=>cases h with|aU _ vals hr=>exact⟨vals,rfl,hr.oP⟩
 |aU _ vals hr=>exact⟨vals,rfl,hr⟩
structure Cu (C:Ctx) (fid:Nat->Nat) (w:World) (f:Heap->Nat->V->Option (V × Heap × Nat)):Prop where
 ok:∀{G:bX} {H H':Heap} {low low':Nat} {v v':V} {x:Value},aZ C fid G H w->a8 fid G w v x->f H low v=some (v',H',low')->∃G',lh C fid G H w low G' H' low'/\a8 fid G' w v' x
structure F9 (C:Ctx) (fid:Nat->Nat) (w:World) (f:Heap->Nat->V->Option (V × Heap × Nat)):Prop where
 ok:∀{G:bX} {H H':Heap} {low low':Nat} {v v':V} {dd:List Value},aZ C fid G H w->aY fid G w (aE v) dd->f H low v=some (v',H',low')->
  ∃G',lh C fid G H w low G' H' low'/\aY fid G' w (aE v') dd/\(aE v').length=(aE v).length
theorem Ga{f:Heap->Nat->V->Option (V × Heap × Nat)}(ab:Cu C fid w f):∀{vs vs':List V} {xs:List Value} {G:bX} {H H':Heap} {low low':Nat},aZ C fid G H w->aY fid G w vs xs->
  kq f H low vs=some (vs',H',low')->∃G',lh C fid G H w low G' H' low'/\aY fid G' w vs' xs
 |[],_,_,G,H,H',low,low',U,.nil,he=>by
  simp only[kq,az,bt]at he
  obtain⟨rfl,rfl,rfl⟩:=he
  exact⟨G,.refl U _,.nil⟩
 |v::r,_,_,G,H,H',low,low',U,.cons _ x _ xs ad hs,he=>by
  simp only[kq]at he
  split at he
  ·rename_i v1 H1 bI h1
   split at he
   ·rename_i b9 H2 c5 h2
    simp only[az,bt]at he
    obtain⟨rfl,rfl,rfl⟩:=he
    obtain⟨ay,f1,cq⟩:=ab.ok U ad h1
    obtain⟨bl,f2,ee⟩:=Ga ab f1.rel (hs.ext U (f1.ext 0 (cx _))) h2
    exact⟨bl,f1.trans f2,.cons _ _ _ _ (cq.ext f1.rel (f2.ext 0 (cx _))) ee⟩
   ·cases he
  ·cases he
theorem RH{f:Heap->Nat->V->Option (V × Heap × Nat)}(ab:F9 C fid w f):∀{vs vs':List V} {xs:List Value} {G:bX} {H H':Heap} {low low':Nat},aZ C fid G H w->aY fid G w (vs.flatMap aE) xs->
  kq f H low vs=some (vs',H',low')->
  ∃G',lh C fid G H w low G' H' low'/\aY fid G' w (vs'.flatMap aE) xs/\vs'.length=vs.length/\∀es,(∀d∈vs,(aE d).length=es)->∀d∈vs',(aE d).length=es
 |[],_,_,G,H,H',low,low',U,h,he=>by
  simp only[kq,az,bt]at he
  obtain⟨rfl,rfl,rfl⟩:=he
  exact⟨G,.refl U _,h,rfl,fun _ h=>h⟩
 |v::r,_,xs,G,H,H',low,low',U,h,he=>by
  simp only[kq]at he
  split at he
  ·rename_i v1 H1 bI h1
   split at he
   ·rename_i b9 H2 c5 h2
    simp only[az,bt]at he
    obtain⟨rfl,rfl,rfl⟩:=he
    rw[kn]at h
    obtain⟨cR,dd,rfl,hy,aT⟩:=h.split
    obtain⟨ay,f1,cq,bF⟩:=ab.ok U hy h1
    obtain⟨bl,f2,ee,iB,oR⟩:=RH ab f1.rel (aT.ext U (f1.ext 0 (cx _))) h2
    refine⟨bl,f1.trans f2,?_,by simp[iB],fun es hu d hd=> ?_⟩
    ·rw[kn];exact(cq.ext f1.rel (f2.ext 0 (cx _))).append ee
    ·rcases dA.1 hd with rfl|hd
     ·rw[bF];exact hu v (by simp)
     ·exact oR es (fun d hd=>hu d (by simp[hd])) d hd
   ·cases he
  ·cases he
theorem F9.of{f:Heap->Nat->V->Option (V × Heap × Nat)}(ad:Cu C fid w f)
  (sW:∀{H H':Heap} {low low':Nat} {v v':V},f H low v=some (v',H',low')->(∀vs,v≠ .agg vs)->aE v'=[v'])
  (KQ:∀{G:bX} {H H':Heap} {low low':Nat} {vs:List V} {v':V} {dd:List Value},aZ C fid G H w->aY fid G w vs dd->f H low (.agg vs)=some (v',H',low')->
    ∃G' vs',v'=.agg vs'/\lh C fid G H w low G' H' low'/\aY fid G' w vs' dd):F9 C fid w f:=by
 refine⟨fun {G H H' low low' v v' dd} U h he=> ?_⟩
 by_cases ao:∃vs,v=.agg vs
 ·obtain⟨vs,rfl⟩:=ao
  obtain⟨G',vs',rfl,f1,cq⟩:=KQ U h he
  exact⟨G',f1,cq,by have:=cq.length;have:=h.length;simp only[aE]at *; omega⟩
 ·have uw:∀vs,v≠ .agg vs:=fun vs e=>ao ⟨vs,e⟩
  have e:aE v=[v]:=by cases v<;>first|rfl|(exfalso;exact uw _ rfl)
  rw[e]at h
  cases h with
  |cons _ x _ xs h hs=>
   cases hs
   obtain⟨ay,f1,cq⟩:=ad.ok U h he
   rw[sW he uw,e]
   exact⟨ay,f1,.cons _ _ _ _ cq .nil,rfl⟩
theorem abY{l es off len tag n cap:Nat}{a:Addr}{h:Home}{ds ds':List V}{low:Nat}{c:Array Value}{e:TypeId}{vals rest:List Value}(ht:ds.length=tag)(hle:off+len<=ds.length)
  {xV:bX} {rG:Heap} {xW:Nat} {RI:List V} (hb:G.β l=some h) (fR:h.tag=tag) (ao:a=⟨h.b,off*es,none⟩/\n=len/\(off+cap)*es<=h.ff/\len<=cap)
  (lV:0<ds.length) (fa:0<es) (hc:w.heap[h.b]? =some (.cells c e (0,0))) (dJ:h.ff=c.size) (kU:c.toList=vals++rest)
  (sX:aY fid xV w (ds'.flatMap aE) vals) (hlen:ds'.length=ds.length)
  (n2:∀d∈ds',(aE d).length=es) (ab:lh C fid G H w low xV rG xW)
  (KR:rG[l]? =some (.row es RI false)) (abZ:RI.length=tag) (hp:bW ds'=true):
  ∃G',lh C fid G H w low G' (rG.set l (.row es ds' true)) (min xW l)/\a8 fid G' w (.list es ((ds'.drop off).take len)) (.slice (some a) n cap):=by
 obtain⟨h',iA,t1,-,m1,-⟩:=(ab.ext 0 (cx _)).homes l h hb
 obtain⟨o',kx,gu⟩:=ab.rel.obj l h' iA
 rw[KR]at kx;cases kx
 have RJ:h'.tag=h.tag:=by rw[gu.1,abZ,fR]
 obtain⟨eb,Cv⟩:=m1 RJ
 have aA:jg C fid xV w h' (.row es ds' false):=
  ⟨by rw[RJ,fR,<-ht,hlen],by omega,gu.2.2.1,fa,n2,c,e,vals,rest,by rw[eb];exact hc,by rw[Cv];exact dJ,kU,sX⟩
 have ab0:=ab.rel.swap iA aA
 have aX:l<rG.length:=by
  rcases fX l rG.length with q|q
  ·exact q
  ·rw[lb q]at KR;cases KR
 have ab1:(rG.set l (.row es ds' false))[l]? =some (.row es ds' false):=by simp[aX]
 obtain⟨h1,h2,ar⟩:=RB ab0 ab1 iA
 rw[List.set_set]at h1
 have dt:lh C fid xV rG w xW _ (rG.set l (.row es ds' true)) (min xW l):=
  ⟨h1,fun m hm=>h2.le (cV hm (qt _ _)) (by simp),jU _ _,by simp⟩
 refine⟨_,ab.trans dt,.p _ _ (KO (l:=l) ar (.inr rfl) hp ?_ (by rw[hlen];exact hle))⟩
 show a=⟨h'.b,off*es,none⟩/\n=len/\(off+cap)*es<=h'.ff/\len<=cap
 rw[eb,Cv];exact ao
theorem KS:∀(n:Nat),Cu C fid w (dF n)/\F9 C fid w (dF n)
 |0=>by
  have ad:Cu C fid w (dF 0):=by
   refine⟨fun {G H H' low low' v v' x} U h he=> ?_⟩
   simp only[dF]at he
   split at he
   ·simp only[az,bt]at he
    obtain⟨rfl,rfl,rfl⟩:=he
    exact⟨G,.refl U _,h⟩
   ·cases he
  refine⟨ad,.of ad (fun {H H' low low' v v'} he uw=> ?_) (fun {G H H' low low' vs v' dd} U h he=> ?_)⟩
  ·simp only[dF]at he
   split at he
   ·simp only[az,bt]at he
    obtain⟨rfl,-,-⟩:=he
    cases v<;>first|rfl|(exfalso;exact uw _ rfl)
   ·cases he
  ·simp only[dF]at he
   split at he
   ·simp only[az,bt]at he
    obtain⟨rfl,rfl,rfl⟩:=he
    exact⟨G,vs,rfl,.refl U _,h⟩
   ·cases he
 |n+1=>by
  obtain⟨KT,ab2⟩:=KS n
  have ad:Cu C fid w (dF (n+1)):=by
   refine⟨fun {G H H' low low' v v' x} U h he=> ?_⟩
   simp only[dF]at he
   split at he
   ·simp only[az,bt]at he
    obtain⟨rfl,rfl,rfl⟩:=he
    exact⟨G,.refl U _,h⟩
   ·split at he
    ·rename_i vs
     split at he
     ·rename_i vs' H1 bI h1
      simp only[az,bt]at he
      obtain⟨rfl,rfl,rfl⟩:=he
      obtain⟨vals,rfl,hr⟩:=h.Ct
      obtain⟨ay,f1,cq⟩:=Ga KT U hr h1
      exact⟨ay,f1,.agg _ _ cq⟩
     ·cases he
    ·rename_i vs
     split at he
     ·rename_i vs' H1 bI h1
      simp only[az,bt]at he
      obtain⟨rfl,rfl,rfl⟩:=he
      obtain⟨vals,rfl,hr⟩:=h.KP
      obtain⟨ay,f1,cq⟩:=Ga KT U hr h1
      exact⟨ay,f1,.aU _ _ cq⟩
     ·cases he
    ·rename_i l es off len tag _
     split at he
     ·rename_i bD ds dt hl
      split at he
      ·rename_i hc
       obtain⟨rfl,ht,hle⟩:=hc
       split at he
       ·rename_i hp
        simp only[az,bt]at he
        obtain⟨rfl,rfl,rfl⟩:=he
        cases h with
        |p _ _ h=>cases h
        |cz _ _ _ _ _ h a n cap hb KU ao=>
         obtain⟨o,ho,hr⟩:=U.obj l h hb
         rw[hl]at ho;cases ho
         have fR:h.tag=tag:=hr.1.trans ht
         cases dt with
         |true=>
          exact⟨G,.refl U _,.p _ _ (KO (l:=l) hr (U.ku l h hb hr.2.2.1) hp (ao fR) hle)⟩
         |false=>
          obtain⟨h1,h2,ar⟩:=RB U hl hb
          exact⟨_,⟨h1,fun m hm=>h2.le (cV hm (qt _ _)) (aK _),jU _ _,by simp⟩,.p _ _ (KO (l:=l) ar (.inr rfl) hp (ao fR) hle)⟩
       ·split at he
        ·rename_i ds' H1 bI h1
         split at he
         ·rename_i QT QU Ai
          split at he
          ·rename_i Gb
           obtain⟨rfl,n3,hp⟩:=Gb
           simp only[az,bt]at he
           obtain⟨rfl,rfl,rfl⟩:=he
           cases h with
           |p _ _ h=>cases h
           |cz _ _ _ _ _ h a n cap hb KU ao=>
            obtain⟨o,ho,hr⟩:=U.obj l h hb
            rw[hl]at ho;cases ho
            have fR:h.tag=tag:=hr.1.trans ht
            obtain⟨-,lV,-,fa,hu,c,e,vals,rest,hc,dJ,kU,fg⟩:=hr
            obtain⟨ay,f1,cq,bF,ky⟩:=RH ab2 U fg h1
            exact abY ht hle hb fR (ao fR) lV fa hc dJ kU cq bF (ky _ hu) f1 Ai n3 hp
          ·cases he
         ·cases he
        ·cases he
      ·cases he
     ·cases he
    ·simp only[az,bt]at he
     obtain⟨rfl,rfl,rfl⟩:=he
     exact⟨G,.refl U _,h⟩
  refine⟨ad,.of ad (fun {H H' low low' v v'} he uw=> ?_) (fun {G H H' low low' vs v' dd} U h he=> ?_)⟩
  ·simp only[dF]at he
   repeat' split at he
   all_goals first
    |cases he;done
    |(simp only[az,bt]at he;obtain⟨rfl,-,-⟩:=he;first|rfl|(exfalso;exact uw _ rfl)|(cases v<;>first|rfl|(exfalso;exact uw _ rfl)))
  ·simp only[dF]at he
   split at he
   ·simp only[az,bt]at he
    obtain⟨rfl,rfl,rfl⟩:=he
    exact⟨G,vs,rfl,.refl U _,h⟩
   ·split at he
    ·rename_i vs' H1 bI h1
     simp only[az,bt]at he
     obtain⟨rfl,rfl,rfl⟩:=he
     obtain⟨ay,f1,cq⟩:=Ga KT U h h1
     exact⟨ay,vs',rfl,f1,cq⟩
    ·cases he
theorem Gc (U:aZ C fid G H w){low low':Nat}{v v':V}{x:Value}{H':Heap}(ad:a8 fid G w v x)(he:eP H low v=some (v',H',low')):
 ∃G',lh C fid G H w low G' H' low'/\a8 fid G' w v' x:=(KS 16).1.ok U ad he
theorem ab3 (U:aZ C fid G H w){low low':Nat}{v v':V}{dd:List Value}{H':Heap}(ad:aY fid G w (aE v) dd)(he:eP H low v=some (v',H',low')):
 ∃G',lh C fid G H w low G' H' low'/\aY fid G' w (aE v') dd/\(aE v').length=(aE v).length:=(KS 16).2.ok U ad he
theorem KV:∀{vs vs':List V} {xs:List Value} {G:bX} {H H':Heap} {low low':Nat},aZ C fid G H w->aY fid G w vs xs->dX H low vs=some (vs',H',low')->
  ∃G',lh C fid G H w low G' H' low'/\aY fid G' w vs' xs
 |[],_,_,G,H,H',low,low',U,.nil,he=>by
  simp only[dX,az,bt]at he
  obtain⟨rfl,rfl,rfl⟩:=he
  exact⟨G,.refl U _,.nil⟩
 |v::r,_,_,G,H,H',low,low',U,.cons _ x _ xs ad hs,he=>by
  simp only[dX]at he
  split at he
  ·rename_i v1 H1 bI h1
   split at he
   ·rename_i b9 H2 c5 h2
    simp only[az,bt]at he
    obtain⟨rfl,rfl,rfl⟩:=he
    obtain⟨ay,f1,cq⟩:=Gc U ad h1
    obtain⟨bl,f2,ee⟩:=KV f1.rel (hs.ext U (f1.ext 0 (cx _))) h2
    exact⟨bl,f1.trans f2,.cons _ _ _ _ (cq.ext f1.rel (f2.ext 0 (cx _))) ee⟩
   ·cases he
  ·cases he
end Go.Abs
