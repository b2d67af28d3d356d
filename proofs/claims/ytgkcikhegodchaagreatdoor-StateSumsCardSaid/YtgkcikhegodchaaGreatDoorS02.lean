/- Texts of this claim, joined and written short by a program. -/
import Derived.Test.YtgkcikhegodchaaGreatDoorS01
import Derived.Laws.Cells
import Derived.Laws.CopyRow
import Derived.ChangeKeysEq
import Derived.DefersIn
import Derived.Test.YtgkcikhegodchaaGreatDoorS00
set_option linter.unusedVariables false
set_option linter.unusedSimpArgs false
set_option linter.unusedSectionVars false
namespace Go.Abs
open Go
variable{C:Ctx}{fid:Nat->Nat}{w w':World}{G G':bT}{H:Heap}
def ck (β:Nat->Option Home)(l:Nat)(h:Home):Nat->Option Home:=fun x=>if x=l then some h else β x
theorem dh (β:Nat->Option Home)(l:Nat)(h:Home):ck β l h l=some h:=by simp[ck]
theorem dx{β:Nat->Option Home}{l x:Nat}{h:Home}(hx:x≠l):ck β l h x=β x:=by simp[ck,hx]
theorem aX.lt (U:aX C fid G H w){l:Nat}{h:Home}(hb:G.β l=some h):l<H.length:=by
 obtain⟨o,ho,-⟩:=U.obj l h hb;rcases fV l H.length with h'|h'
 ·exact h'
 ·simp[nA h']at ho
theorem aX.none (U:aX C fid G H w){l:Nat}(hl:H.length<=l):G.β l=none:=by
 cases hb:G.β l with
 |none=>rfl
 |some h=>exact absurd (U.lt hb) (by omega)
theorem alloc_old{o:Obj}{b:Nat}(hb:b<w.heap.size):(w.alloc o).heap[b]? =w.heap[b]? :=by
 show(w.heap.push o)[b]? =_;rw[Array.getElem?_push,if_neg (by omega)]
theorem mi (w:World)(o:Obj):(w.alloc o).heap[w.heap.size]? =some o:=by
 show(w.heap.push o)[_]? =_;simp
theorem Bw{l:Nat}(hn:G.β l=none)(h:Home):mh G.β (ck G.β l h):=fun x h0 hb=>by
 have:x≠l:=fun e=>by subst e;rw[hn]at hb;cases hb
 exact⟨h0,by rw[dx this];exact hb,aF _,id,fun _=>⟨rfl,rfl⟩,fun _=>rfl⟩
theorem aX.jf (U:aX C fid G H w)(h:w'.heap=w.heap):aX C fid G H w' where
 obj l x hb:=by
  obtain⟨o,ho,hr⟩:=U.obj l x hb;exact⟨o,ho,hr.mono (.refl _) (fun b hb=>⟨hb,by rw[h]⟩) (by rw[h])⟩
 inj:=U.inj
 blk l x hb:=by rw[h];exact U.blk l x hb
 c0 b hb:=by rw[h];exact U.c0 b hb
 ky:=U.ky
 e2 b o a6:=by rw[h];exact U.e2 b o a6
theorem Ext.jf (h:w'.heap=w.heap)(ho:w'.os=w.os)(hp:w'.output=w.output)(m n:Nat):Ext G w G w' m n:=
 ⟨by rw[h];exact aF _,ho,hp,fun _ _ _=>by rw[h],.refl _,fun _ h hb=>.inl ⟨h,hb,.inl rfl⟩,fun _ h=>h,fun _ h=>.inl h⟩
theorem aX.push (U:aX C fid G H w)(o:bU)(aP:Obj)(tag fp:Nat)
  (ho:jT C fid ⟨ck G.β H.length ⟨w.heap.size,tag,fp,false⟩,G.I⟩ (w.alloc aP) ⟨w.heap.size,tag,fp,false⟩ o):
  aX C fid ⟨ck G.β H.length ⟨w.heap.size,tag,fp,false⟩,G.I⟩ (H++[o]) (w.alloc aP):=by
 have hn:=U.none (aF H.length);have hle:=Bw hn ⟨w.heap.size,tag,fp,false⟩;refine⟨fun l h hb=> ?_,fun l fc h h' e e' q=> ?_,fun l h hb=> ?_,fun b hb=> ?_,fun l h hb ae=> ?_,fun b o a6=>⟨(U.e2 b o a6).1,by rw[alloc_old (U.c0 b (U.e2 b o a6).1).1];exact(U.e2 b o a6).2⟩⟩
 ·by_cases hl:l=H.length
  ·subst hl
   simp only[dh]at hb;cases hb;exact⟨o,by simp,ho⟩
  ·simp only[dx hl]at hb
   obtain⟨o',e',hr⟩:=U.obj l h hb;have:=U.lt hb;refine⟨o',by rw[fB this];exact e',hr.mono (G':=⟨ck G.β H.length _,G.I⟩) hle (fun b hb=>⟨hb,alloc_old (U.c0 b hb).1⟩) (alloc_old (U.blk l h hb))⟩
 ·by_cases hl:l=H.length<;>by_cases mj:fc=H.length
  ·rw[hl,mj]
  ·subst hl;simp only[dh]at e;cases e
   simp only[dx mj]at e';have:=U.blk fc h' e';simp only at q;omega
  ·subst mj;simp only[dh]at e';cases e'
   simp only[dx hl]at e;have:=U.blk l h e;simp only at q;omega
  ·simp only[dx hl]at e;simp only[dx mj]at e'
   exact U.inj l fc h h' e e' q
 ·rw[World.size_alloc]
  by_cases hl:l=H.length
  ·subst hl;simp only[dh]at hb;cases hb;simp
  ·simp only[dx hl]at hb;have:=U.blk l h hb;omega
 ·have hi:=U.c0 b hb
  refine⟨by rw[World.size_alloc];omega,fun l h e q=> ?_⟩;by_cases hl:l=H.length
  ·subst hl;simp only[dh]at e;cases e;simp only at q;omega
  ·simp only[dx hl]at e;exact hi.2 l h e q
 ·by_cases hl:l=H.length
  ·subst hl;simp only[dh]at hb;cases hb;cases ae
  ·simp only[dx hl]at hb;exact U.ky l h hb ae
theorem Ext.push (U:aX C fid G H w)(aP:Obj)(tag fp m:Nat):
  Ext G w ⟨ck G.β H.length ⟨w.heap.size,tag,fp,false⟩,G.I⟩ (w.alloc aP) m H.length where
 size:=by simp
 os:=rfl
 output:=rfl
 ek b hb _:=alloc_old hb
 homes:=Bw (U.none (aF _)) _
 ow l h hb:=by
  by_cases hl:l=H.length
  ·subst hl;simp only[dh]at hb;cases hb;exact .inr ⟨aF _,aF _⟩
  ·simp only[dx hl]at hb;exact .inl ⟨h,hb,.inl rfl⟩
 c0 _ h:=h
 o5 _ h:=.inl h
theorem aX.write (U:aX C fid G H w){l:Nat}{h h':Home}(hb:G.β l=some h)(ae:h.fz=false)(fu:h'.b=h.b)(MX:h'.fz=false)
  (fP:h.tag<=h'.tag) (aO:h.tag=0->h'.tag=0) (fq:h'.fp=h.fp) (hs:w'.heap.size=w.heap.size)
  (sO:∀b,b≠h.b->w'.heap[b]? =w.heap[b]?) (o:bU) (ho:jT C fid ⟨ck G.β l h',G.I⟩ w' h' o):
  aX C fid ⟨ck G.β l h',G.I⟩ (H.set l o) w':=by
 have aK:=U.lt hb;have MY:∀b,G.I b->b≠h.b:=fun b hi e=>by have:=(U.c0 b hi).2 l h hb e.symm;rw[ae]at this;cases this
 have hle:mh G.β (ck G.β l h'):=fun x h0 e=>by
  by_cases hx:x=l
  ·subst hx;rw[hb]at e;cases e
   exact⟨h',dh _ _ _,fP,aO,fun _=>⟨fu,fq⟩,fun q=>by rw[ae]at q;cases q⟩
  ·exact⟨h0,by rw[dx hx];exact e,aF _,id,fun _=>⟨rfl,rfl⟩,fun _=>rfl⟩
 refine⟨fun x h0 e=> ?_,fun x y h1 h2 ab aj q=> ?_,fun x h0 e=> ?_,fun b hi=> ?_,fun x h0 e q=> ?_,fun b o a6=>⟨(U.e2 b o a6).1,by rw[sO b (MY b (U.e2 b o a6).1)];exact(U.e2 b o a6).2⟩⟩
 ·by_cases hx:x=l
  ·subst hx;simp only[dh]at e;cases e
   exact⟨o,by simp[aK],ho⟩
  ·simp only[dx hx]at e
   obtain⟨o',e',hr⟩:=U.obj x h0 e;have aZ:h0.b≠h.b:=fun q=>hx (U.inj x l h0 h e hb q);exact⟨o',by rw[iv (kS hx)];exact e',hr.mono (G':=⟨ck G.β l _,G.I⟩) hle (fun b hi=>⟨hi,sO b (MY b hi)⟩) (sO _ aZ)⟩
 ·by_cases hx:x=l<;>by_cases hy:y=l
  ·rw[hx,hy]
  ·subst hx;simp only[dh]at ab;cases ab;simp only[dx hy]at aj
   exact U.inj x y h h2 hb aj (fu ▸ q)
  ·subst hy;simp only[dh]at aj;cases aj;simp only[dx hx]at ab
   exact U.inj x y h1 h ab hb (fu ▸ q)
  ·simp only[dx hx]at ab;simp only[dx hy]at aj
   exact U.inj x y h1 h2 ab aj q
 ·rw[hs]
  by_cases hx:x=l
  ·subst hx;simp only[dh]at e;cases e;rw[fu];exact U.blk x h hb
  ·simp only[dx hx]at e;exact U.blk x h0 e
 ·refine⟨by rw[hs];exact(U.c0 b hi).1,fun x h0 e q=> ?_⟩
  by_cases hx:x=l
  ·subst hx;simp only[dh]at e;cases e
   exact absurd (q.symm.trans fu) (MY b hi)
  ·simp only[dx hx]at e;exact(U.c0 b hi).2 x h0 e q
 ·by_cases hx:x=l
  ·subst hx;simp only[dh]at e;cases e;rw[MX]at q;cases q
  ·simp only[dx hx]at e;exact U.ky x h0 e q
theorem Ext.write (_hR:aX C fid G H w){l:Nat}{h h':Home}(hb:G.β l=some h)(ae:h.fz=false)(fu:h'.b=h.b)
  (fP:h.tag<=h'.tag) (aO:h.tag=0->h'.tag=0) (fq:h'.fp=h.fp) (hs:w'.heap.size=w.heap.size)
  (sO:∀b,b≠h.b->w'.heap[b]? =w.heap[b]?) (Bx:w'.os=w.os) (hp:w'.output=w.output):
  Ext G w ⟨ck G.β l h',G.I⟩ w' l H.length where
 size:=by rw[hs];exact aF _
 os:=Bx
 output:=hp
 ek b _ k:=sO b fun e=>by
  rcases k l h hb e.symm with q|q
  ·rw[ae]at q;cases q
  ·omega
 homes x h0 e:=by
  by_cases hx:x=l
  ·subst hx;rw[hb]at e;cases e
   exact⟨h',dh _ _ _,fP,aO,fun _=>⟨fu,fq⟩,fun q=>by rw[ae]at q;cases q⟩
  ·exact⟨h0,by simp only[dx hx];exact e,aF _,id,fun _=>⟨rfl,rfl⟩,fun _=>rfl⟩
 ow x h0 e:=by
  by_cases hx:x=l
  ·subst hx;simp only[dh]at e;cases e;exact .inl ⟨h,hb,.inl fu.symm⟩
  ·simp only[dx hx]at e;exact .inl ⟨h0,e,.inl rfl⟩
 c0 _ h:=h
 o5 _ h:=.inl h
theorem aX.move (U:aX C fid G H w){l:Nat}{h:Home}(hb:G.β l=some h)(ae:h.fz=false)(aP:Obj)(tag fp:Nat)(fP:h.tag<tag)(aO:h.tag≠0)
  (o:bU) (ho:jT C fid ⟨ck G.β l ⟨w.heap.size,tag,fp,false⟩,G.I⟩ (w.alloc aP) ⟨w.heap.size,tag,fp,false⟩ o):
  aX C fid ⟨ck G.β l ⟨w.heap.size,tag,fp,false⟩,G.I⟩ (H.set l o) (w.alloc aP)/\Ext G w ⟨ck G.β l ⟨w.heap.size,tag,fp,false⟩,G.I⟩ (w.alloc aP) l H.length:=by
 have aK:=U.lt hb
 have hle:mh G.β (ck G.β l ⟨w.heap.size,tag,fp,false⟩):=fun x h0 e=>by
  by_cases hx:x=l
  ·subst hx;rw[hb]at e;cases e
   exact⟨_,dh _ _ _,qz fP,fun q=>absurd q aO,fun q=>by simp only at q;omega,fun q=>by rw[ae]at q;cases q⟩
  ·exact⟨h0,by rw[dx hx];exact e,aF _,id,fun _=>⟨rfl,rfl⟩,fun _=>rfl⟩
 refine⟨⟨fun x h0 e=> ?_,fun x y h1 h2 ab aj q=> ?_,fun x h0 e=> ?_,fun b hi=> ?_,fun x h0 e q=> ?_,fun b o a6=>⟨(U.e2 b o a6).1,by rw[alloc_old (U.c0 b (U.e2 b o a6).1).1];exact(U.e2 b o a6).2⟩⟩,⟨by simp,rfl,rfl,fun b fu _=>alloc_old fu,hle,fun x h0 e=> ?_,fun _ h=>h,fun _ h=>.inl h⟩⟩
 ·by_cases hx:x=l
  ·subst hx;simp only[dh]at e;cases e
   exact⟨o,by simp[aK],ho⟩
  ·simp only[dx hx]at e
   obtain⟨o',e',hr⟩:=U.obj x h0 e;exact⟨o',by rw[iv (kS hx)];exact e',hr.mono (G':=⟨ck G.β l _,G.I⟩) hle (fun b hi=>⟨hi,alloc_old (U.c0 b hi).1⟩) (alloc_old (U.blk x h0 e))⟩
 ·by_cases hx:x=l<;>by_cases hy:y=l
  ·rw[hx,hy]
  ·subst hx;simp only[dh]at ab;cases ab;simp only[dx hy]at aj
   have:=U.blk y h2 aj;simp only at q;omega
  ·subst hy;simp only[dh]at aj;cases aj;simp only[dx hx]at ab
   have:=U.blk x h1 ab;simp only at q;omega
  ·simp only[dx hx]at ab;simp only[dx hy]at aj
   exact U.inj x y h1 h2 ab aj q
 ·rw[World.size_alloc]
  by_cases hx:x=l
  ·subst hx;simp only[dh]at e;cases e;simp
  ·simp only[dx hx]at e;have:=U.blk x h0 e;omega
 ·refine⟨by rw[World.size_alloc];have:=(U.c0 b hi).1;omega,fun x h0 e q=> ?_⟩
  by_cases hx:x=l
  ·subst hx;simp only[dh]at e;cases e
   have:=(U.c0 b hi).1;simp only at q;omega
  ·simp only[dx hx]at e;exact(U.c0 b hi).2 x h0 e q
 ·by_cases hx:x=l
  ·subst hx;simp only[dh]at e;cases e;cases q
  ·simp only[dx hx]at e;exact U.ky x h0 e q
 ·by_cases hx:x=l
  ·subst hx;simp only[dh]at e;cases e;exact .inl ⟨h,hb,.inr (aF _)⟩
  ·simp only[dx hx]at e;exact .inl ⟨h0,e,.inl rfl⟩
theorem yY{es:Nat}:∀{ds:List V},(∀d∈ds,(aE d).length=es)->∀(n:Nat),(ds.drop n).flatMap aE=(ds.flatMap aE).drop (n*es)
 |ds,_,0=>by simp
 |[],_,n+1=>by simp
 |d::ds,h,n+1=>by
  have h1:=h d (by simp);rw[SY,yY (fun x hx=>h x (by simp[hx])) n,kd,yG,Nat.add_comm,<-tY];congr 1;rw[List.drop_left' h1]
theorem Bz{es:Nat}:∀{ds:List V},(∀d∈ds,(aE d).length=es)->∀(n:Nat),(ds.take n).flatMap aE=(ds.flatMap aE).take (n*es)
 |ds,_,0=>by simp
 |[],_,n+1=>by simp
 |d::ds,h,n+1=>by
  have h1:=h d (by simp);rw[SZ,kd,Bz (fun x hx=>h x (by simp[hx])) n,kd,yG,List.take_append,h1,HE (l:=aE d) (by rw[h1];exact Nat.le_add_left _ _),Nat.add_sub_cancel]
theorem mV{es:Nat}:∀{ds:List V},(∀d∈ds,(aE d).length=es)->(ds.flatMap aE).length=ds.length*es
 |[],_=>by simp
 |d::ds,h=>by
  rw[kd,fD,mV (fun x hx=>h x (by simp[hx])),h d (by simp),fl,yG,Nat.add_comm]
theorem BA:∀(a b:List V),cg (a++b)=(cg a&&cg b)
 |[],b=>by simp[cg]
 |v::a,b=>by simp[cg,BA a b,yF]
theorem agf (v:V)(h:bx v=true):cg (aE v)=true:=by
 cases v<;>simp_all [aE,cg,bx]
theorem Ia:∀{ds:List V},cg ds=true->cg (ds.flatMap aE)=true
 |[],_=>by simp[cg]
 |d::ds,h=>by
  simp only[cg,cn]at h;rw[kd,BA,agf d h.1,Ia h.2];rfl
theorem TU:∀{ds:List V},cg ds=true->(∀n,cg (ds.drop n)=true)/\∀n,cg (ds.take n)=true:=by
 intro ds h;constructor
 ·intro n
  have:cg (ds.take n++ds.drop n)=true:=by rw[Md];exact h
  rw[BA,cn]at this;exact this.2
 ·intro n
  have:cg (ds.take n++ds.drop n)=true:=by rw[Md];exact h
  rw[BA,cn]at this;exact this.1
theorem TV{b o:Nat}{c:Array Value}{e:TypeId}{f:Nat × Nat}(h:w.heap[b]? =some (.cells c e f)):w.cell? ⟨b,o,none⟩=c[o]? :=by
 simp[World.cell?,h]
theorem iz.vf{b:Nat}{c:Array Value}{e:TypeId}{f:Nat × Nat}{vals rest:List Value}(h:w.heap[b]? =some (.cells c e f))(hc:c.toList=vals++rest):
  iz w b 0 vals:=by
 intro j x hx
 rw[TV h,dP,<-gr,hc,fB (by
  rcases fV j vals.length with q|q
  ·exact q
  ·simp[nA q]at hx)]
 exact hx
theorem iz.drop{b o:Nat}{vals:List Value}(h:iz w b o vals)(n:Nat):iz w b (o+n) (vals.drop n):=by
 intro j x hx;rw[Mh]at hx;rw[qy];exact h (n+j) x hx
theorem iz.take{b o:Nat}{vals:List Value}(h:iz w b o vals)(n:Nat):iz w b o (vals.take n):=by
 intro j x hx;rw[Mi]at hx;split at hx
 ·exact h j x hx
 ·cases hx
theorem MZ{l es:Nat}{ds:List V}{h:Home}{fz:Bool}(ho:jT C fid G w h (.row es ds fz))(bk:G.I h.b)(hp:cg ds=true){off len n cap:Nat}{a:Addr}
  (ha:a=⟨h.b,off*es,none⟩/\n=len/\(off+cap)*es<=h.fp/\len<=cap) (hl:off+len<=ds.length):
  fG w G.I (.list es ((ds.drop off).take len)) (.slice (some a) n cap):=by
 obtain⟨-,-,-,-,hu,c,e,vals,rest,hc,-,af,hr⟩:=ho;obtain⟨rfl,rfl,-,ec⟩:=ha;have iA:=(((iz.vf hc af).drop (off*es)).take (n*es));have ml:∀d∈ds.drop off,(aE d).length=es:=fun d hd=>hu d (HF hd);have hlen:((ds.drop off).take n).length=n:=by simp;omega
 have key:=fG.list (w:=w) (I:=G.I) es ((ds.drop off).take n) h.b (off*es) cap ((vals.drop (off*es)).take (n*es)) bk (by simpa using iA)
  (fun d hd=>ml d (DC hd)) (by
    rw[Bz ml,yY hu];exact((hr.drop _).take _).pZ ((TU ((TU (Ia hp)).1 _)).2 _)) (by rw[hlen];exact ec)
 rwa [hlen]at key
theorem TW (U:aX C fid G H w){l es:Nat}{ds:List V}(hH:H[l]? =some (.row es ds false)){h:Home}(hb:G.β l=some h):
  let G':bT:=⟨ck G.β l {h with fz:=true},fun b=>G.I b\/b=h.b⟩
  aX C fid G' (H.set l (.row es ds true)) w/\Ext G w G' w l H.length/\jT C fid G' w {h with fz:=true} (.row es ds true):=by
 intro G';obtain⟨o,ho,hr⟩:=U.obj l h hb;rw[hH]at ho;cases ho;have ae:h.fz=false:=hr.2.2.1
 have hle:mh G.β G'.β:=fun x h0 e=>by
  by_cases hx:x=l
  ·subst hx;rw[hb]at e;cases e
   exact⟨_,dh _ _ _,aF _,id,fun _=>⟨rfl,rfl⟩,fun q=>by rw[ae]at q;cases q⟩
  ·exact⟨h0,by show ck _ _ _ _=_;rw[dx hx];exact e,aF _,id,fun _=>⟨rfl,rfl⟩,fun _=>rfl⟩
 have TX:∀b,G.I b->G'.I b/\w.heap[b]? =w.heap[b]? :=fun b hi=>⟨.inl hi,rfl⟩
 have aw:jT C fid G' w {h with fz:=true} (.row es ds true):=by
  have:=jT.mono (G':=G') hle TX rfl hr;exact⟨this.1,this.2.1,rfl,this.2.2.2⟩
 refine⟨⟨fun x h0 e=> ?_,fun x y h1 h2 ab aj q=> ?_,fun x h0 e=> ?_,fun b hi=> ?_,fun x h0 e q=> ?_,fun b o a6=>⟨.inl (U.e2 b o a6).1,(U.e2 b o a6).2⟩⟩,⟨aF _,rfl,rfl,fun _ _ _=>rfl,hle,fun x h0 e=> ?_,fun _ h=>.inl h,fun b hi=> ?_⟩,aw⟩
 ·by_cases hx:x=l
  ·subst hx;rw[show G'.β=ck _ _ _ from rfl,dh]at e;cases e
   exact⟨_,by simp[U.lt hb],aw⟩
  ·rw[show G'.β=ck _ _ _ from rfl,dx hx]at e
   obtain⟨o',e',da⟩:=U.obj x h0 e;exact⟨o',by rw[iv (kS hx)];exact e',da.mono hle TX rfl⟩
 ·have TY:∀z ar,G'.β z=some ar->∃aR,G.β z=some aR/\aR.b=ar.b:=fun z ar e=>by
   by_cases aO:z=l
   ·subst aO;rw[show G'.β=ck _ _ _ from rfl,dh]at e;cases e;exact⟨h,hb,rfl⟩
   ·rw[show G'.β=ck _ _ _ from rfl,dx aO]at e;exact⟨ar,e,rfl⟩
  obtain⟨aR,cu,kz⟩:=TY x h1 ab;obtain⟨h5,dv,vg⟩:=TY y h2 aj;exact U.inj x y aR h5 cu dv (kz.trans (q.trans vg.symm))
 ·by_cases hx:x=l
  ·subst hx;rw[show G'.β=ck _ _ _ from rfl,dh]at e;cases e;exact U.blk x h hb
  ·rw[show G'.β=ck _ _ _ from rfl,dx hx]at e;exact U.blk x h0 e
 ·rcases hi with hi|rfl
  ·refine⟨(U.c0 b hi).1,fun x h0 e q=> ?_⟩
   by_cases hx:x=l
   ·subst hx;rw[show G'.β=ck _ _ _ from rfl,dh]at e;cases e;rfl
   ·rw[show G'.β=ck _ _ _ from rfl,dx hx]at e;exact(U.c0 b hi).2 x h0 e q
  ·refine⟨U.blk l h hb,fun x h0 e q=> ?_⟩
   by_cases hx:x=l
   ·subst hx;rw[show G'.β=ck _ _ _ from rfl,dh]at e;cases e;rfl
   ·rw[show G'.β=ck _ _ _ from rfl,dx hx]at e;exact absurd (U.inj x l h0 h e hb q) hx
 ·by_cases hx:x=l
  ·subst hx;rw[show G'.β=ck _ _ _ from rfl,dh]at e;cases e;exact .inr rfl
  ·rw[show G'.β=ck _ _ _ from rfl,dx hx]at e;exact .inl (U.ky x h0 e q)
 ·by_cases hx:x=l
  ·subst hx;rw[show G'.β=ck _ _ _ from rfl,dh]at e;cases e;exact .inl ⟨h,hb,.inl rfl⟩
  ·rw[show G'.β=ck _ _ _ from rfl,dx hx]at e;exact .inl ⟨h0,e,.inl rfl⟩
 ·rcases hi with hi|rfl
  ·exact .inl hi
  ·exact .inr (.inr ⟨l,h,hb,rfl⟩)
structure lO (C:Ctx) (fid:Nat->Nat) (G:bT) (H:Heap) (w:World) (low:Nat) (G':bT) (H':Heap) (low':Nat):Prop where
 rel:aX C fid G' H' w
 ext:∀m,m<=low'->Ext G w G' w m H.length
 low:low'<=low
 len:H'.length=H.length
theorem lO.refl (U:aX C fid G H w)(low:Nat):lO C fid G H w low G H low:=⟨U,fun _ _=>.refl _ _ _ _,aF _,rfl⟩
theorem lO.trans{yZ TZ:bT}{sP T0:Heap}{low y0 T1:Nat}(h:lO C fid G H w low yZ sP y0)(k:lO C fid yZ sP w y0 TZ T0 T1):lO C fid G H w low TZ T0 T1:=
 ⟨k.rel,fun m hm=>(h.ext m (cM hm k.low)).trans ((k.ext m hm).le (aF _) (Nat.le_of_eq h.len.symm)),cM k.low h.low,k.len.trans h.len⟩
theorem aX.swap (U:aX C fid G H w){l:Nat}{h:Home}(hb:G.β l=some h){o:bU}(ho:jT C fid G w h o):aX C fid G (H.set l o) w:=
 ⟨fun x h0 e=>by
  by_cases hx:x=l
  ·subst hx
   rw[hb]at e;cases e;exact⟨o,by simp[U.lt hb],ho⟩
  ·obtain⟨o',e',da⟩:=U.obj x h0 e
   exact⟨o',by rw[iv (kS hx)];exact e',da⟩,U.inj,U.blk,U.c0,U.ky,U.e2⟩
theorem bd.D2{vs:List V}{x:Value}(h:bd fid G w (.agg vs) x):∃vals,x=.agg ⟨vals⟩/\a1 fid G w vs vals:=by
 cases h with
 |p _ _ h=>cases h with|agg _ vals hr=>exact⟨vals,rfl,hr.ov⟩
 |agg _ vals hr=>exact⟨vals,rfl,hr⟩
theorem bd.M0{vs:List V}{x:Value}(h:bd fid G w (.aU vs) x):∃vals,x=.tuple ⟨vals⟩/\a1 fid G w vs vals:=by
 cases h with
 |p _ _ h=>cases h with|aU _ vals hr=>exact⟨vals,rfl,hr.ov⟩
 |aU _ vals hr=>exact⟨vals,rfl,hr⟩
structure D3 (C:Ctx) (fid:Nat->Nat) (w:World) (f:Heap->Nat->V->Option (V × Heap × Nat)):Prop where
 ok:∀{G:bT} {H H':Heap} {low low':Nat} {v v':V} {x:Value},aX C fid G H w->bd fid G w v x->f H low v=some (v',H',low')->∃G',lO C fid G H w low G' H' low'/\bd fid G' w v' x
structure Ib (C:Ctx) (fid:Nat->Nat) (w:World) (f:Heap->Nat->V->Option (V × Heap × Nat)):Prop where
 ok:∀{G:bT} {H H':Heap} {low low':Nat} {v v':V} {c1:List Value},aX C fid G H w->a1 fid G w (aE v) c1->f H low v=some (v',H',low')->
  ∃G',lO C fid G H w low G' H' low'/\a1 fid G' w (aE v') c1/\(aE v').length=(aE v).length
theorem Ic{f:Heap->Nat->V->Option (V × Heap × Nat)}(ae:D3 C fid w f):∀{vs vs':List V} {xs:List Value} {G:bT} {H H':Heap} {low low':Nat},aX C fid G H w->a1 fid G w vs xs->
  kT f H low vs=some (vs',H',low')->∃G',lO C fid G H w low G' H' low'/\a1 fid G' w vs' xs
 |[],_,_,G,H,H',low,low',U,.nil,he=>by
  simp only[kT,aA,bq]at he;obtain⟨rfl,rfl,rfl⟩:=he;exact⟨G,.refl U _,.nil⟩
 |v::r,_,_,G,H,H',low,low',U,.cons _ x _ xs af hs,he=>by
  simp only[kT]at he;split at he
  ·rename_i v1 H1 bG h1
   split at he
   ·rename_i b4 H2 dB h2
    simp only[aA,bq]at he;obtain⟨rfl,rfl,rfl⟩:=he;obtain⟨ay,f1,b6⟩:=ae.ok U af h1;obtain⟨bl,f2,dI⟩:=Ic ae f1.rel (hs.ext U (f1.ext 0 (cD _))) h2;exact⟨bl,f1.trans f2,.cons _ _ _ _ (b6.ext f1.rel (f2.ext 0 (cD _))) dI⟩
   ·cases he
  ·cases he
theorem T2{f:Heap->Nat->V->Option (V × Heap × Nat)}(ae:Ib C fid w f):∀{vs vs':List V} {xs:List Value} {G:bT} {H H':Heap} {low low':Nat},aX C fid G H w->a1 fid G w (vs.flatMap aE) xs->
  kT f H low vs=some (vs',H',low')->
  ∃G',lO C fid G H w low G' H' low'/\a1 fid G' w (vs'.flatMap aE) xs/\vs'.length=vs.length/\∀es,(∀d∈vs,(aE d).length=es)->∀d∈vs',(aE d).length=es
 |[],_,_,G,H,H',low,low',U,h,he=>by
  simp only[kT,aA,bq]at he;obtain⟨rfl,rfl,rfl⟩:=he;exact⟨G,.refl U _,h,rfl,fun _ h=>h⟩
 |v::r,_,xs,G,H,H',low,low',U,h,he=>by
  simp only[kT]at he;split at he
  ·rename_i v1 H1 bG h1
   split at he
   ·rename_i b4 H2 dB h2
    simp only[aA,bq]at he;obtain⟨rfl,rfl,rfl⟩:=he;rw[kd]at h;obtain⟨cB,c1,rfl,hy,aO⟩:=h.split;obtain⟨ay,f1,b6,ch⟩:=ae.ok U hy h1;obtain⟨bl,f2,dI,kX,mW⟩:=T2 ae f1.rel (aO.ext U (f1.ext 0 (cD _))) h2;refine⟨bl,f1.trans f2,?_,by simp[kX],fun es hu d hd=> ?_⟩
    ·rw[kd];exact(b6.ext f1.rel (f2.ext 0 (cD _))).append dI
    ·rcases dp.1 hd with rfl|hd
     ·rw[ch];exact hu v (by simp)
     ·exact mW es (fun d hd=>hu d (by simp[hd])) d hd
   ·cases he
  ·cases he
theorem Ib.of{f:Heap->Nat->V->Option (V × Heap × Nat)}(af:D3 C fid w f)
  (kA:∀{H H':Heap} {low low':Nat} {v v':V},f H low v=some (v',H',low')->(∀vs,v≠ .agg vs)->aE v'=[v'])
  (M1:∀{G:bT} {H H':Heap} {low low':Nat} {vs:List V} {v':V} {c1:List Value},aX C fid G H w->a1 fid G w vs c1->f H low (.agg vs)=some (v',H',low')->
    ∃G' vs',v'=.agg vs'/\lO C fid G H w low G' H' low'/\a1 fid G' w vs' c1):Ib C fid w f:=by
 refine⟨fun {G H H' low low' v v' c1} U h he=> ?_⟩;by_cases ha:∃vs,v=.agg vs
 ·obtain⟨vs,rfl⟩:=ha
  obtain⟨G',vs',rfl,f1,b6⟩:=M1 U h he;exact⟨G',f1,b6,by have:=b6.length;have:=h.length;simp only[aE]at *; omega⟩
 ·have vh:∀vs,v≠ .agg vs:=fun vs e=>ha ⟨vs,e⟩
  have e:aE v=[v]:=by cases v<;>first|rfl|(exfalso;exact vh _ rfl)
  rw[e]at h;cases h with
  |cons _ x _ xs h hs=>
   cases hs;obtain⟨ay,f1,b6⟩:=af.ok U h he;rw[kA he vh,e];exact⟨ay,f1,.cons _ _ _ _ b6 .nil,rfl⟩
theorem agh{l es off len tag n cap:Nat}{a:Addr}{h:Home}{ds ds':List V}{low:Nat}{c:Array Value}{e:TypeId}{vals rest:List Value}(ht:ds.length=tag)(hle:off+len<=ds.length)
  {yZ:bT} {sP:Heap} {y0:Nat} {T3:List V} (hb:G.β l=some h) (fP:h.tag=tag) (ha:a=⟨h.b,off*es,none⟩/\n=len/\(off+cap)*es<=h.fp/\len<=cap)
  (hC:0<ds.length) (eM:0<es) (hc:w.heap[h.b]? =some (.cells c e (0,0))) (dk:h.fp=c.size) (hM:c.toList=vals++rest)
  (rL:a1 fid yZ w (ds'.flatMap aE) vals) (hlen:ds'.length=ds.length)
  (o6:∀d∈ds',(aE d).length=es) (ae:lO C fid G H w low yZ sP y0)
  (M3:sP[l]? =some (.row es T3 false)) (agi:T3.length=tag) (hp:cg ds'=true):
  ∃G',lO C fid G H w low G' (sP.set l (.row es ds' true)) (min y0 l)/\bd fid G' w (.list es ((ds'.drop off).take len)) (.slice (some a) n cap):=by
 obtain⟨h',fu,t1,-,m1,-⟩:=(ae.ext 0 (cD _)).homes l h hb;obtain⟨o',jU,da⟩:=ae.rel.obj l h' fu;rw[M3]at jU;cases jU;have T4:h'.tag=h.tag:=by rw[da.1,agi,fP]
 obtain⟨eb,D4⟩:=m1 T4
 have aw:jT C fid yZ w h' (.row es ds' false):=
  ⟨by rw[T4,fP,<-ht,hlen],by omega,da.2.2.1,eM,o6,c,e,vals,rest,by rw[eb];exact hc,by rw[D4];exact dk,hM,rL⟩
 have agj:=ae.rel.swap fu aw
 have aK:l<sP.length:=by
  rcases fV l sP.length with q|q
  ·exact q
  ·rw[nA q]at M3;cases M3
 have agk:(sP.set l (.row es ds' false))[l]? =some (.row es ds' false):=by simp[aK]
 obtain⟨h1,h2,ar⟩:=TW agj agk fu;rw[List.set_set]at h1
 have fz:lO C fid yZ sP w y0 _ (sP.set l (.row es ds' true)) (min y0 l):=
  ⟨h1,fun m hm=>h2.le (cM hm (nB _ _)) (by simp),jO _ _,by simp⟩
 refine⟨_,ae.trans fz,.p _ _ (MZ (l:=l) ar (.inr rfl) hp ?_ (by rw[hlen];exact hle))⟩;show a=⟨h'.b,off*es,none⟩/\n=len/\(off+cap)*es<=h'.fp/\len<=cap;rw[eb,D4];exact ha
theorem M4:∀(n:Nat),D3 C fid w (dQ n)/\Ib C fid w (dQ n)
 |0=>by
  have af:D3 C fid w (dQ 0):=by
   refine⟨fun {G H H' low low' v v' x} U h he=> ?_⟩;simp only[dQ]at he;split at he
   ·simp only[aA,bq]at he
    obtain⟨rfl,rfl,rfl⟩:=he;exact⟨G,.refl U _,h⟩
   ·cases he
  refine⟨af,.of af (fun {H H' low low' v v'} he vh=> ?_) (fun {G H H' low low' vs v' c1} U h he=> ?_)⟩
  ·simp only[dQ]at he
   split at he
   ·simp only[aA,bq]at he
    obtain⟨rfl,-,-⟩:=he;cases v<;>first|rfl|(exfalso;exact vh _ rfl)
   ·cases he
  ·simp only[dQ]at he
   split at he
   ·simp only[aA,bq]at he
    obtain⟨rfl,rfl,rfl⟩:=he;exact⟨G,vs,rfl,.refl U _,h⟩
   ·cases he
 |n+1=>by
  obtain⟨M5,agl⟩:=M4 n
  have af:D3 C fid w (dQ (n+1)):=by
   refine⟨fun {G H H' low low' v v' x} U h he=> ?_⟩;simp only[dQ]at he;split at he
   ·simp only[aA,bq]at he
    obtain⟨rfl,rfl,rfl⟩:=he;exact⟨G,.refl U _,h⟩
   ·split at he
    ·rename_i vs
     split at he
     ·rename_i vs' H1 bG h1
      simp only[aA,bq]at he;obtain⟨rfl,rfl,rfl⟩:=he;obtain⟨vals,rfl,hr⟩:=h.D2;obtain⟨ay,f1,b6⟩:=Ic M5 U hr h1;exact⟨ay,f1,.agg _ _ b6⟩
     ·cases he
    ·rename_i vs
     split at he
     ·rename_i vs' H1 bG h1
      simp only[aA,bq]at he;obtain⟨rfl,rfl,rfl⟩:=he;obtain⟨vals,rfl,hr⟩:=h.M0;obtain⟨ay,f1,b6⟩:=Ic M5 U hr h1;exact⟨ay,f1,.aU _ _ b6⟩
     ·cases he
    ·rename_i l es off len tag _
     split at he
     ·rename_i bK ds fz hl
      split at he
      ·rename_i hc
       obtain⟨rfl,ht,hle⟩:=hc;split at he
       ·rename_i hp
        simp only[aA,bq]at he;obtain⟨rfl,rfl,rfl⟩:=he;cases h with
        |p _ _ h=>cases h
        |ca _ _ _ _ _ h a n cap hb M6 ha=>
         obtain⟨o,ho,hr⟩:=U.obj l h hb;rw[hl]at ho;cases ho;have fP:h.tag=tag:=hr.1.trans ht;cases fz with
         |true=>
          exact⟨G,.refl U _,.p _ _ (MZ (l:=l) hr (U.ky l h hb hr.2.2.1) hp (ha fP) hle)⟩
         |false=>
          obtain⟨h1,h2,ar⟩:=TW U hl hb;exact⟨_,⟨h1,fun m hm=>h2.le (cM hm (nB _ _)) (aF _),jO _ _,by simp⟩,.p _ _ (MZ (l:=l) ar (.inr rfl) hp (ha fP) hle)⟩
       ·split at he
        ·rename_i ds' H1 bG h1
         split at he
         ·rename_i S7 yO BB
          split at he
          ·rename_i BC
           obtain⟨rfl,o7,hp⟩:=BC;simp only[aA,bq]at he;obtain⟨rfl,rfl,rfl⟩:=he;cases h with
           |p _ _ h=>cases h
           |ca _ _ _ _ _ h a n cap hb M6 ha=>
            obtain⟨o,ho,hr⟩:=U.obj l h hb;rw[hl]at ho;cases ho;have fP:h.tag=tag:=hr.1.trans ht;obtain⟨-,hC,-,eM,hu,c,e,vals,rest,hc,dk,hM,e5⟩:=hr;obtain⟨ay,f1,b6,ch,jV⟩:=T2 agl U e5 h1;exact agh ht hle hb fP (ha fP) hC eM hc dk hM b6 ch (jV _ hu) f1 BB o7 hp
          ·cases he
         ·cases he
        ·cases he
      ·cases he
     ·cases he
    ·simp only[aA,bq]at he
     obtain⟨rfl,rfl,rfl⟩:=he;exact⟨G,.refl U _,h⟩
  refine⟨af,.of af (fun {H H' low low' v v'} he vh=> ?_) (fun {G H H' low low' vs v' c1} U h he=> ?_)⟩
  ·simp only[dQ]at he
   repeat' split at he
   all_goals first
    |cases he;done
    |(simp only[aA,bq]at he;obtain⟨rfl,-,-⟩:=he;first|rfl|(exfalso;exact vh _ rfl)|(cases v<;>first|rfl|(exfalso;exact vh _ rfl)))
  ·simp only[dQ]at he
   split at he
   ·simp only[aA,bq]at he
    obtain⟨rfl,rfl,rfl⟩:=he;exact⟨G,vs,rfl,.refl U _,h⟩
   ·split at he
    ·rename_i vs' H1 bG h1
     simp only[aA,bq]at he;obtain⟨rfl,rfl,rfl⟩:=he;obtain⟨ay,f1,b6⟩:=Ic M5 U h h1;exact⟨ay,vs',rfl,f1,b6⟩
    ·cases he
theorem Ie (U:aX C fid G H w){low low':Nat}{v v':V}{x:Value}{H':Heap}(af:bd fid G w v x)(he:fN H low v=some (v',H',low')):
 ∃G',lO C fid G H w low G' H' low'/\bd fid G' w v' x:=(M4 16).1.ok U af he
theorem agm (U:aX C fid G H w){low low':Nat}{v v':V}{c1:List Value}{H':Heap}(af:a1 fid G w (aE v) c1)(he:fN H low v=some (v',H',low')):
 ∃G',lO C fid G H w low G' H' low'/\a1 fid G' w (aE v') c1/\(aE v').length=(aE v).length:=(M4 16).2.ok U af he
theorem M7:∀{vs vs':List V} {xs:List Value} {G:bT} {H H':Heap} {low low':Nat},aX C fid G H w->a1 fid G w vs xs->eV H low vs=some (vs',H',low')->
  ∃G',lO C fid G H w low G' H' low'/\a1 fid G' w vs' xs
 |[],_,_,G,H,H',low,low',U,.nil,he=>by
  simp only[eV,aA,bq]at he;obtain⟨rfl,rfl,rfl⟩:=he;exact⟨G,.refl U _,.nil⟩
 |v::r,_,_,G,H,H',low,low',U,.cons _ x _ xs af hs,he=>by
  simp only[eV]at he;split at he
  ·rename_i v1 H1 bG h1
   split at he
   ·rename_i b4 H2 dB h2
    simp only[aA,bq]at he;obtain⟨rfl,rfl,rfl⟩:=he;obtain⟨ay,f1,b6⟩:=Ie U af h1;obtain⟨bl,f2,dI⟩:=M7 f1.rel (hs.ext U (f1.ext 0 (cD _))) h2;exact⟨bl,f1.trans f2,.cons _ _ _ _ (b6.ext f1.rel (f2.ext 0 (cD _))) dI⟩
   ·cases he
  ·cases he
end Go.Abs
namespace Go.Abs
open Go
variable{C:Ctx}{fid:Nat->Nat}{w w':World}{G G':bT}{H:Heap}
def Ig (P:Program)(d:Deferred):Prop:=
 ∃fv cap f args,d.target=.fn fv cap/\∀w,(invoke d.target d.args).run P w=.ok (.enter f args) w/\
  CallsDIn Fence.wide 0 P f args .returning w fun e u' w'=>(∃v,e=.returned v)/\u'=.returning/\w'=w
structure eW (C:Ctx) (fid:Nat->Nat):Prop where
 f:∀f i,C.DT f=some i->i=f
 agn:∀i,i∈C.yP->∀caps:Array Value,Ig C.P {target:=.fn (.func i) caps,args:= #[]}
mutual
theorem D5{I:Nat->Prop}:∀(x:Value) {v:V},mT x=some v->v=.undef\/fG w I v x
 | .bool b,v,h=>by simp only[mT,aA]at h;subst h;exact .inr (.bool b)
 | .int k n,v,h=>by simp only[mT,aA]at h;subst h;exact .inr (.int k n)
 | .string ⟨⟨s⟩⟩,v,h=>by simp only[mT,aA]at h;subst h;exact .inr (.str s)
 | .pointer none,v,h=>by simp only[mT,aA]at h;subst h;exact .inr .jd
 | .slice none 0 0,v,h=>by simp only[mT,aA]at h;subst h;exact .inr .bX
 | .map none,v,h=>by simp only[mT,aA]at h;subst h;exact .inr .jt
 | .nilFunc,v,h=>by simp only[mT,aA]at h;subst h;exact .inr .kt
 | .nilIface,v,h=>by simp only[mT,aA]at h;subst h;exact .inr .jQ
 | .agg ⟨vs⟩,v,h=>by
   simp only[mT,cj]at h;obtain⟨us,hu,rfl⟩:=h;exact .inr (.agg us vs (D6 vs hu))
 | .tuple ⟨[]⟩,v,h=>by simp only[mT,aA]at h;subst h;exact .inl rfl
 | .tuple ⟨_::_⟩,v,h=>by simp[mT]at h
 | .slice none (n+1) _,v,h=>by simp[mT]at h
 | .slice none 0 (n+1),v,h=>by simp[mT]at h
 | .pointer (some _),v,h| .slice (some _) _ _,v,h| .map (some _),v,h| .float ..,v,h| .complex ..,v,h| .chan ..,v,h| .func ..,v,h| .iface ..,v,h=>by simp[mT]at h
theorem D6{I:Nat->Prop}:∀(xs:List Value) {vs:List V},Br xs=some vs->c8 w I vs xs
 |[],vs,h=>by simp only[Br,aA]at h;subst h;exact .nil
 |x::r,vs,h=>by
  simp only[Br]at h;split at h
  ·rename_i v af
   split at h
   ·cases h
   ·simp only[cj]at h
    obtain⟨us,hu,rfl⟩:=h;exact .cons v x us r ((D5 x af).resolve_left (by rintro rfl;simp_all [uc])) (D6 r hu)
  ·cases h
end
def fr (C:Ctx)(fid:Nat->Nat)(vars:List Nat)(G:bT)(w:World)(ag:ai->V)(ρ:Operand->Value):Prop:=
 ∀x cE,C.b5 vars x=some cE->bd fid G w (ag cE) (ρ x)
def c3 (C:Ctx)(fid:Nat->Nat)(G:bT)(H:Heap)(w:World)(ago:Nat)(r:Result Next)(v:V)(H':Heap)(low':Nat):Prop:=
 ∃x w' G',(r=.ok (.value x) w'\/(r=.ok .skip w'/\x=undef))/\aX C fid G' H' w'/\(∀m,m<=low'->Ext G w G' w' m H.length)/\bd fid G' w' v x/\low'<=ago/\H.length<=H'.length
theorem c3.same (U:aX C fid G H w){low:Nat}{r:Result Next}{v:V}{x:Value}(hr:r=.ok (.value x) w)(af:bd fid G w v x):c3 C fid G H w low r v H low:=
 ⟨x,w,G,.inl hr,U,fun _ _=>.refl _ _ _ _,af,aF _,aF _⟩
theorem c3.alloc (U:aX C fid G H w){low:Nat}{r:Result Next}{v:V}{x:Value}{o:bU}{aP:Obj}(tag fp:Nat)(hr:r=.ok (.value x) (w.alloc aP))
  (ho:jT C fid ⟨ck G.β H.length ⟨w.heap.size,tag,fp,false⟩,G.I⟩ (w.alloc aP) ⟨w.heap.size,tag,fp,false⟩ o)
  (af:bd fid ⟨ck G.β H.length ⟨w.heap.size,tag,fp,false⟩,G.I⟩ (w.alloc aP) v x):c3 C fid G H w low r v (H++[o]) low:=
 ⟨x,_,_,.inl hr,U.push o aP tag fp ho,fun m _=>.push U aP tag fp m,af,aF _,by simp⟩
theorem c3.BD{low bG:Nat}{ay:bT}{H1:Heap}(f:lO C fid G H w low ay H1 bG){r:Result Next}{v:V}{H':Heap}{low':Nat}(h:c3 C fid ay H1 w bG r v H' low'):
  c3 C fid G H w low r v H' low':=by
 obtain⟨x,w',G',hr,U,he,af,hl,hn⟩:=h;refine⟨x,w',G',hr,U,fun m hm=>(f.ext m (cM hm hl)).trans ((he m hm).le (aF _) (Nat.le_of_eq f.len.symm)),af,cM hl f.low,by have:=f.len;omega⟩
section ops
variable{vars:List Nat}{ag:ai->V}{ρ:Operand->Value}{low low':Nat}{v:V}{H':Heap}{pos:String}{df:cN}{o:Oper}
theorem M8 (bw:eW C fid){f:FuncId}{cE:ai}(h:C.b5 vars (.func f)=some cE){aC au:Env}:bd fid G w (cE.ag aC au) (.func (.func f) #[] #[]):=by
 simp only[Ctx.b5,cj]at h;obtain⟨i,hi,rfl⟩:=h;have e:=bw.f f i hi;subst e;exact bd.fn (fid:=fid) (G:=G) (w:=w) i [] [] [] [] .nil .nil
theorem bd.kY{x:Value}{b:Bool}(h:bd fid G w (.bool b) x):x=.bool b:=by
 cases h with|p _ _ h=>cases h;rfl
theorem bd.jA{x:Value}{k:IntKind}{n:Int}(h:bd fid G w (.int k n) x):x=.int k n:=by
 cases h with|p _ _ h=>cases h;rfl
theorem bd.ox{x:Value}{s:List UInt8}(h:bd fid G w (.str s) x):x=.string ⟨⟨s⟩⟩:=by
 cases h with|p _ _ h=>cases h;rfl
theorem bd.nH{x:Value}{l o:Nat}(h:bd fid G w (.ptr l o) x):∃h,G.β l=some h/\h.tag=0/\x=.pointer (some ⟨h.b,o,none⟩):=by
 cases h with
 |p _ _ h=>cases h
 |ptr _ _ h hb ht=>exact⟨h,hb,ht,rfl⟩
theorem bd.mapInv{x:Value}{l:Nat}(h:bd fid G w (.map l) x):∃h,G.β l=some h/\h.tag=0/\x=.map (some h.b):=by
 cases h with
 |p _ _ h=>cases h
 |map _ h hb ht=>exact⟨h,hb,ht,rfl⟩
theorem bd.D7{x:Value}{l es i f tag:Nat}(h:bd fid G w (.gW l es i f tag) x):
  ∃h a,G.β l=some h/\tag<=h.tag/\(h.tag=tag->a=⟨h.b,i*es+f,none⟩)/\x=.pointer (some a):=by
 cases h with
 |p _ _ h=>cases h
 |gW _ _ _ _ _ h a hb hle ha=>exact⟨h,a,hb,hle,ha,rfl⟩
theorem bd.M9{x:Value}{vs:List V}{f:Nat}(h:bd fid G w (.dH vs f) x):
  ∃b o vals,G.I b/\iz w b o vals/\c8 w G.I vs vals/\x=.pointer (some ⟨b,o+f,none⟩):=by
 cases h with
 |p _ _ h=>cases h
 |dH _ _ b o vals bk hc hr=>exact⟨b,o,vals,bk,hc,hr,rfl⟩
theorem bd.nI{x:Value}{l es off len tag:Nat}(h:bd fid G w (.ca l es off len tag) x):
  ∃h a n cap,G.β l=some h/\tag<=h.tag/\(h.tag=tag->a=⟨h.b,off*es,none⟩/\n=len/\(off+cap)*es<=h.fp/\len<=cap)/\x=.slice (some a) n cap:=by
 cases h with
 |p _ _ h=>cases h
 |ca _ _ _ _ _ h a n cap hb hle ha=>exact⟨h,a,n,cap,hb,hle,ha,rfl⟩
theorem bd.BF{x:Value}{i:Nat}{fs cs:List V}(h:bd fid G w (.fn i fs cs) x):
  ∃xs cB,a1 fid G w fs xs/\a1 fid G w cs cB/\x=.func (.func i) ⟨xs⟩ ⟨cB⟩:=by
 cases h with
 |p _ _ h=>cases h with|fn _ _ _ xs cB ae hc=>exact⟨xs,cB,c8.ov ae,c8.ov hc,rfl⟩
 |fn _ _ _ xs cB ae hc=>exact⟨xs,cB,ae,hc,rfl⟩
theorem bd.agp{x:Value}{l:Nat}(h:bd fid G w (.yield l) x):∃h,G.β l=some h/\h.tag=0/\x=.func (.yield h.b) #[] #[]:=by
 cases h with
 |p _ _ h=>cases h
 |yield _ h hb ht=>exact⟨h,hb,ht,rfl⟩
theorem a1.iw{cs:List V}{xs:List Value}(h:a1 fid G w cs xs){o:Nat}{sh:Option Nat}{u:V}(hr:Abs.iw cs o sh=some u):
  match sh with
  |none=>∃x,xs[o]? =some x/\bd fid G w u x
  |some n=>o+n<=xs.length/\bd fid G w u (.agg ⟨(xs.drop o).take n⟩):=by
 cases sh with
 |none=>exact h.get hr
 |some n=>
  simp only[Abs.iw]at hr;split at hr
  ·rename_i hle
   simp only[aA]at hr;subst hr;exact⟨by rw[h.length];exact hle,.agg _ _ ((h.drop o).take n)⟩
  ·cases hr
theorem T5{t:TypeId}{sh:Option Nat}(h:C.shapeOf t=some sh):
  (∃n,sh=some n/\(∀w,(isAgg t).run C.P w=.ok true w)/\∀w,(Go.sizeOf t).run C.P w=.ok n w)\/(sh=none/\∀w,(isAgg t).run C.P w=.ok false w):=by
 unfold Ctx.shapeOf at h
 have key:∀d,C.P.underlying t=some d->∀w,(isAgg t).run C.P w=.ok (match d with| .struct _| .array _ _=>true| _=>false) w:=by
  intro d hd w;unfold isAgg;rw[Sem.run_bind,run_underlying hd];cases d<;>rfl
 have nJ:∀n,C.sizeOf t=some n->∀w,(Go.sizeOf t).run C.P w=.ok n w:=by
  intro n hn w;simp only[Ctx.sizeOf,cj]at hn;obtain⟨i,hi,rfl⟩:=hn;unfold Go.sizeOf;rw[Sem.run_bind,run_typeInfo (P:=C.P) w hi];rfl
 cases hd:C.P.underlying t with
 |none=>rw[hd]at h;cases h
 |some d=>
  rw[hd]at h;have hk:=key d hd
  cases d<;>simp only[aA,cj]at h<;>
   first
    |exact .inr ⟨h.symm,hk⟩
    |(obtain⟨n,hn,rfl⟩:=h;exact .inl ⟨n,rfl,hk,nJ n hn⟩)
theorem Na{t:TypeId}{sh:Option Nat}(h:C.shapeOf t=some sh){b o:Nat}{cs:List V}{vals:List Value}{f:Nat}(hc:iz w b o vals)(af:a1 fid G w cs vals){u:V}
  (hr:Abs.iw cs f sh=some u):∃x,(loadVar t ⟨b,o+f,none⟩).run C.P w=.ok x w/\bd fid G w u x:=by
 have hk:=af.iw hr;rcases T5 h with⟨n,rfl,ha,hs⟩|⟨rfl,ha⟩
 ·obtain⟨hle,hu⟩:=hk
  refine⟨_,?_,hu⟩
  have fq:∀(j:Nat) (x:Value),((vals.drop f).take n)[j]? =some x->w.cell? (Addr.add ⟨b,o+f,none⟩ j)=some x:=by
   intro j x hx;rw[Addr.add_lit];rw[Mi]at hx;split at hx
   ·rw[Mh]at hx;rw[qy];exact hc _ _ hx
   ·cases hx
  have hl:=run_loadCells_list (P:=C.P) w ⟨b,o+f,none⟩ _ fq;have hlen:((vals.drop f).take n).length=n:=by simp;omega
  rw[hlen]at hl;unfold loadVar;simp only[Sem.run_bind,ha,hs,Result.andThen_ok,if_true,hl,Sem.run_pure]
 ·obtain⟨x,hx,hu⟩:=hk
  refine⟨x,?_,hu⟩;unfold loadVar;simp only[Sem.run_bind,ha,Result.andThen_ok,fE,if_false,run_load,hc f x hx]
theorem T6 (U:aX C fid G H w){t:TypeId}{sh:Option Nat}(h:C.shapeOf t=some sh){a u:V}{x:Value}(ha:bd fid G w a x)(he:jR H sh a=some u):
  ∃y,(Instr.loadAt t x).run C.P w=.ok y w/\bd fid G w u y:=by
 unfold jR at he;split at he
 ·rename_i l o
  obtain⟨h0,hb,ht,rfl⟩:=ha.nH;split at he
  ·rename_i vs hl
   obtain⟨aP,ho,hr⟩:=U.obj l h0 hb;rw[hl]at ho;cases ho;obtain⟨-,-,c,e,hc,af⟩:=hr;obtain⟨y,hy,hu⟩:=Na (o:=0) h (iz.vf (vals:=c.toList) (rest:=[]) hc (by simp)) af he;rw[dP]at hy;exact⟨y,by simp only[Instr.loadAt,Instr.sureAddr,Sem.run_bind,Sem.run_pure,Result.andThen_ok,hy],hu⟩
  ·cases he
 ·rename_i l es i f tag
  obtain⟨h0,c4,hb,hle,hD,rfl⟩:=ha.D7;split at he
  ·rename_i bK ds fz hl
   split at he
   ·rename_i hc
    obtain⟨rfl,fP⟩:=hc;obtain⟨aP,ho,hr⟩:=U.obj l h0 hb;rw[hl]at ho;cases ho;obtain⟨ht,-,-,-,hu,c,e,vals,rest,hc,fq,af,e5⟩:=hr;obtain⟨d,hd,D8⟩:=dW.1 he;have lP:(aE d).length=bK:=hu d (gV hd)
    have agq:a1 fid G w (aE d) ((vals.drop (i*bK)).take bK):=by
     have h1:(ds.drop i).flatMap aE=(ds.flatMap aE).drop (i*bK):=yY hu i
     have h2:ds.drop i=d::ds.drop (i+1):=by
      obtain⟨hi,rfl⟩:=e0.1 hd;exact pK hi
     have ar:=(e5.drop (i*bK)).take bK;rw[<-h1,h2,kd,List.take_append,lP,Nat.sub_self,List.take_zero,pP,HE (by omega)]at ar;exact ar
    have iA:iz w h0.b (i*bK) ((vals.drop (i*bK)).take bK):=by
     have:=((iz.vf hc af).drop (i*bK)).take bK;rwa [dP]at this
    obtain⟨y,hy,agr⟩:=Na h iA agq D8;rw[hD (ht.trans fP)];exact⟨y,by simp only[Instr.loadAt,Instr.sureAddr,Sem.run_bind,Sem.run_pure,Result.andThen_ok,hy],agr⟩
   ·cases he
  ·cases he
 ·rename_i vs f
  obtain⟨b,o,vals,bk,hc,hr,rfl⟩:=ha.M9;obtain⟨y,hy,hu⟩:=Na h hc (c8.ov (fid:=fid) hr) he;exact⟨y,by simp only[Instr.loadAt,Instr.sureAddr,Sem.run_bind,Sem.run_pure,Result.andThen_ok,hy],hu⟩
 ·cases he
theorem T7{c:V}{x:Value}(h:bd fid G w c x)(hc:ez c=true):x.oneCell'=true:=by
 cases h with
 |p _ _ h=>cases h<;>first|rfl|simp[ez]at hc
 |agg=>simp[ez]at hc
 |aU=>simp[ez]at hc
 |undef=>simp[ez]at hc
 | _=>rfl
theorem Ih:∀{cs:List V} {xs:List Value},a1 fid G w cs xs->bM cs=true->∀x∈xs,x.oneCell'=true
 | _,_,.nil,_,x,hx=>by simp at hx
 | _,_,.cons v y vs cB h hs,hc,x,hx=>by
   simp only[bM,cn]at hc;rcases dp.1 hx with rfl|hx
   ·exact T7 h hc.1
   ·exact Ih hs hc.2 x hx
theorem BG{v:V}{y:Value}(h:bd fid G w v y)(hc:bM (aE v)=true):a1 fid G w (aE v) y.cells.toList/\∀c∈y.cells.toList,c.oneCell'=true:=by
 by_cases af:∃vs,v=.agg vs
 ·obtain⟨vs,rfl⟩:=af
  obtain⟨vals,rfl,hr⟩:=h.D2;exact⟨hr,Ih hr hc⟩
 ·have e:aE v=[v]:=by
   cases v<;>first|rfl|(exfalso;exact af ⟨_,rfl⟩)
  rw[e]at hc⊢;have h1:y.oneCell'=true:=T7 h (by simpa[bM]using hc);have e':y.cells= #[y]:=by cases y<;>first|rfl|simp[Value.oneCell']at h1
  rw[e'];exact⟨.cons _ _ _ _ h .nil,fun c hc=>by simp at hc;subst hc;exact h1⟩
theorem D9:∀{cB:List V} {c1:List Value} {cs:List V} {xs:List Value} (o:Nat),a1 fid G w cs xs->a1 fid G w cB c1->o+cB.length<=cs.length->
  a1 fid G w (setCells cs o cB) (xs.take o++c1++xs.drop (o+c1.length))
 | _,_,cs,xs,o,h,.nil,_=>by simpa[setCells]using h
 | _,_,cs,xs,o,h,.cons y z cB c1 hy hs,hl=>by
   have hlen:=h.length;simp only[fl]at hl;have ih:=D9 (o+1) (h.set o hy) hs (by simp;omega);simp only[setCells];have e:=list_seg_step xs o z c1 (by have:=hs.length;omega);rw[<-fl (a:=z)]at e;rw[<-e];exact ih
theorem T8:∀(cB cs:List V) (o:Nat),(setCells cs o cB).length=cs.length
 |[],cs,o=>rfl
 |y::cB,cs,o=>by rw[setCells,T8 cB];simp
theorem setRow_other{g b:Nat}(hb:b≠g)(c:Array Value):(w.setRow g c).heap[b]? =w.heap[b]? :=by
 unfold World.setRow;simp only[DB];rw[if_neg (by omega)]
theorem setRow_size (g:Nat)(c:Array Value):(w.setRow g c).heap.size=w.heap.size:=by
 unfold World.setRow;simp
theorem ags{vs cB:List V}{o:Nat}(bh:bM cB=true)(hN:o+cB.length<=vs.length){v:V}(h:setCells vs o cB=[.undef,v]):(∃v',vs=[.undef,v'])/\(cB=[]\/1<=o):=by
 match cB,bh,hN,h with
 |[],_,_,h=>exact⟨⟨v,h⟩,.inl rfl⟩
 |[y],bh,hN,h=>
  simp only[setCells]at h
  match o,vs,hN,h with
  |0,a::r,_,h=>
   simp only[Mj,xa]at h;rw[h.1]at bh;simp[bM,ez]at bh
  |1,[a,b],_,h=>
   simp only[S0,Mj,xa]at h;rw[h.1];exact⟨⟨b,rfl⟩,.inr (aF _)⟩
  |1,a::b::c::r,_,h=>simp at h
  |n+2,a::b::c::r,_,h=>simp at h
  |n+2,[a,b],hN,_=>simp at hN
 |y::z::r,bh,hN,h=>
  have hl:∀(xs a:List V) (o:Nat),(setCells a o xs).length=a.length:=by
   intro xs
   induction xs with
   |nil=>intro a o;rfl
   |cons x xs ih=>intro a o;rw[setCells,ih,yD]
  have:=congrArg List.length h;rw[hl]at this;simp only[fl,mQ]at this hN;have ho:o=0:=by omega
  have hr:r=[]:=yx.1 (by omega);subst ho hr
  match vs,this,h with
  |[a,b],_,h=>
   simp[setCells]at h;rw[h.1]at bh;simp[bM,ez]at bh
theorem agt (U:aX C fid G H w){l:Nat}{h:Home}{vs cB:List V}(hb:G.β l=some h)(hl:H[l]? =some (.cells vs)){o:Nat}{c1:List Value}(hy:a1 fid G w cB c1)
  (bh:bM cB=true) (hN:o+cB.length<=vs.length) {c:Array Value} {e:TypeId} (hc:w.heap[h.b]? =some (.cells c e (0,0))):
  ∃G',aX C fid G' (H.set l (.cells (setCells vs o cB))) (w.setRow h.b (c.toList.take o++c1++c.toList.drop (o+c1.length)).toArray)/\
   Ext G w G' (w.setRow h.b (c.toList.take o++c1++c.toList.drop (o+c1.length)).toArray) l H.length:=by
 obtain⟨aP,ho,hr⟩:=U.obj l h hb;rw[hl]at ho;cases ho;obtain⟨ht,ae,c',e',o8,af⟩:=hr;rw[hc]at o8;cases o8;refine⟨⟨ck G.β l h,G.I⟩,?_,?_⟩
 ·refine aX.write U hb ae rfl ae (aF _) id rfl (setRow_size _ _) (fun b aZ=>setRow_other aZ _) _ ?_
  have gX:D1 C (w.setRow h.b (c.toList.take o++c1++c.toList.drop (o+c1.length)).toArray) h.b (setCells vs o cB):=fun v BH=>by
   obtain⟨⟨v',q1⟩,q2⟩:=ags bh hN BH;obtain⟨dj,ab,b6,dI,kf⟩:=ht.2 v' q1;rw[hc]at b6;cases b6;refine⟨_,e,setRow_heap w h.b c _ e _ hc,dI,?_⟩
   have key:(c.toList.take o++c1++c.toList.drop (o+c1.length)).toArray[0]? =c[0]? :=by
    rw[sD,<-gr];rcases q2 with rfl|q2
    ·have:c1=[]:=by have:=hy.length;exact yx.1 (by simpa using this)
     subst this;simp
    ·have fe:=af.length
     rw[q1]at fe;rw[kr,fB (by rw[tV];simp only[fl,mQ]at fe;omega),Mi,if_pos (by omega)]
   rw[key];exact kf
  refine⟨⟨ht.1,gX⟩,ae,_,e,setRow_heap w h.b c _ e _ hc,?_⟩
  have hx:Ext G w ⟨ck G.β l h,G.I⟩ (w.setRow h.b (c.toList.take o++c1++c.toList.drop (o+c1.length)).toArray) l H.length:=
   Ext.write U hb ae rfl (aF _) id rfl (setRow_size _ _) (fun b aZ=>setRow_other aZ _) rfl rfl
  exact((D9 o af hy hN).ext U hx)
 ·exact Ext.write U hb ae rfl (aF _) id rfl (setRow_size _ _) (fun b aZ=>setRow_other aZ _) rfl rfl
theorem T9:∀(xs a b:List V) (o:Nat),o+xs.length<=a.length->setCells (a++b) o xs=setCells a o xs++b
 |[],_,_,_,_=>rfl
 |x::xs,a,b,o,h=>by
  simp only[fl]at h;rw[setCells,setCells,HG _ _ (by omega),T9 xs _ b (o+1) (by simp;omega)]
theorem Ua:∀(xs a b:List V) (o:Nat),setCells (a++b) (a.length+o) xs=a++setCells b o xs
 |[],_,_,_=>rfl
 |x::xs,a,b,o=>by
  rw[setCells,setCells,List.set_append_right _ _ (by omega),Nat.add_sub_cancel_left,qy,Ua xs a]
theorem Nb{es:Nat}{d':V}{f:Nat}{xs:List V}:∀{ds:List V} {i:Nat} {d:V},(∀d∈ds,(aE d).length=es)->ds[i]? =some d->f+xs.length<=es->aE d'=setCells (aE d) f xs->
  (ds.set i d').flatMap aE=setCells (ds.flatMap aE) (i*es+f) xs
 |[],i,d,_,h,_,_=>by simp at h
 |a::ds,0,d,hu,h,ae,he=>by
  simp at h;subst h;have:=hu a (by simp);rw[Mj,kd,kd,he,HV,dP,T9 _ _ _ _ (by omega)]
 |a::ds,i+1,d,hu,h,ae,he=>by
  have h1:=hu a (by simp);have ih:=Nb (fun x hx=>hu x (by simp[hx])) (i:=i) (d:=d) (ds:=ds) (by simpa using h) ae he;rw[S0,kd,kd,ih,yG,Nat.add_comm (i*es) es,qy,<-h1,Ua]
theorem agu{d d':V}{f:Nat}{xs:List V}(h:xf d f xs=some d')(hp:mc xs=true):aE d'=setCells (aE d) f xs/\f+xs.length<=(aE d).length:=by
 unfold xf at h;split at h
 ·split at h
  ·simp only[aA]at h;subst h
   rename_i hle;exact⟨rfl,hle⟩
  ·cases h
 ·rename_i aZ
  have e:aE d=[d]:=by cases d<;>first|rfl|(exfalso;exact aZ _ rfl)
  split at h
  ·rename_i x
   simp only[aA]at h;subst h;rw[e];refine⟨?_,by simp⟩;simp only[mc,Bk]at hp;cases x<;>first|rfl|simp[plainCell]at hp
  ·cases h
theorem Nc:∀{xs:List V},mc xs=true->bM xs=true
 |[],_=>rfl
 |x::xs,h=>by
  simp only[mc,cn]at h;simp only[bM,cn];exact⟨by cases x<;>simp_all [plainCell,ez],Nc h.2⟩
theorem Ub (U:aX C fid G H w){l es:Nat}{ds ds':List V}{h:Home}(hb:G.β l=some h)(hl:H[l]? =some (.row es ds false))(hn:ds'.length=ds.length)
  (ml:∀d∈ds',(aE d).length=es) {o:Nat} {cB:List V} {c1:List Value} (hy:a1 fid G w cB c1) (hN:o+cB.length<=ds.length*es)
  (vi:∀vals,a1 fid G w (ds.flatMap aE) vals->a1 fid G w (ds'.flatMap aE) (vals.take o++c1++vals.drop (o+c1.length))) {c:Array Value} {e:TypeId} (hc:w.heap[h.b]? =some (.cells c e (0,0))):
  ∃G',aX C fid G' (H.set l (.row es ds' false)) (w.setRow h.b (c.toList.take o++c1++c.toList.drop (o+c1.length)).toArray)/\
   Ext G w G' (w.setRow h.b (c.toList.take o++c1++c.toList.drop (o+c1.length)).toArray) l H.length:=by
 obtain⟨aP,ho,hr⟩:=U.obj l h hb;rw[hl]at ho;cases ho;obtain⟨ht,hC,ae,eM,hu,c',e',vals,rest,o8,fq,af,e5⟩:=hr;rw[hc]at o8;cases o8
 have hx:Ext G w ⟨ck G.β l h,G.I⟩ (w.setRow h.b (c.toList.take o++c1++c.toList.drop (o+c1.length)).toArray) l H.length:=
  Ext.write U hb ae rfl (aF _) id rfl (setRow_size _ _) (fun b aZ=>setRow_other aZ _) rfl rfl
 have lu:=mV hu;have lv:=e5.length;have qG:=hy.length;refine⟨_,?_,hx⟩;refine aX.write U hb ae rfl ae (aF _) id rfl (setRow_size _ _) (fun b aZ=>setRow_other aZ _) _ ?_;refine⟨by rw[ht,hn],by omega,ae,eM,ml,_,e,vals.take o++c1++vals.drop (o+c1.length),rest,setRow_heap w h.b c _ e _ hc,?_,?_,?_⟩
 ·rw[fq]
  simp only[u2,fD,tV,qv,fC];have:c.size=vals.length+rest.length:=by rw[<-fC,af,fD]
  omega
 ·rw[Mf,af,List.take_append_of_le_length (by omega),List.drop_append_of_le_length (by omega),kr _ _ rest]
 ·exact(vi vals e5).ext U hx
theorem agv (U:aX C fid G H w){t:TypeId}{n:Nat}(hs:C.sizeOf t=some n){a u:V}{x y:Value}(ha:bd fid G w a x)(hu:bd fid G w u y){l:Nat}(he:jw H n a u=some (H',l)):
  ∃w' G',(Instr.storeAt t x y).run C.P w=.ok () w'/\aX C fid G' H' w'/\Ext G w G' w' l H.length/\l<H.length/\H'.length=H.length:=by
 have dk:∀w,(Go.sizeOf t).run C.P w=.ok n w:=by
  intro w;simp only[Ctx.sizeOf,cj]at hs;obtain⟨i,hi,rfl⟩:=hs;unfold Go.sizeOf;rw[Sem.run_bind,run_typeInfo (P:=C.P) w hi];rfl
 have cc:∀(b o:Nat) (c:Array Value) (e:TypeId),w.heap[b]? =some (.cells c e (0,0))->(aE u).length=n->bM (aE u)=true->o+n<=c.size->x=.pointer (some ⟨b,o,none⟩)->
   (Instr.storeAt t x y).run C.P w=.ok () (w.setRow b (c.toList.take o++y.cells.toList++c.toList.drop (o+y.cells.toList.length)).toArray):=by
  intro b o c e hc hlen bh hle hx;obtain⟨h1,h2⟩:=BG hu bh;have hl:=h1.length;subst hx;have agw:y.cells.size=n:=by rw[<-fC,hl,hlen]
  simp only[Instr.storeAt,Instr.sureAddr,storeVar,Sem.run_bind,Sem.run_pure,Result.andThen_ok,dk,agw,ne_eq,not_true,if_false];have:=run_storeCells_at C.P b o e y.cells.toList 0 c w hc (by omega) h2;simpa using this
 unfold jw at he;split at he
 ·rename_i fc o
  obtain⟨h0,hb,ht,rfl⟩:=ha.nH;split at he
  ·rename_i vs hl
   split at he
   ·rename_i hc
    obtain⟨hlen,hle,bh⟩:=hc;simp only[aA,bq]at he;obtain⟨rfl,rfl⟩:=he;obtain⟨aP,ho,hr⟩:=U.obj fc h0 hb;rw[hl]at ho;cases ho;obtain⟨-,-,c,e,hc,af⟩:=hr;have lv:=af.length;obtain⟨h1,h2⟩:=BG hu bh;obtain⟨G',bB,b4⟩:=agt U hb hl h1 bh (by rw[hlen];exact hle) hc;exact⟨_,G',cc h0.b o c e hc hlen bh (by rw[<-fC];omega) rfl,bB,b4,U.lt hb,by simp⟩
   ·cases he
  ·cases he
 ·rename_i fc es i f tag
  obtain⟨h0,c4,hb,o9,hD,rfl⟩:=ha.D7;split at he
  ·rename_i bK ds hl
   split at he
   ·rename_i hc
    obtain⟨rfl,fP,hlen,jg⟩:=hc;split at he
    ·rename_i d hd
     split at he
     ·rename_i d' BI
      simp only[aA,bq]at he;obtain⟨rfl,rfl⟩:=he;obtain⟨aP,ho,hr⟩:=U.obj fc h0 hb;rw[hl]at ho;cases ho;obtain⟨ht,hC,ae,eM,mX,c,e,vals,rest,hc,fq,af,e5⟩:=hr;obtain⟨p1,p2⟩:=agu BI jg;have lP:(aE d).length=bK:=mX d (gV hd);have bh:=Nc jg;obtain⟨h1,h2⟩:=BG hu bh
      have hi:i<ds.length:=by
       obtain⟨hi,-⟩:=e0.1 hd;exact hi
      have hmul:i*bK+bK<=ds.length*bK:=by
       have:(i+1)*bK<=ds.length*bK:=HH _ hi;rw[yG]at this;exact this
      have agx:(aE d').length=bK:=by rw[p1,T8,lP]
      have lu:=mV mX;have lv:=e5.length;have nK:c.size=vals.length+rest.length:=by rw[<-fC,af,fD]
      obtain⟨G',bB,b4⟩:=Ub U hb hl (ds':=ds.set i d') (by simp)
       (fun a ha=>by rcases List.mem_or_eq_of_mem_set ha with q|rfl;exact mX a q;exact agx) (o:=i*bK+f) h1 (by omega) (fun vals af=>by rw[Nb mX hd (by omega) p1];exact D9 _ af h1 (by omega)) hc
      refine⟨_,G',cc h0.b (i*bK+f) c e hc hlen bh (by omega) ?_,bB,b4,U.lt hb,by simp⟩;rw[hD (ht.trans fP)]
     ·cases he
    ·cases he
   ·cases he
  ·cases he
 ·cases he
end ops
end Go.Abs
