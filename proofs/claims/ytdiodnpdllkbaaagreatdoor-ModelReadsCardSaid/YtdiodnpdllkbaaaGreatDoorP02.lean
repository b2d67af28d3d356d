/- Texts of this claim, joined and written short by a program. -/
import Derived.Test.YtdiodnpdllkbaaaGreatDoorP01
import Derived.Laws.World
import Derived.Test.YtdiodnpdllkbaaaGreatDoorP00
set_option linter.unusedVariables false
set_option linter.unusedSimpArgs false
set_option linter.unusedSectionVars false
namespace Go.Abs
open Go
structure Home where
 b:Nat
 tag:Nat
 ff:Nat
 dt:Bool
structure bX where
 β:Nat->Option Home
 I:Nat->Prop
def iz (w:World)(b o:Nat)(vals:List Value):Prop:=
 ∀(j:Nat) (x:Value),vals[j]? =some x->w.cell? ⟨b,o+j,none⟩=some x
mutual
inductive fz (w:World) (I:Nat->Prop):V->Value->Prop
 |bool (b:Bool):fz w I (.bool b) (.bool b)
 |int (k:IntKind) (n:Int):fz w I (.int k n) (.int k n)
 |str (s:List UInt8):fz w I (.str s) (.string ⟨⟨s⟩⟩)
 |cp:fz w I .cp (.slice none 0 0)
 |emp (a:Addr):fz w I .emp (.slice (some a) 0 0)
 |ur (es:Nat) (a:Addr) (cap:Nat):fz w I (.list es []) (.slice (some a) 0 cap)
 |list (es:Nat) (ds:List V) (b o cap:Nat) (vals:List Value) (aW:I b) (hc:iz w b o vals) (hu:∀d∈ds,(aE d).length=es)
  (hr:c7 w I (ds.flatMap aE) vals) (hl:ds.length<=cap):fz w I (.list es ds) (.slice (some ⟨b,o,none⟩) ds.length cap)
 |jb:fz w I .jb (.pointer none)
 |iw:fz w I .iw (.map none)
 |jV:fz w I .jV .nilFunc
 |ig:fz w I .ig .nilIface
 |agg (vs:List V) (vals:List Value) (hr:c7 w I vs vals):fz w I (.agg vs) (.agg ⟨vals⟩)
 |aU (vs:List V) (vals:List Value) (hr:c7 w I vs vals):fz w I (.aU vs) (.tuple ⟨vals⟩)
 |iface (t:Nat) (v:V) (x:Value) (hr:fz w I v x):fz w I (.iface t v) (.iface t x)
 |fn (i:Nat) (fs cs:List V) (xs cR:List Value) (ab:c7 w I fs xs) (hc:c7 w I cs cR):fz w I (.fn i fs cs) (.func (.func i) ⟨xs⟩ ⟨cR⟩)
inductive c7 (w:World) (I:Nat->Prop):List V->List Value->Prop
 |nil:c7 w I [] []
 |cons (v:V) (x:Value) (vs:List V) (xs:List Value) (h:fz w I v x) (hs:c7 w I vs xs):c7 w I (v::vs) (x::xs)
end
section
mutual
inductive a8 (fid:Nat->Nat) (G:bX) (w:World):V->Value->Prop
 |p (v:V) (x:Value) (h:fz w G.I v x):a8 fid G w v x
 |ptr (l o:Nat) (h:Home) (hb:G.β l=some h) (ht:h.tag=0):a8 fid G w (.ptr l o) (.pointer (some ⟨h.b,o,none⟩))
 |gF (l es i f tag:Nat) (h:Home) (a:Addr) (hb:G.β l=some h) (hle:tag<=h.tag) (ao:h.tag=tag->a=⟨h.b,i*es+f,none⟩):
  a8 fid G w (.gF l es i f tag) (.pointer (some a))
 |dn (vs:List V) (f b o:Nat) (vals:List Value) (aW:G.I b) (hc:iz w b o vals) (hr:c7 w G.I vs vals):a8 fid G w (.dn vs f) (.pointer (some ⟨b,o+f,none⟩))
 |cz (l es off len tag:Nat) (h:Home) (a:Addr) (n cap:Nat) (hb:G.β l=some h) (hle:tag<=h.tag)
  (ao:h.tag=tag->a=⟨h.b,off*es,none⟩/\n=len/\(off+cap)*es<=h.ff/\len<=cap):a8 fid G w (.cz l es off len tag) (.slice (some a) n cap)
 |map (l:Nat) (h:Home) (hb:G.β l=some h) (ht:h.tag=0):a8 fid G w (.map l) (.map (some h.b))
 |fn (i:Nat) (fs cs:List V) (xs cR:List Value) (ab:aY fid G w fs xs) (hc:aY fid G w cs cR):a8 fid G w (.fn i fs cs) (.func (.func i) ⟨xs⟩ ⟨cR⟩)
 |yield (l:Nat) (h:Home) (hb:G.β l=some h) (ht:h.tag=0):a8 fid G w (.yield l) (.func (.yield h.b) #[] #[])
 |agg (vs:List V) (vals:List Value) (hr:aY fid G w vs vals):a8 fid G w (.agg vs) (.agg ⟨vals⟩)
 |aU (vs:List V) (vals:List Value) (hr:aY fid G w vs vals):a8 fid G w (.aU vs) (.tuple ⟨vals⟩)
 |iface (t:Nat) (v:V) (x:Value) (hr:a8 fid G w v x):a8 fid G w (.iface t v) (.iface t x)
 |undef (x:Value):a8 fid G w .undef x
inductive aY (fid:Nat->Nat) (G:bX) (w:World):List V->List Value->Prop
 |nil:aY fid G w [] []
 |cons (v:V) (x:Value) (vs:List V) (xs:List Value) (h:a8 fid G w v x) (hs:aY fid G w vs xs):aY fid G w (v::vs) (x::xs)
end
end
variable{fid:Nat->Nat}{w w':World}{G G':bX}{I qA:Nat->Prop}
theorem Rt{b:Nat}(h:w'.heap[b]? =w.heap[b]?)(o:Nat):w'.cell? ⟨b,o,none⟩=w.cell? ⟨b,o,none⟩:=by
 simp[World.cell?,h]
theorem iz.dQ{b o:Nat}{vals:List Value}(h:iz w b o vals)(hb:w'.heap[b]? =w.heap[b]?):iz w' b o vals:=
 fun j x hx=>by rw[Rt hb];exact h j x hx
mutual
theorem fz.mono (aW:∀b,I b->qA b/\w'.heap[b]? =w.heap[b]?):∀{v:V} {x:Value},fz w I v x->fz w' qA v x
 | _,_,.bool b=>.bool b
 | _,_,.int k n=>.int k n
 | _,_,.str s=>.str s
 | _,_,.cp=>.cp
 | _,_,.emp a=>.emp a
 | _,_,.ur es a cap=>.ur es a cap
 | _,_,.list es ds b o cap vals h hc hu hr hl=>.list es ds b o cap vals (aW b h).1 (hc.dQ (aW b h).2) hu (c7.mono aW hr) hl
 | _,_,.jb=>.jb
 | _,_,.iw=>.iw
 | _,_,.jV=>.jV
 | _,_,.ig=>.ig
 | _,_,.agg vs vals hr=>.agg vs vals (c7.mono aW hr)
 | _,_,.aU vs vals hr=>.aU vs vals (c7.mono aW hr)
 | _,_,.iface t v x hr=>.iface t v x (fz.mono aW hr)
 | _,_,.fn i fs cs xs cR ab hc=>.fn i fs cs xs cR (c7.mono aW ab) (c7.mono aW hc)
theorem c7.mono (aW:∀b,I b->qA b/\w'.heap[b]? =w.heap[b]?):∀{vs:List V} {xs:List Value},c7 w I vs xs->c7 w' qA vs xs
 | _,_,.nil=>.nil
 | _,_,.cons v x vs xs h hs=>.cons v x vs xs (fz.mono aW h) (c7.mono aW hs)
end
def lT (β abN:Nat->Option Home):Prop:=
 ∀l h,β l=some h->∃h',abN l=some h'/\h.tag<=h'.tag/\(h.tag=0->h'.tag=0)/\(h'.tag=h.tag->h'.b=h.b/\h'.ff=h.ff)/\(h.dt=true->h'=h)
theorem lT.refl (β:Nat->Option Home):lT β β:=fun _ h hb=>⟨h,hb,aK _,id,fun _=>⟨rfl,rfl⟩,fun _=>rfl⟩
theorem lT.trans{a b c:Nat->Option Home}(h:lT a b)(k:lT b c):lT a c:=by
 intro l h₀ hb
 obtain⟨h₁,abO,abP,abQ,m₁,abR⟩:=h l h₀ hb
 obtain⟨h₂,KH,abS,abT,m₂,abU⟩:=k l h₁ abO
 refine⟨h₂,KH,cV abP abS,fun z=>abT (abQ z),fun ht=> ?_,fun f=> ?_⟩
 ·have e:h₁.tag=h₀.tag:=by omega
  have e':h₂.tag=h₁.tag:=by omega
  exact⟨(m₂ e').1.trans (m₁ e).1,(m₂ e').2.trans (m₁ e).2⟩
 ·have:=abR f;subst this;exact abU f
mutual
theorem a8.mono (e5:lT G.β G'.β)(aW:∀b,G.I b->G'.I b/\w'.heap[b]? =w.heap[b]?):∀{v:V} {x:Value},a8 fid G w v x->a8 fid G' w' v x
 | _,_,.p v x h=>.p v x (fz.mono aW h)
 | _,_,.ptr l o h hb ht=>by
   obtain⟨h',e,-,z,m,-⟩:=e5 l h hb
   have:=(m ((z ht).trans ht.symm)).1
   rw[<-this];exact .ptr l o h' e (z ht)
 | _,_,.gF l es i f tag h a hb hle ao=>by
   obtain⟨h',e,t,z,m,-⟩:=e5 l h hb
   refine .gF l es i f tag h' a e (cV hle t) (fun hx=> ?_)
   have ht:h'.tag=h.tag:=by omega
   rw[(m ht).1];exact ao (by omega)
 | _,_,.dn vs f b o vals h hc hr=>.dn vs f b o vals (aW b h).1 (hc.dQ (aW b h).2) (c7.mono aW hr)
 | _,_,.cz l es off len tag h a n cap hb hle ao=>by
   obtain⟨h',e,t,z,m,-⟩:=e5 l h hb
   refine .cz l es off len tag h' a n cap e (cV hle t) (fun hx=> ?_)
   have ht:h'.tag=h.tag:=by omega
   rw[(m ht).1,(m ht).2];exact ao (by omega)
 | _,_,.map l h hb ht=>by
   obtain⟨h',e,-,z,m,-⟩:=e5 l h hb
   have:=(m ((z ht).trans ht.symm)).1
   rw[<-this];exact .map l h' e (z ht)
 | _,_,.fn i fs cs xs cR ab hc=>.fn i fs cs xs cR (aY.mono e5 aW ab) (aY.mono e5 aW hc)
 | _,_,.yield l h hb ht=>by
   obtain⟨h',e,-,z,m,-⟩:=e5 l h hb
   have:=(m ((z ht).trans ht.symm)).1
   rw[<-this];exact .yield l h' e (z ht)
 | _,_,.agg vs vals hr=>.agg vs vals (aY.mono e5 aW hr)
 | _,_,.aU vs vals hr=>.aU vs vals (aY.mono e5 aW hr)
 | _,_,.iface t v x hr=>.iface t v x (a8.mono e5 aW hr)
 | _,_,.undef x=>.undef x
theorem aY.mono (e5:lT G.β G'.β)(aW:∀b,G.I b->G'.I b/\w'.heap[b]? =w.heap[b]?):∀{vs:List V} {xs:List Value},aY fid G w vs xs->aY fid G' w' vs xs
 | _,_,.nil=>.nil
 | _,_,.cons v x vs xs h hs=>.cons v x vs xs (a8.mono e5 aW h) (aY.mono e5 aW hs)
end
mutual
theorem a8.restrict{n:Nat}(e5:∀l h,l<n->G.β l=some h->∃h',G'.β l=some h'/\h'=h)(aW:∀b,G.I b->G'.I b/\w'.heap[b]? =w.heap[b]?):
  ∀{v:V} {x:Value},a8 fid G w v x->old n v=true\/(bs v=true)->a8 fid G' w' v x
 | _,_,.p v x h,_=>.p v x (fz.mono aW h)
 | _,_,.ptr l o h hb ht,ho=>by
   obtain⟨h',e,rfl⟩:=e5 l h (by simpa[old,bs]using ho) hb
   exact .ptr l o _ e ht
 | _,_,.gF l es i f tag h a hb hle ao,ho=>by
   obtain⟨h',e,rfl⟩:=e5 l h (by simpa[old,bs]using ho) hb
   exact .gF l es i f tag _ a e hle ao
 | _,_,.dn vs f b o vals h hc hr,_=>.dn vs f b o vals (aW b h).1 (hc.dQ (aW b h).2) (c7.mono aW hr)
 | _,_,.cz l es off len tag h a n cap hb hle ao,ho=>by
   obtain⟨h',e,rfl⟩:=e5 l h (by simpa[old,bs]using ho) hb
   exact .cz l es off len tag _ a n cap e hle ao
 | _,_,.map l h hb ht,ho=>by
   obtain⟨h',e,rfl⟩:=e5 l h (by simpa[old,bs]using ho) hb
   exact .map l _ e ht
 | _,_,.fn i fs cs xs cR ab hc,ho=>by
   simp only[old,bs,b8]at ho
   exact .fn i fs cs xs cR (aY.restrict e5 aW ab (ho.imp And.left And.left)) (aY.restrict e5 aW hc (ho.imp And.right And.right))
 | _,_,.yield l h hb ht,ho=>by
   obtain⟨h',e,rfl⟩:=e5 l h (by simpa[old,bs]using ho) hb
   exact .yield l _ e ht
 | _,_,.agg vs vals hr,ho=>.agg vs vals (aY.restrict e5 aW hr (by simpa[old,bs]using ho))
 | _,_,.aU vs vals hr,ho=>.aU vs vals (aY.restrict e5 aW hr (by simpa[old,bs]using ho))
 | _,_,.iface t v x hr,ho=>.iface t v x (a8.restrict e5 aW hr (by simpa[old,bs]using ho))
 | _,_,.undef x,_=>.undef x
theorem aY.restrict{n:Nat}(e5:∀l h,l<n->G.β l=some h->∃h',G'.β l=some h'/\h'=h)(aW:∀b,G.I b->G'.I b/\w'.heap[b]? =w.heap[b]?):
  ∀{vs:List V} {xs:List Value},aY fid G w vs xs->ez n vs=true\/bW vs=true->aY fid G' w' vs xs
 | _,_,.nil,_=>.nil
 | _,_,.cons v x vs xs h hs,ho=>by
   have h1:old n v=true\/bs v=true:=by rcases ho with ho|ho<;>simp_all [ez,bW]
   have h2:ez n vs=true\/bW vs=true:=by rcases ho with ho|ho<;>simp_all [ez,bW]
   exact .cons v x vs xs (a8.restrict e5 aW h h1) (aY.restrict e5 aW hs h2)
end
mutual
theorem a8.pz:∀{v:V} {x:Value},a8 fid G w v x->bs v=true->fz w G.I v x
 | _,_,.p v x h,_=>h
 | _,_,.agg vs vals hr,ho=>.agg vs vals (aY.pz hr (by simpa[bs]using ho))
 | _,_,.aU vs vals hr,ho=>.aU vs vals (aY.pz hr (by simpa[bs]using ho))
 | _,_,.iface t v x hr,ho=>.iface t v x (a8.pz hr (by simpa[bs]using ho))
 | _,_,.fn i fs cs xs cR ab hc,ho=>by
   simp only[bs,b8]at ho
   exact .fn i fs cs xs cR (aY.pz ab ho.1) (aY.pz hc ho.2)
 | _,_,.ptr ..,ho| _,_,.gF ..,ho| _,_,.dn ..,ho| _,_,.cz ..,ho| _,_,.map ..,ho| _,_,.yield ..,ho| _,_,.undef ..,ho=>by simp[bs]at ho
theorem aY.pz:∀{vs:List V} {xs:List Value},aY fid G w vs xs->bW vs=true->c7 w G.I vs xs
 | _,_,.nil,_=>.nil
 | _,_,.cons v x vs xs h hs,ho=>by
   simp only[bW,b8]at ho
   exact .cons v x vs xs (a8.pz h ho.1) (aY.pz hs ho.2)
end
theorem c7.oP:∀{vs:List V} {xs:List Value},c7 w G.I vs xs->aY fid G w vs xs
 | _,_,.nil=>.nil
 | _,_,.cons v x vs xs h hs=>.cons v x vs xs (.p v x h) (c7.oP hs)
mutual
theorem fz.flat:∀{v:V} {x:Value},fz w I v x->Abs.flat v=true->fz w' qA v x
 | _,_,.bool b,_=>.bool b
 | _,_,.int k n,_=>.int k n
 | _,_,.str s,_=>.str s
 | _,_,.cp,_=>.cp
 | _,_,.emp a,_=>.emp a
 | _,_,.jb,_=>.jb
 | _,_,.iw,_=>.iw
 | _,_,.jV,_=>.jV
 | _,_,.ig,_=>.ig
 | _,_,.agg vs vals hr,h=>.agg vs vals (c7.flat hr (by simpa[Abs.flat]using h))
 | _,_,.aU vs vals hr,h=>.aU vs vals (c7.flat hr (by simpa[Abs.flat]using h))
 | _,_,.ur ..,h| _,_,.list ..,h| _,_,.iface ..,h| _,_,.fn ..,h=>by simp[Abs.flat]at h
theorem c7.flat:∀{vs:List V} {xs:List Value},c7 w I vs xs->uh vs=true->c7 w' qA vs xs
 | _,_,.nil,_=>.nil
 | _,_,.cons v x vs xs h hs,ho=>by
   simp only[uh,b8]at ho
   exact .cons v x vs xs (fz.flat h ho.1) (c7.flat hs ho.2)
end
mutual
theorem Ru:∀{v:V},Abs.flat v=true->bs v=true
 | .bool _,_| .int _ _,_| .str _,_| .cp,_| .emp,_| .jb,_| .iw,_| .jV,_| .ig,_=>rfl
 | .agg vs,h=>by simp only[bs];exact KI (by simpa[Abs.flat]using h)
 | .aU vs,h=>by simp only[bs];exact KI (by simpa[Abs.flat]using h)
 | .list ..,h| .ptr ..,h| .gF ..,h| .dn ..,h| .cz ..,h| .map ..,h| .fn ..,h| .yield ..,h| .iface ..,h| .undef,h=>by simp[Abs.flat]at h
theorem KI:∀{vs:List V},uh vs=true->bW vs=true
 |[],_=>rfl
 |v::vs,h=>by
  simp only[uh,b8]at h
  simp only[bW,b8]
  exact⟨Ru h.1,KI h.2⟩
end
theorem a8.flat{v:V}{x:Value}(h:a8 fid G w v x)(ab:Abs.flat v=true):a8 fid G' w' v x:=.p _ _ ((h.pz (Ru ab)).flat ab)
theorem aY.length:∀{vs:List V} {xs:List Value},aY fid G w vs xs->xs.length=vs.length
 | _,_,.nil=>rfl
 | _,_,.cons _ _ _ _ _ hs=>by simp[aY.length hs]
theorem aY.get:∀{vs:List V} {xs:List Value},aY fid G w vs xs->∀{i:Nat} {v:V},vs[i]? =some v->∃x,xs[i]? =some x/\a8 fid G w v x
 | _,_,.nil,i,v,h=>by simp at h
 | _,_,.cons v x vs xs h hs,0,u,e=>by simp at e;subst e;exact⟨x,by simp,h⟩
 | _,_,.cons v x vs xs h hs,i+1,u,e=>by simpa using aY.get hs (by simpa using e)
theorem aY.append:∀{vs us:List V} {xs cR:List Value},aY fid G w vs xs->aY fid G w us cR->aY fid G w (vs++us) (xs++cR)
 | _,_,_,_,.nil,k=>k
 | _,_,_,_,.cons v x vs xs h hs,k=>.cons v x _ _ h (aY.append hs k)
theorem aY.split:∀{vs us:List V} {dd:List Value},aY fid G w (vs++us) dd->∃xs cR,dd=xs++cR/\aY fid G w vs xs/\aY fid G w us cR
 |[],us,dd,h=>⟨[],dd,rfl,.nil,h⟩
 |v::vs,us,_,.cons _ x _ xs h hs=>by
  obtain⟨aO,aI,rfl,h1,h2⟩:=aY.split (vs:=vs) hs
  exact⟨x::aO,aI,rfl,.cons v x vs aO h h1,h2⟩
theorem aY.set:∀{vs:List V} {xs:List Value},aY fid G w vs xs->∀(i:Nat) {v:V} {x:Value},a8 fid G w v x->aY fid G w (vs.set i v) (xs.set i x)
 | _,_,.nil,_,_,_,_=>.nil
 | _,_,.cons v x vs xs h hs,0,u,y,k=>.cons u y vs xs k hs
 | _,_,.cons v x vs xs h hs,i+1,u,y,k=>.cons v x _ _ h (aY.set hs i k)
theorem aY.drop:∀{vs:List V} {xs:List Value},aY fid G w vs xs->∀(n:Nat),aY fid G w (vs.drop n) (xs.drop n)
 | _,_,h,0=>by simpa using h
 | _,_,.nil,n+1=>.nil
 | _,_,.cons v x vs xs h hs,n+1=>by simpa using aY.drop hs n
theorem aY.take:∀{vs:List V} {xs:List Value},aY fid G w vs xs->∀(n:Nat),aY fid G w (vs.take n) (xs.take n)
 | _,_,h,0=>by simpa using aY.nil
 | _,_,.nil,n+1=>.nil
 | _,_,.cons v x vs xs h hs,n+1=>.cons v x _ _ h (aY.take hs n)
theorem aY.abV{vs:List V}{xs:List Value}(hl:xs.length=vs.length)(h:∀(i:Nat) v x,vs[i]? =some v->xs[i]? =some x->a8 fid G w v x):aY fid G w vs xs:=by
 induction vs generalizing xs with
 |nil=>cases xs with
  |nil=>exact .nil
  |cons=>simp at hl
 |cons v vs ih=>cases xs with
  |nil=>simp at hl
  |cons x xs=>exact .cons v x vs xs (h 0 v x rfl rfl) (ih (by simpa using hl) (fun i v x a b=>h (i+1) v x (by simpa using a) (by simpa using b)))
theorem c7.drop:∀{vs:List V} {xs:List Value},c7 w I vs xs->∀(n:Nat),c7 w I (vs.drop n) (xs.drop n)
 | _,_,h,0=>by simpa using h
 | _,_,.nil,n+1=>.nil
 | _,_,.cons _ _ _ _ _ hs,n+1=>by simpa using c7.drop hs n
theorem c7.take:∀{vs:List V} {xs:List Value},c7 w I vs xs->∀(n:Nat),c7 w I (vs.take n) (xs.take n)
 | _,_,_,0=>by simpa using c7.nil
 | _,_,.nil,n+1=>.nil
 | _,_,.cons v x _ _ h hs,n+1=>.cons v x _ _ h (c7.take hs n)
theorem c7.length{vs:List V}{xs:List Value}(h:c7 w I vs xs):xs.length=vs.length:=aY.length (fid:=id) (G:=⟨fun _=>none,I⟩) (c7.oP h)
def KJ:X->Option Code->Prop
 | .normal,none=>True
 | .exit id,some (.exit sU)=>sU=id
 | .ret,some .ret=>True
 | _,_=>False
def n0 (es:Array MapEntry)(bE:Nat):Prop:=(∀x∈es.toList,x.born<bE)/\(es.toList.map (·.born)).Nodup
def jg (C:Ctx)(fid:Nat->Nat)(G:bX)(w:World)(h:Home):cc->Prop
 | .cells vs=>h.tag=0/\h.dt=false/\∃c e,w.heap[h.b]? =some (.cells c e (0,0))/\aY fid G w vs c.toList
 | .row es ds dt=>h.tag=ds.length/\0<ds.length/\h.dt=dt/\0<es/\(∀d∈ds,(aE d).length=es)/\
  ∃c e vals rest,w.heap[h.b]? =some (.cells c e (0,0))/\h.ff=c.size/\c.toList=vals++rest/\aY fid G w (ds.flatMap aE) vals
 | .map bb=>h.tag=0/\h.dt=false/\∃es bE,w.heap[h.b]? =some (.map es bE)/\
  aY fid G w (bb.map (·.1)) (es.toList.map (·.key))/\aY fid G w (bb.map (·.2)) (es.toList.map (·.val))/\n0 es bE
 | .loop st sT env params assign body=>h.tag=0/\h.dt=false/\∃L vars,w.heap[h.b]? =some (.loop L)/\L.state=st/\KJ sT L.pending/\
  L.params.toList=params/\(∀t∈params,t∈vars/\t<L.tmps.size)/\
  C.code vars L.tmps.size L.assign=some assign/\C.code vars L.tmps.size L.body=some body/\∀t∈vars,a8 fid G w (bk env t) (L.tmps.getD t undef)
 | .gone=>h.tag=0/\h.dt=false
structure aZ (C:Ctx) (fid:Nat->Nat) (G:bX) (H:Heap) (w:World):Prop where
 obj:∀l h,G.β l=some h->∃o,H[l]? =some o/\jg C fid G w h o
 inj:∀l fo h h',G.β l=some h->G.β fo=some h'->h.b=h'.b->l=fo
 blk:∀l h,G.β l=some h->h.b<w.heap.size
 cX:∀b,G.I b->b<w.heap.size/\∀l h,G.β l=some h->h.b=b->h.dt=true
 ku:∀l h,G.β l=some h->h.dt=true->G.I h.b
 e9:∀b o,C.e9 b=some o->G.I b/\w.heap[b]? =some o
structure Ext (G:bX) (w:World) (G':bX) (w':World) (m n:Nat):Prop where
 size:w.heap.size<=w'.heap.size
 os:w'.os=w.os
 output:w'.output=w.output
 dQ:∀b,b<w.heap.size->(∀l h,G.β l=some h->h.b=b->h.dt=true\/l<m)->w'.heap[b]? =w.heap[b]?
 homes:lT G.β G'.β
 nt:∀l h',G'.β l=some h'->(∃h,G.β l=some h/\(h.b=h'.b\/w.heap.size<=h'.b))\/(n<=l/\w.heap.size<=h'.b)
 cX:∀b,G.I b->G'.I b
 n1:∀b,G'.I b->G.I b\/w.heap.size<=b\/∃l h,G.β l=some h/\h.b=b
theorem Ext.KK{m n:Nat}(h:Ext G w G' w' m n)(l:Nat)(h':Home)(e:G'.β l=some h'):(∃h,G.β l=some h/\h.b=h'.b)\/w.heap.size<=h'.b:=by
 rcases h.nt l h' e with⟨h0,dI,q|q⟩|⟨_,q⟩
 ·exact .inl ⟨h0,dI,q⟩
 ·exact .inr q
 ·exact .inr q
theorem Ext.refl (G:bX)(w:World)(m n:Nat):Ext G w G w m n:=
 ⟨aK _,rfl,rfl,fun _ _ _=>rfl,.refl _,fun _ h hb=>.inl ⟨h,hb,.inl rfl⟩,fun _ h=>h,fun _ h=>.inl h⟩
theorem Ext.le{m m' n Rv:Nat}(h:Ext G w G' w' m n)(hm:m'<=m)(hn:Rv<=n):Ext G w G' w' m' Rv:=
 {h with dQ:=fun b hb k=>h.dQ b hb fun l x af aj=>(k l x af aj).imp id fun q=>qs q hm
         nt:=fun l h' e=>(h.nt l h' e).imp id fun q=>⟨cV hn q.1,q.2⟩}
theorem Ext.trans{Rw:bX}{hF:World}{m n:Nat}(h:Ext G w G' w' m n)(k:Ext G' w' Rw hF m n):Ext G w Rw hF m n where
 size:=cV h.size k.size
 os:=k.os.trans h.os
 output:=k.output.trans h.output
 dQ b hb hk:=by
  rw[k.dQ b (qs hb h.size) ?_,h.dQ b hb hk]
  intro l h1 af aj
  rcases h.KK l h1 af with⟨h0,dI,eb⟩|hn
  ·rcases hk l h0 dI (eb.trans aj)with ab|hl
   ·obtain⟨h',e',-,-,-,lR⟩:=h.homes l h0 dI
    rw[af]at e';cases e'
    rw[lR ab];exact .inl ab
   ·exact .inr hl
  ·omega
 homes:=h.homes.trans k.homes
 nt l h2 e:=by
  have hs:=h.size
  rcases k.nt l h2 e with⟨h1,af,eb⟩|⟨hn,hb⟩
  ·rcases h.nt l h1 af with⟨h0,dI,Ad⟩|⟨hn,hb⟩
   ·refine .inl ⟨h0,dI,?_⟩
    rcases eb with eb|eb<;>rcases Ad with Ad|Ad
    ·exact .inl (Ad.trans eb)
    ·exact .inr (by omega)
    ·exact .inr (by omega)
    ·exact .inr (by omega)
   ·exact .inr ⟨hn,by rcases eb with eb|eb<;>omega⟩
  ·exact .inr ⟨hn,by omega⟩
 cX b hb:=k.cX b (h.cX b hb)
 n1 b hb:=by
  rcases k.n1 b hb with h1|h1|⟨l,h1,af,eb⟩
  ·exact h.n1 b h1
  ·exact .inr (.inl (cV h.size h1))
  ·rcases h.KK l h1 af with⟨h0,dI,Ad⟩|hn
   ·exact .inr (.inr ⟨l,h0,dI,Ad.trans eb⟩)
   ·exact .inr (.inl (by omega))
theorem aZ.Rx{C:Ctx}{H:Heap}{m n:Nat}(U:aZ C fid G H w)(h:Ext G w G' w' m n):∀b,G.I b->G'.I b/\w'.heap[b]? =w.heap[b]? :=fun b hb=>
 ⟨h.cX b hb,h.dQ b (U.cX b hb).1 fun l x af aj=>.inl ((U.cX b hb).2 l x af aj)⟩
theorem a8.ext{C:Ctx}{H:Heap}{m n:Nat}(U:aZ C fid G H w)(h:Ext G w G' w' m n){v:V}{x:Value}(k:a8 fid G w v x):a8 fid G' w' v x:=
 k.mono h.homes (U.Rx h)
theorem aY.ext{C:Ctx}{H:Heap}{m n:Nat}(U:aZ C fid G H w)(h:Ext G w G' w' m n){v:List V}{x:List Value}(k:aY fid G w v x):aY fid G' w' v x:=
 k.mono h.homes (U.Rx h)
theorem jg.mono{C:Ctx}(e5:lT G.β G'.β)(aW:∀b,G.I b->G'.I b/\w'.heap[b]? =w.heap[b]?){h:Home}(hb:w'.heap[h.b]? =w.heap[h.b]?):∀{o:cc},jg C fid G w h o->jg C fid G' w' h o
 | .cells vs,⟨a,b,c,e,hc,hr⟩=>⟨a,b,c,e,by rw[hb];exact hc,hr.mono e5 aW⟩
 | .row es ds dt,⟨a,b,c,d,u,Ry,e,vals,rest,hc,hs,hl,hr⟩=>⟨a,b,c,d,u,Ry,e,vals,rest,by rw[hb];exact hc,hs,hl,hr.mono e5 aW⟩
 | .map bb,⟨a,b,es,bE,hc,hk,ad,hs⟩=>⟨a,b,es,bE,by rw[hb];exact hc,hk.mono e5 aW,ad.mono e5 aW,hs⟩
 | .loop ..,⟨a,b,L,vars,hc,hs,hp,uu,hin,ao,abW,he⟩=>⟨a,b,L,vars,by rw[hb];exact hc,hs,hp,uu,hin,ao,abW,fun t ht=>(he t ht).mono e5 aW⟩
 | .gone,h=>h
end Go.Abs
