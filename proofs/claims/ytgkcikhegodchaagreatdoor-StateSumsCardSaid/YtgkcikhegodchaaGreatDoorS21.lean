/- Texts of this claim, joined and written short by a program. -/
import Derived.Test.YtgkcikhegodchaaGreatDoorS20
import Derived.Lib.Fields
import Derived.Lib.Bytealg
import Derived.KernelRfl
import Derived.Test.YtgkcikhegodchaaGreatDoorS00
set_option linter.unusedVariables false
set_option linter.unusedSimpArgs false
set_option linter.unusedSectionVars false
namespace Go.Abs
open Go
section
variable{aa:Nat->Option bV}{b:Nat}{aq σ:bN}{H:Heap}{wr:List Bool}{rest:List bI}{call:cP}{ag:ai->V}
def gC{K W:Type}(gR:K->V)(gD:W->V)(m:List (K × W)):List (V × V):=m.map fun p=>(gR p.1,gD p.2)
theorem Fb (a c:Int):ix 0 (aI a) (aI c)=some (a==c):=by simp[ix]
theorem amv (a c:cf):ix 1 (.str a) (.str c)=some (a==c):=rfl
theorem Fc{K W:Type}[BEq K]{gR:K->V}{gD:W->V}{kind:Nat}(heq:∀a c,ix kind (gR a) (gR c)=some (a==c))(k:K):∀m:List (K × W),hK kind (gR k) (gC gR gD m)=some ((ie m k).map gD)
 |[]=>rfl
 |p::r=>by
  have ih:=Fc (gD:=gD) heq k r;simp only[gC,ie]at ih⊢;simp only[de,hK,heq,HS];cases k==p.1<;>simp[ih]
theorem aaa{K W:Type}[BEq K]{gR:K->V}{gD:W->V}{kind:Nat}(heq:∀a c,ix kind (gR a) (gR c)=some (a==c))(k:K)(w:W):∀m:List (K × W),kU kind (gR k) (gD w) (gC gR gD m)=gC gR gD (lF m k w)
 |[]=>rfl
 |p::r=>by
  have ih:=aaa (gD:=gD) heq k w r;simp only[gC]at ih⊢;simp only[de,kU,heq,lF];cases k==p.1<;>simp[ih]
theorem aab{K W:Type}[BEq K]{gR:K->V}{gD:W->V}{kind a:Nat}{m:List (K × W)}{k:K}{z:V}{x i:ai}(heq:∀a c,ix kind (gR a) (gR c)=some (a==c))(z0:W)(aO:z=gD z0)(a6:H[a]? =some (.map (gC gR gD m)))(hx:ag x=.map a)(hi:ag i=gR k):
  b3 call ag H H.length (.lookup kind z x i false)=some (gD ((ie m k).getD z0),H,H.length):=by
 rw[E5];simp only[step,hx,a6,hi,Fc heq];cases ie m k<;>simp[aO]
theorem amw{K W:Type}[BEq K]{gR:K->V}{gD:W->V}{kind a:Nat}{m:List (K × W)}{k:K}{z:V}{x i:ai}(heq:∀a c,ix kind (gR a) (gR c)=some (a==c))(z0:W)(aO:z=gD z0)(a6:H[a]? =some (.map (gC gR gD m)))(hx:ag x=.map a)(hi:ag i=gR k):
  b3 call ag H H.length (.lookup kind z x i true)=some (.aU [gD ((ie m k).getD z0),.bool (ie m k).isSome],H,H.length):=by
 rw[E5];simp only[step,hx,a6,hi,Fc heq];cases ie m k<;>simp[aO]
theorem aac{K W:Type}{gR:K->V}{gD:W->V}{a:Nat}{m:List (K × W)}{x:ai}(a6:H[a]? =some (.map (gC gR gD m)))(hx:ag x=.map a):b3 call ag H H.length (.len 2 x)=some (aI (m.length:Int),H,H.length):=by
 show step ag H H.length (.len 2 x)=_;simp[step,hx,a6,gC]
theorem aad{K W:Type}[BEq K]{gR:K->V}{gD:W->V}{kind a:Nat}{m:List (K × W)}{k:K}{w:W}{d:Option (Nat × Bool)}{g:Option (ai × Bool)}{x i y:ai}{Q:bN->Heap->List Bool->Prop}{ms:cy}(hw:ga aq σ g=some true)
  (heq:∀a c,ix kind (gR a) (gR c)=some (a==c)) (aw:Own H ms) (j:Nat) (hk:ms[j]? =some [(a,.map (gC gR gD m))]) (hb:b<=a) (hx:bn aq σ x=.map a) (hi:bn aq σ i=gR k) (hy:bn aq σ y=gD w) (hp:bx (gD w)=true)
  (cl:∀H',Own H' (ms.set j [(a,.map (gC gR gD (lF m k w)))])->Op aa b rest (fw aq d .undef) (fx σ d .undef) H' (true::wr) Q):Op aa b (⟨d,.pQ kind x i y,g⟩::rest) aq σ H wr Q:=by
 have a6:=aw.get j hk;have aK:=sc a6;have hu:uc (gD w)=false:=by cases af:gD w<;>simp_all [uc,bx]
 refine j4 (o:=⟨d,.pQ kind x i y,g⟩) (mv:=true) (H1:=H.set a (.map (gC gR gD (lF m k w)))) hw (fun cp=>⟨by simpa using cp,a,hb,?_,by simp[ei,aK]⟩) (cl _ (aw.put j hk));simp only[O6,step,hy];have ae:fN H H.length (gD w)=some (gD w,H,H.length):=by simp[fN,dQ,hp]
 simp only[ae,hu,hx,a6,hi,Fc heq,aaa heq];simp[tX (qz aK)]
theorem e9.elems{α:Type}{es:Nat}{f:α->V}{s:ad α}{v:V}{m:List (Nat × bU)}{ms:cy}(aw:Own H ms)(k:Nat)(hk:ms[k]? =some m)(hr:ft b es f v s m):elems H es v=some (s.l.map f):=by
 have da:e9 b es v (s.map f) m:=hr;generalize oM:s.map f=gZ at da;clear hr;cases da with
 |nil=>cases s<;>simp_all [ad.map,ad.l,Abs.elems]
 |emp=>cases s<;>simp_all [ad.map,ad.l,Abs.elems]
 |row l ds h hb=>
  have:s.l.map f=ds:=by cases s<;>simp_all [ad.map,ad.l]
  simp[Abs.elems,aw.get k hk,this]
theorem amx{α:Type}{es:Nat}{f:α->V}{s:ad α}{v:V}{m:List (Nat × bU)}{ms:cy}{x:ai}(aw:Own H ms)(k:Nat)(hk:ms[k]? =some m)(hr:ft b es f v s m)(hx:ag x=v):b3 call ag H H.length (.len 1 x)=some (aI s.len,H,H.length):=by
 have da:e9 b es v (s.map f) m:=hr;generalize oM:s.map f=gZ at da;clear hr;show step ag H H.length (.len 1 x)=_;cases da with
 |nil=>cases s<;>simp_all [ad.map,ad.len,ad.l,step]
 |emp=>cases s<;>simp_all [ad.map,ad.len,ad.l,step]
 |row l ds h hb=>
  have:s.l.map f=ds:=by cases s<;>simp_all [ad.map,ad.l]
  subst this;simp[step,hx,aw.get k hk,ad.len]
theorem amy{α:Type}{es bytes:Nat}{f:α->V}{z:List V}{e:α}{n:Int}{s:ad α}{bP aae:IntKind}{d:Option (Nat × Bool)}{g:Option (ai × Bool)}{x y:ai}{Q:bN->Heap->List Bool->Prop}{ms:cy}(hw:ga aq σ g=some true)
  (hs:zO bytes e n=some s) (aw:Own H ms) (aO:lr z=f e) (hx:bn aq σ x=.int bP n) (hy:bn aq σ y=.int aae n)
  (cl:∀H' v' m' mv,ft b es f v' s m'->Own H' (m'::ms)->Op aa b rest (fw aq d v') (fx σ d v') H' (mv::wr) Q):Op aa b (⟨d,.mkSlice es z bytes x y,g⟩::rest) aq σ H wr Q:=by
 intro aC au low h1 h2 ar aR;unfold zO at hs;split at hs
 ·rename_i hc
  cases hs;by_cases h0:n=0
  ·subst h0
   refine j4 (o:=⟨d,.mkSlice es z bytes x y,g⟩) (mv:=false) (v:=.emp) (H1:=H) hw (fun cp=>⟨cp,H.length,cp,?_,lD H⟩) (cl H .emp [] false ?_ (aw.ins 0)) aC au low h1 h2 ar aR
   ·rw[O5];simp[step,hx,hy]
   ·exact .emp
  ·refine j4 (o:=⟨d,.mkSlice es z bytes x y,g⟩) (mv:=true) (v:=.ca H.length es 0 n.toNat n.toNat) (H1:=H++[.row es (List.replicate n.toNat (f e)) false]) hw
    (fun cp=>⟨by simp;omega,H.length,cp,?_,by simp[ei]⟩) (cl _ _ [(H.length,.row es (List.replicate n.toNat (f e)) false)] true ?_ (aw.grow _)) aC au low h1 h2 ar aR
   ·rw[O5];simp only[step,hx,hy,aO]
    rw[if_pos ⟨trivial,hc.1,hc.2⟩,if_neg h0]
   ·rw[if_neg h0]
    have:e9 b es (.ca H.length es 0 (List.replicate n.toNat (f e)).length (List.replicate n.toNat (f e)).length) (.mk (List.replicate n.toNat (f e))) [(H.length,.row es (List.replicate n.toNat (f e)) false)]:=.row _ _ (by simp;omega) aR;simpa[ft,ad.map]using this
 ·cases hs
theorem e9.at{α:Type}{es:Nat}{f:α->V}{s:ad α}{v:V}{m:List (Nat × bU)}{l N:Nat}(hr:ft b es f v s m)(af:v=.ca l es 0 N N):m=[(l,.row es (s.l.map f) false)]/\N=(s.l.map f).length/\b<=l/\s.map f=.mk (s.l.map f):=by
 have da:e9 b es v (s.map f) m:=hr;generalize oM:s.map f=gZ at da;clear hr;cases da with
 |nil=>cases af
 |emp=>cases af
 |row l ds h hb=>
  have:s.l.map f=ds:=by cases s<;>simp_all [ad.map,ad.l]
  cases af;exact⟨by rw[this],by rw[this],hb,by rw[this]⟩
theorem amz{α:Type}{es l N off:Nat}{f:α->V}{s:ad α}{n:Int}{e:α}{v u:V}{m:List (Nat × bU)}{ms:cy}{sh:Option Nat}{x:ai}(k:Nat)(he:bj s.l n=some e)(aw:Own H ms)(hk:ms[k]? =some m)(hr:ft b es f v s m)(af:v=.ca l es 0 N N)(hu:iw (aE (f e)) off sh=some u)(hx:ag x=.gW l es n.toNat off N):
  b3 call ag H H.length (.load sh x)=some (u,H,H.length):=by
 obtain⟨rfl,rfl,-,-⟩:=hr.at af;rw[nY,hx];unfold bj at he;split at he
 ·simp[jR,aw.get k hk,he,hu]
 ·cases he
theorem amA{α:Type}{es l N off cI:Nat}{f:α->V}{s:ad α}{n:Int}{e e':α}{v:V}{m:List (Nat × bU)}{vs:List V}{d:Option (Nat × Bool)}{g:Option (ai × Bool)}{x y:ai}{Q:bN->Heap->List Bool->Prop}{ms:cy}(hw:ga aq σ g=some true)(k:Nat)
  (he:bj s.l n=some e) (aw:Own H ms) (hk:ms[k]? =some m) (hr:ft b es f v s m) (af:v=.ca l es 0 N N) (hx:bn aq σ x=.gW l es n.toNat off N) (hy:aE (bn aq σ y)=vs) (hn:vs.length=cI) (hp:mc vs=true) (k2:xf (f e) off vs=some (f e'))
  (cl:∀H' m',ft b es f v (px s n e') m'->Own H' (ms.set k m')->Op aa b rest (fw aq d .undef) (fx σ d .undef) H' (true::wr) Q):Op aa b (⟨d,.store cI x y,g⟩::rest) aq σ H wr Q:=by
 obtain⟨rfl,rfl,hb,eR⟩:=hr.at af;have a6:=aw.get k hk;have aK:=sc a6;unfold bj at he;split at he
 ·rename_i mY
  have hi:n.toNat<s.l.length:=(e0.1 he).1;have nb:(s.l.map f).set n.toNat (f e')=(px s n e').l.map f:=by simp[px,ad.l,List.map_set]
  have aZ:(px s n e').l.map f≠[]:=by
   have hlen:((px s n e').l.map f).length=s.l.length:=by simp[px,ad.l]
   intro h0;rw[h0]at hlen;simp at hlen;omega
  refine j4 (o:=⟨d,.store cI x y,g⟩) (mv:=true) (H1:=H.set l (.row es ((px s n e').l.map f) false)) hw (fun cp=>⟨by simpa using cp,l,hb,?_,by simp[ei,aK]⟩) (cl _ _ ?_ (aw.put k hk))
  ·simp only[lW,hx,jw,a6,hy]
   rw[if_pos ⟨trivial,trivial,hn,hp⟩];simp[he,k2,nb,tX (qz aK)]
  ·have:=e9.row (b:=b) (es:=es) l ((px s n e').l.map f) aZ hb
   rw[af];have hl:((px s n e').l.map f).length=(s.l.map f).length:=by simp[px,ad.l]
   rw[hl]at this;exact this
 ·cases he
theorem Pm:∀{vs:List V} {H:Heap} {low:Nat},eV H low vs=kT (dQ 16) H low vs
 |[],_,_=>rfl
 |v::vs,H,low=>by
  simp only[eV,kT,fN];cases dQ 16 H low v with
  |none=>rfl
  |some r=>simp only[Pm]
theorem aaf{d:Option (Nat × Bool)}{g:Option (ai × Bool)}{f:ai}{aQ:List ai}{fv v:V}{vs vs':List V}{Q:bN->Heap->List Bool->Prop}{ms gN:cy}(hw:ga aq σ g=some true)(aw:Own H ms)(aO:pz b 16 ms vs vs' gN)
  (hc:∀H',bY aa fv vs' H'=some (v,H',H'.length)) (lu:flat v=true) (ha:aQ.map (bn aq σ)=vs) (ae:bn aq σ f=fv)
  (cl:Op aa b rest (fw aq d v) (fx σ d v) H (false::wr) Q):Op aa b (⟨d,.call false f aQ,g⟩::rest) aq σ H wr Q:=by
 intro aC au low h1 h2 ar aR;obtain⟨H1,bG,ab,h3,b1⟩:=aO H H.length aw aR;refine iU (v:=v) hw ?_ cl aC au low h1 h2 ar aR;subst ha;subst ae;rw[qi,Pm,ab];simp[hc,lu]
theorem amB{d:Option (Nat × Bool)}{g:Option (ai × Bool)}{f:ai}{aQ:List ai}{fv v:V}{vs vs':List V}{Q:bN->Heap->List Bool->Prop}{ms gN:cy}(hw:ga aq σ g=some true)(aw:Own H ms)(aO:pz b 16 ms vs vs' gN)(hlen:∀H low r,kT (dQ 16) H low vs=some r->r.2.1.length=H.length)
  (hc:∀H',bY aa fv vs' H'=some (v,H',H'.length)) (lu:flat v=false) (ha:aQ.map (bn aq σ)=vs) (ae:bn aq σ f=fv)
  (cl:∀H' mv,Own H' gN->Op aa b rest (fw aq d v) (fx σ d v) H' (mv::wr) Q):Op aa b (⟨d,.call false f aQ,g⟩::rest) aq σ H wr Q:=by
 intro aC au low h1 h2 ar aR;obtain⟨H1,bG,ab,h3,b1⟩:=aO H H.length aw aR;have hl:=hlen _ _ _ ab;refine j4 (o:=⟨d,.call false f aQ,g⟩) (v:=v) (H1:=H1) (mv:=ei H H1 (min bG H1.length)) hw (fun hb=>⟨by simp only at hl;omega,min bG H1.length,by simp only at hl;omega,?_,rfl⟩) (cl H1 _ h3) aC au low h1 h2 ar aR;subst ha;subst ae;simp only[];rw[qi,Pm,ab];simp[hc,lu]
end
end Go.Abs
namespace Go.Abs
open Go
@[simp] theorem aAm (l : List V) : aE (.agg l) = l := rfl
@[simp] theorem aAn : aE .bX = [.bX] := rfl
@[simp] theorem aAo : aE .emp = [.emp] := rfl
@[simp] theorem aAp (e : Nat) (l : List V) : aE (.list e l) = [.list e l] := rfl
@[simp] theorem aAq (e l : Nat) : aE (.ptr e l) = [.ptr e l] := rfl
@[simp] theorem aAr (e : Nat) : aE (.map e) = [.map e] := rfl
@[simp] theorem aAs : aE .jd = [.jd] := rfl
abbrev At (σ:bN)(ts:List Nat)(vs:List V):Prop:=ts.map σ=vs
def Jy:bN->List Nat->List V->bN
 |σ,t::ts,v::vs=>Jy (up σ t v) ts vs
 |σ,_,_=>σ
theorem Fe:∀{ts:List Nat} {vs:List V} {σ:bN},At σ ts vs->Jy σ ts vs=σ
 |[],[],_,_=>rfl
 |[],_::_,_,h=>by cases h
 | _::_,[],_,h=>by cases h
 |t::ts,v::vs,σ,h=>by
  simp only[At,de,xa]at h;simp only[Jy,amk h.1];exact Fe h.2
section
variable{aa:Nat->Option bV}{b:Nat}{aq σ:bN}{H:Heap}{wr:List Bool}{rest:List bI}{call:cP}{ag:ai->V}{d:Option (Nat × Bool)}{op:cN}{t:ai}{β w:Bool}
theorem dK{c:cm}{Q:X->bN->Heap->Prop}{ts:List Nat}{vs:List V}(h:At σ ts vs)(k:e8 aa b c (Jy σ ts vs) H Q):e8 aa b c σ H Q:=by rw[Fe h]at k;exact k
theorem pA{ops:List bI}{c:cm}{Q:X->bN->Heap->Prop}(h:Op aa b ops n3 σ H [] (fun aS H' _=>e8 aa b c aS H' Q)):e8 aa b (.seq (.region ops none) c) σ H Q:=qk (uv h)
variable{Q:bN->Heap->List Bool->Prop}
theorem pp (v:V)(k:Op aa b rest (fw aq d v) (fx σ d v) H (false::wr) Q)(h:b3 (bY aa) (bn aq σ) H H.length op=some (v,H,H.length):=by exact rfl):Op aa b (⟨d,op,none⟩::rest) aq σ H wr Q:=iU rfl h k
theorem ph (v:V)(h:b3 (bY aa) (bn aq σ) H H.length op=some (v,H,H.length))(k:Op aa b rest (fw aq d v) (fx σ d v) H (false::wr) Q):Op aa b (⟨d,op,none⟩::rest) aq σ H wr Q:=iU rfl h k
theorem la (v:V)(c:β=w)(k:Op aa b rest (fw aq d v) (fx σ d v) H (false::wr) Q)(h:b3 (bY aa) (bn aq σ) H H.length op=some (v,H,H.length):=by exact rfl)(ht:bn aq σ t=.bool β:=by exact rfl):Op aa b (⟨d,op,some (t,w)⟩::rest) aq σ H wr Q:=iU (jl ht c) h k
theorem qm (c:β=false)(k:Op aa b rest (fw aq d (.aU [])) (fx σ d (.aU [])) H (false::wr) Q)(ht:bn aq σ t=.bool β:=by exact rfl):Op aa b (⟨d,op,some (t,true)⟩::rest) aq σ H wr Q:=O8 (Js ht c) k
theorem cr (c:β=true)(k:Op aa b rest (fw aq d (.aU [])) (fx σ d (.aU [])) H (false::wr) Q)(ht:bn aq σ t=.bool β:=by exact rfl):Op aa b (⟨d,op,some (t,false)⟩::rest) aq σ H wr Q:=O8 (Jt ht c) k
end
theorem Ff:∀{vs:List V} {n:Nat} {H:Heap} {low:Nat},cg vs=true->kT (dQ n) H low vs=some (vs,H,low)
 |[],_,_,_,_=>rfl
 |v::r,n,H,low,h=>by
  simp only[cg,cn]at h;have h1:dQ n H low v=some (v,H,low):=by cases n<;>simp[dQ,h.1]
  simp only[kT,h1,Ff h.2]
section
variable{aa:Nat->Option bV}{b:Nat}{σ:bN}{H:Heap}
theorem eE{S O:Type}{c:cm}{Q:X->bN->Heap->Prop}(f:S->Option (cU S O))(I:S->bN->Heap->Prop)(P:O->X->bN->Heap->Prop){s:S}{o:O}(h:bZ f s=some o)(bk:I s σ H)
 (round:∀s σ H r,I s σ H->f s=some r->e8 aa b c σ H fun x aS H'=>match r with
   | .next ao=>x=.normal/\I ao aS H'
   | .out o=>x≠ .normal/\P o x aS H') (k:∀x aS H',P o x aS H'->Q x aS H'):e8 aa b (.loop c) σ H Q:=Pg (P o) (amn f I P round h bk) k
end
end Go.Abs
namespace Go.Abs
open Go
inductive ij (call:cP) (ms:cy):List bI->bN->bN->bN->bN->Prop
 |nil {aq σ:bN}:ij call ms [] aq σ aq σ
 |step {o:bI} {rest:List bI} {aq σ aW aS:bN} {v:V} (hw:ga aq σ o.guard=some true) (h:∀H,Own H ms->b3 call (bn aq σ) H H.length o.op=some (v,H,H.length)) (k:ij call ms rest (fw aq o.dst v) (fx σ o.dst v) aW aS):ij call ms (o::rest) aq σ aW aS
 |skip {o:bI} {rest:List bI} {aq σ aW aS:bN} (hw:ga aq σ o.guard=some false) (k:ij call ms rest (fw aq o.dst (.aU [])) (fx σ o.dst (.aU [])) aW aS):ij call ms (o::rest) aq σ aW aS
section
variable{call:cP}{ms:cy}{d:Option (Nat × Bool)}{op:cN}{rest:List bI}{aq σ aW aS:bN}{t:ai}{β w:Bool}
theorem ij.pp (v:V)(k:ij call ms rest (fw aq d v) (fx σ d v) aW aS)(h:∀H,Own H ms->b3 call (bn aq σ) H H.length op=some (v,H,H.length):=by exact fun _ _=>rfl):ij call ms (⟨d,op,none⟩::rest) aq σ aW aS:=.step rfl h k
theorem ij.ph (v:V)(h:∀H,Own H ms->b3 call (bn aq σ) H H.length op=some (v,H,H.length))(k:ij call ms rest (fw aq d v) (fx σ d v) aW aS):ij call ms (⟨d,op,none⟩::rest) aq σ aW aS:=.step rfl h k
theorem ij.la (v:V)(c:β=w)(h:∀H,Own H ms->b3 call (bn aq σ) H H.length op=some (v,H,H.length))(k:ij call ms rest (fw aq d v) (fx σ d v) aW aS)(ht:bn aq σ t=.bool β:=by exact rfl):ij call ms (⟨d,op,some (t,w)⟩::rest) aq σ aW aS:=.step (jl ht c) h k
theorem ij.qm (c:β=false)(k:ij call ms rest (fw aq d (.aU [])) (fx σ d (.aU [])) aW aS)(ht:bn aq σ t=.bool β:=by exact rfl):ij call ms (⟨d,op,some (t,true)⟩::rest) aq σ aW aS:=.skip (Js ht c) k
theorem ij.cr (c:β=true)(k:ij call ms rest (fw aq d (.aU [])) (fx σ d (.aU [])) aW aS)(ht:bn aq σ t=.bool β:=by exact rfl):ij call ms (⟨d,op,some (t,false)⟩::rest) aq σ aW aS:=.skip (Jt ht c) k
end
theorem Pn (v:V):dL v v=true:=by
 have key:(∀v,dL v v=true)/\(∀vs,nC vs vs=true):=by
  refine⟨fun v=> ?_,fun vs=> ?_⟩
  ·exact V.rec (motive_1:=fun v=>dL v v=true) (motive_2:=fun vs=>nC vs vs=true)
    (by simp[dL]) (by simp[dL]) (by simp[dL]) rfl rfl (by intro e ds h;simp[dL,h]) (by intro vs h;simpa[dL]using h) (by intro vs h;simpa[dL]using h) rfl (by simp[dL]) (by simp[dL])
    (by intro vs f h;simp[dL,h]) (by simp[dL]) rfl (by simp[dL]) rfl (by intro i a b h1 h2;simp[dL,h1,h2]) (by simp[dL]) rfl (by intro t v h;simp[dL,h]) rfl rfl (by intro a r h1 h2;simp[nC,h1,h2]) v
  ·exact V.rec_1 (motive_1:=fun v=>dL v v=true) (motive_2:=fun vs=>nC vs vs=true)
    (by simp[dL]) (by simp[dL]) (by simp[dL]) rfl rfl (by intro e ds h;simp[dL,h]) (by intro vs h;simpa[dL]using h) (by intro vs h;simpa[dL]using h) rfl (by simp[dL]) (by simp[dL])
    (by intro vs f h;simp[dL,h]) (by simp[dL]) rfl (by simp[dL]) rfl (by intro i a b h1 h2;simp[dL,h1,h2]) (by simp[dL]) rfl (by intro t v h;simp[dL,h]) rfl rfl (by intro a r h1 h2;simp[nC,h1,h2]) vs
 exact key.1 v
theorem Fg{call:cP}:∀{ops:List bI} {st aV:av} {wr fh:List Bool},cY call ops st wr=some (aV,fh)->∃cb,fm call ops st=some cb
 |[],st,_,_,_,_=>⟨[st],rfl⟩
 |o::r,st,aV,wr,fh,h=>by
  simp only[cY]at h;simp only[fm];split at h
  ·split at h
   ·obtain⟨cb,e⟩:=Fg h
    exact⟨_,by rw[e];rfl⟩
   ·cases h
  ·obtain⟨cb,e⟩:=Fg h
   exact⟨_,by rw[e];rfl⟩
  ·cases h
theorem ij.run{call:cP}{ms:cy}:∀{A:List bI} {aq σ aW aS:bN},ij call ms A aq σ aW aS->∀{aC au:Env} {H:Heap} {low b:Nat} {wr:List Bool} (B:List bI),Fits aC aq->Fits au σ->Own H ms->b<=low->b<=H.length->
  ∃iT di low',Fits iT aW/\Fits di aS/\b<=low'/\cY call (A++B) ⟨aC,au,H,low,none⟩ wr=cY call B ⟨iT,di,H,low',none⟩ (List.replicate A.length false++wr)/\
   ∀cb,fm call (A++B) ⟨aC,au,H,low,none⟩=some cb->∃kl lH,cb=kl++lH/\kl.length=A.length/\fm call B ⟨iT,di,H,low',none⟩=some lH/\
    ∀H',Own H' ms->∀p∈A.zip kl,jx call (p.1,p.2,H')=true
 |[],aq,σ,_,_,.nil,aC,au,H,low,b,wr,B,h1,h2,_,hb,_=>⟨aC,au,low,h1,h2,hb,rfl,fun cb h=>⟨[],cb,rfl,rfl,h,fun _ _ p hp=>by cases hp⟩⟩
 |o::A,aq,σ,aW,aS,.step (v:=v) hw h k,aC,au,H,low,b,wr,B,h1,h2,aw,hb,fu=>by
  obtain⟨nh,k9,ab,aj,bC⟩:=wc h1 h2 H (min low H.length) o.dst v;obtain⟨iT,di,low',f1,f2,f0,f3,f4⟩:=k.run (b:=b) (low:=min low H.length) (wr:=false::wr) B aj bC aw (by omega) fu;have jm:=hw;rw[<-zL h1 h2]at jm;have hs:=h H aw;rw[<-tp h1 h2]at hs;refine⟨iT,di,low',f1,f2,f0,?_,fun cb ht=> ?_⟩
  ·simp only[lN,cY,jm,hs,lD]
   rw[ab,f3];simp only[fl,List.replicate_succ'];rw[kr];rfl
  ·simp only[lN,fm,jm,hs]at ht
   rw[ab]at ht;obtain⟨nR,ed,rfl⟩:=cj.1 ht;obtain⟨kl,lH,rfl,g1,g2,g3⟩:=f4 nR ed;refine⟨_::kl,lH,rfl,by simp[g1],g2,fun H' lI p hp=> ?_⟩;rw[DG]at hp;rcases dp.1 hp with rfl|hp
   ·have vY:=h H' lI
    rw[<-tp h1 h2]at vY;simp only[jx,jm,hs,vY,lD,xc,Bk,Pn]
   ·exact g3 H' lI p hp
 |o::A,aq,σ,aW,aS,.skip hw k,aC,au,H,low,b,wr,B,h1,h2,aw,hb,fu=>by
  obtain⟨nh,k9,ab,aj,bC⟩:=wc h1 h2 H low o.dst (.aU []);obtain⟨iT,di,low',f1,f2,f0,f3,f4⟩:=k.run (b:=b) (wr:=false::wr) B aj bC aw hb fu;have jm:=hw;rw[<-zL h1 h2]at jm;refine⟨iT,di,low',f1,f2,f0,?_,fun cb ht=> ?_⟩
  ·simp only[lN,cY,jm]
   rw[ab,f3];simp only[fl,List.replicate_succ'];rw[kr];rfl
  ·simp only[lN,fm,jm]at ht
   rw[ab]at ht;obtain⟨nR,ed,rfl⟩:=cj.1 ht;obtain⟨kl,lH,rfl,g1,g2,g3⟩:=f4 nR ed;refine⟨_::kl,lH,rfl,by simp[g1],g2,fun H' lI p hp=> ?_⟩;rw[DG]at hp;rcases dp.1 hp with rfl|hp
   ·simp only[jx,jm]
   ·exact g3 H' lI p hp
theorem Own.more{H:Heap}{ms:cy}(h:Own H ms)(X:Heap):Own (H++X) ms:=
 ⟨fun m hm p hp=>by rw[fB (h.lt hm hp)];exact h.1 m hm p hp,h.2⟩
theorem Jz (aC au:Env)(H:Heap)(ro:Option Nat)(d:Option (Nat × Bool))(v:V):∃nh k9,∀l:Nat,av.put ⟨aC,au,H,l,ro⟩ d v=⟨nh,k9,H,l,ro⟩:=by
 match d with
 |none=>exact⟨aC,au,fun _=>rfl⟩
 |some (t,true)=>exact⟨aC,dw au t v,fun _=>rfl⟩
 |some (t,false)=>exact⟨(t,v)::aC,au,fun _=>rfl⟩
theorem Po{call:cP}(hc:mu call):∀{B:List bI} {st:av} {cb:List av},st.low<=st.H.length->fm call B st=some cb->∀T∈cb,T.low<=st.low
 |[],st,cb,hl,ht,T,hT=>by
  simp only[fm,aA]at ht;subst ht;simp only[dp,rE,or_false]at hT;subst hT;exact aF _
 |o::r,st,cb,hl,ht,T,hT=>by
  simp only[fm]at ht;split at ht
  ·split at ht
   ·rename_i v H1 bG hs
    obtain⟨t0,h0,rfl⟩:=cj.1 ht;rcases dp.1 hT with rfl|hT
    ·exact aF _
    ·have ae:=zb hc (aF _) hs
     have hp:=kD {st with H:=H1,low:=min st.low bG} o.dst v;have:=Po hc (by rw[hp.1,hp.2.1];have:=ae.len;show min st.low bG<=H1.length;omega) h0 T hT;rw[hp.2.1]at this;exact cM this (jO _ _)
   ·cases ht
  ·obtain⟨t0,h0,rfl⟩:=cj.1 ht
   rcases dp.1 hT with rfl|hT
   ·exact aF _
   ·have hp:=kD st o.dst (.aU [])
    have:=Po hc (by rw[hp.1,hp.2.1];exact hl) h0 T hT;rw[hp.2.1]at this;exact this
  ·cases ht
theorem Pp{call:cP}:∀{B:List bI} {st fin:av} {wr fh:List Bool},cY call B st wr=some (fin,fh)->fin.low<=st.low
 |[],st,fin,wr,fh,h=>by
  simp only[cY,aA,bq]at h;rw[h.1];exact aF _
 |o::r,st,fin,wr,fh,h=>by
  simp only[cY]at h;split at h
  ·split at h
   ·rename_i v H1 bG hs
    have:=Pp h;rw[(kD {st with H:=H1,low:=min st.low bG} o.dst v).2.1]at this;exact cM this (jO _ _)
   ·cases h
  ·have:=Pp h
   rw[(kD st o.dst (.aU [])).2.1]at this;exact this
  ·cases h
theorem Pq{call:cP}:∀{B:List bI} {aC au:Env} {H:Heap} {L:Nat} {ro:Option Nat} {wr fh:List Bool} {fin:av} (hS:Nat),cY call B ⟨aC,au,H,L,ro⟩ wr=some (fin,fh)->
  ∃Cr,cY call B ⟨aC,au,H,hS,ro⟩ wr=some ({fin with low:=Cr},fh)/\min hS fin.low<=Cr
 |[],aC,au,H,L,ro,wr,fh,fin,hS,h=>by
  simp only[cY,aA,bq]at h;obtain⟨rfl,rfl⟩:=h;exact⟨hS,rfl,jO _ _⟩
 |o::r,aC,au,H,L,ro,wr,fh,fin,hS,h=>by
  simp only[cY]at h⊢;split at h
  ·split at h
   ·rename_i v H1 bG hs
    have k2:=Jz aC au H1 ro o.dst v;obtain⟨nh,k9,hp⟩:=k2;rw[hp]at h⊢;obtain⟨Cr,e,hl⟩:=Pq (min hS bG) h;have hx:=Pp h;exact⟨Cr,e,by simp only at hx;omega⟩
   ·cases h
  ·have k2:=Jz aC au H ro o.dst (.aU [])
   obtain⟨nh,k9,hp⟩:=k2;rw[hp]at h⊢;exact Pq hS h
  ·cases h
theorem Pr{call:cP}:∀{B:List bI} {aC au:Env} {H:Heap} {L:Nat} {ro:Option Nat} {cb:List av} (hS:Nat),fm call B ⟨aC,au,H,L,ro⟩=some cb->
  ∃nR,fm call B ⟨aC,au,H,hS,ro⟩=some nR/\nR.map (·.H)=cb.map (·.H)
 |[],aC,au,H,L,ro,cb,hS,h=>by
  simp only[fm,aA]at h;subst h;exact⟨_,rfl,rfl⟩
 |o::r,aC,au,H,L,ro,cb,hS,h=>by
  simp only[fm]at h⊢;split at h
  ·split at h
   ·rename_i v H1 bG hs
    have k2:=Jz aC au H1 ro o.dst v;obtain⟨nh,k9,hp⟩:=k2;rw[hp]at h⊢;obtain⟨t0,h0,rfl⟩:=cj.1 h;obtain⟨t1,ab,aj⟩:=Pr (min hS bG) h0;exact⟨_,by rw[ab];rfl,by simp[aj]⟩
   ·cases h
  ·have k2:=Jz aC au H ro o.dst (.aU [])
   obtain⟨nh,k9,hp⟩:=k2;rw[hp]at h⊢;obtain⟨t0,h0,rfl⟩:=cj.1 h;obtain⟨t1,ab,aj⟩:=Pr hS h0;exact⟨_,by rw[ab];rfl,by simp[aj]⟩
  ·cases h
theorem Ps{call:cP}(hc:mu call):∀{B:List bI} {st fin:av} {wr fh:List Bool} {cb:List av},st.low<=st.H.length->cY call B st wr=some (fin,fh)->fm call B st=some cb->∀T∈cb,fin.low<=T.low/\∀l,l<T.low->T.H[l]? =st.H[l]?
 |[],st,fin,wr,fh,cb,hl,h,ht,T,hT=>by
  simp only[cY,aA,bq]at h;simp only[fm,aA]at ht;obtain⟨rfl,-⟩:=h;subst ht;simp only[dp,rE,or_false]at hT;subst hT;exact⟨aF _,fun _ _=>rfl⟩
 |o::r,st,fin,wr,fh,cb,hl,h,ht,T,hT=>by
  have iC:=(pk hc _ _ _ _ _ hl h).1.low;simp only[cY]at h;simp only[fm]at ht;split at h
  ·rename_i hw
   split at h
   ·rename_i v H1 bG hs
    rw[hw]at ht;simp only[hs]at ht;obtain⟨t0,h0,rfl⟩:=cj.1 ht;rcases dp.1 hT with rfl|hT
    ·exact⟨iC,fun _ _=>rfl⟩
    ·have ae:=zb hc (aF _) hs
     have hp:=kD {st with H:=H1,low:=min st.low bG} o.dst v
     have zn:(({st with H:=H1,low:=min st.low bG}:av).put o.dst v).low<=(({st with H:=H1,low:=min st.low bG}:av).put o.dst v).H.length:=by
      rw[hp.1,hp.2.1];have:=ae.len;show min st.low bG<=H1.length;omega
     obtain⟨q1,q2⟩:=Ps hc zn h h0 T hT;refine⟨q1,fun l aK=> ?_⟩
     have aag:T.low<=min st.low bG:=by
      have:=Po hc zn h0 T hT;rw[hp.2.1]at this;exact this
     rw[q2 l aK,hp.1];exact ae.same l (by omega)
   ·cases h
  ·rename_i hw
   rw[hw]at ht;simp only at ht;obtain⟨t0,h0,rfl⟩:=cj.1 ht;rcases dp.1 hT with rfl|hT
   ·exact⟨iC,fun _ _=>rfl⟩
   ·have hp:=kD st o.dst (.aU [])
    obtain⟨q1,q2⟩:=Ps hc (by rw[hp.1,hp.2.1];exact hl) h h0 T hT;refine⟨q1,fun l aK=> ?_⟩;rw[q2 l aK,hp.1]
  ·cases h
theorem aah{α β:Type}:∀(n:Nat) (l:List α) (r:List β),(l.zip r).take n=(l.take n).zip (r.take n)
 |0,_,_=>by simp
 |n+1,[],_=>by simp
 |n+1,_::_,[]=>by simp
 |n+1,a::l,b::r=>by simp[aah n l r]
section
variable{aa:Nat->Option bV}{b:Nat}{σ eF cL:bN}{H:Heap}{Q:X->bN->Heap->Prop}{ms:cy}
theorem Pt (aa:Nat->Option bV):mu (bY aa):=fun f args H v H' low' h=>by
 obtain⟨n,hn⟩:=vb.1 h;exact Iy aa n f args H v H' low' hn
theorem aai{ops:List bI}{er:List Nat}(n:Nat)(aw:Own H ms)(hn:kV ops=n)(hA:ij (bY aa) ms (ops.take n) n3 σ eF cL)
  (cQ:b<=H.length->Op aa H.length (ops.drop n) eF cL H (List.replicate n false) (fun aS H' wr=>xi er ops wr=true/\Q .normal aS H')):e8 aa b (.region ops (some er)) σ H Q:=fun au low h1 h2 ar=>by
 have amC:n<=ops.length:=by rw[<-hn];exact Oa _ _
 have hlen:(ops.take n).length=n:=by rw[tV];omega
 have qc:ops.take n++ops.drop n=ops:=Md n ops;obtain⟨iT,di,low',f1,f2,f0,f3,f4⟩:=hA.run (b:=b) (wr:=[]) (ops.drop n) tn h1 aw h2 ar;rw[qc,hlen,pP]at f3;rw[qc]at f4;obtain⟨aaj,Cs,H2,dB,OP,jH,ab,aj,bC,cu,dv,gY⟩:=cQ ar iT di H.length f1 f2 (aF _) (aF _);obtain⟨Cr,g1,g2⟩:=Pq low' ab;obtain⟨amD,aak⟩:=Fg ab;have rZ:=Ps (Pt aa) (aF _) ab aak;rw[<-f3]at g1;obtain⟨cb,po⟩:=Fg g1;obtain⟨kl,lH,rfl,b6,dI,kf⟩:=f4 cb po;obtain⟨aAt,q1,q2⟩:=Pr low' aak;rw[dI]at q1;cases q1
 have Pu:∀T∈lH,Own T.H ms:=fun T hT=>by
  have hm:T.H∈amD.map (·.H):=by rw[<-q2];exact rA hT
  obtain⟨amE,vC,e⟩:=dX.1 hm;rw[<-e];obtain⟨bB,b4⟩:=rZ amE vC;refine⟨fun m hm p hp=> ?_,aw.2⟩;have aK:=aw.lt hm hp;rw[b4 p.1 (by simp only at bB;omega)];exact aw.1 m hm p hp
 have th:o2 (bY aa) er ops OP ⟨[],au,H,low,none⟩=true:=by
  unfold o2;rw[po];simp only[dv,fF]
  have eP:(Bp ops (kl++lH)).all (jx (bY aa))=true:=by
   unfold Bp;rw[eU];intro q bg;simp only[DI,HJ]at bg;obtain⟨T,hT,⟨o,s⟩,eQ,Pv⟩:=bg
   have aO:(ops.zip (kl++lH)).take (kV ops)=(ops.take n).zip kl:=by
    rw[hn,aah,List.take_left' (by rw[b6,hlen])]
   rw[aO]at eQ
   have amF:T∈lH:=by
    have hge:kl.length<=pV ops:=by rw[b6,hlen,<-hn];exact Vf ops
    rw[Mo,u1 hge,iM]at hT;exact HF hT
   split at Pv
   ·cases Pv
    exact kf _ (Pu T amF) _ eQ
   ·cases Pv
  rw[eP];simp
 refine⟨.normal,Cs,H2,Cr,jH,by rw[kW];simp only[g1,th,Bool.or_true,if_true,av.fo],aj,?_,cM ar cu,gY⟩;simp only at g2;have:=cM ar bC;omega
end
def q0{A R:Type}(F:(A->Option R)->A->Option R):Nat->A->Option R
 |0,_=>none
 |n+1,a=>F (q0 F n) a
open Classical in
noncomputable def zR{A R:Type}(F:(A->Option R)->A->Option R)(a:A):Option R:=
 if h:∃n r,q0 F n a=some r then some h.choose_spec.choose else none
theorem amG{A R:Type}{F:(A->Option R)->A->Option R}{a:A}{r:R}{n:Nat}(h:q0 F n a=some r)(hu:∀m mS,q0 F m a=some mS->mS=r):zR F a=some r:=by
 unfold zR;rw[dif_pos ⟨n,r,h⟩];have hx:∃n r,q0 F n a=some r:=⟨n,r,h⟩;rw[hu _ _ hx.choose_spec.choose_spec]
end Go.Abs
namespace Go.Abs
open Go
variable{aa:Nat->Option bV}
def se (n es bytes:Nat)(z:List V):jv:=⟨n,.seq (.region [⟨some (2,true),.mv (.const .bX),none⟩] none)
 (.seq (.seq (.region [⟨some (3,false),.mv (.var 0),none⟩,⟨some (4,true),.rF 1 false (.tmp 3) (.const .bX),none⟩] none)
   (.cond (.var 4) (.seq (.region [⟨some (2,true),.mv (.const .bX),none⟩] none) .ret) .skip))
   (.seq (.region [⟨some (5,false),.lit es z 0 [] true,none⟩,⟨some (6,false),.mv (.var 0),none⟩,⟨some (7,false),.append es bytes (.tmp 5) (.tmp 6),none⟩,⟨some (2,true),.mv (.tmp 7),none⟩] none) .ret)),[.tmp 2],true⟩
def xO{α:Type}(bytes:Nat):ad α->Option (ad α)
 | .nil=>some .nil
 |x=>gn bytes .emp x
theorem amH{i n es bytes:Nat}{z:List V}(cR:aa i=some (.code (se n es bytes z)))(hn:1<=n)(H:Heap):bY aa (.fn i [] []) [.bX] H=some (.bX,H,H.length):=by
 rw[ou,cR];simp[iP,se,hn,iy,kW,mg,nE,nD,cY,b3,step,gu,av.put,ai.ag,fW,dw,bA,gH,ke,finish,fN,dQ,old,ei,qD]
theorem amI{i n es bytes:Nat}{z:List V}(cR:aa i=some (.code (se n es bytes z)))(hn:1<=n)(H:Heap):bY aa (.fn i [] []) [.emp] H=some (.emp,H,H.length):=by
 rw[ou,cR];simp[iP,se,hn,iy,kW,mg,nE,nD,cY,b3,step,gu,av.put,ai.ag,fW,dw,bA,gH,ke,finish,fN,dQ,eV,pT,cg,elems,old,ei,qD]
theorem amJ{i n es bytes:Nat}{z l:List V}(cR:aa i=some (.code (se n es bytes z)))(hn:1<=n)(hp:cg l=true)(hc:bM (l.flatMap aE)=true)(hl:l≠[])(hb:l.length*(bytes+1)<=2^40)(H:Heap):
  bY aa (.fn i [] []) [.list es l] H=some (.ca H.length es 0 l.length l.length,H++[.row es l false],H.length):=by
 have ho:olds H.length l=true:=Co hp;rw[ou,cR];simp[iP,se,hn,iy,kW,mg,nE,nD,cY,b3,step,gu,av.put,ai.ag,fW,dw,bA,gH,ke,finish,fN,dQ,eV,pT,cg,elems,old,ei,qD,uw hp,hl,hc,hb,ho]
theorem amK{i n es bytes:Nat}{z:List V}(cR:aa i=some (.code (se n es bytes z)))(hn:1<=n)(H:Heap):
  bY aa (.fn i [] []) [.list es []] H=some (.emp,H,H.length):=by
 rw[ou,cR];simp[iP,se,hn,iy,kW,mg,nE,nD,cY,b3,step,gu,av.put,ai.ag,fW,dw,bA,gH,ke,finish,fN,dQ,eV,pT,cg,elems,old,ei,qD]
section
variable{b:Nat}{aq σ:bN}{H:Heap}{wr:List Bool}{rest:List bI}
theorem aal{α:Type}{i n es bytes:Nat}{f:α->V}{z:List V}{s y:ad α}{kH x:ai}{ms:cy}
  (cR:aa i=some (.code (se n es bytes z))) (hn:1<=n) (hs:xO bytes s=some y) (aw:Own H ms) (ae:bn aq σ kH=.fn i [] []) (hx:bn aq σ x=bb es f s) (hp:∀a,bx (f a)=true) (hc:∀a,bM (aE (f a))=true) (hb:b<=H.length):
  ∃v H1 m',b3 (bY aa) (bn aq σ) H H.length (.call true kH [x])=some (v,H1,H.length)/\ft b es f v y m'/\Own H1 (m'::ms)/\H.length<=H1.length:=by
 have key:∀v,bY aa (.fn i [] []) [bb es f s] H=some (v,H,H.length)->ft b es f v y []->∃v H1 m',b3 (bY aa) (bn aq σ) H H.length (.call true kH [x])=some (v,H1,H.length)/\ft b es f v y m'/\Own H1 (m'::ms)/\H.length<=H1.length:=fun v fe hr=>
  ⟨v,H,[],by rw[ng];simp[ae,hx,fe],hr,aw.ins 0,aF _⟩
 cases s with
 |nil=>cases hs;exact key _ (amH cR hn H) .nil
 |emp=>cases hs;exact key _ (amI cR hn H) .emp
 |mk l=>
  have hs:gn bytes .emp (ad.mk l)=some y:=hs;unfold gn at hs;by_cases hl:l=[]
  ·subst hl
   rw[if_pos (show(ad.mk ([]:List α)).l=[]from rfl)]at hs;cases hs;exact key _ (amK cR hn H) .emp
  ·rw[if_neg (show ¬(ad.mk l).l=[]from hl)]at hs
   split at hs
   ·rename_i cp
    cases hs;have fe:=amJ cR hn (tq hp l) (wi hc l) (by simpa using hl) (by simpa[ad.l]using cp) H;refine⟨.ca H.length es 0 (l.map f).length (l.map f).length,H++[.row es (l.map f) false],[(H.length,.row es (l.map f) false)],?_,.row _ _ (by simpa using hl) hb,aw.grow _,by simp⟩;rw[ng];simp only[de,iO,ae,hx,bb,fe,sH]
   ·cases hs
theorem amL{α:Type}{i n es bytes:Nat}{f:α->V}{z:List V}{s y:ad α}{d:Option (Nat × Bool)}{g:Option (ai × Bool)}{kH x:ai}{Q:bN->Heap->List Bool->Prop}{ms:cy}(hw:ga aq σ g=some true)
  (cR:aa i=some (.code (se n es bytes z))) (hn:1<=n) (hs:xO bytes s=some y) (aw:Own H ms) (ae:bn aq σ kH=.fn i [] []) (hx:bn aq σ x=bb es f s) (hp:∀a,bx (f a)=true) (hc:∀a,bM (aE (f a))=true)
  (cl:∀H' v' m' mv,ft b es f v' y m'->Own H' (m'::ms)->Op aa b rest (fw aq d v') (fx σ d v') H' (mv::wr) Q):Op aa b (⟨d,.call true kH [x],g⟩::rest) aq σ H wr Q:=fun aC au low h1 h2 ar aR=>by
 obtain⟨v,H1,m',ab,aj,bC,cu⟩:=aal cR hn hs aw ae hx hp hc aR;exact j4 (o:=⟨d,.call true kH [x],g⟩) hw (fun hb=>⟨cM hb cu,H.length,hb,ab,rfl⟩) (cl H1 v m' _ aj bC) aC au low h1 h2 ar aR
end
section
variable{b:Nat}{aq σ:bN}{H:Heap}{wr:List Bool}{rest:List bI}
theorem amM{es:Nat}{z:List V}{x:ai}{v v':V}{d:Option (Nat × Bool)}{g:Option (ai × Bool)}{ms gN:cy}{Q:bN->Heap->List Bool->Prop}(hw:ga aq σ g=some true)(aw:Own H ms)(aO:lG b 16 ms v v' gN)(hx:bn aq σ x=v)
  (hp:bx v'=true) (hc:(aE v').length=es/\bM (aE v')=true) (cl:∀H' mv,Own H' gN->Op aa b rest (fw aq d (.list es [v'])) (fx σ d (.list es [v'])) H' (mv::wr) Q):Op aa b (⟨d,.lit es z 1 [(0,x)] true,g⟩::rest) aq σ H wr Q:=fun aC au low h1 h2 ar aR=>by
 obtain⟨H1,bG,ab,h3,b1⟩:=aO H H.length aw aR;have eN:fN H H.length v=some (v',H1,bG):=ab;have hl:=(BW eN).2;have ae:=Pj (es:=es) (z:=lr z) [v'] [] (fun w hw=>by rw[yA]at hw;subst hw;exact hc);refine j4 (o:=⟨d,.lit es z 1 [(0,x)] true,g⟩) (v:=.list es [v']) (H1:=H1) (mv:=ei H H1 bG) hw (fun hb=>⟨by omega,bG,b1,?_,rfl⟩) (cl H1 _ h3) aC au low h1 h2 ar aR;rw[I6];simp only[step,de,iO,hx,eV,eN,DG,List.zip_nil_right];simp only[iM,mQ,List.length_singleton,List.range'_one,DG,List.zip_nil_right]at ae;simp only[ae,cg,hp,Bl,if_true,Nat.one_ne_zero,if_false]
end
end Go.Abs
set_option maxHeartbeats 2000000
namespace Go.Abs.bs
open Go Go.Abs
structure gi where
 Table:Int
 iF:Int
 c5:Int
 deriving Inhabited
def jn (x:gi):V:=.agg [aI x.Table,aI x.iF,aI x.c5]
@[simp] theorem amN (x : gi) : bx (jn x) = true := by simp [jn, bx, cg]
@[simp] theorem amO (x : gi) : bM (aE (jn x)) = true := by simp [jn, aE, bM]
structure Range where
 lb:Int
 lf:Int
 deriving Inhabited
def q3 (x:Range):V:=.agg [aI x.lb,aI x.lf]
@[simp] theorem amP (x : Range) : bx (q3 x) = true := by simp [q3, bx, cg]
@[simp] theorem amQ (x : Range) : bM (aE (q3 x)) = true := by simp [q3, aE, bM]
structure Table where
 Name:cf
 Kind:Int
 bR:(ad Int)
 Range:Range
 dc:Int
 deriving Inhabited
def lJ (x:Table):V:=.agg [.str x.Name,aI x.Kind,bb 1 aI x.bR,aI x.Range.lb,aI x.Range.lf,aI x.dc]
@[simp] theorem amR (x : Table) : bx (lJ x) = true := by simp [lJ, bx, cg]
@[simp] theorem amS (x : Table) : bM (aE (lJ x)) = true := by simp [lJ, aE, bM]
structure Term where
 Cell:Int
 dA:Int
 deriving Inhabited
def oN (x:Term):V:=.agg [aI x.Cell,aI x.dA]
@[simp] theorem amT (x : Term) : bx (oN x) = true := by simp [oN, bx, cg]
@[simp] theorem amU (x : Term) : bM (aE (oN x)) = true := by simp [oN, aE, bM]
structure Row where
 cC:(ad Term)
 ni:Int
 deriving Inhabited
def ux (x:Row):V:=.agg [bb 2 oN x.cC,aI x.ni]
@[simp] theorem amV (x : Row) : bx (ux x) = true := by simp [ux, bx, cg]
@[simp] theorem amW (x : Row) : bM (aE (ux x)) = true := by simp [ux, aE, bM]
structure Constraint where
 Kind:Int
 zS:Int
 Row:Row
 dc:Int
 fL:Int
 deriving Inhabited
def sf (x:Constraint):V:=.agg [aI x.Kind,aI x.zS,bb 2 oN x.Row.cC,aI x.Row.ni,aI x.dc,aI x.fL]
@[simp] theorem amX (x : Constraint) : bx (sf x) = true := by simp [sf, bx, cg]
@[simp] theorem amY (x : Constraint) : bM (aE (sf x)) = true := by simp [sf, aE, bM]
structure et where
 Name:cf
 Ordered:Bool
 bE:(ad Int)
 deriving Inhabited
def sg (x:et):V:=.agg [.str x.Name,.bool x.Ordered,bb 1 aI x.bE]
@[simp] theorem amZ (x : et) : bx (sg x) = true := by simp [sg, bx, cg]
@[simp] theorem am0 (x : et) : bM (aE (sg x)) = true := by simp [sg, aE, bM]
structure Change where
 Cell:Int
 Add:Int
 deriving Inhabited
def nj (x:Change):V:=.agg [aI x.Cell,aI x.Add]
@[simp] theorem am1 (x : Change) : bx (nj x) = true := by simp [nj, bx, cg]
@[simp] theorem am2 (x : Change) : bM (aE (nj x)) = true := by simp [nj, aE, bM]
structure mD where
 Kind:Int
 Cell:Int
 Value:Int
 deriving Inhabited
def uy (x:mD):V:=.agg [aI x.Kind,aI x.Cell,aI x.Value]
@[simp] theorem am3 (x : mD) : bx (uy x) = true := by simp [uy, bx, cg]
@[simp] theorem am4 (x : mD) : bM (aE (uy x)) = true := by simp [uy, aE, bM]
structure eJ where
 Delta:(ad Change)
 h4:(ad Row)
 ik:(ad mD)
 deriving Inhabited
def Ct (x:eJ):V:=.agg [bb 2 nj x.Delta,bb 2 ux x.h4,bb 3 uy x.ik]
@[simp] theorem am5 (x : eJ) : bx (Ct x) = true := by simp [Ct, bx, cg]
@[simp] theorem am6 (x : eJ) : bM (aE (Ct x)) = true := by simp [Ct, aE, bM]
structure Action where
 et:Int
 gE:(ad Int)
 eJ:eJ
 deriving Inhabited
def si (x:Action):V:=.agg [aI x.et,bb 1 aI x.gE,bb 2 nj x.eJ.Delta,bb 2 ux x.eJ.h4,bb 3 uy x.eJ.ik]
@[simp] theorem am7 (x : Action) : bx (si x) = true := by simp [si, bx, cg]
@[simp] theorem am8 (x : Action) : bM (aE (si x)) = true := by simp [si, aE, bM]
structure Model where
 bE:(ad Int)
 Tables:(ad Table)
 fR:(ad cf)
 dO:(ad Constraint)
 Operations:(ad et)
 Actions:(ad Action)
 b9:(ad gi)
 deriving Inhabited
def wm (x:Model):V:=.agg [bb 1 aI x.bE,bb 6 lJ x.Tables,bb 1 V.str x.fR,bb 6 sf x.dO,bb 3 sg x.Operations,bb 5 si x.Actions,bb 3 jn x.b9]
@[simp] theorem am9 (x : Model) : bx (wm x) = true := by simp [wm, bx, cg]
@[simp] theorem ana (x : Model) : bM (aE (wm x)) = true := by simp [wm, aE, bM]
structure dR where
 Model:Model
 strict:(ad Range)
 deriving Inhabited
def Fh (x:dR):V:=.agg [bb 1 aI x.Model.bE,bb 6 lJ x.Model.Tables,bb 1 V.str x.Model.fR,bb 6 sf x.Model.dO,bb 3 sg x.Model.Operations,bb 5 si x.Model.Actions,bb 3 jn x.Model.b9,bb 2 q3 x.strict]
@[simp] theorem anb (x : dR) : bx (Fh x) = true := by simp [Fh, bx, cg]
@[simp] theorem anc (x : dR) : bM (aE (Fh x)) = true := by simp [Fh, aE, bM]
structure Token where
 Kind:Int
 aam:Int
 At:Int
 End:Int
 deriving Inhabited
def Cu (x:Token):V:=.agg [aI x.Kind,aI x.aam,aI x.At,aI x.End]
@[simp] theorem ane (x : Token) : bx (Cu x) = true := by simp [Cu, bx, cg]
@[simp] theorem anf (x : Token) : bM (aE (Cu x)) = true := by simp [Cu, aE, bM]
end Go.Abs.bs
namespace Go.Abs.Lex
open Go
def mE (c:UInt8):Bool:=decide (97<=c.toNat)&&decide (c.toNat<=122)
def jo (c:UInt8):Bool:=decide (48<=c.toNat)&&decide (c.toNat<=57)
def l1 (c:UInt8):Bool:=mE c||jo c||c.toNat==95
def iV (c:UInt8):Bool:=c.toNat==32||c.toNat==9||c.toNat==10||c.toNat==13
def pre (s w:List UInt8):Bool:=s.take w.length==w
def two:List (List UInt8):=[[61,61],[33,61],[60,61],[62,61],[46,46]]
def one:List UInt8:=[60,62,61,43,45,42,40,41,123,125,44,58,59]
def sym (s:List UInt8):Nat:=if two.any (pre s)then 2 else match s with
 |[]=>0
 |c::_=>if one.contains c then 1 else 0
theorem drop_cons{α:Type}{s r:List α}{k:Nat}{c:α}(h:s.drop k=c::r):s[k]? =some c/\s.drop (k+1)=r/\k<s.length:=by
 have hk:k<s.length:=by
  rcases fV k s.length with h1|h1
  ·exact h1
  ·rw[Mc h1]at h;cases h
 rw[pK hk]at h;injection h with h1 h2;exact⟨by rw[gq hk,h1],h2,hk⟩
theorem drop_nil{α:Type}{s:List α}{k:Nat}(h:s.drop k=[]):s.length<=k:=by
 have:=congrArg List.length h;simp at this;omega
def hJ (p:UInt8->Bool)(s:List UInt8):Nat:=(s.takeWhile p).length
theorem zT (p:UInt8->Bool)(c:UInt8)(s:List UInt8):hJ p (c::s)=if p c then hJ p s+1 else 0:=by
 unfold hJ;rw[List.takeWhile_cons];cases p c<;>simp
theorem xP (p:UInt8->Bool):∀s:List UInt8,hJ p s<=s.length
 |[]=>aF _
 |c::s=>by
  rw[zT];have:=xP p s;split<;>simp;omega
def hf:Bool->List UInt8->Nat
 | _,[]=>0
 |false,c::r=>if iV c then hf false r+1 else if c.toNat=35 then hf true r+1 else 0
 |true,c::r=>if c.toNat != 10 then hf true r+1 else hf false r+1
theorem Fi:∀(b:Bool) (s:List UInt8),hf b s<=s.length
 |b,[]=>by cases b<;>simp[hf]
 |false,c::r=>by
  have h1:=Fi false r;have h2:=Fi true r;simp only[hf,fl];split
  ·omega
  ·split<;>omega
 |true,c::r=>by
  have h1:=Fi false r;have h2:=Fi true r;simp only[hf,fl];split<;>omega
theorem JA:∀s:List UInt8,hf true s=hJ (fun c=>c.toNat != 10) s+hf false (s.drop (hJ (fun c=>c.toNat != 10) s))
 |[]=>rfl
 |c::r=>by
  rw[zT];by_cases h:(c.toNat != 10)=true
  ·simp only[hf,h,if_true,SY]
   rw[JA r];omega
  ·have hw:iV c=true:=by
    simp at h;simp[iV,h]
   simp[hf,h,hw]
theorem ang (l:List UInt8)(c:UInt8):0<=Lib.indexByte l c↔c∈l:=by
 induction l with
 |nil=>exact⟨fun h=>absurd h (show ¬(0:Int)<=-1 by decide),fun h=>by cases h⟩
 |cons b l ih=>
  have hge:=Lib.indexByte_ge l c;show(0<=if(b==c)=true then 0 else if(Lib.indexByte l c==-1)=true then -1 else Lib.indexByte l c+1)↔_;by_cases h:b=c
  ·subst h;simp
  ·have h1:(b==c)=false:=by simp[h]
   rw[h1,dp,<-ih];simp only[fE,if_false];by_cases ar:Lib.indexByte l c=-1
   ·simp[ar,kS h]
   ·have aR:(Lib.indexByte l c==-1)=false:=by simp[ar]
    simp only[aR,fE,if_false];constructor
    ·intro _;right;omega
    ·rintro(h5|h5)
     ·exact absurd h5.symm h
     ·omega
theorem anh (l:List UInt8)(c:UInt8):decide (0<=Lib.indexByte l c)=l.contains c:=by
 rw[xb,decide_eq_true_iff,ang,sE]
def oO (s:List UInt8):Bool:=match s with
 |[]=>false
 |c::_=>mE c||jo c||decide (0<sym s)
def JB:List UInt8:=[115,111,114,116,32,114,101,108,97,116,105,111,110,32,99,111,117,110,116,101,114,32,115,101,116,32,114,101,103,105,115,116,101,114,32,105,110,118,97,114,105,97,110,116,32,111,112,101,114,97,116,105,111,110,32,107,101,121,32,114,101,102,101,114,101,110,99,101,32,116,111,32,99,111,117,110,116,32,97,99,121,99,108,105,99,32,97,108,108,32,115,117,109,32,105,110,32,97,100,100,119,105,110,115,32,114,101,109,111,118,101,119,105,110,115,32,108,97,115,116,32,109,117,108,116,105,32,104,105,100,101,32,111,114,100,101,114,101,100,32,114,101,113,117,105,114,101,32,104,111,108,100,32,105,110,115,101,114,116,32,100,101,108,101,116,101,32,97,100,100,32,102,114,111,109,32,112,117,116,32,100,114,111,112,32,97,115,115,105,103,110,32,102,111,114,32,119,104,101,114,101,32,97,110,100,32,111,114,32,110,111,116]
def kw:List (List UInt8):=Lib.fields JB
theorem Pw:kw.length=35:=by kernel_rfl
def l2:List UInt8->Nat
 |[]=>0
 |c::r=>if iV c||c.toNat==35||oO (c::r)then 0 else l2 r+1
theorem aan:∀s:List UInt8,l2 s<=s.length
 |[]=>aF _
 |c::r=>by
  have:=aan r;simp only[l2,fl];split<;>omega
def iW:List UInt8->Nat
 |[]=>0
 |c::r=>if mE c then(if kw.contains ((c::r).take (hJ l1 (c::r)))then 2 else 1)else if jo c then 3 else if 0<sym (c::r)then 4 else 5
def lg:List UInt8->Nat
 |[]=>0
 |c::r=>if mE c then hJ l1 (c::r)else if jo c then hJ jo (c::r)else if 0<sym (c::r)then sym (c::r)else l2 r+1
theorem ani{s w:List UInt8}(h:pre s w=true):w.length<=s.length:=by
 unfold pre at h;have:=eq_of_beq h;rw[<-this,tV];exact nB _ _
theorem aao (s:List UInt8):sym s<=s.length:=by
 unfold sym;split
 ·rename_i h
  obtain⟨w,hw,hp⟩:=rD.1 h;have:=ani hp;have h2:∀w∈two,w.length=2:=by decide
  rw[h2 w hw]at this;exact this
 ·split
  ·exact aF _
  ·split<;>simp
theorem anj (s:List UInt8):lg s<=s.length:=by
 cases s with
 |nil=>exact aF _
 |cons c r=>
  have h1:=xP l1 (c::r);have h2:=xP jo (c::r);have ar:=aao (c::r);have aR:=aan r;simp only[lg];split
  ·exact h1
  ·split
   ·exact h2
   ·split
    ·exact ar
    ·simp;omega
def dz (s:List UInt8)(fy:Nat):Nat:=fy+hf false (s.drop fy)
def hg (s:List UInt8)(fy:Nat):Nat:=dz s fy+lg (s.drop (dz s fy))
theorem Px{s:List UInt8}{k:Nat}(h:k<=s.length):dz s k<=s.length:=by
 have:=Fi false (s.drop k);rw[qv]at this;unfold dz;omega
theorem Py{s:List UInt8}{k:Nat}(h:k<=s.length):hg s k<=s.length:=by
 have h1:=Px h;have:=anj (s.drop (dz s k));rw[qv]at this;unfold hg;omega
def kindOf (w:List UInt8):Nat:=if w=[]\/4096<w.length then 0 else if dz w 0=0/\hg w 0=w.length then iW w else 0
def syms:List (List UInt8):=two++one.map fun c=>[c]
def wo (r:List UInt8):List (List UInt8)->Nat
 |[]=>0
 |w::ws=>if pre r w then w.length else wo r ws
theorem aap (r:List UInt8)(vs:List (List UInt8)):∀(ws:List (List UInt8)),(∀w∈ws,w.length=2)->wo r (ws++vs)=if ws.any (pre r)then 2 else wo r vs
 |[],_=>rfl
 |w::ws,h=>by
  have ih:=aap r vs ws (fun w hw=>h w (by simp[hw]));have vT:=h w (by simp);simp only[lN,wo];by_cases hp:pre r w=true
  ·have Cv:(w::ws).any (pre r)=true:=by simp[hp]
   rw[if_pos hp,if_pos Cv,vT]
  ·have Cv:(w::ws).any (pre r)=ws.any (pre r):=by simp[hp]
   rw[if_neg hp,ih,Cv]
def aaq (cs:List UInt8):List UInt8->Nat
 |[]=>0
 |c::_=>if cs.contains c then 1 else 0
theorem aar (r:List UInt8):∀(cs:List UInt8),wo r (cs.map fun c=>[c])=aaq cs r
 |[]=>by cases r<;>rfl
 |d::cs=>by
  have ih:=aar r cs;simp only[de,wo];rw[ih];cases r with
  |nil=>rfl
  |cons c r=>
   have e:pre (c::r) [d]=(c==d):=by
    unfold pre;simp only[fl,mQ,dP,SZ,List.take_zero];rw[xb];simp
   simp only[e,aaq,List.contains_cons];by_cases zU:c=d
   ·subst zU;simp
   ·have:(c==d)=false:=by simp[zU]
    rw[this];simp
theorem ank (r:List UInt8):wo r syms=sym r:=by
 unfold syms;rw[aap r _ two (by decide),aar];cases r<;>rfl
theorem anl{s w:List UInt8}{k:Nat}(hk:k<=s.length):(decide (k+w.length<=s.length)&&((s.take (k+w.length)).drop k==w))=pre (s.drop k) w:=by
 unfold pre;have e:(s.take (k+w.length)).drop k=(s.drop k).take w.length:=by rw[List.drop_take];congr 1;omega
 rw[e];by_cases h:k+w.length<=s.length
 ·simp[h]
 ·have:((s.drop k).take w.length==w)=false:=by
   rw[Mm];intro fY;have:=congrArg List.length (eq_of_beq fY);simp at this;omega
  rw[this];simp
end Go.Abs.Lex
namespace Go.Abs
open Go
def xQ (x y:Int × Int):Bool:=decide (x.1<=y.1)
def mF (l:List (Int × Int)):List (Int × Int):=l.mergeSort xQ
theorem Cw (l:List (Int × Int)):(mF l).Perm l:=List.mergeSort_perm ..
theorem aas (l:List (Int × Int)):(mF l).Pairwise fun x y=>xQ x y=true:=
 List.pairwise_mergeSort (fun a b c h1 h2=>by unfold xQ at *; simp only[decide_eq_true_eq]at *; omega) (fun a b=>by unfold xQ;simp only[jN,decide_eq_true_eq];omega) l
theorem anm{l:List (Int × Int)}(hn:(l.map (·.1)).Nodup){a b:Int × Int}(ha:a∈l)(hb:b∈l)(h:a.1=b.1):a=b:=by
 induction l with
 |nil=>cases ha
 |cons x l ih=>
  rw[de,sG]at hn;rw[dp]at ha hb;rcases ha with rfl|ha
  ·rcases hb with rfl|hb
   ·rfl
   ·exact(hn.1 (dX.2 ⟨b,hb,h.symm⟩)).elim
  ·rcases hb with rfl|hb
   ·exact(hn.1 (dX.2 ⟨a,ha,h⟩)).elim
   ·exact ih hn.2 ha hb
theorem aat{l d:List (Int × Int)}(hn:(l.map (·.1)).Nodup)(hp:d.Perm l)(hs:d.Pairwise fun x y=>xQ x y=true):d=mF l:=by
 refine List.Perm.eq_of_pairwise (le:=fun x y=>xQ x y=true) (fun a b ha hb h1 h2=> ?_) hs (aas l) (hp.trans (Cw l).symm);unfold xQ at h1 h2;simp only[decide_eq_true_eq]at h1 h2;exact anm hn (hp.mem_iff.1 ha) ((Cw l).mem_iff.1 hb) (by omega)
theorem Pz (l:List (Int × Int)):(mF l).length=l.length:=(Cw l).length_eq
def xR (k:Int):List (Int × Int)->Option Int
 |[]=>none
 |(j,v)::l=>if k=j then some v else xR k l
def nk (k v:Int):List (Int × Int)->List (Int × Int)
 |[]=>[(k,v)]
 |(j,u)::l=>if k=j then(k,v)::l else(j,u)::nk k v l
def qn (es:List (Int × Int))(t:Int × Int):List (Int × Int):=nk t.1 (aM ((xR t.1 es).getD 0+t.2)) es
def iG (l:List (Int × Int)):List (Int × Int):=l.foldl qn []
def kI (l:List (Int × Int)):List (Int × Int):=mF ((iG l).filter fun p=>p.2 != 0)
theorem aau{k v:Int}:∀{es:List (Int × Int)},(nk k v es).map Prod.fst=if k∈es.map Prod.fst then es.map Prod.fst else es.map Prod.fst++[k]
 |[]=>by simp[nk]
 |(j,u)::es=>by
  simp only[nk];by_cases h:k=j
  ·subst h;simp
  ·have ih:=aau (k:=k) (v:=v) (es:=es)
   rw[if_neg h];simp only[de,ih,dp,h,false_or];split<;>simp
theorem aav{k v:Int}{es:List (Int × Int)}(h:(es.map Prod.fst).Nodup):((nk k v es).map Prod.fst).Nodup:=by
 rw[aau];split
 ·exact h
 ·rename_i hk
  rw[tU];refine⟨h,by simp,fun a ha b hb=> ?_⟩;rw[yA]at hb;subst hb;exact fun e=>hk (e ▸ ha)
theorem aaw:∀(l es:List (Int × Int)),(es.map Prod.fst).Nodup->((l.foldl qn es).map Prod.fst).Nodup
 |[],es,h=>h
 |t::l,es,h=>aaw l _ (aav h)
theorem ann (l:List (Int × Int)):((iG l).map Prod.fst).Nodup:=aaw l [] (by simp)
theorem aax{k v:Int}:∀{es:List (Int × Int)},(nk k v es).length<=es.length+1
 |[]=>by simp[nk]
 |(j,u)::es=>by
  simp only[nk];split
  ·simp
  ·have:=aax (k:=k) (v:=v) (es:=es)
   simp only[fl];omega
theorem aay:∀(l es:List (Int × Int)),(l.foldl qn es).length<=es.length+l.length
 |[],es=>by simp
 |t::l,es=>by
  have:=aay l (qn es t);have h2:(qn es t).length<=es.length+1:=aax;simp only[ot,fl];omega
theorem aaz (l:List (Int × Int)):(iG l).length<=l.length:=by
 have:=aay l [];simpa[iG]using this
theorem ano{l:List (Int × Int)}(h:(l.map Prod.fst).Nodup)(q:Int × Int->Bool):((l.filter q).map Prod.fst).Nodup:=h.sublist ((List.filter_sublist).map _)
end Go.Abs
namespace Go.Abs.bs
open Go Go.Abs
noncomputable section
def JC (w:cf):Option Int:=some (Lex.kindOf w)
def Fj (x:ad Range)(n:Int):Option (ad Range):=if x.l.length=1/\1<=n/\n<=1000 then some (.mk ((List.replicate n.toNat x.l).flatten))else none
def PA:Option Bool:=some true
def strings_IndexByte (s:cf)(c:Int):Option Int:=some (Lib.indexByte s (UInt8.ofNat c.toNat))
def wq (ts:List Table)(h:gi):Bool:=
 (decide (h.Table>=0)&&decide (h.Table<ts.length))&&((decide (h.c5>=0)&&decide (h.c5<ts.length))&&(!(h.Table==h.c5)&&match ts[h.Table.toNat]?,ts[h.c5.toNat]? with
   |some t,some u=>(t.Kind==0)&&((u.Kind==0)&&((decide (h.iF>=0)&&decide (h.iF<t.bR.l.length))&&((u.bR.l.length==1)&&(u.bR.l.getD 0 0==t.bR.l.getD h.iF.toNat 0))))
   | _,_=>false))
def l3 (hs:List gi):Nat->Int->Int->Bool
 |0,a,b=>a==b
 |n+1,a,b=>(a==b)||hs.any fun h=>(h.Table==a)&&l3 hs n h.c5 b
def JD (hs:List gi)(n:Nat):Bool:=hs.all fun h=>!l3 hs n h.c5 h.Table
def Fk (ts:List Table)(hs:List gi):Bool:=decide (hs.length<=12)&&(hs.all (wq ts)&&JD hs ts.length)
def aaA (j:dR):Option Bool:=some (Fk j.Model.Tables.l j.Model.b9.l)
def wu (l:List (Int × Int)):ad Term:=if l.isEmpty then .nil else .mk (l.map fun p=>⟨p.1,p.2⟩)
def Cx (x:ad Term):Option (ad Term):=if x.l.length<1073741824 then some (wu (kI (x.l.map fun t=>(t.Cell,t.dA))))else none
end
end Go.Abs.bs
namespace Go.Abs.bs
open Go Go.Abs
structure Rd (hs:List gi) (ks sR:List Int):Prop where
 sub:∀t∈sR,t∈ks
 db:sR.Nodup
 next:∀t∈sR,∃h∈hs,h.Table=t/\h.c5∈ks
 ek:∀K:Int->Prop,(∀t,K t->t∈ks)->(∀t,K t->∃h∈hs,h.Table=t/\K h.c5)->∀t,K t->t∈sR
inductive q4 (hs:List gi) (ks:List Int):Nat->List Int->Prop
 |zero:q4 hs ks 0 ks
 |succ {n:Nat} {b6 dI:List Int}:q4 hs ks n b6->Rd hs b6 dI->q4 hs ks (n+1) dI
variable{hs:List gi}{ks:List Int}
theorem q4.sub{n:Nat}{k:List Int}(h:q4 hs ks n k):∀t∈k,t∈ks:=by
 induction h with
 |zero=>exact fun t h=>h
 |succ _ h2 ih=>exact fun t h=>ih t (h2.sub t h)
theorem q4.ek{n:Nat}{k:List Int}(h:q4 hs ks n k)(K:Int->Prop)(h1:∀t,K t->t∈ks)(h2:∀t,K t->∃h∈hs,h.Table=t/\K h.c5):∀t,K t->t∈k:=by
 induction h with
 |zero=>exact h1
 |succ _ ar ih=>exact ar.ek K ih h2
theorem q4.walk{n:Nat}{k:List Int}(h:q4 hs ks n k):∀t∈k,∃f:Nat->Int,f 0=t/\(∀i,i<=n->f i∈ks)/\∀i,i<n->∃h∈hs,h.Table=f i/\h.c5=f (i+1):=by
 induction h with
 |zero=>exact fun t ht=>⟨fun _=>t,rfl,fun _ _=>ht,fun i hi=>absurd hi (Nat.not_lt_zero i)⟩
 |@succ n b6 dI h1 h2 ih=>
  intro t ht;obtain⟨h,fY,ab,aj⟩:=h2.next t ht
  obtain⟨f,f0,f1,f2⟩:=ih h.c5 aj;refine⟨fun i=>match i with|0=>t|i+1=>f i,rfl,fun i hi=> ?_,fun i hi=> ?_⟩
  ·cases i with
   |zero=>exact h1.sub t (h2.sub t ht)
   |succ i=>exact f1 i (by omega)
  ·cases i with
   |zero=>exact⟨h,fY,ab,f0.symm⟩
   |succ i=>exact f2 i (by omega)
theorem xS{α:Type}[BEq α][LawfulBEq α]:∀{l k:List α},l.Nodup->(∀x∈l,x∈k)->l.length<=k.length
 |[],_,_,_=>cD _
 |a::l,k,hn,hs=>by
  obtain⟨h1,h2⟩:=sG.1 hn;have ha:=hs a (by simp);have ih:=xS (l:=l) (k:=k.erase a) h2 fun x hx=>(List.mem_erase_of_ne (fun e=>h1 (by rw[<-e];exact hx))).2 (hs x (by simp[hx]));rw[List.length_erase_of_mem ha]at ih;have:=List.length_pos_of_mem ha;simp only[fl];omega
theorem PB{f:Nat->Int}{k:List Int}(h:∀i,i<=k.length->f i∈k):∃i j,i<j/\j<=k.length/\f i=f j:=by
 refine Classical.byContradiction fun hc=> ?_
 have hnd:((List.range (k.length+1)).map f).Nodup:=by
  unfold List.Nodup;rw[List.pairwise_map];refine List.pairwise_lt_range.imp_of_mem fun {a b} ha hb qK e=>hc ⟨a,b,qK,?_,e⟩;have:=Bj.1 hb;omega
 have:=xS hnd (k:=k) fun x hx=>by
  obtain⟨i,hi,rfl⟩:=dX.1 hx;have:=Bj.1 hi;exact h i (by omega)
 simp at this;omega
theorem anp{n:Nat}{a b:Int}:∀{a:Int},l3 hs n a b=true->l3 hs (n+1) a b=true:=by
 induction n with
 |zero=>intro a h;simp only[l3]at h⊢; simp[h]
 |succ n ih=>
  intro a h;rw[l3,jN]at h⊢;rcases h with h|h
  ·exact .inl h
  ·refine .inr ?_
   obtain⟨x,hx,h1⟩:=rD.1 h;simp only[cn]at h1;exact rD.2 ⟨x,hx,by simp only[cn];exact⟨h1.1,ih h1.2⟩⟩
theorem anq{n m:Nat}{a b:Int}(h:n<=m)(hl:l3 hs n a b=true):l3 hs m a b=true:=by
 induction h with
 |refl=>exact hl
 |step _ ih=>exact anp (a:=a) ih
theorem aaB{f:Nat->Int}{n:Nat}(h:∀i,i<n->∃h∈hs,h.Table=f i/\h.c5=f (i+1)):∀k a,a+k<=n->l3 hs k (f a) (f (a+k))=true
 |0,a,_=>by simp[l3]
 |k+1,a,hk=>by
  obtain⟨x,hx,ab,aj⟩:=h a (by omega);have ih:=aaB h k (a+1) (by omega);rw[l3,jN];refine .inr (rD.2 ⟨x,hx,?_⟩);rw[ab,aj];simp only[beq_self_eq_true,fF];rw[show a+(k+1)=a+1+k by omega];exact ih
theorem anr{n:Nat}{a b:Int}(qK:a≠b)(h:l3 hs n a b=true):∃x∈hs,x.Table=a/\∃m,l3 hs m x.c5 b=true:=by
 cases n with
 |zero=>simp only[l3,beq_iff_eq]at h;exact absurd h qK
 |succ n=>
  rw[l3,jN]at h;rcases h with h|h
  ·exact absurd (eq_of_beq h) qK
  ·obtain⟨x,hx,h1⟩:=rD.1 h
   simp only[cn,beq_iff_eq]at h1;exact⟨x,hx,h1.1,n,h1.2⟩
theorem ans{N:Nat}{k:List Int}(hnd:ks.Nodup)(hm:∀t,t∈ks↔∃h∈hs,h.Table=t)(jk:∀h∈hs,0<=h.Table/\h.Table<N)(hr:q4 hs ks hs.length k):decide (k.length=0)=JD hs N:=by
 have zn:ks.length<=hs.length:=by
  have:=xS hnd (k:=hs.map (·.Table)) fun x hx=>by
   obtain⟨h,h1,h2⟩:=(hm x).1 hx;exact dX.2 ⟨h,h1,h2⟩
  simpa using this
 have BB:ks.length<=N:=by
  have:=xS hnd (k:=(List.range N).map Int.ofNat) fun x hx=>by
   obtain⟨h,h1,rfl⟩:=(hm x).1 hx;have:=jk h h1;exact dX.2 ⟨h.Table.toNat,Bj.2 (by omega),by simp;omega⟩
  simpa using this
 rw[xb,decide_eq_true_iff];unfold JD;rw[eU];constructor
 ·intro h0 h fY
  have hk:k=[]:=yx.1 h0;cases hl:l3 hs N h.c5 h.Table with
  |false=>rfl
  |true=>
   have mZ:∀t,(∃n,l3 hs n t h.Table=true)->∃x∈hs,x.Table=t/\∃n,l3 hs n x.c5 h.Table=true:=by
    rintro t ⟨n,hn⟩;by_cases e:t=h.Table
    ·exact⟨h,fY,e.symm,N,hl⟩
    ·exact anr e hn
   have:=hr.ek (fun t=>∃n,l3 hs n t h.Table=true) (fun t ht=>by
    obtain⟨x,hx,e,-⟩:=mZ t ht;exact(hm t).2 ⟨x,hx,e⟩) mZ h.Table ⟨0,by simp[l3]⟩
   rw[hk]at this;cases this
 ·intro eP
  refine Classical.byContradiction fun aZ=> ?_;obtain⟨t,ht⟩:=List.exists_mem_of_length_pos (l:=k) (by omega);obtain⟨f,-,f1,f2⟩:=hr.walk t ht;obtain⟨i,j,cK,hj,e⟩:=PB (f:=f) (k:=ks) fun i hi=>f1 i (by omega);obtain⟨x,hx,ab,aj⟩:=f2 i (by omega);have hw:=aaB (n:=hs.length) f2 (j-(i+1)) (i+1) (by omega);rw[show i+1+(j-(i+1))=j by omega,<-e,<-ab,<-aj]at hw;have:=eP x hx;rw[anq (m:=N) (by omega) hw]at this;cases this
end Go.Abs.bs
