/- Texts of this claim, joined and written short by a program. -/
import Derived.Test.YtoimeckpnnkbpaaGreatDoorP20
import Derived.Lib.Fields
import Derived.Lib.Bytealg
import Derived.KernelRfl
import Derived.Test.YtoimeckpnnkbpaaGreatDoorP00
set_option linter.unusedVariables false
set_option linter.unusedSimpArgs false
set_option linter.unusedSectionVars false
namespace Go.Abs
open Go
section
variable{aa:Nat->Option bY}{b:Nat}{aw σ:bV}{H:Heap}{wr:List Bool}{rest:List bO}{call:cU}{ae:ag->V}
def gi{K W:Type}(gA:K->V)(gj:W->V)(m:List (K × W)):List (V × V):=m.map fun p=>(gA p.1,gj p.2)
theorem DD (a c:Int):ix 0 (aD a) (aD c)=some (a==c):=by simp[ix]
theorem ahw (a c:bH):ix 1 (.str a) (.str c)=some (a==c):=rfl
theorem DE{K W:Type}[BEq K]{gA:K->V}{gj:W->V}{kind:Nat}(heq:∀a c,ix kind (gA a) (gA c)=some (a==c))(k:K):∀m:List (K × W),h4 kind (gA k) (gi gA gj m)=some ((iH m k).map gj)
 |[]=>rfl
 |p::r=>by
  have ih:=DE (gj:=gj) heq k r;simp only[gi,iH]at ih⊢;simp only[eo,h4,heq,Kr];cases k==p.1<;>simp[ih]
theorem V1{K W:Type}[BEq K]{gA:K->V}{gj:W->V}{kind:Nat}(heq:∀a c,ix kind (gA a) (gA c)=some (a==c))(k:K)(w:W):∀m:List (K × W),ld kind (gA k) (gj w) (gi gA gj m)=gi gA gj (mg m k w)
 |[]=>rfl
 |p::r=>by
  have ih:=V1 (gj:=gj) heq k w r;simp only[gi]at ih⊢;simp only[eo,ld,heq,mg];cases k==p.1<;>simp[ih]
theorem V2{K W:Type}[BEq K]{gA:K->V}{gj:W->V}{kind a:Nat}{m:List (K × W)}{k:K}{z:V}{x i:ag}(heq:∀a c,ix kind (gA a) (gA c)=some (a==c))(z0:W)(aT:z=gj z0)(bj:H[a]? =some (.map (gi gA gj m)))(hx:ae x=.map a)(hi:ae i=gA k):
  b2 call ae H H.length (.lookup kind z x i false)=some (gj ((iH m k).getD z0),H,H.length):=by
 rw[Hd];simp only[step,hx,bj,hi,DE heq];cases iH m k<;>simp[aT]
theorem ahx{K W:Type}[BEq K]{gA:K->V}{gj:W->V}{kind a:Nat}{m:List (K × W)}{k:K}{z:V}{x i:ag}(heq:∀a c,ix kind (gA a) (gA c)=some (a==c))(z0:W)(aT:z=gj z0)(bj:H[a]? =some (.map (gi gA gj m)))(hx:ae x=.map a)(hi:ae i=gA k):
  b2 call ae H H.length (.lookup kind z x i true)=some (.aU [gj ((iH m k).getD z0),.bool (iH m k).isSome],H,H.length):=by
 rw[Hd];simp only[step,hx,bj,hi,DE heq];cases iH m k<;>simp[aT]
theorem V3{K W:Type}{gA:K->V}{gj:W->V}{a:Nat}{m:List (K × W)}{x:ag}(bj:H[a]? =some (.map (gi gA gj m)))(hx:ae x=.map a):b2 call ae H H.length (.len 2 x)=some (aD (m.length:Int),H,H.length):=by
 show step ae H H.length (.len 2 x)=_;simp[step,hx,bj,gi]
theorem V4{K W:Type}[BEq K]{gA:K->V}{gj:W->V}{kind a:Nat}{m:List (K × W)}{k:K}{w:W}{d:Option (Nat × Bool)}{g:Option (ag × Bool)}{x i y:ag}{Q:bV->Heap->List Bool->Prop}{ms:cN}(hw:gJ aw σ g=some true)
  (heq:∀a c,ix kind (gA a) (gA c)=some (a==c)) (aA:Own H ms) (j:Nat) (cW:ms[j]? =some [(a,.map (gi gA gj m))]) (hb:b<=a) (hx:bN aw σ x=.map a) (hi:bN aw σ i=gA k) (hy:bN aw σ y=gj w) (hp:bs (gj w)=true)
  (cA:∀H',Own H' (ms.set j [(a,.map (gi gA gj (mg m k w)))])->Op aa b rest (fV aw d .undef) (fW σ d .undef) H' (true::wr) Q):Op aa b (⟨d,.px kind x i y,g⟩::rest) aw σ H wr Q:=by
 have bj:=aA.get j cW;have aX:=wT bj;have hu:ui (gj w)=false:=by cases ad:gj w<;>simp_all [ui,bs]
 refine nI (o:=⟨d,.px kind x i y,g⟩) (mv:=true) (H1:=H.set a (.map (gi gA gj (mg m k w)))) hw (fun cY=>⟨by simpa using cY,a,hb,?_,by simp[eG,aX]⟩) (cA _ (aA.put j cW));simp only[TZ,step,hy];have ab:eP H H.length (gj w)=some (gj w,H,H.length):=by simp[eP,dF,hp]
 simp only[ab,hu,hx,bj,hi,DE heq,V1 heq];simp[uc (xI aX)]
theorem jr.elems{α:Type}{es:Nat}{f:α->V}{s:ak α}{v:V}{m:List (Nat × cc)}{ms:cN}(aA:Own H ms)(k:Nat)(cW:ms[k]? =some m)(hr:hf b es f v s m):elems H es v=some (s.l.map f):=by
 have gu:jr b es v (s.map f) m:=hr;generalize vi:s.map f=k5 at gu;clear hr;cases gu with
 |nil=>cases s<;>simp_all [ak.map,ak.l,Abs.elems]
 |emp=>cases s<;>simp_all [ak.map,ak.l,Abs.elems]
 |row l ds h hb=>
  have:s.l.map f=ds:=by cases s<;>simp_all [ak.map,ak.l]
  simp[Abs.elems,aA.get k cW,this]
theorem V5{α:Type}{es:Nat}{f:α->V}{s:ak α}{v:V}{m:List (Nat × cc)}{ms:cN}{x:ag}(aA:Own H ms)(k:Nat)(cW:ms[k]? =some m)(hr:hf b es f v s m)(hx:ae x=v):b2 call ae H H.length (.len 1 x)=some (aD s.len,H,H.length):=by
 have gu:jr b es v (s.map f) m:=hr;generalize vi:s.map f=k5 at gu;clear hr;show step ae H H.length (.len 1 x)=_;cases gu with
 |nil=>cases s<;>simp_all [ak.map,ak.len,ak.l,step]
 |emp=>cases s<;>simp_all [ak.map,ak.len,ak.l,step]
 |row l ds h hb=>
  have:s.l.map f=ds:=by cases s<;>simp_all [ak.map,ak.l]
  subst this;simp[step,hx,aA.get k cW,ak.len]
theorem ahy{α:Type}{es bytes:Nat}{f:α->V}{z:List V}{e:α}{n:Int}{s:ak α}{bK V6:IntKind}{d:Option (Nat × Bool)}{g:Option (ag × Bool)}{x y:ag}{Q:bV->Heap->List Bool->Prop}{ms:cN}(hw:gJ aw σ g=some true)
  (hs:yI bytes e n=some s) (aA:Own H ms) (aT:kT z=f e) (hx:bN aw σ x=.int bK n) (hy:bN aw σ y=.int V6 n)
  (cA:∀H' v' m' mv,hf b es f v' s m'->Own H' (m'::ms)->Op aa b rest (fV aw d v') (fW σ d v') H' (mv::wr) Q):Op aa b (⟨d,.mkSlice es z bytes x y,g⟩::rest) aw σ H wr Q:=by
 intro aG av low h1 h2 ar aQ;unfold yI at hs;split at hs
 ·rename_i hc
  cases hs;by_cases h0:n=0
  ·subst h0
   refine nI (o:=⟨d,.mkSlice es z bytes x y,g⟩) (mv:=false) (v:=.emp) (H1:=H) hw (fun cY=>⟨cY,H.length,cY,?_,iT H⟩) (cA H .emp [] false ?_ (aA.ins 0)) aG av low h1 h2 ar aQ
   ·rw[MH];simp[step,hx,hy]
   ·exact .emp
  ·refine nI (o:=⟨d,.mkSlice es z bytes x y,g⟩) (mv:=true) (v:=.cz H.length es 0 n.toNat n.toNat) (H1:=H++[.row es (List.replicate n.toNat (f e)) false]) hw
    (fun cY=>⟨by simp;omega,H.length,cY,?_,by simp[eG]⟩) (cA _ _ [(H.length,.row es (List.replicate n.toNat (f e)) false)] true ?_ (aA.grow _)) aG av low h1 h2 ar aQ
   ·rw[MH];simp only[step,hx,hy,aT]
    rw[if_pos ⟨trivial,hc.1,hc.2⟩,if_neg h0]
   ·rw[if_neg h0]
    have:jr b es (.cz H.length es 0 (List.replicate n.toNat (f e)).length (List.replicate n.toNat (f e)).length) (.mk (List.replicate n.toNat (f e))) [(H.length,.row es (List.replicate n.toNat (f e)) false)]:=.row _ _ (by simp;omega) aQ;simpa[hf,ak.map]using this
 ·cases hs
theorem jr.at{α:Type}{es:Nat}{f:α->V}{s:ak α}{v:V}{m:List (Nat × cc)}{l N:Nat}(hr:hf b es f v s m)(ad:v=.cz l es 0 N N):m=[(l,.row es (s.l.map f) false)]/\N=(s.l.map f).length/\b<=l/\s.map f=.mk (s.l.map f):=by
 have gu:jr b es v (s.map f) m:=hr;generalize vi:s.map f=k5 at gu;clear hr;cases gu with
 |nil=>cases ad
 |emp=>cases ad
 |row l ds h hb=>
  have:s.l.map f=ds:=by cases s<;>simp_all [ak.map,ak.l]
  cases ad;exact⟨by rw[this],by rw[this],hb,by rw[this]⟩
theorem ahz{α:Type}{es l N off:Nat}{f:α->V}{s:ak α}{n:Int}{e:α}{v u:V}{m:List (Nat × cc)}{ms:cN}{sh:Option Nat}{x:ag}(k:Nat)(he:bQ s.l n=some e)(aA:Own H ms)(cW:ms[k]? =some m)(hr:hf b es f v s m)(ad:v=.cz l es 0 N N)(hu:fY (aE (f e)) off sh=some u)(hx:ae x=.gF l es n.toNat off N):
  b2 call ae H H.length (.load sh x)=some (u,H,H.length):=by
 obtain⟨rfl,rfl,-,-⟩:=hr.at ad;rw[jK,hx];unfold bQ at he;split at he
 ·simp[gN,aA.get k cW,he,hu]
 ·cases he
theorem ahA{α:Type}{es l N off cJ:Nat}{f:α->V}{s:ak α}{n:Int}{e e':α}{v:V}{m:List (Nat × cc)}{vs:List V}{d:Option (Nat × Bool)}{g:Option (ag × Bool)}{x y:ag}{Q:bV->Heap->List Bool->Prop}{ms:cN}(hw:gJ aw σ g=some true)(k:Nat)
  (he:bQ s.l n=some e) (aA:Own H ms) (cW:ms[k]? =some m) (hr:hf b es f v s m) (ad:v=.cz l es 0 N N) (hx:bN aw σ x=.gF l es n.toNat off N) (hy:aE (bN aw σ y)=vs) (hn:vs.length=cJ) (hp:lQ vs=true) (l6:wi (f e) off vs=some (f e'))
  (cA:∀H' m',hf b es f v (o9 s n e') m'->Own H' (ms.set k m')->Op aa b rest (fV aw d .undef) (fW σ d .undef) H' (true::wr) Q):Op aa b (⟨d,.store cJ x y,g⟩::rest) aw σ H wr Q:=by
 obtain⟨rfl,rfl,hb,eE⟩:=hr.at ad;have bj:=aA.get k cW;have aX:=wT bj;unfold bQ at he;split at he
 ·rename_i nx
  have hi:n.toNat<s.l.length:=(pY.1 he).1;have tc:(s.l.map f).set n.toNat (f e')=(o9 s n e').l.map f:=by simp[o9,ak.l,List.map_set]
  have bf:(o9 s n e').l.map f≠[]:=by
   have hlen:((o9 s n e').l.map f).length=s.l.length:=by simp[o9,ak.l]
   intro h0;rw[h0]at hlen;simp at hlen;omega
  refine nI (o:=⟨d,.store cJ x y,g⟩) (mv:=true) (H1:=H.set l (.row es ((o9 s n e').l.map f) false)) hw (fun cY=>⟨by simpa using cY,l,hb,?_,by simp[eG,aX]⟩) (cA _ _ ?_ (aA.put k cW))
  ·simp only[jL,hx,hD,bj,hy]
   rw[if_pos ⟨trivial,trivial,hn,hp⟩];simp[he,l6,tc,uc (xI aX)]
  ·have:=jr.row (b:=b) (es:=es) l ((o9 s n e').l.map f) bf hb
   rw[ad];have hl:((o9 s n e').l.map f).length=(s.l.map f).length:=by simp[o9,ak.l]
   rw[hl]at this;exact this
 ·cases he
theorem M0:∀{vs:List V} {H:Heap} {low:Nat},dX H low vs=kq (dF 16) H low vs
 |[],_,_=>rfl
 |v::vs,H,low=>by
  simp only[dX,kq,eP];cases dF 16 H low v with
  |none=>rfl
  |some r=>simp only[M0]
theorem V7{d:Option (Nat × Bool)}{g:Option (ag × Bool)}{f:ag}{aO:List ag}{fv v:V}{vs vs':List V}{Q:bV->Heap->List Bool->Prop}{ms fO:cN}(hw:gJ aw σ g=some true)(aA:Own H ms)(aT:nL b 16 ms vs vs' fO)
  (hc:∀H',bZ aa fv vs' H'=some (v,H',H'.length)) (kA:flat v=true) (ao:aO.map (bN aw σ)=vs) (ab:bN aw σ f=fv)
  (cA:Op aa b rest (fV aw d v) (fW σ d v) H (false::wr) Q):Op aa b (⟨d,.call false f aO,g⟩::rest) aw σ H wr Q:=by
 intro aG av low h1 h2 ar aQ;obtain⟨H1,bI,af,hg,dm⟩:=aT H H.length aA aQ;refine ha (v:=v) hw ?_ cA aG av low h1 h2 ar aQ;subst ao;subst ab;rw[k3,M0,af];simp[hc,kA]
theorem ahB{d:Option (Nat × Bool)}{g:Option (ag × Bool)}{f:ag}{aO:List ag}{fv v:V}{vs vs':List V}{Q:bV->Heap->List Bool->Prop}{ms fO:cN}(hw:gJ aw σ g=some true)(aA:Own H ms)(aT:nL b 16 ms vs vs' fO)(hlen:∀H low r,kq (dF 16) H low vs=some r->r.2.1.length=H.length)
  (hc:∀H',bZ aa fv vs' H'=some (v,H',H'.length)) (kA:flat v=false) (ao:aO.map (bN aw σ)=vs) (ab:bN aw σ f=fv)
  (cA:∀H' mv,Own H' fO->Op aa b rest (fV aw d v) (fW σ d v) H' (mv::wr) Q):Op aa b (⟨d,.call false f aO,g⟩::rest) aw σ H wr Q:=by
 intro aG av low h1 h2 ar aQ;obtain⟨H1,bI,af,hg,dm⟩:=aT H H.length aA aQ;have hl:=hlen _ _ _ af;refine nI (o:=⟨d,.call false f aO,g⟩) (v:=v) (H1:=H1) (mv:=eG H H1 (min bI H1.length)) hw (fun hb=>⟨by simp only at hl;omega,min bI H1.length,by simp only at hl;omega,?_,rfl⟩) (cA H1 _ hg) aG av low h1 h2 ar aQ;subst ao;subst ab;simp only[];rw[k3,M0,af];simp[hc,kA]
end
end Go.Abs
namespace Go.Abs
open Go
@[simp] theorem att (l : List V) : aE (.agg l) = l := rfl
@[simp] theorem atu : aE .cp = [.cp] := rfl
@[simp] theorem atv : aE .emp = [.emp] := rfl
@[simp] theorem atw (e : Nat) (l : List V) : aE (.list e l) = [.list e l] := rfl
@[simp] theorem atx (e l : Nat) : aE (.ptr e l) = [.ptr e l] := rfl
@[simp] theorem aty (e : Nat) : aE (.map e) = [.map e] := rfl
@[simp] theorem atz : aE .jb = [.jb] := rfl
abbrev At (σ:bV)(ts:List Nat)(vs:List V):Prop:=ts.map σ=vs
def Hz:bV->List Nat->List V->bV
 |σ,t::ts,v::vs=>Hz (up σ t v) ts vs
 |σ,_,_=>σ
theorem wY:∀{ts:List Nat} {vs:List V} {σ:bV},At σ ts vs->Hz σ ts vs=σ
 |[],[],_,_=>rfl
 |[],_::_,_,h=>by cases h
 | _::_,[],_,h=>by cases h
 |t::ts,v::vs,σ,h=>by
  simp only[At,eo,Ce]at h;simp only[Hz,ahj h.1];exact wY h.2
section
variable{aa:Nat->Option bY}{b:Nat}{aw σ:bV}{H:Heap}{wr:List Bool}{rest:List bO}{call:cU}{ae:ag->V}{d:Option (Nat × Bool)}{op:cH}{t:ag}{β w:Bool}
theorem dv{c:cj}{Q:X->bV->Heap->Prop}{ts:List Nat}{vs:List V}(h:At σ ts vs)(k:eS aa b c (Hz σ ts vs) H Q):eS aa b c σ H Q:=by rw[wY h]at k;exact k
theorem iW{ops:List bO}{c:cj}{Q:X->bV->Heap->Prop}(h:Op aa b ops mL σ H [] (fun aN H' _=>eS aa b c aN H' Q)):eS aa b (.seq (.region ops none) c) σ H Q:=kc (o6 h)
variable{Q:bV->Heap->List Bool->Prop}
theorem pp (v:V)(k:Op aa b rest (fV aw d v) (fW σ d v) H (false::wr) Q)(h:b2 (bZ aa) (bN aw σ) H H.length op=some (v,H,H.length):=by exact rfl):Op aa b (⟨d,op,none⟩::rest) aw σ H wr Q:=ha rfl h k
theorem ph (v:V)(h:b2 (bZ aa) (bN aw σ) H H.length op=some (v,H,H.length))(k:Op aa b rest (fV aw d v) (fW σ d v) H (false::wr) Q):Op aa b (⟨d,op,none⟩::rest) aw σ H wr Q:=ha rfl h k
theorem h9 (v:V)(c:β=w)(k:Op aa b rest (fV aw d v) (fW σ d v) H (false::wr) Q)(h:b2 (bZ aa) (bN aw σ) H H.length op=some (v,H,H.length):=by exact rfl)(ht:bN aw σ t=.bool β:=by exact rfl):Op aa b (⟨d,op,some (t,w)⟩::rest) aw σ H wr Q:=ha (hJ ht c) h k
theorem mi (c:β=false)(k:Op aa b rest (fV aw d (.aU [])) (fW σ d (.aU [])) H (false::wr) Q)(ht:bN aw σ t=.bool β:=by exact rfl):Op aa b (⟨d,op,some (t,true)⟩::rest) aw σ H wr Q:=MO (Ht ht c) k
theorem ca (c:β=true)(k:Op aa b rest (fV aw d (.aU [])) (fW σ d (.aU [])) H (false::wr) Q)(ht:bN aw σ t=.bool β:=by exact rfl):Op aa b (⟨d,op,some (t,false)⟩::rest) aw σ H wr Q:=MO (Hu ht c) k
end
theorem A2:∀{vs:List V} {n:Nat} {H:Heap} {low:Nat},bW vs=true->kq (dF n) H low vs=some (vs,H,low)
 |[],_,_,_,_=>rfl
 |v::r,n,H,low,h=>by
  simp only[bW,b8]at h;have h1:dF n H low v=some (v,H,low):=by cases n<;>simp[dF,h.1]
  simp only[kq,h1,A2 h.2]
section
variable{aa:Nat->Option bY}{b:Nat}{σ:bV}{H:Heap}
theorem fe{S O:Type}{c:cj}{Q:X->bV->Heap->Prop}(f:S->Option (dM S O))(I:S->bV->Heap->Prop)(P:O->X->bV->Heap->Prop){s:S}{o:O}(h:c0 f s=some o)(aW:I s σ H)
 (round:∀s σ H r,I s σ H->f s=some r->eS aa b c σ H fun x aN H'=>match r with
   | .next al=>x=.normal/\I al aN H'
   | .out o=>x≠ .normal/\P o x aN H') (k:∀x aN H',P o x aN H'->Q x aN H'):eS aa b (.loop c) σ H Q:=wU (P o) (ahn f I P round h aW) k
end
end Go.Abs
namespace Go.Abs
open Go
inductive fC (call:cU) (ms:cN):List bO->bV->bV->bV->bV->Prop
 |nil {aw σ:bV}:fC call ms [] aw σ aw σ
 |step {o:bO} {rest:List bO} {aw σ bB aN:bV} {v:V} (hw:gJ aw σ o.guard=some true) (h:∀H,Own H ms->b2 call (bN aw σ) H H.length o.op=some (v,H,H.length)) (k:fC call ms rest (fV aw o.dst v) (fW σ o.dst v) bB aN):fC call ms (o::rest) aw σ bB aN
 |skip {o:bO} {rest:List bO} {aw σ bB aN:bV} (hw:gJ aw σ o.guard=some false) (k:fC call ms rest (fV aw o.dst (.aU [])) (fW σ o.dst (.aU [])) bB aN):fC call ms (o::rest) aw σ bB aN
section
variable{call:cU}{ms:cN}{d:Option (Nat × Bool)}{op:cH}{rest:List bO}{aw σ bB aN:bV}{t:ag}{β w:Bool}
theorem fC.pp (v:V)(k:fC call ms rest (fV aw d v) (fW σ d v) bB aN)(h:∀H,Own H ms->b2 call (bN aw σ) H H.length op=some (v,H,H.length):=by exact fun _ _=>rfl):fC call ms (⟨d,op,none⟩::rest) aw σ bB aN:=.step rfl h k
theorem fC.ph (v:V)(h:∀H,Own H ms->b2 call (bN aw σ) H H.length op=some (v,H,H.length))(k:fC call ms rest (fV aw d v) (fW σ d v) bB aN):fC call ms (⟨d,op,none⟩::rest) aw σ bB aN:=.step rfl h k
theorem fC.h9 (v:V)(c:β=w)(h:∀H,Own H ms->b2 call (bN aw σ) H H.length op=some (v,H,H.length))(k:fC call ms rest (fV aw d v) (fW σ d v) bB aN)(ht:bN aw σ t=.bool β:=by exact rfl):fC call ms (⟨d,op,some (t,w)⟩::rest) aw σ bB aN:=.step (hJ ht c) h k
theorem fC.mi (c:β=false)(k:fC call ms rest (fV aw d (.aU [])) (fW σ d (.aU [])) bB aN)(ht:bN aw σ t=.bool β:=by exact rfl):fC call ms (⟨d,op,some (t,true)⟩::rest) aw σ bB aN:=.skip (Ht ht c) k
theorem fC.ca (c:β=true)(k:fC call ms rest (fV aw d (.aU [])) (fW σ d (.aU [])) bB aN)(ht:bN aw σ t=.bool β:=by exact rfl):fC call ms (⟨d,op,some (t,false)⟩::rest) aw σ bB aN:=.skip (Hu ht c) k
end
theorem V8 (v:V):dP v v=true:=by
 have key:(∀v,dP v v=true)/\(∀vs,mV vs vs=true):=by
  refine⟨fun v=> ?_,fun vs=> ?_⟩
  ·exact V.rec (motive_1:=fun v=>dP v v=true) (motive_2:=fun vs=>mV vs vs=true)
    (by simp[dP]) (by simp[dP]) (by simp[dP]) rfl rfl (by intro e ds h;simp[dP,h]) (by intro vs h;simpa[dP]using h) (by intro vs h;simpa[dP]using h) rfl (by simp[dP]) (by simp[dP])
    (by intro vs f h;simp[dP,h]) (by simp[dP]) rfl (by simp[dP]) rfl (by intro i a b h1 h2;simp[dP,h1,h2]) (by simp[dP]) rfl (by intro t v h;simp[dP,h]) rfl rfl (by intro a r h1 h2;simp[mV,h1,h2]) v
  ·exact V.rec_1 (motive_1:=fun v=>dP v v=true) (motive_2:=fun vs=>mV vs vs=true)
    (by simp[dP]) (by simp[dP]) (by simp[dP]) rfl rfl (by intro e ds h;simp[dP,h]) (by intro vs h;simpa[dP]using h) (by intro vs h;simpa[dP]using h) rfl (by simp[dP]) (by simp[dP])
    (by intro vs f h;simp[dP,h]) (by simp[dP]) rfl (by simp[dP]) rfl (by intro i a b h1 h2;simp[dP,h1,h2]) (by simp[dP]) rfl (by intro t v h;simp[dP,h]) rfl rfl (by intro a r h1 h2;simp[mV,h1,h2]) vs
 exact key.1 v
theorem DF{call:cU}:∀{ops:List bO} {st aF:aq} {wr e6:List Bool},cQ call ops st wr=some (aF,e6)->∃cf,fx call ops st=some cf
 |[],st,_,_,_,_=>⟨[st],rfl⟩
 |o::r,st,aF,wr,e6,h=>by
  simp only[cQ]at h;simp only[fx];split at h
  ·split at h
   ·obtain⟨cf,e⟩:=DF h
    exact⟨_,by rw[e];rfl⟩
   ·cases h
  ·obtain⟨cf,e⟩:=DF h
   exact⟨_,by rw[e];rfl⟩
  ·cases h
theorem fC.run{call:cU}{ms:cN}:∀{A:List bO} {aw σ bB aN:bV},fC call ms A aw σ bB aN->∀{aG av:Env} {H:Heap} {low b:Nat} {wr:List Bool} (B:List bO),Fits aG aw->Fits av σ->Own H ms->b<=low->b<=H.length->
  ∃mM dD low',Fits mM bB/\Fits dD aN/\b<=low'/\cQ call (A++B) ⟨aG,av,H,low,none⟩ wr=cQ call B ⟨mM,dD,H,low',none⟩ (List.replicate A.length false++wr)/\
   ∀cf,fx call (A++B) ⟨aG,av,H,low,none⟩=some cf->∃pQ q2,cf=pQ++q2/\pQ.length=A.length/\fx call B ⟨mM,dD,H,low',none⟩=some q2/\
    ∀H',Own H' ms->∀p∈A.zip pQ,jX call (p.1,p.2,H')=true
 |[],aw,σ,_,_,.nil,aG,av,H,low,b,wr,B,h1,h2,_,hb,_=>⟨aG,av,low,h1,h2,hb,rfl,fun cf h=>⟨[],cf,rfl,rfl,h,fun _ _ p hp=>by cases hp⟩⟩
 |o::A,aw,σ,bB,aN,.step (v:=v) hw h k,aG,av,H,low,b,wr,B,h1,h2,aA,hb,iA=>by
  obtain⟨nJ,lC,af,e2,bT⟩:=yG h1 h2 H (min low H.length) o.dst v;obtain⟨mM,dD,low',f1,f2,f0,f3,f4⟩:=k.run (b:=b) (low:=min low H.length) (wr:=false::wr) B e2 bT aA (by omega) iA;have oj:=hw;rw[<-DA h1 h2]at oj;have hs:=h H aA;rw[<-vf h1 h2]at hs;refine⟨mM,dD,low',f1,f2,f0,?_,fun cf ht=> ?_⟩
  ·simp only[jz,cQ,oj,hs,iT]
   rw[af,f3];simp only[ev,azo];rw[mS];rfl
  ·simp only[jz,fx,oj,hs]at ht
   rw[af]at ht;obtain⟨rS,eC,rfl⟩:=ct.1 ht;obtain⟨pQ,q2,rfl,g1,g2,g3⟩:=f4 rS eC;refine⟨_::pQ,q2,rfl,by simp[g1],g2,fun H' tk p hp=> ?_⟩;rw[zQ]at hp;rcases dA.1 hp with rfl|hp
   ·have yC:=h H' tk
    rw[<-vf h1 h2]at yC;simp only[jX,oj,hs,yC,iT,ue,xH,V8]
   ·exact g3 H' tk p hp
 |o::A,aw,σ,bB,aN,.skip hw k,aG,av,H,low,b,wr,B,h1,h2,aA,hb,iA=>by
  obtain⟨nJ,lC,af,e2,bT⟩:=yG h1 h2 H low o.dst (.aU []);obtain⟨mM,dD,low',f1,f2,f0,f3,f4⟩:=k.run (b:=b) (wr:=false::wr) B e2 bT aA hb iA;have oj:=hw;rw[<-DA h1 h2]at oj;refine⟨mM,dD,low',f1,f2,f0,?_,fun cf ht=> ?_⟩
  ·simp only[jz,cQ,oj]
   rw[af,f3];simp only[ev,azo];rw[mS];rfl
  ·simp only[jz,fx,oj]at ht
   rw[af]at ht;obtain⟨rS,eC,rfl⟩:=ct.1 ht;obtain⟨pQ,q2,rfl,g1,g2,g3⟩:=f4 rS eC;refine⟨_::pQ,q2,rfl,by simp[g1],g2,fun H' tk p hp=> ?_⟩;rw[zQ]at hp;rcases dA.1 hp with rfl|hp
   ·simp only[jX,oj]
   ·exact g3 H' tk p hp
theorem Own.more{H:Heap}{ms:cN}(h:Own H ms)(X:Heap):Own (H++X) ms:=
 ⟨fun m hm p hp=>by rw[gE (h.lt hm hp)];exact h.1 m hm p hp,h.2⟩
theorem HA (aG av:Env)(H:Heap)(ro:Option Nat)(d:Option (Nat × Bool))(v:V):∃nJ lC,∀l:Nat,aq.put ⟨aG,av,H,l,ro⟩ d v=⟨nJ,lC,H,l,ro⟩:=by
 match d with
 |none=>exact⟨aG,av,fun _=>rfl⟩
 |some (t,true)=>exact⟨aG,ec av t v,fun _=>rfl⟩
 |some (t,false)=>exact⟨(t,v)::aG,av,fun _=>rfl⟩
theorem M1{call:cU}(hc:l3 call):∀{B:List bO} {st:aq} {cf:List aq},st.low<=st.H.length->fx call B st=some cf->∀T∈cf,T.low<=st.low
 |[],st,cf,hl,ht,T,hT=>by
  simp only[fx,az]at ht;subst ht;simp only[dA,sP,or_false]at hT;subst hT;exact aK _
 |o::r,st,cf,hl,ht,T,hT=>by
  simp only[fx]at ht;split at ht
  ·split at ht
   ·rename_i v H1 bI hs
    obtain⟨t0,h0,rfl⟩:=ct.1 ht;rcases dA.1 hT with rfl|hT
    ·exact aK _
    ·have ab:=yb hc (aK _) hs
     have hp:=j5 {st with H:=H1,low:=min st.low bI} o.dst v;have:=M1 hc (by rw[hp.1,hp.2.1];have:=ab.len;show min st.low bI<=H1.length;omega) h0 T hT;rw[hp.2.1]at this;exact cV this (jU _ _)
   ·cases ht
  ·obtain⟨t0,h0,rfl⟩:=ct.1 ht
   rcases dA.1 hT with rfl|hT
   ·exact aK _
   ·have hp:=j5 st o.dst (.aU [])
    have:=M1 hc (by rw[hp.1,hp.2.1];exact hl) h0 T hT;rw[hp.2.1]at this;exact this
  ·cases ht
theorem M3{call:cU}:∀{B:List bO} {st fin:aq} {wr e6:List Bool},cQ call B st wr=some (fin,e6)->fin.low<=st.low
 |[],st,fin,wr,e6,h=>by
  simp only[cQ,az,bt]at h;rw[h.1];exact aK _
 |o::r,st,fin,wr,e6,h=>by
  simp only[cQ]at h;split at h
  ·split at h
   ·rename_i v H1 bI hs
    have:=M3 h;rw[(j5 {st with H:=H1,low:=min st.low bI} o.dst v).2.1]at this;exact cV this (jU _ _)
   ·cases h
  ·have:=M3 h
   rw[(j5 st o.dst (.aU [])).2.1]at this;exact this
  ·cases h
theorem M4{call:cU}:∀{B:List bO} {aG av:Env} {H:Heap} {L:Nat} {ro:Option Nat} {wr e6:List Bool} {fin:aq} (gZ:Nat),cQ call B ⟨aG,av,H,L,ro⟩ wr=some (fin,e6)->
  ∃A3,cQ call B ⟨aG,av,H,gZ,ro⟩ wr=some ({fin with low:=A3},e6)/\min gZ fin.low<=A3
 |[],aG,av,H,L,ro,wr,e6,fin,gZ,h=>by
  simp only[cQ,az,bt]at h;obtain⟨rfl,rfl⟩:=h;exact⟨gZ,rfl,jU _ _⟩
 |o::r,aG,av,H,L,ro,wr,e6,fin,gZ,h=>by
  simp only[cQ]at h⊢;split at h
  ·split at h
   ·rename_i v H1 bI hs
    have l6:=HA aG av H1 ro o.dst v;obtain⟨nJ,lC,hp⟩:=l6;rw[hp]at h⊢;obtain⟨A3,e,hl⟩:=M4 (min gZ bI) h;have hx:=M3 h;exact⟨A3,e,by simp only at hx;omega⟩
   ·cases h
  ·have l6:=HA aG av H ro o.dst (.aU [])
   obtain⟨nJ,lC,hp⟩:=l6;rw[hp]at h⊢;exact M4 gZ h
  ·cases h
theorem M5{call:cU}:∀{B:List bO} {aG av:Env} {H:Heap} {L:Nat} {ro:Option Nat} {cf:List aq} (gZ:Nat),fx call B ⟨aG,av,H,L,ro⟩=some cf->
  ∃rS,fx call B ⟨aG,av,H,gZ,ro⟩=some rS/\rS.map (·.H)=cf.map (·.H)
 |[],aG,av,H,L,ro,cf,gZ,h=>by
  simp only[fx,az]at h;subst h;exact⟨_,rfl,rfl⟩
 |o::r,aG,av,H,L,ro,cf,gZ,h=>by
  simp only[fx]at h⊢;split at h
  ·split at h
   ·rename_i v H1 bI hs
    have l6:=HA aG av H1 ro o.dst v;obtain⟨nJ,lC,hp⟩:=l6;rw[hp]at h⊢;obtain⟨t0,h0,rfl⟩:=ct.1 h;obtain⟨t1,af,e2⟩:=M5 (min gZ bI) h0;exact⟨_,by rw[af];rfl,by simp[e2]⟩
   ·cases h
  ·have l6:=HA aG av H ro o.dst (.aU [])
   obtain⟨nJ,lC,hp⟩:=l6;rw[hp]at h⊢;obtain⟨t0,h0,rfl⟩:=ct.1 h;obtain⟨t1,af,e2⟩:=M5 gZ h0;exact⟨_,by rw[af];rfl,by simp[e2]⟩
  ·cases h
theorem M6{call:cU}(hc:l3 call):∀{B:List bO} {st fin:aq} {wr e6:List Bool} {cf:List aq},st.low<=st.H.length->cQ call B st wr=some (fin,e6)->fx call B st=some cf->∀T∈cf,fin.low<=T.low/\∀l,l<T.low->T.H[l]? =st.H[l]?
 |[],st,fin,wr,e6,cf,hl,h,ht,T,hT=>by
  simp only[cQ,az,bt]at h;simp only[fx,az]at ht;obtain⟨rfl,-⟩:=h;subst ht;simp only[dA,sP,or_false]at hT;subst hT;exact⟨aK _,fun _ _=>rfl⟩
 |o::r,st,fin,wr,e6,cf,hl,h,ht,T,hT=>by
  have iF:=(oa hc _ _ _ _ _ hl h).1.low;simp only[cQ]at h;simp only[fx]at ht;split at h
  ·rename_i hw
   split at h
   ·rename_i v H1 bI hs
    rw[hw]at ht;simp only[hs]at ht;obtain⟨t0,h0,rfl⟩:=ct.1 ht;rcases dA.1 hT with rfl|hT
    ·exact⟨iF,fun _ _=>rfl⟩
    ·have ab:=yb hc (aK _) hs
     have hp:=j5 {st with H:=H1,low:=min st.low bI} o.dst v
     have yl:(({st with H:=H1,low:=min st.low bI}:aq).put o.dst v).low<=(({st with H:=H1,low:=min st.low bI}:aq).put o.dst v).H.length:=by
      rw[hp.1,hp.2.1];have:=ab.len;show min st.low bI<=H1.length;omega
     obtain⟨q1,aS⟩:=M6 hc yl h h0 T hT;refine⟨q1,fun l aX=> ?_⟩
     have V9:T.low<=min st.low bI:=by
      have:=M1 hc yl h0 T hT;rw[hp.2.1]at this;exact this
     rw[aS l aX,hp.1];exact ab.same l (by omega)
   ·cases h
  ·rename_i hw
   rw[hw]at ht;simp only at ht;obtain⟨t0,h0,rfl⟩:=ct.1 ht;rcases dA.1 hT with rfl|hT
   ·exact⟨iF,fun _ _=>rfl⟩
   ·have hp:=j5 st o.dst (.aU [])
    obtain⟨q1,aS⟩:=M6 hc (by rw[hp.1,hp.2.1];exact hl) h h0 T hT;refine⟨q1,fun l aX=> ?_⟩;rw[aS l aX,hp.1]
  ·cases h
theorem Wa{α β:Type}:∀(n:Nat) (l:List α) (r:List β),(l.zip r).take n=(l.take n).zip (r.take n)
 |0,_,_=>by simp
 |n+1,[],_=>by simp
 |n+1,_::_,[]=>by simp
 |n+1,a::l,b::r=>by simp[Wa n l r]
section
variable{aa:Nat->Option bY}{b:Nat}{σ fD c1:bV}{H:Heap}{Q:X->bV->Heap->Prop}{ms:cN}
theorem M7 (aa:Nat->Option bY):l3 (bZ aa):=fun f args H v H' low' h=>by
 obtain⟨n,hn⟩:=um.1 h;exact Gz aa n f args H v H' low' hn
theorem Wb{ops:List bO}{dE:List Nat}(n:Nat)(aA:Own H ms)(hn:kt ops=n)(hA:fC (bZ aa) ms (ops.take n) mL σ fD c1)
  (dr:b<=H.length->Op aa H.length (ops.drop n) fD c1 H (List.replicate n false) (fun aN H' wr=>wk dE ops wr=true/\Q .normal aN H')):eS aa b (.region ops (some dE)) σ H Q:=fun av low h1 h2 ar=>by
 have Wc:n<=ops.length:=by rw[<-hn];exact LV _ _
 have hlen:(ops.take n).length=n:=by rw[sM];omega
 have mJ:ops.take n++ops.drop n=ops:=B7 n ops;obtain⟨mM,dD,low',f1,f2,f0,f3,f4⟩:=hA.run (b:=b) (wr:=[]) (ops.drop n) sb h1 aA h2 ar;rw[mJ,hlen,rz]at f3;rw[mJ]at f4;obtain⟨HB,wZ,H2,c5,Mv,js,af,e2,bT,cF,ej,j2⟩:=dr ar mM dD H.length f1 f2 (aK _) (aK _);obtain⟨A3,g1,g2⟩:=M4 low' af;obtain⟨ahD,Wd⟩:=DF af;have uT:=M6 (M7 aa) (aK _) af Wd;rw[<-f3]at g1;obtain⟨cf,oc⟩:=DF g1;obtain⟨pQ,q2,rfl,cq,ee,k1⟩:=f4 cf oc;obtain⟨atA,q1,aS⟩:=M5 low' Wd;rw[ee]at q1;cases q1
 have HC:∀T∈q2,Own T.H ms:=fun T hT=>by
  have hm:T.H∈ahD.map (·.H):=by rw[<-aS];exact sL hT
  obtain⟨ahE,uP,e⟩:=ey.1 hm;rw[<-e];obtain⟨bA,b9⟩:=uT ahE uP;refine⟨fun m hm p hp=> ?_,aA.2⟩;have aX:=aA.lt hm hp;rw[b9 p.1 (by simp only at bA;omega)];exact aA.1 m hm p hp
 have r5:nY (bZ aa) dE ops Mv ⟨[],av,H,low,none⟩=true:=by
  unfold nY;rw[oc];simp only[ej,fI]
  have eA:(z7 ops (pQ++q2)).all (jX (bZ aa))=true:=by
   unfold z7;rw[eV];intro q bc;simp only[Cd,QO]at bc;obtain⟨T,hT,⟨o,s⟩,eB,M8⟩:=bc
   have aT:(ops.zip (pQ++q2)).take (kt ops)=(ops.take n).zip pQ:=by
    rw[hn,Wa,List.take_left' (by rw[cq,hlen])]
   rw[aT]at eB
   have ahF:T∈q2:=by
    have hge:pQ.length<=oM ops:=by rw[cq,hlen,<-hn];exact SX ops
    rw[QS,B6 hge,jB]at hT;exact B8 hT
   split at M8
   ·cases M8
    exact k1 _ (HC T ahF) _ eB
   ·cases M8
  rw[eA];simp
 refine⟨.normal,wZ,H2,A3,js,by rw[h6];simp only[g1,r5,Bool.or_true,if_true,aq.fp],e2,?_,cV ar cF,j2⟩;simp only at g2;have:=cV ar bT;omega
end
def H4{A R:Type}(F:(A->Option R)->A->Option R):Nat->A->Option R
 |0,_=>none
 |n+1,a=>F (H4 F n) a
open Classical in
noncomputable def avf{A R:Type}(F:(A->Option R)->A->Option R)(a:A):Option R:=
 if h:∃n r,H4 F n a=some r then some h.choose_spec.choose else none
theorem aHQ{A R:Type}{F:(A->Option R)->A->Option R}{a:A}{r:R}(h:avf F a=some r):∃n,H4 F n a=some r:=by
 unfold avf at h;split at h
 ·rename_i hx
  cases h;exact⟨_,hx.choose_spec.choose_spec⟩
 ·cases h
theorem aDG{A R:Type}{F:(A->Option R)->A->Option R}{a:A}{r:R}{n:Nat}(h:H4 F n a=some r)(hu:∀m mU,H4 F m a=some mU->mU=r):avf F a=some r:=by
 unfold avf;rw[dif_pos ⟨n,r,h⟩];have hx:∃n r,H4 F n a=some r:=⟨n,r,h⟩;rw[hu _ _ hx.choose_spec.choose_spec]
end Go.Abs
namespace Go.Abs
open Go
variable{aa:Nat->Option bY}
def se (n es bytes:Nat)(z:List V):h3:=⟨n,.seq (.region [⟨some (2,true),.mv (.const .cp),none⟩] none)
 (.seq (.seq (.region [⟨some (3,false),.mv (.var 0),none⟩,⟨some (4,true),.pt 1 false (.tmp 3) (.const .cp),none⟩] none)
   (.cond (.var 4) (.seq (.region [⟨some (2,true),.mv (.const .cp),none⟩] none) .ret) .skip))
   (.seq (.region [⟨some (5,false),.lit es z 0 [] true,none⟩,⟨some (6,false),.mv (.var 0),none⟩,⟨some (7,false),.append es bytes (.tmp 5) (.tmp 6),none⟩,⟨some (2,true),.mv (.tmp 7),none⟩] none) .ret)),[.tmp 2],true⟩
def HD{α:Type}(bytes:Nat):ak α->Option (ak α)
 | .nil=>some .nil
 |x=>lG bytes .emp x
theorem ahG{i n es bytes:Nat}{z:List V}(cZ:aa i=some (.code (se n es bytes z)))(hn:1<=n)(H:Heap):bZ aa (.fn i [] []) [.cp] H=some (.cp,H,H.length):=by
 rw[mE,cZ];simp[fZ,se,hn,gn,h6,iO,jD,jC,cQ,b2,step,e3,aq.put,ag.ae,fQ,ec,bk,fy,hE,finish,eP,dF,old,eG,oJ]
theorem ahH{i n es bytes:Nat}{z:List V}(cZ:aa i=some (.code (se n es bytes z)))(hn:1<=n)(H:Heap):bZ aa (.fn i [] []) [.emp] H=some (.emp,H,H.length):=by
 rw[mE,cZ];simp[fZ,se,hn,gn,h6,iO,jD,jC,cQ,b2,step,e3,aq.put,ag.ae,fQ,ec,bk,fy,hE,finish,eP,dF,dX,oK,bW,elems,old,eG,oJ]
theorem ahI{i n es bytes:Nat}{z l:List V}(cZ:aa i=some (.code (se n es bytes z)))(hn:1<=n)(hp:bW l=true)(hc:bS (l.flatMap aE)=true)(hl:l≠[])(hb:l.length*(bytes+1)<=2^40)(H:Heap):
  bZ aa (.fn i [] []) [.list es l] H=some (.cz H.length es 0 l.length l.length,H++[.row es l false],H.length):=by
 have ho:olds H.length l=true:=A0 hp;rw[mE,cZ];simp[fZ,se,hn,gn,h6,iO,jD,jC,cQ,b2,step,e3,aq.put,ag.ae,fQ,ec,bk,fy,hE,finish,eP,dF,dX,oK,bW,elems,old,eG,oJ,tj hp,hl,hc,hb,ho]
theorem ahJ{i n es bytes:Nat}{z:List V}(cZ:aa i=some (.code (se n es bytes z)))(hn:1<=n)(H:Heap):
  bZ aa (.fn i [] []) [.list es []] H=some (.emp,H,H.length):=by
 rw[mE,cZ];simp[fZ,se,hn,gn,h6,iO,jD,jC,cQ,b2,step,e3,aq.put,ag.ae,fQ,ec,bk,fy,hE,finish,eP,dF,dX,oK,bW,elems,old,eG,oJ]
section
variable{b:Nat}{aw σ:bV}{H:Heap}{wr:List Bool}{rest:List bO}
theorem We{α:Type}{i n es bytes:Nat}{f:α->V}{z:List V}{s y:ak α}{vk x:ag}{ms:cN}
  (cZ:aa i=some (.code (se n es bytes z))) (hn:1<=n) (hs:HD bytes s=some y) (aA:Own H ms) (ab:bN aw σ vk=.fn i [] []) (hx:bN aw σ x=bg es f s) (hp:∀a,bs (f a)=true) (hc:∀a,bS (aE (f a))=true) (hb:b<=H.length):
  ∃v H1 m',b2 (bZ aa) (bN aw σ) H H.length (.call true vk [x])=some (v,H1,H.length)/\hf b es f v y m'/\Own H1 (m'::ms)/\H.length<=H1.length:=by
 have key:∀v,bZ aa (.fn i [] []) [bg es f s] H=some (v,H,H.length)->hf b es f v y []->∃v H1 m',b2 (bZ aa) (bN aw σ) H H.length (.call true vk [x])=some (v,H1,H.length)/\hf b es f v y m'/\Own H1 (m'::ms)/\H.length<=H1.length:=fun v hG hr=>
  ⟨v,H,[],by rw[lA];simp[ab,hx,hG],hr,aA.ins 0,aK _⟩
 cases s with
 |nil=>cases hs;exact key _ (ahG cZ hn H) .nil
 |emp=>cases hs;exact key _ (ahH cZ hn H) .emp
 |mk l=>
  have hs:lG bytes .emp (ak.mk l)=some y:=hs;unfold lG at hs;by_cases hl:l=[]
  ·subst hl
   rw[if_pos (show(ak.mk ([]:List α)).l=[]from rfl)]at hs;cases hs;exact key _ (ahJ cZ hn H) .emp
  ·rw[if_neg (show ¬(ak.mk l).l=[]from hl)]at hs
   split at hs
   ·rename_i cY
    cases hs;have hG:=ahI cZ hn (A1 hp l) (Hx hc l) (by simpa using hl) (by simpa[ak.l]using cY) H;refine⟨.cz H.length es 0 (l.map f).length (l.map f).length,H++[.row es (l.map f) false],[(H.length,.row es (l.map f) false)],?_,.row _ _ (by simpa using hl) hb,aA.grow _,by simp⟩;rw[lA];simp only[eo,mT,ab,hx,bg,hG,mA]
   ·cases hs
theorem ahK{α:Type}{i n es bytes:Nat}{f:α->V}{z:List V}{s y:ak α}{d:Option (Nat × Bool)}{g:Option (ag × Bool)}{vk x:ag}{Q:bV->Heap->List Bool->Prop}{ms:cN}(hw:gJ aw σ g=some true)
  (cZ:aa i=some (.code (se n es bytes z))) (hn:1<=n) (hs:HD bytes s=some y) (aA:Own H ms) (ab:bN aw σ vk=.fn i [] []) (hx:bN aw σ x=bg es f s) (hp:∀a,bs (f a)=true) (hc:∀a,bS (aE (f a))=true)
  (cA:∀H' v' m' mv,hf b es f v' y m'->Own H' (m'::ms)->Op aa b rest (fV aw d v') (fW σ d v') H' (mv::wr) Q):Op aa b (⟨d,.call true vk [x],g⟩::rest) aw σ H wr Q:=fun aG av low h1 h2 ar aQ=>by
 obtain⟨v,H1,m',af,e2,bT,cF⟩:=We cZ hn hs aA ab hx hp hc aQ;exact nI (o:=⟨d,.call true vk [x],g⟩) hw (fun hb=>⟨cV hb cF,H.length,hb,af,rfl⟩) (cA H1 v m' _ e2 bT) aG av low h1 h2 ar aQ
end
section
variable{b:Nat}{aw σ:bV}{H:Heap}{wr:List Bool}{rest:List bO}
theorem ahL{es:Nat}{z:List V}{x:ag}{v v':V}{d:Option (Nat × Bool)}{g:Option (ag × Bool)}{ms fO:cN}{Q:bV->Heap->List Bool->Prop}(hw:gJ aw σ g=some true)(aA:Own H ms)(aT:mh b 16 ms v v' fO)(hx:bN aw σ x=v)
  (hp:bs v'=true) (hc:(aE v').length=es/\bS (aE v')=true) (cA:∀H' mv,Own H' fO->Op aa b rest (fV aw d (.list es [v'])) (fW σ d (.list es [v'])) H' (mv::wr) Q):Op aa b (⟨d,.lit es z 1 [(0,x)] true,g⟩::rest) aw σ H wr Q:=fun aG av low h1 h2 ar aQ=>by
 obtain⟨H1,bI,af,hg,dm⟩:=aT H H.length aA aQ;have er:eP H H.length v=some (v',H1,bI):=af;have hl:=(AA er).2;have ab:=MU (es:=es) (z:=kT z) [v'] [] (fun w hw=>by rw[FI]at hw;subst hw;exact hc);refine nI (o:=⟨d,.lit es z 1 [(0,x)] true,g⟩) (v:=.list es [v']) (H1:=H1) (mv:=eG H H1 bI) hw (fun hb=>⟨by omega,bI,dm,?_,rfl⟩) (cA H1 _ hg) aG av low h1 h2 ar aQ;rw[Dv];simp only[step,eo,mT,hx,dX,er,zQ,List.zip_nil_right];simp only[jB,ja,List.length_singleton,List.range'_one,zQ,List.zip_nil_right]at ab;simp only[ab,bW,hp,zV,if_true,Nat.one_ne_zero,if_false]
end
end Go.Abs
set_option maxHeartbeats 2000000
namespace Go.Abs.hk
open Go Go.Abs
structure gk where
 Table:Int
 jt:Int
 da:Int
 deriving Inhabited
def iX (x:gk):V:=.agg [aD x.Table,aD x.jt,aD x.da]
@[simp] theorem ahU (x : gk) : bs (iX x) = true := by simp [iX, bs, bW]
@[simp] theorem ahV (x : gk) : bS (aE (iX x)) = true := by simp [iX, aE, bS]
structure Range where
 kI:Int
 kJ:Int
 deriving Inhabited
def pS (x:Range):V:=.agg [aD x.kI,aD x.kJ]
@[simp] theorem ahW (x : Range) : bs (pS x) = true := by simp [pS, bs, bW]
@[simp] theorem ahX (x : Range) : bS (aE (pS x)) = true := by simp [pS, aE, bS]
structure Table where
 Name:bH
 Kind:Int
 bP:(ak Int)
 Range:Range
 dG:Int
 deriving Inhabited
def lH (x:Table):V:=.agg [.str x.Name,aD x.Kind,bg 1 aD x.bP,aD x.Range.kI,aD x.Range.kJ,aD x.dG]
@[simp] theorem ahY (x : Table) : bs (lH x) = true := by simp [lH, bs, bW]
@[simp] theorem ahZ (x : Table) : bS (aE (lH x)) = true := by simp [lH, aE, bS]
structure Term where
 Cell:Int
 pT:Int
 deriving Inhabited
def tn (x:Term):V:=.agg [aD x.Cell,aD x.pT]
@[simp] theorem ah0 (x : Term) : bs (tn x) = true := by simp [tn, bs, bW]
@[simp] theorem ah1 (x : Term) : bS (aE (tn x)) = true := by simp [tn, aE, bS]
structure Row where
 eT:(ak Term)
 q3:Int
 deriving Inhabited
def tp (x:Row):V:=.agg [bg 2 tn x.eT,aD x.q3]
@[simp] theorem ah2 (x : Row) : bs (tp x) = true := by simp [tp, bs, bW]
@[simp] theorem ah3 (x : Row) : bS (aE (tp x)) = true := by simp [tp, aE, bS]
structure Constraint where
 Kind:Int
 yR:Int
 Row:Row
 dG:Int
 w1:Int
 deriving Inhabited
def sf (x:Constraint):V:=.agg [aD x.Kind,aD x.yR,bg 2 tn x.Row.eT,aD x.Row.q3,aD x.dG,aD x.w1]
@[simp] theorem ah4 (x : Constraint) : bs (sf x) = true := by simp [sf, bs, bW]
@[simp] theorem ah5 (x : Constraint) : bS (aE (sf x)) = true := by simp [sf, aE, bS]
structure cl where
 Name:bH
 Ordered:Bool
 bC:(ak Int)
 deriving Inhabited
def sg (x:cl):V:=.agg [.str x.Name,.bool x.Ordered,bg 1 aD x.bC]
@[simp] theorem ah6 (x : cl) : bs (sg x) = true := by simp [sg, bs, bW]
@[simp] theorem ah7 (x : cl) : bS (aE (sg x)) = true := by simp [sg, aE, bS]
structure Change where
 Cell:Int
 Add:Int
 deriving Inhabited
def tq (x:Change):V:=.agg [aD x.Cell,aD x.Add]
@[simp] theorem ah8 (x : Change) : bs (tq x) = true := by simp [tq, bs, bW]
@[simp] theorem ah9 (x : Change) : bS (aE (tq x)) = true := by simp [tq, aE, bS]
structure mj where
 Kind:Int
 Cell:Int
 Value:Int
 deriving Inhabited
def tr (x:mj):V:=.agg [aD x.Kind,aD x.Cell,aD x.Value]
@[simp] theorem aia (x : mj) : bs (tr x) = true := by simp [tr, bs, bW]
@[simp] theorem aib (x : mj) : bS (aE (tr x)) = true := by simp [tr, aE, bS]
structure eK where
 Delta:(ak Change)
 ia:(ak Row)
 hL:(ak mj)
 deriving Inhabited
def A5 (x:eK):V:=.agg [bg 2 tq x.Delta,bg 2 tp x.ia,bg 3 tr x.hL]
@[simp] theorem aic (x : eK) : bs (A5 x) = true := by simp [A5, bs, bW]
@[simp] theorem aid (x : eK) : bS (aE (A5 x)) = true := by simp [A5, aE, bS]
structure Action where
 cl:Int
 bL:(ak Int)
 eK:eK
 deriving Inhabited
def si (x:Action):V:=.agg [aD x.cl,bg 1 aD x.bL,bg 2 tq x.eK.Delta,bg 2 tp x.eK.ia,bg 3 tr x.eK.hL]
@[simp] theorem aie (x : Action) : bs (si x) = true := by simp [si, bs, bW]
@[simp] theorem aif (x : Action) : bS (aE (si x)) = true := by simp [si, aE, bS]
structure Model where
 bC:(ak Int)
 Tables:(ak Table)
 fE:(ak bH)
 fu:(ak Constraint)
 Operations:(ak cl)
 Actions:(ak Action)
 b7:(ak gk)
 deriving Inhabited
def vn (x:Model):V:=.agg [bg 1 aD x.bC,bg 6 lH x.Tables,bg 1 V.str x.fE,bg 6 sf x.fu,bg 3 sg x.Operations,bg 5 si x.Actions,bg 3 iX x.b7]
@[simp] theorem aih (x : Model) : bs (vn x) = true := by simp [vn, bs, bW]
@[simp] theorem aii (x : Model) : bS (aE (vn x)) = true := by simp [vn, aE, bS]
structure dN where
 Model:Model
 strict:(ak Range)
 deriving Inhabited
def DG (x:dN):V:=.agg [bg 1 aD x.Model.bC,bg 6 lH x.Model.Tables,bg 1 V.str x.Model.fE,bg 6 sf x.Model.fu,bg 3 sg x.Model.Operations,bg 5 si x.Model.Actions,bg 3 iX x.Model.b7,bg 2 pS x.strict]
@[simp] theorem aij (x : dN) : bs (DG x) = true := by simp [DG, bs, bW]
@[simp] theorem aik (x : dN) : bS (aE (DG x)) = true := by simp [DG, aE, bS]
structure Token where
 Kind:Int
 aDH:Int
 At:Int
 End:Int
 deriving Inhabited
def avM (x:Token):V:=.agg [aD x.Kind,aD x.aDH,aD x.At,aD x.End]
@[simp] theorem aHT (x : Token) : bs (avM x) = true := by simp [avM, bs, bW]
@[simp] theorem aHU (x : Token) : bS (aE (avM x)) = true := by simp [avM, aE, bS]
end Go.Abs.hk
namespace Go.Abs.Lex
open Go
def ml (c:UInt8):Bool:=decide (97<=c.toNat)&&decide (c.toNat<=122)
def iY (c:UInt8):Bool:=decide (48<=c.toNat)&&decide (c.toNat<=57)
def om (c:UInt8):Bool:=ml c||iY c||c.toNat==95
def kd (c:UInt8):Bool:=c.toNat==32||c.toNat==9||c.toNat==10||c.toNat==13
def pre (s w:List UInt8):Bool:=s.take w.length==w
def two:List (List UInt8):=[[61,61],[33,61],[60,61],[62,61],[46,46]]
def one:List UInt8:=[60,62,61,43,45,42,40,41,123,125,44,58,59]
def sym (s:List UInt8):Nat:=if two.any (pre s)then 2 else match s with
 |[]=>0
 |c::_=>if one.contains c then 1 else 0
theorem drop_cons{α:Type}{s r:List α}{k:Nat}{c:α}(h:s.drop k=c::r):s[k]? =some c/\s.drop (k+1)=r/\k<s.length:=by
 have cW:k<s.length:=by
  rcases fX k s.length with h1|h1
  ·exact h1
  ·rw[aa5 h1]at h;cases h
 rw[wc cW]at h;injection h with h1 h2;exact⟨by rw[hX cW,h1],h2,cW⟩
theorem drop_nil{α:Type}{s:List α}{k:Nat}(h:s.drop k=[]):s.length<=k:=by
 have:=congrArg List.length h;simp at this;omega
def ke (p:UInt8->Bool)(s:List UInt8):Nat:=(s.takeWhile p).length
theorem yS (p:UInt8->Bool)(c:UInt8)(s:List UInt8):ke p (c::s)=if p c then ke p s+1 else 0:=by
 unfold ke;rw[List.takeWhile_cons];cases p c<;>simp
theorem DH (p:UInt8->Bool):∀s:List UInt8,ke p s<=s.length
 |[]=>aK _
 |c::s=>by
  rw[yS];have:=DH p s;split<;>simp;omega
def eU:Bool->List UInt8->Nat
 | _,[]=>0
 |false,c::r=>if kd c then eU false r+1 else if c.toNat=35 then eU true r+1 else 0
 |true,c::r=>if c.toNat != 10 then eU true r+1 else eU false r+1
theorem DI:∀(b:Bool) (s:List UInt8),eU b s<=s.length
 |b,[]=>by cases b<;>simp[eU]
 |false,c::r=>by
  have h1:=DI false r;have h2:=DI true r;simp only[eU,ev];split
  ·omega
  ·split<;>omega
 |true,c::r=>by
  have h1:=DI false r;have h2:=DI true r;simp only[eU,ev];split<;>omega
theorem Wm:∀s:List UInt8,eU true s=ke (fun c=>c.toNat != 10) s+eU false (s.drop (ke (fun c=>c.toNat != 10) s))
 |[]=>rfl
 |c::r=>by
  rw[yS];by_cases h:(c.toNat != 10)=true
  ·simp only[eU,h,if_true,QI]
   rw[Wm r];omega
  ·have hw:kd c=true:=by
    simp at h;simp[kd,h]
   simp[eU,h,hw]
theorem ail (l:List UInt8)(c:UInt8):0<=Lib.indexByte l c↔c∈l:=by
 induction l with
 |nil=>exact⟨fun h=>absurd h (show ¬(0:Int)<=-1 by decide),fun h=>by cases h⟩
 |cons b l ih=>
  have hge:=Lib.indexByte_ge l c;show(0<=if(b==c)=true then 0 else if(Lib.indexByte l c==-1)=true then -1 else Lib.indexByte l c+1)↔_;by_cases h:b=c
  ·subst h;simp
  ·have h1:(b==c)=false:=by simp[h]
   rw[h1,dA,<-ih];simp only[hY,if_false];by_cases ar:Lib.indexByte l c=-1
   ·simp[ar,kp h]
   ·have aQ:(Lib.indexByte l c==-1)=false:=by simp[ar]
    simp only[aQ,hY,if_false];constructor
    ·intro _;right;omega
    ·rintro(h5|h5)
     ·exact absurd h5.symm h
     ·omega
theorem aim (l:List UInt8)(c:UInt8):decide (0<=Lib.indexByte l c)=l.contains c:=by
 rw[zU,decide_eq_true_iff,ail,ua]
def vo (s:List UInt8):Bool:=match s with
 |[]=>false
 |c::_=>ml c||iY c||decide (0<sym s)
def HI:List UInt8:=[115,111,114,116,32,114,101,108,97,116,105,111,110,32,99,111,117,110,116,101,114,32,115,101,116,32,114,101,103,105,115,116,101,114,32,105,110,118,97,114,105,97,110,116,32,111,112,101,114,97,116,105,111,110,32,107,101,121,32,114,101,102,101,114,101,110,99,101,32,116,111,32,99,111,117,110,116,32,97,99,121,99,108,105,99,32,97,108,108,32,115,117,109,32,105,110,32,97,100,100,119,105,110,115,32,114,101,109,111,118,101,119,105,110,115,32,108,97,115,116,32,109,117,108,116,105,32,104,105,100,101,32,111,114,100,101,114,101,100,32,114,101,113,117,105,114,101,32,104,111,108,100,32,105,110,115,101,114,116,32,100,101,108,101,116,101,32,97,100,100,32,102,114,111,109,32,112,117,116,32,100,114,111,112,32,97,115,115,105,103,110,32,102,111,114,32,119,104,101,114,101,32,97,110,100,32,111,114,32,110,111,116]
def kw:List (List UInt8):=Lib.fields HI
theorem Wn:kw.length=35:=by kernel_rfl
def q4:List UInt8->Nat
 |[]=>0
 |c::r=>if kd c||c.toNat==35||vo (c::r)then 0 else q4 r+1
theorem Wo:∀s:List UInt8,q4 s<=s.length
 |[]=>aK _
 |c::r=>by
  have:=Wo r;simp only[q4,ev];split<;>omega
def fF:List UInt8->Nat
 |[]=>0
 |c::r=>if ml c then(if kw.contains ((c::r).take (ke om (c::r)))then 2 else 1)else if iY c then 3 else if 0<sym (c::r)then 4 else 5
def gB:List UInt8->Nat
 |[]=>0
 |c::r=>if ml c then ke om (c::r)else if iY c then ke iY (c::r)else if 0<sym (c::r)then sym (c::r)else q4 r+1
theorem ain{s w:List UInt8}(h:pre s w=true):w.length<=s.length:=by
 unfold pre at h;have:=eq_of_beq h;rw[<-this,sM];exact qt _ _
theorem aio (s:List UInt8):sym s<=s.length:=by
 unfold sym;split
 ·rename_i h
  obtain⟨w,hw,hp⟩:=ry.1 h;have:=ain hp;have h2:∀w∈two,w.length=2:=by decide
  rw[h2 w hw]at this;exact this
 ·split
  ·exact aK _
  ·split<;>simp
theorem aip (s:List UInt8):gB s<=s.length:=by
 cases s with
 |nil=>exact aK _
 |cons c r=>
  have h1:=DH om (c::r);have h2:=DH iY (c::r);have ar:=aio (c::r);have aQ:=Wo r;simp only[gB];split
  ·exact h1
  ·split
   ·exact h2
   ·split
    ·exact ar
    ·simp;omega
def eW (s:List UInt8)(cO:Nat):Nat:=cO+eU false (s.drop cO)
def iI (s:List UInt8)(cO:Nat):Nat:=eW s cO+gB (s.drop (eW s cO))
theorem Wp{s:List UInt8}{k:Nat}(h:k<=s.length):eW s k<=s.length:=by
 have:=DI false (s.drop k);rw[sN]at this;unfold eW;omega
theorem Ng{s:List UInt8}{k:Nat}(h:k<=s.length):iI s k<=s.length:=by
 have h1:=Wp h;have:=aip (s.drop (eW s k));rw[sN]at this;unfold iI;omega
def kindOf (w:List UInt8):Nat:=if w=[]\/4096<w.length then 0 else if eW w 0=0/\iI w 0=w.length then fF w else 0
def syms:List (List UInt8):=two++one.map fun c=>[c]
def au7 (r:List UInt8):List (List UInt8)->Nat
 |[]=>0
 |w::ws=>if pre r w then w.length else au7 r ws
theorem aDI (r:List UInt8)(vs:List (List UInt8)):∀(ws:List (List UInt8)),(∀w∈ws,w.length=2)->au7 r (ws++vs)=if ws.any (pre r)then 2 else au7 r vs
 |[],_=>rfl
 |w::ws,h=>by
  have ih:=aDI r vs ws (fun w hw=>h w (by simp[hw]));have yr:=h w (by simp);simp only[jz,au7];by_cases hp:pre r w=true
  ·have W1:(w::ws).any (pre r)=true:=by simp[hp]
   rw[if_pos hp,if_pos W1,yr]
  ·have W1:(w::ws).any (pre r)=ws.any (pre r):=by simp[hp]
   rw[if_neg hp,ih,W1]
def aDJ (cs:List UInt8):List UInt8->Nat
 |[]=>0
 |c::_=>if cs.contains c then 1 else 0
theorem aDK (r:List UInt8):∀(cs:List UInt8),au7 r (cs.map fun c=>[c])=aDJ cs r
 |[]=>by cases r<;>rfl
 |d::cs=>by
  have ih:=aDK r cs;simp only[eo,au7];rw[ih];cases r with
  |nil=>rfl
  |cons c r=>
   have e:pre (c::r) [d]=(c==d):=by
    unfold pre;simp only[ev,ja,eO,List.take_succ_cons,List.take_zero];rw[zU];simp
   simp only[e,aDJ,List.contains_cons];by_cases aDL:c=d
   ·subst aDL;simp
   ·have:(c==d)=false:=by simp[aDL]
    rw[this];simp
theorem aHV (r:List UInt8):au7 r syms=sym r:=by
 unfold syms;rw[aDI r _ two (by decide),aDK];cases r<;>rfl
theorem aHW{s w:List UInt8}{k:Nat}(cW:k<=s.length):(decide (k+w.length<=s.length)&&((s.take (k+w.length)).drop k==w))=pre (s.drop k) w:=by
 unfold pre;have e:(s.take (k+w.length)).drop k=(s.drop k).take w.length:=by rw[List.drop_take];congr 1;omega
 rw[e];by_cases h:k+w.length<=s.length
 ·simp[h]
 ·have:((s.drop k).take w.length==w)=false:=by
   rw[Bool.eq_false_iff];intro fj;have:=congrArg List.length (eq_of_beq fj);simp at this;omega
  rw[this];simp
end Go.Abs.Lex
namespace Go.Abs.hk
open Go Go.Abs
noncomputable section
def pU (w:bH):Option Int:=some (Lex.kindOf w)
def DJ (x:ak Range)(n:Int):Option (ak Range):=if x.l.length=1/\1<=n/\n<=1000 then some (.mk ((List.replicate n.toNat x.l).flatten))else none
def auN:Option Bool:=some true
def strings_IndexByte (s:bH)(c:Int):Option Int:=some (Lib.indexByte s (UInt8.ofNat c.toNat))
def vq (ts:List Table)(h:gk):Bool:=
 (decide (h.Table>=0)&&decide (h.Table<ts.length))&&((decide (h.da>=0)&&decide (h.da<ts.length))&&(!(h.Table==h.da)&&match ts[h.Table.toNat]?,ts[h.da.toNat]? with
   |some t,some u=>(t.Kind==0)&&((u.Kind==0)&&((decide (h.jt>=0)&&decide (h.jt<t.bP.l.length))&&((u.bP.l.length==1)&&(u.bP.l.getD 0 0==t.bP.l.getD h.jt.toNat 0))))
   | _,_=>false))
def lI (hs:List gk):Nat->Int->Int->Bool
 |0,a,b=>a==b
 |n+1,a,b=>(a==b)||hs.any fun h=>(h.Table==a)&&lI hs n h.da b
def HJ (hs:List gk)(n:Nat):Bool:=hs.all fun h=>!lI hs n h.da h.Table
def DK (ts:List Table)(hs:List gk):Bool:=decide (hs.length<=12)&&(hs.all (vq ts)&&HJ hs ts.length)
def Wq (j:dN):Option Bool:=some (DK j.Model.Tables.l j.Model.b7.l)
end
end Go.Abs.hk
namespace Go.Abs.hk
open Go Go.Abs
structure DL (hs:List gk) (ks rJ:List Int):Prop where
 sub:∀t∈rJ,t∈ks
 dk:rJ.Nodup
 next:∀t∈rJ,∃h∈hs,h.Table=t/\h.da∈ks
 dQ:∀K:Int->Prop,(∀t,K t->t∈ks)->(∀t,K t->∃h∈hs,h.Table=t/\K h.da)->∀t,K t->t∈rJ
inductive pV (hs:List gk) (ks:List Int):Nat->List Int->Prop
 |zero:pV hs ks 0 ks
 |succ {n:Nat} {cq ee:List Int}:pV hs ks n cq->DL hs cq ee->pV hs ks (n+1) ee
variable{hs:List gk}{ks:List Int}
theorem pV.sub{n:Nat}{k:List Int}(h:pV hs ks n k):∀t∈k,t∈ks:=by
 induction h with
 |zero=>exact fun t h=>h
 |succ _ h2 ih=>exact fun t h=>ih t (h2.sub t h)
theorem pV.dQ{n:Nat}{k:List Int}(h:pV hs ks n k)(K:Int->Prop)(h1:∀t,K t->t∈ks)(h2:∀t,K t->∃h∈hs,h.Table=t/\K h.da):∀t,K t->t∈k:=by
 induction h with
 |zero=>exact h1
 |succ _ ar ih=>exact ar.dQ K ih h2
theorem pV.walk{n:Nat}{k:List Int}(h:pV hs ks n k):∀t∈k,∃f:Nat->Int,f 0=t/\(∀i,i<=n->f i∈ks)/\∀i,i<n->∃h∈hs,h.Table=f i/\h.da=f (i+1):=by
 induction h with
 |zero=>exact fun t ht=>⟨fun _=>t,rfl,fun _ _=>ht,fun i hi=>absurd hi (Nat.not_lt_zero i)⟩
 |@succ n cq ee h1 h2 ih=>
  intro t ht;obtain⟨h,fj,af,e2⟩:=h2.next t ht
  obtain⟨f,f0,f1,f2⟩:=ih h.da e2;refine⟨fun i=>match i with|0=>t|i+1=>f i,rfl,fun i hi=> ?_,fun i hi=> ?_⟩
  ·cases i with
   |zero=>exact h1.sub t (h2.sub t ht)
   |succ i=>exact f1 i (by omega)
  ·cases i with
   |zero=>exact⟨h,fj,af,f0.symm⟩
   |succ i=>exact f2 i (by omega)
theorem HK{α:Type}[BEq α][LawfulBEq α]:∀{l k:List α},l.Nodup->(∀x∈l,x∈k)->l.length<=k.length
 |[],_,_,_=>cx _
 |a::l,k,hn,hs=>by
  obtain⟨h1,h2⟩:=ud.1 hn;have ao:=hs a (by simp);have ih:=HK (l:=l) (k:=k.erase a) h2 fun x hx=>(List.mem_erase_of_ne (fun e=>h1 (by rw[<-e];exact hx))).2 (hs x (by simp[hx]));rw[List.length_erase_of_mem ao]at ih;have:=List.length_pos_of_mem ao;simp only[ev];omega
theorem aiq{f:Nat->Int}{k:List Int}(h:∀i,i<=k.length->f i∈k):∃i j,i<j/\j<=k.length/\f i=f j:=by
 refine Classical.byContradiction fun hc=> ?_
 have hnd:((List.range (k.length+1)).map f).Nodup:=by
  unfold List.Nodup;rw[List.pairwise_map];refine List.pairwise_lt_range.imp_of_mem fun {a b} ao hb pE e=>hc ⟨a,b,pE,?_,e⟩;have:=Ks.1 hb;omega
 have:=HK hnd (k:=k) fun x hx=>by
  obtain⟨i,hi,rfl⟩:=ey.1 hx;have:=Ks.1 hi;exact h i (by omega)
 simp at this;omega
theorem air{n:Nat}{a b:Int}:∀{a:Int},lI hs n a b=true->lI hs (n+1) a b=true:=by
 induction n with
 |zero=>intro a h;simp only[lI]at h⊢; simp[h]
 |succ n ih=>
  intro a h;rw[lI,ko]at h⊢;rcases h with h|h
  ·exact .inl h
  ·refine .inr ?_
   obtain⟨x,hx,h1⟩:=ry.1 h;simp only[b8]at h1;exact ry.2 ⟨x,hx,by simp only[b8];exact⟨h1.1,ih h1.2⟩⟩
theorem ais{n m:Nat}{a b:Int}(h:n<=m)(hl:lI hs n a b=true):lI hs m a b=true:=by
 induction h with
 |refl=>exact hl
 |step _ ih=>exact air (a:=a) ih
theorem Wr{f:Nat->Int}{n:Nat}(h:∀i,i<n->∃h∈hs,h.Table=f i/\h.da=f (i+1)):∀k a,a+k<=n->lI hs k (f a) (f (a+k))=true
 |0,a,_=>by simp[lI]
 |k+1,a,cW=>by
  obtain⟨x,hx,af,e2⟩:=h a (by omega);have ih:=Wr h k (a+1) (by omega);rw[lI,ko];refine .inr (ry.2 ⟨x,hx,?_⟩);rw[af,e2];simp only[beq_self_eq_true,fI];rw[show a+(k+1)=a+1+k by omega];exact ih
theorem ait{n:Nat}{a b:Int}(pE:a≠b)(h:lI hs n a b=true):∃x∈hs,x.Table=a/\∃m,lI hs m x.da b=true:=by
 cases n with
 |zero=>simp only[lI,beq_iff_eq]at h;exact absurd h pE
 |succ n=>
  rw[lI,ko]at h;rcases h with h|h
  ·exact absurd (eq_of_beq h) pE
  ·obtain⟨x,hx,h1⟩:=ry.1 h
   simp only[b8,beq_iff_eq]at h1;exact⟨x,hx,h1.1,n,h1.2⟩
theorem aiu{N:Nat}{k:List Int}(hnd:ks.Nodup)(hm:∀t,t∈ks↔∃h∈hs,h.Table=t)(wN:∀h∈hs,0<=h.Table/\h.Table<N)(hr:pV hs ks hs.length k):decide (k.length=0)=HJ hs N:=by
 have yl:ks.length<=hs.length:=by
  have:=HK hnd (k:=hs.map (·.Table)) fun x hx=>by
   obtain⟨h,h1,h2⟩:=(hm x).1 hx;exact ey.2 ⟨h,h1,h2⟩
  simpa using this
 have Ai:ks.length<=N:=by
  have:=HK hnd (k:=(List.range N).map Int.ofNat) fun x hx=>by
   obtain⟨h,h1,rfl⟩:=(hm x).1 hx;have:=wN h h1;exact ey.2 ⟨h.Table.toNat,Ks.2 (by omega),by simp;omega⟩
  simpa using this
 rw[zU,decide_eq_true_iff];unfold HJ;rw[eV];constructor
 ·intro h0 h fj
  have cW:k=[]:=Kf.1 h0;cases hl:lI hs N h.da h.Table with
  |false=>rfl
  |true=>
   have kC:∀t,(∃n,lI hs n t h.Table=true)->∃x∈hs,x.Table=t/\∃n,lI hs n x.da h.Table=true:=by
    rintro t ⟨n,hn⟩;by_cases e:t=h.Table
    ·exact⟨h,fj,e.symm,N,hl⟩
    ·exact ait e hn
   have:=hr.dQ (fun t=>∃n,lI hs n t h.Table=true) (fun t ht=>by
    obtain⟨x,hx,e,-⟩:=kC t ht;exact(hm t).2 ⟨x,hx,e⟩) kC h.Table ⟨0,by simp[lI]⟩
   rw[cW]at this;cases this
 ·intro eA
  refine Classical.byContradiction fun bf=> ?_;obtain⟨t,ht⟩:=List.exists_mem_of_length_pos (l:=k) (by omega);obtain⟨f,-,f1,f2⟩:=hr.walk t ht;obtain⟨i,j,cK,hj,e⟩:=aiq (f:=f) (k:=ks) fun i hi=>f1 i (by omega);obtain⟨x,hx,af,e2⟩:=f2 i (by omega);have hw:=Wr (n:=hs.length) f2 (j-(i+1)) (i+1) (by omega);rw[show i+1+(j-(i+1))=j by omega,<-e,<-af,<-e2]at hw;have:=eA x hx;rw[ais (m:=N) (by omega) hw]at this;cases this
end Go.Abs.hk
