/- Texts of this claim, joined and written short by a program. -/
import Derived.Test.YtdiodnpdllkbaaaGreatDoorP20
import Derived.Test.YtdiodnpdllkbaaaGreatDoorP00
set_option linter.unusedVariables false
set_option linter.unusedSimpArgs false
set_option linter.unusedSectionVars false
namespace Go.Abs
open Go
section
variable{aa:Nat->Option bY}{b:Nat}{aw σ:bV}{H:Heap}{wr:List Bool}{rest:List bO}{call:cU}{ae:ag->V}
def gi{K W:Type}(gA:K->V)(gj:W->V)(m:List (K × W)):List (V × V):=m.map fun p=>(gA p.1,gj p.2)
theorem DD (a c:Int):ix 0 (aD a) (aD c)=some (a==c):=by simp[ix]
theorem ahw (a c:bH):ix 1 (.str a) (.str c)=some (a==c):=rfl
theorem DE{K W:Type}[BEq K]{gA:K->V}{gj:W->V}{kind:Nat}(heq:∀a c,ix kind (gA a) (gA c)=some (a==c))(k:K):∀m:List (K × W),h4 kind (gA k) (gi gA gj m)=some ((iH m k).map gj)
 |[]=>rfl
 |p::r=>by
  have ih:=DE (gj:=gj) heq k r
  simp only[gi,iH]at ih⊢
  simp only[eo,h4,heq,Kr]
  cases k==p.1<;>simp[ih]
theorem V1{K W:Type}[BEq K]{gA:K->V}{gj:W->V}{kind:Nat}(heq:∀a c,ix kind (gA a) (gA c)=some (a==c))(k:K)(w:W):∀m:List (K × W),ld kind (gA k) (gj w) (gi gA gj m)=gi gA gj (mg m k w)
 |[]=>rfl
 |p::r=>by
  have ih:=V1 (gj:=gj) heq k w r
  simp only[gi]at ih⊢
  simp only[eo,ld,heq,mg]
  cases k==p.1<;>simp[ih]
theorem V2{K W:Type}[BEq K]{gA:K->V}{gj:W->V}{kind a:Nat}{m:List (K × W)}{k:K}{z:V}{x i:ag}(heq:∀a c,ix kind (gA a) (gA c)=some (a==c))(z0:W)(aT:z=gj z0)(bj:H[a]? =some (.map (gi gA gj m)))(hx:ae x=.map a)(hi:ae i=gA k):
  b2 call ae H H.length (.lookup kind z x i false)=some (gj ((iH m k).getD z0),H,H.length):=by
 rw[Hd]
 simp only[step,hx,bj,hi,DE heq]
 cases iH m k<;>simp[aT]
theorem ahx{K W:Type}[BEq K]{gA:K->V}{gj:W->V}{kind a:Nat}{m:List (K × W)}{k:K}{z:V}{x i:ag}(heq:∀a c,ix kind (gA a) (gA c)=some (a==c))(z0:W)(aT:z=gj z0)(bj:H[a]? =some (.map (gi gA gj m)))(hx:ae x=.map a)(hi:ae i=gA k):
  b2 call ae H H.length (.lookup kind z x i true)=some (.aU [gj ((iH m k).getD z0),.bool (iH m k).isSome],H,H.length):=by
 rw[Hd]
 simp only[step,hx,bj,hi,DE heq]
 cases iH m k<;>simp[aT]
theorem V3{K W:Type}{gA:K->V}{gj:W->V}{a:Nat}{m:List (K × W)}{x:ag}(bj:H[a]? =some (.map (gi gA gj m)))(hx:ae x=.map a):b2 call ae H H.length (.len 2 x)=some (aD (m.length:Int),H,H.length):=by
 show step ae H H.length (.len 2 x)=_
 simp[step,hx,bj,gi]
theorem V4{K W:Type}[BEq K]{gA:K->V}{gj:W->V}{kind a:Nat}{m:List (K × W)}{k:K}{w:W}{d:Option (Nat × Bool)}{g:Option (ag × Bool)}{x i y:ag}{Q:bV->Heap->List Bool->Prop}{ms:cN}(hw:gJ aw σ g=some true)
  (heq:∀a c,ix kind (gA a) (gA c)=some (a==c)) (aA:Own H ms) (j:Nat) (hk:ms[j]? =some [(a,.map (gi gA gj m))]) (hb:b<=a) (hx:bN aw σ x=.map a) (hi:bN aw σ i=gA k) (hy:bN aw σ y=gj w) (hp:bs (gj w)=true)
  (cA:∀H',Own H' (ms.set j [(a,.map (gi gA gj (mg m k w)))])->Op aa b rest (fV aw d .undef) (fW σ d .undef) H' (true::wr) Q):Op aa b (⟨d,.px kind x i y,g⟩::rest) aw σ H wr Q:=by
 have bj:=aA.get j hk
 have aX:=wT bj
 have hu:ui (gj w)=false:=by cases ad:gj w<;>simp_all [ui,bs]
 refine nI (o:=⟨d,.px kind x i y,g⟩) (mv:=true) (H1:=H.set a (.map (gi gA gj (mg m k w)))) hw (fun cY=>⟨by simpa using cY,a,hb,?_,by simp[eG,aX]⟩) (cA _ (aA.put j hk))
 simp only[TZ,step,hy]
 have ab:eP H H.length (gj w)=some (gj w,H,H.length):=by simp[eP,dF,hp]
 simp only[ab,hu,hx,bj,hi,DE heq,V1 heq]
 simp[uc (xI aX)]
theorem jr.elems{α:Type}{es:Nat}{f:α->V}{s:ak α}{v:V}{m:List (Nat × cc)}{ms:cN}(aA:Own H ms)(k:Nat)(hk:ms[k]? =some m)(hr:hf b es f v s m):elems H es v=some (s.l.map f):=by
 have gu:jr b es v (s.map f) m:=hr
 generalize vi:s.map f=k5 at gu
 clear hr
 cases gu with
 |nil=>cases s<;>simp_all [ak.map,ak.l,Abs.elems]
 |emp=>cases s<;>simp_all [ak.map,ak.l,Abs.elems]
 |row l ds h hb=>
  have:s.l.map f=ds:=by cases s<;>simp_all [ak.map,ak.l]
  simp[Abs.elems,aA.get k hk,this]
theorem V5{α:Type}{es:Nat}{f:α->V}{s:ak α}{v:V}{m:List (Nat × cc)}{ms:cN}{x:ag}(aA:Own H ms)(k:Nat)(hk:ms[k]? =some m)(hr:hf b es f v s m)(hx:ae x=v):b2 call ae H H.length (.len 1 x)=some (aD s.len,H,H.length):=by
 have gu:jr b es v (s.map f) m:=hr
 generalize vi:s.map f=k5 at gu
 clear hr
 show step ae H H.length (.len 1 x)=_
 cases gu with
 |nil=>cases s<;>simp_all [ak.map,ak.len,ak.l,step]
 |emp=>cases s<;>simp_all [ak.map,ak.len,ak.l,step]
 |row l ds h hb=>
  have:s.l.map f=ds:=by cases s<;>simp_all [ak.map,ak.l]
  subst this
  simp[step,hx,aA.get k hk,ak.len]
theorem ahy{α:Type}{es bytes:Nat}{f:α->V}{z:List V}{e:α}{n:Int}{s:ak α}{bK V6:IntKind}{d:Option (Nat × Bool)}{g:Option (ag × Bool)}{x y:ag}{Q:bV->Heap->List Bool->Prop}{ms:cN}(hw:gJ aw σ g=some true)
  (hs:yI bytes e n=some s) (aA:Own H ms) (aT:kT z=f e) (hx:bN aw σ x=.int bK n) (hy:bN aw σ y=.int V6 n)
  (cA:∀H' v' m' mv,hf b es f v' s m'->Own H' (m'::ms)->Op aa b rest (fV aw d v') (fW σ d v') H' (mv::wr) Q):Op aa b (⟨d,.mkSlice es z bytes x y,g⟩::rest) aw σ H wr Q:=by
 intro aG av low h1 h2 ar aQ
 unfold yI at hs
 split at hs
 ·rename_i hc
  cases hs
  by_cases h0:n=0
  ·subst h0
   refine nI (o:=⟨d,.mkSlice es z bytes x y,g⟩) (mv:=false) (v:=.emp) (H1:=H) hw (fun cY=>⟨cY,H.length,cY,?_,iT H⟩) (cA H .emp [] false ?_ (aA.ins 0)) aG av low h1 h2 ar aQ
   ·rw[MH];simp[step,hx,hy]
   ·exact .emp
  ·refine nI (o:=⟨d,.mkSlice es z bytes x y,g⟩) (mv:=true) (v:=.cz H.length es 0 n.toNat n.toNat) (H1:=H++[.row es (List.replicate n.toNat (f e)) false]) hw
    (fun cY=>⟨by simp;omega,H.length,cY,?_,by simp[eG]⟩) (cA _ _ [(H.length,.row es (List.replicate n.toNat (f e)) false)] true ?_ (aA.grow _)) aG av low h1 h2 ar aQ
   ·rw[MH];simp only[step,hx,hy,aT]
    rw[if_pos ⟨trivial,hc.1,hc.2⟩,if_neg h0]
   ·rw[if_neg h0]
    have:jr b es (.cz H.length es 0 (List.replicate n.toNat (f e)).length (List.replicate n.toNat (f e)).length) (.mk (List.replicate n.toNat (f e))) [(H.length,.row es (List.replicate n.toNat (f e)) false)]:=.row _ _ (by simp;omega) aQ
    simpa[hf,ak.map]using this
 ·cases hs
theorem jr.at{α:Type}{es:Nat}{f:α->V}{s:ak α}{v:V}{m:List (Nat × cc)}{l N:Nat}(hr:hf b es f v s m)(ad:v=.cz l es 0 N N):m=[(l,.row es (s.l.map f) false)]/\N=(s.l.map f).length/\b<=l/\s.map f=.mk (s.l.map f):=by
 have gu:jr b es v (s.map f) m:=hr
 generalize vi:s.map f=k5 at gu
 clear hr
 cases gu with
 |nil=>cases ad
 |emp=>cases ad
 |row l ds h hb=>
  have:s.l.map f=ds:=by cases s<;>simp_all [ak.map,ak.l]
  cases ad
  exact⟨by rw[this],by rw[this],hb,by rw[this]⟩
theorem ahz{α:Type}{es l N off:Nat}{f:α->V}{s:ak α}{n:Int}{e:α}{v u:V}{m:List (Nat × cc)}{ms:cN}{sh:Option Nat}{x:ag}(k:Nat)(he:bQ s.l n=some e)(aA:Own H ms)(hk:ms[k]? =some m)(hr:hf b es f v s m)(ad:v=.cz l es 0 N N)(hu:fY (aE (f e)) off sh=some u)(hx:ae x=.gF l es n.toNat off N):
  b2 call ae H H.length (.load sh x)=some (u,H,H.length):=by
 obtain⟨rfl,rfl,-,-⟩:=hr.at ad
 rw[jK,hx]
 unfold bQ at he
 split at he
 ·simp[gN,aA.get k hk,he,hu]
 ·cases he
theorem ahA{α:Type}{es l N off cJ:Nat}{f:α->V}{s:ak α}{n:Int}{e e':α}{v:V}{m:List (Nat × cc)}{vs:List V}{d:Option (Nat × Bool)}{g:Option (ag × Bool)}{x y:ag}{Q:bV->Heap->List Bool->Prop}{ms:cN}(hw:gJ aw σ g=some true)(k:Nat)
  (he:bQ s.l n=some e) (aA:Own H ms) (hk:ms[k]? =some m) (hr:hf b es f v s m) (ad:v=.cz l es 0 N N) (hx:bN aw σ x=.gF l es n.toNat off N) (hy:aE (bN aw σ y)=vs) (hn:vs.length=cJ) (hp:lQ vs=true) (l6:wi (f e) off vs=some (f e'))
  (cA:∀H' m',hf b es f v (o9 s n e') m'->Own H' (ms.set k m')->Op aa b rest (fV aw d .undef) (fW σ d .undef) H' (true::wr) Q):Op aa b (⟨d,.store cJ x y,g⟩::rest) aw σ H wr Q:=by
 obtain⟨rfl,rfl,hb,eE⟩:=hr.at ad
 have bj:=aA.get k hk
 have aX:=wT bj
 unfold bQ at he
 split at he
 ·rename_i nx
  have hi:n.toNat<s.l.length:=(e2.1 he).1
  have tc:(s.l.map f).set n.toNat (f e')=(o9 s n e').l.map f:=by simp[o9,ak.l,List.map_set]
  have bf:(o9 s n e').l.map f≠[]:=by
   have hlen:((o9 s n e').l.map f).length=s.l.length:=by simp[o9,ak.l]
   intro h0
   rw[h0]at hlen
   simp at hlen
   omega
  refine nI (o:=⟨d,.store cJ x y,g⟩) (mv:=true) (H1:=H.set l (.row es ((o9 s n e').l.map f) false)) hw (fun cY=>⟨by simpa using cY,l,hb,?_,by simp[eG,aX]⟩) (cA _ _ ?_ (aA.put k hk))
  ·simp only[jL,hx,hD,bj,hy]
   rw[if_pos ⟨trivial,trivial,hn,hp⟩]
   simp[he,l6,tc,uc (xI aX)]
  ·have:=jr.row (b:=b) (es:=es) l ((o9 s n e').l.map f) bf hb
   rw[ad]
   have hl:((o9 s n e').l.map f).length=(s.l.map f).length:=by simp[o9,ak.l]
   rw[hl]at this
   exact this
 ·cases he
theorem M0:∀{vs:List V} {H:Heap} {low:Nat},dX H low vs=kq (dF 16) H low vs
 |[],_,_=>rfl
 |v::vs,H,low=>by
  simp only[dX,kq,eP]
  cases dF 16 H low v with
  |none=>rfl
  |some r=>simp only[M0]
theorem V7{d:Option (Nat × Bool)}{g:Option (ag × Bool)}{f:ag}{aO:List ag}{fv v:V}{vs vs':List V}{Q:bV->Heap->List Bool->Prop}{ms fO:cN}(hw:gJ aw σ g=some true)(aA:Own H ms)(aT:nL b 16 ms vs vs' fO)
  (hc:∀H',bZ aa fv vs' H'=some (v,H',H'.length)) (kA:flat v=true) (ao:aO.map (bN aw σ)=vs) (ab:bN aw σ f=fv)
  (cA:Op aa b rest (fV aw d v) (fW σ d v) H (false::wr) Q):Op aa b (⟨d,.call false f aO,g⟩::rest) aw σ H wr Q:=by
 intro aG av low h1 h2 ar aQ
 obtain⟨H1,bI,af,hg,dm⟩:=aT H H.length aA aQ
 refine ha (v:=v) hw ?_ cA aG av low h1 h2 ar aQ
 subst ao;subst ab
 rw[k3,M0,af]
 simp[hc,kA]
theorem ahB{d:Option (Nat × Bool)}{g:Option (ag × Bool)}{f:ag}{aO:List ag}{fv v:V}{vs vs':List V}{Q:bV->Heap->List Bool->Prop}{ms fO:cN}(hw:gJ aw σ g=some true)(aA:Own H ms)(aT:nL b 16 ms vs vs' fO)(hlen:∀H low r,kq (dF 16) H low vs=some r->r.2.1.length=H.length)
  (hc:∀H',bZ aa fv vs' H'=some (v,H',H'.length)) (kA:flat v=false) (ao:aO.map (bN aw σ)=vs) (ab:bN aw σ f=fv)
  (cA:∀H' mv,Own H' fO->Op aa b rest (fV aw d v) (fW σ d v) H' (mv::wr) Q):Op aa b (⟨d,.call false f aO,g⟩::rest) aw σ H wr Q:=by
 intro aG av low h1 h2 ar aQ
 obtain⟨H1,bI,af,hg,dm⟩:=aT H H.length aA aQ
 have hl:=hlen _ _ _ af
 refine nI (o:=⟨d,.call false f aO,g⟩) (v:=v) (H1:=H1) (mv:=eG H H1 (min bI H1.length)) hw (fun hb=>⟨by simp only at hl;omega,min bI H1.length,by simp only at hl;omega,?_,rfl⟩) (cA H1 _ hg) aG av low h1 h2 ar aQ
 subst ao;subst ab
 simp only[]
 rw[k3,M0,af]
 simp[hc,kA]
end
end Go.Abs
namespace Go.Abs
open Go
@[simp] theorem att (l : List V) : aE (.agg l) = l := rfl
@[simp] theorem atu : aE .cp = [.cp] := rfl
@[simp] theorem atv : aE .emp = [.emp] := rfl
@[simp] theorem atw (e : Nat) (l : List V) : aE (.list e l) = [.list e l] := rfl
@[simp] theorem atx (e l : Nat) : aE (.ptr e l) = [.ptr e l] := rfl
@[simp] theorem aty (e : Nat) : aE (.map e) = [.map e] := rfl
@[simp] theorem atz : aE .jb = [.jb] := rfl
abbrev At (σ:bV)(ts:List Nat)(vs:List V):Prop:=ts.map σ=vs
def Hz:bV->List Nat->List V->bV
 |σ,t::ts,v::vs=>Hz (up σ t v) ts vs
 |σ,_,_=>σ
theorem wY:∀{ts:List Nat} {vs:List V} {σ:bV},At σ ts vs->Hz σ ts vs=σ
 |[],[],_,_=>rfl
 |[],_::_,_,h=>by cases h
 | _::_,[],_,h=>by cases h
 |t::ts,v::vs,σ,h=>by
  simp only[At,eo,Ce]at h
  simp only[Hz,ahj h.1]
  exact wY h.2
section
variable{aa:Nat->Option bY}{b:Nat}{aw σ:bV}{H:Heap}{wr:List Bool}{rest:List bO}{call:cU}{ae:ag->V}{d:Option (Nat × Bool)}{op:cH}{t:ag}{β w:Bool}
theorem dv{c:cj}{Q:X->bV->Heap->Prop}{ts:List Nat}{vs:List V}(h:At σ ts vs)(k:eS aa b c (Hz σ ts vs) H Q):eS aa b c σ H Q:=by rw[wY h]at k;exact k
theorem iW{ops:List bO}{c:cj}{Q:X->bV->Heap->Prop}(h:Op aa b ops mL σ H [] (fun aN H' _=>eS aa b c aN H' Q)):eS aa b (.seq (.region ops none) c) σ H Q:=kc (o6 h)
variable{Q:bV->Heap->List Bool->Prop}
theorem pp (v:V)(k:Op aa b rest (fV aw d v) (fW σ d v) H (false::wr) Q)(h:b2 (bZ aa) (bN aw σ) H H.length op=some (v,H,H.length):=by exact rfl):Op aa b (⟨d,op,none⟩::rest) aw σ H wr Q:=ha rfl h k
theorem ph (v:V)(h:b2 (bZ aa) (bN aw σ) H H.length op=some (v,H,H.length))(k:Op aa b rest (fV aw d v) (fW σ d v) H (false::wr) Q):Op aa b (⟨d,op,none⟩::rest) aw σ H wr Q:=ha rfl h k
theorem h9 (v:V)(c:β=w)(k:Op aa b rest (fV aw d v) (fW σ d v) H (false::wr) Q)(h:b2 (bZ aa) (bN aw σ) H H.length op=some (v,H,H.length):=by exact rfl)(ht:bN aw σ t=.bool β:=by exact rfl):Op aa b (⟨d,op,some (t,w)⟩::rest) aw σ H wr Q:=ha (hJ ht c) h k
theorem mi (c:β=false)(k:Op aa b rest (fV aw d (.aU [])) (fW σ d (.aU [])) H (false::wr) Q)(ht:bN aw σ t=.bool β:=by exact rfl):Op aa b (⟨d,op,some (t,true)⟩::rest) aw σ H wr Q:=MO (Ht ht c) k
theorem ca (c:β=true)(k:Op aa b rest (fV aw d (.aU [])) (fW σ d (.aU [])) H (false::wr) Q)(ht:bN aw σ t=.bool β:=by exact rfl):Op aa b (⟨d,op,some (t,false)⟩::rest) aw σ H wr Q:=MO (Hu ht c) k
end
theorem A2:∀{vs:List V} {n:Nat} {H:Heap} {low:Nat},bW vs=true->kq (dF n) H low vs=some (vs,H,low)
 |[],_,_,_,_=>rfl
 |v::r,n,H,low,h=>by
  simp only[bW,b8]at h
  have h1:dF n H low v=some (v,H,low):=by cases n<;>simp[dF,h.1]
  simp only[kq,h1,A2 h.2]
theorem mh.ahC{b n:Nat}{ms fO:cN}{vs vs':List V}(h:nL b n ms vs vs' fO):mh b (n+1) ms (.aU vs) (.aU vs') fO:=by
 cases hp:bW vs with
 |false=>exact .aU h hp
 |true=>
  intro H low aA hb
  obtain⟨H1,bI,af,hg,dm⟩:=h H low aA hb
  rw[A2 hp]at af
  cases af
  exact⟨H,low,by simp[dF,bs,hp],hg,dm⟩
section
variable{aa:Nat->Option bY}{b:Nat}{σ:bV}{H:Heap}
theorem fe{S O:Type}{c:cj}{Q:X->bV->Heap->Prop}(f:S->Option (dM S O))(I:S->bV->Heap->Prop)(P:O->X->bV->Heap->Prop){s:S}{o:O}(h:c0 f s=some o)(aW:I s σ H)
 (round:∀s σ H r,I s σ H->f s=some r->eS aa b c σ H fun x aN H'=>match r with
   | .next al=>x=.normal/\I al aN H'
   | .out o=>x≠ .normal/\P o x aN H') (k:∀x aN H',P o x aN H'->Q x aN H'):eS aa b (.loop c) σ H Q:=wU (P o) (ahn f I P round h aW) k
end
end Go.Abs
namespace Go.Abs
open Go
inductive fC (call:cU) (ms:cN):List bO->bV->bV->bV->bV->Prop
 |nil {aw σ:bV}:fC call ms [] aw σ aw σ
 |step {o:bO} {rest:List bO} {aw σ bB aN:bV} {v:V} (hw:gJ aw σ o.guard=some true) (h:∀H,Own H ms->b2 call (bN aw σ) H H.length o.op=some (v,H,H.length)) (k:fC call ms rest (fV aw o.dst v) (fW σ o.dst v) bB aN):fC call ms (o::rest) aw σ bB aN
 |skip {o:bO} {rest:List bO} {aw σ bB aN:bV} (hw:gJ aw σ o.guard=some false) (k:fC call ms rest (fV aw o.dst (.aU [])) (fW σ o.dst (.aU [])) bB aN):fC call ms (o::rest) aw σ bB aN
section
variable{call:cU}{ms:cN}{d:Option (Nat × Bool)}{op:cH}{rest:List bO}{aw σ bB aN:bV}{t:ag}{β w:Bool}
theorem fC.pp (v:V)(k:fC call ms rest (fV aw d v) (fW σ d v) bB aN)(h:∀H,Own H ms->b2 call (bN aw σ) H H.length op=some (v,H,H.length):=by exact fun _ _=>rfl):fC call ms (⟨d,op,none⟩::rest) aw σ bB aN:=.step rfl h k
theorem fC.ph (v:V)(h:∀H,Own H ms->b2 call (bN aw σ) H H.length op=some (v,H,H.length))(k:fC call ms rest (fV aw d v) (fW σ d v) bB aN):fC call ms (⟨d,op,none⟩::rest) aw σ bB aN:=.step rfl h k
theorem fC.h9 (v:V)(c:β=w)(h:∀H,Own H ms->b2 call (bN aw σ) H H.length op=some (v,H,H.length))(k:fC call ms rest (fV aw d v) (fW σ d v) bB aN)(ht:bN aw σ t=.bool β:=by exact rfl):fC call ms (⟨d,op,some (t,w)⟩::rest) aw σ bB aN:=.step (hJ ht c) h k
theorem fC.mi (c:β=false)(k:fC call ms rest (fV aw d (.aU [])) (fW σ d (.aU [])) bB aN)(ht:bN aw σ t=.bool β:=by exact rfl):fC call ms (⟨d,op,some (t,true)⟩::rest) aw σ bB aN:=.skip (Ht ht c) k
theorem fC.ca (c:β=true)(k:fC call ms rest (fV aw d (.aU [])) (fW σ d (.aU [])) bB aN)(ht:bN aw σ t=.bool β:=by exact rfl):fC call ms (⟨d,op,some (t,false)⟩::rest) aw σ bB aN:=.skip (Hu ht c) k
end
theorem V8 (v:V):dP v v=true:=by
 have key:(∀v,dP v v=true)/\(∀vs,mV vs vs=true):=by
  refine⟨fun v=> ?_,fun vs=> ?_⟩
  ·exact V.rec (motive_1:=fun v=>dP v v=true) (motive_2:=fun vs=>mV vs vs=true)
    (by simp[dP]) (by simp[dP]) (by simp[dP]) rfl rfl (by intro e ds h;simp[dP,h]) (by intro vs h;simpa[dP]using h) (by intro vs h;simpa[dP]using h) rfl (by simp[dP]) (by simp[dP])
    (by intro vs f h;simp[dP,h]) (by simp[dP]) rfl (by simp[dP]) rfl (by intro i a b h1 h2;simp[dP,h1,h2]) (by simp[dP]) rfl (by intro t v h;simp[dP,h]) rfl rfl (by intro a r h1 h2;simp[mV,h1,h2]) v
  ·exact V.rec_1 (motive_1:=fun v=>dP v v=true) (motive_2:=fun vs=>mV vs vs=true)
    (by simp[dP]) (by simp[dP]) (by simp[dP]) rfl rfl (by intro e ds h;simp[dP,h]) (by intro vs h;simpa[dP]using h) (by intro vs h;simpa[dP]using h) rfl (by simp[dP]) (by simp[dP])
    (by intro vs f h;simp[dP,h]) (by simp[dP]) rfl (by simp[dP]) rfl (by intro i a b h1 h2;simp[dP,h1,h2]) (by simp[dP]) rfl (by intro t v h;simp[dP,h]) rfl rfl (by intro a r h1 h2;simp[mV,h1,h2]) vs
 exact key.1 v
theorem DF{call:cU}:∀{ops:List bO} {st aF:aq} {wr e6:List Bool},cQ call ops st wr=some (aF,e6)->∃cf,fx call ops st=some cf
 |[],st,_,_,_,_=>⟨[st],rfl⟩
 |o::r,st,aF,wr,e6,h=>by
  simp only[cQ]at h
  simp only[fx]
  split at h
  ·split at h
   ·obtain⟨cf,e⟩:=DF h
    exact⟨_,by rw[e];rfl⟩
   ·cases h
  ·obtain⟨cf,e⟩:=DF h
   exact⟨_,by rw[e];rfl⟩
  ·cases h
theorem fC.run{call:cU}{ms:cN}:∀{A:List bO} {aw σ bB aN:bV},fC call ms A aw σ bB aN->∀{aG av:Env} {H:Heap} {low b:Nat} {wr:List Bool} (B:List bO),Fits aG aw->Fits av σ->Own H ms->b<=low->b<=H.length->
  ∃mM dD low',Fits mM bB/\Fits dD aN/\b<=low'/\cQ call (A++B) ⟨aG,av,H,low,none⟩ wr=cQ call B ⟨mM,dD,H,low',none⟩ (List.replicate A.length false++wr)/\
   ∀cf,fx call (A++B) ⟨aG,av,H,low,none⟩=some cf->∃pQ q2,cf=pQ++q2/\pQ.length=A.length/\fx call B ⟨mM,dD,H,low',none⟩=some q2/\
    ∀H',Own H' ms->∀p∈A.zip pQ,jX call (p.1,p.2,H')=true
 |[],aw,σ,_,_,.nil,aG,av,H,low,b,wr,B,h1,h2,_,hb,_=>⟨aG,av,low,h1,h2,hb,rfl,fun cf h=>⟨[],cf,rfl,rfl,h,fun _ _ p hp=>by cases hp⟩⟩
 |o::A,aw,σ,bB,aN,.step (v:=v) hw h k,aG,av,H,low,b,wr,B,h1,h2,aA,hb,iA=>by
  obtain⟨nJ,lC,af,aj,bT⟩:=yG h1 h2 H (min low H.length) o.dst v
  obtain⟨mM,dD,low',f1,f2,f0,f3,f4⟩:=k.run (b:=b) (low:=min low H.length) (wr:=false::wr) B aj bT aA (by omega) iA
  have oj:=hw;rw[<-DA h1 h2]at oj
  have hs:=h H aA
  rw[<-vf h1 h2]at hs
  refine⟨mM,dD,low',f1,f2,f0,?_,fun cf ht=> ?_⟩
  ·simp only[jz,cQ,oj,hs,iT]
   rw[af,f3]
   simp only[ev,List.replicate_succ']
   rw[mS];rfl
  ·simp only[jz,fx,oj,hs]at ht
   rw[af]at ht
   obtain⟨rS,eC,rfl⟩:=ct.1 ht
   obtain⟨pQ,q2,rfl,g1,g2,g3⟩:=f4 rS eC
   refine⟨_::pQ,q2,rfl,by simp[g1],g2,fun H' tk p hp=> ?_⟩
   rw[zQ]at hp
   rcases dA.1 hp with rfl|hp
   ·have yC:=h H' tk
    rw[<-vf h1 h2]at yC
    simp only[jX,oj,hs,yC,iT,ue,xH,V8]
   ·exact g3 H' tk p hp
 |o::A,aw,σ,bB,aN,.skip hw k,aG,av,H,low,b,wr,B,h1,h2,aA,hb,iA=>by
  obtain⟨nJ,lC,af,aj,bT⟩:=yG h1 h2 H low o.dst (.aU [])
  obtain⟨mM,dD,low',f1,f2,f0,f3,f4⟩:=k.run (b:=b) (wr:=false::wr) B aj bT aA hb iA
  have oj:=hw;rw[<-DA h1 h2]at oj
  refine⟨mM,dD,low',f1,f2,f0,?_,fun cf ht=> ?_⟩
  ·simp only[jz,cQ,oj]
   rw[af,f3]
   simp only[ev,List.replicate_succ']
   rw[mS];rfl
  ·simp only[jz,fx,oj]at ht
   rw[af]at ht
   obtain⟨rS,eC,rfl⟩:=ct.1 ht
   obtain⟨pQ,q2,rfl,g1,g2,g3⟩:=f4 rS eC
   refine⟨_::pQ,q2,rfl,by simp[g1],g2,fun H' tk p hp=> ?_⟩
   rw[zQ]at hp
   rcases dA.1 hp with rfl|hp
   ·simp only[jX,oj]
   ·exact g3 H' tk p hp
theorem Own.more{H:Heap}{ms:cN}(h:Own H ms)(X:Heap):Own (H++X) ms:=
 ⟨fun m hm p hp=>by rw[gE (h.lt hm hp)];exact h.1 m hm p hp,h.2⟩
theorem HA (aG av:Env)(H:Heap)(ro:Option Nat)(d:Option (Nat × Bool))(v:V):∃nJ lC,∀l:Nat,aq.put ⟨aG,av,H,l,ro⟩ d v=⟨nJ,lC,H,l,ro⟩:=by
 match d with
 |none=>exact⟨aG,av,fun _=>rfl⟩
 |some (t,true)=>exact⟨aG,ec av t v,fun _=>rfl⟩
 |some (t,false)=>exact⟨(t,v)::aG,av,fun _=>rfl⟩
theorem M1{call:cU}(hc:l3 call):∀{B:List bO} {st:aq} {cf:List aq},st.low<=st.H.length->fx call B st=some cf->∀T∈cf,T.low<=st.low
 |[],st,cf,hl,ht,T,hT=>by
  simp only[fx,az]at ht
  subst ht
  simp only[dA,sP,or_false]at hT
  subst hT;exact aK _
 |o::r,st,cf,hl,ht,T,hT=>by
  simp only[fx]at ht
  split at ht
  ·split at ht
   ·rename_i v H1 bI hs
    obtain⟨t0,h0,rfl⟩:=ct.1 ht
    rcases dA.1 hT with rfl|hT
    ·exact aK _
    ·have ab:=yb hc (aK _) hs
     have hp:=j5 {st with H:=H1,low:=min st.low bI} o.dst v
     have:=M1 hc (by rw[hp.1,hp.2.1];have:=ab.len;show min st.low bI<=H1.length;omega) h0 T hT
     rw[hp.2.1]at this
     exact cV this (jU _ _)
   ·cases ht
  ·obtain⟨t0,h0,rfl⟩:=ct.1 ht
   rcases dA.1 hT with rfl|hT
   ·exact aK _
   ·have hp:=j5 st o.dst (.aU [])
    have:=M1 hc (by rw[hp.1,hp.2.1];exact hl) h0 T hT
    rw[hp.2.1]at this;exact this
  ·cases ht
theorem M3{call:cU}:∀{B:List bO} {st fin:aq} {wr e6:List Bool},cQ call B st wr=some (fin,e6)->fin.low<=st.low
 |[],st,fin,wr,e6,h=>by
  simp only[cQ,az,bt]at h
  rw[h.1];exact aK _
 |o::r,st,fin,wr,e6,h=>by
  simp only[cQ]at h
  split at h
  ·split at h
   ·rename_i v H1 bI hs
    have:=M3 h
    rw[(j5 {st with H:=H1,low:=min st.low bI} o.dst v).2.1]at this
    exact cV this (jU _ _)
   ·cases h
  ·have:=M3 h
   rw[(j5 st o.dst (.aU [])).2.1]at this;exact this
  ·cases h
theorem M4{call:cU}:∀{B:List bO} {aG av:Env} {H:Heap} {L:Nat} {ro:Option Nat} {wr e6:List Bool} {fin:aq} (gZ:Nat),cQ call B ⟨aG,av,H,L,ro⟩ wr=some (fin,e6)->
  ∃A3,cQ call B ⟨aG,av,H,gZ,ro⟩ wr=some ({fin with low:=A3},e6)/\min gZ fin.low<=A3
 |[],aG,av,H,L,ro,wr,e6,fin,gZ,h=>by
  simp only[cQ,az,bt]at h
  obtain⟨rfl,rfl⟩:=h
  exact⟨gZ,rfl,jU _ _⟩
 |o::r,aG,av,H,L,ro,wr,e6,fin,gZ,h=>by
  simp only[cQ]at h⊢
  split at h
  ·split at h
   ·rename_i v H1 bI hs
    have l6:=HA aG av H1 ro o.dst v
    obtain⟨nJ,lC,hp⟩:=l6
    rw[hp]at h⊢
    obtain⟨A3,e,hl⟩:=M4 (min gZ bI) h
    have hx:=M3 h
    exact⟨A3,e,by simp only at hx;omega⟩
   ·cases h
  ·have l6:=HA aG av H ro o.dst (.aU [])
   obtain⟨nJ,lC,hp⟩:=l6
   rw[hp]at h⊢
   exact M4 gZ h
  ·cases h
theorem M5{call:cU}:∀{B:List bO} {aG av:Env} {H:Heap} {L:Nat} {ro:Option Nat} {cf:List aq} (gZ:Nat),fx call B ⟨aG,av,H,L,ro⟩=some cf->
  ∃rS,fx call B ⟨aG,av,H,gZ,ro⟩=some rS/\rS.map (·.H)=cf.map (·.H)
 |[],aG,av,H,L,ro,cf,gZ,h=>by
  simp only[fx,az]at h
  subst h
  exact⟨_,rfl,rfl⟩
 |o::r,aG,av,H,L,ro,cf,gZ,h=>by
  simp only[fx]at h⊢
  split at h
  ·split at h
   ·rename_i v H1 bI hs
    have l6:=HA aG av H1 ro o.dst v
    obtain⟨nJ,lC,hp⟩:=l6
    rw[hp]at h⊢
    obtain⟨t0,h0,rfl⟩:=ct.1 h
    obtain⟨t1,af,aj⟩:=M5 (min gZ bI) h0
    exact⟨_,by rw[af];rfl,by simp[aj]⟩
   ·cases h
  ·have l6:=HA aG av H ro o.dst (.aU [])
   obtain⟨nJ,lC,hp⟩:=l6
   rw[hp]at h⊢
   obtain⟨t0,h0,rfl⟩:=ct.1 h
   obtain⟨t1,af,aj⟩:=M5 gZ h0
   exact⟨_,by rw[af];rfl,by simp[aj]⟩
  ·cases h
theorem M6{call:cU}(hc:l3 call):∀{B:List bO} {st fin:aq} {wr e6:List Bool} {cf:List aq},st.low<=st.H.length->cQ call B st wr=some (fin,e6)->fx call B st=some cf->∀T∈cf,fin.low<=T.low/\∀l,l<T.low->T.H[l]? =st.H[l]?
 |[],st,fin,wr,e6,cf,hl,h,ht,T,hT=>by
  simp only[cQ,az,bt]at h
  simp only[fx,az]at ht
  obtain⟨rfl,-⟩:=h
  subst ht
  simp only[dA,sP,or_false]at hT
  subst hT
  exact⟨aK _,fun _ _=>rfl⟩
 |o::r,st,fin,wr,e6,cf,hl,h,ht,T,hT=>by
  have iF:=(oa hc _ _ _ _ _ hl h).1.low
  simp only[cQ]at h
  simp only[fx]at ht
  split at h
  ·rename_i hw
   split at h
   ·rename_i v H1 bI hs
    rw[hw]at ht
    simp only[hs]at ht
    obtain⟨t0,h0,rfl⟩:=ct.1 ht
    rcases dA.1 hT with rfl|hT
    ·exact⟨iF,fun _ _=>rfl⟩
    ·have ab:=yb hc (aK _) hs
     have hp:=j5 {st with H:=H1,low:=min st.low bI} o.dst v
     have yl:(({st with H:=H1,low:=min st.low bI}:aq).put o.dst v).low<=(({st with H:=H1,low:=min st.low bI}:aq).put o.dst v).H.length:=by
      rw[hp.1,hp.2.1]
      have:=ab.len
      show min st.low bI<=H1.length
      omega
     obtain⟨q1,aS⟩:=M6 hc yl h h0 T hT
     refine⟨q1,fun l aX=> ?_⟩
     have V9:T.low<=min st.low bI:=by
      have:=M1 hc yl h0 T hT
      rw[hp.2.1]at this;exact this
     rw[aS l aX,hp.1]
     exact ab.same l (by omega)
   ·cases h
  ·rename_i hw
   rw[hw]at ht
   simp only at ht
   obtain⟨t0,h0,rfl⟩:=ct.1 ht
   rcases dA.1 hT with rfl|hT
   ·exact⟨iF,fun _ _=>rfl⟩
   ·have hp:=j5 st o.dst (.aU [])
    obtain⟨q1,aS⟩:=M6 hc (by rw[hp.1,hp.2.1];exact hl) h h0 T hT
    refine⟨q1,fun l aX=> ?_⟩
    rw[aS l aX,hp.1]
  ·cases h
theorem Wa{α β:Type}:∀(n:Nat) (l:List α) (r:List β),(l.zip r).take n=(l.take n).zip (r.take n)
 |0,_,_=>by simp
 |n+1,[],_=>by simp
 |n+1,_::_,[]=>by simp
 |n+1,a::l,b::r=>by simp[Wa n l r]
section
variable{aa:Nat->Option bY}{b:Nat}{σ fD c1:bV}{H:Heap}{Q:X->bV->Heap->Prop}{ms:cN}
theorem M7 (aa:Nat->Option bY):l3 (bZ aa):=fun f args H v H' low' h=>by
 obtain⟨n,hn⟩:=um.1 h
 exact Gz aa n f args H v H' low' hn
theorem Wb{ops:List bO}{dE:List Nat}(n:Nat)(aA:Own H ms)(hn:kt ops=n)(hA:fC (bZ aa) ms (ops.take n) mL σ fD c1)
  (dr:b<=H.length->Op aa H.length (ops.drop n) fD c1 H (List.replicate n false) (fun aN H' wr=>wk dE ops wr=true/\Q .normal aN H')):eS aa b (.region ops (some dE)) σ H Q:=fun av low h1 h2 ar=>by
 have Wc:n<=ops.length:=by rw[<-hn];exact LV _ _
 have hlen:(ops.take n).length=n:=by rw[sM];omega
 have mJ:ops.take n++ops.drop n=ops:=B7 n ops
 obtain⟨mM,dD,low',f1,f2,f0,f3,f4⟩:=hA.run (b:=b) (wr:=[]) (ops.drop n) sb h1 aA h2 ar
 rw[mJ,hlen,rz]at f3
 rw[mJ]at f4
 obtain⟨HB,wZ,H2,c5,Mv,js,af,aj,bT,cF,ej,j2⟩:=dr ar mM dD H.length f1 f2 (aK _) (aK _)
 obtain⟨A3,g1,g2⟩:=M4 low' af
 obtain⟨ahD,Wd⟩:=DF af
 have uT:=M6 (M7 aa) (aK _) af Wd
 rw[<-f3]at g1
 obtain⟨cf,oc⟩:=DF g1
 obtain⟨pQ,q2,rfl,cq,ee,k1⟩:=f4 cf oc
 obtain⟨atA,q1,aS⟩:=M5 low' Wd
 rw[ee]at q1
 cases q1
 have HC:∀T∈q2,Own T.H ms:=fun T hT=>by
  have hm:T.H∈ahD.map (·.H):=by rw[<-aS];exact sL hT
  obtain⟨ahE,uP,e⟩:=ey.1 hm
  rw[<-e]
  obtain⟨bA,b9⟩:=uT ahE uP
  refine⟨fun m hm p hp=> ?_,aA.2⟩
  have aX:=aA.lt hm hp
  rw[b9 p.1 (by simp only at bA;omega)]
  exact aA.1 m hm p hp
 have r5:nY (bZ aa) dE ops Mv ⟨[],av,H,low,none⟩=true:=by
  unfold nY
  rw[oc]
  simp only[ej,fI]
  have eA:(z7 ops (pQ++q2)).all (jX (bZ aa))=true:=by
   unfold z7
   rw[eV]
   intro q bc
   simp only[Cd,QO]at bc
   obtain⟨T,hT,⟨o,s⟩,eB,M8⟩:=bc
   have aT:(ops.zip (pQ++q2)).take (kt ops)=(ops.take n).zip pQ:=by
    rw[hn,Wa,List.take_left' (by rw[cq,hlen])]
   rw[aT]at eB
   have ahF:T∈q2:=by
    have hge:pQ.length<=oM ops:=by rw[cq,hlen,<-hn];exact SX ops
    rw[QS,B6 hge,jB]at hT
    exact B8 hT
   split at M8
   ·cases M8
    exact k1 _ (HC T ahF) _ eB
   ·cases M8
  rw[eA];simp
 refine⟨.normal,wZ,H2,A3,js,by rw[h6];simp only[g1,r5,Bool.or_true,if_true,aq.fp],aj,?_,cV ar cF,j2⟩
 simp only at g2
 have:=cV ar bT
 omega
end
end Go.Abs
namespace Go.Abs
open Go
variable{aa:Nat->Option bY}
def se (n es bytes:Nat)(z:List V):h3:=⟨n,.seq (.region [⟨some (2,true),.mv (.const .cp),none⟩] none)
 (.seq (.seq (.region [⟨some (3,false),.mv (.var 0),none⟩,⟨some (4,true),.pt 1 false (.tmp 3) (.const .cp),none⟩] none)
   (.cond (.var 4) (.seq (.region [⟨some (2,true),.mv (.const .cp),none⟩] none) .ret) .skip))
   (.seq (.region [⟨some (5,false),.lit es z 0 [] true,none⟩,⟨some (6,false),.mv (.var 0),none⟩,⟨some (7,false),.append es bytes (.tmp 5) (.tmp 6),none⟩,⟨some (2,true),.mv (.tmp 7),none⟩] none) .ret)),[.tmp 2],true⟩
def HD{α:Type}(bytes:Nat):ak α->Option (ak α)
 | .nil=>some .nil
 |x=>lG bytes .emp x
theorem ahG{i n es bytes:Nat}{z:List V}(cZ:aa i=some (.code (se n es bytes z)))(hn:1<=n)(H:Heap):bZ aa (.fn i [] []) [.cp] H=some (.cp,H,H.length):=by
 rw[mE,cZ]
 simp[fZ,se,hn,gn,h6,iO,jD,jC,cQ,b2,step,e3,aq.put,ag.ae,fQ,ec,bk,fy,hE,finish,eP,dF,old,eG,oJ]
theorem ahH{i n es bytes:Nat}{z:List V}(cZ:aa i=some (.code (se n es bytes z)))(hn:1<=n)(H:Heap):bZ aa (.fn i [] []) [.emp] H=some (.emp,H,H.length):=by
 rw[mE,cZ]
 simp[fZ,se,hn,gn,h6,iO,jD,jC,cQ,b2,step,e3,aq.put,ag.ae,fQ,ec,bk,fy,hE,finish,eP,dF,dX,oK,bW,elems,old,eG,oJ]
theorem ahI{i n es bytes:Nat}{z l:List V}(cZ:aa i=some (.code (se n es bytes z)))(hn:1<=n)(hp:bW l=true)(hc:bS (l.flatMap aE)=true)(hl:l≠[])(hb:l.length*(bytes+1)<=2^40)(H:Heap):
  bZ aa (.fn i [] []) [.list es l] H=some (.cz H.length es 0 l.length l.length,H++[.row es l false],H.length):=by
 have ho:ez H.length l=true:=A0 hp
 rw[mE,cZ]
 simp[fZ,se,hn,gn,h6,iO,jD,jC,cQ,b2,step,e3,aq.put,ag.ae,fQ,ec,bk,fy,hE,finish,eP,dF,dX,oK,bW,elems,old,eG,oJ,tj hp,hl,hc,hb,ho]
theorem ahJ{i n es bytes:Nat}{z:List V}(cZ:aa i=some (.code (se n es bytes z)))(hn:1<=n)(H:Heap):
  bZ aa (.fn i [] []) [.list es []] H=some (.emp,H,H.length):=by
 rw[mE,cZ]
 simp[fZ,se,hn,gn,h6,iO,jD,jC,cQ,b2,step,e3,aq.put,ag.ae,fQ,ec,bk,fy,hE,finish,eP,dF,dX,oK,bW,elems,old,eG,oJ]
section
variable{b:Nat}{aw σ:bV}{H:Heap}{wr:List Bool}{rest:List bO}
theorem We{α:Type}{i n es bytes:Nat}{f:α->V}{z:List V}{s y:ak α}{vk x:ag}{ms:cN}
  (cZ:aa i=some (.code (se n es bytes z))) (hn:1<=n) (hs:HD bytes s=some y) (aA:Own H ms) (ab:bN aw σ vk=.fn i [] []) (hx:bN aw σ x=bg es f s) (hp:∀a,bs (f a)=true) (hc:∀a,bS (aE (f a))=true) (hb:b<=H.length):
  ∃v H1 m',b2 (bZ aa) (bN aw σ) H H.length (.call true vk [x])=some (v,H1,H.length)/\hf b es f v y m'/\Own H1 (m'::ms)/\H.length<=H1.length:=by
 have key:∀v,bZ aa (.fn i [] []) [bg es f s] H=some (v,H,H.length)->hf b es f v y []->∃v H1 m',b2 (bZ aa) (bN aw σ) H H.length (.call true vk [x])=some (v,H1,H.length)/\hf b es f v y m'/\Own H1 (m'::ms)/\H.length<=H1.length:=fun v hG hr=>
  ⟨v,H,[],by rw[lA];simp[ab,hx,hG],hr,aA.ins 0,aK _⟩
 cases s with
 |nil=>cases hs;exact key _ (ahG cZ hn H) .nil
 |emp=>cases hs;exact key _ (ahH cZ hn H) .emp
 |mk l=>
  have hs:lG bytes .emp (ak.mk l)=some y:=hs
  unfold lG at hs
  by_cases hl:l=[]
  ·subst hl
   rw[if_pos (show(ak.mk ([]:List α)).l=[]from rfl)]at hs
   cases hs
   exact key _ (ahJ cZ hn H) .emp
  ·rw[if_neg (show ¬(ak.mk l).l=[]from hl)]at hs
   split at hs
   ·rename_i cY
    cases hs
    have hG:=ahI cZ hn (A1 hp l) (Hx hc l) (by simpa using hl) (by simpa[ak.l]using cY) H
    refine⟨.cz H.length es 0 (l.map f).length (l.map f).length,H++[.row es (l.map f) false],[(H.length,.row es (l.map f) false)],?_,.row _ _ (by simpa using hl) hb,aA.grow _,by simp⟩
    rw[lA];simp only[eo,mT,ab,hx,bg,hG,mA]
   ·cases hs
theorem ahK{α:Type}{i n es bytes:Nat}{f:α->V}{z:List V}{s y:ak α}{d:Option (Nat × Bool)}{g:Option (ag × Bool)}{vk x:ag}{Q:bV->Heap->List Bool->Prop}{ms:cN}(hw:gJ aw σ g=some true)
  (cZ:aa i=some (.code (se n es bytes z))) (hn:1<=n) (hs:HD bytes s=some y) (aA:Own H ms) (ab:bN aw σ vk=.fn i [] []) (hx:bN aw σ x=bg es f s) (hp:∀a,bs (f a)=true) (hc:∀a,bS (aE (f a))=true)
  (cA:∀H' v' m' mv,hf b es f v' y m'->Own H' (m'::ms)->Op aa b rest (fV aw d v') (fW σ d v') H' (mv::wr) Q):Op aa b (⟨d,.call true vk [x],g⟩::rest) aw σ H wr Q:=fun aG av low h1 h2 ar aQ=>by
 obtain⟨v,H1,m',af,aj,bT,cF⟩:=We cZ hn hs aA ab hx hp hc aQ
 exact nI (o:=⟨d,.call true vk [x],g⟩) hw (fun hb=>⟨cV hb cF,H.length,hb,af,rfl⟩) (cA H1 v m' _ aj bT) aG av low h1 h2 ar aQ
end
section
variable{b:Nat}{aw σ:bV}{H:Heap}{wr:List Bool}{rest:List bO}
theorem ahL{es:Nat}{z:List V}{x:ag}{v v':V}{d:Option (Nat × Bool)}{g:Option (ag × Bool)}{ms fO:cN}{Q:bV->Heap->List Bool->Prop}(hw:gJ aw σ g=some true)(aA:Own H ms)(aT:mh b 16 ms v v' fO)(hx:bN aw σ x=v)
  (hp:bs v'=true) (hc:(aE v').length=es/\bS (aE v')=true) (cA:∀H' mv,Own H' fO->Op aa b rest (fV aw d (.list es [v'])) (fW σ d (.list es [v'])) H' (mv::wr) Q):Op aa b (⟨d,.lit es z 1 [(0,x)] true,g⟩::rest) aw σ H wr Q:=fun aG av low h1 h2 ar aQ=>by
 obtain⟨H1,bI,af,hg,dm⟩:=aT H H.length aA aQ
 have er:eP H H.length v=some (v',H1,bI):=af
 have hl:=(AA er).2
 have ab:=MU (es:=es) (z:=kT z) [v'] [] (fun w hw=>by rw[FI]at hw;subst hw;exact hc)
 refine nI (o:=⟨d,.lit es z 1 [(0,x)] true,g⟩) (v:=.list es [v']) (H1:=H1) (mv:=eG H H1 bI) hw (fun hb=>⟨by omega,bI,dm,?_,rfl⟩) (cA H1 _ hg) aG av low h1 h2 ar aQ
 rw[Dv]
 simp only[step,eo,mT,hx,dX,er,zQ,List.zip_nil_right]
 simp only[jB,ja,List.length_singleton,List.range'_one,zQ,List.zip_nil_right]at ab
 simp only[ab,bW,hp,zV,if_true,Nat.one_ne_zero,if_false]
end
def vl (dE:List Nat)(ops:List bO)(wr:List Bool)(n m:Nat):Bool:=
 wr.zipIdx.all fun(w,i)=>!w||((i==n||Nat.ble m i)&&ops.zipIdx.all fun(o,j)=>!fw o.op||i==j||oL dE i j||(i==n&&Nat.blt j m))
theorem M9{call:cU}(hc:l3 call){ops:List bO}{S:Nat->aq}{aR:Nat->Bool}(hs:∀i aV,ops[i]? =some aV->l5 call aV (S i) (S (i+1)) (aR i)){i:Nat}:∀{d:Nat},i+d<=ops.length->(∀x,i<=x->x<i+d->aR x=false)->(S (i+d)).H=(S i).H
 |0,_,_=>rfl
 |d+1,hd,ab=>by
  have:=(hs (i+d) ops[i+d] (hX (by omega))).still hc (ab (i+d) (by omega) (by omega))
  exact this.trans (M9 hc hs (d:=d) (by omega) fun x h1 h2=>ab x h1 (by omega))
theorem ahM{call:cU}{aV:bO}{S ln:aq}{aR:Bool}(h:l5 call aV S ln aR)(ab:aR=false):jX call (aV,S,S.H)=true:=by
 unfold jX
 rcases h with⟨h0,v,H1,bI,h1,-,h2⟩|⟨h0,-,-⟩
 ·simp only[h0,h1,V8,fI,nV]
  exact h2.symm.trans ab
 ·simp only[h0]
theorem Na{call:cU}:∀{ops:List bO} {st:aq} {cf:List aq},fx call ops st=some cf->cf.length=ops.length+1
 |[],st,cf,h=>by simp only[fx,az]at h;subst h;rfl
 |o::r,st,cf,h=>by
  simp only[fx]at h
  split at h
  ·split at h
   ·obtain⟨t,h1,rfl⟩:=ct.1 h
    simp[Na h1]
   ·cases h
  ·obtain⟨t,h1,rfl⟩:=ct.1 h
   simp[Na h1]
  ·cases h
theorem ahN{call:cU}:∀{ops:List bO} {st:aq} {cf:List aq},fx call ops st=some cf->cf[0]? =some st
 |[],st,cf,h=>by simp only[fx,az]at h;subst h;rfl
 |o::r,st,cf,h=>by
  simp only[fx]at h
  split at h
  ·split at h
   ·obtain⟨t,h1,rfl⟩:=ct.1 h;rfl
   ·cases h
  ·obtain⟨t,h1,rfl⟩:=ct.1 h;rfl
  ·cases h
section
variable{b:Nat}{fD σ c1:bV}{H:Heap}{Q:X->bV->Heap->Prop}{ms:cN}
theorem Wf{A M R ops:List bO}{o:bO}{dE:List Nat}(mJ:A++o::(M++R)=ops)(aA:Own H ms)(hA:fC (bZ aa) ms A mL σ fD c1)(bj:gJ fD c1 o.guard=some true)
  (dr:b<=H.length->∃v H1 bI mN gS,b<=bI/\b<=H1.length/\b2 (bZ aa) (bN fD c1) H H.length o.op=some (v,H1,bI)/\Own H1 ms/\fC (bZ aa) ms M (fV fD o.dst v) (fW c1 o.dst v) mN gS/\
    Op aa b R mN gS H1 (List.replicate M.length false++eG H H1 bI::List.replicate A.length false) (fun aN H' wr=>vl dE ops wr A.length (A.length+1+M.length)=true/\Q .normal aN H')):
  eS aa b (.region ops (some dE)) σ H Q:=fun av low h1 h2 ar=>by
 obtain⟨v,H1,bI,mN,gS,dm,gy,s1,w0,kH,U⟩:=dr ar
 obtain⟨nJ,lC,bF,f1,f2,f0,f3,f4⟩:=hA.run (b:=b) (low:=low) (wr:=[]) (o::(M++R)) sb h1 aA h2 ar
 obtain⟨HB,wZ,af,aj,bT⟩:=yG f1 f2 H1 (min bF bI) o.dst v
 obtain⟨ahO,tl,vm,g1,g2,g0,g3,g4⟩:=kH.run (b:=b) (low:=min bF bI) (wr:=eG H H1 bI::List.replicate A.length false) R aj bT w0 (by omega) gy
 obtain⟨ahP,Nb,Nc,pb,A4,Nd,cq,ee,k1,HE,yQ,ahQ⟩:=U ahO tl vm g1 g2 g0 gy
 have HF:e3 nJ lC o.guard=some true:=by rw[DA f1 f2];exact bj
 have yC:b2 (bZ aa) (ag.ae nJ lC) H H.length o.op=some (v,H1,bI):=by rw[vf f1 f2];exact s1
 rw[mJ]at f3 f4
 have he:cQ (bZ aa) ops ⟨[],av,H,low,none⟩ []=some (⟨ahP,Nb,Nc,pb,none⟩,A4):=by
  rw[f3,rz]
  simp only[cQ,HF,yC]
  rw[af,g3];exact cq
 obtain⟨cf,oc⟩:=DF he
 obtain⟨pQ,q2,t1,t2,t3,t4⟩:=f4 cf oc
 simp only[fx,HF,yC]at t3
 rw[af]at t3
 obtain⟨ahR,t5,t6⟩:=ct.1 t3
 obtain⟨atB,atC,ky,oR,TI,MB⟩:=g4 ahR t5
 have ahS:=ahN t5
 obtain⟨S,aR,h0,hn,mI,hs⟩:=uN _ _ _ _ _ he
 have qC:=GA ops S aR cf hs (by rw[h0];exact oc)
 simp only[List.reverse_nil,jB]at mI
 have hw:∀{i},A4[i]? =some true↔i<ops.length/\aR i=true:=fun {i}=>by
  rw[mI,jy]
  by_cases hi:i<ops.length
  ·rw[List.getElem?_range hi];simp[hi]
  ·rw[lb (by simpa using hi)];simp[hi]
 have Wg:∀{i},A4.getD i false=true↔i<ops.length/\aR i=true:=fun {i}=>by
  rw[<-hw,tY]
  cases A4[i]? with
  |none=>simp
  |some x=>simp
 have cd:∀i,i<ops.length->aR i=true->(i=A.length\/A.length+1+M.length<=i)/\∀j o',ops[j]? =some o'->fw o'.op=true->i≠j->oL dE i j=true\/(i=A.length/\j<A.length+1+M.length):=fun i hi ab=>by
  unfold vl at yQ
  rw[eV]at yQ
  have:=yQ (true,i) (ie.2 (hw.2 ⟨hi,ab⟩))
  simp only[hZ,qv,b8,ko,beq_iff_eq,eV]at this
  refine⟨this.1.imp id km,fun j o' hj ht cK=> ?_⟩
  have:=this.2 (o',j) (ie.2 hj)
  simp only[ht,hZ,ko,b8,beq_iff_eq,cK,or_false,hY,false_or]at this
  exact this.imp id fun q=>⟨q.1,km q.2⟩
 have r5:qx (bZ aa) dE ops A4 ⟨[],av,H,low,none⟩=true:=by
  unfold qx
  rw[oc]
  simp only[b8]
  constructor
  ·unfold FW
   simp only[eV]
   rintro⟨w,i⟩ hi
   cases w with
   |false=>rfl
   |true=>
    simp only[hZ,qv,eV]
    rintro⟨w',j⟩ hj
    cases w' with
    |false=>rfl
    |true=>
     have hi:=hw.1 (ie.1 hi)
     have hj:=hw.1 (ie.1 hj)
     by_cases cK:i=j
     ·simp[cK]
     ·have Wh:=hX hj.1
      rcases(cd i hi.1 hi.2).2 j _ Wh ((hs j _ Wh).fw hj.2) cK with q|⟨q1,aS⟩
      ·simp[q]
      ·rcases(cd j hj.1 hj.2).1 with r|r<;>omega
  ·rw[eV]
   intro q bc
   unfold FX at bc
   simp only[Cd]at bc
   obtain⟨⟨o',j⟩,hj,bc⟩:=bc
   have hj:=ie.1 hj
   simp only at hj bc
   split at bc
   ·cases bc
   rename_i GX
   simp only[ko,nV,not_or,Km,Bool.not_eq_true]at GX
   obtain⟨ht,hH⟩:=GX
   simp only[Cd]at bc
   obtain⟨⟨z6,k⟩,hk,bc⟩:=bc
   have hk:=ie.1 hk
   simp only at hk bc
   split at bc
   ·cases bc
   rename_i Gb
   have mF:j<ops.length:=(e2.1 hj).1
   have rW:k<=ops.length:=by
    have:=(e2.1 hk).1
    rw[Na oc]at this;omega
   have Wi:=qC k rW
   rw[hk]at Wi
   cases Wi
   rw[qC j (by omega)]at bc
   simp only[FI]at bc
   subst bc
   simp only[ko,beq_iff_eq,b8,bne_iff_ne,ne_eq,nV,not_or,not_and,Km]at Gb
   obtain⟨⟨uS,AF⟩,Nf⟩:=Gb
   have hex:∀i,i<ops.length->aR i=true->i≠j->oL dE i j=true->(i<j↔i<k):=fun i hi ab cK Wj=>by
    rw[<-decide_eq_decide]
    by_cases e:decide (i<j)=decide (i<k)
    ·exact e
    ·exact absurd (ry.2 ⟨(true,i),ie.2 (hw.2 ⟨hi,ab⟩),by simp[cK,Wj,e]⟩) Nf
   have Wk:aR j=false:=by
    cases hx:aR j with
    |false=>rfl
    |true=>rw[Wg.2 ⟨mF,hx⟩]at hH;cases hH
   by_cases wH:j<A.length+1+M.length/\j≠A.length/\(k=0\/k=A.length+1)
   ·obtain⟨q1,aS,b1⟩:=wH
    have HC:Own (S k).H ms:=by
     rcases b1 with rfl|rfl
     ·rw[h0];exact aA
     ·have:cf[A.length+1]? =some ⟨HB,wZ,H1,min bF bI,none⟩:=by
       rw[t1,sJ (by omega),t2,<-t6,aa2]
       exact ahS
      rw[hk]at this
      rw[rA this];exact w0
    have HG:=qC j (by omega)
    rcases fX j A.length with Wl|Wl
    ·refine t4 _ HC (o',S j) (ns.2 ⟨j,?_⟩)
     rw[xD]
     rw[<-mJ,gE Wl]at hj
     rw[t1,gE (by omega)]at HG
     exact⟨hj,HG⟩
    ·obtain⟨x,rfl⟩:=mR (show A.length+1<=j by omega)
     refine MB _ HC (o',S (A.length+1+x)) (ns.2 ⟨x,?_⟩)
     rw[xD]
     rw[<-mJ,sJ (by omega),show A.length+1+x-A.length=x+1 by omega,Kh,gE (by omega)]at hj
     rw[t1,sJ (by omega),t2,<-t6,show A.length+1+x-A.length=x+1 by omega,Kh,ky,gE (by omega)]at HG
     exact⟨hj,HG⟩
   ·have eA:∀x,x<ops.length->aR x=true->(x<j↔x<k):=fun x hx HH=>by
     have rU:x≠j:=fun e=>by rw[e,Wk]at HH;cases HH
     rcases(cd x hx HH).2 j o' hj ht rU with q|⟨q1,aS⟩
     ·exact hex x hx HH rU q
     ·exfalso
      have AG:k≠0:=fun e=>wH ⟨aS,by omega,.inl e⟩
      obtain⟨nd,pR⟩:=Wg.1 (AF AG)
      rcases(cd (k-1) nd pR).1 with r|r
      ·exact wH ⟨aS,by omega,.inr (by omega)⟩
      ·rcases(cd (k-1) nd pR).2 j o' hj ht (by omega)with z|⟨z,-⟩
       ·have:=hex (k-1) nd pR (by omega) z
        omega
       ·omega
    have e5:(S k).H=(S j).H:=by
     have hc:=M7 aa
     have no:∀x,x<ops.length->(x<j/\k<=x\/x<k/\j<=x)->aR x=false:=fun x hx Wj=>by
      cases dW:aR x with
      |false=>rfl
      |true=>have:=eA x hx dW;omega
     rcases Nat.le_total k j with ahT|CW
     ·obtain⟨d,rfl⟩:=mR ahT
      exact(M9 hc hs (by omega) fun x nd pR=>no x (by omega) (by omega)).symm
     ·obtain⟨d,rfl⟩:=mR CW
      exact M9 hc hs (by omega) fun x nd pR=>no x (by omega) (by omega)
    rw[e5]
    exact ahM (hs j o' hj) Wk
 exact⟨.normal,Nb,Nc,pb,Nd,by rw[h6];simp only[he,nY,r5,Bool.true_or,Bool.or_true,if_true,aq.fp],ee,k1,HE,ahQ⟩
end
end Go.Abs
set_option maxHeartbeats 2000000
namespace Go.Abs.bw
open Go Go.Abs
structure gk where
 Table:Int
 jt:Int
 da:Int
 deriving Inhabited
def iX (x:gk):V:=.agg [aD x.Table,aD x.jt,aD x.da]
@[simp] theorem ahU (x : gk) : bs (iX x) = true := by simp [iX, bs, bW]
@[simp] theorem ahV (x : gk) : bS (aE (iX x)) = true := by simp [iX, aE, bS]
structure Range where
 kI:Int
 kJ:Int
 deriving Inhabited
def pS (x:Range):V:=.agg [aD x.kI,aD x.kJ]
@[simp] theorem ahW (x : Range) : bs (pS x) = true := by simp [pS, bs, bW]
@[simp] theorem ahX (x : Range) : bS (aE (pS x)) = true := by simp [pS, aE, bS]
structure Table where
 Name:bH
 Kind:Int
 bP:(ak Int)
 Range:Range
 dG:Int
 deriving Inhabited
def lH (x:Table):V:=.agg [.str x.Name,aD x.Kind,bg 1 aD x.bP,aD x.Range.kI,aD x.Range.kJ,aD x.dG]
@[simp] theorem ahY (x : Table) : bs (lH x) = true := by simp [lH, bs, bW]
@[simp] theorem ahZ (x : Table) : bS (aE (lH x)) = true := by simp [lH, aE, bS]
structure Term where
 Cell:Int
 pT:Int
 deriving Inhabited
def tn (x:Term):V:=.agg [aD x.Cell,aD x.pT]
@[simp] theorem ah0 (x : Term) : bs (tn x) = true := by simp [tn, bs, bW]
@[simp] theorem ah1 (x : Term) : bS (aE (tn x)) = true := by simp [tn, aE, bS]
structure Row where
 eT:(ak Term)
 q3:Int
 deriving Inhabited
def tp (x:Row):V:=.agg [bg 2 tn x.eT,aD x.q3]
@[simp] theorem ah2 (x : Row) : bs (tp x) = true := by simp [tp, bs, bW]
@[simp] theorem ah3 (x : Row) : bS (aE (tp x)) = true := by simp [tp, aE, bS]
structure Constraint where
 Kind:Int
 yR:Int
 Row:Row
 dG:Int
 w1:Int
 deriving Inhabited
def sf (x:Constraint):V:=.agg [aD x.Kind,aD x.yR,bg 2 tn x.Row.eT,aD x.Row.q3,aD x.dG,aD x.w1]
@[simp] theorem ah4 (x : Constraint) : bs (sf x) = true := by simp [sf, bs, bW]
@[simp] theorem ah5 (x : Constraint) : bS (aE (sf x)) = true := by simp [sf, aE, bS]
structure cl where
 Name:bH
 Ordered:Bool
 bC:(ak Int)
 deriving Inhabited
def sg (x:cl):V:=.agg [.str x.Name,.bool x.Ordered,bg 1 aD x.bC]
@[simp] theorem ah6 (x : cl) : bs (sg x) = true := by simp [sg, bs, bW]
@[simp] theorem ah7 (x : cl) : bS (aE (sg x)) = true := by simp [sg, aE, bS]
structure Change where
 Cell:Int
 Add:Int
 deriving Inhabited
def tq (x:Change):V:=.agg [aD x.Cell,aD x.Add]
@[simp] theorem ah8 (x : Change) : bs (tq x) = true := by simp [tq, bs, bW]
@[simp] theorem ah9 (x : Change) : bS (aE (tq x)) = true := by simp [tq, aE, bS]
structure mj where
 Kind:Int
 Cell:Int
 Value:Int
 deriving Inhabited
def tr (x:mj):V:=.agg [aD x.Kind,aD x.Cell,aD x.Value]
@[simp] theorem aia (x : mj) : bs (tr x) = true := by simp [tr, bs, bW]
@[simp] theorem aib (x : mj) : bS (aE (tr x)) = true := by simp [tr, aE, bS]
structure eK where
 Delta:(ak Change)
 ia:(ak Row)
 hL:(ak mj)
 deriving Inhabited
def A5 (x:eK):V:=.agg [bg 2 tq x.Delta,bg 2 tp x.ia,bg 3 tr x.hL]
@[simp] theorem aic (x : eK) : bs (A5 x) = true := by simp [A5, bs, bW]
@[simp] theorem aid (x : eK) : bS (aE (A5 x)) = true := by simp [A5, aE, bS]
structure Action where
 cl:Int
 bL:(ak Int)
 eK:eK
 deriving Inhabited
def si (x:Action):V:=.agg [aD x.cl,bg 1 aD x.bL,bg 2 tq x.eK.Delta,bg 2 tp x.eK.ia,bg 3 tr x.eK.hL]
@[simp] theorem aie (x : Action) : bs (si x) = true := by simp [si, bs, bW]
@[simp] theorem aif (x : Action) : bS (aE (si x)) = true := by simp [si, aE, bS]
structure Model where
 bC:(ak Int)
 Tables:(ak Table)
 fE:(ak bH)
 fu:(ak Constraint)
 Operations:(ak cl)
 Actions:(ak Action)
 b7:(ak gk)
 deriving Inhabited
def vn (x:Model):V:=.agg [bg 1 aD x.bC,bg 6 lH x.Tables,bg 1 V.str x.fE,bg 6 sf x.fu,bg 3 sg x.Operations,bg 5 si x.Actions,bg 3 iX x.b7]
@[simp] theorem aih (x : Model) : bs (vn x) = true := by simp [vn, bs, bW]
@[simp] theorem aii (x : Model) : bS (aE (vn x)) = true := by simp [vn, aE, bS]
structure dN where
 Model:Model
 strict:(ak Range)
 deriving Inhabited
def DG (x:dN):V:=.agg [bg 1 aD x.Model.bC,bg 6 lH x.Model.Tables,bg 1 V.str x.Model.fE,bg 6 sf x.Model.fu,bg 3 sg x.Model.Operations,bg 5 si x.Model.Actions,bg 3 iX x.Model.b7,bg 2 pS x.strict]
@[simp] theorem aij (x : dN) : bs (DG x) = true := by simp [DG, bs, bW]
@[simp] theorem aik (x : dN) : bS (aE (DG x)) = true := by simp [DG, aE, bS]
end Go.Abs.bw
