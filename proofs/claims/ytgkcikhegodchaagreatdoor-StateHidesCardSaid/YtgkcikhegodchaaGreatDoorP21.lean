/- Texts of this claim, joined and written short by a program. -/
import Derived.Test.YtgkcikhegodchaaGreatDoorP20
import Derived.Lib.Fields
import Derived.Lib.Bytealg
import Derived.KernelRfl
import Derived.Test.YtgkcikhegodchaaGreatDoorP00
set_option linter.unusedVariables false
set_option linter.unusedSimpArgs false
set_option linter.unusedSectionVars false
namespace Go.Abs
open Go
section
variable{aa:Nat->Option cc}{b:Nat}{aq σ:bY}{H:Heap}{wr:List Bool}{rest:List bU}{call:c5}{ah:ai->V}
def gr{K W:Type}(gJ:K->V)(gu:W->V)(m:List (K × W)):List (V × V):=m.map fun p=>(gJ p.1,gu p.2)
theorem yv (a c:Int):jl 0 (ao a) (ao c)=some (a==c):=by simp[jl]
theorem aoH (a c:ck):jl 1 (.str a) (.str c)=some (a==c):=rfl
theorem F7{K W:Type}[BEq K]{gJ:K->V}{gu:W->V}{kind:Nat}(heq:∀a c,jl kind (gJ a) (gJ c)=some (a==c))(k:K):∀m:List (K × W),iJ kind (gJ k) (gr gJ gu m)=some ((hI m k).map gu)
 |[]=>rfl
 |p::r=>by
  have ih:=F7 (gu:=gu) heq k r;simp only[gr,hI]at ih⊢;simp only[dX,iJ,heq,NN];cases k==p.1<;>simp[ih]
theorem acv{K W:Type}[BEq K]{gJ:K->V}{gu:W->V}{kind:Nat}(heq:∀a c,jl kind (gJ a) (gJ c)=some (a==c))(k:K)(w:W):∀m:List (K × W),l5 kind (gJ k) (gu w) (gr gJ gu m)=gr gJ gu (ly m k w)
 |[]=>rfl
 |p::r=>by
  have ih:=acv (gu:=gu) heq k w r;simp only[gr]at ih⊢;simp only[dX,l5,heq,ly];cases k==p.1<;>simp[ih]
theorem acw{K W:Type}[BEq K]{gJ:K->V}{gu:W->V}{kind a:Nat}{m:List (K × W)}{k:K}{z:V}{x i:ai}(heq:∀a c,jl kind (gJ a) (gJ c)=some (a==c))(z0:W)(aJ:z=gu z0)(bb:H[a]? =some (.map (gr gJ gu m)))(hx:ah x=.map a)(hi:ah i=gJ k):
  ch call ah H H.length (.lookup kind z x i false)=some (gu ((hI m k).getD z0),H,H.length):=by
 rw[Ko];simp only[step,hx,bb,hi,F7 heq];cases hI m k<;>simp[aJ]
theorem QA{K W:Type}[BEq K]{gJ:K->V}{gu:W->V}{kind a:Nat}{m:List (K × W)}{k:K}{z:V}{x i:ai}(heq:∀a c,jl kind (gJ a) (gJ c)=some (a==c))(z0:W)(aJ:z=gu z0)(bb:H[a]? =some (.map (gr gJ gu m)))(hx:ah x=.map a)(hi:ah i=gJ k):
  ch call ah H H.length (.lookup kind z x i true)=some (.aF [gu ((hI m k).getD z0),.bool (hI m k).isSome],H,H.length):=by
 rw[Ko];simp only[step,hx,bb,hi,F7 heq];cases hI m k<;>simp[aJ]
theorem acx{K W:Type}{gJ:K->V}{gu:W->V}{a:Nat}{m:List (K × W)}{x:ai}(bb:H[a]? =some (.map (gr gJ gu m)))(hx:ah x=.map a):ch call ah H H.length (.len 2 x)=some (ao (m.length:Int),H,H.length):=by
 show step ah H H.length (.len 2 x)=_;simp[step,hx,bb,gr]
theorem QB{K W:Type}[BEq K]{gJ:K->V}{gu:W->V}{kind a:Nat}{m:List (K × W)}{k:K}{w:W}{d:Option (Nat × Bool)}{g:Option (ai × Bool)}{x i y:ai}{Q:bY->Heap->List Bool->Prop}{ms:cG}(hw:gi aq σ g=some true)
  (heq:∀a c,jl kind (gJ a) (gJ c)=some (a==c)) (av:Own H ms) (j:Nat) (hk:ms[j]? =some [(a,.map (gr gJ gu m))]) (hb:b<=a) (hx:bB aq σ x=.map a) (hi:bB aq σ i=gJ k) (hy:bB aq σ y=gu w) (hp:bx (gu w)=true)
  (cA:∀H',Own H' (ms.set j [(a,.map (gr gJ gu (ly m k w)))])->Op aa b rest (fN aq d .undef) (fO σ d .undef) H' (true::wr) Q):Op aa b (⟨d,.qu kind x i y,g⟩::rest) aq σ H wr Q:=by
 have bb:=av.get j hk;have aG:=qT bb;have hu:vO (gu w)=false:=by cases af:gu w<;>simp_all [vO,bx]
 refine jw (o:=⟨d,.qu kind x i y,g⟩) (mv:=true) (H1:=H.set a (.map (gr gJ gu (ly m k w)))) hw (fun cC=>⟨by simpa using cC,a,hb,?_,by simp[eG,aG]⟩) (cA _ (av.put j hk));simp only[YA,step,hy];have ag:gl H H.length (gu w)=some (gu w,H,H.length):=by simp[gl,ec,hp]
 simp only[ag,hu,hx,bb,hi,F7 heq,acv heq];simp[sf (pB aG)]
theorem fm.elems{α:Type}{es:Nat}{f:α->V}{s:ae α}{v:V}{m:List (Nat × cf)}{ms:cG}(av:Own H ms)(k:Nat)(hk:ms[k]? =some m)(hr:e3 b es f v s m):elems H es v=some (s.l.map f):=by
 have dd:fm b es v (s.map f) m:=hr;generalize pb:s.map f=h4 at dd;clear hr;cases dd with
 |nil=>cases s<;>simp_all [ae.map,ae.l,Abs.elems]
 |emp=>cases s<;>simp_all [ae.map,ae.l,Abs.elems]
 |row l ds h hb=>
  have:s.l.map f=ds:=by cases s<;>simp_all [ae.map,ae.l]
  simp[Abs.elems,av.get k hk,this]
theorem aoI{α:Type}{es:Nat}{f:α->V}{s:ae α}{v:V}{m:List (Nat × cf)}{ms:cG}{x:ai}(av:Own H ms)(k:Nat)(hk:ms[k]? =some m)(hr:e3 b es f v s m)(hx:ah x=v):ch call ah H H.length (.len 1 x)=some (ao s.len,H,H.length):=by
 have dd:fm b es v (s.map f) m:=hr;generalize pb:s.map f=h4 at dd;clear hr;show step ah H H.length (.len 1 x)=_;cases dd with
 |nil=>cases s<;>simp_all [ae.map,ae.len,ae.l,step]
 |emp=>cases s<;>simp_all [ae.map,ae.len,ae.l,step]
 |row l ds h hb=>
  have:s.l.map f=ds:=by cases s<;>simp_all [ae.map,ae.l]
  subst this;simp[step,hx,av.get k hk,ae.len]
theorem aoJ{α:Type}{es bytes:Nat}{f:α->V}{z:List V}{e:α}{n:Int}{s:ae α}{b5 acy:IntKind}{d:Option (Nat × Bool)}{g:Option (ai × Bool)}{x y:ai}{Q:bY->Heap->List Bool->Prop}{ms:cG}(hw:gi aq σ g=some true)
  (hs:yu bytes e n=some s) (av:Own H ms) (aJ:mA z=f e) (hx:bB aq σ x=.int b5 n) (hy:bB aq σ y=.int acy n)
  (cA:∀H' v' m' mv,e3 b es f v' s m'->Own H' (m'::ms)->Op aa b rest (fN aq d v') (fO σ d v') H' (mv::wr) Q):Op aa b (⟨d,.mkSlice es z bytes x y,g⟩::rest) aq σ H wr Q:=by
 intro aM ay low h1 h2 au a7;unfold yu at hs;split at hs
 ·rename_i hc
  cases hs;by_cases h0:n=0
  ·subst h0
   refine jw (o:=⟨d,.mkSlice es z bytes x y,g⟩) (mv:=false) (v:=.emp) (H1:=H) hw (fun cC=>⟨cC,H.length,cC,?_,lv H⟩) (cA H .emp [] false ?_ (av.ins 0)) aM ay low h1 h2 au a7
   ·rw[Ql];simp[step,hx,hy]
   ·exact .emp
  ·refine jw (o:=⟨d,.mkSlice es z bytes x y,g⟩) (mv:=true) (v:=.cB H.length es 0 n.toNat n.toNat) (H1:=H++[.row es (List.replicate n.toNat (f e)) false]) hw
    (fun cC=>⟨by simp;omega,H.length,cC,?_,by simp[eG]⟩) (cA _ _ [(H.length,.row es (List.replicate n.toNat (f e)) false)] true ?_ (av.grow _)) aM ay low h1 h2 au a7
   ·rw[Ql];simp only[step,hx,hy,aJ]
    rw[if_pos ⟨trivial,hc.1,hc.2⟩,if_neg h0]
   ·rw[if_neg h0]
    have:fm b es (.cB H.length es 0 (List.replicate n.toNat (f e)).length (List.replicate n.toNat (f e)).length) (.mk (List.replicate n.toNat (f e))) [(H.length,.row es (List.replicate n.toNat (f e)) false)]:=.row _ _ (by simp;omega) a7;simpa[e3,ae.map]using this
 ·cases hs
theorem fm.at{α:Type}{es:Nat}{f:α->V}{s:ae α}{v:V}{m:List (Nat × cf)}{l N:Nat}(hr:e3 b es f v s m)(af:v=.cB l es 0 N N):m=[(l,.row es (s.l.map f) false)]/\N=(s.l.map f).length/\b<=l/\s.map f=.mk (s.l.map f):=by
 have dd:fm b es v (s.map f) m:=hr;generalize pb:s.map f=h4 at dd;clear hr;cases dd with
 |nil=>cases af
 |emp=>cases af
 |row l ds h hb=>
  have:s.l.map f=ds:=by cases s<;>simp_all [ae.map,ae.l]
  cases af;exact⟨by rw[this],by rw[this],hb,by rw[this]⟩
theorem aoK{α:Type}{es l N off:Nat}{f:α->V}{s:ae α}{n:Int}{e:α}{v u:V}{m:List (Nat × cf)}{ms:cG}{sh:Option Nat}{x:ai}(k:Nat)(he:aO s.l n=some e)(av:Own H ms)(hk:ms[k]? =some m)(hr:e3 b es f v s m)(af:v=.cB l es 0 N N)(hu:iV (aI (f e)) off sh=some u)(hx:ah x=.hz l es n.toNat off N):
  ch call ah H H.length (.load sh x)=some (u,H,H.length):=by
 obtain⟨rfl,rfl,-,-⟩:=hr.at af;rw[o3,hx];unfold aO at he;split at he
 ·simp[kt,av.get k hk,he,hu]
 ·cases he
theorem aoL{α:Type}{es l N off cU:Nat}{f:α->V}{s:ae α}{n:Int}{e e':α}{v:V}{m:List (Nat × cf)}{vs:List V}{d:Option (Nat × Bool)}{g:Option (ai × Bool)}{x y:ai}{Q:bY->Heap->List Bool->Prop}{ms:cG}(hw:gi aq σ g=some true)(k:Nat)
  (he:aO s.l n=some e) (av:Own H ms) (hk:ms[k]? =some m) (hr:e3 b es f v s m) (af:v=.cB l es 0 N N) (hx:bB aq σ x=.hz l es n.toNat off N) (hy:aI (bB aq σ y)=vs) (hn:vs.length=cU) (hp:mz vs=true) (mQ:xU (f e) off vs=some (f e'))
  (cA:∀H' m',e3 b es f v (p8 s n e') m'->Own H' (ms.set k m')->Op aa b rest (fN aq d .undef) (fO σ d .undef) H' (true::wr) Q):Op aa b (⟨d,.store cU x y,g⟩::rest) aq σ H wr Q:=by
 obtain⟨rfl,rfl,hb,e7⟩:=hr.at af;have bb:=av.get k hk;have aG:=qT bb;unfold aO at he;split at he
 ·rename_i nw
  have hi:n.toNat<s.l.length:=(eY.1 he).1;have mb:(s.l.map f).set n.toNat (f e')=(p8 s n e').l.map f:=by simp[p8,ae.l,List.map_set]
  have bq:(p8 s n e').l.map f≠[]:=by
   have hlen:((p8 s n e').l.map f).length=s.l.length:=by simp[p8,ae.l]
   intro h0;rw[h0]at hlen;simp at hlen;omega
  refine jw (o:=⟨d,.store cU x y,g⟩) (mv:=true) (H1:=H.set l (.row es ((p8 s n e').l.map f) false)) hw (fun cC=>⟨by simpa using cC,l,hb,?_,by simp[eG,aG]⟩) (cA _ _ ?_ (av.put k hk))
  ·simp only[mY,hx,j6,bb,hy]
   rw[if_pos ⟨trivial,trivial,hn,hp⟩];simp[he,mQ,mb,sf (pB aG)]
  ·have:=fm.row (b:=b) (es:=es) l ((p8 s n e').l.map f) bq hb
   rw[af];have hl:((p8 s n e').l.map f).length=(s.l.map f).length:=by simp[p8,ae.l]
   rw[hl]at this;exact this
 ·cases he
theorem QC:∀{vs:List V} {H:Heap} {low:Nat},fb H low vs=lg (ec 16) H low vs
 |[],_,_=>rfl
 |v::vs,H,low=>by
  simp only[fb,lg,gl];cases ec 16 H low v with
  |none=>rfl
  |some r=>simp only[QC]
theorem acz{d:Option (Nat × Bool)}{g:Option (ai × Bool)}{f:ai}{aX:List ai}{fv v:V}{vs vs':List V}{Q:bY->Heap->List Bool->Prop}{ms gB:cG}(hw:gi aq σ g=some true)(av:Own H ms)(aJ:pd b 16 ms vs vs' gB)
  (hc:∀H',b9 aa fv vs' H'=some (v,H',H'.length)) (kx:flat v=true) (al:aX.map (bB aq σ)=vs) (ag:bB aq σ f=fv)
  (cA:Op aa b rest (fN aq d v) (fO σ d v) H (false::wr) Q):Op aa b (⟨d,.call false f aX,g⟩::rest) aq σ H wr Q:=by
 intro aM ay low h1 h2 au a7;obtain⟨H1,bL,ad,gI,b1⟩:=aJ H H.length av a7;refine hF (v:=v) hw ?_ cA aM ay low h1 h2 au a7;subst al;subst ag;rw[pZ,QC,ad];simp[hc,kx]
theorem aoM{d:Option (Nat × Bool)}{g:Option (ai × Bool)}{f:ai}{aX:List ai}{fv v:V}{vs vs':List V}{Q:bY->Heap->List Bool->Prop}{ms gB:cG}(hw:gi aq σ g=some true)(av:Own H ms)(aJ:pd b 16 ms vs vs' gB)(hlen:∀H low r,lg (ec 16) H low vs=some r->r.2.1.length=H.length)
  (hc:∀H',b9 aa fv vs' H'=some (v,H',H'.length)) (kx:flat v=false) (al:aX.map (bB aq σ)=vs) (ag:bB aq σ f=fv)
  (cA:∀H' mv,Own H' gB->Op aa b rest (fN aq d v) (fO σ d v) H' (mv::wr) Q):Op aa b (⟨d,.call false f aX,g⟩::rest) aq σ H wr Q:=by
 intro aM ay low h1 h2 au a7;obtain⟨H1,bL,ad,gI,b1⟩:=aJ H H.length av a7;have hl:=hlen _ _ _ ad;refine jw (o:=⟨d,.call false f aX,g⟩) (v:=v) (H1:=H1) (mv:=eG H H1 (min bL H1.length)) hw (fun hb=>⟨by simp only at hl;omega,min bL H1.length,by simp only at hl;omega,?_,rfl⟩) (cA H1 _ gI) aM ay low h1 h2 au a7;subst al;subst ag;simp only[];rw[pZ,QC,ad];simp[hc,kx]
end
end Go.Abs
namespace Go.Abs
open Go
@[simp] theorem aA3 (l : List V) : aI (.agg l) = l := rfl
@[simp] theorem aA4 : aI .cu = [.cu] := rfl
@[simp] theorem aA5 : aI .emp = [.emp] := rfl
@[simp] theorem aA6 (e : Nat) (l : List V) : aI (.list e l) = [.list e l] := rfl
@[simp] theorem aA7 (e l : Nat) : aI (.ptr e l) = [.ptr e l] := rfl
@[simp] theorem aA8 (e : Nat) : aI (.map e) = [.map e] := rfl
@[simp] theorem aA9 : aI .jj = [.jj] := rfl
abbrev At (σ:bY)(ts:List Nat)(vs:List V):Prop:=ts.map σ=vs
def KU:bY->List Nat->List V->bY
 |σ,t::ts,v::vs=>KU (up σ t v) ts vs
 |σ,_,_=>σ
theorem F8:∀{ts:List Nat} {vs:List V} {σ:bY},At σ ts vs->KU σ ts vs=σ
 |[],[],_,_=>rfl
 |[],_::_,_,h=>by cases h
 | _::_,[],_,h=>by cases h
 |t::ts,v::vs,σ,h=>by
  simp only[At,dX,xP]at h;simp only[KU,aoy h.1];exact F8 h.2
section
variable{aa:Nat->Option cc}{b:Nat}{aq σ:bY}{H:Heap}{wr:List Bool}{rest:List bU}{call:c5}{ah:ai->V}{d:Option (Nat × Bool)}{op:cX}{t:ai}{β w:Bool}
theorem du{c:cF}{Q:X->bY->Heap->Prop}{ts:List Nat}{vs:List V}(h:At σ ts vs)(k:fj aa b c (KU σ ts vs) H Q):fj aa b c σ H Q:=by rw[F8 h]at k;exact k
theorem eL{ops:List bU}{c:cF}{Q:X->bY->Heap->Prop}(h:Op aa b ops oc σ H [] (fun aT H' _=>fj aa b c aT H' Q)):fj aa b (.seq (.region ops none) c) σ H Q:=gW (lR h)
variable{Q:bY->Heap->List Bool->Prop}
theorem pp (v:V)(k:Op aa b rest (fN aq d v) (fO σ d v) H (false::wr) Q)(h:ch (b9 aa) (bB aq σ) H H.length op=some (v,H,H.length):=by exact rfl):Op aa b (⟨d,op,none⟩::rest) aq σ H wr Q:=hF rfl h k
theorem ph (v:V)(h:ch (b9 aa) (bB aq σ) H H.length op=some (v,H,H.length))(k:Op aa b rest (fN aq d v) (fO σ d v) H (false::wr) Q):Op aa b (⟨d,op,none⟩::rest) aq σ H wr Q:=hF rfl h k
theorem iu (v:V)(c:β=w)(k:Op aa b rest (fN aq d v) (fO σ d v) H (false::wr) Q)(h:ch (b9 aa) (bB aq σ) H H.length op=some (v,H,H.length):=by exact rfl)(ht:bB aq σ t=.bool β:=by exact rfl):Op aa b (⟨d,op,some (t,w)⟩::rest) aq σ H wr Q:=hF (h3 ht c) h k
theorem nE (c:β=false)(k:Op aa b rest (fN aq d (.aF [])) (fO σ d (.aF [])) H (false::wr) Q)(ht:bB aq σ t=.bool β:=by exact rfl):Op aa b (⟨d,op,some (t,true)⟩::rest) aq σ H wr Q:=Qo (KK ht c) k
theorem cI (c:β=true)(k:Op aa b rest (fN aq d (.aF [])) (fO σ d (.aF [])) H (false::wr) Q)(ht:bB aq σ t=.bool β:=by exact rfl):Op aa b (⟨d,op,some (t,false)⟩::rest) aq σ H wr Q:=Qo (KL ht c) k
end
theorem Dm:∀{vs:List V} {n:Nat} {H:Heap} {low:Nat},cj vs=true->lg (ec n) H low vs=some (vs,H,low)
 |[],_,_,_,_=>rfl
 |v::r,n,H,low,h=>by
  simp only[cj,cm]at h;have h1:ec n H low v=some (v,H,low):=by cases n<;>simp[ec,h.1]
  simp only[lg,h1,Dm h.2]
theorem jV.AE{b n:Nat}{ms gB:cG}{vs vs':List V}(h:pd b n ms vs vs' gB):jV b (n+1) ms (.aF vs) (.aF vs') gB:=by
 cases hp:cj vs with
 |false=>exact .aF h hp
 |true=>
  intro H low av hb;obtain⟨H1,bL,ad,gI,b1⟩:=h H low av hb;rw[Dm hp]at ad;cases ad;exact⟨H,low,by simp[ec,bx,hp],gI,b1⟩
section
variable{aa:Nat->Option cc}{b:Nat}{σ:bY}{H:Heap}
theorem cy{S O:Type}{c:cF}{Q:X->bY->Heap->Prop}(f:S->Option (cH S O))(I:S->bY->Heap->Prop)(P:O->X->bY->Heap->Prop){s:S}{o:O}(h:bW f s=some o)(bp:I s σ H)
 (round:∀s σ H r,I s σ H->f s=some r->fj aa b c σ H fun x aT H'=>match r with
   | .next ar=>x=.normal/\I ar aT H'
   | .out o=>x≠ .normal/\P o x aT H') (k:∀x aT H',P o x aT H'->Q x aT H'):fj aa b (.loop c) σ H Q:=Qu (P o) (aoC f I P round h bp) k
end
end Go.Abs
namespace Go.Abs
open Go
inductive iB (call:c5) (ms:cG):List bU->bY->bY->bY->bY->Prop
 |nil {aq σ:bY}:iB call ms [] aq σ aq σ
 |step {o:bU} {rest:List bU} {aq σ a8 aT:bY} {v:V} (hw:gi aq σ o.guard=some true) (h:∀H,Own H ms->ch call (bB aq σ) H H.length o.op=some (v,H,H.length)) (k:iB call ms rest (fN aq o.dst v) (fO σ o.dst v) a8 aT):iB call ms (o::rest) aq σ a8 aT
 |skip {o:bU} {rest:List bU} {aq σ a8 aT:bY} (hw:gi aq σ o.guard=some false) (k:iB call ms rest (fN aq o.dst (.aF [])) (fO σ o.dst (.aF [])) a8 aT):iB call ms (o::rest) aq σ a8 aT
section
variable{call:c5}{ms:cG}{d:Option (Nat × Bool)}{op:cX}{rest:List bU}{aq σ a8 aT:bY}{t:ai}{β w:Bool}
theorem iB.pp (v:V)(k:iB call ms rest (fN aq d v) (fO σ d v) a8 aT)(h:∀H,Own H ms->ch call (bB aq σ) H H.length op=some (v,H,H.length):=by exact fun _ _=>rfl):iB call ms (⟨d,op,none⟩::rest) aq σ a8 aT:=.step rfl h k
theorem iB.ph (v:V)(h:∀H,Own H ms->ch call (bB aq σ) H H.length op=some (v,H,H.length))(k:iB call ms rest (fN aq d v) (fO σ d v) a8 aT):iB call ms (⟨d,op,none⟩::rest) aq σ a8 aT:=.step rfl h k
theorem iB.iu (v:V)(c:β=w)(h:∀H,Own H ms->ch call (bB aq σ) H H.length op=some (v,H,H.length))(k:iB call ms rest (fN aq d v) (fO σ d v) a8 aT)(ht:bB aq σ t=.bool β:=by exact rfl):iB call ms (⟨d,op,some (t,w)⟩::rest) aq σ a8 aT:=.step (h3 ht c) h k
theorem iB.nE (c:β=false)(k:iB call ms rest (fN aq d (.aF [])) (fO σ d (.aF [])) a8 aT)(ht:bB aq σ t=.bool β:=by exact rfl):iB call ms (⟨d,op,some (t,true)⟩::rest) aq σ a8 aT:=.skip (KK ht c) k
theorem iB.cI (c:β=true)(k:iB call ms rest (fN aq d (.aF [])) (fO σ d (.aF [])) a8 aT)(ht:bB aq σ t=.bool β:=by exact rfl):iB call ms (⟨d,op,some (t,false)⟩::rest) aq σ a8 aT:=.skip (KL ht c) k
end
theorem QD (v:V):ep v v=true:=by
 have key:(∀v,ep v v=true)/\(∀vs,nQ vs vs=true):=by
  refine⟨fun v=> ?_,fun vs=> ?_⟩
  ·exact V.rec (motive_1:=fun v=>ep v v=true) (motive_2:=fun vs=>nQ vs vs=true)
    (by simp[ep]) (by simp[ep]) (by simp[ep]) rfl rfl (by intro e ds h;simp[ep,h]) (by intro vs h;simpa[ep]using h) (by intro vs h;simpa[ep]using h) rfl (by simp[ep]) (by simp[ep])
    (by intro vs f h;simp[ep,h]) (by simp[ep]) rfl (by simp[ep]) rfl (by intro i a b h1 h2;simp[ep,h1,h2]) (by simp[ep]) rfl (by intro t v h;simp[ep,h]) rfl rfl (by intro a r h1 h2;simp[nQ,h1,h2]) v
  ·exact V.rec_1 (motive_1:=fun v=>ep v v=true) (motive_2:=fun vs=>nQ vs vs=true)
    (by simp[ep]) (by simp[ep]) (by simp[ep]) rfl rfl (by intro e ds h;simp[ep,h]) (by intro vs h;simpa[ep]using h) (by intro vs h;simpa[ep]using h) rfl (by simp[ep]) (by simp[ep])
    (by intro vs f h;simp[ep,h]) (by simp[ep]) rfl (by simp[ep]) rfl (by intro i a b h1 h2;simp[ep,h1,h2]) (by simp[ep]) rfl (by intro t v h;simp[ep,h]) rfl rfl (by intro a r h1 h2;simp[nQ,h1,h2]) vs
 exact key.1 v
theorem F9{call:c5}:∀{ops:List bU} {st bf:aw} {wr fD:List Bool},c8 call ops st wr=some (bf,fD)->∃cv,fH call ops st=some cv
 |[],st,_,_,_,_=>⟨[st],rfl⟩
 |o::r,st,bf,wr,fD,h=>by
  simp only[c8]at h;simp only[fH];split at h
  ·split at h
   ·obtain⟨cv,e⟩:=F9 h
    exact⟨_,by rw[e];rfl⟩
   ·cases h
  ·obtain⟨cv,e⟩:=F9 h
   exact⟨_,by rw[e];rfl⟩
  ·cases h
theorem iB.run{call:c5}{ms:cG}:∀{A:List bU} {aq σ a8 aT:bY},iB call ms A aq σ a8 aT->∀{aM ay:Env} {H:Heap} {low b:Nat} {wr:List Bool} (B:List bU),Fits aM aq->Fits ay σ->Own H ms->b<=low->b<=H.length->
  ∃iY dm low',Fits iY a8/\Fits dm aT/\b<=low'/\c8 call (A++B) ⟨aM,ay,H,low,none⟩ wr=c8 call B ⟨iY,dm,H,low',none⟩ (List.replicate A.length false++wr)/\
   ∀cv,fH call (A++B) ⟨aM,ay,H,low,none⟩=some cv->∃kG lV,cv=kG++lV/\kG.length=A.length/\fH call B ⟨iY,dm,H,low',none⟩=some lV/\
    ∀H',Own H' ms->∀p∈A.zip kG,jH call (p.1,p.2,H')=true
 |[],aq,σ,_,_,.nil,aM,ay,H,low,b,wr,B,h1,h2,_,hb,_=>⟨aM,ay,low,h1,h2,hb,rfl,fun cv h=>⟨[],cv,rfl,rfl,h,fun _ _ p hp=>by cases hp⟩⟩
 |o::A,aq,σ,a8,aT,.step (v:=v) hw h k,aM,ay,H,low,b,wr,B,h1,h2,av,hb,hB=>by
  obtain⟨nC,lx,ad,e2,bK⟩:=wY h1 h2 H (min low H.length) o.dst v;obtain⟨iY,dm,low',f1,f2,f0,f3,f4⟩:=k.run (b:=b) (low:=min low H.length) (wr:=false::wr) B e2 bK av (by omega) hB;have jx:=hw;rw[<-AD h1 h2]at jx;have hs:=h H av;rw[<-tW h1 h2]at hs;refine⟨iY,dm,low',f1,f2,f0,?_,fun cv ht=> ?_⟩
  ·simp only[l4,c8,jx,hs,lv]
   rw[ad,f3];simp only[iI,Vm];rw[kR];rfl
  ·simp only[l4,fH,jx,hs]at ht
   rw[ad]at ht;obtain⟨nZ,ey,rfl⟩:=cD.1 ht;obtain⟨kG,lV,rfl,g1,g2,g3⟩:=f4 nZ ey;refine⟨_::kG,lV,rfl,by simp[g1],g2,fun H' lW p hp=> ?_⟩;rw[Ey]at hp;rcases dG.1 hp with rfl|hp
   ·have Az:=h H' lW
    rw[<-tW h1 h2]at Az;simp only[jH,jx,hs,Az,lv,pA,sj,QD]
   ·exact g3 H' lW p hp
 |o::A,aq,σ,a8,aT,.skip hw k,aM,ay,H,low,b,wr,B,h1,h2,av,hb,hB=>by
  obtain⟨nC,lx,ad,e2,bK⟩:=wY h1 h2 H low o.dst (.aF []);obtain⟨iY,dm,low',f1,f2,f0,f3,f4⟩:=k.run (b:=b) (wr:=false::wr) B e2 bK av hb hB;have jx:=hw;rw[<-AD h1 h2]at jx;refine⟨iY,dm,low',f1,f2,f0,?_,fun cv ht=> ?_⟩
  ·simp only[l4,c8,jx]
   rw[ad,f3];simp only[iI,Vm];rw[kR];rfl
  ·simp only[l4,fH,jx]at ht
   rw[ad]at ht;obtain⟨nZ,ey,rfl⟩:=cD.1 ht;obtain⟨kG,lV,rfl,g1,g2,g3⟩:=f4 nZ ey;refine⟨_::kG,lV,rfl,by simp[g1],g2,fun H' lW p hp=> ?_⟩;rw[Ey]at hp;rcases dG.1 hp with rfl|hp
   ·simp only[jH,jx]
   ·exact g3 H' lW p hp
theorem Own.more{H:Heap}{ms:cG}(h:Own H ms)(X:Heap):Own (H++X) ms:=
 ⟨fun m hm p hp=>by rw[fY (h.lt hm hp)];exact h.1 m hm p hp,h.2⟩
theorem KV (aM ay:Env)(H:Heap)(ro:Option Nat)(d:Option (Nat × Bool))(v:V):∃nC lx,∀l:Nat,aw.put ⟨aM,ay,H,l,ro⟩ d v=⟨nC,lx,H,l,ro⟩:=by
 match d with
 |none=>exact⟨aM,ay,fun _=>rfl⟩
 |some (t,true)=>exact⟨aM,ga ay t v,fun _=>rfl⟩
 |some (t,false)=>exact⟨(t,v)::aM,ay,fun _=>rfl⟩
theorem QE{call:c5}(hc:mN call):∀{B:List bU} {st:aw} {cv:List aw},st.low<=st.H.length->fH call B st=some cv->∀T∈cv,T.low<=st.low
 |[],st,cv,hl,ht,T,hT=>by
  simp only[fH,aD]at ht;subst ht;simp only[dG,th,or_false]at hT;subst hT;exact aN _
 |o::r,st,cv,hl,ht,T,hT=>by
  simp only[fH]at ht;split at ht
  ·split at ht
   ·rename_i v H1 bL hs
    obtain⟨t0,h0,rfl⟩:=cD.1 ht;rcases dG.1 hT with rfl|hT
    ·exact aN _
    ·have ag:=zZ hc (aN _) hs
     have hp:=kX {st with H:=H1,low:=min st.low bL} o.dst v;have:=QE hc (by rw[hp.1,hp.2.1];have:=ag.len;show min st.low bL<=H1.length;omega) h0 T hT;rw[hp.2.1]at this;exact c4 this (j3 _ _)
   ·cases ht
  ·obtain⟨t0,h0,rfl⟩:=cD.1 ht
   rcases dG.1 hT with rfl|hT
   ·exact aN _
   ·have hp:=kX st o.dst (.aF [])
    have:=QE hc (by rw[hp.1,hp.2.1];exact hl) h0 T hT;rw[hp.2.1]at this;exact this
  ·cases ht
theorem QF{call:c5}:∀{B:List bU} {st fin:aw} {wr fD:List Bool},c8 call B st wr=some (fin,fD)->fin.low<=st.low
 |[],st,fin,wr,fD,h=>by
  simp only[c8,aD,bH]at h;rw[h.1];exact aN _
 |o::r,st,fin,wr,fD,h=>by
  simp only[c8]at h;split at h
  ·split at h
   ·rename_i v H1 bL hs
    have:=QF h;rw[(kX {st with H:=H1,low:=min st.low bL} o.dst v).2.1]at this;exact c4 this (j3 _ _)
   ·cases h
  ·have:=QF h
   rw[(kX st o.dst (.aF [])).2.1]at this;exact this
  ·cases h
theorem QG{call:c5}:∀{B:List bU} {aM ay:Env} {H:Heap} {L:Nat} {ro:Option Nat} {wr fD:List Bool} {fin:aw} (ik:Nat),c8 call B ⟨aM,ay,H,L,ro⟩ wr=some (fin,fD)->
  ∃Dn,c8 call B ⟨aM,ay,H,ik,ro⟩ wr=some ({fin with low:=Dn},fD)/\min ik fin.low<=Dn
 |[],aM,ay,H,L,ro,wr,fD,fin,ik,h=>by
  simp only[c8,aD,bH]at h;obtain⟨rfl,rfl⟩:=h;exact⟨ik,rfl,j3 _ _⟩
 |o::r,aM,ay,H,L,ro,wr,fD,fin,ik,h=>by
  simp only[c8]at h⊢;split at h
  ·split at h
   ·rename_i v H1 bL hs
    have mQ:=KV aM ay H1 ro o.dst v;obtain⟨nC,lx,hp⟩:=mQ;rw[hp]at h⊢;obtain⟨Dn,e,hl⟩:=QG (min ik bL) h;have hx:=QF h;exact⟨Dn,e,by simp only at hx;omega⟩
   ·cases h
  ·have mQ:=KV aM ay H ro o.dst (.aF [])
   obtain⟨nC,lx,hp⟩:=mQ;rw[hp]at h⊢;exact QG ik h
  ·cases h
theorem QH{call:c5}:∀{B:List bU} {aM ay:Env} {H:Heap} {L:Nat} {ro:Option Nat} {cv:List aw} (ik:Nat),fH call B ⟨aM,ay,H,L,ro⟩=some cv->
  ∃nZ,fH call B ⟨aM,ay,H,ik,ro⟩=some nZ/\nZ.map (·.H)=cv.map (·.H)
 |[],aM,ay,H,L,ro,cv,ik,h=>by
  simp only[fH,aD]at h;subst h;exact⟨_,rfl,rfl⟩
 |o::r,aM,ay,H,L,ro,cv,ik,h=>by
  simp only[fH]at h⊢;split at h
  ·split at h
   ·rename_i v H1 bL hs
    have mQ:=KV aM ay H1 ro o.dst v;obtain⟨nC,lx,hp⟩:=mQ;rw[hp]at h⊢;obtain⟨t0,h0,rfl⟩:=cD.1 h;obtain⟨t1,ad,e2⟩:=QH (min ik bL) h0;exact⟨_,by rw[ad];rfl,by simp[e2]⟩
   ·cases h
  ·have mQ:=KV aM ay H ro o.dst (.aF [])
   obtain⟨nC,lx,hp⟩:=mQ;rw[hp]at h⊢;obtain⟨t0,h0,rfl⟩:=cD.1 h;obtain⟨t1,ad,e2⟩:=QH ik h0;exact⟨_,by rw[ad];rfl,by simp[e2]⟩
  ·cases h
theorem QI{call:c5}(hc:mN call):∀{B:List bU} {st fin:aw} {wr fD:List Bool} {cv:List aw},st.low<=st.H.length->c8 call B st wr=some (fin,fD)->fH call B st=some cv->∀T∈cv,fin.low<=T.low/\∀l,l<T.low->T.H[l]? =st.H[l]?
 |[],st,fin,wr,fD,cv,hl,h,ht,T,hT=>by
  simp only[c8,aD,bH]at h;simp only[fH,aD]at ht;obtain⟨rfl,-⟩:=h;subst ht;simp only[dG,th,or_false]at hT;subst hT;exact⟨aN _,fun _ _=>rfl⟩
 |o::r,st,fin,wr,fD,cv,hl,h,ht,T,hT=>by
  have iO:=(pU hc _ _ _ _ _ hl h).1.low;simp only[c8]at h;simp only[fH]at ht;split at h
  ·rename_i hw
   split at h
   ·rename_i v H1 bL hs
    rw[hw]at ht;simp only[hs]at ht;obtain⟨t0,h0,rfl⟩:=cD.1 ht;rcases dG.1 hT with rfl|hT
    ·exact⟨iO,fun _ _=>rfl⟩
    ·have ag:=zZ hc (aN _) hs
     have hp:=kX {st with H:=H1,low:=min st.low bL} o.dst v
     have Ag:(({st with H:=H1,low:=min st.low bL}:aw).put o.dst v).low<=(({st with H:=H1,low:=min st.low bL}:aw).put o.dst v).H.length:=by
      rw[hp.1,hp.2.1];have:=ag.len;show min st.low bL<=H1.length;omega
     obtain⟨q1,q2⟩:=QI hc Ag h h0 T hT;refine⟨q1,fun l aG=> ?_⟩
     have acA:T.low<=min st.low bL:=by
      have:=QE hc Ag h0 T hT;rw[hp.2.1]at this;exact this
     rw[q2 l aG,hp.1];exact ag.same l (by omega)
   ·cases h
  ·rename_i hw
   rw[hw]at ht;simp only at ht;obtain⟨t0,h0,rfl⟩:=cD.1 ht;rcases dG.1 hT with rfl|hT
   ·exact⟨iO,fun _ _=>rfl⟩
   ·have hp:=kX st o.dst (.aF [])
    obtain⟨q1,q2⟩:=QI hc (by rw[hp.1,hp.2.1];exact hl) h h0 T hT;refine⟨q1,fun l aG=> ?_⟩;rw[q2 l aG,hp.1]
  ·cases h
theorem acB{α β:Type}:∀(n:Nat) (l:List α) (r:List β),(l.zip r).take n=(l.take n).zip (r.take n)
 |0,_,_=>by simp
 |n+1,[],_=>by simp
 |n+1,_::_,[]=>by simp
 |n+1,a::l,b::r=>by simp[acB n l r]
section
variable{aa:Nat->Option cc}{b:Nat}{σ eT cM:bY}{H:Heap}{Q:X->bY->Heap->Prop}{ms:cG}
theorem QJ (aa:Nat->Option cc):mN (b9 aa):=fun f args H v H' low' h=>by
 obtain⟨n,hn⟩:=vS.1 h;exact JS aa n f args H v H' low' hn
theorem acC{ops:List bU}{eK:List Nat}(n:Nat)(av:Own H ms)(hn:lk ops=n)(hA:iB (b9 aa) ms (ops.take n) oc σ eT cM)
  (dM:b<=H.length->Op aa H.length (ops.drop n) eT cM H (List.replicate n false) (fun aT H' wr=>xX eK ops wr=true/\Q .normal aT H')):fj aa b (.region ops (some eK)) σ H Q:=fun ay low h1 h2 au=>by
 have aBa:n<=ops.length:=by rw[<-hn];exact Py _ _
 have hlen:(ops.take n).length=n:=by rw[q9];omega
 have qL:ops.take n++ops.drop n=ops:=Nv n ops;obtain⟨iY,dm,low',f1,f2,f0,f3,f4⟩:=hA.run (b:=b) (wr:=[]) (ops.drop n) tV h1 av h2 au;rw[qL,hlen,qt]at f3;rw[qL]at f4;obtain⟨acD,Dp,H2,dL,P8,iZ,ad,e2,bK,cw,dC,gp⟩:=dM au iY dm H.length f1 f2 (aN _) (aN _);obtain⟨Dn,g1,g2⟩:=QG low' ad;obtain⟨aoN,acE⟩:=F9 ad;have tC:=QI (QJ aa) (aN _) ad acE;rw[<-f3]at g1;obtain⟨cv,pW⟩:=F9 g1;obtain⟨kG,lV,rfl,b4,dq,jK⟩:=f4 cv pW;obtain⟨aBb,q1,q2⟩:=QH low' acE;rw[dq]at q1;cases q1
 have QK:∀T∈lV,Own T.H ms:=fun T hT=>by
  have hm:T.H∈aoN.map (·.H):=by rw[<-q2];exact sd hT
  obtain⟨aoO,wz,e⟩:=eA.1 hm;rw[<-e];obtain⟨bI,cq⟩:=tC aoO wz;refine⟨fun m hm p hp=> ?_,av.2⟩;have aG:=av.lt hm hp;rw[cq p.1 (by simp only at bI;omega)];exact av.1 m hm p hp
 have tP:pD (b9 aa) eK ops P8 ⟨[],ay,H,low,none⟩=true:=by
  unfold pD;rw[pW];simp only[dC,dy]
  have eC:(Cp ops (kG++lV)).all (jH (b9 aa))=true:=by
   unfold Cp;rw[eE];intro q bu;simp only[Jd,Vt]at bu;obtain⟨T,hT,⟨o,s⟩,dD,QL⟩:=bu
   have aJ:(ops.zip (kG++lV)).take (lk ops)=(ops.take n).zip kG:=by
    rw[hn,acB,List.take_left' (by rw[b4,hlen])]
   rw[aJ]at dD
   have aoP:T∈lV:=by
    have hge:kG.length<=qw ops:=by rw[b4,hlen,<-hn];exact XE ops
    rw[NL,uJ hge,j4]at hT;exact I3 hT
   split at QL
   ·cases QL
    exact jK _ (QK T aoP) _ dD
   ·cases QL
  rw[eC];simp
 refine⟨.normal,Dp,H2,Dn,iZ,by rw[lJ];simp only[g1,tP,Bool.or_true,if_true,aw.gb],e2,?_,c4 au cw,gp⟩;simp only at g2;have:=c4 au bK;omega
end
def fS{A R:Type}(F:(A->Option R)->A->Option R):Nat->A->Option R
 |0,_=>none
 |n+1,a=>F (fS F n) a
open Classical in
noncomputable def rI{A R:Type}(F:(A->Option R)->A->Option R)(a:A):Option R:=
 if h:∃n r,fS F n a=some r then some h.choose_spec.choose else none
theorem acF{A R:Type}{F:(A->Option R)->A->Option R}{a:A}{r:R}(h:rI F a=some r):∃n,fS F n a=some r:=by
 unfold rI at h;split at h
 ·rename_i hx
  cases h;exact⟨_,hx.choose_spec.choose_spec⟩
 ·cases h
theorem QM{A R:Type}{F:(A->Option R)->A->Option R}{a:A}{r:R}{n:Nat}(h:fS F n a=some r)(hu:∀m lh,fS F m a=some lh->lh=r):rI F a=some r:=by
 unfold rI;rw[dif_pos ⟨n,r,h⟩];have hx:∃n r,fS F n a=some r:=⟨n,r,h⟩;rw[hu _ _ hx.choose_spec.choose_spec]
end Go.Abs
namespace Go.Abs
open Go
variable{aa:Nat->Option cc}
def sU (n es bytes:Nat)(z:List V):ix:=⟨n,.seq (.region [⟨some (2,true),.mv (.const .cu),none⟩] none)
 (.seq (.seq (.region [⟨some (3,false),.mv (.var 0),none⟩,⟨some (4,true),.sk 1 false (.tmp 3) (.const .cu),none⟩] none)
   (.cond (.var 4) (.seq (.region [⟨some (2,true),.mv (.const .cu),none⟩] none) .ret) .skip))
   (.seq (.region [⟨some (5,false),.lit es z 0 [] true,none⟩,⟨some (6,false),.mv (.var 0),none⟩,⟨some (7,false),.append es bytes (.tmp 5) (.tmp 6),none⟩,⟨some (2,true),.mv (.tmp 7),none⟩] none) .ret)),[.tmp 2],true⟩
def KW{α:Type}(bytes:Nat):ae α->Option (ae α)
 | .nil=>some .nil
 |x=>hh bytes .emp x
theorem aoQ{i n es bytes:Nat}{z:List V}(c1:aa i=some (.code (sU n es bytes z)))(hn:1<=n)(H:Heap):b9 aa (.fn i [] []) [.cu] H=some (.cu,H,H.length):=by
 rw[pF,c1];simp[iL,sU,hn,jn,lJ,nu,oF,oE,c8,ch,step,gS,aw.put,ai.ah,iK,ga,bZ,gZ,kU,finish,gl,ec,old,eG,rj]
theorem aoR{i n es bytes:Nat}{z:List V}(c1:aa i=some (.code (sU n es bytes z)))(hn:1<=n)(H:Heap):b9 aa (.fn i [] []) [.emp] H=some (.emp,H,H.length):=by
 rw[pF,c1];simp[iL,sU,hn,jn,lJ,nu,oF,oE,c8,ch,step,gS,aw.put,ai.ah,iK,ga,bZ,gZ,kU,finish,gl,ec,fb,sq,cj,elems,old,eG,rj]
theorem aoS{i n es bytes:Nat}{z l:List V}(c1:aa i=some (.code (sU n es bytes z)))(hn:1<=n)(hp:cj l=true)(hc:bM (l.flatMap aI)=true)(hl:l≠[])(hb:l.length*(bytes+1)<=2^40)(H:Heap):
  b9 aa (.fn i [] []) [.list es l] H=some (.cB H.length es 0 l.length l.length,H++[.row es l false],H.length):=by
 have ho:olds H.length l=true:=Dl hp;rw[pF,c1];simp[iL,sU,hn,jn,lJ,nu,oF,oE,c8,ch,step,gS,aw.put,ai.ah,iK,ga,bZ,gZ,kU,finish,gl,ec,fb,sq,cj,elems,old,eG,rj,o9 hp,hl,hc,hb,ho]
theorem aoT{i n es bytes:Nat}{z:List V}(c1:aa i=some (.code (sU n es bytes z)))(hn:1<=n)(H:Heap):
  b9 aa (.fn i [] []) [.list es []] H=some (.emp,H,H.length):=by
 rw[pF,c1];simp[iL,sU,hn,jn,lJ,nu,oF,oE,c8,ch,step,gS,aw.put,ai.ah,iK,ga,bZ,gZ,kU,finish,gl,ec,fb,sq,cj,elems,old,eG,rj]
section
variable{b:Nat}{aq σ:bY}{H:Heap}{wr:List Bool}{rest:List bU}
theorem acG{α:Type}{i n es bytes:Nat}{f:α->V}{z:List V}{s y:ae α}{k4 x:ai}{ms:cG}
  (c1:aa i=some (.code (sU n es bytes z))) (hn:1<=n) (hs:KW bytes s=some y) (av:Own H ms) (ag:bB aq σ k4=.fn i [] []) (hx:bB aq σ x=aV es f s) (hp:∀a,bx (f a)=true) (hc:∀a,bM (aI (f a))=true) (hb:b<=H.length):
  ∃v H1 m',ch (b9 aa) (bB aq σ) H H.length (.call true k4 [x])=some (v,H1,H.length)/\e3 b es f v y m'/\Own H1 (m'::ms)/\H.length<=H1.length:=by
 have key:∀v,b9 aa (.fn i [] []) [aV es f s] H=some (v,H,H.length)->e3 b es f v y []->∃v H1 m',ch (b9 aa) (bB aq σ) H H.length (.call true k4 [x])=some (v,H1,H.length)/\e3 b es f v y m'/\Own H1 (m'::ms)/\H.length<=H1.length:=fun v gm hr=>
  ⟨v,H,[],by rw[oa];simp[ag,hx,gm],hr,av.ins 0,aN _⟩
 cases s with
 |nil=>cases hs;exact key _ (aoQ c1 hn H) .nil
 |emp=>cases hs;exact key _ (aoR c1 hn H) .emp
 |mk l=>
  have hs:hh bytes .emp (ae.mk l)=some y:=hs;unfold hh at hs;by_cases hl:l=[]
  ·subst hl
   rw[if_pos (show(ae.mk ([]:List α)).l=[]from rfl)]at hs;cases hs;exact key _ (aoT c1 hn H) .emp
  ·rw[if_neg (show ¬(ae.mk l).l=[]from hl)]at hs
   split at hs
   ·rename_i cC
    cases hs;have gm:=aoS c1 hn (tY hp l) (w2 hc l) (by simpa using hl) (by simpa[ae.l]using cC) H;refine⟨.cB H.length es 0 (l.map f).length (l.map f).length,H++[.row es (l.map f) false],[(H.length,.row es (l.map f) false)],?_,.row _ _ (by simpa using hl) hb,av.grow _,by simp⟩;rw[oa];simp only[dX,jF,ag,hx,aV,gm,uO]
   ·cases hs
theorem aoU{α:Type}{i n es bytes:Nat}{f:α->V}{z:List V}{s y:ae α}{d:Option (Nat × Bool)}{g:Option (ai × Bool)}{k4 x:ai}{Q:bY->Heap->List Bool->Prop}{ms:cG}(hw:gi aq σ g=some true)
  (c1:aa i=some (.code (sU n es bytes z))) (hn:1<=n) (hs:KW bytes s=some y) (av:Own H ms) (ag:bB aq σ k4=.fn i [] []) (hx:bB aq σ x=aV es f s) (hp:∀a,bx (f a)=true) (hc:∀a,bM (aI (f a))=true)
  (cA:∀H' v' m' mv,e3 b es f v' y m'->Own H' (m'::ms)->Op aa b rest (fN aq d v') (fO σ d v') H' (mv::wr) Q):Op aa b (⟨d,.call true k4 [x],g⟩::rest) aq σ H wr Q:=fun aM ay low h1 h2 au a7=>by
 obtain⟨v,H1,m',ad,e2,bK,cw⟩:=acG c1 hn hs av ag hx hp hc a7;exact jw (o:=⟨d,.call true k4 [x],g⟩) hw (fun hb=>⟨c4 hb cw,H.length,hb,ad,rfl⟩) (cA H1 v m' _ e2 bK) aM ay low h1 h2 au a7
end
section
variable{b:Nat}{aq σ:bY}{H:Heap}{wr:List Bool}{rest:List bU}
theorem acH{es:Nat}{z:List V}{x:ai}{v v':V}{d:Option (Nat × Bool)}{g:Option (ai × Bool)}{ms gB:cG}{Q:bY->Heap->List Bool->Prop}(hw:gi aq σ g=some true)(av:Own H ms)(aJ:jV b 16 ms v v' gB)(hx:bB aq σ x=v)
  (hp:bx v'=true) (hc:(aI v').length=es/\bM (aI v')=true) (cA:∀H' mv,Own H' gB->Op aa b rest (fN aq d (.list es [v'])) (fO σ d (.list es [v'])) H' (mv::wr) Q):Op aa b (⟨d,.lit es z 1 [(0,x)] true,g⟩::rest) aq σ H wr Q:=fun aM ay low h1 h2 au a7=>by
 obtain⟨H1,bL,ad,gI,b1⟩:=aJ H H.length av a7;have eR:gl H H.length v=some (v',H1,bL):=ad;have hl:=(CT eR).2;have ag:=Qw (es:=es) (z:=mA z) [v'] [] (fun w hw=>by rw[I8]at hw;subst hw;exact hc);refine jw (o:=⟨d,.lit es z 1 [(0,x)] true,g⟩) (v:=.list es [v']) (H1:=H1) (mv:=eG H H1 bL) hw (fun hb=>⟨by omega,bL,b1,?_,rfl⟩) (cA H1 _ gI) aM ay low h1 h2 au a7;rw[Qk];simp only[step,dX,jF,hx,fb,eR,Ey,List.zip_nil_right];simp only[j4,oD,List.length_singleton,List.range'_one,Ey,List.zip_nil_right]at ag;simp only[ag,cj,hp,xR,if_true,Nat.one_ne_zero,if_false]
end
end Go.Abs
set_option maxHeartbeats 2000000
namespace Go.Abs.bA
open Go Go.Abs
structure fp where
 Table:Int
 dK:Int
 bS:Int
 deriving Inhabited
def iv (x:fp):V:=.agg [ao x.Table,ao x.dK,ao x.bS]
@[simp] theorem aoV (x : fp) : bx (iv x) = true := by simp [iv, bx, cj]
@[simp] theorem aoW (x : fp) : bM (aI (iv x)) = true := by simp [iv, aI, bM]
structure Range where
 fq:Int
 fr:Int
 deriving Inhabited
def rJ (x:Range):V:=.agg [ao x.fq,ao x.fr]
@[simp] theorem aoX (x : Range) : bx (rJ x) = true := by simp [rJ, bx, cj]
@[simp] theorem aoY (x : Range) : bM (aI (rJ x)) = true := by simp [rJ, aI, bM]
structure Table where
 Name:ck
 Kind:Int
 aZ:(ae Int)
 Range:Range
 cz:Int
 deriving Inhabited
def jW (x:Table):V:=.agg [.str x.Name,ao x.Kind,aV 1 ao x.aZ,ao x.Range.fq,ao x.Range.fr,ao x.cz]
@[simp] theorem aoZ (x : Table) : bx (jW x) = true := by simp [jW, bx, cj]
@[simp] theorem ao0 (x : Table) : bM (aI (jW x)) = true := by simp [jW, aI, bM]
structure Term where
 Cell:Int
 hJ:Int
 deriving Inhabited
def vc (x:Term):V:=.agg [ao x.Cell,ao x.hJ]
@[simp] theorem ao1 (x : Term) : bx (vc x) = true := by simp [vc, bx, cj]
@[simp] theorem ao2 (x : Term) : bM (aI (vc x)) = true := by simp [vc, aI, bM]
structure Row where
 da:(ae Term)
 nF:Int
 deriving Inhabited
def vd (x:Row):V:=.agg [aV 2 vc x.da,ao x.nF]
@[simp] theorem ao3 (x : Row) : bx (vd x) = true := by simp [vd, bx, cj]
@[simp] theorem ao4 (x : Row) : bM (aI (vd x)) = true := by simp [vd, aI, bM]
structure Constraint where
 Kind:Int
 og:Int
 Row:Row
 cz:Int
 rK:Int
 deriving Inhabited
def rL (x:Constraint):V:=.agg [ao x.Kind,ao x.og,aV 2 vc x.Row.da,ao x.Row.nF,ao x.cz,ao x.rK]
@[simp] theorem ao5 (x : Constraint) : bx (rL x) = true := by simp [rL, bx, cj]
@[simp] theorem ao6 (x : Constraint) : bM (aI (rL x)) = true := by simp [rL, aI, bM]
structure c0 where
 Name:ck
 Ordered:Bool
 aA:(ae Int)
 deriving Inhabited
def rM (x:c0):V:=.agg [.str x.Name,.bool x.Ordered,aV 1 ao x.aA]
@[simp] theorem ao7 (x : c0) : bx (rM x) = true := by simp [rM, bx, cj]
@[simp] theorem ao8 (x : c0) : bM (aI (rM x)) = true := by simp [rM, aI, bM]
structure Change where
 Cell:Int
 Add:Int
 deriving Inhabited
def ua (x:Change):V:=.agg [ao x.Cell,ao x.Add]
@[simp] theorem ao9 (x : Change) : bx (ua x) = true := by simp [ua, bx, cj]
@[simp] theorem apa (x : Change) : bM (aI (ua x)) = true := by simp [ua, aI, bM]
structure kH where
 Kind:Int
 Cell:Int
 Value:Int
 deriving Inhabited
def ve (x:kH):V:=.agg [ao x.Kind,ao x.Cell,ao x.Value]
@[simp] theorem apb (x : kH) : bx (ve x) = true := by simp [ve, bx, cj]
@[simp] theorem apc (x : kH) : bM (aI (ve x)) = true := by simp [ve, aI, bM]
structure dV where
 Delta:(ae Change)
 fX:(ae Row)
 e4:(ae kH)
 deriving Inhabited
def Dq (x:dV):V:=.agg [aV 2 ua x.Delta,aV 2 vd x.fX,aV 3 ve x.e4]
@[simp] theorem apd (x : dV) : bx (Dq x) = true := by simp [Dq, bx, cj]
@[simp] theorem ape (x : dV) : bM (aI (Dq x)) = true := by simp [Dq, aI, bM]
structure Action where
 c0:Int
 dQ:(ae Int)
 dV:dV
 deriving Inhabited
def rN (x:Action):V:=.agg [ao x.c0,aV 1 ao x.dQ,aV 2 ua x.dV.Delta,aV 2 vd x.dV.fX,aV 3 ve x.dV.e4]
@[simp] theorem apf (x : Action) : bx (rN x) = true := by simp [rN, bx, cj]
@[simp] theorem apg (x : Action) : bM (aI (rN x)) = true := by simp [rN, aI, bM]
structure Model where
 aA:(ae Int)
 Tables:(ae Table)
 eg:(ae ck)
 di:(ae Constraint)
 Operations:(ae c0)
 Actions:(ae Action)
 aW:(ae fp)
 deriving Inhabited
def ub (x:Model):V:=.agg [aV 1 ao x.aA,aV 6 jW x.Tables,aV 1 V.str x.eg,aV 6 rL x.di,aV 3 rM x.Operations,aV 5 rN x.Actions,aV 3 iv x.aW]
@[simp] theorem aph (x : Model) : bx (ub x) = true := by simp [ub, bx, cj]
@[simp] theorem api (x : Model) : bM (aI (ub x)) = true := by simp [ub, aI, bM]
structure eh where
 Model:Model
 strict:(ae Range)
 deriving Inhabited
def Ga (x:eh):V:=.agg [aV 1 ao x.Model.aA,aV 6 jW x.Model.Tables,aV 1 V.str x.Model.eg,aV 6 rL x.Model.di,aV 3 rM x.Model.Operations,aV 5 rN x.Model.Actions,aV 3 iv x.Model.aW,aV 2 rJ x.strict]
@[simp] theorem apj (x : eh) : bx (Ga x) = true := by simp [Ga, bx, cj]
@[simp] theorem apk (x : eh) : bM (aI (Ga x)) = true := by simp [Ga, aI, bM]
structure Token where
 Kind:Int
 acI:Int
 At:Int
 End:Int
 deriving Inhabited
def Dr (x:Token):V:=.agg [ao x.Kind,ao x.acI,ao x.At,ao x.End]
@[simp] theorem apl (x : Token) : bx (Dr x) = true := by simp [Dr, bx, cj]
@[simp] theorem apm (x : Token) : bM (aI (Dr x)) = true := by simp [Dr, aI, bM]
end Go.Abs.bA
namespace Go.Abs.Lex
open Go
def na (c:UInt8):Bool:=decide (97<=c.toNat)&&decide (c.toNat<=122)
def jy (c:UInt8):Bool:=decide (48<=c.toNat)&&decide (c.toNat<=57)
def mg (c:UInt8):Bool:=na c||jy c||c.toNat==95
def ja (c:UInt8):Bool:=c.toNat==32||c.toNat==9||c.toNat==10||c.toNat==13
def pre (s w:List UInt8):Bool:=s.take w.length==w
def two:List (List UInt8):=[[61,61],[33,61],[60,61],[62,61],[46,46]]
def one:List UInt8:=[60,62,61,43,45,42,40,41,123,125,44,58,59]
def sym (s:List UInt8):Nat:=if two.any (pre s)then 2 else match s with
 |[]=>0
 |c::_=>if one.contains c then 1 else 0
theorem drop_cons{α:Type}{s r:List α}{k:Nat}{c:α}(h:s.drop k=c::r):s[k]? =some c/\s.drop (k+1)=r/\k<s.length:=by
 have hk:k<s.length:=by
  rcases gD k s.length with h1|h1
  ·exact h1
  ·rw[Nu h1]at h;cases h
 rw[qo hk]at h;injection h with h1 h2;exact⟨by rw[jD hk,h1],h2,hk⟩
theorem drop_nil{α:Type}{s:List α}{k:Nat}(h:s.drop k=[]):s.length<=k:=by
 have:=congrArg List.length h;simp at this;omega
def h6 (p:UInt8->Bool)(s:List UInt8):Nat:=(s.takeWhile p).length
theorem AF (p:UInt8->Bool)(c:UInt8)(s:List UInt8):h6 p (c::s)=if p c then h6 p s+1 else 0:=by
 unfold h6;rw[List.takeWhile_cons];cases p c<;>simp
theorem yw (p:UInt8->Bool):∀s:List UInt8,h6 p s<=s.length
 |[]=>aN _
 |c::s=>by
  rw[AF];have:=yw p s;split<;>simp;omega
def hK:Bool->List UInt8->Nat
 | _,[]=>0
 |false,c::r=>if ja c then hK false r+1 else if c.toNat=35 then hK true r+1 else 0
 |true,c::r=>if c.toNat != 10 then hK true r+1 else hK false r+1
theorem Gb:∀(b:Bool) (s:List UInt8),hK b s<=s.length
 |b,[]=>by cases b<;>simp[hK]
 |false,c::r=>by
  have h1:=Gb false r;have h2:=Gb true r;simp only[hK,iI];split
  ·omega
  ·split<;>omega
 |true,c::r=>by
  have h1:=Gb false r;have h2:=Gb true r;simp only[hK,iI];split<;>omega
theorem KX:∀s:List UInt8,hK true s=h6 (fun c=>c.toNat != 10) s+hK false (s.drop (h6 (fun c=>c.toNat != 10) s))
 |[]=>rfl
 |c::r=>by
  rw[AF];by_cases h:(c.toNat != 10)=true
  ·simp only[hK,h,if_true,Vo]
   rw[KX r];omega
  ·have hw:ja c=true:=by
    simp at h;simp[ja,h]
   simp[hK,h,hw]
theorem apn (l:List UInt8)(c:UInt8):0<=Lib.indexByte l c↔c∈l:=by
 induction l with
 |nil=>exact⟨fun h=>absurd h (show ¬(0:Int)<=-1 by decide),fun h=>by cases h⟩
 |cons b l ih=>
  have hge:=Lib.indexByte_ge l c;show(0<=if(b==c)=true then 0 else if(Lib.indexByte l c==-1)=true then -1 else Lib.indexByte l c+1)↔_;by_cases h:b=c
  ·subst h;simp
  ·have h1:(b==c)=false:=by simp[h]
   rw[h1,dG,<-ih];simp only[fV,if_false];by_cases au:Lib.indexByte l c=-1
   ·simp[au,lI h]
   ·have a7:(Lib.indexByte l c==-1)=false:=by simp[au]
    simp only[a7,fV,if_false];constructor
    ·intro _;right;omega
    ·rintro(h5|h5)
     ·exact absurd h5.symm h
     ·omega
theorem apo (l:List UInt8)(c:UInt8):decide (0<=Lib.indexByte l c)=l.contains c:=by
 rw[EA,decide_eq_true_iff,apn,uK]
def pe (s:List UInt8):Bool:=match s with
 |[]=>false
 |c::_=>na c||jy c||decide (0<sym s)
def KY:List UInt8:=[115,111,114,116,32,114,101,108,97,116,105,111,110,32,99,111,117,110,116,101,114,32,115,101,116,32,114,101,103,105,115,116,101,114,32,105,110,118,97,114,105,97,110,116,32,111,112,101,114,97,116,105,111,110,32,107,101,121,32,114,101,102,101,114,101,110,99,101,32,116,111,32,99,111,117,110,116,32,97,99,121,99,108,105,99,32,97,108,108,32,115,117,109,32,105,110,32,97,100,100,119,105,110,115,32,114,101,109,111,118,101,119,105,110,115,32,108,97,115,116,32,109,117,108,116,105,32,104,105,100,101,32,111,114,100,101,114,101,100,32,114,101,113,117,105,114,101,32,104,111,108,100,32,105,110,115,101,114,116,32,100,101,108,101,116,101,32,97,100,100,32,102,114,111,109,32,112,117,116,32,100,114,111,112,32,97,115,115,105,103,110,32,102,111,114,32,119,104,101,114,101,32,97,110,100,32,111,114,32,110,111,116]
def kw:List (List UInt8):=Lib.fields KY
theorem QN:kw.length=35:=by kernel_rfl
def mh:List UInt8->Nat
 |[]=>0
 |c::r=>if ja c||c.toNat==35||pe (c::r)then 0 else mh r+1
theorem acJ:∀s:List UInt8,mh s<=s.length
 |[]=>aN _
 |c::r=>by
  have:=acJ r;simp only[mh,iI];split<;>omega
def jb:List UInt8->Nat
 |[]=>0
 |c::r=>if na c then(if kw.contains ((c::r).take (h6 mg (c::r)))then 2 else 1)else if jy c then 3 else if 0<sym (c::r)then 4 else 5
def lz:List UInt8->Nat
 |[]=>0
 |c::r=>if na c then h6 mg (c::r)else if jy c then h6 jy (c::r)else if 0<sym (c::r)then sym (c::r)else mh r+1
theorem apq{s w:List UInt8}(h:pre s w=true):w.length<=s.length:=by
 unfold pre at h;have:=eq_of_beq h;rw[<-this,q9];exact oC _ _
theorem acK (s:List UInt8):sym s<=s.length:=by
 unfold sym;split
 ·rename_i h
  obtain⟨w,hw,hp⟩:=uL.1 h;have:=apq hp;have h2:∀w∈two,w.length=2:=by decide
  rw[h2 w hw]at this;exact this
 ·split
  ·exact aN _
  ·split<;>simp
theorem apr (s:List UInt8):lz s<=s.length:=by
 cases s with
 |nil=>exact aN _
 |cons c r=>
  have h1:=yw mg (c::r);have h2:=yw jy (c::r);have au:=acK (c::r);have a7:=acJ r;simp only[lz];split
  ·exact h1
  ·split
   ·exact h2
   ·split
    ·exact au
    ·simp;omega
def dJ (s:List UInt8)(fT:Nat):Nat:=fT+hK false (s.drop fT)
def hL (s:List UInt8)(fT:Nat):Nat:=dJ s fT+lz (s.drop (dJ s fT))
theorem QO{s:List UInt8}{k:Nat}(h:k<=s.length):dJ s k<=s.length:=by
 have:=Gb false (s.drop k);rw[qs]at this;unfold dJ;omega
theorem QP{s:List UInt8}{k:Nat}(h:k<=s.length):hL s k<=s.length:=by
 have h1:=QO h;have:=apr (s.drop (dJ s k));rw[qs]at this;unfold hL;omega
def kindOf (w:List UInt8):Nat:=if w=[]\/4096<w.length then 0 else if dJ w 0=0/\hL w 0=w.length then jb w else 0
def syms:List (List UInt8):=two++one.map fun c=>[c]
def w4 (r:List UInt8):List (List UInt8)->Nat
 |[]=>0
 |w::ws=>if pre r w then w.length else w4 r ws
theorem acL (r:List UInt8)(vs:List (List UInt8)):∀(ws:List (List UInt8)),(∀w∈ws,w.length=2)->w4 r (ws++vs)=if ws.any (pre r)then 2 else w4 r vs
 |[],_=>rfl
 |w::ws,h=>by
  have ih:=acL r vs ws (fun w hw=>h w (by simp[hw]));have wR:=h w (by simp);simp only[l4,w4];by_cases hp:pre r w=true
  ·have KZ:(w::ws).any (pre r)=true:=by simp[hp]
   rw[if_pos hp,if_pos KZ,wR]
  ·have KZ:(w::ws).any (pre r)=ws.any (pre r):=by simp[hp]
   rw[if_neg hp,ih,KZ]
def acM (cs:List UInt8):List UInt8->Nat
 |[]=>0
 |c::_=>if cs.contains c then 1 else 0
theorem acN (r:List UInt8):∀(cs:List UInt8),w4 r (cs.map fun c=>[c])=acM cs r
 |[]=>by cases r<;>rfl
 |d::cs=>by
  have ih:=acN r cs;simp only[dX,w4];rw[ih];cases r with
  |nil=>rfl
  |cons c r=>
   have e:pre (c::r) [d]=(c==d):=by
    unfold pre;simp only[iI,oD,eo,I6,List.take_zero];rw[EA];simp
   simp only[e,acM,List.contains_cons];by_cases acO:c=d
   ·subst acO;simp
   ·have:(c==d)=false:=by simp[acO]
    rw[this];simp
theorem aps (r:List UInt8):w4 r syms=sym r:=by
 unfold syms;rw[acL r _ two (by decide),acN];cases r<;>rfl
theorem apt{s w:List UInt8}{k:Nat}(hk:k<=s.length):(decide (k+w.length<=s.length)&&((s.take (k+w.length)).drop k==w))=pre (s.drop k) w:=by
 unfold pre;have e:(s.take (k+w.length)).drop k=(s.drop k).take w.length:=by rw[List.drop_take];congr 1;omega
 rw[e];by_cases h:k+w.length<=s.length
 ·simp[h]
 ·have:((s.drop k).take w.length==w)=false:=by
   rw[Bool.eq_false_iff];intro c7;have:=congrArg List.length (eq_of_beq c7);simp at this;omega
  rw[this];simp
end Go.Abs.Lex
namespace Go.Abs
open Go
def Gc (k v:Int):List (Int × Int)->List (Int × Int)
 |[]=>[(k,v)]
 |(j,u)::l=>if k=j then(k,v)::l else(j,u)::Gc k v l
end Go.Abs
namespace Go.Abs.bA
open Go Go.Abs
noncomputable section
def Gd (w:ck):Option Int:=some (Lex.kindOf w)
def Ds (x:ae Range)(n:Int):Option (ae Range):=if x.l.length=1/\1<=n/\n<=1000 then some (.mk ((List.replicate n.toNat x.l).flatten))else none
def Dt:Option Bool:=some true
def strings_IndexByte (s:ck)(c:Int):Option Int:=some (Lib.indexByte s (UInt8.ofNat c.toNat))
def oh (ts:List Table)(h:fp):Bool:=
 (decide (h.Table>=0)&&decide (h.Table<ts.length))&&((decide (h.bS>=0)&&decide (h.bS<ts.length))&&(!(h.Table==h.bS)&&match ts[h.Table.toNat]?,ts[h.bS.toNat]? with
   |some t,some u=>(t.Kind==0)&&((u.Kind==0)&&((decide (h.dK>=0)&&decide (h.dK<t.aZ.l.length))&&((u.aZ.l.length==1)&&(u.aZ.l.getD 0 0==t.aZ.l.getD h.dK.toNat 0))))
   | _,_=>false))
def gj (hs:List fp):Nat->Int->Int->Bool
 |0,a,b=>a==b
 |n+1,a,b=>(a==b)||hs.any fun h=>(h.Table==a)&&gj hs n h.bS b
def sV (hs:List fp)(n:Nat):Bool:=hs.all fun h=>!gj hs n h.bS h.Table
def yx (ts:List Table)(hs:List fp):Bool:=decide (hs.length<=12)&&(hs.all (oh ts)&&sV hs ts.length)
def QQ (j:eh):Option Bool:=some (yx j.Model.Tables.l j.Model.aW.l)
def Du (ab:ae Int)(ax:ae Int):Option (ae (ae Int)):=match ax.l with
 |[x]=>if ab.l.length<1000/\(ab.l.all fun n=>decide (n>=1)&&decide (n<=6))=true/\0<=x/\x<ab.l.length then some (.mk ((List.range (ab.l.getD x.toNat 0).toNat).map fun(k:Nat)=>ae.mk [(k:Int)]))else none
 | _=>none
end
end Go.Abs.bA
namespace Go.Abs.bA
open Go Go.Abs
structure Rd (hs:List fp) (ks tv:List Int):Prop where
 sub:∀t∈tv,t∈ks
 dt:tv.Nodup
 next:∀t∈tv,∃h∈hs,h.Table=t/\h.bS∈ks
 eH:∀K:Int->Prop,(∀t,K t->t∈ks)->(∀t,K t->∃h∈hs,h.Table=t/\K h.bS)->∀t,K t->t∈tv
inductive rO (hs:List fp) (ks:List Int):Nat->List Int->Prop
 |zero:rO hs ks 0 ks
 |succ {n:Nat} {b4 dq:List Int}:rO hs ks n b4->Rd hs b4 dq->rO hs ks (n+1) dq
variable{hs:List fp}{ks:List Int}
theorem rO.sub{n:Nat}{k:List Int}(h:rO hs ks n k):∀t∈k,t∈ks:=by
 induction h with
 |zero=>exact fun t h=>h
 |succ _ h2 ih=>exact fun t h=>ih t (h2.sub t h)
theorem rO.eH{n:Nat}{k:List Int}(h:rO hs ks n k)(K:Int->Prop)(h1:∀t,K t->t∈ks)(h2:∀t,K t->∃h∈hs,h.Table=t/\K h.bS):∀t,K t->t∈k:=by
 induction h with
 |zero=>exact h1
 |succ _ au ih=>exact au.eH K ih h2
theorem rO.walk{n:Nat}{k:List Int}(h:rO hs ks n k):∀t∈k,∃f:Nat->Int,f 0=t/\(∀i,i<=n->f i∈ks)/\∀i,i<n->∃h∈hs,h.Table=f i/\h.bS=f (i+1):=by
 induction h with
 |zero=>exact fun t ht=>⟨fun _=>t,rfl,fun _ _=>ht,fun i hi=>absurd hi (Nat.not_lt_zero i)⟩
 |@succ n b4 dq h1 h2 ih=>
  intro t ht;obtain⟨h,c7,ad,e2⟩:=h2.next t ht
  obtain⟨f,f0,f1,f2⟩:=ih h.bS e2;refine⟨fun i=>match i with|0=>t|i+1=>f i,rfl,fun i hi=> ?_,fun i hi=> ?_⟩
  ·cases i with
   |zero=>exact h1.sub t (h2.sub t ht)
   |succ i=>exact f1 i (by omega)
  ·cases i with
   |zero=>exact⟨h,c7,ad,f0.symm⟩
   |succ i=>exact f2 i (by omega)
theorem yy{α:Type}[BEq α][LawfulBEq α]:∀{l k:List α},l.Nodup->(∀x∈l,x∈k)->l.length<=k.length
 |[],_,_,_=>cN _
 |a::l,k,hn,hs=>by
  obtain⟨h1,h2⟩:=xQ.1 hn;have al:=hs a (by simp);have ih:=yy (l:=l) (k:=k.erase a) h2 fun x hx=>(List.mem_erase_of_ne (fun e=>h1 (by rw[<-e];exact hx))).2 (hs x (by simp[hx]));rw[List.length_erase_of_mem al]at ih;have:=List.length_pos_of_mem al;simp only[iI];omega
theorem acP{f:Nat->Int}{k:List Int}(h:∀i,i<=k.length->f i∈k):∃i j,i<j/\j<=k.length/\f i=f j:=by
 refine Classical.byContradiction fun hc=> ?_
 have hnd:((List.range (k.length+1)).map f).Nodup:=by
  unfold List.Nodup;rw[List.pairwise_map];refine List.pairwise_lt_range.imp_of_mem fun {a b} al hb kA e=>hc ⟨a,b,kA,?_,e⟩;have:=Jj.1 hb;omega
 have:=yy hnd (k:=k) fun x hx=>by
  obtain⟨i,hi,rfl⟩:=eA.1 hx;have:=Jj.1 hi;exact h i (by omega)
 simp at this;omega
theorem apu{n:Nat}{a b:Int}:∀{a:Int},gj hs n a b=true->gj hs (n+1) a b=true:=by
 induction n with
 |zero=>intro a h;simp only[gj]at h⊢; simp[h]
 |succ n ih=>
  intro a h;rw[gj,j2]at h⊢;rcases h with h|h
  ·exact .inl h
  ·refine .inr ?_
   obtain⟨x,hx,h1⟩:=uL.1 h;simp only[cm]at h1;exact uL.2 ⟨x,hx,by simp only[cm];exact⟨h1.1,ih h1.2⟩⟩
theorem acQ{n m:Nat}{a b:Int}(h:n<=m)(hl:gj hs n a b=true):gj hs m a b=true:=by
 induction h with
 |refl=>exact hl
 |step _ ih=>exact apu (a:=a) ih
theorem QR{f:Nat->Int}{n:Nat}(h:∀i,i<n->∃h∈hs,h.Table=f i/\h.bS=f (i+1)):∀k a,a+k<=n->gj hs k (f a) (f (a+k))=true
 |0,a,_=>by simp[gj]
 |k+1,a,hk=>by
  obtain⟨x,hx,ad,e2⟩:=h a (by omega);have ih:=QR h k (a+1) (by omega);rw[gj,j2];refine .inr (uL.2 ⟨x,hx,?_⟩);rw[ad,e2];simp only[beq_self_eq_true,dy];rw[show a+(k+1)=a+1+k by omega];exact ih
theorem apv{n:Nat}{a b:Int}(kA:a≠b)(h:gj hs n a b=true):∃x∈hs,x.Table=a/\∃m,gj hs m x.bS b=true:=by
 cases n with
 |zero=>simp only[gj,beq_iff_eq]at h;exact absurd h kA
 |succ n=>
  rw[gj,j2]at h;rcases h with h|h
  ·exact absurd (eq_of_beq h) kA
  ·obtain⟨x,hx,h1⟩:=uL.1 h
   simp only[cm,beq_iff_eq]at h1;exact⟨x,hx,h1.1,n,h1.2⟩
theorem apw{N:Nat}{k:List Int}(hnd:ks.Nodup)(hm:∀t,t∈ks↔∃h∈hs,h.Table=t)(fM:∀h∈hs,0<=h.Table/\h.Table<N)(hr:rO hs ks hs.length k):decide (k.length=0)=sV hs N:=by
 have Ag:ks.length<=hs.length:=by
  have:=yy hnd (k:=hs.map (·.Table)) fun x hx=>by
   obtain⟨h,h1,h2⟩:=(hm x).1 hx;exact eA.2 ⟨h,h1,h2⟩
  simpa using this
 have CB:ks.length<=N:=by
  have:=yy hnd (k:=(List.range N).map Int.ofNat) fun x hx=>by
   obtain⟨h,h1,rfl⟩:=(hm x).1 hx;have:=fM h h1;exact eA.2 ⟨h.Table.toNat,Jj.2 (by omega),by simp;omega⟩
  simpa using this
 rw[EA,decide_eq_true_iff];unfold sV;rw[eE];constructor
 ·intro h0 h c7
  have hk:k=[]:=zp.1 h0;cases hl:gj hs N h.bS h.Table with
  |false=>rfl
  |true=>
   have oU:∀t,(∃n,gj hs n t h.Table=true)->∃x∈hs,x.Table=t/\∃n,gj hs n x.bS h.Table=true:=by
    rintro t ⟨n,hn⟩;by_cases e:t=h.Table
    ·exact⟨h,c7,e.symm,N,hl⟩
    ·exact apv e hn
   have:=hr.eH (fun t=>∃n,gj hs n t h.Table=true) (fun t ht=>by
    obtain⟨x,hx,e,-⟩:=oU t ht;exact(hm t).2 ⟨x,hx,e⟩) oU h.Table ⟨0,by simp[gj]⟩
   rw[hk]at this;cases this
 ·intro eC
  refine Classical.byContradiction fun bq=> ?_;obtain⟨t,ht⟩:=List.exists_mem_of_length_pos (l:=k) (by omega);obtain⟨f,-,f1,f2⟩:=hr.walk t ht;obtain⟨i,j,cY,hj,e⟩:=acP (f:=f) (k:=ks) fun i hi=>f1 i (by omega);obtain⟨x,hx,ad,e2⟩:=f2 i (by omega);have hw:=QR (n:=hs.length) f2 (j-(i+1)) (i+1) (by omega);rw[show i+1+(j-(i+1))=j by omega,<-e,<-ad,<-e2]at hw;have:=eC x hx;rw[acQ (m:=N) (by omega) hw]at this;cases this
end Go.Abs.bA
