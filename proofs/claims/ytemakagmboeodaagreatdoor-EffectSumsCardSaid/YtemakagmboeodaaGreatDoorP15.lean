/- Texts of this claim, joined and written short by a program. -/
import Derived.Test.YtemakagmboeodaaGreatDoorP08
import Derived.Test.YtemakagmboeodaaGreatDoorP00
set_option linter.unusedVariables false
set_option linter.unusedSimpArgs false
set_option linter.unusedSectionVars false
namespace Go.Abs
open Go
variable{C:Ctx}{fid:Nat->Nat}
def r8 (ab:Nat->Option bQ)(k:Nat)(spec:o8):Nat->Option bQ:=fun i=>match Nat.beq i k with
 |true=>some (.lW spec)
 |false=>ab i
theorem abr (ab:Nat->Option bQ)(k:Nat)(spec:o8):r8 ab k spec k=some (.lW spec):=by
 unfold r8;rw[sO]
theorem Qy{ab:Nat->Option bQ}(hT:da C fid ab){k:Nat}{spec:o8}(hs:v8 C fid k spec):da C fid (r8 ab k spec) where
 code:=fun i f h=>by
  unfold r8 at h;split at h
  ·cases h
  ·exact hT.code i f h
 ext:=fun i s h=>by
  unfold r8 at h;split at h
  ·cases h
  ·exact hT.ext i s h
 lW:=fun i s h=>by
  unfold r8 at h;split at h
  ·rename_i e
   cases h;rw[dm e];exact hs
  ·exact hT.lW i s h
end Go.Abs
namespace Go.Abs
open Go
variable{C:Ctx}{fid:Nat->Nat}
def Gc:bd->bd->Bool
 | .cells a,.cells b=>hX a b
 | .row n a f,.row m b g=>decide (n=m)&&(hX a b&&decide (f=g))
 | _,_=>false
def qI:Heap->Heap->Bool
 |[],[]=>true
 |a::r,b::s=>Gc a b&&qI r s
 | _,_=>false
theorem abt:∀{a b:bd},Gc a b=true->a=b:=by
 intro a b h;unfold Gc at h;split at h
 ·rw[mB _ _ h]
 ·rw[cH,cH,decide_eq_true_eq,decide_eq_true_eq]at h
  obtain⟨h1,h2,aq⟩:=h;rw[h1,mB _ _ h2,aq]
 ·cases h
theorem Qz:∀{a b:Heap},qI a b=true->a=b
 |[],[],_=>rfl
 | _::_,_::_,h=>by
   simp only[qI,cH]at h;rw[abt h.1,Qz h.2]
 |[],_::_,h=>by simp[qI]at h
 | _::_,[],h=>by simp[qI]at h
def Gd (aC:List V)(fc:Heap)(r:V × List (Nat × bd) × List bd):o8:=fun args H=>bif hX args aC&&qI H fc then some r else none
def wF (fc:Heap)(r:V × List (Nat × bd) × List bd):V × Heap × Nat:=(r.1,rm fc r.2.1++r.2.2,sW fc.length r.2.1)
theorem abu (cr:C.P.follows .mixedOrders=true)(bu:eh C fid){ab er:Nat->Option bQ}(Ge:da C fid er)(hT:da C fid ab){n i:Nat}{f:gR}(hi:er i=some (.code f)){aC:List V}{fc:Heap}{r:V × List (Nat × bd) × List bd}
  (he:fP (exec (aS ab n) n) f aC fc=some (wF fc r)):v8 C fid i (Gd aC fc r):=by
 intro G H w args v H' low xs aa mA gp;unfold o9 Gd at gp;cases e:(hX args aC&&qI H fc)with
 |false=>rw[e]at gp;cases gp
 |true=>
  rw[e]at gp;have h':some (wF H r)=some (v,H',low):=gp;rw[cH]at e;have av:=mB _ _ e.1;have a2:=Qz e.2;subst av a2;rw[h']at he;obtain⟨fn,fx,qy⟩:=Ge.code i f hi;obtain⟨c,hb,-,-,qz,-⟩:=ys qy;rw[wi fx hb qz];exact⟨FG cr bu (wj cr bu hT n) fx qy he aa mA,_,_,rfl⟩
def yO:List (List V × Heap × (V × List (Nat × bd) × List bd))->o8
 |[],_,_=>none
 |(aC,fc,r)::t,args,H=>bif hX args aC&&qI H fc then some r else yO t args H
def Gf (ab:Nat->Option bQ)(n:Nat)(f:gR):List (List V × Heap × (V × List (Nat × bd) × List bd))->Prop
 |[]=>True
 |(aC,fc,r)::t=>fP (exec (aS ab n) n) f aC fc=some (wF fc r)/\Gf ab n f t
theorem abv (cr:C.P.follows .mixedOrders=true)(bu:eh C fid){ab er:Nat->Option bQ}(Ge:da C fid er)(hT:da C fid ab){n i:Nat}{f:gR}(hi:er i=some (.code f))
  {l:List (List V × Heap × (V × List (Nat × bd) × List bd))} (hl:Gf ab n f l):v8 C fid i (yO l):=by
 intro G H w args v H' low xs aa mA gp
 induction l with
 |nil=>cases gp
 |cons p t ih=>
  obtain⟨aC,fc,r⟩:=p;cases e:(hX args aC&&qI H fc)with
  |true=>
   refine abu cr bu Ge hT hi hl.1 aa mA ?_;unfold o9 at gp⊢;simp only[yO,Gd,e]at gp⊢;exact gp
  |false=>
   refine ih hl.2 ?_;unfold o9 at gp⊢;simp only[yO,e]at gp;exact gp
def yP (H:Heap)(l:List (Nat × bd))(n:List bd):Heap:=rm H l++n
end Go.Abs
