/- Texts of this claim, joined and written short by a program. -/
import Derived.Test.YtgkcikhegodchaaGreatDoorP28
import Derived.Test.YtgkcikhegodchaaGreatDoorP24
import Derived.Test.YtgkcikhegodchaaGreatDoorP33
import Derived.Test.YtgkcikhegodchaaGreatDoorP01
import Derived.ChangeBears
import Derived.ChangeSlices
import Derived.SizedLaws
import Derived.Test.YtgkcikhegodchaaGreatDoorCards
import Derived.WalkKit
import Derived.ProofKit
import Derived.OpenShut
import Derived.ChangeStays
import Derived.Deep.DeepHandedRow
import Derived.Deep.DeepLaidRun
import Derived.Lib.LaidTab
import Derived.Deep.DeepWitnessRowRef
import Derived.Test.YtgkcikhegodchaaGreatDoorP21
import Derived.Test.YtgkcikhegodchaaGreatDoorP10
import Derived.Test.YtgkcikhegodchaaGreatDoorP00
set_option linter.unusedVariables false
set_option linter.unusedSimpArgs false
set_option linter.unusedSectionVars false
namespace Go.Abs.bA
open Go Go.Abs Go.Abs.hv
theorem bD:gv aK where
 h4:=fun t x B ρ fs=>match t,x with
  |0,x=>.int
  |1,x=>(.aeo (aep (i:=0) rfl))
  |2,x=>.str
  |3,x=>.int
  |4,x=>.agg (.cons .int (.cons .int (.cons .int .nil)))
  |5,x=>.sl
  |6,x=>.sl
  |7,x=>.agg (.cons .int (.cons .int .nil))
  |8,x=>.agg (.cons .str (.cons .int (.cons .sl (.cons .int (.cons .int (.cons .int .nil))))))
  |9,x=>.sl
  |10,x=>.sl
  |11,x=>.sl
  |12,x=>.sl
  |13,x=>.agg (.cons .int (.cons .int .nil))
  |14,x=>.sl
  |15,x=>.agg (.cons .sl (.cons .int .nil))
  |16,x=>.agg (.cons .int (.cons .int (.cons .sl (.cons .int (.cons .int (.cons .int .nil))))))
  |17,x=>.sl
  |18,x=>.agg (.cons .str (.cons (.aeo (aep (i:=0) rfl)) (.cons .sl .nil)))
  |19,x=>.sl
  |20,x=>.agg (.cons .int (.cons .int .nil))
  |21,x=>.sl
  |22,x=>.sl
  |23,x=>.agg (.cons .int (.cons .int (.cons .int .nil)))
  |24,x=>.sl
  |25,x=>.agg (.cons .sl (.cons .sl (.cons .sl .nil)))
  |26,x=>.agg (.cons .int (.cons .sl (.cons .sl (.cons .sl (.cons .sl .nil)))))
  |27,x=>.sl
  |28,x=>.agg (.cons .sl (.cons .sl (.cons .sl (.cons .sl (.cons .sl (.cons .sl (.cons .sl .nil)))))))
  |29,x=>.agg (.cons .sl (.cons .sl (.cons .sl (.cons .sl (.cons .sl (.cons .sl (.cons .sl (.cons .sl .nil))))))))
  |30,x=>.agg (.cons .int (.cons .int (.cons .int (.cons .int .nil))))
  |31,x=>.sl
  |32,x=>.sl
  |33,x=>.sl
  | _+34,_=>.k
 iC:=fun t v B ρ fs w x af h=>match t,x,h with
  |0,x,h=>iU (J:=aK) (k:=.i64) (n:=x) (v:=v) h af
  |1,x,h=>aeq (J:=aK) (B:=B) (c:=x) (v:=v) h af
  |2,x,h=>SM (J:=aK) (s:=x) (v:=v) h af
  |3,x,h=>iU (J:=aK) (k:=.u8) (n:=x) (v:=v) h af
  |4,x,h=>by
   obtain⟨vs,ws,rfl,hr,h⟩:=qZ (J:=aK) h af;split at h
   ·obtain⟨_,_,rfl,fP,hr⟩:=bG.inv hr;obtain⟨_,_,rfl,q1,hr⟩:=bG.inv hr;obtain⟨_,_,rfl,q2,hr⟩:=bG.inv hr;cases bG.qY hr
    obtain⟨cb,h0,h⟩:=dW.1 h;obtain⟨bs,h1,h⟩:=dW.1 h;obtain⟨cr,h2,h⟩:=dW.1 h;cases h;rw[iU h0 fP,iU h1 q1,iU h2 q2];rfl
   ·cases h
  |5,x,h=>fU (J:=aK) (t:=4) h af
  |6,x,h=>fU (J:=aK) (t:=0) h af
  |7,x,h=>by
   obtain⟨vs,ws,rfl,hr,h⟩:=qZ (J:=aK) h af;split at h
   ·obtain⟨_,_,rfl,fP,hr⟩:=bG.inv hr;obtain⟨_,_,rfl,q1,hr⟩:=bG.inv hr;cases bG.qY hr
    obtain⟨cb,h0,h⟩:=dW.1 h;obtain⟨bs,h1,h⟩:=dW.1 h;cases h;rw[iU h0 fP,iU h1 q1];rfl
   ·cases h
  |8,x,h=>by
   obtain⟨vs,ws,rfl,hr,h⟩:=qZ (J:=aK) h af;split at h
   ·obtain⟨_,_,rfl,fP,hr⟩:=bG.inv hr;obtain⟨_,_,rfl,q1,hr⟩:=bG.inv hr;obtain⟨_,_,rfl,q2,hr⟩:=bG.inv hr;obtain⟨_,_,rfl,b3,hr⟩:=bG.inv hr;obtain⟨_,_,rfl,cS,hr⟩:=bG.inv hr;obtain⟨_,_,rfl,fw,hr⟩:=bG.inv hr;cases bG.qY hr
    obtain⟨cb,h0,h⟩:=dW.1 h;obtain⟨bs,h1,h⟩:=dW.1 h;obtain⟨cr,h2,h⟩:=dW.1 h;obtain⟨dA,au,h⟩:=dW.1 h;obtain⟨lB,a7,h⟩:=dW.1 h;obtain⟨ek,h5,h⟩:=dW.1 h;cases h;rw[SM h0 fP,iU h1 q1,fU (J:=aK) (t:=0) h2 q2,iU au b3,iU a7 cS,iU h5 fw];rfl
   ·cases h
  |9,x,h=>fU (J:=aK) (t:=1) h af
  |10,x,h=>fU (J:=aK) (t:=8) h af
  |11,x,h=>fU (J:=aK) (t:=2) h af
  |12,x,h=>fU (J:=aK) (t:=7) h af
  |13,x,h=>by
   obtain⟨vs,ws,rfl,hr,h⟩:=qZ (J:=aK) h af;split at h
   ·obtain⟨_,_,rfl,fP,hr⟩:=bG.inv hr;obtain⟨_,_,rfl,q1,hr⟩:=bG.inv hr;cases bG.qY hr
    obtain⟨cb,h0,h⟩:=dW.1 h;obtain⟨bs,h1,h⟩:=dW.1 h;cases h;rw[iU h0 fP,iU h1 q1];rfl
   ·cases h
  |14,x,h=>fU (J:=aK) (t:=13) h af
  |15,x,h=>by
   obtain⟨vs,ws,rfl,hr,h⟩:=qZ (J:=aK) h af;split at h
   ·obtain⟨_,_,rfl,fP,hr⟩:=bG.inv hr;obtain⟨_,_,rfl,q1,hr⟩:=bG.inv hr;cases bG.qY hr
    obtain⟨cb,h0,h⟩:=dW.1 h;obtain⟨bs,h1,h⟩:=dW.1 h;cases h;rw[fU (J:=aK) (t:=13) h0 fP,iU h1 q1];rfl
   ·cases h
  |16,x,h=>by
   obtain⟨vs,ws,rfl,hr,h⟩:=qZ (J:=aK) h af;split at h
   ·obtain⟨_,_,rfl,fP,hr⟩:=bG.inv hr;obtain⟨_,_,rfl,q1,hr⟩:=bG.inv hr;obtain⟨_,_,rfl,q2,hr⟩:=bG.inv hr;obtain⟨_,_,rfl,b3,hr⟩:=bG.inv hr;obtain⟨_,_,rfl,cS,hr⟩:=bG.inv hr;obtain⟨_,_,rfl,fw,hr⟩:=bG.inv hr;cases bG.qY hr
    obtain⟨cb,h0,h⟩:=dW.1 h;obtain⟨bs,h1,h⟩:=dW.1 h;obtain⟨cr,h2,h⟩:=dW.1 h;obtain⟨dA,au,h⟩:=dW.1 h;obtain⟨lB,a7,h⟩:=dW.1 h;obtain⟨ek,h5,h⟩:=dW.1 h;cases h;rw[iU h0 fP,iU h1 q1,fU (J:=aK) (t:=13) h2 q2,iU au b3,iU a7 cS,iU h5 fw];rfl
   ·cases h
  |17,x,h=>fU (J:=aK) (t:=16) h af
  |18,x,h=>by
   obtain⟨vs,ws,rfl,hr,h⟩:=qZ (J:=aK) h af;split at h
   ·obtain⟨_,_,rfl,fP,hr⟩:=bG.inv hr;obtain⟨_,_,rfl,q1,hr⟩:=bG.inv hr;obtain⟨_,_,rfl,q2,hr⟩:=bG.inv hr;cases bG.qY hr
    obtain⟨cb,h0,h⟩:=dW.1 h;obtain⟨bs,h1,h⟩:=dW.1 h;obtain⟨cr,h2,h⟩:=dW.1 h;cases h;rw[SM h0 fP,aeq h1 q1,fU (J:=aK) (t:=0) h2 q2];rfl
   ·cases h
  |19,x,h=>fU (J:=aK) (t:=18) h af
  |20,x,h=>by
   obtain⟨vs,ws,rfl,hr,h⟩:=qZ (J:=aK) h af;split at h
   ·obtain⟨_,_,rfl,fP,hr⟩:=bG.inv hr;obtain⟨_,_,rfl,q1,hr⟩:=bG.inv hr;cases bG.qY hr
    obtain⟨cb,h0,h⟩:=dW.1 h;obtain⟨bs,h1,h⟩:=dW.1 h;cases h;rw[iU h0 fP,iU h1 q1];rfl
   ·cases h
  |21,x,h=>fU (J:=aK) (t:=20) h af
  |22,x,h=>fU (J:=aK) (t:=15) h af
  |23,x,h=>by
   obtain⟨vs,ws,rfl,hr,h⟩:=qZ (J:=aK) h af;split at h
   ·obtain⟨_,_,rfl,fP,hr⟩:=bG.inv hr;obtain⟨_,_,rfl,q1,hr⟩:=bG.inv hr;obtain⟨_,_,rfl,q2,hr⟩:=bG.inv hr;cases bG.qY hr
    obtain⟨cb,h0,h⟩:=dW.1 h;obtain⟨bs,h1,h⟩:=dW.1 h;obtain⟨cr,h2,h⟩:=dW.1 h;cases h;rw[iU h0 fP,iU h1 q1,iU h2 q2];rfl
   ·cases h
  |24,x,h=>fU (J:=aK) (t:=23) h af
  |25,x,h=>by
   obtain⟨vs,ws,rfl,hr,h⟩:=qZ (J:=aK) h af;split at h
   ·obtain⟨_,_,rfl,fP,hr⟩:=bG.inv hr;obtain⟨_,_,rfl,q1,hr⟩:=bG.inv hr;obtain⟨_,_,rfl,q2,hr⟩:=bG.inv hr;cases bG.qY hr
    obtain⟨cb,h0,h⟩:=dW.1 h;obtain⟨bs,h1,h⟩:=dW.1 h;obtain⟨cr,h2,h⟩:=dW.1 h;cases h;rw[fU (J:=aK) (t:=20) h0 fP,fU (J:=aK) (t:=15) h1 q1,fU (J:=aK) (t:=23) h2 q2];rfl
   ·cases h
  |26,x,h=>by
   obtain⟨vs,ws,rfl,hr,h⟩:=qZ (J:=aK) h af;split at h
   ·obtain⟨_,_,rfl,fP,hr⟩:=bG.inv hr;obtain⟨_,_,rfl,q1,hr⟩:=bG.inv hr;obtain⟨_,_,rfl,q2,hr⟩:=bG.inv hr;obtain⟨_,_,rfl,b3,hr⟩:=bG.inv hr;obtain⟨_,_,rfl,cS,hr⟩:=bG.inv hr;cases bG.qY hr
    obtain⟨cb,h0,h⟩:=dW.1 h;obtain⟨bs,h1,h⟩:=dW.1 h;obtain⟨cr,h2,h⟩:=dW.1 h;obtain⟨dA,au,h⟩:=dW.1 h;obtain⟨lB,a7,h⟩:=dW.1 h;cases h;rw[iU h0 fP,fU (J:=aK) (t:=0) h1 q1,fU (J:=aK) (t:=20) h2 q2,fU (J:=aK) (t:=15) au b3,fU (J:=aK) (t:=23) a7 cS];rfl
   ·cases h
  |27,x,h=>fU (J:=aK) (t:=26) h af
  |28,x,h=>by
   obtain⟨vs,ws,rfl,hr,h⟩:=qZ (J:=aK) h af;split at h
   ·obtain⟨_,_,rfl,fP,hr⟩:=bG.inv hr;obtain⟨_,_,rfl,q1,hr⟩:=bG.inv hr;obtain⟨_,_,rfl,q2,hr⟩:=bG.inv hr;obtain⟨_,_,rfl,b3,hr⟩:=bG.inv hr;obtain⟨_,_,rfl,cS,hr⟩:=bG.inv hr;obtain⟨_,_,rfl,fw,hr⟩:=bG.inv hr;obtain⟨_,_,rfl,gV,hr⟩:=bG.inv hr;cases bG.qY hr
    obtain⟨cb,h0,h⟩:=dW.1 h;obtain⟨bs,h1,h⟩:=dW.1 h;obtain⟨cr,h2,h⟩:=dW.1 h;obtain⟨dA,au,h⟩:=dW.1 h;obtain⟨lB,a7,h⟩:=dW.1 h;obtain⟨ek,h5,h⟩:=dW.1 h;obtain⟨nb,fL,h⟩:=dW.1 h;cases h;rw[fU (J:=aK) (t:=0) h0 fP,fU (J:=aK) (t:=8) h1 q1,fU (J:=aK) (t:=2) h2 q2,fU (J:=aK) (t:=16) au b3,fU (J:=aK) (t:=18) a7 cS,fU (J:=aK) (t:=26) h5 fw,fU (J:=aK) (t:=4) fL gV];rfl
   ·cases h
  |29,x,h=>by
   obtain⟨vs,ws,rfl,hr,h⟩:=qZ (J:=aK) h af;split at h
   ·obtain⟨_,_,rfl,fP,hr⟩:=bG.inv hr;obtain⟨_,_,rfl,q1,hr⟩:=bG.inv hr;obtain⟨_,_,rfl,q2,hr⟩:=bG.inv hr;obtain⟨_,_,rfl,b3,hr⟩:=bG.inv hr;obtain⟨_,_,rfl,cS,hr⟩:=bG.inv hr;obtain⟨_,_,rfl,fw,hr⟩:=bG.inv hr;obtain⟨_,_,rfl,gV,hr⟩:=bG.inv hr;obtain⟨_,_,rfl,mT,hr⟩:=bG.inv hr;cases bG.qY hr
    obtain⟨cb,h0,h⟩:=dW.1 h;obtain⟨bs,h1,h⟩:=dW.1 h;obtain⟨cr,h2,h⟩:=dW.1 h;obtain⟨dA,au,h⟩:=dW.1 h;obtain⟨lB,a7,h⟩:=dW.1 h;obtain⟨ek,h5,h⟩:=dW.1 h;obtain⟨nb,fL,h⟩:=dW.1 h;obtain⟨qc,mS,h⟩:=dW.1 h;cases h;rw[fU (J:=aK) (t:=0) h0 fP,fU (J:=aK) (t:=8) h1 q1,fU (J:=aK) (t:=2) h2 q2,fU (J:=aK) (t:=16) au b3,fU (J:=aK) (t:=18) a7 cS,fU (J:=aK) (t:=26) h5 fw,fU (J:=aK) (t:=4) fL gV,fU (J:=aK) (t:=7) mS mT];rfl
   ·cases h
  |30,x,h=>by
   obtain⟨vs,ws,rfl,hr,h⟩:=qZ (J:=aK) h af;split at h
   ·obtain⟨_,_,rfl,fP,hr⟩:=bG.inv hr;obtain⟨_,_,rfl,q1,hr⟩:=bG.inv hr;obtain⟨_,_,rfl,q2,hr⟩:=bG.inv hr;obtain⟨_,_,rfl,b3,hr⟩:=bG.inv hr;cases bG.qY hr
    obtain⟨cb,h0,h⟩:=dW.1 h;obtain⟨bs,h1,h⟩:=dW.1 h;obtain⟨cr,h2,h⟩:=dW.1 h;obtain⟨dA,au,h⟩:=dW.1 h;cases h;rw[iU h0 fP,iU h1 q1,iU h2 q2,iU au b3];rfl
   ·cases h
  |31,x,h=>fU (J:=aK) (t:=30) h af
  |32,x,h=>fU (J:=aK) (t:=6) h af
  |33,x,h=>fU (J:=aK) (t:=21) h af
  | _+34,_,h=>by cases h
 bx:=fun t x=>match t,x with
  |0,x=>rfl
  |1,x=>rfl
  |2,x=>rfl
  |3,x=>rfl
  |4,x=>aoV x
  |5,x=>lU _ _ _
  |6,x=>lU _ _ _
  |7,x=>aoX x
  |8,x=>aoZ x
  |9,x=>lU _ _ _
  |10,x=>lU _ _ _
  |11,x=>lU _ _ _
  |12,x=>lU _ _ _
  |13,x=>ao1 x
  |14,x=>lU _ _ _
  |15,x=>ao3 x
  |16,x=>ao5 x
  |17,x=>lU _ _ _
  |18,x=>ao7 x
  |19,x=>lU _ _ _
  |20,x=>ao9 x
  |21,x=>lU _ _ _
  |22,x=>lU _ _ _
  |23,x=>apb x
  |24,x=>lU _ _ _
  |25,x=>apd x
  |26,x=>apf x
  |27,x=>lU _ _ _
  |28,x=>aph x
  |29,x=>apj x
  |30,x=>apl x
  |31,x=>lU _ _ _
  |32,x=>lU _ _ _
  |33,x=>lU _ _ _
  | _+34,_=>rfl
 ok:=fun t x=>match t,x with
  |0,x=>rfl
  |1,x=>rfl
  |2,x=>rfl
  |3,x=>rfl
  |4,x=>aoW x
  |5,x=>pn _ _ _
  |6,x=>pn _ _ _
  |7,x=>aoY x
  |8,x=>ao0 x
  |9,x=>pn _ _ _
  |10,x=>pn _ _ _
  |11,x=>pn _ _ _
  |12,x=>pn _ _ _
  |13,x=>ao2 x
  |14,x=>pn _ _ _
  |15,x=>ao4 x
  |16,x=>ao6 x
  |17,x=>pn _ _ _
  |18,x=>ao8 x
  |19,x=>pn _ _ _
  |20,x=>apa x
  |21,x=>pn _ _ _
  |22,x=>pn _ _ _
  |23,x=>apc x
  |24,x=>pn _ _ _
  |25,x=>ape x
  |26,x=>apg x
  |27,x=>pn _ _ _
  |28,x=>api x
  |29,x=>apk x
  |30,x=>apm x
  |31,x=>pn _ _ _
  |32,x=>pn _ _ _
  |33,x=>pn _ _ _
  | _+34,_=>rfl
 es:=fun t x=>match t,x with
  |0,x=>rfl
  |1,x=>rfl
  |2,x=>rfl
  |3,x=>rfl
  |4,x=>rfl
  |5,x=>po _ _ _
  |6,x=>po _ _ _
  |7,x=>rfl
  |8,x=>rfl
  |9,x=>po _ _ _
  |10,x=>po _ _ _
  |11,x=>po _ _ _
  |12,x=>po _ _ _
  |13,x=>rfl
  |14,x=>po _ _ _
  |15,x=>rfl
  |16,x=>rfl
  |17,x=>po _ _ _
  |18,x=>rfl
  |19,x=>po _ _ _
  |20,x=>rfl
  |21,x=>po _ _ _
  |22,x=>po _ _ _
  |23,x=>rfl
  |24,x=>po _ _ _
  |25,x=>rfl
  |26,x=>rfl
  |27,x=>po _ _ _
  |28,x=>rfl
  |29,x=>rfl
  |30,x=>rfl
  |31,x=>po _ _ _
  |32,x=>po _ _ _
  |33,x=>po _ _ _
  | _+34,_=>rfl
 bc:=fun t x=>match t,x with
  |0,x=>fun h=>rfl
  |1,x=>fun h=>rfl
  |2,x=>fun h=>rfl
  |3,x=>fun h=>rfl
  |4,x=>fun h=>by cases h
  |5,x=>fun h=>by cases h
  |6,x=>fun h=>by cases h
  |7,x=>fun h=>by cases h
  |8,x=>fun h=>by cases h
  |9,x=>fun h=>by cases h
  |10,x=>fun h=>by cases h
  |11,x=>fun h=>by cases h
  |12,x=>fun h=>by cases h
  |13,x=>fun h=>by cases h
  |14,x=>fun h=>by cases h
  |15,x=>fun h=>by cases h
  |16,x=>fun h=>by cases h
  |17,x=>fun h=>by cases h
  |18,x=>fun h=>by cases h
  |19,x=>fun h=>by cases h
  |20,x=>fun h=>by cases h
  |21,x=>fun h=>by cases h
  |22,x=>fun h=>by cases h
  |23,x=>fun h=>by cases h
  |24,x=>fun h=>by cases h
  |25,x=>fun h=>by cases h
  |26,x=>fun h=>by cases h
  |27,x=>fun h=>by cases h
  |28,x=>fun h=>by cases h
  |29,x=>fun h=>by cases h
  |30,x=>fun h=>by cases h
  |31,x=>fun h=>by cases h
  |32,x=>fun h=>by cases h
  |33,x=>fun h=>by cases h
  | _+34,_=>fun h=>by cases h
 adb:=fun t n h=>by
  have h:RZ t=some n:=h;unfold RZ at h;split at h<;>cases h
  ·exact yv
  ·exact aoH
end Go.Abs.bA
set_option maxRecDepth 100000
namespace Go.Abs.bA
open Go Go.Abs Go.Abs.Lex Go.Proofs
variable{g:Nat->Option Obj}
theorem TX{A:Type}{es:Nat}{f:A->V}(ag:∀a b,f a=f b->a=b){x y:ae A}(h:aV es f x=aV es f y):x=y:=by
 cases x<;>cases y<;>simp only[aV,reduceCtorEq,V.list.injEq,true_and]at h<;>try rfl
 rename_i l m;congr 1
 induction l generalizing m with
 |nil=>cases m<;>simp_all
 |cons a l ih=>
  cases m with
  |nil=>simp at h
  |cons b m=>
   simp only[dX,xP]at h;rw[ag _ _ h.1,ih m h.2]
theorem axc (a b:Int)(h:ao a=ao b):a=b:=by cases h;rfl
theorem axd (a b:Table)(h:jW a=jW b):a=b:=by
 obtain⟨ak,a2,a3,⟨a4,a5⟩,Iw⟩:=a;obtain⟨b1,e8,h7,⟨j9,tr⟩,zi⟩:=b;simp only[jW,V.agg.injEq,xP,V.str.injEq,V.int.injEq,true_and,and_true]at h;obtain⟨rfl,rfl,au,rfl,rfl,rfl⟩:=h;rw[TX axc au]
theorem axe (a b:fp)(h:iv a=iv b):a=b:=by
 obtain⟨ak,a2,a3⟩:=a;obtain⟨b1,e8,h7⟩:=b;simp only[iv,V.agg.injEq,xP,V.int.injEq,true_and,and_true]at h;obtain⟨rfl,rfl,rfl⟩:=h;rfl
def B9 (j:eh):Bool:=yx j.Model.Tables.l j.Model.aW.l
theorem axf{a b:eh}(h:V.agg (kn a)=V.agg (kn b)):B9 a=B9 b:=by
 simp only[kn,V.agg.injEq,xP]at h;unfold B9;rw[TX axd h.2.1,TX axe h.2.2.2.2.2.2.1]
noncomputable section
open Go.Abs.hv
def oR:List (ba aK):=[]
theorem TY:bg (pY g) oR:=fun _ h=>by cases h
def ago:List (ba aK):=⟨82,[],[.v 0,.v 0],[1],fun c a=>nc a.1 a.2.1⟩::oR
theorem agp:bg (pY g) ago:=bF bD TY [] (.two .o (.pu [4] .o)) (by kernel_rfl) fun c a=>by kernel_rfl
def agq:List (ba aK):=⟨164,[],[.v 5,.f [4] 1],[0],fun c a=>acR a.1 a.2.1⟩::ago
theorem axg:bg (pY g) agq:=bF bD agp [] (.two .o (.two (.two .o (.cy [(.s 8,.p 0)] [(.exit 0,[]),(.ret,[(.s 4,.p 0)])] .o)) .o)) (by kernel_rfl) fun c a=>by kernel_rfl
def axh:List (ba aK):=⟨91,[],[.v 5,.f [4] 1],[1],fun c a=>Ge a.1 a.2.1⟩::agq
theorem axi:bg (pY g) axh:=bF bD axg [] .o (by kernel_rfl) fun c a=>by kernel_rfl
end
open Classical in
noncomputable def Ca:List V->Option V:=fun args=>if h:∃j,args=[.agg (kn j)]then some (.bool (B9 h.choose))else none
theorem agr (j:eh):Ca [.agg (kn j)]=some (.bool (B9 j)):=by
 have h:∃wv,[V.agg (kn j)]=[.agg (kn wv)]:=⟨j,rfl⟩;unfold Ca;rw[dif_pos h];exact congrArg (fun b=>some (V.bool b)) (axf (e5 h.choose_spec).1).symm
def TZ:Code->Code| .block _ c=>c|c=>c
def axj:Code->Code| .loop c=>c|c=>c
noncomputable def T0:Code:=Tryz.f41.body.getD .skip
noncomputable def q5:Nat->Code
 |0=>T0
 |n+1=>im (q5 n)
noncomputable def zj:Code:=axj (TZ (im (jT (q5 5))))
noncomputable def axk:Code:=.seq (jT T0) (.seq (jT (q5 1)) (.seq (jT (q5 2)) (.seq (jT (q5 3)) (.seq (jT (q5 4)) (.seq (.seq (jT (jT (q5 5))) (.block 4 (.loop (.seq (jT zj) (.seq (jT (im zj)) (.seq (.block 5 (TZ (jT (im (im zj))))) (im (im (im zj))))))))) (im (q5 5)))))))
theorem ags:Tryz.f41.body=some axk:=by kernel_rfl
theorem axl (h:dU (C g) id (pY g)):jQ (C g) id 41 Ca:=by
 intro G H w args v xs U e0 nz;unfold Ca at nz;split at nz
 case isFalse=>cases nz
 rename_i hj;have agt:=hj.choose_spec;generalize hj.choose=j at agt nz;clear hj;subst agt;cases nz;rw[FJ (C:=C g) Tryz.func41 ags (by kernel_rfl)];have oW:BK (pY g):=asH axi.hd;have Ty:My (pY g):=asG agp.hd
 have Qf:=avm (C:=C g) (fid:=id) (vars:=Ctx.varsOf Tryz.f41) (N:=Tryz.f41.ntmps) (aa:=pY g) (p1:=jT T0) (p2:=jT (q5 1)) (p3:=jT (q5 2)) (mR:=jT (q5 3)) (uo:=jT (q5 4)) (HU:=jT (jT (q5 5))) (Mv:=im (q5 5)) (hd:=jT zj) (o6:=jT (im zj)) (tb:=TZ (jT (im (im zj)))) (inc:=im (im (im zj)))
  mixed KE (asN mixed KE h) (by kernel_rfl) (by kernel_rfl) (by kernel_rfl) (by kernel_rfl) (by kernel_rfl) (by kernel_rfl) (by kernel_rfl) (by kernel_rfl) (by kernel_rfl) (by kernel_rfl) (by kernel_rfl) (by kernel_rfl) (by kernel_rfl) oW Ty j
 have hc:=Ys (C:=C g) (H:=[]) (H':=[]) (qO:=[.tmp 2]) (fresh:=false) (v:=.bool (B9 j)) (low':=0) KE Tryz.func41 ags (by kernel_rfl) (args:=[.agg (kn j)]) (of_decide_eq_true (by kernel_rfl)) (Qf.mono fun x s hx=>by
  obtain⟨rfl,h2⟩:=hx;refine⟨.inr rfl,[.bool (B9 j)],?_,?_⟩
  ·simp only[gZ,kU,h2];rfl
  ·simp[ke,finish,gl,ec,bx,old]) U.apart (dp.pG e0)
 exact EE hc fun e w'=>fun⟨x,ad,e2⟩=>⟨x,ad,e2.beside U (by simp[bx])⟩
noncomputable def bl (g:Nat->Option Obj):Nat->Option cc:=over (over (pY g) 41 Ca) 6 (Al [] (.bool true))
theorem agu (h:dU (C g) id (pY g)/\dU (A g) id (iQ g)):dU (C g) id (bl g):=Kd (Kd h.1 (axl h.1)) (axb h.2)
end Go.Abs.bA
namespace Go.Abs
open Go Go.ChangeShapes
def te:List V->V
 |[x]=>x
 |vs=>.agg vs
theorem axm{x:V}(h:dY x=true):aI x=[x]:=by cases x<;>simp_all [dY,aI]
theorem agv{l:List V}(h:bM l=true):aI (te l)=l:=by
 match l,h with
 |[],_=>rfl
 |[x],h=>simp only[bM,sj]at h;exact axm h
 | _::_::_,_=>rfl
inductive fG {H:Type} (P:Program):TypeId->DataW H->List V->Prop
 |bool (t:TypeId) (b:Bool) (ht:P.underlying t=some .bool):fG P t (.lit (.bool b)) [.bool b]
 |int (t:TypeId) (k:IntKind) (n:Int) (ht:P.underlying t=some (.int k)) (hw:(Lit.int k n).wf=true):fG P t (.lit (.int k n)) [.int k n]
 |str (t:TypeId) (s:List UInt8) (ht:P.underlying t=some .string):fG P t (.lit (.string s)) [.str s]
 |nil (t e:TypeId) (ht:P.underlying t=some (.slice e)):fG P t .nil [.cu]
 |slice (t e:TypeId) (elems spare:List (DataW H)) (ls:List (List V)) (ht:P.underlying t=some (.slice e)) (hl:ls.length=elems.length)
  (h:∀(i:Nat) d l,elems[i]? =some d->ls[i]? =some l->fG P e d l):fG P t (.slice elems spare) [.list (P.cellsOf e) (ls.map te)]
 |struct (t:TypeId) (fs:Array Field) (parts:List (DataW H)) (ls:List (List V)) (ht:P.underlying t=some (.struct fs)) (hp:parts.length=fs.size) (hl:ls.length=fs.size)
  (h:∀(i:Nat) (f:Field) d l,fs[i]? =some f->parts[i]? =some d->ls[i]? =some l->fG P f.type d l):fG P t (.agg parts) ls.flatten
def vD (P:Program):Nat->TypeId->Bool
 |0,_=>false
 |n+1,t=>match P.underlying t with
  |some .bool|some (.int _)|some .string=>P.cellsOf t==1
  |some (.slice e)=>P.cellsOf t==1&&decide (0<P.cellsOf e)&&vD P n e
  |some (.struct fs)=>fs.toList.all fun f=>vD P n f.type
  | _=>false
theorem T1{w:World}{I:Nat->Prop}:∀{vs:List V} {xs:List Value} {us:List V} {cQ:List Value},dp w I vs xs->dp w I us cQ->dp w I (vs++us) (xs++cQ)
 | _,_,_,_,.nil,h=>h
 | _,_,_,_,.cons v x vs xs h hs,k=>.cons v x _ _ h (T1 hs k)
theorem axn{a b:List V}:bM (a++b)=(bM a&&bM b):=by
 induction a with
 |nil=>simp[bM]
 |cons x a ih=>simp[bM,ih,Cj]
theorem agw{α:Type}{p:Nat->α->Prop}:∀n,(∀i,i<n->∃a,p i a)->∃l:List α,l.length=n/\∀i a,l[i]? =some a->p i a
 |0,_=>⟨[],rfl,fun i a h=>by simp at h⟩
 |n+1,h=>by
  obtain⟨l,hl,hp⟩:=agw n (fun i hi=>h i (by omega));obtain⟨a,al⟩:=h n (by omega);refine⟨l++[a],by simp[hl],fun i b hb=> ?_⟩;rcases gD i n with hi|hi
  ·rw[fY (by omega)]at hb;exact hp i b hb
  ·rw[vH (by omega)]at hb
   have:i-l.length=0:=by
    rcases Vs (i-l.length)with h0|h0
    ·exact h0
    ·rw[nP (by simp;omega)]at hb;cases hb
   rw[this]at hb;cases hb;have:i=n:=by omega
   rw[this];exact al
theorem agx{α:Type}{c:Nat}:∀{ls:List (List α)} {j:Nat} {x:α},(∀l∈ls,l.length=c)->ls.flatten[j]? =some x->∃i r l,ls[i]? =some l/\l[r]? =some x/\j=i*c+r/\r<c
 |[],j,x,_,h=>by simp at h
 |l::ls,j,x,hc,h=>by
  have hl:=hc l (by simp);rw[Jc]at h;rcases gD j c with hj|hj
  ·rw[fY (by omega)]at h
   exact⟨0,j,l,rfl,h,by omega,hj⟩
  ·rw[vH (by omega)]at h
   obtain⟨i,r,fB,h1,h2,au,a7⟩:=agx (fun m hm=>hc m (by simp[hm])) h;exact⟨i+1,r,fB,by simpa using h1,h2,by rw[vK];omega,a7⟩
section
variable{H:Type}{enc:TypeId × Value->H}{P:Program}{W:World}{held:Bool}
def zk (W:World):Nat->Prop:=fun b=>b<W.heap.size
def Reads (P:Program)(W:World)(t:TypeId)(cs:List Value)(d:DataW H):Prop:=
 ∃vs,fG P t d vs/\dp W (zk W) vs cs/\bM vs=true/\vs.length=P.cellsOf t/\cs.length=P.cellsOf t
theorem agy{a:Addr}{v:Value}(h:W.cell? a=some v):a.spot=none/\a.block<W.heap.size:=by
 unfold World.cell? at h;split at h
 ·rename_i c e f c7
  split at h
  ·cases h
  ·rename_i hs
   refine⟨by simpa using hs,?_⟩;rcases gD a.block W.heap.size with q|q
   ·exact q
   ·rw[I2 q]at c7;cases c7
 ·cases h
theorem agz (n:Nat)(agA:∀fuel t cs (x:DataW H × List MemPlace),t<P.types.size->vD P n t=true->DataW.trod enc P W 0 (fun _=>true) held fuel t cs=some x->Reads P W t cs x.1)(m:Nat)(cs:List Value):
  ∀(bc:List Field) (xs:List (DataW H × List MemPlace)) (off:Nat),(∀(j:Nat) (f:Field),bc[j]? =some f->f.offset=off+((bc.take j).map fun f=>P.cellsOf f.type).sum)->xs.length=bc.length->(∀f∈bc,f.type<P.types.size/\vD P n f.type=true)->
   (∀(i:Nat) (f:Field),bc[i]? =some f->DataW.trod enc P W 0 (fun _=>true) held m f.type ((cs.drop f.offset).take (P.cellsOf f.type))=xs[i]?)->
   ∃ls:List (List V),ls.length=bc.length/\(∀(i:Nat) (f:Field) (y:DataW H × List MemPlace) (l:List V),bc[i]? =some f->xs[i]? =some y->ls[i]? =some l->fG P f.type y.1 l)/\dp W (zk W) ls.flatten ((cs.drop off).take (bc.map fun f=>P.cellsOf f.type).sum)/\bM ls.flatten=true/\
    ls.flatten.length=(bc.map fun f=>P.cellsOf f.type).sum
 |[],xs,off,_,hl,_,_=>⟨[],rfl,fun i f y l h=>by simp at h,by simp;exact .nil,rfl,rfl⟩
 |f::bc,xs,off,agB,hl,ag,hx=>by
  match xs,hl with
  |y::xs,hl=>
   have h0:=hx 0 f rfl;have ho:=agB 0 f rfl;simp only[List.take_zero,jF,List.sum_nil,zw]at ho;rw[ho]at h0;simp only[nO]at h0;obtain⟨vs,bI,cq,e6,gU,ju⟩:=agA m f.type _ y (ag f (by simp)).1 (ag f (by simp)).2 h0
   obtain⟨ls,q1,q2,b3,cS,fw⟩:=agz n agA m cs bc xs (off+P.cellsOf f.type) (fun j g bb=>by
     have:=agB (j+1) g (by simpa using bb);simp only[I6,dX,List.sum_cons]at this;omega) (by simpa using hl) (fun g bb=>ag g (by simp[bb])) (fun i g bb=>by simpa using hx (i+1) g (by simpa using bb))
   refine⟨vs::ls,by simp[q1],fun i g z l bb aJ kf=> ?_,?_,?_,?_⟩
   ·cases i with
    |zero=>
     simp only[nO,aD]at bb aJ kf;subst bb;subst aJ;subst kf;exact bI
    |succ i=>
     simp only[Ev]at bb aJ kf;exact q2 i g z l bb aJ kf
   ·rw[Jc,dX,List.sum_cons,List.take_add,uN]
    exact T1 cq b3
   ·rw[Jc,axn,e6,cS];rfl
   ·rw[Jc,hO,gU,fw,dX,List.sum_cons]
theorem reads (hR:laidOutB P=true):∀(n fuel:Nat) (t:TypeId) (cs:List Value) (x:DataW H × List MemPlace),t<P.types.size->vD P n t=true->DataW.trod enc P W 0 (fun _=>true) held fuel t cs=some x->Reads P W t cs x.1
 |0,_,_,_,_,_,ag,_=>by simp[vD]at ag
 |n+1,fuel,t,cs,x,En,ag,h=>by
  unfold vD at ag;split at ag
  ·rename_i ht
   have hc:P.cellsOf t=1:=by simpa using ag
   obtain⟨b,rfl,hx⟩:∃b,cs=[.bool b]/\x=(.lit (.bool b),[]):=by
    cases fuel with
    |zero=>simp[DataW.trod]at h
    |succ m=>
     unfold DataW.trod at h;rw[ht]at h;split at h<;>simp_all
   subst hx;exact⟨_,.bool t _ ht,.cons _ _ _ _ (.bool _) .nil,rfl,by rw[hc];rfl,by rw[hc];rfl⟩
  ·rename_i k ht
   have hc:P.cellsOf t=1:=by simpa using ag
   obtain⟨m,rfl,rfl,hw⟩:=DataW.trod_int ht h;exact⟨_,.int t k m ht hw,.cons _ _ _ _ (.int k m) .nil,rfl,by rw[hc];rfl,by rw[hc];rfl⟩
  ·rename_i ht
   have hc:P.cellsOf t=1:=by simpa using ag
   obtain⟨s,rfl,rfl,hw⟩:=DataW.trod_string ht h;obtain⟨⟨s⟩⟩:=s;exact⟨_,.str t _ ht,.cons _ _ _ _ (.str s) .nil,rfl,by rw[hc];rfl,by rw[hc];rfl⟩
  ·rename_i e ht
   simp only[cm,beq_iff_eq,decide_eq_true_eq]at ag;obtain⟨⟨hc,rH⟩,jt⟩:=ag;have fc:=kid_slice hR En ht;rcases DataW.trod_slice ht h with⟨rfl,rfl⟩|⟨a,len,cap,elems,rest,m,-,rfl,rfl,-,oM,-,hlen,yT,-,-⟩
   ·exact⟨_,.nil t e ht,.cons _ _ _ _ .cu .nil,rfl,by rw[hc];rfl,by rw[hc];rfl⟩
   ·have each:∀i,i<len->∃q:List Value × List V,(∃y,elems[i]? =some y/\W.cells? 0 (a.add (i*P.cellsOf e)) (P.cellsOf e)=some q.1/\fG P e y.1 q.2/\dp W (zk W) q.2 q.1/\bM q.2=true/\q.2.length=P.cellsOf e/\q.1.length=P.cellsOf e):=fun i hi=>by
     have hb:=yT i hi;obtain⟨y,hy⟩:∃y,elems[i]? =some y:=⟨_,jD (by omega)⟩;rw[hy,dW]at hb;obtain⟨cs',h1,h2⟩:=hb;obtain⟨vs,bI,cq,e6,gU,ju⟩:=reads hR n m e cs' y fc jt h2;exact⟨(cs',vs),y,hy,h1,bI,cq,e6,gU,ju⟩
    obtain⟨l2,agC,bu⟩:=agw len each;have dD:∀q∈l2,∃i,l2[i]? =some q:=fun q h=>List.getElem?_of_mem h;refine⟨[.list (P.cellsOf e) ((l2.map (·.2)).map te)],.slice t e (elems.map (·.1)) (rest.map (·.1)) (l2.map (·.2)) ht (by simp[agC,hlen]) (fun i d l hd hl=> ?_),?_,rfl,by rw[hc];rfl,by rw[hc];rfl⟩
    ·rw[iH]at hd hl
     cases Cb:l2[i]? with
     |none=>rw[Cb]at hl;cases hl
     |some q=>
      obtain⟨y,hy,-,h2,-⟩:=bu i q Cb;rw[Cb]at hl;rw[hy]at hd;cases hd;cases hl;exact h2
    ·refine .cons _ _ _ _ ?_ .nil
     cases tE:len with
     |zero=>
      have:l2=[]:=List.eq_nil_of_length_eq_zero (by omega);subst this;exact .vV _ a cap
     |succ aBX=>
      obtain⟨fP,TY⟩:∃q,l2[0]? =some q:=⟨_,jD (by omega)⟩;obtain⟨BJ,-,hc0,-,-,-,-,qG⟩:=bu 0 fP TY;have T2:=(World.cells?_some hc0).2.2 0 rH;obtain⟨v0,zV⟩:∃v,fP.1[0]? =some v:=⟨_,jD (by omega)⟩;rw[zV]at T2;obtain⟨ie,bh,axo⟩:=a
      have nz:axo=none:=by
       have:=(agy T2).1;simpa[Addr.add]using this
      subst nz
      have hC:ie<W.heap.size:=by
       have:=(agy T2).2;rwa [block_add,block_add]at this
      have Eo:((l2.map (·.2)).map te).length=len:=by simp[agC]
      have key:gf W (zk W) (.list (P.cellsOf e) ((l2.map (·.2)).map te)) (.slice (some ⟨ie,bh,none⟩) ((l2.map (·.2)).map te).length cap):=by
       refine .list _ _ ie bh cap (l2.map (·.1)).flatten hC (fun j x hj=> ?_) (fun d hd=> ?_) ?_ (by rw[Eo];exact oM)
       ·obtain⟨i,r,l,h1,h2,rfl,a7⟩:=agx (c:=P.cellsOf e) (fun l hl=>by
         obtain⟨q,IC,rfl⟩:=eA.1 hl;obtain⟨i,hi⟩:=dD q IC;obtain⟨y,-,-,-,-,-,-,h⟩:=bu i q hi;exact h) hj
        rw[iH]at h1;cases Cb:l2[i]? with
        |none=>rw[Cb]at h1;cases h1
        |some q=>
         rw[Cb]at h1;cases h1;obtain⟨y,-,fJ,-⟩:=bu i q Cb;have:=(World.cells?_some fJ).2.2 r a7;rw[h2]at this
         have ad:((⟨ie,bh,none⟩:Addr).add (i*P.cellsOf e)).add r=⟨ie,bh+(i*P.cellsOf e+r),none⟩:=by
          simp only[Addr.add];split<;>split<;>simp_all<;>omega
         rw[ad]at this;exact this
       ·obtain⟨l,hl,rfl⟩:=eA.1 hd
        obtain⟨q,IC,rfl⟩:=eA.1 hl;obtain⟨i,hi⟩:=dD q IC;obtain⟨y,-,-,-,-,h5,fL,-⟩:=bu i q hi;rw[agv h5];exact fL
       ·have eC:∀q∈l2,dp W (zk W) q.2 q.1/\bM q.2=true:=fun q IC=>by
         obtain⟨i,hi⟩:=dD q IC;obtain⟨y,-,-,-,a7,h5,-⟩:=bu i q hi;exact⟨a7,h5⟩
        have:∀l2:List (List Value × List V),(∀q∈l2,dp W (zk W) q.2 q.1/\bM q.2=true)->dp W (zk W) (((l2.map (·.2)).map te).flatMap aI) (l2.map (·.1)).flatten:=by
         intro l2
         induction l2 with
         |nil=>intro _;exact .nil
         |cons q l2 ih=>
          intro h;have h0:=h q (by simp);simp only[dX,lH,Jc];rw[agv h0.2];exact T1 h0.1 (ih fun p hp=>h p (by simp[hp]))
        exact this l2 eC
      rw[Eo,tE]at key;exact key
  ·rename_i fs ht
   obtain⟨b4,dq,jK⟩:=kid_struct hR En ht;obtain⟨xs,m,-,rfl,gm,js,hx⟩:=DataW.trod_struct ht h;rw[eE]at ag;obtain⟨ls,q1,q2,b3,cS,fw⟩:=agz n (fun fuel t cs x a b c=>reads hR n fuel t cs x a b c) m cs fs.toList xs 0 (fun j f hj=>by rw[jK j f hj];omega) (by simpa using js) (fun f agD=>⟨b4 f agD,ag f agD⟩) (fun i f hi=>hx i f (by simpa using hi));refine⟨ls.flatten,.struct t fs (xs.map (·.1)) ls ht (by simpa using js) (by simpa using q1) (fun i f d l ry hd hl=> ?_),?_,cS,by rw[fw,dq],gm⟩
   ·rw[iH]at hd
    cases s9:xs[i]? with
    |none=>rw[s9]at hd;cases hd
    |some y=>
     rw[s9]at hd;cases hd;exact q2 i f y l (by simpa using ry) s9 hl
   ·rw[List.drop_zero,Nt (by rw[gm,dq];exact aN _)]at b3
    exact b3
  ·cases ag
theorem lG{t:TypeId}{k:IntKind}{d:DataW H}{vs:List V}(ht:P.underlying t=some (.int k))(h:fG P t d vs):∃n,d=.lit (.int k n)/\vs=[.int k n]/\(Lit.int k n).wf=true:=by
 cases h<;>rename_i ey<;>rw[ht]at* <;>try (first|(cases ey;done)|contradiction)
 ·rename_i hw;cases ey;exact⟨_,rfl,rfl,hw⟩
theorem T3{t:TypeId}{d:DataW H}{vs:List V}(ht:P.underlying t=some .string)(h:fG P t d vs):∃s,d=.lit (.string s)/\vs=[.str s]:=by
 cases h with
 |str _ s ey=>exact⟨s,rfl,rfl⟩
 |bool _ _ ey|int _ _ _ ey _|nil _ _ ey|slice _ _ _ _ _ ey _ _|struct _ _ _ _ ey _ _ _=>rw[ht]at ey;cases ey
theorem axp{t:TypeId}{d:DataW H}{vs:List V}(ht:P.underlying t=some .bool)(h:fG P t d vs):∃b,d=.lit (.bool b)/\vs=[.bool b]:=by
 cases h with
 |bool _ b ey=>exact⟨b,rfl,rfl⟩
 |str _ _ ey|int _ _ _ ey _|nil _ _ ey|slice _ _ _ _ _ ey _ _|struct _ _ _ _ ey _ _ _=>rw[ht]at ey;cases ey
theorem agE{t e:TypeId}{d:DataW H}{vs:List V}(ht:P.underlying t=some (.slice e))(h:fG P t d vs):
  (d=.nil/\vs=[.cu])\/∃(elems spare:List (DataW H)) (ls:List (List V)),d=.slice elems spare/\vs=[.list (P.cellsOf e) (ls.map te)]/\ls.length=elems.length/\∀(i:Nat) d l,elems[i]? =some d->ls[i]? =some l->fG P e d l:=by
 cases h with
 |nil _ _ ey=>exact .inl ⟨rfl,rfl⟩
 |slice _ e' elems spare ls ey hl h=>rw[ht]at ey;cases ey;exact .inr ⟨elems,spare,ls,rfl,rfl,hl,h⟩
 |bool _ _ ey|str _ _ ey|int _ _ _ ey _|struct _ _ _ _ ey _ _ _=>rw[ht]at ey;cases ey
theorem tf{t:TypeId}{fs:Array Field}{d:DataW H}{vs:List V}(ht:P.underlying t=some (.struct fs))(h:fG P t d vs):
  ∃(parts:List (DataW H)) (ls:List (List V)),d=.agg parts/\vs=ls.flatten/\parts.length=fs.size/\ls.length=fs.size/\∀(i:Nat) (f:Field) d l,fs[i]? =some f->parts[i]? =some d->ls[i]? =some l->fG P f.type d l:=by
 cases h with
 |struct _ aBY parts ls ey hp hl h=>rw[ht]at ey;cases ey;exact⟨parts,ls,rfl,rfl,hp,hl,h⟩
 |bool _ _ ey|str _ _ ey|int _ _ _ ey _|nil _ _ ey|slice _ _ _ _ _ ey _ _=>rw[ht]at ey;cases ey
theorem axq{t e:TypeId}{elems spare:List (DataW H)}(ht:P.underlying t=some (.slice e)):(elems.length+spare.length)*P.bytesOf e∈(DataW.slice elems spare).weights P t:=by simp[DataW.weights,ht]
theorem axr (hR:laidOutB P=true){n:Nat}{t:TypeId}{v:Value}{d:DataW H}{ps:List MemPlace}(En:t<P.types.size)(ag:vD P n t=true)(mG:v.cells.toList=[v])
  (hd:DataW.Trod enc P W 0 (fun _=>true) held t v d ps):∃h4,fG P t d [h4]/\gf W (zk W) h4 v:=by
 obtain⟨fuel,hd⟩:=hd;obtain⟨vs,bI,cq,e6,gU,ju⟩:=reads hR n fuel t _ _ En ag hd;rw[mG]at cq;cases cq with
 |cons h4 x vs xs h hs=>cases hs;exact⟨h4,bI,h⟩
end
end Go.Abs
namespace Go.Abs.bA
open Go Go.Abs Go.Proofs
set_option maxRecDepth 100000
def u5 (W:World):cg:=⟨fun _=>none,fun b=>b<W.heap.size⟩
theorem axs (W:World):bd (C fun b=>W.heap[b]?) id (u5 W) [] W where
 obj l h e:=by cases e
 inj l fB h h' e:=by cases e
 blk l h e:=by cases e
 c9 b hb:=⟨hb,fun l h e=>by cases e⟩
 kV l h e:=by cases e
 ff b o h:=⟨by
  rcases gD b W.heap.size with q|q
  ·exact q
  ·simp[C,I2 q]at h,h⟩
theorem ID{W w':World}{G':cg}{H':Heap}(U:bd (C fun b=>W.heap[b]?) id G' H' w'){b:Nat}(hb:b<W.heap.size):w'.heap[b]? =W.heap[b]? :=by
 have h:W.heap[b]? =some W.heap[b]:=by simp[hb]
 rw[(U.ff b _ h).2,h]
theorem axt{W w':World}{G':cg}{H':Heap}(U:bd (C fun b=>W.heap[b]?) id G' H' w'){b off:Nat}(hb:b<W.heap.size):w'.cell? ⟨b,off,none⟩=W.cell? ⟨b,off,none⟩:=by
 unfold World.cell?; rw[ID U hb]
theorem axu{W w':World}{G':cg}{H':Heap}(U:bd (C fun b=>W.heap[b]?) id G' H' w')(ho:w'.os=W.os)(hp:w'.output=W.output)(may:MemPlace->Prop):W.keptBut w' may:=by
 refine⟨ho,hp,fun i hi=> ?_⟩;rw[ID U hi];cases h:W.heap[i]? with
 |none=>simp
 |some o=>cases o<;>simp
theorem agF{P:Program}{w:World}{n:String}{d:DataW Unit}:∀{l:List (String × DataW Unit)} {ps:List MemPlace},DataW.LaidVars P w l ps->(n,d)∈l->
  ∃g t cs fuel p,P.globalNamed n=some g/\(P.globals[g]?).map (·.type)=some t/\w.var? P n=some cs/\DataW.trod (fun _=>()) P w 0 (fun _=>true) false fuel t cs.toList=some (d,p)
 |[],_,_,h=>by cases h
 |(m,e)::r,ps,h,hm=>by
  obtain⟨g,t,cs,fuel,p,q,h1,h2,au,a7,h5,-⟩:=h;rcases dG.1 hm with hm|hm
  ·cases hm;exact⟨g,t,cs,fuel,p,h1,h2,au,a7⟩
  ·exact agF h5 hm
theorem agG{P:Program}{W:World}{name:String}{k:IntKind}{dk:List Int}{l:List (String × DataW Unit)}{g:Nat}{t e:TypeId}{n:Nat}
  (bb:P.globalNamed name=some g) (De:(P.globals[g]?).map (·.type)=some t) (ht:P.underlying t=some (.array n e)) (he:P.underlying e=some (.int k)) (rH:P.cellsOf e=1) (MS:P.cellsOf t=n)
  (h:laidMet P l W) (hm:(name,Lib.tabData k dk)∈l):Lib.TabIs P W name k dk:=by
 obtain⟨ps,af,-⟩:=h;obtain⟨uF,ed,cs,fuel,p,Kn,ey,axv,hd⟩:=agF af hm;obtain rfl:=ra (bb.symm.trans Kn);obtain rfl:=ra (De.symm.trans ey);unfold Lib.TabIs;rw[axv,<-Lib.cells_of_tab ht he rH MS hd]
theorem Nb{W w':World}{G':cg}{H':Heap}(U:bd (C fun b=>W.heap[b]?) id G' H' w'){name:String}{k:IntKind}{dk:List Int}(h:Lib.TabIs Tryz.prog W name k dk):Lib.TabIs Tryz.prog w' name k dk:=by
 unfold Lib.TabIs World.var? at h⊢;cases bb:Tryz.prog.globalNamed name with
 |none=>rw[bb]at h;cases h
 |some g=>
  rw[bb]at h;simp only[aS]at h⊢
  have hb:g<W.heap.size:=by
   rcases gD g W.heap.size with q|q
   ·exact q
   ·rw[I2 q]at h;cases h
  rw[ID U hb];exact h
section
variable{W:World}{H:Type}{enc:TypeId × Value->H}
theorem agH{w':World}{T:TypeId->Prop}(K:Kids Tryz.prog T)(dr:∀{t e:TypeId},T t->Tryz.prog.underlying t=some (.slice e)->0<Tryz.prog.cellsOf e){agI:Nat->Bool}:
  ∀{ts:List TypeId} {vs:List Value} {ds:List (DataW H)} {p:List MemPlace},(∀t∈ts,T t)->DataW.TrodAll enc Tryz.prog W 0 (fun _=>true) true ts vs ds p->(∀q∈p,W.sameAt w' q)->(∀q∈p,agI q.block=true)->
   DataW.TrodAll enc Tryz.prog w' 0 agI true ts vs ds p
 |[],vs,ds,p,_,h,_,_=>by
  obtain⟨rfl,rfl,rfl⟩:=ChangeShapes.trodAll_nil h;rfl
 |t::ts,vs,ds,p,hT,h,hs,hp=>by
  obtain⟨v,vs',d,ds',a,b,rfl,rfl,rfl,⟨fuel,h1⟩,h2⟩:=ChangeShapes.trodAll_cons h;refine⟨a,b,⟨fuel,DataW.trod_stays K dr (fun h=>by cases h) (hT t (by simp)) h1 (fun q bu=>hs q (by simp[bu])) (fun q bu=>hp q (by simp[bu]))⟩,agH K dr (fun u hu=>hT u (by simp[hu])) h2 (fun q bu=>hs q (by simp[bu])) (fun q bu=>hp q (by simp[bu])),rfl⟩
end
set_option maxRecDepth 100000 in
theorem laidOut:laidOutB Tryz.prog=true:=by kernel_rfl
theorem axw:mapsRowed Tryz.prog=true:=by kernel_rfl
theorem kids:Kids Tryz.prog (· <Tryz.prog.types.size):=kids_rows laidOut axw
theorem axx:((List.range Tryz.prog.types.size).all fun t=>match Tryz.prog.underlying t with|some (.slice e)=>decide (0<Tryz.prog.cellsOf e)| _=>true)=true:=by kernel_rfl
theorem axy{t e:TypeId}(h:t<Tryz.prog.types.size)(hu:Tryz.prog.underlying t=some (.slice e)):0<Tryz.prog.cellsOf e:=by
 have:=eE.1 axx t (Jj.2 h);rw[hu]at this;simpa using this
theorem axz{W w':World}{G':cg}{H':Heap}(U:bd (C fun b=>W.heap[b]?) id G' H' w'){q:MemPlace}(hb:q.block<W.heap.size):W.sameAt w' q:=by
 cases q with
 |cell b off=>exact axt U hb
 |map b=>exact ID U hb
theorem axA{W w':World}{G':cg}{H':Heap}(U:bd (C fun b=>W.heap[b]?) id G' H' w'){a:Addr}(hb:a.block<W.heap.size):w'.frozen? a=W.frozen? a:=by
 unfold World.frozen?; rw[ID U hb]
end Go.Abs.bA
namespace Go.Abs.bA
open Go Go.Abs Go.Proofs
set_option maxRecDepth 100000
theorem uG{H A:Type}{P:Program}{t e:TypeId}{es:Nat}{f:A->V}{d:DataW H}{l:List V}(ht:P.underlying t=some (.slice e))(fc:P.cellsOf e=es)(he:∀(d:DataW H) l,fG P e d l->∃a:A,te l=f a)(h:fG P t d l):∃s:ae A,l=[aV es f s]:=by
 rcases agE ht h with⟨-,rfl⟩|⟨elems,spare,ls,-,rfl,hl,hr⟩
 ·exact⟨.nil,rfl⟩
 ·have:∀(ls:List (List V)),(∀l∈ls,∃a:A,te l=f a)->∃xs:List A,ls.map te=xs.map f:=by
   intro ls
   induction ls with
   |nil=>exact fun _=>⟨[],rfl⟩
   |cons l ls ih=>
    intro h;obtain⟨a,al⟩:=h l (by simp);obtain⟨xs,hx⟩:=ih fun l hl=>h l (by simp[hl]);exact⟨a::xs,by rw[dX,dX,al,hx]⟩
  obtain⟨xs,hx⟩:=this ls fun l Eo=>by
   obtain⟨i,hi⟩:=List.getElem?_of_mem Eo;have n3:i<ls.length:=(eY.1 hi).1;exact he _ l (hr i _ l (jD (by omega)) hi)
  exact⟨.mk xs,by rw[hx,fc];rfl⟩
theorem zl{α:Type}{l:List α}(h:l.length=2):∃a0 ak,l=[a0,ak]:=by
 match l,h with
 |[a0,ak],_=>exact⟨a0,ak,rfl⟩
theorem vE{α:Type}{l:List α}(h:l.length=3):∃a0 ak a2,l=[a0,ak,a2]:=by
 match l,h with
 |[a0,ak,a2],_=>exact⟨a0,ak,a2,rfl⟩
theorem Nc{α:Type}{l:List α}(h:l.length=5):∃a0 ak a2 a3 a4,l=[a0,ak,a2,a3,a4]:=by
 match l,h with
 |[a0,ak,a2,a3,a4],_=>exact⟨a0,ak,a2,a3,a4,rfl⟩
theorem agJ{α:Type}{l:List α}(h:l.length=7):∃a0 ak a2 a3 a4 a5 Iw,l=[a0,ak,a2,a3,a4,a5,Iw]:=by
 match l,h with
 |[a0,ak,a2,a3,a4,a5,Iw],_=>exact⟨a0,ak,a2,a3,a4,a5,Iw,rfl⟩
section
variable{W:World}{H:Type}{enc:TypeId × Value->H}
theorem Nd{d:DataW H}{l:List V}(h:fG Tryz.prog 22 d l):∃s:ae Int,l=[aV 1 ao s]:=
 uG Tryz.underlying22 (by kernel_rfl) (fun d l h=>by obtain⟨n,-,rfl,-⟩:=lG Tryz.underlying3 h;exact⟨n,rfl⟩) h
theorem axB{d:DataW H}{l:List V}(h:fG Tryz.prog 102 d l):∃x:Range,l=aI (rJ x):=by
 obtain⟨parts,ls,-,rfl,hp,hl,hr⟩:=tf Tryz.underlying102 h;obtain⟨p0,p1,rfl⟩:=zl hp;obtain⟨qM,b6,rfl⟩:=zl hl;obtain⟨cb,-,rfl,-⟩:=lG Tryz.underlying3 (hr 0 _ _ _ rfl rfl rfl);obtain⟨bs,-,rfl,-⟩:=lG Tryz.underlying3 (hr 1 _ _ _ rfl rfl rfl);exact⟨⟨cb,bs⟩,rfl⟩
theorem axC{d:DataW H}{l:List V}(h:fG Tryz.prog 104 d l):∃x:Table,l=aI (jW x):=by
 obtain⟨parts,ls,-,rfl,hp,hl,hr⟩:=tf Tryz.underlying104 h;obtain⟨p0,p1,p2,p3,mR,rfl⟩:=Nc hp;obtain⟨qM,b6,ll,Mw,Be,rfl⟩:=Nc hl;obtain⟨cb,-,rfl⟩:=T3 Tryz.underlying9 (hr 0 _ _ _ rfl rfl rfl);obtain⟨bs,-,rfl,-⟩:=lG Tryz.underlying3 (hr 1 _ _ _ rfl rfl rfl);obtain⟨cr,rfl⟩:=Nd (hr 2 _ _ _ rfl rfl rfl);obtain⟨dA,rfl⟩:=axB (hr 3 _ _ _ rfl rfl rfl);obtain⟨lB,-,rfl,-⟩:=lG Tryz.underlying3 (hr 4 _ _ _ rfl rfl rfl);exact⟨⟨cb,bs,cr,dA,lB⟩,rfl⟩
theorem axD{d:DataW H}{l:List V}(h:fG Tryz.prog 23 d l):∃s:ae Table,l=[aV 6 jW s]:=
 uG Tryz.underlying23 (by kernel_rfl) (fun d l h=>by obtain⟨x,rfl⟩:=axC h;exact⟨x,rfl⟩) h
theorem axE{d:DataW H}{l:List V}(h:fG Tryz.prog 24 d l):∃s:ae ck,l=[aV 1 V.str s]:=
 uG Tryz.underlying24 (by kernel_rfl) (fun d l h=>by obtain⟨n,-,rfl⟩:=T3 Tryz.underlying9 h;exact⟨n,rfl⟩) h
theorem axF{d:DataW H}{l:List V}(h:fG Tryz.prog 60 d l):∃x:Term,l=aI (vc x):=by
 obtain⟨parts,ls,-,rfl,hp,hl,hr⟩:=tf Tryz.underlying60 h;obtain⟨p0,p1,rfl⟩:=zl hp;obtain⟨qM,b6,rfl⟩:=zl hl;obtain⟨cb,-,rfl,-⟩:=lG Tryz.underlying3 (hr 0 _ _ _ rfl rfl rfl);obtain⟨bs,-,rfl,-⟩:=lG Tryz.underlying3 (hr 1 _ _ _ rfl rfl rfl);exact⟨⟨cb,bs⟩,rfl⟩
theorem axG{d:DataW H}{l:List V}(h:fG Tryz.prog 53 d l):∃s:ae Term,l=[aV 2 vc s]:=
 uG Tryz.underlying53 (by kernel_rfl) (fun d l h=>by obtain⟨x,rfl⟩:=axF h;exact⟨x,rfl⟩) h
theorem agK{d:DataW H}{l:List V}(h:fG Tryz.prog 55 d l):∃x:Row,l=aI (vd x):=by
 obtain⟨parts,ls,-,rfl,hp,hl,hr⟩:=tf Tryz.underlying55 h;obtain⟨p0,p1,rfl⟩:=zl hp;obtain⟨qM,b6,rfl⟩:=zl hl;obtain⟨cb,rfl⟩:=axG (hr 0 _ _ _ rfl rfl rfl);obtain⟨bs,-,rfl,-⟩:=lG Tryz.underlying3 (hr 1 _ _ _ rfl rfl rfl);exact⟨⟨cb,bs⟩,rfl⟩
theorem axH{d:DataW H}{l:List V}(h:fG Tryz.prog 57 d l):∃x:Constraint,l=aI (rL x):=by
 obtain⟨parts,ls,-,rfl,hp,hl,hr⟩:=tf Tryz.underlying57 h;obtain⟨p0,p1,p2,p3,mR,rfl⟩:=Nc hp;obtain⟨qM,b6,ll,Mw,Be,rfl⟩:=Nc hl;obtain⟨cb,-,rfl,-⟩:=lG Tryz.underlying3 (hr 0 _ _ _ rfl rfl rfl);obtain⟨bs,-,rfl,-⟩:=lG Tryz.underlying3 (hr 1 _ _ _ rfl rfl rfl);obtain⟨cr,rfl⟩:=agK (hr 2 _ _ _ rfl rfl rfl);obtain⟨dA,-,rfl,-⟩:=lG Tryz.underlying3 (hr 3 _ _ _ rfl rfl rfl);obtain⟨lB,-,rfl,-⟩:=lG Tryz.underlying3 (hr 4 _ _ _ rfl rfl rfl);exact⟨⟨cb,bs,cr,dA,lB⟩,rfl⟩
theorem axI{d:DataW H}{l:List V}(h:fG Tryz.prog 25 d l):∃s:ae Constraint,l=[aV 6 rL s]:=
 uG Tryz.underlying25 (by kernel_rfl) (fun d l h=>by obtain⟨x,rfl⟩:=axH h;exact⟨x,rfl⟩) h
theorem axJ{d:DataW H}{l:List V}(h:fG Tryz.prog 85 d l):∃x:c0,l=aI (rM x):=by
 obtain⟨parts,ls,-,rfl,hp,hl,hr⟩:=tf Tryz.underlying85 h;obtain⟨p0,p1,p2,rfl⟩:=vE hp;obtain⟨qM,b6,ll,rfl⟩:=vE hl;obtain⟨cb,-,rfl⟩:=T3 Tryz.underlying9 (hr 0 _ _ _ rfl rfl rfl);obtain⟨bs,-,rfl⟩:=axp Tryz.underlying4 (hr 1 _ _ _ rfl rfl rfl);obtain⟨cr,rfl⟩:=Nd (hr 2 _ _ _ rfl rfl rfl);exact⟨⟨cb,bs,cr⟩,rfl⟩
theorem axK{d:DataW H}{l:List V}(h:fG Tryz.prog 26 d l):∃s:ae c0,l=[aV 3 rM s]:=
 uG Tryz.underlying26 (by kernel_rfl) (fun d l h=>by obtain⟨x,rfl⟩:=axJ h;exact⟨x,rfl⟩) h
theorem axL{d:DataW H}{l:List V}(h:fG Tryz.prog 82 d l):∃x:Change,l=aI (ua x):=by
 obtain⟨parts,ls,-,rfl,hp,hl,hr⟩:=tf Tryz.underlying82 h;obtain⟨p0,p1,rfl⟩:=zl hp;obtain⟨qM,b6,rfl⟩:=zl hl;obtain⟨cb,-,rfl,-⟩:=lG Tryz.underlying3 (hr 0 _ _ _ rfl rfl rfl);obtain⟨bs,-,rfl,-⟩:=lG Tryz.underlying3 (hr 1 _ _ _ rfl rfl rfl);exact⟨⟨cb,bs⟩,rfl⟩
theorem axM{d:DataW H}{l:List V}(h:fG Tryz.prog 46 d l):∃s:ae Change,l=[aV 2 ua s]:=
 uG Tryz.underlying46 (by kernel_rfl) (fun d l h=>by obtain⟨x,rfl⟩:=axL h;exact⟨x,rfl⟩) h
theorem axN{d:DataW H}{l:List V}(h:fG Tryz.prog 86 d l):∃s:ae Row,l=[aV 2 vd s]:=
 uG Tryz.underlying86 (by kernel_rfl) (fun d l h=>by obtain⟨x,rfl⟩:=agK h;exact⟨x,rfl⟩) h
theorem axO{d:DataW H}{l:List V}(h:fG Tryz.prog 231 d l):∃x:kH,l=aI (ve x):=by
 obtain⟨parts,ls,-,rfl,hp,hl,hr⟩:=tf Tryz.underlying231 h;obtain⟨p0,p1,p2,rfl⟩:=vE hp;obtain⟨qM,b6,ll,rfl⟩:=vE hl;obtain⟨cb,-,rfl,-⟩:=lG Tryz.underlying3 (hr 0 _ _ _ rfl rfl rfl);obtain⟨bs,-,rfl,-⟩:=lG Tryz.underlying3 (hr 1 _ _ _ rfl rfl rfl);obtain⟨cr,-,rfl,-⟩:=lG Tryz.underlying3 (hr 2 _ _ _ rfl rfl rfl);exact⟨⟨cb,bs,cr⟩,rfl⟩
theorem axP{d:DataW H}{l:List V}(h:fG Tryz.prog 87 d l):∃s:ae kH,l=[aV 3 ve s]:=
 uG Tryz.underlying87 (by kernel_rfl) (fun d l h=>by obtain⟨x,rfl⟩:=axO h;exact⟨x,rfl⟩) h
theorem axQ{d:DataW H}{l:List V}(h:fG Tryz.prog 89 d l):∃x:dV,l=aI (Dq x):=by
 obtain⟨parts,ls,-,rfl,hp,hl,hr⟩:=tf Tryz.underlying89 h;obtain⟨p0,p1,p2,rfl⟩:=vE hp;obtain⟨qM,b6,ll,rfl⟩:=vE hl;obtain⟨cb,rfl⟩:=axM (hr 0 _ _ _ rfl rfl rfl);obtain⟨bs,rfl⟩:=axN (hr 1 _ _ _ rfl rfl rfl);obtain⟨cr,rfl⟩:=axP (hr 2 _ _ _ rfl rfl rfl);exact⟨⟨cb,bs,cr⟩,rfl⟩
theorem axR{d:DataW H}{l:List V}(h:fG Tryz.prog 91 d l):∃x:Action,l=aI (rN x):=by
 obtain⟨parts,ls,-,rfl,hp,hl,hr⟩:=tf Tryz.underlying91 h;obtain⟨p0,p1,p2,rfl⟩:=vE hp;obtain⟨qM,b6,ll,rfl⟩:=vE hl;obtain⟨cb,-,rfl,-⟩:=lG Tryz.underlying3 (hr 0 _ _ _ rfl rfl rfl);obtain⟨bs,rfl⟩:=Nd (hr 1 _ _ _ rfl rfl rfl);obtain⟨cr,rfl⟩:=axQ (hr 2 _ _ _ rfl rfl rfl);exact⟨⟨cb,bs,cr⟩,rfl⟩
theorem axS{d:DataW H}{l:List V}(h:fG Tryz.prog 27 d l):∃s:ae Action,l=[aV 5 rN s]:=
 uG Tryz.underlying27 (by kernel_rfl) (fun d l h=>by obtain⟨x,rfl⟩:=axR h;exact⟨x,rfl⟩) h
theorem axT{d:DataW H}{l:List V}(h:fG Tryz.prog 42 d l):∃x:fp,l=aI (iv x):=by
 obtain⟨parts,ls,-,rfl,hp,hl,hr⟩:=tf Tryz.underlying42 h;obtain⟨p0,p1,p2,rfl⟩:=vE hp;obtain⟨qM,b6,ll,rfl⟩:=vE hl;obtain⟨cb,-,rfl,-⟩:=lG Tryz.underlying3 (hr 0 _ _ _ rfl rfl rfl);obtain⟨bs,-,rfl,-⟩:=lG Tryz.underlying3 (hr 1 _ _ _ rfl rfl rfl);obtain⟨cr,-,rfl,-⟩:=lG Tryz.underlying3 (hr 2 _ _ _ rfl rfl rfl);exact⟨⟨cb,bs,cr⟩,rfl⟩
theorem axU{d:DataW H}{l:List V}(h:fG Tryz.prog 28 d l):∃s:ae fp,l=[aV 3 iv s]:=
 uG Tryz.underlying28 (by kernel_rfl) (fun d l h=>by obtain⟨x,rfl⟩:=axT h;exact⟨x,rfl⟩) h
theorem axV{d:DataW H}{l:List V}(h:fG Tryz.prog 30 d l):∃x:Model,l=aI (ub x):=by
 obtain⟨parts,ls,-,rfl,hp,hl,hr⟩:=tf Tryz.underlying30 h;obtain⟨p0,p1,p2,p3,mR,uo,HU,rfl⟩:=agJ hp;obtain⟨qM,b6,ll,Mw,Be,B7,zf,rfl⟩:=agJ hl;obtain⟨cb,rfl⟩:=Nd (hr 0 _ _ _ rfl rfl rfl);obtain⟨bs,rfl⟩:=axD (hr 1 _ _ _ rfl rfl rfl);obtain⟨cr,rfl⟩:=axE (hr 2 _ _ _ rfl rfl rfl);obtain⟨dA,rfl⟩:=axI (hr 3 _ _ _ rfl rfl rfl);obtain⟨lB,rfl⟩:=axK (hr 4 _ _ _ rfl rfl rfl);obtain⟨ek,rfl⟩:=axS (hr 5 _ _ _ rfl rfl rfl);obtain⟨nb,rfl⟩:=axU (hr 6 _ _ _ rfl rfl rfl);exact⟨⟨cb,bs,cr,dA,lB,ek,nb⟩,rfl⟩
theorem axW:vD Tryz.prog 12 30=true:=by kernel_rfl
theorem axX:30<Tryz.prog.types.size:=of_decide_eq_true (by kernel_rfl)
theorem axY{b:Nat}{v:Value}(hval:Value.okWide Tryz.prog W .any b 30 v):∃cs,v=.agg cs:=by
 unfold Value.okWide at hval;rw[Tryz.underlying30]at hval;cases v<;>first|exact⟨_,rfl⟩|(simp at hval)
theorem agL{b:Nat}{v:Value}(hval:Value.okWide Tryz.prog W .any b 30 v){d:DataW H}{p:List MemPlace}{held:Bool}(hd:DataW.Trod enc Tryz.prog W 0 (fun _=>true) held 30 v d p):∃m:Model,gf W (u5 W).I (ub m) v:=by
 obtain⟨cs,rfl⟩:=axY hval;obtain⟨fuel,hd⟩:=hd;obtain⟨vs,bI,cq,-⟩:=reads laidOut 12 fuel 30 _ _ axX axW hd;obtain⟨m,rfl⟩:=axV bI;exact⟨m,.agg _ cs.toList cq⟩
end
end Go.Abs.bA
namespace Go.Abs.bA
open Go Go.Abs Go.Proofs
set_option maxRecDepth 100000
section
variable{W:World}{H:Type}{enc:TypeId × Value->H}
def T4 (P:Program)(t:TypeId)(d:DataW H):Prop:=∀n∈d.weights P t,n<=reachBytes
theorem agM{ts:List TypeId}{ds:List (DataW H)}(h:(DataW.weightsEach Tryz.prog ts ds).all (· <=reachBytes)=true){j:Nat}{t:TypeId}{d:DataW H}(ht:ts[j]? =some t)(hd:ds[j]? =some d):T4 Tryz.prog t d:=fun n hn=>by
 have:=eE.1 h n (DataW.weights_mem_each ht hd n hn);simpa using this
theorem axZ{t e:TypeId}{elems spare:List (DataW H)}(ht:Tryz.prog.underlying t=some (.slice e))(hb:1<=Tryz.prog.bytesOf e)(h:T4 Tryz.prog t (.slice elems spare)):elems.length<4611686018427387904:=by
 have h1:=h _ (axq ht);have h2:=reachBytes_lt;have au:elems.length*1<=(elems.length+spare.length)*Tryz.prog.bytesOf e:=Nat.mul_le_mul (by omega) hb;omega
theorem agN{elems:List (DataW H)}:∀{ls:List (List V)},(∀l∈ls,∃n:Int,l=[ao n])->∃xs:List Int,ls.map te=xs.map ao/\xs.length=ls.length
 |[],_=>⟨[],rfl,rfl⟩
 |l::ls,h=>by
  obtain⟨n,rfl⟩:=h l (by simp);obtain⟨xs,h1,h2⟩:=agN (elems:=elems) (ls:=ls) fun m hm=>h m (by simp[hm]);exact⟨n::xs,by rw[dX,dX,h1];rfl,by simp[h2]⟩
theorem ax0:vD Tryz.prog 8 22=true:=by kernel_rfl
theorem ax1:22<Tryz.prog.types.size:=of_decide_eq_true (by kernel_rfl)
theorem ax2{b:Nat}{v:Value}(hval:Value.okWide Tryz.prog W .any b 22 v):v.cells.toList=[v]:=by
 unfold Value.okWide at hval;rw[Tryz.underlying22]at hval;simp only[Cell.okWide,Tryz.underlying22]at hval;cases v<;>first|rfl|(simp[Cell.ok,Tryz.underlying22]at hval)
theorem agO{b:Nat}{v:Value}(hval:Value.okWide Tryz.prog W .any b 22 v){d:DataW H}{p:List MemPlace}{held:Bool}(hd:DataW.Trod enc Tryz.prog W 0 (fun _=>true) held 22 v d p)(hn:T4 Tryz.prog 22 d):∃s:ae Int,bk s.l/\gf W (u5 W).I (aV 1 ao s) v:=by
 obtain⟨h4,h,h2⟩:=axr laidOut ax1 ax0 (ax2 hval) hd;rcases agE Tryz.underlying22 h with⟨rfl,af⟩|⟨elems,spare,ls,rfl,af,hl,hr⟩
 ·cases af
  exact⟨.nil,by unfold bk;decide,h2⟩
 ·cases af
  have hlen:=axZ Tryz.underlying22 (of_decide_eq_true (by kernel_rfl)) hn;rw[show Tryz.prog.cellsOf 3=1 by kernel_rfl]at h2
  obtain⟨xs,au,a7⟩:=agN (elems:=elems) (ls:=ls) fun l Eo=>by
   obtain⟨i,hi⟩:=List.getElem?_of_mem Eo;have n3:i<ls.length:=(eY.1 hi).1;obtain⟨n,-,rfl,-⟩:=lG Tryz.underlying3 (hr i _ l (jD (by omega)) hi);exact⟨n,rfl⟩
  refine⟨.mk xs,by show xs.length<_;omega,?_⟩;rw[au]at h2;exact h2
end
end Go.Abs.bA
namespace Go.Proofs.YtgkcikhegodchaaGreatDoor.states
open Go Go.Abs Go.Abs.bA Go.Proofs Go.ChangeShapes Go.WideShapes Go.ChangeAt Go.RowKit
set_option maxRecDepth 100000
theorem agP{H:Type}{enc:TypeId × Value->H}{f:Func}{s:ChangeSpec}{apart fresh handsOn again:Bool}{W W':World}{args:Array Value}{ds gs:List (DataW H)}{before:List MemPlace}{G':cg}{H':Heap}
  (hW:DataW.Whole enc Tryz.prog f.params.toList s.vars apart W args.toList ds gs before) (af:s.vars=[]) (hT:∀t∈f.params.toList,t<Tryz.prog.types.size) (hr:f.resultTypes= #[4])
  (hS:(s.fn H (ds++gs)).results=[.lit (.bool true)]) (ax3:gs=[]->(s.fn H (ds++gs)).args=ds) (BB:(s.fn H (ds++gs)).vars=[])
  (U:bd (C fun b=>W.heap[b]?) id G' H' W') (ho:W'.os=W.os) (hp:W'.output=W.output):s.post enc Tryz.prog f apart fresh handsOn again W args (.bool true) W':=by
 have aG:=hW.lt;have hold:∀p∈before,(fun b=>decide (b<W.heap.size)) p.block=true:=fun p hp=>by simpa using aG p hp
 have ax4:=hW;obtain⟨pa,q,hA,hV,vW,aJ,hn⟩:=hW;rw[af]at hV;obtain⟨wh,rfl⟩:=trodVars_none hV;rw[qt]at vW;subst vW
 have uZ:∀sp:Nat->Bool,(∀p∈before,sp p.block=true)->DataW.TrodAll enc Tryz.prog W' 0 sp true f.params.toList args.toList (s.fn H (ds++gs)).args before:=fun sp nz=>by
  rw[ax3 wh];exact agH kids (fun h hu=>axy h hu) hT hA (fun q bu=>axz U (aG q bu)) nz
 have agQ:∀sp:Nat->Bool,DataW.TrodVars enc Tryz.prog W' sp s.vars (s.fn H (ds++gs)).vars []:=fun sp=>by rw[af,BB];rfl
 have sI:∀(b:Nat) (sp:Nat->Bool) (hd:Bool),DataW.TrodAll enc Tryz.prog W' b sp hd f.resultTypes.toList ((Value.bool true).resultList f.resultTypes.size) (s.fn H (ds++gs)).results []:=fun b sp hd=>by
  rw[hr,hS];exact trodAll_cons_mk (shut_bool Tryz.underlying4 _) trodAll_mk0
 refine⟨ds,gs,before,[],before,[],ax4,sI _ _ _,uZ _ hold,agQ _,axu U ho hp _,fun _=> ?_⟩;refine⟨ok_one hr rfl (okWide_bool_mk Tryz.underlying4 _),_,_,([]++before)++[],⟨[]++before,[],trodAll_append (uZ _ (fun _ _=>rfl)) (sI _ _ _),agQ _,rfl,?_,?_⟩,?_⟩
 ·intro b off qF
  have hm:MemPlace.cell b off∈before:=by simpa using qF
  rw[axA U (aG _ hm)];exact aJ b off hm
 ·intro al
  simpa using hn al
 ·intro p qF _
  simpa using qF
theorem agR{W:World}(h:laidMetH Tryz.prog Rows.stateVisibleRow.laid W):Lib.TabIs Tryz.prog W "strings.asciiSpace" .u8 Lib.asciiSpaceTab:=by
 have ag:(Rows.stateVisibleRow.laid.filter fun x=>x.2.handleName?.isSome)=[]:=by kernel_rfl
 unfold laidMetH at h;rw[ag]at h
 have hm:("strings.asciiSpace",Lib.tabData .u8 Lib.asciiSpaceTab)∈Rows.stateVisibleRow.laid:=by
  have e:Rows.stateVisibleRow.laid[7]? =some ("strings.asciiSpace",Lib.tabData .u8 Lib.asciiSpaceTab):=by kernel_rfl
  exact eZ e
 exact agG (g:=1) (t:=447) (e:=5) (n:=256) (by kernel_rfl) (by kernel_rfl) (by kernel_rfl) (by kernel_rfl) (by kernel_rfl) (by kernel_rfl) h hm
theorem agS{W:World}(h:laidMetH Tryz.prog Rows.stateVisibleRow.laid W):Lib.TabIs Tryz.prog W "internal/strconv.uint64pow10" .u64 Lib.pow10Tab:=by
 have ag:(Rows.stateVisibleRow.laid.filter fun x=>x.2.handleName?.isSome)=[]:=by kernel_rfl
 unfold laidMetH at h;rw[ag]at h
 have hm:("internal/strconv.uint64pow10",Lib.tabData .u64 Lib.pow10Tab)∈Rows.stateVisibleRow.laid:=by
  have e:Rows.stateVisibleRow.laid[2]? =some ("internal/strconv.uint64pow10",Lib.tabData .u64 Lib.pow10Tab):=by kernel_rfl
  exact eZ e
 exact agG (g:=0) (t:=439) (e:=323) (n:=20) (by kernel_rfl) (by kernel_rfl) (by kernel_rfl) (by kernel_rfl) (by kernel_rfl) (by kernel_rfl) h hm
theorem walk{W:World}{aa:Nat->Option cc}(a1:dU (C fun b=>W.heap[b]?) id (pY fun b=>W.heap[b]?)/\dU (A fun b=>W.heap[b]?) id (iQ fun b=>W.heap[b]?)->dU (C fun b=>W.heap[b]?) id aa)(dP:laidMetH Tryz.prog Rows.stateVisibleRow.laid W){i:Nat}{f:ix}(hi:aa i=some (.code f)){vs:List V}{xs:List Value}(c6:dp W (u5 W).I vs xs)
  (he:b9 aa (.fn i [] []) vs []=some (.bool true,[],0)):
  Calls Tryz.prog i ⟨xs⟩ W fun e W'=>e=.returned (.bool true)/\∃G' H',bd (C fun b=>W.heap[b]?) id G' H' W'/\W'.os=W.os/\W'.output=W.output:=by
 obtain⟨n,hn⟩:=vS.1 he;have hT:dU (C fun b=>W.heap[b]?) id aa:=a1 ⟨awQ (fun G H w U=>Nb U (agS dP)) (fun G H w U=>Nb U (agR dP)),awP (fun G H w U=>Nb U (agS dP)) (fun G H w U=>Nb U (agR dP))⟩;have h:=Yc (C:=C fun b=>W.heap[b]?) (fid:=id) (Checked.mixed Tryz.checked) KE hT hi hn (axs W) (dp.pG c6);refine EE h fun e W' hp=> ?_;obtain⟨x,rfl,G',h1,h2,au⟩:=hp;rw[au.ln];have de:=h2 0 (aN _);exact⟨rfl,G',_,h1,de.os,de.output⟩
end Go.Proofs.YtgkcikhegodchaaGreatDoor.states
namespace Go.Proofs.YtgkcikhegodchaaGreatDoor
open Go Go.Abs Go.Abs.bA Go.Proofs
set_option maxRecDepth 100000
def Cc:DataW Unit->List Value
 | .agg xs=>xs.map fun x=>match x with
   | .lit (.int k n)=>.int k n
   | _=>.tuple #[]
 | _=>[]
def ax5:DataW Unit->List Value
 | .agg xs=>xs.flatMap Cc
 | _=>[]
def agT:DataW Unit->Value
 | .iface _ (.ptr (.agg [.lit (.string s)]))=>.string ⟨⟨s⟩⟩
 | _=>.tuple #[]
def rowsOf:DataW Unit->List Value
 | .ptr (.agg (.slice xs _::_))=>xs.flatMap Cc
 | _=>[]
def more:Array Obj:= #[.cells #[agT Rows.laid_strconv_ErrRange] 513 (0,0),.cells #[agT Rows.laid_strconv_ErrSyntax] 513 (0,0),
 .cells #[.slice (some ⟨19,0,none⟩) 7 7,.slice none 0 0,.int .i64 2] 517 (0,0),.cells (rowsOf Rows.laid_unicode_White_Space).toArray 520 (0,0)]
def xH (cs:Array Value):Obj->Obj
 | .cells _ t f=>.cells cs t f
 |o=>o
noncomputable def zm (os:Os):World:=
 {World.holding Tryz.prog os ⟨more,#[],[]⟩with heap:=(((((((((World.holding Tryz.prog os ⟨more,#[],[]⟩).heap.modify 1 (xH (Cc Rows.laid_strings_asciiSpace).toArray)).modify 0 (xH (Cc Rows.laid_internal_strconv_uint64pow10).toArray)).modify 4 (xH #[.pointer (some ⟨18,0,none⟩)])).modify 3 (xH #[.iface 511 (.pointer (some ⟨16,0,none⟩))])).modify 2 (xH #[.iface 511 (.pointer (some ⟨17,0,none⟩))])).modify 6 (xH (Cc Rows.laid_math_bits_deBruijn32tab).toArray)).modify 7 (xH (Cc Rows.laid_math_bits_deBruijn64tab).toArray)).modify 8 (xH (Cc Rows.laid_unicode_utf8_first).toArray)).modify 9 (xH (ax5 Rows.laid_unicode_utf8_acceptRanges).toArray)}
theorem own:ownKnob Tryz.prog.godebug=none:=by kernel_rfl
end Go.Proofs.YtgkcikhegodchaaGreatDoor
namespace Go.Abs.bA
open Go Go.Abs
def IE (hs:List fp):Nat->Int->Prop
 |0,_=>True
 |n+1,t=>∃h∈hs,h.Table=t/\IE hs n h.bS
theorem agU{hs:List fp}:∀{n:Nat} {t:Int},IE hs n t->∃f:Nat->Int,f 0=t/\∀i,i<n->∃h∈hs,h.Table=f i/\h.bS=f (i+1)
 |0,t,_=>⟨fun _=>t,rfl,fun i hi=>absurd hi (Nat.not_lt_zero i)⟩
 |n+1,t,⟨h,c7,e,hw⟩=>by
  obtain⟨f,f0,f1⟩:=agU hw;refine⟨fun i=>match i with|0=>t|i+1=>f i,rfl,fun i hi=> ?_⟩;cases i with
  |zero=>exact⟨h,c7,e,f0.symm⟩
  |succ i=>exact f1 i (by omega)
theorem agV{hs:List fp}{N:Nat}(al:sV hs N=true)(fM:∀h∈hs,0<=h.Table/\h.Table<N)(t:Int):¬IE hs (N+1) t:=by
 intro hw;obtain⟨f,-,f1⟩:=agU hw
 have hin:∀i,i<=((List.range N).map Int.ofNat).length->f i∈(List.range N).map Int.ofNat:=fun i hi=>by
  rw[gR,Vw]at hi;obtain⟨h,c7,e,-⟩:=f1 i (by omega);have:=fM h c7;exact eA.2 ⟨(f i).toNat,Jj.2 (by omega),by simp;omega⟩
 obtain⟨i,j,cY,hj,e⟩:=acP hin;rw[gR,Vw]at hj;obtain⟨x,hx,ad,e2⟩:=f1 i (by omega);have hl:=QR (n:=N+1) f1 (j-(i+1)) (i+1) (by omega);rw[show i+1+(j-(i+1))=j by omega,<-e,<-ad,<-e2]at hl;unfold sV at al;have:=eE.1 al x hx;rw[acQ (m:=N) (by omega) hl]at this;cases this
def xI{A R:Type}(F:(A->Option R)->A->Option R):Prop:=∀g uF,(∀a r,g a=some r->uF a=some r)->∀a r,F g a=some r->F uF a=some r
theorem xI.up{A R:Type}{F:(A->Option R)->A->Option R}(h:xI F):∀(n:Nat) (a:A) (r:R),fS F n a=some r->fS F (n+1) a=some r
 |0,_,_,e=>by cases e
 |n+1,a,r,e=>h _ _ (h.up n) a r e
theorem xI.le{A R:Type}{F:(A->Option R)->A->Option R}(h:xI F){n k:Nat}(hk:n<=k){a:A}{r:R}(e:fS F n a=some r):fS F k a=some r:=by
 induction hk with
 |refl=>exact e
 |step _ ih=>exact h.up _ _ _ ih
theorem xI.fix{A R:Type}{F:(A->Option R)->A->Option R}(h:xI F){n:Nat}{a:A}{r:R}(e:fS F n a=some r):rI F a=some r:=
 QM e fun k lh e'=>by
  have h1:=h.le (sg n k) e;have h2:=h.le (q8 n k) e';rw[h1]at h2;exact(ra h2).symm
theorem xI.eq{A R:Type}{F:(A->Option R)->A->Option R}(h:xI F){a:A}{r:R}(e:F (rI F) a=some r)(hn:∃n,∀b s,rI F b=some s->fS F n b=some s):rI F a=some r:=by
 obtain⟨n,hn⟩:=hn;exact h.fix (n:=n+1) (h _ _ hn a r e)
end Go.Abs.bA
namespace Go.Abs.bA
open Go Go.Abs Go.Abs.S
def ax6:cF:=q (R [r 19 (m v17),o 8 (m t19)]) (R [r 20 (m jS),r 21 (b6 v6),r 22 (m qS),r 23 (iA t21 [t22]),r 24 (.lit 1 [al1] 1 [(0,t23)] true),r 25 (ap 1 1 t20 t24),o 7 (m t25)])
def ax7:ix:=⟨28,q (R [o 2 (kb v0),o 3 (kb v1),o 4 (m o6)]) (q (q (R [r 9 (ls 7 v2),r 10 (b6 v3),r 11 (iA (fn 31) [t9,t10]),o 12 (no t11)]) (hY v12 (q (R [o 4 (m o6)]) rt) k)) (q (R [r 13 (.mkMap),o 5 (.alloc [.jk]),n (st 1 v5 t13)]) (q (R [o 6 (.alloc [.kr])]) (q (R [r 14 (.tk 32 [] [v5,v2,v3,v6]),n (st 1 v6 t14)]) (q (R [o 7 (m o6)]) (q (q (R [r 15 (b6 v3),o 16 (hE 1 t15),o 17 (m (c 0))]) (b2 0 (.loop (tU 18 16 17 26 1 0 ax6)))) (q (R [r 27 (m jS),o 4 (m t27)]) rt))))))),[.tmp 4],false⟩
def ax8:cF:=q (R [r 45 (jv 3 v41 alX),r 46 (ls 3 t45),o 14 (.alloc [z,z,z]),n (st 3 Kp t46)]) (q (R [r 47 (m v12),r 48 (m t47),rg 49 t48 true (ef 0 Kp),rg 50 t48 true (b6 t49),rg 51 t48 true (m v9),rg 52 t48 true (eq t50 t51),o 53 (ez t48 t52 k2)]) (hY v53 (q (sS [r 55 (ef 0 v2),r 56 (b6 t55),r 57 (ef 1 v2),r 58 (b6 t57),r 59 (ef 2 Kp),r 60 (b6 t59),r 61 (m v10),r 62 (ef 1 Kp),r 63 (b6 t62),r 64 (jv 1 t61 t63),r 65 (b6 t64),r 66 (.lit 1 [z] 1 [(0,t65)] true),r 67 (iA (fn 14) [t56,t58,t60,t66]),r 54 (m t67),r 68 (ex t54 0),r 69 (ex t54 1),o 15 (m t68),r 16 (m t69)] [0,1,0,4,0,16,0,0,128,448,960,1984,4095,8191,16383,16383,32767,131071]) (R [r 70 (b6 v4),r 71 (m YE),r 72 (iA t70 [t71]),o 12 (m t72)])) k))
def Nf:ix:=⟨78,q (R [o 6 (m k2)]) (q (q (R [r 18 (b6 v1),r 19 (m v0),r 20 (.lookup 0 (.bool false) t18 t19 true),r 17 (m t20),r 21 (ex t17 0),r 22 (ex t17 1),o 7 (m t21),o 8 (m t22)]) (q (R [o 23 (m qS)]) (hY v23 (q (R [r 24 (m jS),o 6 (m t24)]) rt) k))) (q (R [r 26 (ef 0 v2),r 27 (b6 t26),r 28 (ef 1 v2),r 29 (b6 t28),r 30 (m v0),r 31 (iA (fn 13) [t27,t29,jP,t30]),r 25 (m t31),r 32 (ex t25 0),r 33 (ex t25 1),r 34 (ex t25 2),o 9 (m t32),o 10 (m t33),r 11 (m t34)]) (q (R [r 35 (b6 v3),r 36 (m v0),r 37 (jv 1 t35 t36),r 38 (b6 t37),r 39 (ge t38 (c 1)),o 12 (m t39)]) (q (q (R [r 40 (ef 6 v2),o 41 (b6 t40),o 42 (hE 1 v41),o 43 (m (c 0))]) (b2 0 (.loop (tU 44 42 43 73 1 0 ax8)))) (q (R [r 74 (b6 v1),r 75 (m v0),r 76 (m v12),n (.qu 0 t74 t75 t76)]) (q (R [r 77 (m v12),o 6 (m t77)]) rt)))))),[.tmp 6],false⟩
def ax9:cF:=q (q (R [r 47 (m v9),r 48 (m v0),r 49 (m v1),r 50 (m v6),r 51 (jv 1 t49 t50),r 52 (b6 t51),r 53 (jv 1 t48 t52),r 54 (b6 t53),o 55 (lt t47 t54)]) (hY v55 k (e 4))) (q (b2 5 (R [r 58 (m jS),r 59 (.lit 1 [z] 0 [] true),r 60 (m v5),r 61 (m qS),r 62 (jv 1 t60 t61),r 63 (b6 t62),r 64 (ap 1 8 t59 t63),r 65 (m v9),r 66 (.lit 1 [z] 1 [(0,t65)] true),r 67 (ap 1 8 t64 t66),r 68 (.lit 1 [nl] 1 [(0,t67)] true),r 69 (ap 1 24 t58 t68),o 7 (m t69)])) (R [r 56 (m v9),r 57 (dh t56 (c 1)),o 9 (m t57)]))
def aya:cF:=q (q (R [r 41 (m qS),r 42 (m v5),r 43 (hE 1 t42),o 44 (lt t41 t43)]) (hY v44 k (e 2))) (q (b2 3 (q (R [o 9 (m (c 0))]) (b2 4 (.loop ax9)))) (R [r 45 (m qS),r 46 (dh t45 (c 1)),o 8 (m t46)]))
def ayb:cF:=q (q (R [r 20 (m v6),r 21 (m v1),r 22 (hE 1 t21),o 23 (lt t20 t22)]) (hY v23 k (e 0))) (q (b2 1 (q (q (R [r 26 (m v1),r 27 (m v6),r 28 (jv 1 t26 t27),r 29 (b6 t28),r 30 (lt t29 (c 0)),r 31 (m t30),rg 32 t31 false (m v1),rg 33 t31 false (m v6),rg 34 t31 false (jv 1 t32 t33),rg 35 t31 false (b6 t34),rg 36 t31 false (m v0),rg 37 t31 false (hE 1 t36),rg 38 t31 false (ge t35 t37),o 39 (ez t31 jP t38)]) (hY v39 (q (R [o 4 (m o6)]) rt) k)) (q (R [r 40 (.lit 1 [nl] 0 [] true),o 7 (m t40)]) (q (q (R [o 8 (m (c 0))]) (b2 2 (.loop aya))) (R [r 70 (m jS),o 5 (m t70)]))))) (R [r 24 (m v6),r 25 (dh t24 (c 1)),o 6 (m t25)]))
def ayc:ix:=⟨72,q (R [o 4 (m o6)]) (q (q (R [r 10 (m v1),r 11 (hE 1 t10),r 12 (gt t11 (c 3)),r 13 (m t12),rg 14 t13 false (m v0),rg 15 t13 false (iA (fn 252) [t14]),rg 16 t13 false (no t15),o 17 (ez t13 jP t16)]) (hY v17 (q (R [o 4 (m o6)]) rt) k)) (q (R [r 18 (.lit 1 [z] 0 [] true),r 19 (.lit 1 [nl] 1 [(0,t18)] true),o 5 (m t19)]) (q (q (R [o 6 (m (c 0))]) (b2 0 (.loop ayb))) (q (R [r 71 (m v5),o 4 (m t71)]) rt)))),[.tmp 4],false⟩
end Go.Abs.bA
