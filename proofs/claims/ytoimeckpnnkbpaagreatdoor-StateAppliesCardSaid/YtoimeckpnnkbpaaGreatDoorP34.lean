/- Texts of this claim, joined and written short by a program. -/
import Derived.Test.YtoimeckpnnkbpaaGreatDoorP28
import Derived.Test.YtoimeckpnnkbpaaGreatDoorP24
import Derived.Test.YtoimeckpnnkbpaaGreatDoorP33
import Derived.Test.YtoimeckpnnkbpaaGreatDoorP01
import Derived.ChangeBears
import Derived.ChangeSlices
import Derived.SizedLaws
import Derived.Test.YtoimeckpnnkbpaaGreatDoorCards
import Derived.WalkKit
import Derived.ProofKit
import Derived.OpenShut
import Derived.ChangeStays
import Derived.Deep.DeepHandedRow
import Derived.Deep.DeepLaidRun
import Derived.Lib.LaidTab
import Derived.Deep.DeepWitnessRowRef
import Derived.Test.YtoimeckpnnkbpaaGreatDoorP00
set_option linter.unusedVariables false
set_option linter.unusedSimpArgs false
set_option linter.unusedSectionVars false
namespace Go.Abs.hk
open Go Go.Abs Go.Abs.gK
theorem di:gC bn where
 k5:=fun t x B ρ fs=>match t,x with
  |0,x=>.int
  |1,x=>(.XS (XT (i:=0) rfl))
  |2,x=>.str
  |3,x=>.int
  |4,x=>.agg (.cons .int (.cons .int (.cons .int .nil)))
  |5,x=>.sl
  |6,x=>.sl
  |7,x=>.agg (.cons .int (.cons .int .nil))
  |8,x=>.agg (.cons .str (.cons .int (.cons .sl (.cons .int (.cons .int (.cons .int .nil))))))
  |9,x=>.sl
  |10,x=>.sl
  |11,x=>.agg (.cons .int (.cons .int .nil))
  |12,x=>.sl
  |13,x=>.agg (.cons .sl (.cons .int .nil))
  |14,x=>.agg (.cons .int (.cons .int (.cons .sl (.cons .int (.cons .int (.cons .int .nil))))))
  |15,x=>.sl
  |16,x=>.agg (.cons .str (.cons (.XS (XT (i:=0) rfl)) (.cons .sl .nil)))
  |17,x=>.sl
  |18,x=>.agg (.cons .int (.cons .int .nil))
  |19,x=>.sl
  |20,x=>.sl
  |21,x=>.agg (.cons .int (.cons .int (.cons .int .nil)))
  |22,x=>.sl
  |23,x=>.agg (.cons .sl (.cons .sl (.cons .sl .nil)))
  |24,x=>.agg (.cons .int (.cons .sl (.cons .sl (.cons .sl (.cons .sl .nil)))))
  |25,x=>.sl
  |26,x=>.agg (.cons .sl (.cons .sl (.cons .sl (.cons .sl (.cons .sl (.cons .sl (.cons .sl .nil)))))))
  |27,x=>.sl
  |28,x=>.sl
  |29,x=>.agg (.cons .sl (.cons .sl (.cons .sl (.cons .sl (.cons .sl (.cons .sl (.cons .sl (.cons .sl .nil))))))))
  |30,x=>.agg (.cons .int (.cons .int (.cons .int (.cons .int .nil))))
  |31,x=>.sl
  |32,x=>.sl
  | _+33,_=>.k
 iu:=fun t v B ρ fs w x ad h=>match t,x,h with
  |0,x,h=>jv (J:=bn) (k:=.i64) (n:=x) (v:=v) h ad
  |1,x,h=>XU (J:=bn) (B:=B) (c:=x) (v:=v) h ad
  |2,x,h=>OZ (J:=bn) (s:=x) (v:=v) h ad
  |3,x,h=>jv (J:=bn) (k:=.u8) (n:=x) (v:=v) h ad
  |4,x,h=>by
   obtain⟨vs,ws,rfl,hr,h⟩:=qg (J:=bn) h ad;split at h
   ·obtain⟨_,_,rfl,gU,hr⟩:=bm.inv hr;obtain⟨_,_,rfl,q1,hr⟩:=bm.inv hr;obtain⟨_,_,rfl,aS,hr⟩:=bm.inv hr;cases bm.qd hr
    obtain⟨c6,h0,h⟩:=dZ.1 h;obtain⟨cb,h1,h⟩:=dZ.1 h;obtain⟨dR,h2,h⟩:=dZ.1 h;cases h;rw[jv h0 gU,jv h1 q1,jv h2 aS];rfl
   ·cases h
  |5,x,h=>fG (J:=bn) (t:=4) h ad
  |6,x,h=>fG (J:=bn) (t:=0) h ad
  |7,x,h=>by
   obtain⟨vs,ws,rfl,hr,h⟩:=qg (J:=bn) h ad;split at h
   ·obtain⟨_,_,rfl,gU,hr⟩:=bm.inv hr;obtain⟨_,_,rfl,q1,hr⟩:=bm.inv hr;cases bm.qd hr
    obtain⟨c6,h0,h⟩:=dZ.1 h;obtain⟨cb,h1,h⟩:=dZ.1 h;cases h;rw[jv h0 gU,jv h1 q1];rfl
   ·cases h
  |8,x,h=>by
   obtain⟨vs,ws,rfl,hr,h⟩:=qg (J:=bn) h ad;split at h
   ·obtain⟨_,_,rfl,gU,hr⟩:=bm.inv hr;obtain⟨_,_,rfl,q1,hr⟩:=bm.inv hr;obtain⟨_,_,rfl,aS,hr⟩:=bm.inv hr;obtain⟨_,_,rfl,b1,hr⟩:=bm.inv hr;obtain⟨_,_,rfl,cL,hr⟩:=bm.inv hr;obtain⟨_,_,rfl,et,hr⟩:=bm.inv hr;cases bm.qd hr
    obtain⟨c6,h0,h⟩:=dZ.1 h;obtain⟨cb,h1,h⟩:=dZ.1 h;obtain⟨dR,h2,h⟩:=dZ.1 h;obtain⟨gR,ar,h⟩:=dZ.1 h;obtain⟨kK,aQ,h⟩:=dZ.1 h;obtain⟨fl,h5,h⟩:=dZ.1 h;cases h;rw[OZ h0 gU,jv h1 q1,fG (J:=bn) (t:=0) h2 aS,jv ar b1,jv aQ cL,jv h5 et];rfl
   ·cases h
  |9,x,h=>fG (J:=bn) (t:=8) h ad
  |10,x,h=>fG (J:=bn) (t:=2) h ad
  |11,x,h=>by
   obtain⟨vs,ws,rfl,hr,h⟩:=qg (J:=bn) h ad;split at h
   ·obtain⟨_,_,rfl,gU,hr⟩:=bm.inv hr;obtain⟨_,_,rfl,q1,hr⟩:=bm.inv hr;cases bm.qd hr
    obtain⟨c6,h0,h⟩:=dZ.1 h;obtain⟨cb,h1,h⟩:=dZ.1 h;cases h;rw[jv h0 gU,jv h1 q1];rfl
   ·cases h
  |12,x,h=>fG (J:=bn) (t:=11) h ad
  |13,x,h=>by
   obtain⟨vs,ws,rfl,hr,h⟩:=qg (J:=bn) h ad;split at h
   ·obtain⟨_,_,rfl,gU,hr⟩:=bm.inv hr;obtain⟨_,_,rfl,q1,hr⟩:=bm.inv hr;cases bm.qd hr
    obtain⟨c6,h0,h⟩:=dZ.1 h;obtain⟨cb,h1,h⟩:=dZ.1 h;cases h;rw[fG (J:=bn) (t:=11) h0 gU,jv h1 q1];rfl
   ·cases h
  |14,x,h=>by
   obtain⟨vs,ws,rfl,hr,h⟩:=qg (J:=bn) h ad;split at h
   ·obtain⟨_,_,rfl,gU,hr⟩:=bm.inv hr;obtain⟨_,_,rfl,q1,hr⟩:=bm.inv hr;obtain⟨_,_,rfl,aS,hr⟩:=bm.inv hr;obtain⟨_,_,rfl,b1,hr⟩:=bm.inv hr;obtain⟨_,_,rfl,cL,hr⟩:=bm.inv hr;obtain⟨_,_,rfl,et,hr⟩:=bm.inv hr;cases bm.qd hr
    obtain⟨c6,h0,h⟩:=dZ.1 h;obtain⟨cb,h1,h⟩:=dZ.1 h;obtain⟨dR,h2,h⟩:=dZ.1 h;obtain⟨gR,ar,h⟩:=dZ.1 h;obtain⟨kK,aQ,h⟩:=dZ.1 h;obtain⟨fl,h5,h⟩:=dZ.1 h;cases h;rw[jv h0 gU,jv h1 q1,fG (J:=bn) (t:=11) h2 aS,jv ar b1,jv aQ cL,jv h5 et];rfl
   ·cases h
  |15,x,h=>fG (J:=bn) (t:=14) h ad
  |16,x,h=>by
   obtain⟨vs,ws,rfl,hr,h⟩:=qg (J:=bn) h ad;split at h
   ·obtain⟨_,_,rfl,gU,hr⟩:=bm.inv hr;obtain⟨_,_,rfl,q1,hr⟩:=bm.inv hr;obtain⟨_,_,rfl,aS,hr⟩:=bm.inv hr;cases bm.qd hr
    obtain⟨c6,h0,h⟩:=dZ.1 h;obtain⟨cb,h1,h⟩:=dZ.1 h;obtain⟨dR,h2,h⟩:=dZ.1 h;cases h;rw[OZ h0 gU,XU h1 q1,fG (J:=bn) (t:=0) h2 aS];rfl
   ·cases h
  |17,x,h=>fG (J:=bn) (t:=16) h ad
  |18,x,h=>by
   obtain⟨vs,ws,rfl,hr,h⟩:=qg (J:=bn) h ad;split at h
   ·obtain⟨_,_,rfl,gU,hr⟩:=bm.inv hr;obtain⟨_,_,rfl,q1,hr⟩:=bm.inv hr;cases bm.qd hr
    obtain⟨c6,h0,h⟩:=dZ.1 h;obtain⟨cb,h1,h⟩:=dZ.1 h;cases h;rw[jv h0 gU,jv h1 q1];rfl
   ·cases h
  |19,x,h=>fG (J:=bn) (t:=18) h ad
  |20,x,h=>fG (J:=bn) (t:=13) h ad
  |21,x,h=>by
   obtain⟨vs,ws,rfl,hr,h⟩:=qg (J:=bn) h ad;split at h
   ·obtain⟨_,_,rfl,gU,hr⟩:=bm.inv hr;obtain⟨_,_,rfl,q1,hr⟩:=bm.inv hr;obtain⟨_,_,rfl,aS,hr⟩:=bm.inv hr;cases bm.qd hr
    obtain⟨c6,h0,h⟩:=dZ.1 h;obtain⟨cb,h1,h⟩:=dZ.1 h;obtain⟨dR,h2,h⟩:=dZ.1 h;cases h;rw[jv h0 gU,jv h1 q1,jv h2 aS];rfl
   ·cases h
  |22,x,h=>fG (J:=bn) (t:=21) h ad
  |23,x,h=>by
   obtain⟨vs,ws,rfl,hr,h⟩:=qg (J:=bn) h ad;split at h
   ·obtain⟨_,_,rfl,gU,hr⟩:=bm.inv hr;obtain⟨_,_,rfl,q1,hr⟩:=bm.inv hr;obtain⟨_,_,rfl,aS,hr⟩:=bm.inv hr;cases bm.qd hr
    obtain⟨c6,h0,h⟩:=dZ.1 h;obtain⟨cb,h1,h⟩:=dZ.1 h;obtain⟨dR,h2,h⟩:=dZ.1 h;cases h;rw[fG (J:=bn) (t:=18) h0 gU,fG (J:=bn) (t:=13) h1 q1,fG (J:=bn) (t:=21) h2 aS];rfl
   ·cases h
  |24,x,h=>by
   obtain⟨vs,ws,rfl,hr,h⟩:=qg (J:=bn) h ad;split at h
   ·obtain⟨_,_,rfl,gU,hr⟩:=bm.inv hr;obtain⟨_,_,rfl,q1,hr⟩:=bm.inv hr;obtain⟨_,_,rfl,aS,hr⟩:=bm.inv hr;obtain⟨_,_,rfl,b1,hr⟩:=bm.inv hr;obtain⟨_,_,rfl,cL,hr⟩:=bm.inv hr;cases bm.qd hr
    obtain⟨c6,h0,h⟩:=dZ.1 h;obtain⟨cb,h1,h⟩:=dZ.1 h;obtain⟨dR,h2,h⟩:=dZ.1 h;obtain⟨gR,ar,h⟩:=dZ.1 h;obtain⟨kK,aQ,h⟩:=dZ.1 h;cases h;rw[jv h0 gU,fG (J:=bn) (t:=0) h1 q1,fG (J:=bn) (t:=18) h2 aS,fG (J:=bn) (t:=13) ar b1,fG (J:=bn) (t:=21) aQ cL];rfl
   ·cases h
  |25,x,h=>fG (J:=bn) (t:=24) h ad
  |26,x,h=>by
   obtain⟨vs,ws,rfl,hr,h⟩:=qg (J:=bn) h ad;split at h
   ·obtain⟨_,_,rfl,gU,hr⟩:=bm.inv hr;obtain⟨_,_,rfl,q1,hr⟩:=bm.inv hr;obtain⟨_,_,rfl,aS,hr⟩:=bm.inv hr;obtain⟨_,_,rfl,b1,hr⟩:=bm.inv hr;obtain⟨_,_,rfl,cL,hr⟩:=bm.inv hr;obtain⟨_,_,rfl,et,hr⟩:=bm.inv hr;obtain⟨_,_,rfl,gz,hr⟩:=bm.inv hr;cases bm.qd hr
    obtain⟨c6,h0,h⟩:=dZ.1 h;obtain⟨cb,h1,h⟩:=dZ.1 h;obtain⟨dR,h2,h⟩:=dZ.1 h;obtain⟨gR,ar,h⟩:=dZ.1 h;obtain⟨kK,aQ,h⟩:=dZ.1 h;obtain⟨fl,h5,h⟩:=dZ.1 h;obtain⟨oo,ft,h⟩:=dZ.1 h;cases h;rw[fG (J:=bn) (t:=0) h0 gU,fG (J:=bn) (t:=8) h1 q1,fG (J:=bn) (t:=2) h2 aS,fG (J:=bn) (t:=14) ar b1,fG (J:=bn) (t:=16) aQ cL,fG (J:=bn) (t:=24) h5 et,fG (J:=bn) (t:=4) ft gz];rfl
   ·cases h
  |27,x,h=>fG (J:=bn) (t:=1) h ad
  |28,x,h=>fG (J:=bn) (t:=7) h ad
  |29,x,h=>by
   obtain⟨vs,ws,rfl,hr,h⟩:=qg (J:=bn) h ad;split at h
   ·obtain⟨_,_,rfl,gU,hr⟩:=bm.inv hr;obtain⟨_,_,rfl,q1,hr⟩:=bm.inv hr;obtain⟨_,_,rfl,aS,hr⟩:=bm.inv hr;obtain⟨_,_,rfl,b1,hr⟩:=bm.inv hr;obtain⟨_,_,rfl,cL,hr⟩:=bm.inv hr;obtain⟨_,_,rfl,et,hr⟩:=bm.inv hr;obtain⟨_,_,rfl,gz,hr⟩:=bm.inv hr;obtain⟨_,_,rfl,jI,hr⟩:=bm.inv hr;cases bm.qd hr
    obtain⟨c6,h0,h⟩:=dZ.1 h;obtain⟨cb,h1,h⟩:=dZ.1 h;obtain⟨dR,h2,h⟩:=dZ.1 h;obtain⟨gR,ar,h⟩:=dZ.1 h;obtain⟨kK,aQ,h⟩:=dZ.1 h;obtain⟨fl,h5,h⟩:=dZ.1 h;obtain⟨oo,ft,h⟩:=dZ.1 h;obtain⟨mm,kZ,h⟩:=dZ.1 h;cases h;rw[fG (J:=bn) (t:=0) h0 gU,fG (J:=bn) (t:=8) h1 q1,fG (J:=bn) (t:=2) h2 aS,fG (J:=bn) (t:=14) ar b1,fG (J:=bn) (t:=16) aQ cL,fG (J:=bn) (t:=24) h5 et,fG (J:=bn) (t:=4) ft gz,fG (J:=bn) (t:=7) kZ jI];rfl
   ·cases h
  |30,x,h=>by
   obtain⟨vs,ws,rfl,hr,h⟩:=qg (J:=bn) h ad;split at h
   ·obtain⟨_,_,rfl,gU,hr⟩:=bm.inv hr;obtain⟨_,_,rfl,q1,hr⟩:=bm.inv hr;obtain⟨_,_,rfl,aS,hr⟩:=bm.inv hr;obtain⟨_,_,rfl,b1,hr⟩:=bm.inv hr;cases bm.qd hr
    obtain⟨c6,h0,h⟩:=dZ.1 h;obtain⟨cb,h1,h⟩:=dZ.1 h;obtain⟨dR,h2,h⟩:=dZ.1 h;obtain⟨gR,ar,h⟩:=dZ.1 h;cases h;rw[jv h0 gU,jv h1 q1,jv h2 aS,jv ar b1];rfl
   ·cases h
  |31,x,h=>fG (J:=bn) (t:=30) h ad
  |32,x,h=>fG (J:=bn) (t:=6) h ad
  | _+33,_,h=>by cases h
 bs:=fun t x=>match t,x with
  |0,x=>rfl
  |1,x=>rfl
  |2,x=>rfl
  |3,x=>rfl
  |4,x=>ahU x
  |5,x=>o7 _ _ _
  |6,x=>o7 _ _ _
  |7,x=>ahW x
  |8,x=>ahY x
  |9,x=>o7 _ _ _
  |10,x=>o7 _ _ _
  |11,x=>ah0 x
  |12,x=>o7 _ _ _
  |13,x=>ah2 x
  |14,x=>ah4 x
  |15,x=>o7 _ _ _
  |16,x=>ah6 x
  |17,x=>o7 _ _ _
  |18,x=>ah8 x
  |19,x=>o7 _ _ _
  |20,x=>o7 _ _ _
  |21,x=>aia x
  |22,x=>o7 _ _ _
  |23,x=>aic x
  |24,x=>aie x
  |25,x=>o7 _ _ _
  |26,x=>aih x
  |27,x=>o7 _ _ _
  |28,x=>o7 _ _ _
  |29,x=>aij x
  |30,x=>aHT x
  |31,x=>o7 _ _ _
  |32,x=>o7 _ _ _
  | _+33,_=>rfl
 ok:=fun t x=>match t,x with
  |0,x=>rfl
  |1,x=>rfl
  |2,x=>rfl
  |3,x=>rfl
  |4,x=>ahV x
  |5,x=>qe _ _ _
  |6,x=>qe _ _ _
  |7,x=>ahX x
  |8,x=>ahZ x
  |9,x=>qe _ _ _
  |10,x=>qe _ _ _
  |11,x=>ah1 x
  |12,x=>qe _ _ _
  |13,x=>ah3 x
  |14,x=>ah5 x
  |15,x=>qe _ _ _
  |16,x=>ah7 x
  |17,x=>qe _ _ _
  |18,x=>ah9 x
  |19,x=>qe _ _ _
  |20,x=>qe _ _ _
  |21,x=>aib x
  |22,x=>qe _ _ _
  |23,x=>aid x
  |24,x=>aif x
  |25,x=>qe _ _ _
  |26,x=>aii x
  |27,x=>qe _ _ _
  |28,x=>qe _ _ _
  |29,x=>aik x
  |30,x=>aHU x
  |31,x=>qe _ _ _
  |32,x=>qe _ _ _
  | _+33,_=>rfl
 es:=fun t x=>match t,x with
  |0,x=>rfl
  |1,x=>rfl
  |2,x=>rfl
  |3,x=>rfl
  |4,x=>rfl
  |5,x=>qf _ _ _
  |6,x=>qf _ _ _
  |7,x=>rfl
  |8,x=>rfl
  |9,x=>qf _ _ _
  |10,x=>qf _ _ _
  |11,x=>rfl
  |12,x=>qf _ _ _
  |13,x=>rfl
  |14,x=>rfl
  |15,x=>qf _ _ _
  |16,x=>rfl
  |17,x=>qf _ _ _
  |18,x=>rfl
  |19,x=>qf _ _ _
  |20,x=>qf _ _ _
  |21,x=>rfl
  |22,x=>qf _ _ _
  |23,x=>rfl
  |24,x=>rfl
  |25,x=>qf _ _ _
  |26,x=>rfl
  |27,x=>qf _ _ _
  |28,x=>qf _ _ _
  |29,x=>rfl
  |30,x=>rfl
  |31,x=>qf _ _ _
  |32,x=>qf _ _ _
  | _+33,_=>rfl
 aR:=fun t x=>match t,x with
  |0,x=>fun h=>rfl
  |1,x=>fun h=>rfl
  |2,x=>fun h=>rfl
  |3,x=>fun h=>rfl
  |4,x=>fun h=>by cases h
  |5,x=>fun h=>by cases h
  |6,x=>fun h=>by cases h
  |7,x=>fun h=>by cases h
  |8,x=>fun h=>by cases h
  |9,x=>fun h=>by cases h
  |10,x=>fun h=>by cases h
  |11,x=>fun h=>by cases h
  |12,x=>fun h=>by cases h
  |13,x=>fun h=>by cases h
  |14,x=>fun h=>by cases h
  |15,x=>fun h=>by cases h
  |16,x=>fun h=>by cases h
  |17,x=>fun h=>by cases h
  |18,x=>fun h=>by cases h
  |19,x=>fun h=>by cases h
  |20,x=>fun h=>by cases h
  |21,x=>fun h=>by cases h
  |22,x=>fun h=>by cases h
  |23,x=>fun h=>by cases h
  |24,x=>fun h=>by cases h
  |25,x=>fun h=>by cases h
  |26,x=>fun h=>by cases h
  |27,x=>fun h=>by cases h
  |28,x=>fun h=>by cases h
  |29,x=>fun h=>by cases h
  |30,x=>fun h=>by cases h
  |31,x=>fun h=>by cases h
  |32,x=>fun h=>by cases h
  | _+33,_=>fun h=>by cases h
 WG:=fun t n h=>by
  have h:N4 t=some n:=h;unfold N4 at h;split at h<;>cases h
  ·exact DD
  ·exact ahw
end Go.Abs.hk
set_option maxRecDepth 100000
namespace Go.Abs.hk
open Go Go.Abs Go.Abs.Lex Go.Proofs
variable{g:Nat->Option Obj}
theorem P6{A:Type}{es:Nat}{f:A->V}(ab:∀a b,f a=f b->a=b){x y:ak A}(h:bg es f x=bg es f y):x=y:=by
 cases x<;>cases y<;>simp only[bg,reduceCtorEq,V.list.injEq,true_and]at h<;>try rfl
 rename_i l m;congr 1
 induction l generalizing m with
 |nil=>cases m<;>simp_all
 |cons a l ih=>
  cases m with
  |nil=>simp at h
  |cons b m=>
   simp only[eo,Ce]at h;rw[ab _ _ h.1,ih m h.2]
theorem aoQ (a b:Int)(h:aD a=aD b):a=b:=by cases h;rfl
theorem aoR (a b:Table)(h:lH a=lH b):a=b:=by
 obtain⟨ai,a2,a3,⟨a4,a5⟩,zD⟩:=a;obtain⟨dm,gy,jO,⟨lg,uv⟩,ZF⟩:=b;simp only[lH,V.agg.injEq,Ce,V.str.injEq,V.int.injEq,true_and,and_true]at h;obtain⟨rfl,rfl,ar,rfl,rfl,rfl⟩:=h;rw[P6 aoQ ar]
theorem aoS (a b:gk)(h:iX a=iX b):a=b:=by
 obtain⟨ai,a2,a3⟩:=a;obtain⟨dm,gy,jO⟩:=b;simp only[iX,V.agg.injEq,Ce,V.int.injEq,true_and,and_true]at h;obtain⟨rfl,rfl,rfl⟩:=h;rfl
def zH (j:dN):Bool:=DK j.Model.Tables.l j.Model.b7.l
theorem aoT{a b:dN}(h:V.agg (iM a)=V.agg (iM b)):zH a=zH b:=by
 simp only[iM,V.agg.injEq,Ce]at h;unfold zH;rw[P6 aoR h.2.1,P6 aoS h.2.2.2.2.2.2.1]
noncomputable section
open Go.Abs.gK
def oY:List (cn bn):=[]
theorem P7:cG (H3 g) oY:=fun _ h=>by cases h
def aCn:List (cn bn):=⟨214,[],[.v 0,.v 0],[1],fun c a=>kg a.1 a.2.1⟩::oY
theorem aCo:cG (H3 g) aCn:=dh di P7 [] (.two .o (.pu [4] .o)) (by kernel_rfl) fun c a=>by kernel_rfl
def aCp:List (cn bn):=⟨354,[],[.v 5,.f [4] 1],[0],fun c a=>Ws a.1 a.2.1⟩::aCn
theorem aGy:cG (H3 g) aCp:=dh di aCo [] (.two .o (.two (.two .o (.fe [(.s 8,.p 0)] [(.exit 0,[]),(.ret,[(.s 4,.p 0)])] .o)) .o)) (by kernel_rfl) fun c a=>by kernel_rfl
def aGz:List (cn bn):=⟨223,[],[.v 5,.f [4] 1],[1],fun c a=>DM a.1 a.2.1⟩::aCp
theorem aGA:cG (H3 g) aGz:=dh di aGy [] .o (by kernel_rfl) fun c a=>by kernel_rfl
end
open Classical in
noncomputable def BZ:List V->Option V:=fun args=>if h:∃j,args=[.agg (iM j)]then some (.bool (zH h.choose))else none
theorem aoX (j:dN):BZ [.agg (iM j)]=some (.bool (zH j)):=by
 have h:∃uL,[V.agg (iM j)]=[.agg (iM uL)]:=⟨j,rfl⟩;unfold BZ;rw[dif_pos h];exact congrArg (fun b=>some (V.bool b)) (aoT (ew h.choose_spec).1).symm
def P8:Code->Code| .block _ c=>c|c=>c
def aoY:Code->Code| .loop c=>c|c=>c
noncomputable def axu:Code:=Tryz.f113.body.getD .skip
noncomputable def Ip:Nat->Code
 |0=>axu
 |n+1=>cM (Ip n)
noncomputable def arw:Code:=aoY (P8 (cM (gh (Ip 5))))
noncomputable def aGB:Code:=.seq (gh axu) (.seq (gh (Ip 1)) (.seq (gh (Ip 2)) (.seq (gh (Ip 3)) (.seq (gh (Ip 4)) (.seq (.seq (gh (gh (Ip 5))) (.block 4 (.loop (.seq (gh arw) (.seq (gh (cM arw)) (.seq (.block 5 (P8 (gh (cM (cM arw))))) (cM (cM (cM arw))))))))) (cM (Ip 5)))))))
theorem aCq:Tryz.f113.body=some aGB:=by kernel_rfl
theorem ao0 (h:dU (C g) id (H3 g)):og (C g) id 113 BZ:=by
 intro G H w args v xs U eQ lu;unfold BZ at lu;split at lu
 case isFalse=>cases lu
 rename_i hj;have ZP:=hj.choose_spec;generalize hj.choose=j at ZP lu;clear hj;subst ZP;cases lu;rw[Da (C:=C g) Tryz.func113 aCq (by kernel_rfl)];have nC:zq (H3 g):=akJ aGA.hd;have PJ:Jn (H3 g):=akI aCo.hd
 have MD:=ane (C:=C g) (fid:=id) (vars:=Ctx.varsOf Tryz.f113) (N:=Tryz.f113.ntmps) (aa:=H3 g) (p1:=gh axu) (p2:=gh (Ip 1)) (p3:=gh (Ip 2)) (j6:=gh (Ip 3)) (qa:=gh (Ip 4)) (xi:=gh (gh (Ip 5))) (EU:=cM (Ip 5)) (hd:=gh arw) (nc:=gh (cM arw)) (ri:=P8 (gh (cM (cM arw)))) (inc:=cM (cM (cM arw)))
  mixed tg (akO mixed tg h) (by kernel_rfl) (by kernel_rfl) (by kernel_rfl) (by kernel_rfl) (by kernel_rfl) (by kernel_rfl) (by kernel_rfl) (by kernel_rfl) (by kernel_rfl) (by kernel_rfl) (by kernel_rfl) (by kernel_rfl) (by kernel_rfl) nC PJ j
 have hc:=TK (C:=C g) (H:=[]) (H':=[]) (o2:=[.tmp 2]) (fresh:=false) (v:=.bool (zH j)) (low':=0) tg Tryz.func113 aCq (by kernel_rfl) (args:=[.agg (iM j)]) (of_decide_eq_true (by kernel_rfl)) (MD.mono fun x s hx=>by
  obtain⟨rfl,h2⟩:=hx;refine⟨.inr rfl,[.bool (zH j)],?_,?_⟩
  ·simp only[fy,hE,h2];rfl
  ·simp[jk,finish,eP,dF,bs,old]) U.apart (c7.oP eQ)
 exact Ci hc fun e w'=>fun⟨x,af,e2⟩=>⟨x,af,e2.beside U (by simp[bs])⟩
noncomputable def cT (g:Nat->Option Obj):Nat->Option bY:=over (over (H3 g) 113 BZ) 5 (Dd [] (.bool true))
theorem ao1 (h:dU (C g) id (H3 g)/\dU (A g) id (gf g)):dU (C g) id (cT g):=De (De h.1 (ao0 h.1)) (aoP h.2)
end Go.Abs.hk
namespace Go.Abs
open Go Go.ChangeShapes
def sE:List V->V
 |[x]=>x
 |vs=>.agg vs
theorem ao2{x:V}(h:ed x=true):aE x=[x]:=by cases x<;>simp_all [ed,aE]
theorem ZQ{l:List V}(h:bS l=true):aE (sE l)=l:=by
 match l,h with
 |[],_=>rfl
 |[x],h=>simp only[bS,xH]at h;exact ao2 h
 | _::_::_,_=>rfl
inductive e7 {H:Type} (P:Program):TypeId->DataW H->List V->Prop
 |bool (t:TypeId) (b:Bool) (ht:P.underlying t=some .bool):e7 P t (.lit (.bool b)) [.bool b]
 |int (t:TypeId) (k:IntKind) (n:Int) (ht:P.underlying t=some (.int k)) (hw:(Lit.int k n).wf=true):e7 P t (.lit (.int k n)) [.int k n]
 |str (t:TypeId) (s:List UInt8) (ht:P.underlying t=some .string):e7 P t (.lit (.string s)) [.str s]
 |nil (t e:TypeId) (ht:P.underlying t=some (.slice e)):e7 P t .nil [.cp]
 |slice (t e:TypeId) (elems spare:List (DataW H)) (ls:List (List V)) (ht:P.underlying t=some (.slice e)) (hl:ls.length=elems.length)
  (h:∀(i:Nat) d l,elems[i]? =some d->ls[i]? =some l->e7 P e d l):e7 P t (.slice elems spare) [.list (P.cellsOf e) (ls.map sE)]
 |struct (t:TypeId) (fs:Array Field) (parts:List (DataW H)) (ls:List (List V)) (ht:P.underlying t=some (.struct fs)) (hp:parts.length=fs.size) (hl:ls.length=fs.size)
  (h:∀(i:Nat) (f:Field) d l,fs[i]? =some f->parts[i]? =some d->ls[i]? =some l->e7 P f.type d l):e7 P t (.agg parts) ls.flatten
def xz (P:Program):Nat->TypeId->Bool
 |0,_=>false
 |n+1,t=>match P.underlying t with
  |some .bool|some (.int _)|some .string=>P.cellsOf t==1
  |some (.slice e)=>P.cellsOf t==1&&decide (0<P.cellsOf e)&&xz P n e
  |some (.struct fs)=>fs.toList.all fun f=>xz P n f.type
  | _=>false
theorem Qa{w:World}{I:Nat->Prop}:∀{vs:List V} {xs:List Value} {us:List V} {cR:List Value},c7 w I vs xs->c7 w I us cR->c7 w I (vs++us) (xs++cR)
 | _,_,_,_,.nil,h=>h
 | _,_,_,_,.cons v x vs xs h hs,k=>.cons v x _ _ h (Qa hs k)
theorem ao3{a b:List V}:bS (a++b)=(bS a&&bS b):=by
 induction a with
 |nil=>simp[bS]
 |cons x a ih=>simp[bS,ih,Cf]
theorem ZR{α:Type}{p:Nat->α->Prop}:∀n,(∀i,i<n->∃a,p i a)->∃l:List α,l.length=n/\∀i a,l[i]? =some a->p i a
 |0,_=>⟨[],rfl,fun i a h=>by simp at h⟩
 |n+1,h=>by
  obtain⟨l,hl,hp⟩:=ZR n (fun i hi=>h i (by omega));obtain⟨a,ao⟩:=h n (by omega);refine⟨l++[a],by simp[hl],fun i b hb=> ?_⟩;rcases fX i n with hi|hi
  ·rw[gE (by omega)]at hb;exact hp i b hb
  ·rw[sJ (by omega)]at hb
   have:i-l.length=0:=by
    rcases U2 (i-l.length)with h0|h0
    ·exact h0
    ·rw[lb (by simp;omega)]at hb;cases hb
   rw[this]at hb;cases hb;have:i=n:=by omega
   rw[this];exact ao
theorem ZS{α:Type}{c:Nat}:∀{ls:List (List α)} {j:Nat} {x:α},(∀l∈ls,l.length=c)->ls.flatten[j]? =some x->∃i r l,ls[i]? =some l/\l[r]? =some x/\j=i*c+r/\r<c
 |[],j,x,_,h=>by simp at h
 |l::ls,j,x,hc,h=>by
  have hl:=hc l (by simp);rw[FN]at h;rcases fX j c with hj|hj
  ·rw[gE (by omega)]at h
   exact⟨0,j,l,rfl,h,by omega,hj⟩
  ·rw[sJ (by omega)]at h
   obtain⟨i,r,l',h1,h2,ar,aQ⟩:=ZS (fun m hm=>hc m (by simp[hm])) h;exact⟨i+1,r,l',by simpa using h1,h2,by rw[rC];omega,aQ⟩
section
variable{H:Type}{enc:TypeId × Value->H}{P:Program}{W:World}{held:Bool}
def zI (W:World):Nat->Prop:=fun b=>b<W.heap.size
def Reads (P:Program)(W:World)(t:TypeId)(cs:List Value)(d:DataW H):Prop:=
 ∃vs,e7 P t d vs/\c7 W (zI W) vs cs/\bS vs=true/\vs.length=P.cellsOf t/\cs.length=P.cellsOf t
theorem ZT{a:Addr}{v:Value}(h:W.cell? a=some v):a.spot=none/\a.block<W.heap.size:=by
 unfold World.cell? at h;split at h
 ·rename_i c e f fj
  split at h
  ·cases h
  ·rename_i hs
   refine⟨by simpa using hs,?_⟩;rcases fX a.block W.heap.size with q|q
   ·exact q
   ·rw[FG q]at fj;cases fj
 ·cases h
theorem ZU (n:Nat)(ZV:∀fuel t cs (x:DataW H × List MemPlace),t<P.types.size->xz P n t=true->DataW.trod enc P W 0 (fun _=>true) held fuel t cs=some x->Reads P W t cs x.1)(m:Nat)(cs:List Value):
  ∀(aR:List Field) (xs:List (DataW H × List MemPlace)) (off:Nat),(∀(j:Nat) (f:Field),aR[j]? =some f->f.offset=off+((aR.take j).map fun f=>P.cellsOf f.type).sum)->xs.length=aR.length->(∀f∈aR,f.type<P.types.size/\xz P n f.type=true)->
   (∀(i:Nat) (f:Field),aR[i]? =some f->DataW.trod enc P W 0 (fun _=>true) held m f.type ((cs.drop f.offset).take (P.cellsOf f.type))=xs[i]?)->
   ∃ls:List (List V),ls.length=aR.length/\(∀(i:Nat) (f:Field) (y:DataW H × List MemPlace) (l:List V),aR[i]? =some f->xs[i]? =some y->ls[i]? =some l->e7 P f.type y.1 l)/\c7 W (zI W) ls.flatten ((cs.drop off).take (aR.map fun f=>P.cellsOf f.type).sum)/\bS ls.flatten=true/\
    ls.flatten.length=(aR.map fun f=>P.cellsOf f.type).sum
 |[],xs,off,_,hl,_,_=>⟨[],rfl,fun i f y l h=>by simp at h,by simp;exact .nil,rfl,rfl⟩
 |f::aR,xs,off,ZW,hl,ab,hx=>by
  match xs,hl with
  |y::xs,hl=>
   have h0:=hx 0 f rfl;have ho:=ZW 0 f rfl;simp only[List.take_zero,mT,List.sum_nil,zW]at ho;rw[ho]at h0;simp only[rr]at h0;obtain⟨vs,bA,b9,eD,gx,iR⟩:=ZV m f.type _ y (ab f (by simp)).1 (ab f (by simp)).2 h0
   obtain⟨ls,q1,aS,b1,cL,et⟩:=ZU n ZV m cs aR xs (off+P.cellsOf f.type) (fun j g bj=>by
     have:=ZW (j+1) g (by simpa using bj);simp only[List.take_succ_cons,eo,List.sum_cons]at this;omega) (by simpa using hl) (fun g bj=>ab g (by simp[bj])) (fun i g bj=>by simpa using hx (i+1) g (by simpa using bj))
   refine⟨vs::ls,by simp[q1],fun i g z l bj aT jl=> ?_,?_,?_,?_⟩
   ·cases i with
    |zero=>
     simp only[rr,az]at bj aT jl;subst bj;subst aT;subst jl;exact bA
    |succ i=>
     simp only[Kh]at bj aT jl;exact aS i g z l bj aT jl
   ·rw[FN,eo,List.sum_cons,List.take_add,sR]
    exact Qa b9 b1
   ·rw[FN,ao3,eD,cL];rfl
   ·rw[FN,gM,gx,et,eo,List.sum_cons]
theorem reads (ik:laidOutB P=true):∀(n fuel:Nat) (t:TypeId) (cs:List Value) (x:DataW H × List MemPlace),t<P.types.size->xz P n t=true->DataW.trod enc P W 0 (fun _=>true) held fuel t cs=some x->Reads P W t cs x.1
 |0,_,_,_,_,_,ab,_=>by simp[xz]at ab
 |n+1,fuel,t,cs,x,JW,ab,h=>by
  unfold xz at ab;split at ab
  ·rename_i ht
   have hc:P.cellsOf t=1:=by simpa using ab
   obtain⟨b,rfl,hx⟩:∃b,cs=[.bool b]/\x=(.lit (.bool b),[]):=by
    cases fuel with
    |zero=>simp[DataW.trod]at h
    |succ m=>
     unfold DataW.trod at h;rw[ht]at h;split at h<;>simp_all
   subst hx;exact⟨_,.bool t _ ht,.cons _ _ _ _ (.bool _) .nil,rfl,by rw[hc];rfl,by rw[hc];rfl⟩
  ·rename_i k ht
   have hc:P.cellsOf t=1:=by simpa using ab
   obtain⟨m,rfl,rfl,hw⟩:=DataW.trod_int ht h;exact⟨_,.int t k m ht hw,.cons _ _ _ _ (.int k m) .nil,rfl,by rw[hc];rfl,by rw[hc];rfl⟩
  ·rename_i ht
   have hc:P.cellsOf t=1:=by simpa using ab
   obtain⟨s,rfl,rfl,hw⟩:=DataW.trod_string ht h;obtain⟨⟨s⟩⟩:=s;exact⟨_,.str t _ ht,.cons _ _ _ _ (.str s) .nil,rfl,by rw[hc];rfl,by rw[hc];rfl⟩
  ·rename_i e ht
   simp only[b8,beq_iff_eq,decide_eq_true_eq]at ab;obtain⟨⟨hc,yN⟩,iE⟩:=ab;have fa:=kid_slice ik JW ht;rcases DataW.trod_slice ht h with⟨rfl,rfl⟩|⟨a,len,cap,elems,rest,m,-,rfl,rfl,-,qG,-,hlen,P4,-,-⟩
   ·exact⟨_,.nil t e ht,.cons _ _ _ _ .cp .nil,rfl,by rw[hc];rfl,by rw[hc];rfl⟩
   ·have each:∀i,i<len->∃q:List Value × List V,(∃y,elems[i]? =some y/\W.cells? 0 (a.add (i*P.cellsOf e)) (P.cellsOf e)=some q.1/\e7 P e y.1 q.2/\c7 W (zI W) q.2 q.1/\bS q.2=true/\q.2.length=P.cellsOf e/\q.1.length=P.cellsOf e):=fun i hi=>by
     have hb:=P4 i hi;obtain⟨y,hy⟩:∃y,elems[i]? =some y:=⟨_,hX (by omega)⟩;rw[hy,dZ]at hb;obtain⟨cs',h1,h2⟩:=hb;obtain⟨vs,bA,b9,eD,gx,iR⟩:=reads ik n m e cs' y fa iE h2;exact⟨(cs',vs),y,hy,h1,bA,b9,eD,gx,iR⟩
    obtain⟨k9,ZX,bc⟩:=ZR len each;have eB:∀q∈k9,∃i,k9[i]? =some q:=fun q h=>T7 h;refine⟨[.list (P.cellsOf e) ((k9.map (·.2)).map sE)],.slice t e (elems.map (·.1)) (rest.map (·.1)) (k9.map (·.2)) ht (by simp[ZX,hlen]) (fun i d l hd hl=> ?_),?_,rfl,by rw[hc];rfl,by rw[hc];rfl⟩
    ·rw[jy]at hd hl
     cases zJ:k9[i]? with
     |none=>rw[zJ]at hl;cases hl
     |some q=>
      obtain⟨y,hy,-,h2,-⟩:=bc i q zJ;rw[zJ]at hl;rw[hy]at hd;cases hd;cases hl;exact h2
    ·refine .cons _ _ _ _ ?_ .nil
     cases pJ:len with
     |zero=>
      have:k9=[]:=List.eq_nil_of_length_eq_zero (by omega);subst this;exact .ur _ a cap
     |succ aul=>
      obtain⟨gU,P7⟩:∃q,k9[0]? =some q:=⟨_,hX (by omega)⟩;obtain⟨aky,-,hc0,-,-,-,-,pF⟩:=bc 0 gU P7;have Qb:=(World.cells?_some hc0).2.2 0 yN;obtain⟨v0,CM⟩:∃v,gU.1[0]? =some v:=⟨_,hX (by omega)⟩;rw[CM]at Qb;obtain⟨j4,aV,ao5⟩:=a
      have lu:ao5=none:=by
       have:=(ZT Qb).1;simpa[Addr.add]using this
      subst lu
      have j1:j4<W.heap.size:=by
       have:=(ZT Qb).2;rwa [block_add,block_add]at this
      have JX:((k9.map (·.2)).map sE).length=len:=by simp[ZX]
      have key:fz W (zI W) (.list (P.cellsOf e) ((k9.map (·.2)).map sE)) (.slice (some ⟨j4,aV,none⟩) ((k9.map (·.2)).map sE).length cap):=by
       refine .list _ _ j4 aV cap (k9.map (·.1)).flatten j1 (fun j x hj=> ?_) (fun d hd=> ?_) ?_ (by rw[JX];exact qG)
       ·obtain⟨i,r,l,h1,h2,rfl,aQ⟩:=ZS (c:=P.cellsOf e) (fun l hl=>by
         obtain⟨q,Fv,rfl⟩:=ey.1 hl;obtain⟨i,hi⟩:=eB q Fv;obtain⟨y,-,-,-,-,-,-,h⟩:=bc i q hi;exact h) hj
        rw[jy]at h1;cases zJ:k9[i]? with
        |none=>rw[zJ]at h1;cases h1
        |some q=>
         rw[zJ]at h1;cases h1;obtain⟨y,-,fS,-⟩:=bc i q zJ;have:=(World.cells?_some fS).2.2 r aQ;rw[h2]at this
         have af:((⟨j4,aV,none⟩:Addr).add (i*P.cellsOf e)).add r=⟨j4,aV+(i*P.cellsOf e+r),none⟩:=by
          simp only[Addr.add];split<;>split<;>simp_all<;>omega
         rw[af]at this;exact this
       ·obtain⟨l,hl,rfl⟩:=ey.1 hd
        obtain⟨q,Fv,rfl⟩:=ey.1 hl;obtain⟨i,hi⟩:=eB q Fv;obtain⟨y,-,-,-,-,h5,ft,-⟩:=bc i q hi;rw[ZQ h5];exact ft
       ·have eA:∀q∈k9,c7 W (zI W) q.2 q.1/\bS q.2=true:=fun q Fv=>by
         obtain⟨i,hi⟩:=eB q Fv;obtain⟨y,-,-,-,aQ,h5,-⟩:=bc i q hi;exact⟨aQ,h5⟩
        have:∀k9:List (List Value × List V),(∀q∈k9,c7 W (zI W) q.2 q.1/\bS q.2=true)->c7 W (zI W) (((k9.map (·.2)).map sE).flatMap aE) (k9.map (·.1)).flatten:=by
         intro k9
         induction k9 with
         |nil=>intro _;exact .nil
         |cons q k9 ih=>
          intro h;have h0:=h q (by simp);simp only[eo,kn,FN];rw[ZQ h0.2];exact Qa h0.1 (ih fun p hp=>h p (by simp[hp]))
        exact this k9 eA
      rw[JX,pJ]at key;exact key
  ·rename_i fs ht
   obtain⟨cq,ee,k1⟩:=kid_struct ik JW ht;obtain⟨xs,m,-,rfl,hG,jH,hx⟩:=DataW.trod_struct ht h;rw[eV]at ab;obtain⟨ls,q1,aS,b1,cL,et⟩:=ZU n (fun fuel t cs x a b c=>reads ik n fuel t cs x a b c) m cs fs.toList xs 0 (fun j f hj=>by rw[k1 j f hj];omega) (by simpa using jH) (fun f ZY=>⟨cq f ZY,ab f ZY⟩) (fun i f hi=>hx i f (by simpa using hi));refine⟨ls.flatten,.struct t fs (xs.map (·.1)) ls ht (by simpa using jH) (by simpa using q1) (fun i f d l rT hd hl=> ?_),?_,cL,by rw[et,ee],hG⟩
   ·rw[jy]at hd
    cases vR:xs[i]? with
    |none=>rw[vR]at hd;cases hd
    |some y=>
     rw[vR]at hd;cases hd;exact aS i f y l (by simpa using rT) vR hl
   ·rw[List.drop_zero,B5 (by rw[hG,ee];exact aK _)]at b1
    exact b1
  ·cases ab
theorem la{t:TypeId}{k:IntKind}{d:DataW H}{vs:List V}(ht:P.underlying t=some (.int k))(h:e7 P t d vs):∃n,d=.lit (.int k n)/\vs=[.int k n]/\(Lit.int k n).wf=true:=by
 cases h<;>rename_i eC<;>rw[ht]at* <;>try (first|(cases eC;done)|contradiction)
 ·rename_i hw;cases eC;exact⟨_,rfl,rfl,hw⟩
theorem Qc{t:TypeId}{d:DataW H}{vs:List V}(ht:P.underlying t=some .string)(h:e7 P t d vs):∃s,d=.lit (.string s)/\vs=[.str s]:=by
 cases h with
 |str _ s eC=>exact⟨s,rfl,rfl⟩
 |bool _ _ eC|int _ _ _ eC _|nil _ _ eC|slice _ _ _ _ _ eC _ _|struct _ _ _ _ eC _ _ _=>rw[ht]at eC;cases eC
theorem ao6{t:TypeId}{d:DataW H}{vs:List V}(ht:P.underlying t=some .bool)(h:e7 P t d vs):∃b,d=.lit (.bool b)/\vs=[.bool b]:=by
 cases h with
 |bool _ b eC=>exact⟨b,rfl,rfl⟩
 |str _ _ eC|int _ _ _ eC _|nil _ _ eC|slice _ _ _ _ _ eC _ _|struct _ _ _ _ eC _ _ _=>rw[ht]at eC;cases eC
theorem ao7{t e:TypeId}{d:DataW H}{vs:List V}(ht:P.underlying t=some (.slice e))(h:e7 P t d vs):
  (d=.nil/\vs=[.cp])\/∃(elems spare:List (DataW H)) (ls:List (List V)),d=.slice elems spare/\vs=[.list (P.cellsOf e) (ls.map sE)]/\ls.length=elems.length/\∀(i:Nat) d l,elems[i]? =some d->ls[i]? =some l->e7 P e d l:=by
 cases h with
 |nil _ _ eC=>exact .inl ⟨rfl,rfl⟩
 |slice _ e' elems spare ls eC hl h=>rw[ht]at eC;cases eC;exact .inr ⟨elems,spare,ls,rfl,rfl,hl,h⟩
 |bool _ _ eC|str _ _ eC|int _ _ _ eC _|struct _ _ _ _ eC _ _ _=>rw[ht]at eC;cases eC
theorem rm{t:TypeId}{fs:Array Field}{d:DataW H}{vs:List V}(ht:P.underlying t=some (.struct fs))(h:e7 P t d vs):
  ∃(parts:List (DataW H)) (ls:List (List V)),d=.agg parts/\vs=ls.flatten/\parts.length=fs.size/\ls.length=fs.size/\∀(i:Nat) (f:Field) d l,fs[i]? =some f->parts[i]? =some d->ls[i]? =some l->e7 P f.type d l:=by
 cases h with
 |struct _ aum parts ls eC hp hl h=>rw[ht]at eC;cases eC;exact⟨parts,ls,rfl,rfl,hp,hl,h⟩
 |bool _ _ eC|str _ _ eC|int _ _ _ eC _|nil _ _ eC|slice _ _ _ _ _ eC _ _=>rw[ht]at eC;cases eC
theorem aGC{t e:TypeId}{elems spare:List (DataW H)}(ht:P.underlying t=some (.slice e)):(elems.length+spare.length)*P.bytesOf e∈(DataW.slice elems spare).weights P t:=by simp[DataW.weights,ht]
theorem aKr (ik:laidOutB P=true){n:Nat}{t:TypeId}{v:Value}{d:DataW H}{ps:List MemPlace}(JW:t<P.types.size)(ab:xz P n t=true)(sW:v.cells.toList=[v])
  (hd:DataW.Trod enc P W 0 (fun _=>true) held t v d ps):∃k5,e7 P t d [k5]/\fz W (zI W) k5 v:=by
 obtain⟨fuel,hd⟩:=hd;obtain⟨vs,bA,b9,eD,gx,iR⟩:=reads ik n fuel t _ _ JW ab hd;rw[sW]at b9;cases b9 with
 |cons k5 x vs xs h hs=>cases hs;exact⟨k5,bA,h⟩
end
end Go.Abs
namespace Go.Abs.hk
open Go Go.Abs Go.Proofs
set_option maxRecDepth 100000
def tb (W:World):bX:=⟨fun _=>none,fun b=>b<W.heap.size⟩
theorem ao8 (W:World):aZ (C fun b=>W.heap[b]?) id (tb W) [] W where
 obj l h e:=by cases e
 inj l l' h h' e:=by cases e
 blk l h e:=by cases e
 cX b hb:=⟨hb,fun l h e=>by cases e⟩
 ku l h e:=by cases e
 e9 b o h:=⟨by
  rcases fX b W.heap.size with q|q
  ·exact q
  ·simp[C,FG q]at h,h⟩
theorem Fw{W w':World}{G':bX}{H':Heap}(U:aZ (C fun b=>W.heap[b]?) id G' H' w'){b:Nat}(hb:b<W.heap.size):w'.heap[b]? =W.heap[b]? :=by
 have h:W.heap[b]? =some W.heap[b]:=by simp[hb]
 rw[(U.e9 b _ h).2,h]
theorem ao9{W w':World}{G':bX}{H':Heap}(U:aZ (C fun b=>W.heap[b]?) id G' H' w'){b off:Nat}(hb:b<W.heap.size):w'.cell? ⟨b,off,none⟩=W.cell? ⟨b,off,none⟩:=by
 unfold World.cell?; rw[Fw U hb]
theorem apa{W w':World}{G':bX}{H':Heap}(U:aZ (C fun b=>W.heap[b]?) id G' H' w')(ho:w'.os=W.os)(hp:w'.output=W.output)(may:MemPlace->Prop):W.keptBut w' may:=by
 refine⟨ho,hp,fun i hi=> ?_⟩;rw[Fw U hi];cases h:W.heap[i]? with
 |none=>simp
 |some o=>cases o<;>simp
theorem ZZ{P:Program}{w:World}{n:String}{d:DataW Unit}:∀{l:List (String × DataW Unit)} {ps:List MemPlace},DataW.LaidVars P w l ps->(n,d)∈l->
  ∃g t cs fuel p,P.globalNamed n=some g/\(P.globals[g]?).map (·.type)=some t/\w.var? P n=some cs/\DataW.trod (fun _=>()) P w 0 (fun _=>true) false fuel t cs.toList=some (d,p)
 |[],_,_,h=>by cases h
 |(m,e)::r,ps,h,hm=>by
  obtain⟨g,t,cs,fuel,p,q,h1,h2,ar,aQ,h5,-⟩:=h;rcases dA.1 hm with hm|hm
  ·cases hm;exact⟨g,t,cs,fuel,p,h1,h2,ar,aQ⟩
  ·exact ZZ h5 hm
theorem Z0{P:Program}{W:World}{name:String}{k:IntKind}{dd:List Int}{l:List (String × DataW Unit)}{g:Nat}{t e:TypeId}{n:Nat}
  (bj:P.globalNamed name=some g) (apb:(P.globals[g]?).map (·.type)=some t) (ht:P.underlying t=some (.array n e)) (he:P.underlying e=some (.int k)) (yN:P.cellsOf e=1) (Zw:P.cellsOf t=n)
  (h:laidMet P l W) (hm:(name,Lib.tabData k dd)∈l):Lib.TabIs P W name k dd:=by
 obtain⟨ps,ad,-⟩:=h;obtain⟨aun,eY,cs,fuel,p,HF,eC,apc,hd⟩:=ZZ ad hm;obtain rfl:=rA (bj.symm.trans HF);obtain rfl:=rA (apb.symm.trans eC);unfold Lib.TabIs;rw[apc,<-Lib.cells_of_tab ht he yN Zw hd]
theorem Z1{W w':World}{G':bX}{H':Heap}(U:aZ (C fun b=>W.heap[b]?) id G' H' w'){name:String}{k:IntKind}{dd:List Int}(h:Lib.TabIs Tryz.prog W name k dd):Lib.TabIs Tryz.prog w' name k dd:=by
 unfold Lib.TabIs World.var? at h⊢;cases bj:Tryz.prog.globalNamed name with
 |none=>rw[bj]at h;cases h
 |some g=>
  rw[bj]at h;simp only[cg]at h⊢
  have hb:g<W.heap.size:=by
   rcases fX g W.heap.size with q|q
   ·exact q
   ·rw[FG q]at h;cases h
  rw[Fw U hb];exact h
section
variable{W:World}{H:Type}{enc:TypeId × Value->H}
theorem Z2{w':World}{T:TypeId->Prop}(K:Kids Tryz.prog T)(dJ:∀{t e:TypeId},T t->Tryz.prog.underlying t=some (.slice e)->0<Tryz.prog.cellsOf e){Z3:Nat->Bool}:
  ∀{ts:List TypeId} {vs:List Value} {ds:List (DataW H)} {p:List MemPlace},(∀t∈ts,T t)->DataW.TrodAll enc Tryz.prog W 0 (fun _=>true) true ts vs ds p->(∀q∈p,W.sameAt w' q)->(∀q∈p,Z3 q.block=true)->
   DataW.TrodAll enc Tryz.prog w' 0 Z3 true ts vs ds p
 |[],vs,ds,p,_,h,_,_=>by
  obtain⟨rfl,rfl,rfl⟩:=ChangeShapes.trodAll_nil h;rfl
 |t::ts,vs,ds,p,hT,h,hs,hp=>by
  obtain⟨v,vs',d,ds',a,b,rfl,rfl,rfl,⟨fuel,h1⟩,h2⟩:=ChangeShapes.trodAll_cons h;refine⟨a,b,⟨fuel,DataW.trod_stays K dJ (fun h=>by cases h) (hT t (by simp)) h1 (fun q bc=>hs q (by simp[bc])) (fun q bc=>hp q (by simp[bc]))⟩,Z2 K dJ (fun u hu=>hT u (by simp[hu])) h2 (fun q bc=>hs q (by simp[bc])) (fun q bc=>hp q (by simp[bc])),rfl⟩
end
set_option maxRecDepth 100000 in
theorem laidOut:laidOutB Tryz.prog=true:=by kernel_rfl
theorem apd:mapsRowed Tryz.prog=true:=by kernel_rfl
theorem kids:Kids Tryz.prog (· <Tryz.prog.types.size):=kids_rows laidOut apd
theorem ape:((List.range Tryz.prog.types.size).all fun t=>match Tryz.prog.underlying t with|some (.slice e)=>decide (0<Tryz.prog.cellsOf e)| _=>true)=true:=by kernel_rfl
theorem apf{t e:TypeId}(h:t<Tryz.prog.types.size)(hu:Tryz.prog.underlying t=some (.slice e)):0<Tryz.prog.cellsOf e:=by
 have:=eV.1 ape t (Ks.2 h);rw[hu]at this;simpa using this
theorem apg{W w':World}{G':bX}{H':Heap}(U:aZ (C fun b=>W.heap[b]?) id G' H' w'){q:MemPlace}(hb:q.block<W.heap.size):W.sameAt w' q:=by
 cases q with
 |cell b off=>exact ao9 U hb
 |map b=>exact Fw U hb
theorem aph{W w':World}{G':bX}{H':Heap}(U:aZ (C fun b=>W.heap[b]?) id G' H' w'){a:Addr}(hb:a.block<W.heap.size):w'.frozen? a=W.frozen? a:=by
 unfold World.frozen?; rw[Fw U hb]
end Go.Abs.hk
namespace Go.Abs.hk
open Go Go.Abs Go.Proofs
set_option maxRecDepth 100000
theorem sF{H A:Type}{P:Program}{t e:TypeId}{es:Nat}{f:A->V}{d:DataW H}{l:List V}(ht:P.underlying t=some (.slice e))(fa:P.cellsOf e=es)(he:∀(d:DataW H) l,e7 P e d l->∃a:A,sE l=f a)(h:e7 P t d l):∃s:ak A,l=[bg es f s]:=by
 rcases ao7 ht h with⟨-,rfl⟩|⟨elems,spare,ls,-,rfl,hl,hr⟩
 ·exact⟨.nil,rfl⟩
 ·have:∀(ls:List (List V)),(∀l∈ls,∃a:A,sE l=f a)->∃xs:List A,ls.map sE=xs.map f:=by
   intro ls
   induction ls with
   |nil=>exact fun _=>⟨[],rfl⟩
   |cons l ls ih=>
    intro h;obtain⟨a,ao⟩:=h l (by simp);obtain⟨xs,hx⟩:=ih fun l hl=>h l (by simp[hl]);exact⟨a::xs,by rw[eo,eo,ao,hx]⟩
  obtain⟨xs,hx⟩:=this ls fun l JX=>by
   obtain⟨i,hi⟩:=T7 JX;have qU:i<ls.length:=(pY.1 hi).1;exact he _ l (hr i _ l (hX (by omega)) hi)
  exact⟨.mk xs,by rw[hx,fa];rfl⟩
theorem xA{α:Type}{l:List α}(h:l.length=2):∃a0 ai,l=[a0,ai]:=by
 match l,h with
 |[a0,ai],_=>exact⟨a0,ai,rfl⟩
theorem tS{α:Type}{l:List α}(h:l.length=3):∃a0 ai a2,l=[a0,ai,a2]:=by
 match l,h with
 |[a0,ai,a2],_=>exact⟨a0,ai,a2,rfl⟩
theorem JY{α:Type}{l:List α}(h:l.length=5):∃a0 ai a2 a3 a4,l=[a0,ai,a2,a3,a4]:=by
 match l,h with
 |[a0,ai,a2,a3,a4],_=>exact⟨a0,ai,a2,a3,a4,rfl⟩
theorem Z4{α:Type}{l:List α}(h:l.length=7):∃a0 ai a2 a3 a4 a5 zD,l=[a0,ai,a2,a3,a4,a5,zD]:=by
 match l,h with
 |[a0,ai,a2,a3,a4,a5,zD],_=>exact⟨a0,ai,a2,a3,a4,a5,zD,rfl⟩
section
variable{W:World}{H:Type}{enc:TypeId × Value->H}
theorem JZ{d:DataW H}{l:List V}(h:e7 Tryz.prog 22 d l):∃s:ak Int,l=[bg 1 aD s]:=
 sF Tryz.underlying22 (by kernel_rfl) (fun d l h=>by obtain⟨n,-,rfl,-⟩:=la Tryz.underlying3 h;exact⟨n,rfl⟩) h
theorem api{d:DataW H}{l:List V}(h:e7 Tryz.prog 83 d l):∃x:Range,l=aE (pS x):=by
 obtain⟨parts,ls,-,rfl,hp,hl,hr⟩:=rm Tryz.underlying83 h;obtain⟨p0,p1,rfl⟩:=xA hp;obtain⟨l7,bF,rfl⟩:=xA hl;obtain⟨c6,-,rfl,-⟩:=la Tryz.underlying3 (hr 0 _ _ _ rfl rfl rfl);obtain⟨cb,-,rfl,-⟩:=la Tryz.underlying3 (hr 1 _ _ _ rfl rfl rfl);exact⟨⟨c6,cb⟩,rfl⟩
theorem apj{d:DataW H}{l:List V}(h:e7 Tryz.prog 128 d l):∃x:Table,l=aE (lH x):=by
 obtain⟨parts,ls,-,rfl,hp,hl,hr⟩:=rm Tryz.underlying128 h;obtain⟨p0,p1,p2,p3,j6,rfl⟩:=JY hp;obtain⟨l7,bF,iB,vm,pb,rfl⟩:=JY hl;obtain⟨c6,-,rfl⟩:=Qc Tryz.underlying9 (hr 0 _ _ _ rfl rfl rfl);obtain⟨cb,-,rfl,-⟩:=la Tryz.underlying3 (hr 1 _ _ _ rfl rfl rfl);obtain⟨dR,rfl⟩:=JZ (hr 2 _ _ _ rfl rfl rfl);obtain⟨gR,rfl⟩:=api (hr 3 _ _ _ rfl rfl rfl);obtain⟨kK,-,rfl,-⟩:=la Tryz.underlying3 (hr 4 _ _ _ rfl rfl rfl);exact⟨⟨c6,cb,dR,gR,kK⟩,rfl⟩
theorem apk{d:DataW H}{l:List V}(h:e7 Tryz.prog 23 d l):∃s:ak Table,l=[bg 6 lH s]:=
 sF Tryz.underlying23 (by kernel_rfl) (fun d l h=>by obtain⟨x,rfl⟩:=apj h;exact⟨x,rfl⟩) h
theorem apl{d:DataW H}{l:List V}(h:e7 Tryz.prog 24 d l):∃s:ak bH,l=[bg 1 V.str s]:=
 sF Tryz.underlying24 (by kernel_rfl) (fun d l h=>by obtain⟨n,-,rfl⟩:=Qc Tryz.underlying9 h;exact⟨n,rfl⟩) h
theorem apm{d:DataW H}{l:List V}(h:e7 Tryz.prog 143 d l):∃x:Term,l=aE (tn x):=by
 obtain⟨parts,ls,-,rfl,hp,hl,hr⟩:=rm Tryz.underlying143 h;obtain⟨p0,p1,rfl⟩:=xA hp;obtain⟨l7,bF,rfl⟩:=xA hl;obtain⟨c6,-,rfl,-⟩:=la Tryz.underlying3 (hr 0 _ _ _ rfl rfl rfl);obtain⟨cb,-,rfl,-⟩:=la Tryz.underlying3 (hr 1 _ _ _ rfl rfl rfl);exact⟨⟨c6,cb⟩,rfl⟩
theorem aGD{d:DataW H}{l:List V}(h:e7 Tryz.prog 67 d l):∃s:ak Term,l=[bg 2 tn s]:=
 sF Tryz.underlying67 (by kernel_rfl) (fun d l h=>by obtain⟨x,rfl⟩:=apm h;exact⟨x,rfl⟩) h
theorem Z5{d:DataW H}{l:List V}(h:e7 Tryz.prog 69 d l):∃x:Row,l=aE (tp x):=by
 obtain⟨parts,ls,-,rfl,hp,hl,hr⟩:=rm Tryz.underlying69 h;obtain⟨p0,p1,rfl⟩:=xA hp;obtain⟨l7,bF,rfl⟩:=xA hl;obtain⟨c6,rfl⟩:=aGD (hr 0 _ _ _ rfl rfl rfl);obtain⟨cb,-,rfl,-⟩:=la Tryz.underlying3 (hr 1 _ _ _ rfl rfl rfl);exact⟨⟨c6,cb⟩,rfl⟩
theorem apo{d:DataW H}{l:List V}(h:e7 Tryz.prog 71 d l):∃x:Constraint,l=aE (sf x):=by
 obtain⟨parts,ls,-,rfl,hp,hl,hr⟩:=rm Tryz.underlying71 h;obtain⟨p0,p1,p2,p3,j6,rfl⟩:=JY hp;obtain⟨l7,bF,iB,vm,pb,rfl⟩:=JY hl;obtain⟨c6,-,rfl,-⟩:=la Tryz.underlying3 (hr 0 _ _ _ rfl rfl rfl);obtain⟨cb,-,rfl,-⟩:=la Tryz.underlying3 (hr 1 _ _ _ rfl rfl rfl);obtain⟨dR,rfl⟩:=Z5 (hr 2 _ _ _ rfl rfl rfl);obtain⟨gR,-,rfl,-⟩:=la Tryz.underlying3 (hr 3 _ _ _ rfl rfl rfl);obtain⟨kK,-,rfl,-⟩:=la Tryz.underlying3 (hr 4 _ _ _ rfl rfl rfl);exact⟨⟨c6,cb,dR,gR,kK⟩,rfl⟩
theorem apq{d:DataW H}{l:List V}(h:e7 Tryz.prog 25 d l):∃s:ak Constraint,l=[bg 6 sf s]:=
 sF Tryz.underlying25 (by kernel_rfl) (fun d l h=>by obtain⟨x,rfl⟩:=apo h;exact⟨x,rfl⟩) h
theorem apr{d:DataW H}{l:List V}(h:e7 Tryz.prog 73 d l):∃x:cl,l=aE (sg x):=by
 obtain⟨parts,ls,-,rfl,hp,hl,hr⟩:=rm Tryz.underlying73 h;obtain⟨p0,p1,p2,rfl⟩:=tS hp;obtain⟨l7,bF,iB,rfl⟩:=tS hl;obtain⟨c6,-,rfl⟩:=Qc Tryz.underlying9 (hr 0 _ _ _ rfl rfl rfl);obtain⟨cb,-,rfl⟩:=ao6 Tryz.underlying4 (hr 1 _ _ _ rfl rfl rfl);obtain⟨dR,rfl⟩:=JZ (hr 2 _ _ _ rfl rfl rfl);exact⟨⟨c6,cb,dR⟩,rfl⟩
theorem aps{d:DataW H}{l:List V}(h:e7 Tryz.prog 26 d l):∃s:ak cl,l=[bg 3 sg s]:=
 sF Tryz.underlying26 (by kernel_rfl) (fun d l h=>by obtain⟨x,rfl⟩:=apr h;exact⟨x,rfl⟩) h
theorem apt{d:DataW H}{l:List V}(h:e7 Tryz.prog 62 d l):∃x:Change,l=aE (tq x):=by
 obtain⟨parts,ls,-,rfl,hp,hl,hr⟩:=rm Tryz.underlying62 h;obtain⟨p0,p1,rfl⟩:=xA hp;obtain⟨l7,bF,rfl⟩:=xA hl;obtain⟨c6,-,rfl,-⟩:=la Tryz.underlying3 (hr 0 _ _ _ rfl rfl rfl);obtain⟨cb,-,rfl,-⟩:=la Tryz.underlying3 (hr 1 _ _ _ rfl rfl rfl);exact⟨⟨c6,cb⟩,rfl⟩
theorem aGE{d:DataW H}{l:List V}(h:e7 Tryz.prog 38 d l):∃s:ak Change,l=[bg 2 tq s]:=
 sF Tryz.underlying38 (by kernel_rfl) (fun d l h=>by obtain⟨x,rfl⟩:=apt h;exact⟨x,rfl⟩) h
theorem aGF{d:DataW H}{l:List V}(h:e7 Tryz.prog 74 d l):∃s:ak Row,l=[bg 2 tp s]:=
 sF Tryz.underlying74 (by kernel_rfl) (fun d l h=>by obtain⟨x,rfl⟩:=Z5 h;exact⟨x,rfl⟩) h
theorem apw{d:DataW H}{l:List V}(h:e7 Tryz.prog 207 d l):∃x:mj,l=aE (tr x):=by
 obtain⟨parts,ls,-,rfl,hp,hl,hr⟩:=rm Tryz.underlying207 h;obtain⟨p0,p1,p2,rfl⟩:=tS hp;obtain⟨l7,bF,iB,rfl⟩:=tS hl;obtain⟨c6,-,rfl,-⟩:=la Tryz.underlying3 (hr 0 _ _ _ rfl rfl rfl);obtain⟨cb,-,rfl,-⟩:=la Tryz.underlying3 (hr 1 _ _ _ rfl rfl rfl);obtain⟨dR,-,rfl,-⟩:=la Tryz.underlying3 (hr 2 _ _ _ rfl rfl rfl);exact⟨⟨c6,cb,dR⟩,rfl⟩
theorem aGG{d:DataW H}{l:List V}(h:e7 Tryz.prog 75 d l):∃s:ak mj,l=[bg 3 tr s]:=
 sF Tryz.underlying75 (by kernel_rfl) (fun d l h=>by obtain⟨x,rfl⟩:=apw h;exact⟨x,rfl⟩) h
theorem apy{d:DataW H}{l:List V}(h:e7 Tryz.prog 77 d l):∃x:eK,l=aE (A5 x):=by
 obtain⟨parts,ls,-,rfl,hp,hl,hr⟩:=rm Tryz.underlying77 h;obtain⟨p0,p1,p2,rfl⟩:=tS hp;obtain⟨l7,bF,iB,rfl⟩:=tS hl;obtain⟨c6,rfl⟩:=aGE (hr 0 _ _ _ rfl rfl rfl);obtain⟨cb,rfl⟩:=aGF (hr 1 _ _ _ rfl rfl rfl);obtain⟨dR,rfl⟩:=aGG (hr 2 _ _ _ rfl rfl rfl);exact⟨⟨c6,cb,dR⟩,rfl⟩
theorem apz{d:DataW H}{l:List V}(h:e7 Tryz.prog 79 d l):∃x:Action,l=aE (si x):=by
 obtain⟨parts,ls,-,rfl,hp,hl,hr⟩:=rm Tryz.underlying79 h;obtain⟨p0,p1,p2,rfl⟩:=tS hp;obtain⟨l7,bF,iB,rfl⟩:=tS hl;obtain⟨c6,-,rfl,-⟩:=la Tryz.underlying3 (hr 0 _ _ _ rfl rfl rfl);obtain⟨cb,rfl⟩:=JZ (hr 1 _ _ _ rfl rfl rfl);obtain⟨dR,rfl⟩:=apy (hr 2 _ _ _ rfl rfl rfl);exact⟨⟨c6,cb,dR⟩,rfl⟩
theorem apA{d:DataW H}{l:List V}(h:e7 Tryz.prog 27 d l):∃s:ak Action,l=[bg 5 si s]:=
 sF Tryz.underlying27 (by kernel_rfl) (fun d l h=>by obtain⟨x,rfl⟩:=apz h;exact⟨x,rfl⟩) h
theorem apB{d:DataW H}{l:List V}(h:e7 Tryz.prog 136 d l):∃x:gk,l=aE (iX x):=by
 obtain⟨parts,ls,-,rfl,hp,hl,hr⟩:=rm Tryz.underlying136 h;obtain⟨p0,p1,p2,rfl⟩:=tS hp;obtain⟨l7,bF,iB,rfl⟩:=tS hl;obtain⟨c6,-,rfl,-⟩:=la Tryz.underlying3 (hr 0 _ _ _ rfl rfl rfl);obtain⟨cb,-,rfl,-⟩:=la Tryz.underlying3 (hr 1 _ _ _ rfl rfl rfl);obtain⟨dR,-,rfl,-⟩:=la Tryz.underlying3 (hr 2 _ _ _ rfl rfl rfl);exact⟨⟨c6,cb,dR⟩,rfl⟩
theorem apC{d:DataW H}{l:List V}(h:e7 Tryz.prog 28 d l):∃s:ak gk,l=[bg 3 iX s]:=
 sF Tryz.underlying28 (by kernel_rfl) (fun d l h=>by obtain⟨x,rfl⟩:=apB h;exact⟨x,rfl⟩) h
theorem apD{d:DataW H}{l:List V}(h:e7 Tryz.prog 30 d l):∃x:Model,l=aE (vn x):=by
 obtain⟨parts,ls,-,rfl,hp,hl,hr⟩:=rm Tryz.underlying30 h;obtain⟨p0,p1,p2,p3,j6,qa,xi,rfl⟩:=Z4 hp;obtain⟨l7,bF,iB,vm,pb,zF,xw,rfl⟩:=Z4 hl;obtain⟨c6,rfl⟩:=JZ (hr 0 _ _ _ rfl rfl rfl);obtain⟨cb,rfl⟩:=apk (hr 1 _ _ _ rfl rfl rfl);obtain⟨dR,rfl⟩:=apl (hr 2 _ _ _ rfl rfl rfl);obtain⟨gR,rfl⟩:=apq (hr 3 _ _ _ rfl rfl rfl);obtain⟨kK,rfl⟩:=aps (hr 4 _ _ _ rfl rfl rfl);obtain⟨fl,rfl⟩:=apA (hr 5 _ _ _ rfl rfl rfl);obtain⟨oo,rfl⟩:=apC (hr 6 _ _ _ rfl rfl rfl);exact⟨⟨c6,cb,dR,gR,kK,fl,oo⟩,rfl⟩
theorem apE:xz Tryz.prog 12 30=true:=by kernel_rfl
theorem apF:30<Tryz.prog.types.size:=of_decide_eq_true (by kernel_rfl)
theorem apG{b:Nat}{v:Value}(hval:Value.okWide Tryz.prog W .any b 30 v):∃cs,v=.agg cs:=by
 unfold Value.okWide at hval;rw[Tryz.underlying30]at hval;cases v<;>first|exact⟨_,rfl⟩|(simp at hval)
theorem apH{b:Nat}{v:Value}(hval:Value.okWide Tryz.prog W .any b 30 v){d:DataW H}{p:List MemPlace}{held:Bool}(hd:DataW.Trod enc Tryz.prog W 0 (fun _=>true) held 30 v d p):∃m:Model,fz W (tb W).I (vn m) v:=by
 obtain⟨cs,rfl⟩:=apG hval;obtain⟨fuel,hd⟩:=hd;obtain⟨vs,bA,b9,-⟩:=reads laidOut 12 fuel 30 _ _ apF apE hd;obtain⟨m,rfl⟩:=apD bA;exact⟨m,.agg _ cs.toList b9⟩
end
end Go.Abs.hk
namespace Go.Abs.hk
open Go Go.Abs Go.Proofs
set_option maxRecDepth 100000
section
variable{W:World}{H:Type}{enc:TypeId × Value->H}
def aw0 (P:Program)(t:TypeId)(d:DataW H):Prop:=∀n∈d.weights P t,n<=reachBytes
theorem axv{ts:List TypeId}{ds:List (DataW H)}(h:(DataW.weightsEach Tryz.prog ts ds).all (· <=reachBytes)=true){j:Nat}{t:TypeId}{d:DataW H}(ht:ts[j]? =some t)(hd:ds[j]? =some d):aw0 Tryz.prog t d:=fun n hn=>by
 have:=eV.1 h n (DataW.weights_mem_each ht hd n hn);simpa using this
theorem aCr{t e:TypeId}{elems spare:List (DataW H)}(ht:Tryz.prog.underlying t=some (.slice e))(hb:1<=Tryz.prog.bytesOf e)(h:aw0 Tryz.prog t (.slice elems spare)):elems.length<4611686018427387904:=by
 have h1:=h _ (aGC ht);have h2:=reachBytes_lt;have ar:elems.length*1<=(elems.length+spare.length)*Tryz.prog.bytesOf e:=axg (by omega) hb;omega
theorem aCs{elems:List (DataW H)}:∀{ls:List (List V)},(∀l∈ls,∃n:Int,l=[aD n])->∃xs:List Int,ls.map sE=xs.map aD/\xs.length=ls.length
 |[],_=>⟨[],rfl,rfl⟩
 |l::ls,h=>by
  obtain⟨n,rfl⟩:=h l (by simp);obtain⟨xs,h1,h2⟩:=aCs (elems:=elems) (ls:=ls) fun m hm=>h m (by simp[hm]);exact⟨n::xs,by rw[eo,eo,h1];rfl,by simp[h2]⟩
theorem aGH:xz Tryz.prog 8 22=true:=by kernel_rfl
theorem aGI:22<Tryz.prog.types.size:=of_decide_eq_true (by kernel_rfl)
theorem aGJ{b:Nat}{v:Value}(hval:Value.okWide Tryz.prog W .any b 22 v):v.cells.toList=[v]:=by
 unfold Value.okWide at hval;rw[Tryz.underlying22]at hval;simp only[Cell.okWide,Tryz.underlying22]at hval;cases v<;>first|rfl|(simp[Cell.ok,Tryz.underlying22]at hval)
theorem aCt{b:Nat}{v:Value}(hval:Value.okWide Tryz.prog W .any b 22 v){d:DataW H}{p:List MemPlace}{held:Bool}(hd:DataW.Trod enc Tryz.prog W 0 (fun _=>true) held 22 v d p)(hn:aw0 Tryz.prog 22 d):∃s:ak Int,cm s.l/\fz W (tb W).I (bg 1 aD s) v:=by
 obtain⟨k5,h,h2⟩:=aKr laidOut aGI aGH (aGJ hval) hd;rcases ao7 Tryz.underlying22 h with⟨rfl,ad⟩|⟨elems,spare,ls,rfl,ad,hl,hr⟩
 ·cases ad
  exact⟨.nil,by unfold cm;decide,h2⟩
 ·cases ad
  have hlen:=aCr Tryz.underlying22 (of_decide_eq_true (by kernel_rfl)) hn;rw[show Tryz.prog.cellsOf 3=1 by kernel_rfl]at h2
  obtain⟨xs,ar,aQ⟩:=aCs (elems:=elems) (ls:=ls) fun l JX=>by
   obtain⟨i,hi⟩:=T7 JX;have qU:i<ls.length:=(pY.1 hi).1;obtain⟨n,-,rfl,-⟩:=la Tryz.underlying3 (hr i _ l (hX (by omega)) hi);exact⟨n,rfl⟩
  refine⟨.mk xs,by show xs.length<_;omega,?_⟩;rw[ar]at h2;exact h2
theorem aCu:∀{ls:List (List V)},(∀l∈ls,∃x:Change,l=aE (tq x))->∃xs:List Change,ls.map sE=xs.map tq/\xs.length=ls.length
 |[],_=>⟨[],rfl,rfl⟩
 |l::ls,h=>by
  obtain⟨x,rfl⟩:=h l (by simp);obtain⟨xs,h1,h2⟩:=aCu (ls:=ls) fun m hm=>h m (by simp[hm]);exact⟨x::xs,by rw[eo,eo,h1];rfl,by simp[h2]⟩
theorem aGK:xz Tryz.prog 12 38=true:=by kernel_rfl
theorem aGL:38<Tryz.prog.types.size:=of_decide_eq_true (by kernel_rfl)
theorem aGM{b:Nat}{v:Value}(hval:Value.okWide Tryz.prog W .any b 38 v):v.cells.toList=[v]:=by
 unfold Value.okWide at hval;rw[Tryz.underlying38]at hval;simp only[Cell.okWide,Tryz.underlying38]at hval;cases v<;>first|rfl|(simp[Cell.ok,Tryz.underlying38]at hval)
theorem aGN{b:Nat}{v:Value}(hval:Value.okWide Tryz.prog W .any b 38 v){d:DataW H}{p:List MemPlace}{held:Bool}(hd:DataW.Trod enc Tryz.prog W 0 (fun _=>true) held 38 v d p)(hn:aw0 Tryz.prog 38 d):∃s:ak Change,cm s.l/\fz W (tb W).I (bg 2 tq s) v:=by
 obtain⟨k5,h,h2⟩:=aKr laidOut aGL aGK (aGM hval) hd;rcases ao7 Tryz.underlying38 h with⟨rfl,ad⟩|⟨elems,spare,ls,rfl,ad,hl,hr⟩
 ·cases ad
  exact⟨.nil,by unfold cm;decide,h2⟩
 ·cases ad
  have hlen:=aCr Tryz.underlying38 (of_decide_eq_true (by kernel_rfl)) hn;rw[show Tryz.prog.cellsOf 62=2 by kernel_rfl]at h2
  obtain⟨xs,ar,aQ⟩:=aCu (ls:=ls) fun l JX=>by
   obtain⟨i,hi⟩:=T7 JX;have qU:i<ls.length:=(pY.1 hi).1;exact apt (hr i _ l (hX (by omega)) hi)
  refine⟨.mk xs,by show xs.length<_;omega,?_⟩;rw[ar]at h2;exact h2
end
end Go.Abs.hk
namespace Go.Proofs.YtoimeckpnnkbpaaGreatDoor.states
open Go Go.Abs Go.Abs.hk Go.Proofs Go.ChangeShapes Go.WideShapes Go.ChangeAt Go.RowKit
set_option maxRecDepth 100000
theorem apJ{H:Type}{enc:TypeId × Value->H}{f:Func}{s:ChangeSpec}{apart fresh handsOn again:Bool}{W W':World}{args:Array Value}{ds gs:List (DataW H)}{before:List MemPlace}{G':bX}{H':Heap}
  (hW:DataW.Whole enc Tryz.prog f.params.toList s.vars apart W args.toList ds gs before) (ad:s.vars=[]) (hT:∀t∈f.params.toList,t<Tryz.prog.types.size) (hr:f.resultTypes= #[4])
  (im:(s.fn H (ds++gs)).results=[.lit (.bool true)]) (apK:gs=[]->(s.fn H (ds++gs)).args=ds) (zj:(s.fn H (ds++gs)).vars=[])
  (U:aZ (C fun b=>W.heap[b]?) id G' H' W') (ho:W'.os=W.os) (hp:W'.output=W.output):s.post enc Tryz.prog f apart fresh handsOn again W args (.bool true) W':=by
 have aX:=hW.lt;have hold:∀p∈before,(fun b=>decide (b<W.heap.size)) p.block=true:=fun p hp=>by simpa using aX p hp
 have apL:=hW;obtain⟨pa,q,hA,hV,uu,aT,hn⟩:=hW;rw[ad]at hV;obtain⟨xZ,rfl⟩:=trodVars_none hV;rw[rz]at uu;subst uu
 have wF:∀sp:Nat->Bool,(∀p∈before,sp p.block=true)->DataW.TrodAll enc Tryz.prog W' 0 sp true f.params.toList args.toList (s.fn H (ds++gs)).args before:=fun sp lu=>by
  rw[apK xZ];exact Z2 kids (fun h hu=>apf h hu) hT hA (fun q bc=>apg U (aX q bc)) lu
 have Z6:∀sp:Nat->Bool,DataW.TrodVars enc Tryz.prog W' sp s.vars (s.fn H (ds++gs)).vars []:=fun sp=>by rw[ad,zj];rfl
 have s9:∀(b:Nat) (sp:Nat->Bool) (hd:Bool),DataW.TrodAll enc Tryz.prog W' b sp hd f.resultTypes.toList ((Value.bool true).resultList f.resultTypes.size) (s.fn H (ds++gs)).results []:=fun b sp hd=>by
  rw[hr,im];exact trodAll_cons_mk (shut_bool Tryz.underlying4 _) trodAll_mk0
 refine⟨ds,gs,before,[],before,[],apL,s9 _ _ _,wF _ hold,Z6 _,apa U ho hp _,fun _=> ?_⟩;refine⟨ok_one hr rfl (okWide_bool_mk Tryz.underlying4 _),_,_,([]++before)++[],⟨[]++before,[],trodAll_append (wF _ (fun _ _=>rfl)) (s9 _ _ _),Z6 _,rfl,?_,?_⟩,?_⟩
 ·intro b off oU
  have hm:MemPlace.cell b off∈before:=by simpa using oU
  rw[aph U (aX _ hm)];exact aT b off hm
 ·intro ao
  simpa using hn ao
 ·intro p oU _
  simpa using oU
theorem apM{W:World}(h:laidMetH Tryz.prog Rows.stateValidRow.laid W):Lib.TabIs Tryz.prog W "strings.asciiSpace" .u8 Lib.asciiSpaceTab:=by
 have ab:(Rows.stateValidRow.laid.filter fun x=>x.2.handleName?.isSome)=[]:=by kernel_rfl
 unfold laidMetH at h;rw[ab]at h
 have hm:("strings.asciiSpace",Lib.tabData .u8 Lib.asciiSpaceTab)∈Rows.stateValidRow.laid:=by
  have e:Rows.stateValidRow.laid[7]? =some ("strings.asciiSpace",Lib.tabData .u8 Lib.asciiSpaceTab):=by kernel_rfl
  exact hz e
 exact Z0 (g:=1) (t:=440) (e:=5) (n:=256) (by kernel_rfl) (by kernel_rfl) (by kernel_rfl) (by kernel_rfl) (by kernel_rfl) (by kernel_rfl) h hm
theorem apN{W:World}(h:laidMetH Tryz.prog Rows.stateValidRow.laid W):Lib.TabIs Tryz.prog W "internal/strconv.uint64pow10" .u64 Lib.pow10Tab:=by
 have ab:(Rows.stateValidRow.laid.filter fun x=>x.2.handleName?.isSome)=[]:=by kernel_rfl
 unfold laidMetH at h;rw[ab]at h
 have hm:("internal/strconv.uint64pow10",Lib.tabData .u64 Lib.pow10Tab)∈Rows.stateValidRow.laid:=by
  have e:Rows.stateValidRow.laid[2]? =some ("internal/strconv.uint64pow10",Lib.tabData .u64 Lib.pow10Tab):=by kernel_rfl
  exact hz e
 exact Z0 (g:=0) (t:=426) (e:=370) (n:=20) (by kernel_rfl) (by kernel_rfl) (by kernel_rfl) (by kernel_rfl) (by kernel_rfl) (by kernel_rfl) h hm
theorem walk{W:World}{aa:Nat->Option bY}(bx:dU (C fun b=>W.heap[b]?) id (H3 fun b=>W.heap[b]?)/\dU (A fun b=>W.heap[b]?) id (gf fun b=>W.heap[b]?)->dU (C fun b=>W.heap[b]?) id aa)(df:laidMetH Tryz.prog Rows.stateValidRow.laid W){i:Nat}{f:h3}(hi:aa i=some (.code f)){vs:List V}{xs:List Value}(cS:c7 W (tb W).I vs xs)
  (he:bZ aa (.fn i [] []) vs []=some (.bool true,[],0)):
  Calls Tryz.prog i ⟨xs⟩ W fun e W'=>e=.returned (.bool true)/\∃G' H',aZ (C fun b=>W.heap[b]?) id G' H' W'/\W'.os=W.os/\W'.output=W.output:=by
 obtain⟨n,hn⟩:=um.1 he;have hT:dU (C fun b=>W.heap[b]?) id aa:=bx ⟨aGw (fun G H w U=>Z1 U (apN df)) (fun G H w U=>Z1 U (apM df)),aov (fun G H w U=>Z1 U (apN df)) (fun G H w U=>Z1 U (apM df))⟩;have h:=Tv (C:=C fun b=>W.heap[b]?) (fid:=id) (Checked.mixed Tryz.checked) tg hT hi hn (ao8 W) (c7.oP cS);refine Ci h fun e W' hp=> ?_;obtain⟨x,rfl,G',h1,h2,ar⟩:=hp;rw[ar.kz];have du:=h2 0 (aK _);exact⟨rfl,G',_,h1,du.os,du.output⟩
end Go.Proofs.YtoimeckpnnkbpaaGreatDoor.states
namespace Go.Proofs.YtoimeckpnnkbpaaGreatDoor
open Go Go.Abs Go.Abs.hk Go.Proofs
set_option maxRecDepth 100000
def zK:DataW Unit->List Value
 | .agg xs=>xs.map fun x=>match x with
   | .lit (.int k n)=>.int k n
   | _=>.tuple #[]
 | _=>[]
def apO:DataW Unit->List Value
 | .agg xs=>xs.flatMap zK
 | _=>[]
def Z7:DataW Unit->Value
 | .iface _ (.ptr (.agg [.lit (.string s)]))=>.string ⟨⟨s⟩⟩
 | _=>.tuple #[]
def rowsOf:DataW Unit->List Value
 | .ptr (.agg (.slice xs _::_))=>xs.flatMap zK
 | _=>[]
def more:Array Obj:= #[.cells #[Z7 Rows.laid_strconv_ErrRange] 513 (0,0),.cells #[Z7 Rows.laid_strconv_ErrSyntax] 513 (0,0),
 .cells #[.slice (some ⟨19,0,none⟩) 7 7,.slice none 0 0,.int .i64 2] 517 (0,0),.cells (rowsOf Rows.laid_unicode_White_Space).toArray 520 (0,0)]
def vV (cs:Array Value):Obj->Obj
 | .cells _ t f=>.cells cs t f
 |o=>o
noncomputable def J0 (os:Os):World:=
 {World.holding Tryz.prog os ⟨more,#[],[]⟩with heap:=(((((((((World.holding Tryz.prog os ⟨more,#[],[]⟩).heap.modify 1 (vV (zK Rows.laid_strings_asciiSpace).toArray)).modify 0 (vV (zK Rows.laid_internal_strconv_uint64pow10).toArray)).modify 4 (vV #[.pointer (some ⟨18,0,none⟩)])).modify 3 (vV #[.iface 511 (.pointer (some ⟨16,0,none⟩))])).modify 2 (vV #[.iface 511 (.pointer (some ⟨17,0,none⟩))])).modify 6 (vV (zK Rows.laid_math_bits_deBruijn32tab).toArray)).modify 7 (vV (zK Rows.laid_math_bits_deBruijn64tab).toArray)).modify 8 (vV (zK Rows.laid_unicode_utf8_first).toArray)).modify 9 (vV (apO Rows.laid_unicode_utf8_acceptRanges).toArray)}
theorem own:ownKnob Tryz.prog.godebug=none:=by kernel_rfl
end Go.Proofs.YtoimeckpnnkbpaaGreatDoor
namespace Go.Abs.Qu
theorem HK:∀(n:Nat) (l:List Nat),l.Nodup->(∀x∈l,x<n)->l.length<=n
 |0,l,_,h=>by
  cases l with
  |nil=>simp
  |cons x r=>exact absurd (h x (by simp)) (by omega)
 |n+1,l,hn,h=>by
  by_cases hm:n∈l
  ·have h1:=HK n (l.erase n) (hn.erase n) fun x hx=>by
    have dW:=hn.mem_erase_iff.1 hx;have:=h x dW.2;have:=dW.1;omega
   rw[List.length_erase_of_mem hm]at h1;omega
  ·have:=HK n l hn fun x hx=>by
    have:=h x hx;have:x≠n:=fun e=>hm (e ▸ hx);omega
   omega
section
variable (jJ:Nat->Nat->Bool)(size:Nat)
def Ih (l:List Nat):Bool:=jJ (l.getLastD 0) (l.headD 0)
def Bk (l:List Nat):List (List Nat):=
 ((List.range' (l.headD 0+1) (size-(l.headD 0+1))).filter fun v=>jJ (l.getLastD 0) v&&!l.contains v).map fun v=>l++[v]
def Qy:Nat->List (List Nat)->Option (List Nat)
 |0,_=>none
 |k+1,ps=>match ps.find? (Ih jJ)with
  |some l=>some l
  |none=>if ps=[]then none else Qy k (ps.flatMap (Bk jJ size))
def start:List (List Nat):=(List.range size).map fun a=>[a]
def au2:Option (List Nat):=Qy jJ size (size+1) (start size)
structure Path (l:List Nat):Prop where
 ne:l≠[]
 nodup:l.Nodup
 lt:∀x∈l,x<size
 least:∀x∈l,l.headD 0<=x
 along:∀i,i+1<l.length->jJ (l.getD i 0) (l.getD (i+1) 0)=true
variable{jJ size}
theorem Path.len{l:List Nat}(h:Path jJ size l):l.length<=size:=HK size l h.nodup h.lt
theorem aGO{l:List Nat}(h:l≠[])(v:Nat):(l++[v]).headD 0=l.headD 0:=by
 cases l with
 |nil=>exact absurd rfl h
 |cons x r=>rfl
theorem axw{l:List Nat}(h:l≠[]):l.getLastD 0=l.getD (l.length-1) 0:=by
 cases l with
 |nil=>exact absurd rfl h
 |cons x r=>
  rw[List.getLastD_eq_getLast?,List.getLast?_eq_getElem?,tY]
theorem Path.next{l l':List Nat}(h:Path jJ size l)(hl:l'∈Bk jJ size l):Path jJ size l'/\l'.length=l.length+1:=by
 unfold Bk at hl;obtain⟨v,ad,rfl⟩:=ey.1 hl;rw[List.mem_filter,List.mem_range'_1,b8,nV]at ad;obtain⟨⟨h1,h2⟩,ar,aQ⟩:=ad
 have aGP:v∉l:=fun q=>by
  rw[ua.2 q]at aQ;cases aQ
 refine⟨⟨by simp,?_,fun x hx=> ?_,fun x hx=> ?_,fun i hi=> ?_⟩,by simp⟩
 ·refine FM.2 ⟨h.nodup,by simp,fun x hx y hy=> ?_⟩
  simp only[dA,sP,or_false]at hy;subst hy;exact fun q=>aGP (q ▸ hx)
 ·rcases jA.1 hx with q|q
  ·exact h.lt x q
  ·simp only[dA,sP,or_false]at q
   subst q;omega
 ·rw[aGO h.ne]
  rcases jA.1 hx with q|q
  ·exact h.least x q
  ·simp only[dA,sP,or_false]at q
   subst q;omega
 ·simp only[gM,ev,ja]at hi
  have lV:0<l.length:=by
   cases l with
   |nil=>exact absurd rfl h.ne
   |cons=>simp
  rw[tY,tY,gE (by omega)];by_cases hc:i+1<l.length
  ·rw[gE hc]
   have:=h.along i hc;rw[tY,tY]at this;exact this
  ·have e:i+1=l.length:=by omega
   rw[e,sJ (aK _),Nat.sub_self];rw[axw h.ne,tY]at ar;have e2:i=l.length-1:=by omega
   rw[e2];exact ar
def au3 (jJ:Nat->Nat->Bool)(size k:Nat)(ps:List (List Nat)):Prop:=∀l∈ps,Path jJ size l/\l.length=k
theorem axx:au3 jJ size 1 (start size):=fun l hl=>by
 obtain⟨a,ao,rfl⟩:=ey.1 hl;have gv:=Ks.1 ao;refine⟨⟨by simp,by simp,fun x hx=> ?_,fun x hx=> ?_,fun i hi=> ?_⟩,rfl⟩
 ·have:x=a:=by simpa using hx
  omega
 ·have:x=a:=by simpa using hx
  subst this;exact aK _
 ·simp at hi
theorem aCv{k:Nat}{ps:List (List Nat)}(h:au3 jJ size k ps):au3 jJ size (k+1) (ps.flatMap (Bk jJ size)):=fun l' hl=>by
 obtain⟨l,h1,h2⟩:=Cd.1 hl;obtain⟨p,e⟩:=h l h1;obtain⟨CK,e'⟩:=p.next h2
 exact⟨CK,by omega⟩
theorem axy{k:Nat}{ps:List (List Nat)}(h:au3 jJ size k ps)(cW:size<k):ps=[]:=by
 cases ps with
 |nil=>rfl
 |cons l r=>
  obtain⟨p,e⟩:=h l (by simp);have:=p.len;omega
end
end Go.Abs.Qu
