/- Texts of this claim, joined and written short by a program. -/
import Derived.Test.YtgkcikhegodchaaGreatDoorS28
import Derived.Test.YtgkcikhegodchaaGreatDoorS24
import Derived.Test.YtgkcikhegodchaaGreatDoorS32
import Derived.Test.YtgkcikhegodchaaGreatDoorS01
import Derived.ChangeBears
import Derived.ChangeSlices
import Derived.SizedLaws
import Derived.Test.YtgkcikhegodchaaGreatDoorCards
import Derived.WalkKit
import Derived.ProofKit
import Derived.OpenShut
import Derived.ChangeStays
import Derived.Deep.DeepHandedRow
import Derived.Deep.DeepLaidRun
import Derived.Lib.LaidTab
import Derived.Deep.DeepWitnessRowRef
import Derived.Test.YtgkcikhegodchaaGreatDoorS00
set_option linter.unusedVariables false
set_option linter.unusedSimpArgs false
set_option linter.unusedSectionVars false
namespace Go.Abs.bs
open Go Go.Abs Go.Abs.hq
theorem c6:gj bt where
 gZ:=fun t x B ρ fs=>match t,x with
  |0,x=>.int
  |1,x=>(.ach (aci (i:=0) rfl))
  |2,x=>.str
  |3,x=>.int
  |4,x=>.agg (.cons .int (.cons .int (.cons .int .nil)))
  |5,x=>.sl
  |6,x=>.sl
  |7,x=>.agg (.cons .int (.cons .int .nil))
  |8,x=>.agg (.cons .str (.cons .int (.cons .sl (.cons .int (.cons .int (.cons .int .nil))))))
  |9,x=>.sl
  |10,x=>.sl
  |11,x=>.sl
  |12,x=>.sl
  |13,x=>.agg (.cons .int (.cons .int .nil))
  |14,x=>.sl
  |15,x=>.agg (.cons .sl (.cons .int .nil))
  |16,x=>.agg (.cons .int (.cons .int (.cons .sl (.cons .int (.cons .int (.cons .int .nil))))))
  |17,x=>.sl
  |18,x=>.agg (.cons .str (.cons (.ach (aci (i:=0) rfl)) (.cons .sl .nil)))
  |19,x=>.sl
  |20,x=>.agg (.cons .int (.cons .int .nil))
  |21,x=>.sl
  |22,x=>.sl
  |23,x=>.agg (.cons .int (.cons .int (.cons .int .nil)))
  |24,x=>.sl
  |25,x=>.agg (.cons .sl (.cons .sl (.cons .sl .nil)))
  |26,x=>.agg (.cons .int (.cons .sl (.cons .sl (.cons .sl (.cons .sl .nil)))))
  |27,x=>.sl
  |28,x=>.agg (.cons .sl (.cons .sl (.cons .sl (.cons .sl (.cons .sl (.cons .sl (.cons .sl .nil)))))))
  |29,x=>.agg (.cons .sl (.cons .sl (.cons .sl (.cons .sl (.cons .sl (.cons .sl (.cons .sl (.cons .sl .nil))))))))
  |30,x=>.agg (.cons .int (.cons .int (.cons .int (.cons .int .nil))))
  |31,x=>.sl
  |32,x=>.sl
  |33,x=>.sl
  | _+34,_=>.k
 iJ:=fun t v B ρ fs w x af h=>match t,x,h with
  |0,x,h=>iK (J:=bt) (k:=.i64) (n:=x) (v:=v) h af
  |1,x,h=>acj (J:=bt) (B:=B) (c:=x) (v:=v) h af
  |2,x,h=>Rl (J:=bt) (s:=x) (v:=v) h af
  |3,x,h=>iK (J:=bt) (k:=.u8) (n:=x) (v:=v) h af
  |4,x,h=>by
   obtain⟨vs,ws,rfl,hr,h⟩:=qs (J:=bt) h af;split at h
   ·obtain⟨_,_,rfl,gT,hr⟩:=bu.inv hr;obtain⟨_,_,rfl,q1,hr⟩:=bu.inv hr;obtain⟨_,_,rfl,q2,hr⟩:=bu.inv hr;cases bu.qq hr
    obtain⟨cZ,h0,h⟩:=dW.1 h;obtain⟨b0,h1,h⟩:=dW.1 h;obtain⟨dy,h2,h⟩:=dW.1 h;cases h;rw[iK h0 gT,iK h1 q1,iK h2 q2];rfl
   ·cases h
  |5,x,h=>fA (J:=bt) (t:=4) h af
  |6,x,h=>fA (J:=bt) (t:=0) h af
  |7,x,h=>by
   obtain⟨vs,ws,rfl,hr,h⟩:=qs (J:=bt) h af;split at h
   ·obtain⟨_,_,rfl,gT,hr⟩:=bu.inv hr;obtain⟨_,_,rfl,q1,hr⟩:=bu.inv hr;cases bu.qq hr
    obtain⟨cZ,h0,h⟩:=dW.1 h;obtain⟨b0,h1,h⟩:=dW.1 h;cases h;rw[iK h0 gT,iK h1 q1];rfl
   ·cases h
  |8,x,h=>by
   obtain⟨vs,ws,rfl,hr,h⟩:=qs (J:=bt) h af;split at h
   ·obtain⟨_,_,rfl,gT,hr⟩:=bu.inv hr;obtain⟨_,_,rfl,q1,hr⟩:=bu.inv hr;obtain⟨_,_,rfl,q2,hr⟩:=bu.inv hr;obtain⟨_,_,rfl,cd,hr⟩:=bu.inv hr;obtain⟨_,_,rfl,c2,hr⟩:=bu.inv hr;obtain⟨_,_,rfl,fi,hr⟩:=bu.inv hr;cases bu.qq hr
    obtain⟨cZ,h0,h⟩:=dW.1 h;obtain⟨b0,h1,h⟩:=dW.1 h;obtain⟨dy,h2,h⟩:=dW.1 h;obtain⟨gA,ar,h⟩:=dW.1 h;obtain⟨lh,aR,h⟩:=dW.1 h;obtain⟨fZ,h5,h⟩:=dW.1 h;cases h;rw[Rl h0 gT,iK h1 q1,fA (J:=bt) (t:=0) h2 q2,iK ar cd,iK aR c2,iK h5 fi];rfl
   ·cases h
  |9,x,h=>fA (J:=bt) (t:=1) h af
  |10,x,h=>fA (J:=bt) (t:=8) h af
  |11,x,h=>fA (J:=bt) (t:=2) h af
  |12,x,h=>fA (J:=bt) (t:=7) h af
  |13,x,h=>by
   obtain⟨vs,ws,rfl,hr,h⟩:=qs (J:=bt) h af;split at h
   ·obtain⟨_,_,rfl,gT,hr⟩:=bu.inv hr;obtain⟨_,_,rfl,q1,hr⟩:=bu.inv hr;cases bu.qq hr
    obtain⟨cZ,h0,h⟩:=dW.1 h;obtain⟨b0,h1,h⟩:=dW.1 h;cases h;rw[iK h0 gT,iK h1 q1];rfl
   ·cases h
  |14,x,h=>fA (J:=bt) (t:=13) h af
  |15,x,h=>by
   obtain⟨vs,ws,rfl,hr,h⟩:=qs (J:=bt) h af;split at h
   ·obtain⟨_,_,rfl,gT,hr⟩:=bu.inv hr;obtain⟨_,_,rfl,q1,hr⟩:=bu.inv hr;cases bu.qq hr
    obtain⟨cZ,h0,h⟩:=dW.1 h;obtain⟨b0,h1,h⟩:=dW.1 h;cases h;rw[fA (J:=bt) (t:=13) h0 gT,iK h1 q1];rfl
   ·cases h
  |16,x,h=>by
   obtain⟨vs,ws,rfl,hr,h⟩:=qs (J:=bt) h af;split at h
   ·obtain⟨_,_,rfl,gT,hr⟩:=bu.inv hr;obtain⟨_,_,rfl,q1,hr⟩:=bu.inv hr;obtain⟨_,_,rfl,q2,hr⟩:=bu.inv hr;obtain⟨_,_,rfl,cd,hr⟩:=bu.inv hr;obtain⟨_,_,rfl,c2,hr⟩:=bu.inv hr;obtain⟨_,_,rfl,fi,hr⟩:=bu.inv hr;cases bu.qq hr
    obtain⟨cZ,h0,h⟩:=dW.1 h;obtain⟨b0,h1,h⟩:=dW.1 h;obtain⟨dy,h2,h⟩:=dW.1 h;obtain⟨gA,ar,h⟩:=dW.1 h;obtain⟨lh,aR,h⟩:=dW.1 h;obtain⟨fZ,h5,h⟩:=dW.1 h;cases h;rw[iK h0 gT,iK h1 q1,fA (J:=bt) (t:=13) h2 q2,iK ar cd,iK aR c2,iK h5 fi];rfl
   ·cases h
  |17,x,h=>fA (J:=bt) (t:=16) h af
  |18,x,h=>by
   obtain⟨vs,ws,rfl,hr,h⟩:=qs (J:=bt) h af;split at h
   ·obtain⟨_,_,rfl,gT,hr⟩:=bu.inv hr;obtain⟨_,_,rfl,q1,hr⟩:=bu.inv hr;obtain⟨_,_,rfl,q2,hr⟩:=bu.inv hr;cases bu.qq hr
    obtain⟨cZ,h0,h⟩:=dW.1 h;obtain⟨b0,h1,h⟩:=dW.1 h;obtain⟨dy,h2,h⟩:=dW.1 h;cases h;rw[Rl h0 gT,acj h1 q1,fA (J:=bt) (t:=0) h2 q2];rfl
   ·cases h
  |19,x,h=>fA (J:=bt) (t:=18) h af
  |20,x,h=>by
   obtain⟨vs,ws,rfl,hr,h⟩:=qs (J:=bt) h af;split at h
   ·obtain⟨_,_,rfl,gT,hr⟩:=bu.inv hr;obtain⟨_,_,rfl,q1,hr⟩:=bu.inv hr;cases bu.qq hr
    obtain⟨cZ,h0,h⟩:=dW.1 h;obtain⟨b0,h1,h⟩:=dW.1 h;cases h;rw[iK h0 gT,iK h1 q1];rfl
   ·cases h
  |21,x,h=>fA (J:=bt) (t:=20) h af
  |22,x,h=>fA (J:=bt) (t:=15) h af
  |23,x,h=>by
   obtain⟨vs,ws,rfl,hr,h⟩:=qs (J:=bt) h af;split at h
   ·obtain⟨_,_,rfl,gT,hr⟩:=bu.inv hr;obtain⟨_,_,rfl,q1,hr⟩:=bu.inv hr;obtain⟨_,_,rfl,q2,hr⟩:=bu.inv hr;cases bu.qq hr
    obtain⟨cZ,h0,h⟩:=dW.1 h;obtain⟨b0,h1,h⟩:=dW.1 h;obtain⟨dy,h2,h⟩:=dW.1 h;cases h;rw[iK h0 gT,iK h1 q1,iK h2 q2];rfl
   ·cases h
  |24,x,h=>fA (J:=bt) (t:=23) h af
  |25,x,h=>by
   obtain⟨vs,ws,rfl,hr,h⟩:=qs (J:=bt) h af;split at h
   ·obtain⟨_,_,rfl,gT,hr⟩:=bu.inv hr;obtain⟨_,_,rfl,q1,hr⟩:=bu.inv hr;obtain⟨_,_,rfl,q2,hr⟩:=bu.inv hr;cases bu.qq hr
    obtain⟨cZ,h0,h⟩:=dW.1 h;obtain⟨b0,h1,h⟩:=dW.1 h;obtain⟨dy,h2,h⟩:=dW.1 h;cases h;rw[fA (J:=bt) (t:=20) h0 gT,fA (J:=bt) (t:=15) h1 q1,fA (J:=bt) (t:=23) h2 q2];rfl
   ·cases h
  |26,x,h=>by
   obtain⟨vs,ws,rfl,hr,h⟩:=qs (J:=bt) h af;split at h
   ·obtain⟨_,_,rfl,gT,hr⟩:=bu.inv hr;obtain⟨_,_,rfl,q1,hr⟩:=bu.inv hr;obtain⟨_,_,rfl,q2,hr⟩:=bu.inv hr;obtain⟨_,_,rfl,cd,hr⟩:=bu.inv hr;obtain⟨_,_,rfl,c2,hr⟩:=bu.inv hr;cases bu.qq hr
    obtain⟨cZ,h0,h⟩:=dW.1 h;obtain⟨b0,h1,h⟩:=dW.1 h;obtain⟨dy,h2,h⟩:=dW.1 h;obtain⟨gA,ar,h⟩:=dW.1 h;obtain⟨lh,aR,h⟩:=dW.1 h;cases h;rw[iK h0 gT,fA (J:=bt) (t:=0) h1 q1,fA (J:=bt) (t:=20) h2 q2,fA (J:=bt) (t:=15) ar cd,fA (J:=bt) (t:=23) aR c2];rfl
   ·cases h
  |27,x,h=>fA (J:=bt) (t:=26) h af
  |28,x,h=>by
   obtain⟨vs,ws,rfl,hr,h⟩:=qs (J:=bt) h af;split at h
   ·obtain⟨_,_,rfl,gT,hr⟩:=bu.inv hr;obtain⟨_,_,rfl,q1,hr⟩:=bu.inv hr;obtain⟨_,_,rfl,q2,hr⟩:=bu.inv hr;obtain⟨_,_,rfl,cd,hr⟩:=bu.inv hr;obtain⟨_,_,rfl,c2,hr⟩:=bu.inv hr;obtain⟨_,_,rfl,fi,hr⟩:=bu.inv hr;obtain⟨_,_,rfl,hU,hr⟩:=bu.inv hr;cases bu.qq hr
    obtain⟨cZ,h0,h⟩:=dW.1 h;obtain⟨b0,h1,h⟩:=dW.1 h;obtain⟨dy,h2,h⟩:=dW.1 h;obtain⟨gA,ar,h⟩:=dW.1 h;obtain⟨lh,aR,h⟩:=dW.1 h;obtain⟨fZ,h5,h⟩:=dW.1 h;obtain⟨pB,eo,h⟩:=dW.1 h;cases h;rw[fA (J:=bt) (t:=0) h0 gT,fA (J:=bt) (t:=8) h1 q1,fA (J:=bt) (t:=2) h2 q2,fA (J:=bt) (t:=16) ar cd,fA (J:=bt) (t:=18) aR c2,fA (J:=bt) (t:=26) h5 fi,fA (J:=bt) (t:=4) eo hU];rfl
   ·cases h
  |29,x,h=>by
   obtain⟨vs,ws,rfl,hr,h⟩:=qs (J:=bt) h af;split at h
   ·obtain⟨_,_,rfl,gT,hr⟩:=bu.inv hr;obtain⟨_,_,rfl,q1,hr⟩:=bu.inv hr;obtain⟨_,_,rfl,q2,hr⟩:=bu.inv hr;obtain⟨_,_,rfl,cd,hr⟩:=bu.inv hr;obtain⟨_,_,rfl,c2,hr⟩:=bu.inv hr;obtain⟨_,_,rfl,fi,hr⟩:=bu.inv hr;obtain⟨_,_,rfl,hU,hr⟩:=bu.inv hr;obtain⟨_,_,rfl,nU,hr⟩:=bu.inv hr;cases bu.qq hr
    obtain⟨cZ,h0,h⟩:=dW.1 h;obtain⟨b0,h1,h⟩:=dW.1 h;obtain⟨dy,h2,h⟩:=dW.1 h;obtain⟨gA,ar,h⟩:=dW.1 h;obtain⟨lh,aR,h⟩:=dW.1 h;obtain⟨fZ,h5,h⟩:=dW.1 h;obtain⟨pB,eo,h⟩:=dW.1 h;obtain⟨uC,lC,h⟩:=dW.1 h;cases h;rw[fA (J:=bt) (t:=0) h0 gT,fA (J:=bt) (t:=8) h1 q1,fA (J:=bt) (t:=2) h2 q2,fA (J:=bt) (t:=16) ar cd,fA (J:=bt) (t:=18) aR c2,fA (J:=bt) (t:=26) h5 fi,fA (J:=bt) (t:=4) eo hU,fA (J:=bt) (t:=7) lC nU];rfl
   ·cases h
  |30,x,h=>by
   obtain⟨vs,ws,rfl,hr,h⟩:=qs (J:=bt) h af;split at h
   ·obtain⟨_,_,rfl,gT,hr⟩:=bu.inv hr;obtain⟨_,_,rfl,q1,hr⟩:=bu.inv hr;obtain⟨_,_,rfl,q2,hr⟩:=bu.inv hr;obtain⟨_,_,rfl,cd,hr⟩:=bu.inv hr;cases bu.qq hr
    obtain⟨cZ,h0,h⟩:=dW.1 h;obtain⟨b0,h1,h⟩:=dW.1 h;obtain⟨dy,h2,h⟩:=dW.1 h;obtain⟨gA,ar,h⟩:=dW.1 h;cases h;rw[iK h0 gT,iK h1 q1,iK h2 q2,iK ar cd];rfl
   ·cases h
  |31,x,h=>fA (J:=bt) (t:=30) h af
  |32,x,h=>fA (J:=bt) (t:=6) h af
  |33,x,h=>fA (J:=bt) (t:=21) h af
  | _+34,_,h=>by cases h
 bx:=fun t x=>match t,x with
  |0,x=>rfl
  |1,x=>rfl
  |2,x=>rfl
  |3,x=>rfl
  |4,x=>amN x
  |5,x=>n4 _ _ _
  |6,x=>n4 _ _ _
  |7,x=>amP x
  |8,x=>amR x
  |9,x=>n4 _ _ _
  |10,x=>n4 _ _ _
  |11,x=>n4 _ _ _
  |12,x=>n4 _ _ _
  |13,x=>amT x
  |14,x=>n4 _ _ _
  |15,x=>amV x
  |16,x=>amX x
  |17,x=>n4 _ _ _
  |18,x=>amZ x
  |19,x=>n4 _ _ _
  |20,x=>am1 x
  |21,x=>n4 _ _ _
  |22,x=>n4 _ _ _
  |23,x=>am3 x
  |24,x=>n4 _ _ _
  |25,x=>am5 x
  |26,x=>am7 x
  |27,x=>n4 _ _ _
  |28,x=>am9 x
  |29,x=>anb x
  |30,x=>ane x
  |31,x=>n4 _ _ _
  |32,x=>n4 _ _ _
  |33,x=>n4 _ _ _
  | _+34,_=>rfl
 ok:=fun t x=>match t,x with
  |0,x=>rfl
  |1,x=>rfl
  |2,x=>rfl
  |3,x=>rfl
  |4,x=>amO x
  |5,x=>oV _ _ _
  |6,x=>oV _ _ _
  |7,x=>amQ x
  |8,x=>amS x
  |9,x=>oV _ _ _
  |10,x=>oV _ _ _
  |11,x=>oV _ _ _
  |12,x=>oV _ _ _
  |13,x=>amU x
  |14,x=>oV _ _ _
  |15,x=>amW x
  |16,x=>amY x
  |17,x=>oV _ _ _
  |18,x=>am0 x
  |19,x=>oV _ _ _
  |20,x=>am2 x
  |21,x=>oV _ _ _
  |22,x=>oV _ _ _
  |23,x=>am4 x
  |24,x=>oV _ _ _
  |25,x=>am6 x
  |26,x=>am8 x
  |27,x=>oV _ _ _
  |28,x=>ana x
  |29,x=>anc x
  |30,x=>anf x
  |31,x=>oV _ _ _
  |32,x=>oV _ _ _
  |33,x=>oV _ _ _
  | _+34,_=>rfl
 es:=fun t x=>match t,x with
  |0,x=>rfl
  |1,x=>rfl
  |2,x=>rfl
  |3,x=>rfl
  |4,x=>rfl
  |5,x=>oW _ _ _
  |6,x=>oW _ _ _
  |7,x=>rfl
  |8,x=>rfl
  |9,x=>oW _ _ _
  |10,x=>oW _ _ _
  |11,x=>oW _ _ _
  |12,x=>oW _ _ _
  |13,x=>rfl
  |14,x=>oW _ _ _
  |15,x=>rfl
  |16,x=>rfl
  |17,x=>oW _ _ _
  |18,x=>rfl
  |19,x=>oW _ _ _
  |20,x=>rfl
  |21,x=>oW _ _ _
  |22,x=>oW _ _ _
  |23,x=>rfl
  |24,x=>oW _ _ _
  |25,x=>rfl
  |26,x=>rfl
  |27,x=>oW _ _ _
  |28,x=>rfl
  |29,x=>rfl
  |30,x=>rfl
  |31,x=>oW _ _ _
  |32,x=>oW _ _ _
  |33,x=>oW _ _ _
  | _+34,_=>rfl
 aY:=fun t x=>match t,x with
  |0,x=>fun h=>rfl
  |1,x=>fun h=>rfl
  |2,x=>fun h=>rfl
  |3,x=>fun h=>rfl
  |4,x=>fun h=>by cases h
  |5,x=>fun h=>by cases h
  |6,x=>fun h=>by cases h
  |7,x=>fun h=>by cases h
  |8,x=>fun h=>by cases h
  |9,x=>fun h=>by cases h
  |10,x=>fun h=>by cases h
  |11,x=>fun h=>by cases h
  |12,x=>fun h=>by cases h
  |13,x=>fun h=>by cases h
  |14,x=>fun h=>by cases h
  |15,x=>fun h=>by cases h
  |16,x=>fun h=>by cases h
  |17,x=>fun h=>by cases h
  |18,x=>fun h=>by cases h
  |19,x=>fun h=>by cases h
  |20,x=>fun h=>by cases h
  |21,x=>fun h=>by cases h
  |22,x=>fun h=>by cases h
  |23,x=>fun h=>by cases h
  |24,x=>fun h=>by cases h
  |25,x=>fun h=>by cases h
  |26,x=>fun h=>by cases h
  |27,x=>fun h=>by cases h
  |28,x=>fun h=>by cases h
  |29,x=>fun h=>by cases h
  |30,x=>fun h=>by cases h
  |31,x=>fun h=>by cases h
  |32,x=>fun h=>by cases h
  |33,x=>fun h=>by cases h
  | _+34,_=>fun h=>by cases h
 aa3:=fun t n h=>by
  have h:Qx t=some n:=h;unfold Qx at h;split at h<;>cases h
  ·exact Fb
  ·exact amv
end Go.Abs.bs
set_option maxRecDepth 100000
namespace Go.Abs.bs
open Go Go.Abs Go.Abs.Lex Go.Proofs
variable{g:Nat->Option Obj}
theorem Sm{A:Type}{es:Nat}{f:A->V}(ae:∀a b,f a=f b->a=b){x y:ad A}(h:bb es f x=bb es f y):x=y:=by
 cases x<;>cases y<;>simp only[bb,reduceCtorEq,V.list.injEq,true_and]at h<;>try rfl
 rename_i l m;congr 1
 induction l generalizing m with
 |nil=>cases m<;>simp_all
 |cons a l ih=>
  cases m with
  |nil=>simp at h
  |cons b m=>
   simp only[de,xa]at h;rw[ae _ _ h.1,ih m h.2]
theorem au4 (a b:Int)(h:aI a=aI b):a=b:=by cases h;rfl
theorem au5 (a b:Table)(h:lJ a=lJ b):a=b:=by
 obtain⟨al,a2,a3,⟨a4,a5⟩,Hm⟩:=a;obtain⟨b1,ff,iZ,⟨kz,vg⟩,adQ⟩:=b;simp only[lJ,V.agg.injEq,xa,V.str.injEq,V.int.injEq,true_and,and_true]at h;obtain⟨rfl,rfl,ar,rfl,rfl,rfl⟩:=h;rw[Sm au4 ar]
theorem au6 (a b:gi)(h:jn a=jn b):a=b:=by
 obtain⟨al,a2,a3⟩:=a;obtain⟨b1,ff,iZ⟩:=b;simp only[jn,V.agg.injEq,xa,V.int.injEq,true_and,and_true]at h;obtain⟨rfl,rfl,rfl⟩:=h;rfl
def A6 (j:dR):Bool:=Fk j.Model.Tables.l j.Model.b9.l
theorem au7{a b:dR}(h:V.agg (j9 a)=V.agg (j9 b)):A6 a=A6 b:=by
 simp only[j9,V.agg.injEq,xa]at h;unfold A6;rw[Sm au5 h.2.1,Sm au6 h.2.2.2.2.2.2.1]
noncomputable section
open Go.Abs.hq
def oC:List (cq bt):=[]
theorem Sn:cG (nX g) oC:=fun _ h=>by cases h
def adW:List (cq bt):=⟨82,[],[.v 0,.v 0],[1],fun c a=>nn a.1 a.2.1⟩::oC
theorem adX:cG (nX g) adW:=c9 c6 Sn [] (.two .o (.pu [4] .o)) (by kernel_rfl) fun c a=>by kernel_rfl
def adY:List (cq bt):=⟨164,[],[.v 5,.f [4] 1],[0],fun c a=>aaC a.1 a.2.1⟩::adW
theorem au8:cG (nX g) adY:=c9 c6 adX [] (.two .o (.two (.two .o (.eE [(.s 8,.p 0)] [(.exit 0,[]),(.ret,[(.s 4,.p 0)])] .o)) .o)) (by kernel_rfl) fun c a=>by kernel_rfl
def au9:List (cq bt):=⟨91,[],[.v 5,.f [4] 1],[1],fun c a=>Fl a.1 a.2.1⟩::adY
theorem ava:cG (nX g) au9:=c9 c6 au8 [] .o (by kernel_rfl) fun c a=>by kernel_rfl
end
open Classical in
noncomputable def Dq:List V->Option V:=fun args=>if h:∃j,args=[.agg (j9 j)]then some (.bool (A6 h.choose))else none
theorem avb (j:dR):Dq [.agg (j9 j)]=some (.bool (A6 j)):=by
 have h:∃vx,[V.agg (j9 j)]=[.agg (j9 vx)]:=⟨j,rfl⟩;unfold Dq;rw[dif_pos h];exact congrArg (fun b=>some (V.bool b)) (au7 (eO h.choose_spec).1).symm
def Sp:Code->Code| .block _ c=>c|c=>c
def avc:Code->Code| .loop c=>c|c=>c
noncomputable def Sq:Code:=Tryz.f41.body.getD .skip
noncomputable def qu:Nat->Code
 |0=>Sq
 |n+1=>e7 (qu n)
noncomputable def yo:Code:=avc (Sp (e7 (hY (qu 5))))
noncomputable def avd:Code:=.seq (hY Sq) (.seq (hY (qu 1)) (.seq (hY (qu 2)) (.seq (hY (qu 3)) (.seq (hY (qu 4)) (.seq (.seq (hY (hY (qu 5))) (.block 4 (.loop (.seq (hY yo) (.seq (hY (e7 yo)) (.seq (.block 5 (Sp (hY (e7 (e7 yo))))) (e7 (e7 (e7 yo))))))))) (e7 (qu 5)))))))
theorem adZ:Tryz.f41.body=some avd:=by kernel_rfl
theorem ave (h:du (C g) id (nX g)):iS (C g) id 41 Dq:=by
 intro G H w args v xs U eC lU;unfold Dq at lU;split at lU
 case isFalse=>cases lU
 rename_i hj;have ad0:=hj.choose_spec;generalize hj.choose=j at ad0 lU;clear hj;subst ad0;cases lU;rw[Cc (C:=C g) Tryz.func41 adZ (by kernel_rfl)];have oI:AM (nX g):=aqA ava.hd;have RZ:Le (nX g):=aqz adX.hd
 have OY:=as9 (C:=C g) (fid:=id) (vars:=Ctx.varsOf Tryz.f41) (N:=Tryz.f41.ntmps) (aa:=nX g) (p1:=hY Sq) (p2:=hY (qu 1)) (p3:=hY (qu 2)) (kj:=hY (qu 3)) (rf:=hY (qu 4)) (x9:=hY (hY (qu 5))) (C7:=e7 (qu 5)) (hd:=hY yo) (qj:=hY (e7 yo)) (sz:=Sp (hY (e7 (e7 yo)))) (inc:=e7 (e7 (e7 yo)))
  mixed E7 (acD mixed E7 h) (by kernel_rfl) (by kernel_rfl) (by kernel_rfl) (by kernel_rfl) (by kernel_rfl) (by kernel_rfl) (by kernel_rfl) (by kernel_rfl) (by kernel_rfl) (by kernel_rfl) (by kernel_rfl) (by kernel_rfl) (by kernel_rfl) oI RZ j
 have hc:=OX (C:=C g) (H:=[]) (H':=[]) (pr:=[.tmp 2]) (fresh:=false) (v:=.bool (A6 j)) (low':=0) E7 Tryz.func41 adZ (by kernel_rfl) (args:=[.agg (j9 j)]) (of_decide_eq_true (by kernel_rfl)) (OY.mono fun x s hx=>by
  obtain⟨rfl,h2⟩:=hx;refine⟨.inr rfl,[.bool (A6 j)],?_,?_⟩
  ·simp only[gH,ke,h2];rfl
  ·simp[iB,finish,fN,dQ,bx,old]) U.apart (c8.ov eC)
 exact xd hc fun e w'=>fun⟨x,ab,aj⟩=>⟨x,ab,aj.beside U (by simp[bx])⟩
end Go.Abs.bs
namespace Go.Abs
open Go Go.ChangeShapes
def rv:List V->V
 |[x]=>x
 |vs=>.agg vs
theorem avf{x:V}(h:ez x=true):aE x=[x]:=by cases x<;>simp_all [ez,aE]
theorem ad1{l:List V}(h:bM l=true):aE (rv l)=l:=by
 match l,h with
 |[],_=>rfl
 |[x],h=>simp only[bM,Bk]at h;exact avf h
 | _::_::_,_=>rfl
inductive fk {H:Type} (P:Program):TypeId->DataW H->List V->Prop
 |bool (t:TypeId) (b:Bool) (ht:P.underlying t=some .bool):fk P t (.lit (.bool b)) [.bool b]
 |int (t:TypeId) (k:IntKind) (n:Int) (ht:P.underlying t=some (.int k)) (hw:(Lit.int k n).wf=true):fk P t (.lit (.int k n)) [.int k n]
 |str (t:TypeId) (s:List UInt8) (ht:P.underlying t=some .string):fk P t (.lit (.string s)) [.str s]
 |nil (t e:TypeId) (ht:P.underlying t=some (.slice e)):fk P t .nil [.bX]
 |slice (t e:TypeId) (elems spare:List (DataW H)) (ls:List (List V)) (ht:P.underlying t=some (.slice e)) (hl:ls.length=elems.length)
  (h:∀(i:Nat) d l,elems[i]? =some d->ls[i]? =some l->fk P e d l):fk P t (.slice elems spare) [.list (P.cellsOf e) (ls.map rv)]
 |struct (t:TypeId) (fs:Array Field) (parts:List (DataW H)) (ls:List (List V)) (ht:P.underlying t=some (.struct fs)) (hp:parts.length=fs.size) (hl:ls.length=fs.size)
  (h:∀(i:Nat) (f:Field) d l,fs[i]? =some f->parts[i]? =some d->ls[i]? =some l->fk P f.type d l):fk P t (.agg parts) ls.flatten
def tQ (P:Program):Nat->TypeId->Bool
 |0,_=>false
 |n+1,t=>match P.underlying t with
  |some .bool|some (.int _)|some .string=>P.cellsOf t==1
  |some (.slice e)=>P.cellsOf t==1&&decide (0<P.cellsOf e)&&tQ P n e
  |some (.struct fs)=>fs.toList.all fun f=>tQ P n f.type
  | _=>false
theorem Sr{w:World}{I:Nat->Prop}:∀{vs:List V} {xs:List Value} {us:List V} {cB:List Value},c8 w I vs xs->c8 w I us cB->c8 w I (vs++us) (xs++cB)
 | _,_,_,_,.nil,h=>h
 | _,_,_,_,.cons v x vs xs h hs,k=>.cons v x _ _ h (Sr hs k)
theorem avg{a b:List V}:bM (a++b)=(bM a&&bM b):=by
 induction a with
 |nil=>simp[bM]
 |cons x a ih=>simp[bM,ih,yF]
theorem ad2{α:Type}{p:Nat->α->Prop}:∀n,(∀i,i<n->∃a,p i a)->∃l:List α,l.length=n/\∀i a,l[i]? =some a->p i a
 |0,_=>⟨[],rfl,fun i a h=>by simp at h⟩
 |n+1,h=>by
  obtain⟨l,hl,hp⟩:=ad2 n (fun i hi=>h i (by omega));obtain⟨a,ha⟩:=h n (by omega);refine⟨l++[a],by simp[hl],fun i b hb=> ?_⟩;rcases fV i n with hi|hi
  ·rw[fB (by omega)]at hb;exact hp i b hb
  ·rw[u0 (by omega)]at hb
   have:i-l.length=0:=by
    rcases S2 (i-l.length)with h0|h0
    ·exact h0
    ·rw[nA (by simp;omega)]at hb;cases hb
   rw[this]at hb;cases hb;have:i=n:=by omega
   rw[this];exact ha
theorem Hs{α:Type}{c:Nat}:∀{ls:List (List α)} {j:Nat} {x:α},(∀l∈ls,l.length=c)->ls.flatten[j]? =some x->∃i r l,ls[i]? =some l/\l[r]? =some x/\j=i*c+r/\r<c
 |[],j,x,_,h=>by simp at h
 |l::ls,j,x,hc,h=>by
  have hl:=hc l (by simp);rw[HO]at h;rcases fV j c with hj|hj
  ·rw[fB (by omega)]at h
   exact⟨0,j,l,rfl,h,by omega,hj⟩
  ·rw[u0 (by omega)]at h
   obtain⟨i,r,fc,h1,h2,ar,aR⟩:=Hs (fun m hm=>hc m (by simp[hm])) h;exact⟨i+1,r,fc,by simpa using h1,h2,by rw[u4];omega,aR⟩
section
variable{H:Type}{enc:TypeId × Value->H}{P:Program}{W:World}{held:Bool}
def yp (W:World):Nat->Prop:=fun b=>b<W.heap.size
def Reads (P:Program)(W:World)(t:TypeId)(cs:List Value)(d:DataW H):Prop:=
 ∃vs,fk P t d vs/\c8 W (yp W) vs cs/\bM vs=true/\vs.length=P.cellsOf t/\cs.length=P.cellsOf t
theorem ad3{a:Addr}{v:Value}(h:W.cell? a=some v):a.spot=none/\a.block<W.heap.size:=by
 unfold World.cell? at h;split at h
 ·rename_i c e f fY
  split at h
  ·cases h
  ·rename_i hs
   refine⟨by simpa using hs,?_⟩;rcases fV a.block W.heap.size with q|q
   ·exact q
   ·rw[Be q]at fY;cases fY
 ·cases h
theorem ad4 (n:Nat)(ad5:∀fuel t cs (x:DataW H × List MemPlace),t<P.types.size->tQ P n t=true->DataW.trod enc P W 0 (fun _=>true) held fuel t cs=some x->Reads P W t cs x.1)(m:Nat)(cs:List Value):
  ∀(aY:List Field) (xs:List (DataW H × List MemPlace)) (off:Nat),(∀(j:Nat) (f:Field),aY[j]? =some f->f.offset=off+((aY.take j).map fun f=>P.cellsOf f.type).sum)->xs.length=aY.length->(∀f∈aY,f.type<P.types.size/\tQ P n f.type=true)->
   (∀(i:Nat) (f:Field),aY[i]? =some f->DataW.trod enc P W 0 (fun _=>true) held m f.type ((cs.drop f.offset).take (P.cellsOf f.type))=xs[i]?)->
   ∃ls:List (List V),ls.length=aY.length/\(∀(i:Nat) (f:Field) (y:DataW H × List MemPlace) (l:List V),aY[i]? =some f->xs[i]? =some y->ls[i]? =some l->fk P f.type y.1 l)/\c8 W (yp W) ls.flatten ((cs.drop off).take (aY.map fun f=>P.cellsOf f.type).sum)/\bM ls.flatten=true/\
    ls.flatten.length=(aY.map fun f=>P.cellsOf f.type).sum
 |[],xs,off,_,hl,_,_=>⟨[],rfl,fun i f y l h=>by simp at h,by simp;exact .nil,rfl,rfl⟩
 |f::aY,xs,off,ad6,hl,ae,hx=>by
  match xs,hl with
  |y::xs,hl=>
   have h0:=hx 0 f rfl;have ho:=ad6 0 f rfl;simp only[List.take_zero,iO,List.sum_nil,yH]at ho;rw[ho]at h0;simp only[nz]at h0;obtain⟨vs,bB,b4,eI,gM,jj⟩:=ad5 m f.type _ y (ae f (by simp)).1 (ae f (by simp)).2 h0
   obtain⟨ls,q1,q2,cd,c2,fi⟩:=ad4 n ad5 m cs aY xs (off+P.cellsOf f.type) (fun j g a6=>by
     have:=ad6 (j+1) g (by simpa using a6);simp only[SZ,de,List.sum_cons]at this;omega) (by simpa using hl) (fun g a6=>ae g (by simp[a6])) (fun i g a6=>by simpa using hx (i+1) g (by simpa using a6))
   refine⟨vs::ls,by simp[q1],fun i g z l a6 aO jZ=> ?_,?_,?_,?_⟩
   ·cases i with
    |zero=>
     simp only[nz,aA]at a6 aO jZ;subst a6;subst aO;subst jZ;exact bB
    |succ i=>
     simp only[yy]at a6 aO jZ;exact q2 i g z l a6 aO jZ
   ·rw[HO,de,List.sum_cons,List.take_add,tY]
    exact Sr b4 cd
   ·rw[HO,avg,eI,c2];rfl
   ·rw[HO,fD,gM,fi,de,List.sum_cons]
theorem reads (iQ:laidOutB P=true):∀(n fuel:Nat) (t:TypeId) (cs:List Value) (x:DataW H × List MemPlace),t<P.types.size->tQ P n t=true->DataW.trod enc P W 0 (fun _=>true) held fuel t cs=some x->Reads P W t cs x.1
 |0,_,_,_,_,_,ae,_=>by simp[tQ]at ae
 |n+1,fuel,t,cs,x,Dr,ae,h=>by
  unfold tQ at ae;split at ae
  ·rename_i ht
   have hc:P.cellsOf t=1:=by simpa using ae
   obtain⟨b,rfl,hx⟩:∃b,cs=[.bool b]/\x=(.lit (.bool b),[]):=by
    cases fuel with
    |zero=>simp[DataW.trod]at h
    |succ m=>
     unfold DataW.trod at h;rw[ht]at h;split at h<;>simp_all
   subst hx;exact⟨_,.bool t _ ht,.cons _ _ _ _ (.bool _) .nil,rfl,by rw[hc];rfl,by rw[hc];rfl⟩
  ·rename_i k ht
   have hc:P.cellsOf t=1:=by simpa using ae
   obtain⟨m,rfl,rfl,hw⟩:=DataW.trod_int ht h;exact⟨_,.int t k m ht hw,.cons _ _ _ _ (.int k m) .nil,rfl,by rw[hc];rfl,by rw[hc];rfl⟩
  ·rename_i ht
   have hc:P.cellsOf t=1:=by simpa using ae
   obtain⟨s,rfl,rfl,hw⟩:=DataW.trod_string ht h;obtain⟨⟨s⟩⟩:=s;exact⟨_,.str t _ ht,.cons _ _ _ _ (.str s) .nil,rfl,by rw[hc];rfl,by rw[hc];rfl⟩
  ·rename_i e ht
   simp only[cn,beq_iff_eq,decide_eq_true_eq]at ae;obtain⟨⟨hc,qZ⟩,ji⟩:=ae;have eM:=kid_slice iQ Dr ht;rcases DataW.trod_slice ht h with⟨rfl,rfl⟩|⟨a,len,cap,elems,rest,m,-,rfl,rfl,-,nO,-,hlen,x6,-,-⟩
   ·exact⟨_,.nil t e ht,.cons _ _ _ _ .bX .nil,rfl,by rw[hc];rfl,by rw[hc];rfl⟩
   ·have each:∀i,i<len->∃q:List Value × List V,(∃y,elems[i]? =some y/\W.cells? 0 (a.add (i*P.cellsOf e)) (P.cellsOf e)=some q.1/\fk P e y.1 q.2/\c8 W (yp W) q.2 q.1/\bM q.2=true/\q.2.length=P.cellsOf e/\q.1.length=P.cellsOf e):=fun i hi=>by
     have hb:=x6 i hi;obtain⟨y,hy⟩:∃y,elems[i]? =some y:=⟨_,gq (by omega)⟩;rw[hy,dW]at hb;obtain⟨cs',h1,h2⟩:=hb;obtain⟨vs,bB,b4,eI,gM,jj⟩:=reads iQ n m e cs' y eM ji h2;exact⟨(cs',vs),y,hy,h1,bB,b4,eI,gM,jj⟩
    obtain⟨lM,ad7,bg⟩:=ad2 len each;have eQ:∀q∈lM,∃i,lM[i]? =some q:=fun q h=>DE h;refine⟨[.list (P.cellsOf e) ((lM.map (·.2)).map rv)],.slice t e (elems.map (·.1)) (rest.map (·.1)) (lM.map (·.2)) ht (by simp[ad7,hlen]) (fun i d l hd hl=> ?_),?_,rfl,by rw[hc];rfl,by rw[hc];rfl⟩
    ·rw[h8]at hd hl
     cases A7:lM[i]? with
     |none=>rw[A7]at hl;cases hl
     |some q=>
      obtain⟨y,hy,-,h2,-⟩:=bg i q A7;rw[A7]at hl;rw[hy]at hd;cases hd;cases hl;exact h2
    ·refine .cons _ _ _ _ ?_ .nil
     cases s5:len with
     |zero=>
      have:lM=[]:=List.eq_nil_of_length_eq_zero (by omega);subst this;exact .ve _ a cap
     |succ aBh=>
      obtain⟨gT,Sn⟩:∃q,lM[0]? =some q:=⟨_,gq (by omega)⟩;obtain⟨aqh,-,hc0,-,-,-,-,oB⟩:=bg 0 gT Sn;have Ss:=(World.cells?_some hc0).2.2 0 qZ;obtain⟨v0,vu⟩:∃v,gT.1[0]? =some v:=⟨_,gq (by omega)⟩;rw[vu]at Ss;obtain⟨hP,a7,avh⟩:=a
      have lU:avh=none:=by
       have:=(ad3 Ss).1;simpa[Addr.add]using this
      subst lU
      have gX:hP<W.heap.size:=by
       have:=(ad3 Ss).2;rwa [block_add,block_add]at this
      have yq:((lM.map (·.2)).map rv).length=len:=by simp[ad7]
      have key:fG W (yp W) (.list (P.cellsOf e) ((lM.map (·.2)).map rv)) (.slice (some ⟨hP,a7,none⟩) ((lM.map (·.2)).map rv).length cap):=by
       refine .list _ _ hP a7 cap (lM.map (·.1)).flatten gX (fun j x hj=> ?_) (fun d hd=> ?_) ?_ (by rw[yq];exact nO)
       ·obtain⟨i,r,l,h1,h2,rfl,aR⟩:=Hs (c:=P.cellsOf e) (fun l hl=>by
         obtain⟨q,Ht,rfl⟩:=dX.1 hl;obtain⟨i,hi⟩:=eQ q Ht;obtain⟨y,-,-,-,-,-,-,h⟩:=bg i q hi;exact h) hj
        rw[h8]at h1;cases A7:lM[i]? with
        |none=>rw[A7]at h1;cases h1
        |some q=>
         rw[A7]at h1;cases h1;obtain⟨y,-,fq,-⟩:=bg i q A7;have:=(World.cells?_some fq).2.2 r aR;rw[h2]at this
         have ab:((⟨hP,a7,none⟩:Addr).add (i*P.cellsOf e)).add r=⟨hP,a7+(i*P.cellsOf e+r),none⟩:=by
          simp only[Addr.add];split<;>split<;>simp_all<;>omega
         rw[ab]at this;exact this
       ·obtain⟨l,hl,rfl⟩:=dX.1 hd
        obtain⟨q,Ht,rfl⟩:=dX.1 hl;obtain⟨i,hi⟩:=eQ q Ht;obtain⟨y,-,-,-,-,h5,eo,-⟩:=bg i q hi;rw[ad1 h5];exact eo
       ·have eP:∀q∈lM,c8 W (yp W) q.2 q.1/\bM q.2=true:=fun q Ht=>by
         obtain⟨i,hi⟩:=eQ q Ht;obtain⟨y,-,-,-,aR,h5,-⟩:=bg i q hi;exact⟨aR,h5⟩
        have:∀lM:List (List Value × List V),(∀q∈lM,c8 W (yp W) q.2 q.1/\bM q.2=true)->c8 W (yp W) (((lM.map (·.2)).map rv).flatMap aE) (lM.map (·.1)).flatten:=by
         intro lM
         induction lM with
         |nil=>intro _;exact .nil
         |cons q lM ih=>
          intro h;have h0:=h q (by simp);simp only[de,kd,HO];rw[ad1 h0.2];exact Sr h0.1 (ih fun p hp=>h p (by simp[hp]))
        exact this lM eP
      rw[yq,s5]at key;exact key
  ·rename_i fs ht
   obtain⟨b6,dI,kf⟩:=kid_struct iQ Dr ht;obtain⟨xs,m,-,rfl,fe,ly,hx⟩:=DataW.trod_struct ht h;rw[eU]at ae;obtain⟨ls,q1,q2,cd,c2,fi⟩:=ad4 n (fun fuel t cs x a b c=>reads iQ n fuel t cs x a b c) m cs fs.toList xs 0 (fun j f hj=>by rw[kf j f hj];omega) (by simpa using ly) (fun f ad8=>⟨b6 f ad8,ae f ad8⟩) (fun i f hi=>hx i f (by simpa using hi));refine⟨ls.flatten,.struct t fs (xs.map (·.1)) ls ht (by simpa using ly) (by simpa using q1) (fun i f d l s3 hd hl=> ?_),?_,c2,by rw[fi,dI],fe⟩
   ·rw[h8]at hd
    cases wW:xs[i]? with
    |none=>rw[wW]at hd;cases hd
    |some y=>
     rw[wW]at hd;cases hd;exact q2 i f y l (by simpa using s3) wW hl
   ·rw[HT,HE (by rw[fe,dI];exact aF _)]at cd
    exact cd
  ·cases ae
theorem lq{t:TypeId}{k:IntKind}{d:DataW H}{vs:List V}(ht:P.underlying t=some (.int k))(h:fk P t d vs):∃n,d=.lit (.int k n)/\vs=[.int k n]/\(Lit.int k n).wf=true:=by
 cases h<;>rename_i ed<;>rw[ht]at* <;>try (first|(cases ed;done)|contradiction)
 ·rename_i hw;cases ed;exact⟨_,rfl,rfl,hw⟩
theorem St{t:TypeId}{d:DataW H}{vs:List V}(ht:P.underlying t=some .string)(h:fk P t d vs):∃s,d=.lit (.string s)/\vs=[.str s]:=by
 cases h with
 |str _ s ed=>exact⟨s,rfl,rfl⟩
 |bool _ _ ed|int _ _ _ ed _|nil _ _ ed|slice _ _ _ _ _ ed _ _|struct _ _ _ _ ed _ _ _=>rw[ht]at ed;cases ed
theorem avi{t:TypeId}{d:DataW H}{vs:List V}(ht:P.underlying t=some .bool)(h:fk P t d vs):∃b,d=.lit (.bool b)/\vs=[.bool b]:=by
 cases h with
 |bool _ b ed=>exact⟨b,rfl,rfl⟩
 |str _ _ ed|int _ _ _ ed _|nil _ _ ed|slice _ _ _ _ _ ed _ _|struct _ _ _ _ ed _ _ _=>rw[ht]at ed;cases ed
theorem Su{t e:TypeId}{d:DataW H}{vs:List V}(ht:P.underlying t=some (.slice e))(h:fk P t d vs):
  (d=.nil/\vs=[.bX])\/∃(elems spare:List (DataW H)) (ls:List (List V)),d=.slice elems spare/\vs=[.list (P.cellsOf e) (ls.map rv)]/\ls.length=elems.length/\∀(i:Nat) d l,elems[i]? =some d->ls[i]? =some l->fk P e d l:=by
 cases h with
 |nil _ _ ed=>exact .inl ⟨rfl,rfl⟩
 |slice _ e' elems spare ls ed hl h=>rw[ht]at ed;cases ed;exact .inr ⟨elems,spare,ls,rfl,rfl,hl,h⟩
 |bool _ _ ed|str _ _ ed|int _ _ _ ed _|struct _ _ _ _ ed _ _ _=>rw[ht]at ed;cases ed
theorem sB{t:TypeId}{fs:Array Field}{d:DataW H}{vs:List V}(ht:P.underlying t=some (.struct fs))(h:fk P t d vs):
  ∃(parts:List (DataW H)) (ls:List (List V)),d=.agg parts/\vs=ls.flatten/\parts.length=fs.size/\ls.length=fs.size/\∀(i:Nat) (f:Field) d l,fs[i]? =some f->parts[i]? =some d->ls[i]? =some l->fk P f.type d l:=by
 cases h with
 |struct _ aBi parts ls ed hp hl h=>rw[ht]at ed;cases ed;exact⟨parts,ls,rfl,rfl,hp,hl,h⟩
 |bool _ _ ed|str _ _ ed|int _ _ _ ed _|nil _ _ ed|slice _ _ _ _ _ ed _ _=>rw[ht]at ed;cases ed
theorem avj{t e:TypeId}{elems spare:List (DataW H)}(ht:P.underlying t=some (.slice e)):(elems.length+spare.length)*P.bytesOf e∈(DataW.slice elems spare).weights P t:=by simp[DataW.weights,ht]
theorem ad9 (iQ:laidOutB P=true){n:Nat}{t:TypeId}{v:Value}{d:DataW H}{ps:List MemPlace}(Dr:t<P.types.size)(ae:tQ P n t=true)(kA:v.cells.toList=[v])
  (hd:DataW.Trod enc P W 0 (fun _=>true) held t v d ps):∃gZ,fk P t d [gZ]/\fG W (yp W) gZ v:=by
 obtain⟨fuel,hd⟩:=hd;obtain⟨vs,bB,b4,eI,gM,jj⟩:=reads iQ n fuel t _ _ Dr ae hd;rw[kA]at b4;cases b4 with
 |cons gZ x vs xs h hs=>cases hs;exact⟨gZ,bB,h⟩
end
end Go.Abs
namespace Go.Abs.bs
open Go Go.Abs Go.Proofs
set_option maxRecDepth 100000
def tb (W:World):bT:=⟨fun _=>none,fun b=>b<W.heap.size⟩
theorem avk (W:World):aX (C fun b=>W.heap[b]?) id (tb W) [] W where
 obj l h e:=by cases e
 inj l fc h h' e:=by cases e
 blk l h e:=by cases e
 c0 b hb:=⟨hb,fun l h e=>by cases e⟩
 ky l h e:=by cases e
 e2 b o h:=⟨by
  rcases fV b W.heap.size with q|q
  ·exact q
  ·simp[C,Be q]at h,h⟩
theorem Hu{W w':World}{G':bT}{H':Heap}(U:aX (C fun b=>W.heap[b]?) id G' H' w'){b:Nat}(hb:b<W.heap.size):w'.heap[b]? =W.heap[b]? :=by
 have h:W.heap[b]? =some W.heap[b]:=by simp[hb]
 rw[(U.e2 b _ h).2,h]
theorem avl{W w':World}{G':bT}{H':Heap}(U:aX (C fun b=>W.heap[b]?) id G' H' w'){b off:Nat}(hb:b<W.heap.size):w'.cell? ⟨b,off,none⟩=W.cell? ⟨b,off,none⟩:=by
 unfold World.cell?; rw[Hu U hb]
theorem avm{W w':World}{G':bT}{H':Heap}(U:aX (C fun b=>W.heap[b]?) id G' H' w')(ho:w'.os=W.os)(hp:w'.output=W.output)(may:MemPlace->Prop):W.keptBut w' may:=by
 refine⟨ho,hp,fun i hi=> ?_⟩;rw[Hu U hi];cases h:W.heap[i]? with
 |none=>simp
 |some o=>cases o<;>simp
theorem aea{P:Program}{w:World}{n:String}{d:DataW Unit}:∀{l:List (String × DataW Unit)} {ps:List MemPlace},DataW.LaidVars P w l ps->(n,d)∈l->
  ∃g t cs fuel p,P.globalNamed n=some g/\(P.globals[g]?).map (·.type)=some t/\w.var? P n=some cs/\DataW.trod (fun _=>()) P w 0 (fun _=>true) false fuel t cs.toList=some (d,p)
 |[],_,_,h=>by cases h
 |(m,e)::r,ps,h,hm=>by
  obtain⟨g,t,cs,fuel,p,q,h1,h2,ar,aR,h5,-⟩:=h;rcases dp.1 hm with hm|hm
  ·cases hm;exact⟨g,t,cs,fuel,p,h1,h2,ar,aR⟩
  ·exact aea h5 hm
theorem aeb{P:Program}{W:World}{name:String}{k:IntKind}{c1:List Int}{l:List (String × DataW Unit)}{g:Nat}{t e:TypeId}{n:Nat}
  (a6:P.globalNamed name=some g) (Ck:(P.globals[g]?).map (·.type)=some t) (ht:P.underlying t=some (.array n e)) (he:P.underlying e=some (.int k)) (qZ:P.cellsOf e=1) (adI:P.cellsOf t=n)
  (h:laidMet P l W) (hm:(name,Lib.tabData k c1)∈l):Lib.TabIs P W name k c1:=by
 obtain⟨ps,af,-⟩:=h;obtain⟨w3,ej,cs,fuel,p,I5,ed,avn,hd⟩:=aea af hm;obtain rfl:=u3 (a6.symm.trans I5);obtain rfl:=u3 (Ck.symm.trans ed);unfold Lib.TabIs;rw[avn,<-Lib.cells_of_tab ht he qZ adI hd]
theorem LS{W w':World}{G':bT}{H':Heap}(U:aX (C fun b=>W.heap[b]?) id G' H' w'){name:String}{k:IntKind}{c1:List Int}(h:Lib.TabIs Tryz.prog W name k c1):Lib.TabIs Tryz.prog w' name k c1:=by
 unfold Lib.TabIs World.var? at h⊢;cases a6:Tryz.prog.globalNamed name with
 |none=>rw[a6]at h;cases h
 |some g=>
  rw[a6]at h;simp only[bm]at h⊢
  have hb:g<W.heap.size:=by
   rcases fV g W.heap.size with q|q
   ·exact q
   ·rw[Be q]at h;cases h
  rw[Hu U hb];exact h
section
variable{W:World}{H:Type}{enc:TypeId × Value->H}
theorem aec{w':World}{T:TypeId->Prop}(K:Kids Tryz.prog T)(dk:∀{t e:TypeId},T t->Tryz.prog.underlying t=some (.slice e)->0<Tryz.prog.cellsOf e){aed:Nat->Bool}:
  ∀{ts:List TypeId} {vs:List Value} {ds:List (DataW H)} {p:List MemPlace},(∀t∈ts,T t)->DataW.TrodAll enc Tryz.prog W 0 (fun _=>true) true ts vs ds p->(∀q∈p,W.sameAt w' q)->(∀q∈p,aed q.block=true)->
   DataW.TrodAll enc Tryz.prog w' 0 aed true ts vs ds p
 |[],vs,ds,p,_,h,_,_=>by
  obtain⟨rfl,rfl,rfl⟩:=ChangeShapes.trodAll_nil h;rfl
 |t::ts,vs,ds,p,hT,h,hs,hp=>by
  obtain⟨v,vs',d,ds',a,b,rfl,rfl,rfl,⟨fuel,h1⟩,h2⟩:=ChangeShapes.trodAll_cons h;refine⟨a,b,⟨fuel,DataW.trod_stays K dk (fun h=>by cases h) (hT t (by simp)) h1 (fun q bg=>hs q (by simp[bg])) (fun q bg=>hp q (by simp[bg]))⟩,aec K dk (fun u hu=>hT u (by simp[hu])) h2 (fun q bg=>hs q (by simp[bg])) (fun q bg=>hp q (by simp[bg])),rfl⟩
end
set_option maxRecDepth 100000 in
theorem laidOut:laidOutB Tryz.prog=true:=by kernel_rfl
theorem avo:mapsRowed Tryz.prog=true:=by kernel_rfl
theorem kids:Kids Tryz.prog (· <Tryz.prog.types.size):=kids_rows laidOut avo
theorem avp:((List.range Tryz.prog.types.size).all fun t=>match Tryz.prog.underlying t with|some (.slice e)=>decide (0<Tryz.prog.cellsOf e)| _=>true)=true:=by kernel_rfl
theorem avq{t e:TypeId}(h:t<Tryz.prog.types.size)(hu:Tryz.prog.underlying t=some (.slice e)):0<Tryz.prog.cellsOf e:=by
 have:=eU.1 avp t (Bj.2 h);rw[hu]at this;simpa using this
theorem avr{W w':World}{G':bT}{H':Heap}(U:aX (C fun b=>W.heap[b]?) id G' H' w'){q:MemPlace}(hb:q.block<W.heap.size):W.sameAt w' q:=by
 cases q with
 |cell b off=>exact avl U hb
 |map b=>exact Hu U hb
theorem avs{W w':World}{G':bT}{H':Heap}(U:aX (C fun b=>W.heap[b]?) id G' H' w'){a:Addr}(hb:a.block<W.heap.size):w'.frozen? a=W.frozen? a:=by
 unfold World.frozen?; rw[Hu U hb]
end Go.Abs.bs
namespace Go.Abs.bs
open Go Go.Abs Go.Proofs
set_option maxRecDepth 100000
theorem tR{H A:Type}{P:Program}{t e:TypeId}{es:Nat}{f:A->V}{d:DataW H}{l:List V}(ht:P.underlying t=some (.slice e))(eM:P.cellsOf e=es)(he:∀(d:DataW H) l,fk P e d l->∃a:A,rv l=f a)(h:fk P t d l):∃s:ad A,l=[bb es f s]:=by
 rcases Su ht h with⟨-,rfl⟩|⟨elems,spare,ls,-,rfl,hl,hr⟩
 ·exact⟨.nil,rfl⟩
 ·have:∀(ls:List (List V)),(∀l∈ls,∃a:A,rv l=f a)->∃xs:List A,ls.map rv=xs.map f:=by
   intro ls
   induction ls with
   |nil=>exact fun _=>⟨[],rfl⟩
   |cons l ls ih=>
    intro h;obtain⟨a,ha⟩:=h l (by simp);obtain⟨xs,hx⟩:=ih fun l hl=>h l (by simp[hl]);exact⟨a::xs,by rw[de,de,ha,hx]⟩
  obtain⟨xs,hx⟩:=this ls fun l yq=>by
   obtain⟨i,hi⟩:=DE yq;have nd:i<ls.length:=(e0.1 hi).1;exact he _ l (hr i _ l (gq (by omega)) hi)
  exact⟨.mk xs,by rw[hx,eM];rfl⟩
theorem yr{α:Type}{l:List α}(h:l.length=2):∃a0 al,l=[a0,al]:=by
 match l,h with
 |[a0,al],_=>exact⟨a0,al,rfl⟩
theorem uX{α:Type}{l:List α}(h:l.length=3):∃a0 al a2,l=[a0,al,a2]:=by
 match l,h with
 |[a0,al,a2],_=>exact⟨a0,al,a2,rfl⟩
theorem LU{α:Type}{l:List α}(h:l.length=5):∃a0 al a2 a3 a4,l=[a0,al,a2,a3,a4]:=by
 match l,h with
 |[a0,al,a2,a3,a4],_=>exact⟨a0,al,a2,a3,a4,rfl⟩
theorem aee{α:Type}{l:List α}(h:l.length=7):∃a0 al a2 a3 a4 a5 Hm,l=[a0,al,a2,a3,a4,a5,Hm]:=by
 match l,h with
 |[a0,al,a2,a3,a4,a5,Hm],_=>exact⟨a0,al,a2,a3,a4,a5,Hm,rfl⟩
section
variable{W:World}{H:Type}{enc:TypeId × Value->H}
theorem LV{d:DataW H}{l:List V}(h:fk Tryz.prog 22 d l):∃s:ad Int,l=[bb 1 aI s]:=
 tR Tryz.underlying22 (by kernel_rfl) (fun d l h=>by obtain⟨n,-,rfl,-⟩:=lq Tryz.underlying3 h;exact⟨n,rfl⟩) h
theorem avt{d:DataW H}{l:List V}(h:fk Tryz.prog 102 d l):∃x:Range,l=aE (q3 x):=by
 obtain⟨parts,ls,-,rfl,hp,hl,hr⟩:=sB Tryz.underlying102 h;obtain⟨p0,p1,rfl⟩:=yr hp;obtain⟨qd,ch,rfl⟩:=yr hl;obtain⟨cZ,-,rfl,-⟩:=lq Tryz.underlying3 (hr 0 _ _ _ rfl rfl rfl);obtain⟨b0,-,rfl,-⟩:=lq Tryz.underlying3 (hr 1 _ _ _ rfl rfl rfl);exact⟨⟨cZ,b0⟩,rfl⟩
theorem avu{d:DataW H}{l:List V}(h:fk Tryz.prog 104 d l):∃x:Table,l=aE (lJ x):=by
 obtain⟨parts,ls,-,rfl,hp,hl,hr⟩:=sB Tryz.underlying104 h;obtain⟨p0,p1,p2,p3,kj,rfl⟩:=LU hp;obtain⟨qd,ch,kX,Lb,Ad,rfl⟩:=LU hl;obtain⟨cZ,-,rfl⟩:=St Tryz.underlying9 (hr 0 _ _ _ rfl rfl rfl);obtain⟨b0,-,rfl,-⟩:=lq Tryz.underlying3 (hr 1 _ _ _ rfl rfl rfl);obtain⟨dy,rfl⟩:=LV (hr 2 _ _ _ rfl rfl rfl);obtain⟨gA,rfl⟩:=avt (hr 3 _ _ _ rfl rfl rfl);obtain⟨lh,-,rfl,-⟩:=lq Tryz.underlying3 (hr 4 _ _ _ rfl rfl rfl);exact⟨⟨cZ,b0,dy,gA,lh⟩,rfl⟩
theorem avv{d:DataW H}{l:List V}(h:fk Tryz.prog 23 d l):∃s:ad Table,l=[bb 6 lJ s]:=
 tR Tryz.underlying23 (by kernel_rfl) (fun d l h=>by obtain⟨x,rfl⟩:=avu h;exact⟨x,rfl⟩) h
theorem avw{d:DataW H}{l:List V}(h:fk Tryz.prog 24 d l):∃s:ad cf,l=[bb 1 V.str s]:=
 tR Tryz.underlying24 (by kernel_rfl) (fun d l h=>by obtain⟨n,-,rfl⟩:=St Tryz.underlying9 h;exact⟨n,rfl⟩) h
theorem avx{d:DataW H}{l:List V}(h:fk Tryz.prog 60 d l):∃x:Term,l=aE (oN x):=by
 obtain⟨parts,ls,-,rfl,hp,hl,hr⟩:=sB Tryz.underlying60 h;obtain⟨p0,p1,rfl⟩:=yr hp;obtain⟨qd,ch,rfl⟩:=yr hl;obtain⟨cZ,-,rfl,-⟩:=lq Tryz.underlying3 (hr 0 _ _ _ rfl rfl rfl);obtain⟨b0,-,rfl,-⟩:=lq Tryz.underlying3 (hr 1 _ _ _ rfl rfl rfl);exact⟨⟨cZ,b0⟩,rfl⟩
theorem avy{d:DataW H}{l:List V}(h:fk Tryz.prog 53 d l):∃s:ad Term,l=[bb 2 oN s]:=
 tR Tryz.underlying53 (by kernel_rfl) (fun d l h=>by obtain⟨x,rfl⟩:=avx h;exact⟨x,rfl⟩) h
theorem aef{d:DataW H}{l:List V}(h:fk Tryz.prog 55 d l):∃x:Row,l=aE (ux x):=by
 obtain⟨parts,ls,-,rfl,hp,hl,hr⟩:=sB Tryz.underlying55 h;obtain⟨p0,p1,rfl⟩:=yr hp;obtain⟨qd,ch,rfl⟩:=yr hl;obtain⟨cZ,rfl⟩:=avy (hr 0 _ _ _ rfl rfl rfl);obtain⟨b0,-,rfl,-⟩:=lq Tryz.underlying3 (hr 1 _ _ _ rfl rfl rfl);exact⟨⟨cZ,b0⟩,rfl⟩
theorem avz{d:DataW H}{l:List V}(h:fk Tryz.prog 57 d l):∃x:Constraint,l=aE (sf x):=by
 obtain⟨parts,ls,-,rfl,hp,hl,hr⟩:=sB Tryz.underlying57 h;obtain⟨p0,p1,p2,p3,kj,rfl⟩:=LU hp;obtain⟨qd,ch,kX,Lb,Ad,rfl⟩:=LU hl;obtain⟨cZ,-,rfl,-⟩:=lq Tryz.underlying3 (hr 0 _ _ _ rfl rfl rfl);obtain⟨b0,-,rfl,-⟩:=lq Tryz.underlying3 (hr 1 _ _ _ rfl rfl rfl);obtain⟨dy,rfl⟩:=aef (hr 2 _ _ _ rfl rfl rfl);obtain⟨gA,-,rfl,-⟩:=lq Tryz.underlying3 (hr 3 _ _ _ rfl rfl rfl);obtain⟨lh,-,rfl,-⟩:=lq Tryz.underlying3 (hr 4 _ _ _ rfl rfl rfl);exact⟨⟨cZ,b0,dy,gA,lh⟩,rfl⟩
theorem avA{d:DataW H}{l:List V}(h:fk Tryz.prog 25 d l):∃s:ad Constraint,l=[bb 6 sf s]:=
 tR Tryz.underlying25 (by kernel_rfl) (fun d l h=>by obtain⟨x,rfl⟩:=avz h;exact⟨x,rfl⟩) h
theorem avB{d:DataW H}{l:List V}(h:fk Tryz.prog 85 d l):∃x:et,l=aE (sg x):=by
 obtain⟨parts,ls,-,rfl,hp,hl,hr⟩:=sB Tryz.underlying85 h;obtain⟨p0,p1,p2,rfl⟩:=uX hp;obtain⟨qd,ch,kX,rfl⟩:=uX hl;obtain⟨cZ,-,rfl⟩:=St Tryz.underlying9 (hr 0 _ _ _ rfl rfl rfl);obtain⟨b0,-,rfl⟩:=avi Tryz.underlying4 (hr 1 _ _ _ rfl rfl rfl);obtain⟨dy,rfl⟩:=LV (hr 2 _ _ _ rfl rfl rfl);exact⟨⟨cZ,b0,dy⟩,rfl⟩
theorem avC{d:DataW H}{l:List V}(h:fk Tryz.prog 26 d l):∃s:ad et,l=[bb 3 sg s]:=
 tR Tryz.underlying26 (by kernel_rfl) (fun d l h=>by obtain⟨x,rfl⟩:=avB h;exact⟨x,rfl⟩) h
theorem aeg{d:DataW H}{l:List V}(h:fk Tryz.prog 82 d l):∃x:Change,l=aE (nj x):=by
 obtain⟨parts,ls,-,rfl,hp,hl,hr⟩:=sB Tryz.underlying82 h;obtain⟨p0,p1,rfl⟩:=yr hp;obtain⟨qd,ch,rfl⟩:=yr hl;obtain⟨cZ,-,rfl,-⟩:=lq Tryz.underlying3 (hr 0 _ _ _ rfl rfl rfl);obtain⟨b0,-,rfl,-⟩:=lq Tryz.underlying3 (hr 1 _ _ _ rfl rfl rfl);exact⟨⟨cZ,b0⟩,rfl⟩
theorem avD{d:DataW H}{l:List V}(h:fk Tryz.prog 46 d l):∃s:ad Change,l=[bb 2 nj s]:=
 tR Tryz.underlying46 (by kernel_rfl) (fun d l h=>by obtain⟨x,rfl⟩:=aeg h;exact⟨x,rfl⟩) h
theorem avE{d:DataW H}{l:List V}(h:fk Tryz.prog 86 d l):∃s:ad Row,l=[bb 2 ux s]:=
 tR Tryz.underlying86 (by kernel_rfl) (fun d l h=>by obtain⟨x,rfl⟩:=aef h;exact⟨x,rfl⟩) h
theorem avF{d:DataW H}{l:List V}(h:fk Tryz.prog 231 d l):∃x:mD,l=aE (uy x):=by
 obtain⟨parts,ls,-,rfl,hp,hl,hr⟩:=sB Tryz.underlying231 h;obtain⟨p0,p1,p2,rfl⟩:=uX hp;obtain⟨qd,ch,kX,rfl⟩:=uX hl;obtain⟨cZ,-,rfl,-⟩:=lq Tryz.underlying3 (hr 0 _ _ _ rfl rfl rfl);obtain⟨b0,-,rfl,-⟩:=lq Tryz.underlying3 (hr 1 _ _ _ rfl rfl rfl);obtain⟨dy,-,rfl,-⟩:=lq Tryz.underlying3 (hr 2 _ _ _ rfl rfl rfl);exact⟨⟨cZ,b0,dy⟩,rfl⟩
theorem avG{d:DataW H}{l:List V}(h:fk Tryz.prog 87 d l):∃s:ad mD,l=[bb 3 uy s]:=
 tR Tryz.underlying87 (by kernel_rfl) (fun d l h=>by obtain⟨x,rfl⟩:=avF h;exact⟨x,rfl⟩) h
theorem avH{d:DataW H}{l:List V}(h:fk Tryz.prog 89 d l):∃x:eJ,l=aE (Ct x):=by
 obtain⟨parts,ls,-,rfl,hp,hl,hr⟩:=sB Tryz.underlying89 h;obtain⟨p0,p1,p2,rfl⟩:=uX hp;obtain⟨qd,ch,kX,rfl⟩:=uX hl;obtain⟨cZ,rfl⟩:=avD (hr 0 _ _ _ rfl rfl rfl);obtain⟨b0,rfl⟩:=avE (hr 1 _ _ _ rfl rfl rfl);obtain⟨dy,rfl⟩:=avG (hr 2 _ _ _ rfl rfl rfl);exact⟨⟨cZ,b0,dy⟩,rfl⟩
theorem avI{d:DataW H}{l:List V}(h:fk Tryz.prog 91 d l):∃x:Action,l=aE (si x):=by
 obtain⟨parts,ls,-,rfl,hp,hl,hr⟩:=sB Tryz.underlying91 h;obtain⟨p0,p1,p2,rfl⟩:=uX hp;obtain⟨qd,ch,kX,rfl⟩:=uX hl;obtain⟨cZ,-,rfl,-⟩:=lq Tryz.underlying3 (hr 0 _ _ _ rfl rfl rfl);obtain⟨b0,rfl⟩:=LV (hr 1 _ _ _ rfl rfl rfl);obtain⟨dy,rfl⟩:=avH (hr 2 _ _ _ rfl rfl rfl);exact⟨⟨cZ,b0,dy⟩,rfl⟩
theorem avJ{d:DataW H}{l:List V}(h:fk Tryz.prog 27 d l):∃s:ad Action,l=[bb 5 si s]:=
 tR Tryz.underlying27 (by kernel_rfl) (fun d l h=>by obtain⟨x,rfl⟩:=avI h;exact⟨x,rfl⟩) h
theorem avK{d:DataW H}{l:List V}(h:fk Tryz.prog 42 d l):∃x:gi,l=aE (jn x):=by
 obtain⟨parts,ls,-,rfl,hp,hl,hr⟩:=sB Tryz.underlying42 h;obtain⟨p0,p1,p2,rfl⟩:=uX hp;obtain⟨qd,ch,kX,rfl⟩:=uX hl;obtain⟨cZ,-,rfl,-⟩:=lq Tryz.underlying3 (hr 0 _ _ _ rfl rfl rfl);obtain⟨b0,-,rfl,-⟩:=lq Tryz.underlying3 (hr 1 _ _ _ rfl rfl rfl);obtain⟨dy,-,rfl,-⟩:=lq Tryz.underlying3 (hr 2 _ _ _ rfl rfl rfl);exact⟨⟨cZ,b0,dy⟩,rfl⟩
theorem avL{d:DataW H}{l:List V}(h:fk Tryz.prog 28 d l):∃s:ad gi,l=[bb 3 jn s]:=
 tR Tryz.underlying28 (by kernel_rfl) (fun d l h=>by obtain⟨x,rfl⟩:=avK h;exact⟨x,rfl⟩) h
theorem avM{d:DataW H}{l:List V}(h:fk Tryz.prog 30 d l):∃x:Model,l=aE (wm x):=by
 obtain⟨parts,ls,-,rfl,hp,hl,hr⟩:=sB Tryz.underlying30 h;obtain⟨p0,p1,p2,p3,kj,rf,x9,rfl⟩:=aee hp;obtain⟨qd,ch,kX,Lb,Ad,A4,yl,rfl⟩:=aee hl;obtain⟨cZ,rfl⟩:=LV (hr 0 _ _ _ rfl rfl rfl);obtain⟨b0,rfl⟩:=avv (hr 1 _ _ _ rfl rfl rfl);obtain⟨dy,rfl⟩:=avw (hr 2 _ _ _ rfl rfl rfl);obtain⟨gA,rfl⟩:=avA (hr 3 _ _ _ rfl rfl rfl);obtain⟨lh,rfl⟩:=avC (hr 4 _ _ _ rfl rfl rfl);obtain⟨fZ,rfl⟩:=avJ (hr 5 _ _ _ rfl rfl rfl);obtain⟨pB,rfl⟩:=avL (hr 6 _ _ _ rfl rfl rfl);exact⟨⟨cZ,b0,dy,gA,lh,fZ,pB⟩,rfl⟩
theorem avN:tQ Tryz.prog 12 30=true:=by kernel_rfl
theorem avO:30<Tryz.prog.types.size:=of_decide_eq_true (by kernel_rfl)
theorem avP{b:Nat}{v:Value}(hval:Value.okWide Tryz.prog W .any b 30 v):∃cs,v=.agg cs:=by
 unfold Value.okWide at hval;rw[Tryz.underlying30]at hval;cases v<;>first|exact⟨_,rfl⟩|(simp at hval)
theorem avQ{b:Nat}{v:Value}(hval:Value.okWide Tryz.prog W .any b 30 v){d:DataW H}{p:List MemPlace}{held:Bool}(hd:DataW.Trod enc Tryz.prog W 0 (fun _=>true) held 30 v d p):∃m:Model,fG W (tb W).I (wm m) v:=by
 obtain⟨cs,rfl⟩:=avP hval;obtain⟨fuel,hd⟩:=hd;obtain⟨vs,bB,b4,-⟩:=reads laidOut 12 fuel 30 _ _ avO avN hd;obtain⟨m,rfl⟩:=avM bB;exact⟨m,.agg _ cs.toList b4⟩
end
end Go.Abs.bs
namespace Go.Abs.bs
open Go Go.Abs Go.Proofs
set_option maxRecDepth 100000
section
variable{W:World}{H:Type}{enc:TypeId × Value->H}
def LW (P:Program)(t:TypeId)(d:DataW H):Prop:=∀n∈d.weights P t,n<=reachBytes
theorem Sv{ts:List TypeId}{ds:List (DataW H)}(h:(DataW.weightsEach Tryz.prog ts ds).all (· <=reachBytes)=true){j:Nat}{t:TypeId}{d:DataW H}(ht:ts[j]? =some t)(hd:ds[j]? =some d):LW Tryz.prog t d:=fun n hn=>by
 have:=eU.1 h n (DataW.weights_mem_each ht hd n hn);simpa using this
theorem aeh{t e:TypeId}{elems spare:List (DataW H)}(ht:Tryz.prog.underlying t=some (.slice e))(hb:1<=Tryz.prog.bytesOf e)(h:LW Tryz.prog t (.slice elems spare)):elems.length<4611686018427387904:=by
 have h1:=h _ (avj ht);have h2:=reachBytes_lt;have ar:elems.length*1<=(elems.length+spare.length)*Tryz.prog.bytesOf e:=HU (by omega) hb;omega
theorem aei{elems:List (DataW H)}:∀{ls:List (List V)},(∀l∈ls,∃n:Int,l=[aI n])->∃xs:List Int,ls.map rv=xs.map aI/\xs.length=ls.length
 |[],_=>⟨[],rfl,rfl⟩
 |l::ls,h=>by
  obtain⟨n,rfl⟩:=h l (by simp);obtain⟨xs,h1,h2⟩:=aei (elems:=elems) (ls:=ls) fun m hm=>h m (by simp[hm]);exact⟨n::xs,by rw[de,de,h1];rfl,by simp[h2]⟩
theorem avR:tQ Tryz.prog 8 22=true:=by kernel_rfl
theorem avS:22<Tryz.prog.types.size:=of_decide_eq_true (by kernel_rfl)
theorem avT{b:Nat}{v:Value}(hval:Value.okWide Tryz.prog W .any b 22 v):v.cells.toList=[v]:=by
 unfold Value.okWide at hval;rw[Tryz.underlying22]at hval;simp only[Cell.okWide,Tryz.underlying22]at hval;cases v<;>first|rfl|(simp[Cell.ok,Tryz.underlying22]at hval)
theorem avU{b:Nat}{v:Value}(hval:Value.okWide Tryz.prog W .any b 22 v){d:DataW H}{p:List MemPlace}{held:Bool}(hd:DataW.Trod enc Tryz.prog W 0 (fun _=>true) held 22 v d p)(hn:LW Tryz.prog 22 d):∃s:ad Int,b2 s.l/\fG W (tb W).I (bb 1 aI s) v:=by
 obtain⟨gZ,h,h2⟩:=ad9 laidOut avS avR (avT hval) hd;rcases Su Tryz.underlying22 h with⟨rfl,af⟩|⟨elems,spare,ls,rfl,af,hl,hr⟩
 ·cases af
  exact⟨.nil,by unfold b2;decide,h2⟩
 ·cases af
  have hlen:=aeh Tryz.underlying22 (of_decide_eq_true (by kernel_rfl)) hn;rw[show Tryz.prog.cellsOf 3=1 by kernel_rfl]at h2
  obtain⟨xs,ar,aR⟩:=aei (elems:=elems) (ls:=ls) fun l yq=>by
   obtain⟨i,hi⟩:=DE yq;have nd:i<ls.length:=(e0.1 hi).1;obtain⟨n,-,rfl,-⟩:=lq Tryz.underlying3 (hr i _ l (gq (by omega)) hi);exact⟨n,rfl⟩
  refine⟨.mk xs,by show xs.length<_;omega,?_⟩;rw[ar]at h2;exact h2
theorem aej:∀{ls:List (List V)},(∀l∈ls,∃x:Change,l=aE (nj x))->∃xs:List Change,ls.map rv=xs.map nj/\xs.length=ls.length
 |[],_=>⟨[],rfl,rfl⟩
 |l::ls,h=>by
  obtain⟨x,rfl⟩:=h l (by simp);obtain⟨xs,h1,h2⟩:=aej (ls:=ls) fun m hm=>h m (by simp[hm]);exact⟨x::xs,by rw[de,de,h1];rfl,by simp[h2]⟩
theorem avV:tQ Tryz.prog 12 46=true:=by kernel_rfl
theorem avW:46<Tryz.prog.types.size:=of_decide_eq_true (by kernel_rfl)
theorem avX{b:Nat}{v:Value}(hval:Value.okWide Tryz.prog W .any b 46 v):v.cells.toList=[v]:=by
 unfold Value.okWide at hval;rw[Tryz.underlying46]at hval;simp only[Cell.okWide,Tryz.underlying46]at hval;cases v<;>first|rfl|(simp[Cell.ok,Tryz.underlying46]at hval)
theorem aek{b:Nat}{v:Value}(hval:Value.okWide Tryz.prog W .any b 46 v){d:DataW H}{p:List MemPlace}{held:Bool}(hd:DataW.Trod enc Tryz.prog W 0 (fun _=>true) held 46 v d p)(hn:LW Tryz.prog 46 d):∃s:ad Change,b2 s.l/\fG W (tb W).I (bb 2 nj s) v:=by
 obtain⟨gZ,h,h2⟩:=ad9 laidOut avW avV (avX hval) hd;rcases Su Tryz.underlying46 h with⟨rfl,af⟩|⟨elems,spare,ls,rfl,af,hl,hr⟩
 ·cases af
  exact⟨.nil,by unfold b2;decide,h2⟩
 ·cases af
  have hlen:=aeh Tryz.underlying46 (of_decide_eq_true (by kernel_rfl)) hn;rw[show Tryz.prog.cellsOf 82=2 by kernel_rfl]at h2
  obtain⟨xs,ar,aR⟩:=aej (ls:=ls) fun l yq=>by
   obtain⟨i,hi⟩:=DE yq;have nd:i<ls.length:=(e0.1 hi).1;exact aeg (hr i _ l (gq (by omega)) hi)
  refine⟨.mk xs,by show xs.length<_;omega,?_⟩;rw[ar]at h2;exact h2
end
end Go.Abs.bs
namespace Go.Proofs.YtgkcikhegodchaaGreatDoor.states
open Go Go.Abs Go.Abs.bs Go.Proofs Go.ChangeShapes Go.WideShapes Go.ChangeAt Go.RowKit
set_option maxRecDepth 100000
theorem avY{H:Type}{enc:TypeId × Value->H}{f:Func}{s:ChangeSpec}{apart fresh handsOn again:Bool}{W W':World}{args:Array Value}{ds gs:List (DataW H)}{before:List MemPlace}{G':bT}{H':Heap}
  (hW:DataW.Whole enc Tryz.prog f.params.toList s.vars apart W args.toList ds gs before) (af:s.vars=[]) (hT:∀t∈f.params.toList,t<Tryz.prog.types.size) (hr:f.resultTypes= #[4])
  (h9:(s.fn H (ds++gs)).results=[.lit (.bool true)]) (avZ:gs=[]->(s.fn H (ds++gs)).args=ds) (AB:(s.fn H (ds++gs)).vars=[])
  (U:aX (C fun b=>W.heap[b]?) id G' H' W') (ho:W'.os=W.os) (hp:W'.output=W.output):s.post enc Tryz.prog f apart fresh handsOn again W args (.bool true) W':=by
 have aK:=hW.lt;have hold:∀p∈before,(fun b=>decide (b<W.heap.size)) p.block=true:=fun p hp=>by simpa using aK p hp
 have av0:=hW;obtain⟨pa,q,hA,hV,nG,aO,hn⟩:=hW;rw[af]at hV;obtain⟨y2,rfl⟩:=trodVars_none hV;rw[pP]at nG;subst nG
 have vA:∀sp:Nat->Bool,(∀p∈before,sp p.block=true)->DataW.TrodAll enc Tryz.prog W' 0 sp true f.params.toList args.toList (s.fn H (ds++gs)).args before:=fun sp lU=>by
  rw[avZ y2];exact aec kids (fun h hu=>avq h hu) hT hA (fun q bg=>avr U (aK q bg)) lU
 have ael:∀sp:Nat->Bool,DataW.TrodVars enc Tryz.prog W' sp s.vars (s.fn H (ds++gs)).vars []:=fun sp=>by rw[af,AB];rfl
 have r0:∀(b:Nat) (sp:Nat->Bool) (hd:Bool),DataW.TrodAll enc Tryz.prog W' b sp hd f.resultTypes.toList ((Value.bool true).resultList f.resultTypes.size) (s.fn H (ds++gs)).results []:=fun b sp hd=>by
  rw[hr,h9];exact trodAll_cons_mk (shut_bool Tryz.underlying4 _) trodAll_mk0
 refine⟨ds,gs,before,[],before,[],av0,r0 _ _ _,vA _ hold,ael _,avm U ho hp _,fun _=> ?_⟩;refine⟨ok_one hr rfl (okWide_bool_mk Tryz.underlying4 _),_,_,([]++before)++[],⟨[]++before,[],trodAll_append (vA _ (fun _ _=>rfl)) (r0 _ _ _),ael _,rfl,?_,?_⟩,?_⟩
 ·intro b off p4
  have hm:MemPlace.cell b off∈before:=by simpa using p4
  rw[avs U (aK _ hm)];exact aO b off hm
 ·intro ha
  simpa using hn ha
 ·intro p p4 _
  simpa using p4
theorem aem{W:World}(h:laidMetH Tryz.prog Rows.stateVisibleRow.laid W):Lib.TabIs Tryz.prog W "strings.asciiSpace" .u8 Lib.asciiSpaceTab:=by
 have ae:(Rows.stateVisibleRow.laid.filter fun x=>x.2.handleName?.isSome)=[]:=by kernel_rfl
 unfold laidMetH at h;rw[ae]at h
 have hm:("strings.asciiSpace",Lib.tabData .u8 Lib.asciiSpaceTab)∈Rows.stateVisibleRow.laid:=by
  have e:Rows.stateVisibleRow.laid[7]? =some ("strings.asciiSpace",Lib.tabData .u8 Lib.asciiSpaceTab):=by kernel_rfl
  exact gV e
 exact aeb (g:=1) (t:=447) (e:=5) (n:=256) (by kernel_rfl) (by kernel_rfl) (by kernel_rfl) (by kernel_rfl) (by kernel_rfl) (by kernel_rfl) h hm
theorem aen{W:World}(h:laidMetH Tryz.prog Rows.stateVisibleRow.laid W):Lib.TabIs Tryz.prog W "internal/strconv.uint64pow10" .u64 Lib.pow10Tab:=by
 have ae:(Rows.stateVisibleRow.laid.filter fun x=>x.2.handleName?.isSome)=[]:=by kernel_rfl
 unfold laidMetH at h;rw[ae]at h
 have hm:("internal/strconv.uint64pow10",Lib.tabData .u64 Lib.pow10Tab)∈Rows.stateVisibleRow.laid:=by
  have e:Rows.stateVisibleRow.laid[2]? =some ("internal/strconv.uint64pow10",Lib.tabData .u64 Lib.pow10Tab):=by kernel_rfl
  exact gV e
 exact aeb (g:=0) (t:=439) (e:=323) (n:=20) (by kernel_rfl) (by kernel_rfl) (by kernel_rfl) (by kernel_rfl) (by kernel_rfl) (by kernel_rfl) h hm
theorem walk{W:World}{aa:Nat->Option bV}(bh:du (C fun b=>W.heap[b]?) id (nX fun b=>W.heap[b]?)/\du (A fun b=>W.heap[b]?) id (iE fun b=>W.heap[b]?)->du (C fun b=>W.heap[b]?) id aa)(ee:laidMetH Tryz.prog Rows.stateVisibleRow.laid W){i:Nat}{f:jv}(hi:aa i=some (.code f)){vs:List V}{xs:List Value}(cW:c8 W (tb W).I vs xs)
  (he:bY aa (.fn i [] []) vs []=some (.bool true,[],0)):
  Calls Tryz.prog i ⟨xs⟩ W fun e W'=>e=.returned (.bool true)/\∃G' H',aX (C fun b=>W.heap[b]?) id G' H' W'/\W'.os=W.os/\W'.output=W.output:=by
 obtain⟨n,hn⟩:=vb.1 he;have hT:du (C fun b=>W.heap[b]?) id aa:=bh ⟨auI (fun G H w U=>LS U (aen ee)) (fun G H w U=>LS U (aem ee)),auH (fun G H w U=>LS U (aen ee)) (fun G H w U=>LS U (aem ee))⟩;have h:=VN (C:=C fun b=>W.heap[b]?) (fid:=id) (Checked.mixed Tryz.checked) E7 hT hi hn (avk W) (c8.ov cW);refine xd h fun e W' hp=> ?_;obtain⟨x,rfl,G',h1,h2,ar⟩:=hp;rw[ar.kY];have c7:=h2 0 (aF _);exact⟨rfl,G',_,h1,c7.os,c7.output⟩
end Go.Proofs.YtgkcikhegodchaaGreatDoor.states
namespace Go.Proofs.YtgkcikhegodchaaGreatDoor
open Go Go.Abs Go.Abs.bs Go.Proofs
set_option maxRecDepth 100000
def A8:DataW Unit->List Value
 | .agg xs=>xs.map fun x=>match x with
   | .lit (.int k n)=>.int k n
   | _=>.tuple #[]
 | _=>[]
def av1:DataW Unit->List Value
 | .agg xs=>xs.flatMap A8
 | _=>[]
def aeo:DataW Unit->Value
 | .iface _ (.ptr (.agg [.lit (.string s)]))=>.string ⟨⟨s⟩⟩
 | _=>.tuple #[]
def rowsOf:DataW Unit->List Value
 | .ptr (.agg (.slice xs _::_))=>xs.flatMap A8
 | _=>[]
def more:Array Obj:= #[.cells #[aeo Rows.laid_strconv_ErrRange] 513 (0,0),.cells #[aeo Rows.laid_strconv_ErrSyntax] 513 (0,0),
 .cells #[.slice (some ⟨19,0,none⟩) 7 7,.slice none 0 0,.int .i64 2] 517 (0,0),.cells (rowsOf Rows.laid_unicode_White_Space).toArray 520 (0,0)]
def w4 (cs:Array Value):Obj->Obj
 | .cells _ t f=>.cells cs t f
 |o=>o
noncomputable def LX (os:Os):World:=
 {World.holding Tryz.prog os ⟨more,#[],[]⟩with heap:=(((((((((World.holding Tryz.prog os ⟨more,#[],[]⟩).heap.modify 1 (w4 (A8 Rows.laid_strings_asciiSpace).toArray)).modify 0 (w4 (A8 Rows.laid_internal_strconv_uint64pow10).toArray)).modify 4 (w4 #[.pointer (some ⟨18,0,none⟩)])).modify 3 (w4 #[.iface 511 (.pointer (some ⟨16,0,none⟩))])).modify 2 (w4 #[.iface 511 (.pointer (some ⟨17,0,none⟩))])).modify 6 (w4 (A8 Rows.laid_math_bits_deBruijn32tab).toArray)).modify 7 (w4 (A8 Rows.laid_math_bits_deBruijn64tab).toArray)).modify 8 (w4 (A8 Rows.laid_unicode_utf8_first).toArray)).modify 9 (w4 (av1 Rows.laid_unicode_utf8_acceptRanges).toArray)}
theorem own:ownKnob Tryz.prog.godebug=none:=by kernel_rfl
end Go.Proofs.YtgkcikhegodchaaGreatDoor
namespace Go.Abs.ry
theorem xS:∀(n:Nat) (l:List Nat),l.Nodup->(∀x∈l,x<n)->l.length<=n
 |0,l,_,h=>by
  cases l with
  |nil=>simp
  |cons x r=>exact absurd (h x (by simp)) (by omega)
 |n+1,l,hn,h=>by
  by_cases hm:n∈l
  ·have h1:=xS n (l.erase n) (hn.erase n) fun x hx=>by
    have dM:=hn.mem_erase_iff.1 hx;have:=h x dM.2;have:=dM.1;omega
   rw[List.length_erase_of_mem hm]at h1;omega
  ·have:=xS n l hn fun x hx=>by
    have:=h x hx;have:x≠n:=fun e=>hm (e ▸ hx);omega
   omega
section
variable (iu:Nat->Nat->Bool)(size:Nat)
def Ds (l:List Nat):Bool:=iu (l.getLastD 0) (l.headD 0)
def rz (l:List Nat):List (List Nat):=
 ((List.range' (l.headD 0+1) (size-(l.headD 0+1))).filter fun v=>iu (l.getLastD 0) v&&!l.contains v).map fun v=>l++[v]
def Hv:Nat->List (List Nat)->Option (List Nat)
 |0,_=>none
 |k+1,ps=>match ps.find? (Ds iu)with
  |some l=>some l
  |none=>if ps=[]then none else Hv k (ps.flatMap (rz iu size))
def start:List (List Nat):=(List.range size).map fun a=>[a]
def aep:Option (List Nat):=Hv iu size (size+1) (start size)
structure Path (l:List Nat):Prop where
 ne:l≠[]
 nodup:l.Nodup
 lt:∀x∈l,x<size
 least:∀x∈l,l.headD 0<=x
 along:∀i,i+1<l.length->iu (l.getD i 0) (l.getD (i+1) 0)=true
variable{iu size}
theorem Path.len{l:List Nat}(h:Path iu size l):l.length<=size:=xS size l h.nodup h.lt
theorem av2{l:List Nat}(h:l≠[])(v:Nat):(l++[v]).headD 0=l.headD 0:=by
 cases l with
 |nil=>exact absurd rfl h
 |cons x r=>rfl
theorem aeq{l:List Nat}(h:l≠[]):l.getLastD 0=l.getD (l.length-1) 0:=by
 cases l with
 |nil=>exact absurd rfl h
 |cons x r=>
  rw[List.getLastD_eq_getLast?,List.getLast?_eq_getElem?,iL]
theorem Path.next{l fc:List Nat}(h:Path iu size l)(hl:fc∈rz iu size l):Path iu size fc/\fc.length=l.length+1:=by
 unfold rz at hl;obtain⟨v,af,rfl⟩:=dX.1 hl;rw[List.mem_filter,List.mem_range'_1,cn,mb]at af;obtain⟨⟨h1,h2⟩,ar,aR⟩:=af
 have av3:v∉l:=fun q=>by
  rw[sE.2 q]at aR;cases aR
 refine⟨⟨by simp,?_,fun x hx=> ?_,fun x hx=> ?_,fun i hi=> ?_⟩,by simp⟩
 ·refine tU.2 ⟨h.nodup,by simp,fun x hx y hy=> ?_⟩
  simp only[dp,rE,or_false]at hy;subst hy;exact fun q=>av3 (q ▸ hx)
 ·rcases jc.1 hx with q|q
  ·exact h.lt x q
  ·simp only[dp,rE,or_false]at q
   subst q;omega
 ·rw[av2 h.ne]
  rcases jc.1 hx with q|q
  ·exact h.least x q
  ·simp only[dp,rE,or_false]at q
   subst q;omega
 ·simp only[fD,fl,mQ]at hi
  have hC:0<l.length:=by
   cases l with
   |nil=>exact absurd rfl h.ne
   |cons=>simp
  rw[iL,iL,fB (by omega)];by_cases hc:i+1<l.length
  ·rw[fB hc]
   have:=h.along i hc;rw[iL,iL]at this;exact this
  ·have e:i+1=l.length:=by omega
   rw[e,u0 (aF _),Nat.sub_self];rw[aeq h.ne,iL]at ar;have aj:i=l.length-1:=by omega
   rw[aj];exact ar
def Hw (iu:Nat->Nat->Bool)(size k:Nat)(ps:List (List Nat)):Prop:=∀l∈ps,Path iu size l/\l.length=k
theorem av4:Hw iu size 1 (start size):=fun l hl=>by
 obtain⟨a,ha,rfl⟩:=dX.1 hl;have gJ:=Bj.1 ha;refine⟨⟨by simp,by simp,fun x hx=> ?_,fun x hx=> ?_,fun i hi=> ?_⟩,rfl⟩
 ·have:x=a:=by simpa using hx
  omega
 ·have:x=a:=by simpa using hx
  subst this;exact aF _
 ·simp at hi
theorem av5{k:Nat}{ps:List (List Nat)}(h:Hw iu size k ps):Hw iu size (k+1) (ps.flatMap (rz iu size)):=fun fc hl=>by
 obtain⟨l,h1,h2⟩:=DI.1 hl;obtain⟨p,e⟩:=h l h1;obtain⟨y5,e'⟩:=p.next h2
 exact⟨y5,by omega⟩
theorem aer{k:Nat}{ps:List (List Nat)}(h:Hw iu size k ps)(hk:size<k):ps=[]:=by
 cases ps with
 |nil=>rfl
 |cons l r=>
  obtain⟨p,e⟩:=h l (by simp);have:=p.len;omega
end
end Go.Abs.ry
