/- Texts of this claim, joined and written short by a program. -/
import Derived.Test.YtonmjjfciemcoaaGreatDoorP26
import Derived.Test.YtonmjjfciemcoaaGreatDoorP22
import Derived.Test.YtonmjjfciemcoaaGreatDoorP30
import Derived.Test.YtonmjjfciemcoaaGreatDoorP01
import Derived.ChangeBears
import Derived.ChangeSlices
import Derived.SizedLaws
import Derived.Test.YtonmjjfciemcoaaGreatDoorCards
import Derived.WalkKit
import Derived.ProofKit
import Derived.OpenShut
import Derived.ChangeStays
import Derived.Deep.DeepHandedRow
import Derived.Deep.DeepLaidRun
import Derived.Lib.LaidTab
import Derived.Deep.DeepWitnessRowRef
import Derived.Test.YtonmjjfciemcoaaGreatDoorP00
set_option linter.unusedVariables false
set_option linter.unusedSimpArgs false
set_option linter.unusedSectionVars false
namespace Go.Abs.bz
open Go Go.Abs Go.Abs.gB
theorem bl:gp aE where
 hS:=fun t x B ρ fs=>match t,x with
  |0,x=>.int
  |1,x=>(.age (agf (i:=0) rfl))
  |2,x=>.str
  |3,x=>.int
  |4,x=>.agg (.cons .int (.cons .int (.cons .int .nil)))
  |5,x=>.sl
  |6,x=>.sl
  |7,x=>.agg (.cons .int (.cons .int .nil))
  |8,x=>.agg (.cons .str (.cons .int (.cons .sl (.cons .int (.cons .int (.cons .int .nil))))))
  |9,x=>.sl
  |10,x=>.sl
  |11,x=>.agg (.cons .int (.cons .int .nil))
  |12,x=>.sl
  |13,x=>.agg (.cons .sl (.cons .int .nil))
  |14,x=>.agg (.cons .int (.cons .int (.cons .sl (.cons .int (.cons .int (.cons .int .nil))))))
  |15,x=>.sl
  |16,x=>.agg (.cons .str (.cons (.age (agf (i:=0) rfl)) (.cons .sl .nil)))
  |17,x=>.sl
  |18,x=>.agg (.cons .int (.cons .int .nil))
  |19,x=>.sl
  |20,x=>.sl
  |21,x=>.agg (.cons .int (.cons .int (.cons .int .nil)))
  |22,x=>.sl
  |23,x=>.agg (.cons .sl (.cons .sl (.cons .sl .nil)))
  |24,x=>.agg (.cons .int (.cons .sl (.cons .sl (.cons .sl (.cons .sl .nil)))))
  |25,x=>.sl
  |26,x=>.agg (.cons .sl (.cons .sl (.cons .sl (.cons .sl (.cons .sl (.cons .sl (.cons .sl .nil)))))))
  |27,x=>.sl
  |28,x=>.sl
  |29,x=>.agg (.cons .sl (.cons .sl (.cons .sl (.cons .sl (.cons .sl (.cons .sl (.cons .sl (.cons .sl .nil))))))))
  |30,x=>.sl
  |31,x=>.agg (.cons .int (.cons .int .nil))
  |32,x=>.sl
  |33,x=>.sl
  | _+34,_=>.k
 jd:=fun t v B ρ fs w x ad h=>match t,x,h with
  |0,x,h=>jv (U:=aE) (k:=.i64) (n:=x) (v:=v) h ad
  |1,x,h=>agh (U:=aE) (B:=B) (c:=x) (v:=v) h ad
  |2,x,h=>Tr (U:=aE) (s:=x) (v:=v) h ad
  |3,x,h=>jv (U:=aE) (k:=.u8) (n:=x) (v:=v) h ad
  |4,x,h=>by
   obtain⟨vs,ws,rfl,hr,h⟩:=qN (U:=aE) h ad;split at h
   ·obtain⟨_,_,rfl,fh,hr⟩:=bD.inv hr;obtain⟨_,_,rfl,q1,hr⟩:=bD.inv hr;obtain⟨_,_,rfl,q2,hr⟩:=bD.inv hr;cases bD.qM hr
    obtain⟨c9,h0,h⟩:=ek.1 h;obtain⟨cq,h1,h⟩:=ek.1 h;obtain⟨ed,h2,h⟩:=ek.1 h;cases h;rw[jv h0 fh,jv h1 q1,jv h2 q2];rfl
   ·cases h
  |5,x,h=>fL (U:=aE) (t:=4) h ad
  |6,x,h=>fL (U:=aE) (t:=0) h ad
  |7,x,h=>by
   obtain⟨vs,ws,rfl,hr,h⟩:=qN (U:=aE) h ad;split at h
   ·obtain⟨_,_,rfl,fh,hr⟩:=bD.inv hr;obtain⟨_,_,rfl,q1,hr⟩:=bD.inv hr;cases bD.qM hr
    obtain⟨c9,h0,h⟩:=ek.1 h;obtain⟨cq,h1,h⟩:=ek.1 h;cases h;rw[jv h0 fh,jv h1 q1];rfl
   ·cases h
  |8,x,h=>by
   obtain⟨vs,ws,rfl,hr,h⟩:=qN (U:=aE) h ad;split at h
   ·obtain⟨_,_,rfl,fh,hr⟩:=bD.inv hr;obtain⟨_,_,rfl,q1,hr⟩:=bD.inv hr;obtain⟨_,_,rfl,q2,hr⟩:=bD.inv hr;obtain⟨_,_,rfl,cn,hr⟩:=bD.inv hr;obtain⟨_,_,rfl,c7,hr⟩:=bD.inv hr;obtain⟨_,_,rfl,fr,hr⟩:=bD.inv hr;cases bD.qM hr
    obtain⟨c9,h0,h⟩:=ek.1 h;obtain⟨cq,h1,h⟩:=ek.1 h;obtain⟨ed,h2,h⟩:=ek.1 h;obtain⟨hQ,ar,h⟩:=ek.1 h;obtain⟨ll,aS,h⟩:=ek.1 h;obtain⟨gb,h5,h⟩:=ek.1 h;cases h;rw[Tr h0 fh,jv h1 q1,fL (U:=aE) (t:=0) h2 q2,jv ar cn,jv aS c7,jv h5 fr];rfl
   ·cases h
  |9,x,h=>fL (U:=aE) (t:=8) h ad
  |10,x,h=>fL (U:=aE) (t:=2) h ad
  |11,x,h=>by
   obtain⟨vs,ws,rfl,hr,h⟩:=qN (U:=aE) h ad;split at h
   ·obtain⟨_,_,rfl,fh,hr⟩:=bD.inv hr;obtain⟨_,_,rfl,q1,hr⟩:=bD.inv hr;cases bD.qM hr
    obtain⟨c9,h0,h⟩:=ek.1 h;obtain⟨cq,h1,h⟩:=ek.1 h;cases h;rw[jv h0 fh,jv h1 q1];rfl
   ·cases h
  |12,x,h=>fL (U:=aE) (t:=11) h ad
  |13,x,h=>by
   obtain⟨vs,ws,rfl,hr,h⟩:=qN (U:=aE) h ad;split at h
   ·obtain⟨_,_,rfl,fh,hr⟩:=bD.inv hr;obtain⟨_,_,rfl,q1,hr⟩:=bD.inv hr;cases bD.qM hr
    obtain⟨c9,h0,h⟩:=ek.1 h;obtain⟨cq,h1,h⟩:=ek.1 h;cases h;rw[fL (U:=aE) (t:=11) h0 fh,jv h1 q1];rfl
   ·cases h
  |14,x,h=>by
   obtain⟨vs,ws,rfl,hr,h⟩:=qN (U:=aE) h ad;split at h
   ·obtain⟨_,_,rfl,fh,hr⟩:=bD.inv hr;obtain⟨_,_,rfl,q1,hr⟩:=bD.inv hr;obtain⟨_,_,rfl,q2,hr⟩:=bD.inv hr;obtain⟨_,_,rfl,cn,hr⟩:=bD.inv hr;obtain⟨_,_,rfl,c7,hr⟩:=bD.inv hr;obtain⟨_,_,rfl,fr,hr⟩:=bD.inv hr;cases bD.qM hr
    obtain⟨c9,h0,h⟩:=ek.1 h;obtain⟨cq,h1,h⟩:=ek.1 h;obtain⟨ed,h2,h⟩:=ek.1 h;obtain⟨hQ,ar,h⟩:=ek.1 h;obtain⟨ll,aS,h⟩:=ek.1 h;obtain⟨gb,h5,h⟩:=ek.1 h;cases h;rw[jv h0 fh,jv h1 q1,fL (U:=aE) (t:=11) h2 q2,jv ar cn,jv aS c7,jv h5 fr];rfl
   ·cases h
  |15,x,h=>fL (U:=aE) (t:=14) h ad
  |16,x,h=>by
   obtain⟨vs,ws,rfl,hr,h⟩:=qN (U:=aE) h ad;split at h
   ·obtain⟨_,_,rfl,fh,hr⟩:=bD.inv hr;obtain⟨_,_,rfl,q1,hr⟩:=bD.inv hr;obtain⟨_,_,rfl,q2,hr⟩:=bD.inv hr;cases bD.qM hr
    obtain⟨c9,h0,h⟩:=ek.1 h;obtain⟨cq,h1,h⟩:=ek.1 h;obtain⟨ed,h2,h⟩:=ek.1 h;cases h;rw[Tr h0 fh,agh h1 q1,fL (U:=aE) (t:=0) h2 q2];rfl
   ·cases h
  |17,x,h=>fL (U:=aE) (t:=16) h ad
  |18,x,h=>by
   obtain⟨vs,ws,rfl,hr,h⟩:=qN (U:=aE) h ad;split at h
   ·obtain⟨_,_,rfl,fh,hr⟩:=bD.inv hr;obtain⟨_,_,rfl,q1,hr⟩:=bD.inv hr;cases bD.qM hr
    obtain⟨c9,h0,h⟩:=ek.1 h;obtain⟨cq,h1,h⟩:=ek.1 h;cases h;rw[jv h0 fh,jv h1 q1];rfl
   ·cases h
  |19,x,h=>fL (U:=aE) (t:=18) h ad
  |20,x,h=>fL (U:=aE) (t:=13) h ad
  |21,x,h=>by
   obtain⟨vs,ws,rfl,hr,h⟩:=qN (U:=aE) h ad;split at h
   ·obtain⟨_,_,rfl,fh,hr⟩:=bD.inv hr;obtain⟨_,_,rfl,q1,hr⟩:=bD.inv hr;obtain⟨_,_,rfl,q2,hr⟩:=bD.inv hr;cases bD.qM hr
    obtain⟨c9,h0,h⟩:=ek.1 h;obtain⟨cq,h1,h⟩:=ek.1 h;obtain⟨ed,h2,h⟩:=ek.1 h;cases h;rw[jv h0 fh,jv h1 q1,jv h2 q2];rfl
   ·cases h
  |22,x,h=>fL (U:=aE) (t:=21) h ad
  |23,x,h=>by
   obtain⟨vs,ws,rfl,hr,h⟩:=qN (U:=aE) h ad;split at h
   ·obtain⟨_,_,rfl,fh,hr⟩:=bD.inv hr;obtain⟨_,_,rfl,q1,hr⟩:=bD.inv hr;obtain⟨_,_,rfl,q2,hr⟩:=bD.inv hr;cases bD.qM hr
    obtain⟨c9,h0,h⟩:=ek.1 h;obtain⟨cq,h1,h⟩:=ek.1 h;obtain⟨ed,h2,h⟩:=ek.1 h;cases h;rw[fL (U:=aE) (t:=18) h0 fh,fL (U:=aE) (t:=13) h1 q1,fL (U:=aE) (t:=21) h2 q2];rfl
   ·cases h
  |24,x,h=>by
   obtain⟨vs,ws,rfl,hr,h⟩:=qN (U:=aE) h ad;split at h
   ·obtain⟨_,_,rfl,fh,hr⟩:=bD.inv hr;obtain⟨_,_,rfl,q1,hr⟩:=bD.inv hr;obtain⟨_,_,rfl,q2,hr⟩:=bD.inv hr;obtain⟨_,_,rfl,cn,hr⟩:=bD.inv hr;obtain⟨_,_,rfl,c7,hr⟩:=bD.inv hr;cases bD.qM hr
    obtain⟨c9,h0,h⟩:=ek.1 h;obtain⟨cq,h1,h⟩:=ek.1 h;obtain⟨ed,h2,h⟩:=ek.1 h;obtain⟨hQ,ar,h⟩:=ek.1 h;obtain⟨ll,aS,h⟩:=ek.1 h;cases h;rw[jv h0 fh,fL (U:=aE) (t:=0) h1 q1,fL (U:=aE) (t:=18) h2 q2,fL (U:=aE) (t:=13) ar cn,fL (U:=aE) (t:=21) aS c7];rfl
   ·cases h
  |25,x,h=>fL (U:=aE) (t:=24) h ad
  |26,x,h=>by
   obtain⟨vs,ws,rfl,hr,h⟩:=qN (U:=aE) h ad;split at h
   ·obtain⟨_,_,rfl,fh,hr⟩:=bD.inv hr;obtain⟨_,_,rfl,q1,hr⟩:=bD.inv hr;obtain⟨_,_,rfl,q2,hr⟩:=bD.inv hr;obtain⟨_,_,rfl,cn,hr⟩:=bD.inv hr;obtain⟨_,_,rfl,c7,hr⟩:=bD.inv hr;obtain⟨_,_,rfl,fr,hr⟩:=bD.inv hr;obtain⟨_,_,rfl,ic,hr⟩:=bD.inv hr;cases bD.qM hr
    obtain⟨c9,h0,h⟩:=ek.1 h;obtain⟨cq,h1,h⟩:=ek.1 h;obtain⟨ed,h2,h⟩:=ek.1 h;obtain⟨hQ,ar,h⟩:=ek.1 h;obtain⟨ll,aS,h⟩:=ek.1 h;obtain⟨gb,h5,h⟩:=ek.1 h;obtain⟨pK,eA,h⟩:=ek.1 h;cases h;rw[fL (U:=aE) (t:=0) h0 fh,fL (U:=aE) (t:=8) h1 q1,fL (U:=aE) (t:=2) h2 q2,fL (U:=aE) (t:=14) ar cn,fL (U:=aE) (t:=16) aS c7,fL (U:=aE) (t:=24) h5 fr,fL (U:=aE) (t:=4) eA ic];rfl
   ·cases h
  |27,x,h=>fL (U:=aE) (t:=1) h ad
  |28,x,h=>fL (U:=aE) (t:=7) h ad
  |29,x,h=>by
   obtain⟨vs,ws,rfl,hr,h⟩:=qN (U:=aE) h ad;split at h
   ·obtain⟨_,_,rfl,fh,hr⟩:=bD.inv hr;obtain⟨_,_,rfl,q1,hr⟩:=bD.inv hr;obtain⟨_,_,rfl,q2,hr⟩:=bD.inv hr;obtain⟨_,_,rfl,cn,hr⟩:=bD.inv hr;obtain⟨_,_,rfl,c7,hr⟩:=bD.inv hr;obtain⟨_,_,rfl,fr,hr⟩:=bD.inv hr;obtain⟨_,_,rfl,ic,hr⟩:=bD.inv hr;obtain⟨_,_,rfl,mH,hr⟩:=bD.inv hr;cases bD.qM hr
    obtain⟨c9,h0,h⟩:=ek.1 h;obtain⟨cq,h1,h⟩:=ek.1 h;obtain⟨ed,h2,h⟩:=ek.1 h;obtain⟨hQ,ar,h⟩:=ek.1 h;obtain⟨ll,aS,h⟩:=ek.1 h;obtain⟨gb,h5,h⟩:=ek.1 h;obtain⟨pK,eA,h⟩:=ek.1 h;obtain⟨yM,lI,h⟩:=ek.1 h;cases h;rw[fL (U:=aE) (t:=0) h0 fh,fL (U:=aE) (t:=8) h1 q1,fL (U:=aE) (t:=2) h2 q2,fL (U:=aE) (t:=14) ar cn,fL (U:=aE) (t:=16) aS c7,fL (U:=aE) (t:=24) h5 fr,fL (U:=aE) (t:=4) eA ic,fL (U:=aE) (t:=7) lI mH];rfl
   ·cases h
  |30,x,h=>fL (U:=aE) (t:=6) h ad
  |31,x,h=>by
   obtain⟨vs,ws,rfl,hr,h⟩:=qN (U:=aE) h ad;split at h
   ·obtain⟨_,_,rfl,fh,hr⟩:=bD.inv hr;obtain⟨_,_,rfl,q1,hr⟩:=bD.inv hr;cases bD.qM hr
    obtain⟨c9,h0,h⟩:=ek.1 h;obtain⟨cq,h1,h⟩:=ek.1 h;cases h;rw[jv h0 fh,jv h1 q1];rfl
   ·cases h
  |32,x,h=>fL (U:=aE) (t:=31) h ad
  |33,x,h=>fL (U:=aE) (t:=19) h ad
  | _+34,_,h=>by cases h
 bI:=fun t x=>match t,x with
  |0,x=>rfl
  |1,x=>rfl
  |2,x=>rfl
  |3,x=>rfl
  |4,x=>arP x
  |5,x=>ob _ _ _
  |6,x=>ob _ _ _
  |7,x=>arR x
  |8,x=>arT x
  |9,x=>ob _ _ _
  |10,x=>ob _ _ _
  |11,x=>arV x
  |12,x=>ob _ _ _
  |13,x=>arX x
  |14,x=>arZ x
  |15,x=>ob _ _ _
  |16,x=>ar1 x
  |17,x=>ob _ _ _
  |18,x=>ar3 x
  |19,x=>ob _ _ _
  |20,x=>ob _ _ _
  |21,x=>ar5 x
  |22,x=>ob _ _ _
  |23,x=>ar7 x
  |24,x=>ar9 x
  |25,x=>ob _ _ _
  |26,x=>asb x
  |27,x=>ob _ _ _
  |28,x=>ob _ _ _
  |29,x=>asd x
  |30,x=>ob _ _ _
  |31,x=>asf x
  |32,x=>ob _ _ _
  |33,x=>ob _ _ _
  | _+34,_=>rfl
 ok:=fun t x=>match t,x with
  |0,x=>rfl
  |1,x=>rfl
  |2,x=>rfl
  |3,x=>rfl
  |4,x=>arQ x
  |5,x=>o4 _ _ _
  |6,x=>o4 _ _ _
  |7,x=>arS x
  |8,x=>arU x
  |9,x=>o4 _ _ _
  |10,x=>o4 _ _ _
  |11,x=>arW x
  |12,x=>o4 _ _ _
  |13,x=>arY x
  |14,x=>ar0 x
  |15,x=>o4 _ _ _
  |16,x=>ar2 x
  |17,x=>o4 _ _ _
  |18,x=>ar4 x
  |19,x=>o4 _ _ _
  |20,x=>o4 _ _ _
  |21,x=>ar6 x
  |22,x=>o4 _ _ _
  |23,x=>ar8 x
  |24,x=>asa x
  |25,x=>o4 _ _ _
  |26,x=>asc x
  |27,x=>o4 _ _ _
  |28,x=>o4 _ _ _
  |29,x=>ase x
  |30,x=>o4 _ _ _
  |31,x=>asg x
  |32,x=>o4 _ _ _
  |33,x=>o4 _ _ _
  | _+34,_=>rfl
 es:=fun t x=>match t,x with
  |0,x=>rfl
  |1,x=>rfl
  |2,x=>rfl
  |3,x=>rfl
  |4,x=>rfl
  |5,x=>o5 _ _ _
  |6,x=>o5 _ _ _
  |7,x=>rfl
  |8,x=>rfl
  |9,x=>o5 _ _ _
  |10,x=>o5 _ _ _
  |11,x=>rfl
  |12,x=>o5 _ _ _
  |13,x=>rfl
  |14,x=>rfl
  |15,x=>o5 _ _ _
  |16,x=>rfl
  |17,x=>o5 _ _ _
  |18,x=>rfl
  |19,x=>o5 _ _ _
  |20,x=>o5 _ _ _
  |21,x=>rfl
  |22,x=>o5 _ _ _
  |23,x=>rfl
  |24,x=>rfl
  |25,x=>o5 _ _ _
  |26,x=>rfl
  |27,x=>o5 _ _ _
  |28,x=>o5 _ _ _
  |29,x=>rfl
  |30,x=>o5 _ _ _
  |31,x=>rfl
  |32,x=>o5 _ _ _
  |33,x=>o5 _ _ _
  | _+34,_=>rfl
 a7:=fun t x=>match t,x with
  |0,x=>fun h=>rfl
  |1,x=>fun h=>rfl
  |2,x=>fun h=>rfl
  |3,x=>fun h=>rfl
  |4,x=>fun h=>by cases h
  |5,x=>fun h=>by cases h
  |6,x=>fun h=>by cases h
  |7,x=>fun h=>by cases h
  |8,x=>fun h=>by cases h
  |9,x=>fun h=>by cases h
  |10,x=>fun h=>by cases h
  |11,x=>fun h=>by cases h
  |12,x=>fun h=>by cases h
  |13,x=>fun h=>by cases h
  |14,x=>fun h=>by cases h
  |15,x=>fun h=>by cases h
  |16,x=>fun h=>by cases h
  |17,x=>fun h=>by cases h
  |18,x=>fun h=>by cases h
  |19,x=>fun h=>by cases h
  |20,x=>fun h=>by cases h
  |21,x=>fun h=>by cases h
  |22,x=>fun h=>by cases h
  |23,x=>fun h=>by cases h
  |24,x=>fun h=>by cases h
  |25,x=>fun h=>by cases h
  |26,x=>fun h=>by cases h
  |27,x=>fun h=>by cases h
  |28,x=>fun h=>by cases h
  |29,x=>fun h=>by cases h
  |30,x=>fun h=>by cases h
  |31,x=>fun h=>by cases h
  |32,x=>fun h=>by cases h
  |33,x=>fun h=>by cases h
  | _+34,_=>fun h=>by cases h
 ae3:=fun t n h=>by
  have h:SF t=some n:=h;unfold SF at h;split at h<;>cases h
  ·exact G5
  ·exact arv
end Go.Abs.bz
set_option maxRecDepth 100000
namespace Go.Abs.bz
open Go Go.Abs Go.Abs.Lex Go.Proofs
variable{g:Nat->Option Obj}
theorem Ui{A:Type}{es:Nat}{f:A->V}(ag:∀a b,f a=f b->a=b){x y:ae A}(h:bn es f x=bn es f y):x=y:=by
 cases x<;>cases y<;>simp only[bn,reduceCtorEq,V.list.injEq,true_and]at h<;>try rfl
 rename_i l m;congr 1
 induction l generalizing m with
 |nil=>cases m<;>simp_all
 |cons a l ih=>
  cases m with
  |nil=>simp at h
  |cons b m=>
   simp only[dv,x6]at h;rw[ag _ _ h.1,ih m h.2]
theorem azT (a b:Int)(h:aI a=aI b):a=b:=by cases h;rfl
theorem azU (a b:Table)(h:l8 a=l8 b):a=b:=by
 obtain⟨al,a2,a3,⟨a4,a5⟩,Jl⟩:=a;obtain⟨b1,e3,iC,⟨kG,v7⟩,ah0⟩:=b;simp only[l8,V.agg.injEq,x6,V.str.injEq,V.int.injEq,true_and,and_true]at h;obtain⟨rfl,rfl,ar,rfl,rfl,rfl⟩:=h;rw[Ui azT ar]
theorem azV (a b:gM)(h:jH a=jH b):a=b:=by
 obtain⟨al,a2,a3⟩:=a;obtain⟨b1,e3,iC⟩:=b;simp only[jH,V.agg.injEq,x6,V.int.injEq,true_and,and_true]at h;obtain⟨rfl,rfl,rfl⟩:=h;rfl
def Cp (j:dV):Bool:=He j.Model.Tables.l j.Model.cf.l
theorem azW{a b:dV}(h:V.agg (ke a)=V.agg (ke b)):Cp a=Cp b:=by
 simp only[ke,V.agg.injEq,x6]at h;unfold Cp;rw[Ui azU h.2.1,Ui azV h.2.2.2.2.2.2.1]
noncomputable section
open Go.Abs.gB
def qs:List (aX aE):=[]
theorem Uj:aZ (eS g) qs:=fun _ h=>by cases h
def ah8:List (aX aE):=⟨224,[],[.v 0,.v 0],[1],fun c a=>mS a.1 a.2.1⟩::qs
theorem ah9:aZ (eS g) ah8:=bt bl Uj [] (.two .o (.pu [4] .o)) (by kernel_rfl) fun c a=>by kernel_rfl
def aia:List (aX aE):=⟨353,[],[.v 5,.f [4] 1],[0],fun c a=>aeF a.1 a.2.1⟩::ah8
theorem azX:aZ (eS g) aia:=bt bl ah9 [] (.two .o (.two (.two .o (.cM [(.s 8,.p 0)] [(.exit 0,[]),(.ret,[(.s 4,.p 0)])] .o)) .o)) (by kernel_rfl) fun c a=>by kernel_rfl
def azY:List (aX aE):=⟨232,[],[.v 5,.f [4] 1],[1],fun c a=>Hf a.1 a.2.1⟩::aia
theorem azZ:aZ (eS g) azY:=bt bl azX [] .o (by kernel_rfl) fun c a=>by kernel_rfl
end
open Classical in
noncomputable def zm:List V->Option V:=fun args=>if h:∃j,args=[.agg (ke j)]then some (.bool (Cp h.choose))else none
theorem aib (j:dV):zm [.agg (ke j)]=some (.bool (Cp j)):=by
 have h:∃wC,[V.agg (ke j)]=[.agg (ke wC)]:=⟨j,rfl⟩;unfold zm;rw[dif_pos h];exact congrArg (fun b=>some (V.bool b)) (azW (eU h.choose_spec).1).symm
def Uk:Code->Code| .block _ c=>c|c=>c
def az0:Code->Code| .loop c=>c|c=>c
noncomputable def Ul:Code:=Tryz.f128.body.getD .skip
noncomputable def oZ:Nat->Code
 |0=>Ul
 |n+1=>cB (oZ n)
noncomputable def zn:Code:=az0 (Uk (cB (fR (oZ 5))))
noncomputable def az1:Code:=.seq (fR Ul) (.seq (fR (oZ 1)) (.seq (fR (oZ 2)) (.seq (fR (oZ 3)) (.seq (fR (oZ 4)) (.seq (.seq (fR (fR (oZ 5))) (.block 4 (.loop (.seq (fR zn) (.seq (fR (cB zn)) (.seq (.block 5 (Uk (fR (cB (cB zn))))) (cB (cB (cB zn))))))))) (cB (oZ 5)))))))
theorem aic:Tryz.f128.body=some az1:=by kernel_rfl
theorem aid (h:c0 (C g) id (eS g)):nY (C g) id 128 zm:=by
 intro G H w args v xs ab eN l1;unfold zm at l1;split at l1
 case isFalse=>cases l1
 rename_i hj;have aie:=hj.choose_spec;generalize hj.choose=j at aie l1;clear hj;subst aie;cases l1;rw[DF (C:=C g) Tryz.func128 aic (by kernel_rfl)];have lZ:B2 (eS g):=avI azZ.hd;have T2:Nd (eS g):=avH ah9.hd
 have QV:=ayb (C:=C g) (fid:=id) (vars:=Ctx.varsOf Tryz.f128) (N:=Tryz.f128.ntmps) (aa:=eS g) (p1:=fR Ul) (p2:=fR (oZ 1)) (p3:=fR (oZ 2)) (k8:=fR (oZ 3)) (uv:=fR (oZ 4)) (IQ:=fR (fR (oZ 5))) (Nb:=cB (oZ 5)) (hd:=fR zn) (qD:=fR (cB zn)) (s0:=Uk (fR (cB (cB zn)))) (inc:=cB (cB (cB zn)))
  mixed tU (agH mixed tU h) (by kernel_rfl) (by kernel_rfl) (by kernel_rfl) (by kernel_rfl) (by kernel_rfl) (by kernel_rfl) (by kernel_rfl) (by kernel_rfl) (by kernel_rfl) (by kernel_rfl) (by kernel_rfl) (by kernel_rfl) (by kernel_rfl) lZ T2 j
 have hc:=QU (C:=C g) (H:=[]) (H':=[]) (pA:=[.tmp 2]) (fresh:=false) (v:=.bool (Cp j)) (low':=0) tU Tryz.func128 aic (by kernel_rfl) (args:=[.agg (ke j)]) (of_decide_eq_true (by kernel_rfl)) (QV.mono fun x s hx=>by
  obtain⟨rfl,h2⟩:=hx;refine⟨.inr rfl,[.bool (Cp j)],?_,?_⟩
  ·simp only[gP,kl,h2];rfl
  ·simp[iM,finish,fF,dR,bI,old]) ab.apart (dh.oD eN)
 exact th hc fun e w'=>fun⟨x,af,ak⟩=>⟨x,af,ak.beside ab (by simp[bI])⟩
end Go.Abs.bz
namespace Go.Abs
open Go Go.ChangeShapes
def s4:List V->V
 |[x]=>x
 |vs=>.agg vs
theorem az2{x:V}(h:eF x=true):aC x=[x]:=by cases x<;>simp_all [eF,aC]
theorem aif{l:List V}(h:bL l=true):aC (s4 l)=l:=by
 match l,h with
 |[],_=>rfl
 |[x],h=>simp only[bL,uW]at h;exact az2 h
 | _::_::_,_=>rfl
inductive fu {H:Type} (P:Program):TypeId->DataW H->List V->Prop
 |bool (t:TypeId) (b:Bool) (ht:P.underlying t=some .bool):fu P t (.lit (.bool b)) [.bool b]
 |int (t:TypeId) (k:IntKind) (n:Int) (ht:P.underlying t=some (.int k)) (hw:(Lit.int k n).wf=true):fu P t (.lit (.int k n)) [.int k n]
 |str (t:TypeId) (s:List UInt8) (ht:P.underlying t=some .string):fu P t (.lit (.string s)) [.str s]
 |nil (t e:TypeId) (ht:P.underlying t=some (.slice e)):fu P t .nil [.aN]
 |slice (t e:TypeId) (elems spare:List (DataW H)) (ls:List (List V)) (ht:P.underlying t=some (.slice e)) (hl:ls.length=elems.length)
  (h:∀(i:Nat) d l,elems[i]? =some d->ls[i]? =some l->fu P e d l):fu P t (.slice elems spare) [.list (P.cellsOf e) (ls.map s4)]
 |struct (t:TypeId) (fs:Array Field) (parts:List (DataW H)) (ls:List (List V)) (ht:P.underlying t=some (.struct fs)) (hp:parts.length=fs.size) (hl:ls.length=fs.size)
  (h:∀(i:Nat) (f:Field) d l,fs[i]? =some f->parts[i]? =some d->ls[i]? =some l->fu P f.type d l):fu P t (.agg parts) ls.flatten
def vK (P:Program):Nat->TypeId->Bool
 |0,_=>false
 |n+1,t=>match P.underlying t with
  |some .bool|some (.int _)|some .string=>P.cellsOf t==1
  |some (.slice e)=>P.cellsOf t==1&&decide (0<P.cellsOf e)&&vK P n e
  |some (.struct fs)=>fs.toList.all fun f=>vK P n f.type
  | _=>false
theorem Um{w:World}{I:Nat->Prop}:∀{vs:List V} {xs:List Value} {us:List V} {cK:List Value},dh w I vs xs->dh w I us cK->dh w I (vs++us) (xs++cK)
 | _,_,_,_,.nil,h=>h
 | _,_,_,_,.cons v x vs xs h hs,k=>.cons v x _ _ h (Um hs k)
theorem az3{a b:List V}:bL (a++b)=(bL a&&bL b):=by
 induction a with
 |nil=>simp[bL]
 |cons x a ih=>simp[bL,ih,zI]
theorem aih{α:Type}{p:Nat->α->Prop}:∀n,(∀i,i<n->∃a,p i a)->∃l:List α,l.length=n/\∀i a,l[i]? =some a->p i a
 |0,_=>⟨[],rfl,fun i a h=>by simp at h⟩
 |n+1,h=>by
  obtain⟨l,hl,hp⟩:=aih n (fun i hi=>h i (by omega));obtain⟨a,ha⟩:=h n (by omega);refine⟨l++[a],by simp[hl],fun i b hb=> ?_⟩;rcases gh i n with hi|hi
  ·rw[e5 (by omega)]at hb;exact hp i b hb
  ·rw[pX (by omega)]at hb
   have:i-l.length=0:=by
    rcases Wt (i-l.length)with h0|h0
    ·exact h0
    ·rw[lQ (by simp;omega)]at hb;cases hb
   rw[this]at hb;cases hb;have:i=n:=by omega
   rw[this];exact ha
theorem Jr{α:Type}{c:Nat}:∀{ls:List (List α)} {j:Nat} {x:α},(∀l∈ls,l.length=c)->ls.flatten[j]? =some x->∃i r l,ls[i]? =some l/\l[r]? =some x/\j=i*c+r/\r<c
 |[],j,x,_,h=>by simp at h
 |l::ls,j,x,hc,h=>by
  have hl:=hc l (by simp);rw[J1]at h;rcases gh j c with hj|hj
  ·rw[e5 (by omega)]at h
   exact⟨0,j,l,rfl,h,by omega,hj⟩
  ·rw[pX (by omega)]at h
   obtain⟨i,r,fk,h1,h2,ar,aS⟩:=Jr (fun m hm=>hc m (by simp[hm])) h;exact⟨i+1,r,fk,by simpa using h1,h2,by rw[p7];omega,aS⟩
section
variable{H:Type}{enc:TypeId × Value->H}{P:Program}{W:World}{held:Bool}
def zo (W:World):Nat->Prop:=fun b=>b<W.heap.size
def Reads (P:Program)(W:World)(t:TypeId)(cs:List Value)(d:DataW H):Prop:=
 ∃vs,fu P t d vs/\dh W (zo W) vs cs/\bL vs=true/\vs.length=P.cellsOf t/\cs.length=P.cellsOf t
theorem aii{a:Addr}{v:Value}(h:W.cell? a=some v):a.spot=none/\a.block<W.heap.size:=by
 unfold World.cell? at h;split at h
 ·rename_i c e f e8
  split at h
  ·cases h
  ·rename_i hs
   refine⟨by simpa using hs,?_⟩;rcases gh a.block W.heap.size with q|q
   ·exact q
   ·rw[zx q]at e8;cases e8
 ·cases h
theorem aij (n:Nat)(aik:∀fuel t cs (x:DataW H × List MemPlace),t<P.types.size->vK P n t=true->DataW.trod enc P W 0 (fun _=>true) held fuel t cs=some x->Reads P W t cs x.1)(m:Nat)(cs:List Value):
  ∀(a7:List Field) (xs:List (DataW H × List MemPlace)) (off:Nat),(∀(j:Nat) (f:Field),a7[j]? =some f->f.offset=off+((a7.take j).map fun f=>P.cellsOf f.type).sum)->xs.length=a7.length->(∀f∈a7,f.type<P.types.size/\vK P n f.type=true)->
   (∀(i:Nat) (f:Field),a7[i]? =some f->DataW.trod enc P W 0 (fun _=>true) held m f.type ((cs.drop f.offset).take (P.cellsOf f.type))=xs[i]?)->
   ∃ls:List (List V),ls.length=a7.length/\(∀(i:Nat) (f:Field) (y:DataW H × List MemPlace) (l:List V),a7[i]? =some f->xs[i]? =some y->ls[i]? =some l->fu P f.type y.1 l)/\dh W (zo W) ls.flatten ((cs.drop off).take (a7.map fun f=>P.cellsOf f.type).sum)/\bL ls.flatten=true/\
    ls.flatten.length=(a7.map fun f=>P.cellsOf f.type).sum
 |[],xs,off,_,hl,_,_=>⟨[],rfl,fun i f y l h=>by simp at h,by simp;exact .nil,rfl,rfl⟩
 |f::a7,xs,off,ail,hl,ag,hx=>by
  match xs,hl with
  |y::xs,hl=>
   have h0:=hx 0 f rfl;have ho:=ail 0 f rfl;simp only[List.take_zero,iT,List.sum_nil,x9]at ho;rw[ho]at h0;simp only[o8]at h0;obtain⟨vs,bB,ca,ez,fC,hG⟩:=aik m f.type _ y (ag f (by simp)).1 (ag f (by simp)).2 h0
   obtain⟨ls,q1,q2,cn,c7,fr⟩:=aij n aik m cs a7 xs (off+P.cellsOf f.type) (fun j g ba=>by
     have:=ail (j+1) g (by simpa using ba);simp only[List.take_succ_cons,dv,List.sum_cons]at this;omega) (by simpa using hl) (fun g ba=>ag g (by simp[ba])) (fun i g ba=>by simpa using hx (i+1) g (by simpa using ba))
   refine⟨vs::ls,by simp[q1],fun i g z l ba aR jZ=> ?_,?_,?_,?_⟩
   ·cases i with
    |zero=>
     simp only[o8,aB]at ba aR jZ;subst ba;subst aR;subst jZ;exact bB
    |succ i=>
     simp only[CC]at ba aR jZ;exact q2 i g z l ba aR jZ
   ·rw[J1,dv,List.sum_cons,List.take_add,zH]
    exact Um ca cn
   ·rw[J1,az3,ez,c7];rfl
   ·rw[J1,eZ,fC,fr,dv,List.sum_cons]
theorem reads (i1:laidOutB P=true):∀(n fuel:Nat) (t:TypeId) (cs:List Value) (x:DataW H × List MemPlace),t<P.types.size->vK P n t=true->DataW.trod enc P W 0 (fun _=>true) held fuel t cs=some x->Reads P W t cs x.1
 |0,_,_,_,_,_,ag,_=>by simp[vK]at ag
 |n+1,fuel,t,cs,x,NQ,ag,h=>by
  unfold vK at ag;split at ag
  ·rename_i ht
   have hc:P.cellsOf t=1:=by simpa using ag
   obtain⟨b,rfl,hx⟩:∃b,cs=[.bool b]/\x=(.lit (.bool b),[]):=by
    cases fuel with
    |zero=>simp[DataW.trod]at h
    |succ m=>
     unfold DataW.trod at h;rw[ht]at h;split at h<;>simp_all
   subst hx;exact⟨_,.bool t _ ht,.cons _ _ _ _ (.bool _) .nil,rfl,by rw[hc];rfl,by rw[hc];rfl⟩
  ·rename_i k ht
   have hc:P.cellsOf t=1:=by simpa using ag
   obtain⟨m,rfl,rfl,hw⟩:=DataW.trod_int ht h;exact⟨_,.int t k m ht hw,.cons _ _ _ _ (.int k m) .nil,rfl,by rw[hc];rfl,by rw[hc];rfl⟩
  ·rename_i ht
   have hc:P.cellsOf t=1:=by simpa using ag
   obtain⟨s,rfl,rfl,hw⟩:=DataW.trod_string ht h;obtain⟨⟨s⟩⟩:=s;exact⟨_,.str t _ ht,.cons _ _ _ _ (.str s) .nil,rfl,by rw[hc];rfl,by rw[hc];rfl⟩
  ·rename_i e ht
   simp only[b6,beq_iff_eq,decide_eq_true_eq]at ag;obtain⟨⟨hc,ry⟩,jn⟩:=ag;have eo:=kid_slice i1 NQ ht;rcases DataW.trod_slice ht h with⟨rfl,rfl⟩|⟨a,len,cap,elems,rest,m,-,rfl,rfl,-,np,-,hlen,y3,-,-⟩
   ·exact⟨_,.nil t e ht,.cons _ _ _ _ .aN .nil,rfl,by rw[hc];rfl,by rw[hc];rfl⟩
   ·have each:∀i,i<len->∃q:List Value × List V,(∃y,elems[i]? =some y/\W.cells? 0 (a.add (i*P.cellsOf e)) (P.cellsOf e)=some q.1/\fu P e y.1 q.2/\dh W (zo W) q.2 q.1/\bL q.2=true/\q.2.length=P.cellsOf e/\q.1.length=P.cellsOf e):=fun i hi=>by
     have hb:=y3 i hi;obtain⟨y,hy⟩:∃y,elems[i]? =some y:=⟨_,eg (by omega)⟩;rw[hy,ek]at hb;obtain⟨cs',h1,h2⟩:=hb;obtain⟨vs,bB,ca,ez,fC,hG⟩:=reads i1 n m e cs' y eo jn h2;exact⟨(cs',vs),y,hy,h1,bB,ca,ez,fC,hG⟩
    obtain⟨lP,aim,bf⟩:=aih len each;have eW:∀q∈lP,∃i,lP[i]? =some q:=fun q h=>Og h;refine⟨[.list (P.cellsOf e) ((lP.map (·.2)).map s4)],.slice t e (elems.map (·.1)) (rest.map (·.1)) (lP.map (·.2)) ht (by simp[aim,hlen]) (fun i d l hd hl=> ?_),?_,rfl,by rw[hc];rfl,by rw[hc];rfl⟩
    ·rw[hL]at hd hl
     cases Cq:lP[i]? with
     |none=>rw[Cq]at hl;cases hl
     |some q=>
      obtain⟨y,hy,-,h2,-⟩:=bf i q Cq;rw[Cq]at hl;rw[hy]at hd;cases hd;cases hl;exact h2
    ·refine .cons _ _ _ _ ?_ .nil
     cases tG:len with
     |zero=>
      have:lP=[]:=List.eq_nil_of_length_eq_zero (by omega);subst this;exact .vY _ a cap
     |succ aEV=>
      obtain⟨fh,Uj⟩:∃q,lP[0]? =some q:=⟨_,eg (by omega)⟩;obtain⟨avy,-,Un,-,-,-,-,rb⟩:=bf 0 fh Uj;have Uo:=(World.cells?_some Un).2.2 0 ry;obtain⟨v0,oL⟩:∃v,fh.1[0]? =some v:=⟨_,eg (by omega)⟩;rw[oL]at Uo;obtain⟨h8,bd,az4⟩:=a
      have l1:az4=none:=by
       have:=(aii Uo).1;simpa[Addr.add]using this
      subst l1
      have hD:h8<W.heap.size:=by
       have:=(aii Uo).2;rwa [block_add,block_add]at this
      have E2:((lP.map (·.2)).map s4).length=len:=by simp[aim]
      have key:fN W (zo W) (.list (P.cellsOf e) ((lP.map (·.2)).map s4)) (.slice (some ⟨h8,bd,none⟩) ((lP.map (·.2)).map s4).length cap):=by
       refine .list _ _ h8 bd cap (lP.map (·.1)).flatten hD (fun j x hj=> ?_) (fun d hd=> ?_) ?_ (by rw[E2];exact np)
       ·obtain⟨i,r,l,h1,h2,rfl,aS⟩:=Jr (c:=P.cellsOf e) (fun l hl=>by
         obtain⟨q,Js,rfl⟩:=dZ.1 hl;obtain⟨i,hi⟩:=eW q Js;obtain⟨y,-,-,-,-,-,-,h⟩:=bf i q hi;exact h) hj
        rw[hL]at h1;cases Cq:lP[i]? with
        |none=>rw[Cq]at h1;cases h1
        |some q=>
         rw[Cq]at h1;cases h1;obtain⟨y,-,eV,-⟩:=bf i q Cq;have:=(World.cells?_some eV).2.2 r aS;rw[h2]at this
         have af:((⟨h8,bd,none⟩:Addr).add (i*P.cellsOf e)).add r=⟨h8,bd+(i*P.cellsOf e+r),none⟩:=by
          simp only[Addr.add];split<;>split<;>simp_all<;>omega
         rw[af]at this;exact this
       ·obtain⟨l,hl,rfl⟩:=dZ.1 hd
        obtain⟨q,Js,rfl⟩:=dZ.1 hl;obtain⟨i,hi⟩:=eW q Js;obtain⟨y,-,-,-,-,h5,eA,-⟩:=bf i q hi;rw[aif h5];exact eA
       ·have eP:∀q∈lP,dh W (zo W) q.2 q.1/\bL q.2=true:=fun q Js=>by
         obtain⟨i,hi⟩:=eW q Js;obtain⟨y,-,-,-,aS,h5,-⟩:=bf i q hi;exact⟨aS,h5⟩
        have:∀lP:List (List Value × List V),(∀q∈lP,dh W (zo W) q.2 q.1/\bL q.2=true)->dh W (zo W) (((lP.map (·.2)).map s4).flatMap aC) (lP.map (·.1)).flatten:=by
         intro lP
         induction lP with
         |nil=>intro _;exact .nil
         |cons q lP ih=>
          intro h;have h0:=h q (by simp);simp only[dv,im,J1];rw[aif h0.2];exact Um h0.1 (ih fun p hp=>h p (by simp[hp]))
        exact this lP eP
      rw[E2,tG]at key;exact key
  ·rename_i fs ht
   obtain⟨bQ,c6,iX⟩:=kid_struct i1 NQ ht;obtain⟨xs,m,-,rfl,fm,lD,hx⟩:=DataW.trod_struct ht h;rw[ev]at ag;obtain⟨ls,q1,q2,cn,c7,fr⟩:=aij n (fun fuel t cs x a b c=>reads i1 n fuel t cs x a b c) m cs fs.toList xs 0 (fun j f hj=>by rw[iX j f hj];omega) (by simpa using lD) (fun f ain=>⟨bQ f ain,ag f ain⟩) (fun i f hi=>hx i f (by simpa using hi));refine⟨ls.flatten,.struct t fs (xs.map (·.1)) ls ht (by simpa using lD) (by simpa using q1) (fun i f d l tE hd hl=> ?_),?_,c7,by rw[fr,c6],fm⟩
   ·rw[hL]at hd
    cases xL:xs[i]? with
    |none=>rw[xL]at hd;cases hd
    |some y=>
     rw[xL]at hd;cases hd;exact q2 i f y l (by simpa using tE) xL hl
   ·rw[CJ,JS (by rw[fm,c6];exact aH _)]at cn
    exact cn
  ·cases ag
theorem lu{t:TypeId}{k:IntKind}{d:DataW H}{vs:List V}(ht:P.underlying t=some (.int k))(h:fu P t d vs):∃n,d=.lit (.int k n)/\vs=[.int k n]/\(Lit.int k n).wf=true:=by
 cases h<;>rename_i eh<;>rw[ht]at* <;>try (first|(cases eh;done)|contradiction)
 ·rename_i hw;cases eh;exact⟨_,rfl,rfl,hw⟩
theorem Up{t:TypeId}{d:DataW H}{vs:List V}(ht:P.underlying t=some .string)(h:fu P t d vs):∃s,d=.lit (.string s)/\vs=[.str s]:=by
 cases h with
 |str _ s eh=>exact⟨s,rfl,rfl⟩
 |bool _ _ eh|int _ _ _ eh _|nil _ _ eh|slice _ _ _ _ _ eh _ _|struct _ _ _ _ eh _ _ _=>rw[ht]at eh;cases eh
theorem az5{t:TypeId}{d:DataW H}{vs:List V}(ht:P.underlying t=some .bool)(h:fu P t d vs):∃b,d=.lit (.bool b)/\vs=[.bool b]:=by
 cases h with
 |bool _ b eh=>exact⟨b,rfl,rfl⟩
 |str _ _ eh|int _ _ _ eh _|nil _ _ eh|slice _ _ _ _ _ eh _ _|struct _ _ _ _ eh _ _ _=>rw[ht]at eh;cases eh
theorem aio{t e:TypeId}{d:DataW H}{vs:List V}(ht:P.underlying t=some (.slice e))(h:fu P t d vs):
  (d=.nil/\vs=[.aN])\/∃(elems spare:List (DataW H)) (ls:List (List V)),d=.slice elems spare/\vs=[.list (P.cellsOf e) (ls.map s4)]/\ls.length=elems.length/\∀(i:Nat) d l,elems[i]? =some d->ls[i]? =some l->fu P e d l:=by
 cases h with
 |nil _ _ eh=>exact .inl ⟨rfl,rfl⟩
 |slice _ e' elems spare ls eh hl h=>rw[ht]at eh;cases eh;exact .inr ⟨elems,spare,ls,rfl,rfl,hl,h⟩
 |bool _ _ eh|str _ _ eh|int _ _ _ eh _|struct _ _ _ _ eh _ _ _=>rw[ht]at eh;cases eh
theorem s5{t:TypeId}{fs:Array Field}{d:DataW H}{vs:List V}(ht:P.underlying t=some (.struct fs))(h:fu P t d vs):
  ∃(parts:List (DataW H)) (ls:List (List V)),d=.agg parts/\vs=ls.flatten/\parts.length=fs.size/\ls.length=fs.size/\∀(i:Nat) (f:Field) d l,fs[i]? =some f->parts[i]? =some d->ls[i]? =some l->fu P f.type d l:=by
 cases h with
 |struct _ aEW parts ls eh hp hl h=>rw[ht]at eh;cases eh;exact⟨parts,ls,rfl,rfl,hp,hl,h⟩
 |bool _ _ eh|str _ _ eh|int _ _ _ eh _|nil _ _ eh|slice _ _ _ _ _ eh _ _=>rw[ht]at eh;cases eh
theorem az6{t e:TypeId}{elems spare:List (DataW H)}(ht:P.underlying t=some (.slice e)):(elems.length+spare.length)*P.bytesOf e∈(DataW.slice elems spare).weights P t:=by simp[DataW.weights,ht]
theorem az7 (i1:laidOutB P=true){n:Nat}{t:TypeId}{v:Value}{d:DataW H}{ps:List MemPlace}(NQ:t<P.types.size)(ag:vK P n t=true)(jl:v.cells.toList=[v])
  (hd:DataW.Trod enc P W 0 (fun _=>true) held t v d ps):∃hS,fu P t d [hS]/\fN W (zo W) hS v:=by
 obtain⟨fuel,hd⟩:=hd;obtain⟨vs,bB,ca,ez,fC,hG⟩:=reads i1 n fuel t _ _ NQ ag hd;rw[jl]at ca;cases ca with
 |cons hS x vs xs h hs=>cases hs;exact⟨hS,bB,h⟩
end
end Go.Abs
namespace Go.Abs.bz
open Go Go.Abs Go.Proofs
set_option maxRecDepth 100000
def tK (W:World):bX:=⟨fun _=>none,fun b=>b<W.heap.size⟩
theorem az8 (W:World):a8 (C fun b=>W.heap[b]?) id (tK W) [] W where
 obj l h e:=by cases e
 inj l fk h h' e:=by cases e
 blk l h e:=by cases e
 da b hb:=⟨hb,fun l h e=>by cases e⟩
 k4 l h e:=by cases e
 fG b o h:=⟨by
  rcases gh b W.heap.size with q|q
  ·exact q
  ·simp[C,zx q]at h,h⟩
theorem Jt{W w':World}{G':bX}{H':Heap}(ab:a8 (C fun b=>W.heap[b]?) id G' H' w'){b:Nat}(hb:b<W.heap.size):w'.heap[b]? =W.heap[b]? :=by
 have h:W.heap[b]? =some W.heap[b]:=by simp[hb]
 rw[(ab.fG b _ h).2,h]
theorem az9{W w':World}{G':bX}{H':Heap}(ab:a8 (C fun b=>W.heap[b]?) id G' H' w'){b off:Nat}(hb:b<W.heap.size):w'.cell? ⟨b,off,none⟩=W.cell? ⟨b,off,none⟩:=by
 unfold World.cell?; rw[Jt ab hb]
theorem aAa{W w':World}{G':bX}{H':Heap}(ab:a8 (C fun b=>W.heap[b]?) id G' H' w')(ho:w'.os=W.os)(hp:w'.output=W.output)(may:MemPlace->Prop):W.keptBut w' may:=by
 refine⟨ho,hp,fun i hi=> ?_⟩;rw[Jt ab hi];cases h:W.heap[i]? with
 |none=>simp
 |some o=>cases o<;>simp
theorem aip{P:Program}{w:World}{n:String}{d:DataW Unit}:∀{l:List (String × DataW Unit)} {ps:List MemPlace},DataW.LaidVars P w l ps->(n,d)∈l->
  ∃g t cs fuel p,P.globalNamed n=some g/\(P.globals[g]?).map (·.type)=some t/\w.var? P n=some cs/\DataW.trod (fun _=>()) P w 0 (fun _=>true) false fuel t cs.toList=some (d,p)
 |[],_,_,h=>by cases h
 |(m,e)::r,ps,h,hm=>by
  obtain⟨g,t,cs,fuel,p,q,h1,h2,ar,aS,h5,-⟩:=h;rcases dx.1 hm with hm|hm
  ·cases hm;exact⟨g,t,cs,fuel,p,h1,h2,ar,aS⟩
  ·exact aip h5 hm
theorem aiq{P:Program}{W:World}{name:String}{k:IntKind}{zs:List Int}{l:List (String × DataW Unit)}{g:Nat}{t e:TypeId}{n:Nat}
  (ba:P.globalNamed name=some g) (aAb:(P.globals[g]?).map (·.type)=some t) (ht:P.underlying t=some (.array n e)) (he:P.underlying e=some (.int k)) (ry:P.cellsOf e=1) (ahR:P.cellsOf t=n)
  (h:laidMet P l W) (hm:(name,Lib.tabData k zs)∈l):Lib.TabIs P W name k zs:=by
 obtain⟨ps,ad,-⟩:=h;obtain⟨E3,ey,cs,fuel,p,aAc,eh,aAd,hd⟩:=aip ad hm;obtain rfl:=te (ba.symm.trans aAc);obtain rfl:=te (aAb.symm.trans eh);unfold Lib.TabIs;rw[aAd,<-Lib.cells_of_tab ht he ry ahR hd]
theorem air{W w':World}{G':bX}{H':Heap}(ab:a8 (C fun b=>W.heap[b]?) id G' H' w'){name:String}{k:IntKind}{zs:List Int}(h:Lib.TabIs Tryz.prog W name k zs):Lib.TabIs Tryz.prog w' name k zs:=by
 unfold Lib.TabIs World.var? at h⊢;cases ba:Tryz.prog.globalNamed name with
 |none=>rw[ba]at h;cases h
 |some g=>
  rw[ba]at h;simp only[bs]at h⊢
  have hb:g<W.heap.size:=by
   rcases gh g W.heap.size with q|q
   ·exact q
   ·rw[zx q]at h;cases h
  rw[Jt ab hb];exact h
section
variable{W:World}{H:Type}{enc:TypeId × Value->H}
theorem ais{w':World}{T:TypeId->Prop}(K:Kids Tryz.prog T)(de:∀{t e:TypeId},T t->Tryz.prog.underlying t=some (.slice e)->0<Tryz.prog.cellsOf e){ait:Nat->Bool}:
  ∀{ts:List TypeId} {vs:List Value} {ds:List (DataW H)} {p:List MemPlace},(∀t∈ts,T t)->DataW.TrodAll enc Tryz.prog W 0 (fun _=>true) true ts vs ds p->(∀q∈p,W.sameAt w' q)->(∀q∈p,ait q.block=true)->
   DataW.TrodAll enc Tryz.prog w' 0 ait true ts vs ds p
 |[],vs,ds,p,_,h,_,_=>by
  obtain⟨rfl,rfl,rfl⟩:=ChangeShapes.trodAll_nil h;rfl
 |t::ts,vs,ds,p,hT,h,hs,hp=>by
  obtain⟨v,vs',d,ds',a,b,rfl,rfl,rfl,⟨fuel,h1⟩,h2⟩:=ChangeShapes.trodAll_cons h;refine⟨a,b,⟨fuel,DataW.trod_stays K de (fun h=>by cases h) (hT t (by simp)) h1 (fun q bf=>hs q (by simp[bf])) (fun q bf=>hp q (by simp[bf]))⟩,ais K de (fun u hu=>hT u (by simp[hu])) h2 (fun q bf=>hs q (by simp[bf])) (fun q bf=>hp q (by simp[bf])),rfl⟩
end
set_option maxRecDepth 100000 in
theorem laidOut:laidOutB Tryz.prog=true:=by kernel_rfl
theorem aAe:mapsRowed Tryz.prog=true:=by kernel_rfl
theorem kids:Kids Tryz.prog (· <Tryz.prog.types.size):=kids_rows laidOut aAe
theorem aAf:((List.range Tryz.prog.types.size).all fun t=>match Tryz.prog.underlying t with|some (.slice e)=>decide (0<Tryz.prog.cellsOf e)| _=>true)=true:=by kernel_rfl
theorem aAg{t e:TypeId}(h:t<Tryz.prog.types.size)(hu:Tryz.prog.underlying t=some (.slice e)):0<Tryz.prog.cellsOf e:=by
 have:=ev.1 aAf t (zJ.2 h);rw[hu]at this;simpa using this
theorem aAh{W w':World}{G':bX}{H':Heap}(ab:a8 (C fun b=>W.heap[b]?) id G' H' w'){q:MemPlace}(hb:q.block<W.heap.size):W.sameAt w' q:=by
 cases q with
 |cell b off=>exact az9 ab hb
 |map b=>exact Jt ab hb
theorem aAi{W w':World}{G':bX}{H':Heap}(ab:a8 (C fun b=>W.heap[b]?) id G' H' w'){a:Addr}(hb:a.block<W.heap.size):w'.frozen? a=W.frozen? a:=by
 unfold World.frozen?; rw[Jt ab hb]
end Go.Abs.bz
namespace Go.Abs.bz
open Go Go.Abs Go.Proofs
set_option maxRecDepth 100000
theorem uM{H A:Type}{P:Program}{t e:TypeId}{es:Nat}{f:A->V}{d:DataW H}{l:List V}(ht:P.underlying t=some (.slice e))(eo:P.cellsOf e=es)(he:∀(d:DataW H) l,fu P e d l->∃a:A,s4 l=f a)(h:fu P t d l):∃s:ae A,l=[bn es f s]:=by
 rcases aio ht h with⟨-,rfl⟩|⟨elems,spare,ls,-,rfl,hl,hr⟩
 ·exact⟨.nil,rfl⟩
 ·have:∀(ls:List (List V)),(∀l∈ls,∃a:A,s4 l=f a)->∃xs:List A,ls.map s4=xs.map f:=by
   intro ls
   induction ls with
   |nil=>exact fun _=>⟨[],rfl⟩
   |cons l ls ih=>
    intro h;obtain⟨a,ha⟩:=h l (by simp);obtain⟨xs,hx⟩:=ih fun l hl=>h l (by simp[hl]);exact⟨a::xs,by rw[dv,dv,ha,hx]⟩
  obtain⟨xs,hx⟩:=this ls fun l E2=>by
   obtain⟨i,hi⟩:=Og E2;have nZ:i<ls.length:=(fj.1 hi).1;exact he _ l (hr i _ l (eg (by omega)) hi)
  exact⟨.mk xs,by rw[hx,eo];rfl⟩
theorem zp{α:Type}{l:List α}(h:l.length=2):∃a0 al,l=[a0,al]:=by
 match l,h with
 |[a0,al],_=>exact⟨a0,al,rfl⟩
theorem vL{α:Type}{l:List α}(h:l.length=3):∃a0 al a2,l=[a0,al,a2]:=by
 match l,h with
 |[a0,al,a2],_=>exact⟨a0,al,a2,rfl⟩
theorem NR{α:Type}{l:List α}(h:l.length=5):∃a0 al a2 a3 a4,l=[a0,al,a2,a3,a4]:=by
 match l,h with
 |[a0,al,a2,a3,a4],_=>exact⟨a0,al,a2,a3,a4,rfl⟩
theorem aiu{α:Type}{l:List α}(h:l.length=7):∃a0 al a2 a3 a4 a5 Jl,l=[a0,al,a2,a3,a4,a5,Jl]:=by
 match l,h with
 |[a0,al,a2,a3,a4,a5,Jl],_=>exact⟨a0,al,a2,a3,a4,a5,Jl,rfl⟩
section
variable{W:World}{H:Type}{enc:TypeId × Value->H}
theorem NS{d:DataW H}{l:List V}(h:fu Tryz.prog 22 d l):∃s:ae Int,l=[bn 1 aI s]:=
 uM Tryz.underlying22 (by kernel_rfl) (fun d l h=>by obtain⟨n,-,rfl,-⟩:=lu Tryz.underlying3 h;exact⟨n,rfl⟩) h
theorem aAj{d:DataW H}{l:List V}(h:fu Tryz.prog 125 d l):∃x:Range,l=aC (rz x):=by
 obtain⟨parts,ls,-,rfl,hp,hl,hr⟩:=s5 Tryz.underlying125 h;obtain⟨p0,p1,rfl⟩:=zp hp;obtain⟨qx,cb,rfl⟩:=zp hl;obtain⟨c9,-,rfl,-⟩:=lu Tryz.underlying3 (hr 0 _ _ _ rfl rfl rfl);obtain⟨cq,-,rfl,-⟩:=lu Tryz.underlying3 (hr 1 _ _ _ rfl rfl rfl);exact⟨⟨c9,cq⟩,rfl⟩
theorem aAk{d:DataW H}{l:List V}(h:fu Tryz.prog 139 d l):∃x:Table,l=aC (l8 x):=by
 obtain⟨parts,ls,-,rfl,hp,hl,hr⟩:=s5 Tryz.underlying139 h;obtain⟨p0,p1,p2,p3,k8,rfl⟩:=NR hp;obtain⟨qx,cb,jk,EI,Bu,rfl⟩:=NR hl;obtain⟨c9,-,rfl⟩:=Up Tryz.underlying9 (hr 0 _ _ _ rfl rfl rfl);obtain⟨cq,-,rfl,-⟩:=lu Tryz.underlying3 (hr 1 _ _ _ rfl rfl rfl);obtain⟨ed,rfl⟩:=NS (hr 2 _ _ _ rfl rfl rfl);obtain⟨hQ,rfl⟩:=aAj (hr 3 _ _ _ rfl rfl rfl);obtain⟨ll,-,rfl,-⟩:=lu Tryz.underlying3 (hr 4 _ _ _ rfl rfl rfl);exact⟨⟨c9,cq,ed,hQ,ll⟩,rfl⟩
theorem aAl{d:DataW H}{l:List V}(h:fu Tryz.prog 23 d l):∃s:ae Table,l=[bn 6 l8 s]:=
 uM Tryz.underlying23 (by kernel_rfl) (fun d l h=>by obtain⟨x,rfl⟩:=aAk h;exact⟨x,rfl⟩) h
theorem aAm{d:DataW H}{l:List V}(h:fu Tryz.prog 24 d l):∃s:ae dn,l=[bn 1 V.str s]:=
 uM Tryz.underlying24 (by kernel_rfl) (fun d l h=>by obtain⟨n,-,rfl⟩:=Up Tryz.underlying9 h;exact⟨n,rfl⟩) h
theorem aAn{d:DataW H}{l:List V}(h:fu Tryz.prog 110 d l):∃x:Term,l=aC (oX x):=by
 obtain⟨parts,ls,-,rfl,hp,hl,hr⟩:=s5 Tryz.underlying110 h;obtain⟨p0,p1,rfl⟩:=zp hp;obtain⟨qx,cb,rfl⟩:=zp hl;obtain⟨c9,-,rfl,-⟩:=lu Tryz.underlying3 (hr 0 _ _ _ rfl rfl rfl);obtain⟨cq,-,rfl,-⟩:=lu Tryz.underlying3 (hr 1 _ _ _ rfl rfl rfl);exact⟨⟨c9,cq⟩,rfl⟩
theorem aAo{d:DataW H}{l:List V}(h:fu Tryz.prog 67 d l):∃s:ae Term,l=[bn 2 oX s]:=
 uM Tryz.underlying67 (by kernel_rfl) (fun d l h=>by obtain⟨x,rfl⟩:=aAn h;exact⟨x,rfl⟩) h
theorem aiv{d:DataW H}{l:List V}(h:fu Tryz.prog 69 d l):∃x:Row,l=aC (vm x):=by
 obtain⟨parts,ls,-,rfl,hp,hl,hr⟩:=s5 Tryz.underlying69 h;obtain⟨p0,p1,rfl⟩:=zp hp;obtain⟨qx,cb,rfl⟩:=zp hl;obtain⟨c9,rfl⟩:=aAo (hr 0 _ _ _ rfl rfl rfl);obtain⟨cq,-,rfl,-⟩:=lu Tryz.underlying3 (hr 1 _ _ _ rfl rfl rfl);exact⟨⟨c9,cq⟩,rfl⟩
theorem aAp{d:DataW H}{l:List V}(h:fu Tryz.prog 73 d l):∃x:Constraint,l=aC (uc x):=by
 obtain⟨parts,ls,-,rfl,hp,hl,hr⟩:=s5 Tryz.underlying73 h;obtain⟨p0,p1,p2,p3,k8,rfl⟩:=NR hp;obtain⟨qx,cb,jk,EI,Bu,rfl⟩:=NR hl;obtain⟨c9,-,rfl,-⟩:=lu Tryz.underlying3 (hr 0 _ _ _ rfl rfl rfl);obtain⟨cq,-,rfl,-⟩:=lu Tryz.underlying3 (hr 1 _ _ _ rfl rfl rfl);obtain⟨ed,rfl⟩:=aiv (hr 2 _ _ _ rfl rfl rfl);obtain⟨hQ,-,rfl,-⟩:=lu Tryz.underlying3 (hr 3 _ _ _ rfl rfl rfl);obtain⟨ll,-,rfl,-⟩:=lu Tryz.underlying3 (hr 4 _ _ _ rfl rfl rfl);exact⟨⟨c9,cq,ed,hQ,ll⟩,rfl⟩
theorem aAq{d:DataW H}{l:List V}(h:fu Tryz.prog 25 d l):∃s:ae Constraint,l=[bn 6 uc s]:=
 uM Tryz.underlying25 (by kernel_rfl) (fun d l h=>by obtain⟨x,rfl⟩:=aAp h;exact⟨x,rfl⟩) h
theorem aAr{d:DataW H}{l:List V}(h:fu Tryz.prog 96 d l):∃x:eu,l=aC (ud x):=by
 obtain⟨parts,ls,-,rfl,hp,hl,hr⟩:=s5 Tryz.underlying96 h;obtain⟨p0,p1,p2,rfl⟩:=vL hp;obtain⟨qx,cb,jk,rfl⟩:=vL hl;obtain⟨c9,-,rfl⟩:=Up Tryz.underlying9 (hr 0 _ _ _ rfl rfl rfl);obtain⟨cq,-,rfl⟩:=az5 Tryz.underlying4 (hr 1 _ _ _ rfl rfl rfl);obtain⟨ed,rfl⟩:=NS (hr 2 _ _ _ rfl rfl rfl);exact⟨⟨c9,cq,ed⟩,rfl⟩
theorem aAs{d:DataW H}{l:List V}(h:fu Tryz.prog 26 d l):∃s:ae eu,l=[bn 3 ud s]:=
 uM Tryz.underlying26 (by kernel_rfl) (fun d l h=>by obtain⟨x,rfl⟩:=aAr h;exact⟨x,rfl⟩) h
theorem aAt{d:DataW H}{l:List V}(h:fu Tryz.prog 108 d l):∃x:Change,l=aC (ue x):=by
 obtain⟨parts,ls,-,rfl,hp,hl,hr⟩:=s5 Tryz.underlying108 h;obtain⟨p0,p1,rfl⟩:=zp hp;obtain⟨qx,cb,rfl⟩:=zp hl;obtain⟨c9,-,rfl,-⟩:=lu Tryz.underlying3 (hr 0 _ _ _ rfl rfl rfl);obtain⟨cq,-,rfl,-⟩:=lu Tryz.underlying3 (hr 1 _ _ _ rfl rfl rfl);exact⟨⟨c9,cq⟩,rfl⟩
theorem aAu{d:DataW H}{l:List V}(h:fu Tryz.prog 31 d l):∃s:ae Change,l=[bn 2 ue s]:=
 uM Tryz.underlying31 (by kernel_rfl) (fun d l h=>by obtain⟨x,rfl⟩:=aAt h;exact⟨x,rfl⟩) h
theorem aAv{d:DataW H}{l:List V}(h:fu Tryz.prog 32 d l):∃s:ae Row,l=[bn 2 vm s]:=
 uM Tryz.underlying32 (by kernel_rfl) (fun d l h=>by obtain⟨x,rfl⟩:=aiv h;exact⟨x,rfl⟩) h
theorem aAw{d:DataW H}{l:List V}(h:fu Tryz.prog 216 d l):∃x:mN,l=aC (vn x):=by
 obtain⟨parts,ls,-,rfl,hp,hl,hr⟩:=s5 Tryz.underlying216 h;obtain⟨p0,p1,p2,rfl⟩:=vL hp;obtain⟨qx,cb,jk,rfl⟩:=vL hl;obtain⟨c9,-,rfl,-⟩:=lu Tryz.underlying3 (hr 0 _ _ _ rfl rfl rfl);obtain⟨cq,-,rfl,-⟩:=lu Tryz.underlying3 (hr 1 _ _ _ rfl rfl rfl);obtain⟨ed,-,rfl,-⟩:=lu Tryz.underlying3 (hr 2 _ _ _ rfl rfl rfl);exact⟨⟨c9,cq,ed⟩,rfl⟩
theorem aAx{d:DataW H}{l:List V}(h:fu Tryz.prog 33 d l):∃s:ae mN,l=[bn 3 vn s]:=
 uM Tryz.underlying33 (by kernel_rfl) (fun d l h=>by obtain⟨x,rfl⟩:=aAw h;exact⟨x,rfl⟩) h
theorem aAy{d:DataW H}{l:List V}(h:fu Tryz.prog 35 d l):∃x:b4,l=aC (DV x):=by
 obtain⟨parts,ls,-,rfl,hp,hl,hr⟩:=s5 Tryz.underlying35 h;obtain⟨p0,p1,p2,rfl⟩:=vL hp;obtain⟨qx,cb,jk,rfl⟩:=vL hl;obtain⟨c9,rfl⟩:=aAu (hr 0 _ _ _ rfl rfl rfl);obtain⟨cq,rfl⟩:=aAv (hr 1 _ _ _ rfl rfl rfl);obtain⟨ed,rfl⟩:=aAx (hr 2 _ _ _ rfl rfl rfl);exact⟨⟨c9,cq,ed⟩,rfl⟩
theorem aAz{d:DataW H}{l:List V}(h:fu Tryz.prog 61 d l):∃x:Action,l=aC (uf x):=by
 obtain⟨parts,ls,-,rfl,hp,hl,hr⟩:=s5 Tryz.underlying61 h;obtain⟨p0,p1,p2,rfl⟩:=vL hp;obtain⟨qx,cb,jk,rfl⟩:=vL hl;obtain⟨c9,-,rfl,-⟩:=lu Tryz.underlying3 (hr 0 _ _ _ rfl rfl rfl);obtain⟨cq,rfl⟩:=NS (hr 1 _ _ _ rfl rfl rfl);obtain⟨ed,rfl⟩:=aAy (hr 2 _ _ _ rfl rfl rfl);exact⟨⟨c9,cq,ed⟩,rfl⟩
theorem aAA{d:DataW H}{l:List V}(h:fu Tryz.prog 27 d l):∃s:ae Action,l=[bn 5 uf s]:=
 uM Tryz.underlying27 (by kernel_rfl) (fun d l h=>by obtain⟨x,rfl⟩:=aAz h;exact⟨x,rfl⟩) h
theorem aAB{d:DataW H}{l:List V}(h:fu Tryz.prog 197 d l):∃x:gM,l=aC (jH x):=by
 obtain⟨parts,ls,-,rfl,hp,hl,hr⟩:=s5 Tryz.underlying197 h;obtain⟨p0,p1,p2,rfl⟩:=vL hp;obtain⟨qx,cb,jk,rfl⟩:=vL hl;obtain⟨c9,-,rfl,-⟩:=lu Tryz.underlying3 (hr 0 _ _ _ rfl rfl rfl);obtain⟨cq,-,rfl,-⟩:=lu Tryz.underlying3 (hr 1 _ _ _ rfl rfl rfl);obtain⟨ed,-,rfl,-⟩:=lu Tryz.underlying3 (hr 2 _ _ _ rfl rfl rfl);exact⟨⟨c9,cq,ed⟩,rfl⟩
theorem aAC{d:DataW H}{l:List V}(h:fu Tryz.prog 28 d l):∃s:ae gM,l=[bn 3 jH s]:=
 uM Tryz.underlying28 (by kernel_rfl) (fun d l h=>by obtain⟨x,rfl⟩:=aAB h;exact⟨x,rfl⟩) h
theorem aAD{d:DataW H}{l:List V}(h:fu Tryz.prog 30 d l):∃x:Model,l=aC (ug x):=by
 obtain⟨parts,ls,-,rfl,hp,hl,hr⟩:=s5 Tryz.underlying30 h;obtain⟨p0,p1,p2,p3,k8,uv,IQ,rfl⟩:=aiu hp;obtain⟨qx,cb,jk,EI,Bu,Cm,zj,rfl⟩:=aiu hl;obtain⟨c9,rfl⟩:=NS (hr 0 _ _ _ rfl rfl rfl);obtain⟨cq,rfl⟩:=aAl (hr 1 _ _ _ rfl rfl rfl);obtain⟨ed,rfl⟩:=aAm (hr 2 _ _ _ rfl rfl rfl);obtain⟨hQ,rfl⟩:=aAq (hr 3 _ _ _ rfl rfl rfl);obtain⟨ll,rfl⟩:=aAs (hr 4 _ _ _ rfl rfl rfl);obtain⟨gb,rfl⟩:=aAA (hr 5 _ _ _ rfl rfl rfl);obtain⟨pK,rfl⟩:=aAC (hr 6 _ _ _ rfl rfl rfl);exact⟨⟨c9,cq,ed,hQ,ll,gb,pK⟩,rfl⟩
theorem aAE:vK Tryz.prog 12 30=true:=by kernel_rfl
theorem aAF:30<Tryz.prog.types.size:=of_decide_eq_true (by kernel_rfl)
theorem aAG{b:Nat}{v:Value}(hval:Value.okWide Tryz.prog W .any b 30 v):∃cs,v=.agg cs:=by
 unfold Value.okWide at hval;rw[Tryz.underlying30]at hval;cases v<;>first|exact⟨_,rfl⟩|(simp at hval)
theorem aiw{b:Nat}{v:Value}(hval:Value.okWide Tryz.prog W .any b 30 v){d:DataW H}{p:List MemPlace}{held:Bool}(hd:DataW.Trod enc Tryz.prog W 0 (fun _=>true) held 30 v d p):∃m:Model,fN W (tK W).I (ug m) v:=by
 obtain⟨cs,rfl⟩:=aAG hval;obtain⟨fuel,hd⟩:=hd;obtain⟨vs,bB,ca,-⟩:=reads laidOut 12 fuel 30 _ _ aAF aAE hd;obtain⟨m,rfl⟩:=aAD bB;exact⟨m,.agg _ cs.toList ca⟩
end
end Go.Abs.bz
namespace Go.Abs.bz
open Go Go.Abs Go.Proofs
set_option maxRecDepth 100000
section
variable{W:World}{H:Type}{enc:TypeId × Value->H}
theorem Uq{b:Nat}{v:Value}(hval:Value.okWide Tryz.prog W .any b 5 v){d:DataW H}{p:List MemPlace}{held:Bool}(hd:DataW.Trod enc Tryz.prog W 0 (fun _=>true) held 5 v d p):∃n:Int,(0<=n/\n<=255)/\fN W (tK W).I (.int .u8 n) v:=by
 unfold Value.okWide at hval;rw[Tryz.underlying5]at hval;cases v<;>simp[Cell.okWide,Cell.ok,Tryz.underlying5]at hval;obtain⟨rfl,h⟩:=hval;refine⟨_,?_,.int _ _⟩;have h1:=h.1;have h2:=h.2;simp[IntKind.min,IntKind.max,IntKind.signed,IntKind.bits]at h1 h2;omega
def Ur (P:Program)(t:TypeId)(d:DataW H):Prop:=∀n∈d.weights P t,n<=reachBytes
theorem Us{ts:List TypeId}{ds:List (DataW H)}(h:(DataW.weightsEach Tryz.prog ts ds).all (· <=reachBytes)=true){j:Nat}{t:TypeId}{d:DataW H}(ht:ts[j]? =some t)(hd:ds[j]? =some d):Ur Tryz.prog t d:=fun n hn=>by
 have:=ev.1 h n (DataW.weights_mem_each ht hd n hn);simpa using this
theorem aAH{t e:TypeId}{elems spare:List (DataW H)}(ht:Tryz.prog.underlying t=some (.slice e))(hb:1<=Tryz.prog.bytesOf e)(h:Ur Tryz.prog t (.slice elems spare)):elems.length<4611686018427387904:=by
 have h1:=h _ (az6 ht);have h2:=reachBytes_lt;have ar:elems.length*1<=(elems.length+spare.length)*Tryz.prog.bytesOf e:=Ou (by omega) hb;omega
theorem aix{elems:List (DataW H)}:∀{ls:List (List V)},(∀l∈ls,∃n:Int,l=[aI n])->∃xs:List Int,ls.map s4=xs.map aI/\xs.length=ls.length
 |[],_=>⟨[],rfl,rfl⟩
 |l::ls,h=>by
  obtain⟨n,rfl⟩:=h l (by simp);obtain⟨xs,h1,h2⟩:=aix (elems:=elems) (ls:=ls) fun m hm=>h m (by simp[hm]);exact⟨n::xs,by rw[dv,dv,h1];rfl,by simp[h2]⟩
theorem aAI:vK Tryz.prog 8 22=true:=by kernel_rfl
theorem aAJ:22<Tryz.prog.types.size:=of_decide_eq_true (by kernel_rfl)
theorem aAK{b:Nat}{v:Value}(hval:Value.okWide Tryz.prog W .any b 22 v):v.cells.toList=[v]:=by
 unfold Value.okWide at hval;rw[Tryz.underlying22]at hval;simp only[Cell.okWide,Tryz.underlying22]at hval;cases v<;>first|rfl|(simp[Cell.ok,Tryz.underlying22]at hval)
theorem Ut{b:Nat}{v:Value}(hval:Value.okWide Tryz.prog W .any b 22 v){d:DataW H}{p:List MemPlace}{held:Bool}(hd:DataW.Trod enc Tryz.prog W 0 (fun _=>true) held 22 v d p)(hn:Ur Tryz.prog 22 d):∃s:ae Int,b9 s.l/\fN W (tK W).I (bn 1 aI s) v:=by
 obtain⟨hS,h,h2⟩:=az7 laidOut aAJ aAI (aAK hval) hd;rcases aio Tryz.underlying22 h with⟨rfl,ad⟩|⟨elems,spare,ls,rfl,ad,hl,hr⟩
 ·cases ad
  exact⟨.nil,by unfold b9;decide,h2⟩
 ·cases ad
  have hlen:=aAH Tryz.underlying22 (of_decide_eq_true (by kernel_rfl)) hn;rw[show Tryz.prog.cellsOf 3=1 by kernel_rfl]at h2
  obtain⟨xs,ar,aS⟩:=aix (elems:=elems) (ls:=ls) fun l E2=>by
   obtain⟨i,hi⟩:=Og E2;have nZ:i<ls.length:=(fj.1 hi).1;obtain⟨n,-,rfl,-⟩:=lu Tryz.underlying3 (hr i _ l (eg (by omega)) hi);exact⟨n,rfl⟩
  refine⟨.mk xs,by show xs.length<_;omega,?_⟩;rw[ar]at h2;exact h2
end
end Go.Abs.bz
namespace Go.Proofs.YtonmjjfciemcoaaGreatDoor.keeps
open Go Go.Abs Go.Abs.bz Go.Proofs Go.ChangeShapes Go.WideShapes Go.ChangeAt Go.RowKit
set_option maxRecDepth 100000
theorem aiy{H:Type}{enc:TypeId × Value->H}{f:Func}{s:ChangeSpec}{apart fresh handsOn again:Bool}{W W':World}{args:Array Value}{ds gs:List (DataW H)}{before:List MemPlace}{G':bX}{H':Heap}
  (hW:DataW.Whole enc Tryz.prog f.params.toList s.vars apart W args.toList ds gs before) (ad:s.vars=[]) (hT:∀t∈f.params.toList,t<Tryz.prog.types.size) (hr:f.resultTypes= #[4])
  (iv:(s.fn H (ds++gs)).results=[.lit (.bool true)]) (aAL:gs=[]->(s.fn H (ds++gs)).args=ds) (BT:(s.fn H (ds++gs)).vars=[])
  (ab:a8 (C fun b=>W.heap[b]?) id G' H' W') (ho:W'.os=W.os) (hp:W'.output=W.output):s.post enc Tryz.prog f apart fresh handsOn again W args (.bool true) W':=by
 have aT:=hW.lt;have hold:∀p∈before,(fun b=>decide (b<W.heap.size)) p.block=true:=fun p hp=>by simpa using aT p hp
 have aAM:=hW;obtain⟨pa,q,hA,hV,nQ,aR,hn⟩:=hW;rw[ad]at hV;obtain⟨wm,rfl⟩:=trodVars_none hV;rw[lR]at nQ;subst nQ
 have vb:∀sp:Nat->Bool,(∀p∈before,sp p.block=true)->DataW.TrodAll enc Tryz.prog W' 0 sp true f.params.toList args.toList (s.fn H (ds++gs)).args before:=fun sp l1=>by
  rw[aAL wm];exact ais kids (fun h hu=>aAg h hu) hT hA (fun q bf=>aAh ab (aT q bf)) l1
 have aiz:∀sp:Nat->Bool,DataW.TrodVars enc Tryz.prog W' sp s.vars (s.fn H (ds++gs)).vars []:=fun sp=>by rw[ad,BT];rfl
 have sw:∀(b:Nat) (sp:Nat->Bool) (hd:Bool),DataW.TrodAll enc Tryz.prog W' b sp hd f.resultTypes.toList ((Value.bool true).resultList f.resultTypes.size) (s.fn H (ds++gs)).results []:=fun b sp hd=>by
  rw[hr,iv];exact trodAll_cons_mk (shut_bool Tryz.underlying4 _) trodAll_mk0
 refine⟨ds,gs,before,[],before,[],aAM,sw _ _ _,vb _ hold,aiz _,aAa ab ho hp _,fun _=> ?_⟩;refine⟨ok_one hr rfl (okWide_bool_mk Tryz.underlying4 _),_,_,([]++before)++[],⟨[]++before,[],trodAll_append (vb _ (fun _ _=>rfl)) (sw _ _ _),aiz _,rfl,?_,?_⟩,?_⟩
 ·intro b off qm
  have hm:MemPlace.cell b off∈before:=by simpa using qm
  rw[aAi ab (aT _ hm)];exact aR b off hm
 ·intro ha
  simpa using hn ha
 ·intro p qm _
  simpa using qm
theorem aAN{W:World}(h:laidMetH Tryz.prog Rows.executionValidRow.laid W):Lib.TabIs Tryz.prog W "strings.asciiSpace" .u8 Lib.asciiSpaceTab:=by
 have ag:(Rows.executionValidRow.laid.filter fun x=>x.2.handleName?.isSome)=[]:=by kernel_rfl
 unfold laidMetH at h;rw[ag]at h
 have hm:("strings.asciiSpace",Lib.tabData .u8 Lib.asciiSpaceTab)∈Rows.executionValidRow.laid:=by
  have e:Rows.executionValidRow.laid[7]? =some ("strings.asciiSpace",Lib.tabData .u8 Lib.asciiSpaceTab):=by kernel_rfl
  exact gg e
 exact aiq (g:=1) (t:=497) (e:=5) (n:=256) (by kernel_rfl) (by kernel_rfl) (by kernel_rfl) (by kernel_rfl) (by kernel_rfl) (by kernel_rfl) h hm
theorem aAO{W:World}(h:laidMetH Tryz.prog Rows.executionValidRow.laid W):Lib.TabIs Tryz.prog W "internal/strconv.uint64pow10" .u64 Lib.pow10Tab:=by
 have ag:(Rows.executionValidRow.laid.filter fun x=>x.2.handleName?.isSome)=[]:=by kernel_rfl
 unfold laidMetH at h;rw[ag]at h
 have hm:("internal/strconv.uint64pow10",Lib.tabData .u64 Lib.pow10Tab)∈Rows.executionValidRow.laid:=by
  have e:Rows.executionValidRow.laid[2]? =some ("internal/strconv.uint64pow10",Lib.tabData .u64 Lib.pow10Tab):=by kernel_rfl
  exact gg e
 exact aiq (g:=0) (t:=493) (e:=311) (n:=20) (by kernel_rfl) (by kernel_rfl) (by kernel_rfl) (by kernel_rfl) (by kernel_rfl) (by kernel_rfl) h hm
theorem walk{W:World}{aa:Nat->Option bU}(bc:c0 (C fun b=>W.heap[b]?) id (eS fun b=>W.heap[b]?)->c0 (C fun b=>W.heap[b]?) id aa)(ei:laidMetH Tryz.prog Rows.executionValidRow.laid W){i:Nat}{f:hY}(hi:aa i=some (.code f)){vs:List V}{xs:List Value}(c2:dh W (tK W).I vs xs)
  (he:b0 aa (.fn i [] []) vs []=some (.bool true,[],0)):
  Calls Tryz.prog i ⟨xs⟩ W fun e W'=>e=.returned (.bool true)/\∃G' H',a8 (C fun b=>W.heap[b]?) id G' H' W'/\W'.os=W.os/\W'.output=W.output:=by
 obtain⟨n,hn⟩:=tp.1 he;have hT:c0 (C fun b=>W.heap[b]?) id aa:=bc <| azr (fun G H w ab=>air ab (aAO ei)) fun G H w ab=>air ab (aAN ei)
 have h:=Zd (C:=C fun b=>W.heap[b]?) (fid:=id) (Checked.mixed Tryz.checked) tU hT hi hn (az8 W) (dh.oD c2);refine th h fun e W' hp=> ?_;obtain⟨x,rfl,G',h1,h2,ar⟩:=hp;rw[ar.k5];have c5:=h2 0 (aH _);exact⟨rfl,G',_,h1,c5.os,c5.output⟩
end Go.Proofs.YtonmjjfciemcoaaGreatDoor.keeps
namespace Go.Proofs.YtonmjjfciemcoaaGreatDoor
open Go Go.Abs Go.Abs.bz Go.Proofs
set_option maxRecDepth 100000
def Cr:DataW Unit->List Value
 | .agg xs=>xs.map fun x=>match x with
   | .lit (.int k n)=>.int k n
   | _=>.tuple #[]
 | _=>[]
def aAP:DataW Unit->List Value
 | .agg xs=>xs.flatMap Cr
 | _=>[]
def aiA:DataW Unit->Value
 | .iface _ (.ptr (.agg [.lit (.string s)]))=>.string ⟨⟨s⟩⟩
 | _=>.tuple #[]
def rowsOf:DataW Unit->List Value
 | .ptr (.agg (.slice xs _::_))=>xs.flatMap Cr
 | _=>[]
def more:Array Obj:= #[.cells #[aiA Rows.laid_strconv_ErrRange] 534 (0,0),.cells #[aiA Rows.laid_strconv_ErrSyntax] 534 (0,0),
 .cells #[.slice (some ⟨19,0,none⟩) 7 7,.slice none 0 0,.int .i64 2] 550 (0,0),.cells (rowsOf Rows.laid_unicode_White_Space).toArray 553 (0,0)]
def xR (cs:Array Value):Obj->Obj
 | .cells _ t f=>.cells cs t f
 |o=>o
noncomputable def zq (os:Os):World:=
 {World.holding Tryz.prog os ⟨more,#[],[]⟩with heap:=(((((((((World.holding Tryz.prog os ⟨more,#[],[]⟩).heap.modify 1 (xR (Cr Rows.laid_strings_asciiSpace).toArray)).modify 0 (xR (Cr Rows.laid_internal_strconv_uint64pow10).toArray)).modify 4 (xR #[.pointer (some ⟨18,0,none⟩)])).modify 3 (xR #[.iface 532 (.pointer (some ⟨16,0,none⟩))])).modify 2 (xR #[.iface 532 (.pointer (some ⟨17,0,none⟩))])).modify 5 (xR (Cr Rows.laid_math_bits_deBruijn32tab).toArray)).modify 6 (xR (Cr Rows.laid_math_bits_deBruijn64tab).toArray)).modify 8 (xR (Cr Rows.laid_unicode_utf8_first).toArray)).modify 9 (xR (aAP Rows.laid_unicode_utf8_acceptRanges).toArray)}
theorem own:ownKnob Tryz.prog.godebug=none:=by kernel_rfl
end Go.Proofs.YtonmjjfciemcoaaGreatDoor
namespace Go.Abs.qS
theorem yJ:∀(n:Nat) (l:List Nat),l.Nodup->(∀x∈l,x<n)->l.length<=n
 |0,l,_,h=>by
  cases l with
  |nil=>simp
  |cons x r=>exact absurd (h x (by simp)) (by omega)
 |n+1,l,hn,h=>by
  by_cases hm:n∈l
  ·have h1:=yJ n (l.erase n) (hn.erase n) fun x hx=>by
    have dT:=hn.mem_erase_iff.1 hx;have:=h x dT.2;have:=dT.1;omega
   rw[List.length_erase_of_mem hm]at h1;omega
  ·have:=yJ n l hn fun x hx=>by
    have:=h x hx;have:x≠n:=fun e=>hm (e ▸ hx);omega
   omega
section
variable (iG:Nat->Nat->Bool)(size:Nat)
def E4 (l:List Nat):Bool:=iG (l.getLastD 0) (l.headD 0)
def rY (l:List Nat):List (List Nat):=
 ((List.range' (l.headD 0+1) (size-(l.headD 0+1))).filter fun v=>iG (l.getLastD 0) v&&!l.contains v).map fun v=>l++[v]
def Ju:Nat->List (List Nat)->Option (List Nat)
 |0,_=>none
 |k+1,ps=>match ps.find? (E4 iG)with
  |some l=>some l
  |none=>if ps=[]then none else Ju k (ps.flatMap (rY iG size))
def start:List (List Nat):=(List.range size).map fun a=>[a]
def aiB:Option (List Nat):=Ju iG size (size+1) (start size)
structure Path (l:List Nat):Prop where
 ne:l≠[]
 nodup:l.Nodup
 lt:∀x∈l,x<size
 least:∀x∈l,l.headD 0<=x
 along:∀i,i+1<l.length->iG (l.getD i 0) (l.getD (i+1) 0)=true
variable{iG size}
theorem Path.len{l:List Nat}(h:Path iG size l):l.length<=size:=yJ size l h.nodup h.lt
theorem aAQ{l:List Nat}(h:l≠[])(v:Nat):(l++[v]).headD 0=l.headD 0:=by
 cases l with
 |nil=>exact absurd rfl h
 |cons x r=>rfl
theorem aiC{l:List Nat}(h:l≠[]):l.getLastD 0=l.getD (l.length-1) 0:=by
 cases l with
 |nil=>exact absurd rfl h
 |cons x r=>
  rw[List.getLastD_eq_getLast?,List.getLast?_eq_getElem?,kj]
theorem Path.next{l fk:List Nat}(h:Path iG size l)(hl:fk∈rY iG size l):Path iG size fk/\fk.length=l.length+1:=by
 unfold rY at hl;obtain⟨v,ad,rfl⟩:=dZ.1 hl;rw[List.mem_filter,List.mem_range'_1,b6,kB]at ad;obtain⟨⟨h1,h2⟩,ar,aS⟩:=ad
 have aAR:v∉l:=fun q=>by
  rw[s9.2 q]at aS;cases aS
 refine⟨⟨by simp,?_,fun x hx=> ?_,fun x hx=> ?_,fun i hi=> ?_⟩,by simp⟩
 ·refine uT.2 ⟨h.nodup,by simp,fun x hx y hy=> ?_⟩
  simp only[dx,r4,or_false]at hy;subst hy;exact fun q=>aAR (q ▸ hx)
 ·rcases iq.1 hx with q|q
  ·exact h.lt x q
  ·simp only[dx,r4,or_false]at q
   subst q;omega
 ·rw[aAQ h.ne]
  rcases iq.1 hx with q|q
  ·exact h.least x q
  ·simp only[dx,r4,or_false]at q
   subst q;omega
 ·simp only[eZ,gD,nL]at hi
  have iV:0<l.length:=by
   cases l with
   |nil=>exact absurd rfl h.ne
   |cons=>simp
  rw[kj,kj,e5 (by omega)];by_cases hc:i+1<l.length
  ·rw[e5 hc]
   have:=h.along i hc;rw[kj,kj]at this;exact this
  ·have e:i+1=l.length:=by omega
   rw[e,pX (aH _),Ft];rw[aiC h.ne,kj]at ar;have ak:i=l.length-1:=by omega
   rw[ak];exact ar
def Jv (iG:Nat->Nat->Bool)(size k:Nat)(ps:List (List Nat)):Prop:=∀l∈ps,Path iG size l/\l.length=k
theorem aAS:Jv iG size 1 (start size):=fun l hl=>by
 obtain⟨a,ha,rfl⟩:=dZ.1 hl;have gQ:=zJ.1 ha;refine⟨⟨by simp,by simp,fun x hx=> ?_,fun x hx=> ?_,fun i hi=> ?_⟩,rfl⟩
 ·have:x=a:=by simpa using hx
  omega
 ·have:x=a:=by simpa using hx
  subst this;exact aH _
 ·simp at hi
theorem aAT{k:Nat}{ps:List (List Nat)}(h:Jv iG size k ps):Jv iG size (k+1) (ps.flatMap (rY iG size)):=fun fk hl=>by
 obtain⟨l,h1,h2⟩:=CH.1 hl;obtain⟨p,e⟩:=h l h1;obtain⟨Ac,e'⟩:=p.next h2
 exact⟨Ac,by omega⟩
theorem aiD{k:Nat}{ps:List (List Nat)}(h:Jv iG size k ps)(hk:size<k):ps=[]:=by
 cases ps with
 |nil=>rfl
 |cons l r=>
  obtain⟨p,e⟩:=h l (by simp);have:=p.len;omega
end
end Go.Abs.qS
