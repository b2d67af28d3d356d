/- Texts of this claim, joined and written short by a program. -/
import Derived.Test.YtdoflpjbdlgciaaGreatDoorP26
import Derived.Test.YtdoflpjbdlgciaaGreatDoorP22
import Derived.Test.YtdoflpjbdlgciaaGreatDoorP31
import Derived.Test.YtdoflpjbdlgciaaGreatDoorP01
import Derived.ChangeBears
import Derived.ChangeSlices
import Derived.SizedLaws
import Derived.Test.YtdoflpjbdlgciaaGreatDoorCards
import Derived.WalkKit
import Derived.ProofKit
import Derived.OpenShut
import Derived.ChangeStays
import Derived.Deep.DeepHandedRow
import Derived.Deep.DeepLaidRun
import Derived.Lib.LaidTab
import Derived.Deep.DeepWitnessRowRef
import Derived.Test.YtdoflpjbdlgciaaGreatDoorP00
set_option linter.unusedVariables false
set_option linter.unusedSimpArgs false
set_option linter.unusedSectionVars false
namespace Go.Abs.bZ
open Go Go.Abs Go.Abs.hG
theorem cp:gD a8 where
 lz:=fun t x B ρ fs=>match t,x with
  |0,x=>.int
  |1,x=>(.adq (adr (i:=0) rfl))
  |2,x=>.str
  |3,x=>.int
  |4,x=>.agg (.cons .int (.cons .int (.cons .int .nil)))
  |5,x=>.sl
  |6,x=>.sl
  |7,x=>.agg (.cons .int (.cons .int .nil))
  |8,x=>.agg (.cons .str (.cons .int (.cons .sl (.cons .int (.cons .int (.cons .int .nil))))))
  |9,x=>.sl
  |10,x=>.sl
  |11,x=>.agg (.cons .int (.cons .int .nil))
  |12,x=>.sl
  |13,x=>.agg (.cons .sl (.cons .int .nil))
  |14,x=>.agg (.cons .int (.cons .int (.cons .sl (.cons .int (.cons .int (.cons .int .nil))))))
  |15,x=>.sl
  |16,x=>.agg (.cons .str (.cons (.adq (adr (i:=0) rfl)) (.cons .sl .nil)))
  |17,x=>.sl
  |18,x=>.agg (.cons .int (.cons .int .nil))
  |19,x=>.sl
  |20,x=>.sl
  |21,x=>.agg (.cons .int (.cons .int (.cons .int .nil)))
  |22,x=>.sl
  |23,x=>.agg (.cons .sl (.cons .sl (.cons .sl .nil)))
  |24,x=>.agg (.cons .int (.cons .sl (.cons .sl (.cons .sl (.cons .sl .nil)))))
  |25,x=>.sl
  |26,x=>.agg (.cons .sl (.cons .sl (.cons .sl (.cons .sl (.cons .sl (.cons .sl (.cons .sl .nil)))))))
  |27,x=>.sl
  |28,x=>.sl
  |29,x=>.agg (.cons .sl (.cons .sl (.cons .sl (.cons .sl (.cons .sl (.cons .sl (.cons .sl (.cons .sl .nil))))))))
  |30,x=>.agg (.cons .int (.cons .int .nil))
  |31,x=>.agg (.cons .int (.cons .int (.cons .int (.cons .int .nil))))
  |32,x=>.sl
  | _+33,_=>.k
 iR:=fun t v B ρ fs w x af h=>match t,x,h with
  |0,x,h=>h3 (U:=a8) (k:=.i64) (n:=x) (v:=v) h af
  |1,x,h=>ads (U:=a8) (B:=B) (c:=x) (v:=v) h af
  |2,x,h=>Sh (U:=a8) (s:=x) (v:=v) h af
  |3,x,h=>h3 (U:=a8) (k:=.u8) (n:=x) (v:=v) h af
  |4,x,h=>by
   obtain⟨vs,ws,rfl,hr,h⟩:=pA (U:=a8) h af;split at h
   ·obtain⟨_,_,rfl,fM,hr⟩:=bz.inv hr;obtain⟨_,_,rfl,q1,hr⟩:=bz.inv hr;obtain⟨_,_,rfl,aT,hr⟩:=bz.inv hr;cases bz.pz hr
    obtain⟨cu,h0,h⟩:=dT.1 h;obtain⟨bt,h1,h⟩:=dT.1 h;obtain⟨cH,h2,h⟩:=dT.1 h;cases h;rw[h3 h0 fM,h3 h1 q1,h3 h2 aT];rfl
   ·cases h
  |5,x,h=>ga (U:=a8) (t:=4) h af
  |6,x,h=>ga (U:=a8) (t:=0) h af
  |7,x,h=>by
   obtain⟨vs,ws,rfl,hr,h⟩:=pA (U:=a8) h af;split at h
   ·obtain⟨_,_,rfl,fM,hr⟩:=bz.inv hr;obtain⟨_,_,rfl,q1,hr⟩:=bz.inv hr;cases bz.pz hr
    obtain⟨cu,h0,h⟩:=dT.1 h;obtain⟨bt,h1,h⟩:=dT.1 h;cases h;rw[h3 h0 fM,h3 h1 q1];rfl
   ·cases h
  |8,x,h=>by
   obtain⟨vs,ws,rfl,hr,h⟩:=pA (U:=a8) h af;split at h
   ·obtain⟨_,_,rfl,fM,hr⟩:=bz.inv hr;obtain⟨_,_,rfl,q1,hr⟩:=bz.inv hr;obtain⟨_,_,rfl,aT,hr⟩:=bz.inv hr;obtain⟨_,_,rfl,b3,hr⟩:=bz.inv hr;obtain⟨_,_,rfl,cZ,hr⟩:=bz.inv hr;obtain⟨_,_,rfl,fq,hr⟩:=bz.inv hr;cases bz.pz hr
    obtain⟨cu,h0,h⟩:=dT.1 h;obtain⟨bt,h1,h⟩:=dT.1 h;obtain⟨cH,h2,h⟩:=dT.1 h;obtain⟨dp,av,h⟩:=dT.1 h;obtain⟨jC,bc,h⟩:=dT.1 h;obtain⟨ez,h5,h⟩:=dT.1 h;cases h;rw[Sh h0 fM,h3 h1 q1,ga (U:=a8) (t:=0) h2 aT,h3 av b3,h3 bc cZ,h3 h5 fq];rfl
   ·cases h
  |9,x,h=>ga (U:=a8) (t:=8) h af
  |10,x,h=>ga (U:=a8) (t:=2) h af
  |11,x,h=>by
   obtain⟨vs,ws,rfl,hr,h⟩:=pA (U:=a8) h af;split at h
   ·obtain⟨_,_,rfl,fM,hr⟩:=bz.inv hr;obtain⟨_,_,rfl,q1,hr⟩:=bz.inv hr;cases bz.pz hr
    obtain⟨cu,h0,h⟩:=dT.1 h;obtain⟨bt,h1,h⟩:=dT.1 h;cases h;rw[h3 h0 fM,h3 h1 q1];rfl
   ·cases h
  |12,x,h=>ga (U:=a8) (t:=11) h af
  |13,x,h=>by
   obtain⟨vs,ws,rfl,hr,h⟩:=pA (U:=a8) h af;split at h
   ·obtain⟨_,_,rfl,fM,hr⟩:=bz.inv hr;obtain⟨_,_,rfl,q1,hr⟩:=bz.inv hr;cases bz.pz hr
    obtain⟨cu,h0,h⟩:=dT.1 h;obtain⟨bt,h1,h⟩:=dT.1 h;cases h;rw[ga (U:=a8) (t:=11) h0 fM,h3 h1 q1];rfl
   ·cases h
  |14,x,h=>by
   obtain⟨vs,ws,rfl,hr,h⟩:=pA (U:=a8) h af;split at h
   ·obtain⟨_,_,rfl,fM,hr⟩:=bz.inv hr;obtain⟨_,_,rfl,q1,hr⟩:=bz.inv hr;obtain⟨_,_,rfl,aT,hr⟩:=bz.inv hr;obtain⟨_,_,rfl,b3,hr⟩:=bz.inv hr;obtain⟨_,_,rfl,cZ,hr⟩:=bz.inv hr;obtain⟨_,_,rfl,fq,hr⟩:=bz.inv hr;cases bz.pz hr
    obtain⟨cu,h0,h⟩:=dT.1 h;obtain⟨bt,h1,h⟩:=dT.1 h;obtain⟨cH,h2,h⟩:=dT.1 h;obtain⟨dp,av,h⟩:=dT.1 h;obtain⟨jC,bc,h⟩:=dT.1 h;obtain⟨ez,h5,h⟩:=dT.1 h;cases h;rw[h3 h0 fM,h3 h1 q1,ga (U:=a8) (t:=11) h2 aT,h3 av b3,h3 bc cZ,h3 h5 fq];rfl
   ·cases h
  |15,x,h=>ga (U:=a8) (t:=14) h af
  |16,x,h=>by
   obtain⟨vs,ws,rfl,hr,h⟩:=pA (U:=a8) h af;split at h
   ·obtain⟨_,_,rfl,fM,hr⟩:=bz.inv hr;obtain⟨_,_,rfl,q1,hr⟩:=bz.inv hr;obtain⟨_,_,rfl,aT,hr⟩:=bz.inv hr;cases bz.pz hr
    obtain⟨cu,h0,h⟩:=dT.1 h;obtain⟨bt,h1,h⟩:=dT.1 h;obtain⟨cH,h2,h⟩:=dT.1 h;cases h;rw[Sh h0 fM,ads h1 q1,ga (U:=a8) (t:=0) h2 aT];rfl
   ·cases h
  |17,x,h=>ga (U:=a8) (t:=16) h af
  |18,x,h=>by
   obtain⟨vs,ws,rfl,hr,h⟩:=pA (U:=a8) h af;split at h
   ·obtain⟨_,_,rfl,fM,hr⟩:=bz.inv hr;obtain⟨_,_,rfl,q1,hr⟩:=bz.inv hr;cases bz.pz hr
    obtain⟨cu,h0,h⟩:=dT.1 h;obtain⟨bt,h1,h⟩:=dT.1 h;cases h;rw[h3 h0 fM,h3 h1 q1];rfl
   ·cases h
  |19,x,h=>ga (U:=a8) (t:=18) h af
  |20,x,h=>ga (U:=a8) (t:=13) h af
  |21,x,h=>by
   obtain⟨vs,ws,rfl,hr,h⟩:=pA (U:=a8) h af;split at h
   ·obtain⟨_,_,rfl,fM,hr⟩:=bz.inv hr;obtain⟨_,_,rfl,q1,hr⟩:=bz.inv hr;obtain⟨_,_,rfl,aT,hr⟩:=bz.inv hr;cases bz.pz hr
    obtain⟨cu,h0,h⟩:=dT.1 h;obtain⟨bt,h1,h⟩:=dT.1 h;obtain⟨cH,h2,h⟩:=dT.1 h;cases h;rw[h3 h0 fM,h3 h1 q1,h3 h2 aT];rfl
   ·cases h
  |22,x,h=>ga (U:=a8) (t:=21) h af
  |23,x,h=>by
   obtain⟨vs,ws,rfl,hr,h⟩:=pA (U:=a8) h af;split at h
   ·obtain⟨_,_,rfl,fM,hr⟩:=bz.inv hr;obtain⟨_,_,rfl,q1,hr⟩:=bz.inv hr;obtain⟨_,_,rfl,aT,hr⟩:=bz.inv hr;cases bz.pz hr
    obtain⟨cu,h0,h⟩:=dT.1 h;obtain⟨bt,h1,h⟩:=dT.1 h;obtain⟨cH,h2,h⟩:=dT.1 h;cases h;rw[ga (U:=a8) (t:=18) h0 fM,ga (U:=a8) (t:=13) h1 q1,ga (U:=a8) (t:=21) h2 aT];rfl
   ·cases h
  |24,x,h=>by
   obtain⟨vs,ws,rfl,hr,h⟩:=pA (U:=a8) h af;split at h
   ·obtain⟨_,_,rfl,fM,hr⟩:=bz.inv hr;obtain⟨_,_,rfl,q1,hr⟩:=bz.inv hr;obtain⟨_,_,rfl,aT,hr⟩:=bz.inv hr;obtain⟨_,_,rfl,b3,hr⟩:=bz.inv hr;obtain⟨_,_,rfl,cZ,hr⟩:=bz.inv hr;cases bz.pz hr
    obtain⟨cu,h0,h⟩:=dT.1 h;obtain⟨bt,h1,h⟩:=dT.1 h;obtain⟨cH,h2,h⟩:=dT.1 h;obtain⟨dp,av,h⟩:=dT.1 h;obtain⟨jC,bc,h⟩:=dT.1 h;cases h;rw[h3 h0 fM,ga (U:=a8) (t:=0) h1 q1,ga (U:=a8) (t:=18) h2 aT,ga (U:=a8) (t:=13) av b3,ga (U:=a8) (t:=21) bc cZ];rfl
   ·cases h
  |25,x,h=>ga (U:=a8) (t:=24) h af
  |26,x,h=>by
   obtain⟨vs,ws,rfl,hr,h⟩:=pA (U:=a8) h af;split at h
   ·obtain⟨_,_,rfl,fM,hr⟩:=bz.inv hr;obtain⟨_,_,rfl,q1,hr⟩:=bz.inv hr;obtain⟨_,_,rfl,aT,hr⟩:=bz.inv hr;obtain⟨_,_,rfl,b3,hr⟩:=bz.inv hr;obtain⟨_,_,rfl,cZ,hr⟩:=bz.inv hr;obtain⟨_,_,rfl,fq,hr⟩:=bz.inv hr;obtain⟨_,_,rfl,hC,hr⟩:=bz.inv hr;cases bz.pz hr
    obtain⟨cu,h0,h⟩:=dT.1 h;obtain⟨bt,h1,h⟩:=dT.1 h;obtain⟨cH,h2,h⟩:=dT.1 h;obtain⟨dp,av,h⟩:=dT.1 h;obtain⟨jC,bc,h⟩:=dT.1 h;obtain⟨ez,h5,h⟩:=dT.1 h;obtain⟨nN,gb,h⟩:=dT.1 h;cases h;rw[ga (U:=a8) (t:=0) h0 fM,ga (U:=a8) (t:=8) h1 q1,ga (U:=a8) (t:=2) h2 aT,ga (U:=a8) (t:=14) av b3,ga (U:=a8) (t:=16) bc cZ,ga (U:=a8) (t:=24) h5 fq,ga (U:=a8) (t:=4) gb hC];rfl
   ·cases h
  |27,x,h=>ga (U:=a8) (t:=1) h af
  |28,x,h=>ga (U:=a8) (t:=7) h af
  |29,x,h=>by
   obtain⟨vs,ws,rfl,hr,h⟩:=pA (U:=a8) h af;split at h
   ·obtain⟨_,_,rfl,fM,hr⟩:=bz.inv hr;obtain⟨_,_,rfl,q1,hr⟩:=bz.inv hr;obtain⟨_,_,rfl,aT,hr⟩:=bz.inv hr;obtain⟨_,_,rfl,b3,hr⟩:=bz.inv hr;obtain⟨_,_,rfl,cZ,hr⟩:=bz.inv hr;obtain⟨_,_,rfl,fq,hr⟩:=bz.inv hr;obtain⟨_,_,rfl,hC,hr⟩:=bz.inv hr;obtain⟨_,_,rfl,nH,hr⟩:=bz.inv hr;cases bz.pz hr
    obtain⟨cu,h0,h⟩:=dT.1 h;obtain⟨bt,h1,h⟩:=dT.1 h;obtain⟨cH,h2,h⟩:=dT.1 h;obtain⟨dp,av,h⟩:=dT.1 h;obtain⟨jC,bc,h⟩:=dT.1 h;obtain⟨ez,h5,h⟩:=dT.1 h;obtain⟨nN,gb,h⟩:=dT.1 h;obtain⟨qd,lu,h⟩:=dT.1 h;cases h;rw[ga (U:=a8) (t:=0) h0 fM,ga (U:=a8) (t:=8) h1 q1,ga (U:=a8) (t:=2) h2 aT,ga (U:=a8) (t:=14) av b3,ga (U:=a8) (t:=16) bc cZ,ga (U:=a8) (t:=24) h5 fq,ga (U:=a8) (t:=4) gb hC,ga (U:=a8) (t:=7) lu nH];rfl
   ·cases h
  |30,x,h=>by
   obtain⟨vs,ws,rfl,hr,h⟩:=pA (U:=a8) h af;split at h
   ·obtain⟨_,_,rfl,fM,hr⟩:=bz.inv hr;obtain⟨_,_,rfl,q1,hr⟩:=bz.inv hr;cases bz.pz hr
    obtain⟨cu,h0,h⟩:=dT.1 h;obtain⟨bt,h1,h⟩:=dT.1 h;cases h;rw[h3 h0 fM,h3 h1 q1];rfl
   ·cases h
  |31,x,h=>by
   obtain⟨vs,ws,rfl,hr,h⟩:=pA (U:=a8) h af;split at h
   ·obtain⟨_,_,rfl,fM,hr⟩:=bz.inv hr;obtain⟨_,_,rfl,q1,hr⟩:=bz.inv hr;obtain⟨_,_,rfl,aT,hr⟩:=bz.inv hr;obtain⟨_,_,rfl,b3,hr⟩:=bz.inv hr;cases bz.pz hr
    obtain⟨cu,h0,h⟩:=dT.1 h;obtain⟨bt,h1,h⟩:=dT.1 h;obtain⟨cH,h2,h⟩:=dT.1 h;obtain⟨dp,av,h⟩:=dT.1 h;cases h;rw[h3 h0 fM,h3 h1 q1,h3 h2 aT,h3 av b3];rfl
   ·cases h
  |32,x,h=>ga (U:=a8) (t:=31) h af
  | _+33,_,h=>by cases h
 bQ:=fun t x=>match t,x with
  |0,x=>rfl
  |1,x=>rfl
  |2,x=>rfl
  |3,x=>rfl
  |4,x=>an9 x
  |5,x=>pe _ _ _
  |6,x=>pe _ _ _
  |7,x=>aob x
  |8,x=>aod x
  |9,x=>pe _ _ _
  |10,x=>pe _ _ _
  |11,x=>aof x
  |12,x=>pe _ _ _
  |13,x=>aoh x
  |14,x=>aoj x
  |15,x=>pe _ _ _
  |16,x=>aol x
  |17,x=>pe _ _ _
  |18,x=>aon x
  |19,x=>pe _ _ _
  |20,x=>pe _ _ _
  |21,x=>aop x
  |22,x=>pe _ _ _
  |23,x=>aor x
  |24,x=>aot x
  |25,x=>pe _ _ _
  |26,x=>aov x
  |27,x=>pe _ _ _
  |28,x=>pe _ _ _
  |29,x=>aox x
  |30,x=>aoz x
  |31,x=>aoB x
  |32,x=>pe _ _ _
  | _+33,_=>rfl
 ok:=fun t x=>match t,x with
  |0,x=>rfl
  |1,x=>rfl
  |2,x=>rfl
  |3,x=>rfl
  |4,x=>aoa x
  |5,x=>qf _ _ _
  |6,x=>qf _ _ _
  |7,x=>aoc x
  |8,x=>aoe x
  |9,x=>qf _ _ _
  |10,x=>qf _ _ _
  |11,x=>aog x
  |12,x=>qf _ _ _
  |13,x=>aoi x
  |14,x=>aok x
  |15,x=>qf _ _ _
  |16,x=>aom x
  |17,x=>qf _ _ _
  |18,x=>aoo x
  |19,x=>qf _ _ _
  |20,x=>qf _ _ _
  |21,x=>aoq x
  |22,x=>qf _ _ _
  |23,x=>aos x
  |24,x=>aou x
  |25,x=>qf _ _ _
  |26,x=>aow x
  |27,x=>qf _ _ _
  |28,x=>qf _ _ _
  |29,x=>aoy x
  |30,x=>aoA x
  |31,x=>aoC x
  |32,x=>qf _ _ _
  | _+33,_=>rfl
 es:=fun t x=>match t,x with
  |0,x=>rfl
  |1,x=>rfl
  |2,x=>rfl
  |3,x=>rfl
  |4,x=>rfl
  |5,x=>qg _ _ _
  |6,x=>qg _ _ _
  |7,x=>rfl
  |8,x=>rfl
  |9,x=>qg _ _ _
  |10,x=>qg _ _ _
  |11,x=>rfl
  |12,x=>qg _ _ _
  |13,x=>rfl
  |14,x=>rfl
  |15,x=>qg _ _ _
  |16,x=>rfl
  |17,x=>qg _ _ _
  |18,x=>rfl
  |19,x=>qg _ _ _
  |20,x=>qg _ _ _
  |21,x=>rfl
  |22,x=>qg _ _ _
  |23,x=>rfl
  |24,x=>rfl
  |25,x=>qg _ _ _
  |26,x=>rfl
  |27,x=>qg _ _ _
  |28,x=>qg _ _ _
  |29,x=>rfl
  |30,x=>rfl
  |31,x=>rfl
  |32,x=>qg _ _ _
  | _+33,_=>rfl
 bb:=fun t x=>match t,x with
  |0,x=>fun h=>rfl
  |1,x=>fun h=>rfl
  |2,x=>fun h=>rfl
  |3,x=>fun h=>rfl
  |4,x=>fun h=>by cases h
  |5,x=>fun h=>by cases h
  |6,x=>fun h=>by cases h
  |7,x=>fun h=>by cases h
  |8,x=>fun h=>by cases h
  |9,x=>fun h=>by cases h
  |10,x=>fun h=>by cases h
  |11,x=>fun h=>by cases h
  |12,x=>fun h=>by cases h
  |13,x=>fun h=>by cases h
  |14,x=>fun h=>by cases h
  |15,x=>fun h=>by cases h
  |16,x=>fun h=>by cases h
  |17,x=>fun h=>by cases h
  |18,x=>fun h=>by cases h
  |19,x=>fun h=>by cases h
  |20,x=>fun h=>by cases h
  |21,x=>fun h=>by cases h
  |22,x=>fun h=>by cases h
  |23,x=>fun h=>by cases h
  |24,x=>fun h=>by cases h
  |25,x=>fun h=>by cases h
  |26,x=>fun h=>by cases h
  |27,x=>fun h=>by cases h
  |28,x=>fun h=>by cases h
  |29,x=>fun h=>by cases h
  |30,x=>fun h=>by cases h
  |31,x=>fun h=>by cases h
  |32,x=>fun h=>by cases h
  | _+33,_=>fun h=>by cases h
 ach:=fun t n h=>by
  have h:Rt t=some n:=h;unfold Rt at h;split at h<;>cases h
  ·exact Ft
  ·exact anR
end Go.Abs.bZ
set_option maxRecDepth 100000
namespace Go.Abs.bZ
open Go Go.Abs Go.Abs.Lex Go.Proofs
variable{g:Nat->Option Obj}
theorem Tr{A:Type}{es:Nat}{f:A->V}(ae:∀a b,f a=f b->a=b){x y:ak A}(h:bU es f x=bU es f y):x=y:=by
 cases x<;>cases y<;>simp only[bU,reduceCtorEq,V.list.injEq,true_and]at h<;>try rfl
 rename_i l m;congr 1
 induction l generalizing m with
 |nil=>cases m<;>simp_all
 |cons a l ih=>
  cases m with
  |nil=>simp at h
  |cons b m=>
   simp only[eG,xa]at h;rw[ae _ _ h.1,ih m h.2]
theorem awE (a b:Int)(h:aQ a=aQ b):a=b:=by cases h;rfl
theorem awF (a b:Table)(h:lZ a=lZ b):a=b:=by
 obtain⟨al,a2,a3,⟨a4,a5⟩,HH⟩:=a;obtain⟨dQ,fY,jG,⟨lk,vb⟩,afa⟩:=b;simp only[lZ,V.agg.injEq,xa,V.str.injEq,V.int.injEq,true_and,and_true]at h;obtain⟨rfl,rfl,av,rfl,rfl,rfl⟩:=h;rw[Tr awE av]
theorem awG (a b:gz)(h:jB a=jB b):a=b:=by
 obtain⟨al,a2,a3⟩:=a;obtain⟨dQ,fY,jG⟩:=b;simp only[jB,V.agg.injEq,xa,V.int.injEq,true_and,and_true]at h;obtain⟨rfl,rfl,rfl⟩:=h;rfl
def A7 (j:eg):Bool:=zJ j.Model.Tables.l j.Model.bA.l
theorem awH{a b:eg}(h:V.agg (j8 a)=V.agg (j8 b)):A7 a=A7 b:=by
 simp only[j8,V.agg.injEq,xa]at h;unfold A7;rw[Tr awF h.2.1,Tr awG h.2.2.2.2.2.2.1]
noncomputable section
open Go.Abs.hG
def pS:List (bM a8):=[]
theorem Ts:bW (fw g) pS:=fun _ h=>by cases h
def afg:List (bM a8):=⟨120,[],[.v 0,.v 0],[1],fun c a=>np a.1 a.2.1⟩::pS
theorem afh:bW (fw g) afg:=cr cp Ts [] (.two .o (.pu [4] .o)) (by kernel_rfl) fun c a=>by kernel_rfl
def afi:List (bM a8):=⟨241,[],[.v 5,.f [4] 1],[0],fun c a=>abZ a.1 a.2.1⟩::afg
theorem awI:bW (fw g) afi:=cr cp afh [] (.two .o (.two (.two .o (.c8 [(.s 8,.p 0)] [(.exit 0,[]),(.ret,[(.s 4,.p 0)])] .o)) .o)) (by kernel_rfl) fun c a=>by kernel_rfl
def awJ:List (bM a8):=⟨128,[],[.v 5,.f [4] 1],[1],fun c a=>FD a.1 a.2.1⟩::afi
theorem awK:bW (fw g) awJ:=cr cp awI [] .o (by kernel_rfl) fun c a=>by kernel_rfl
end
open Classical in
noncomputable def DB:List V->Option V:=fun args=>if h:∃j,args=[.agg (j8 j)]then some (.bool (A7 h.choose))else none
theorem awL (j:eg):DB [.agg (j8 j)]=some (.bool (A7 j)):=by
 have h:∃vt,[V.agg (j8 j)]=[.agg (j8 vt)]:=⟨j,rfl⟩;unfold DB;rw[dif_pos h];exact congrArg (fun b=>some (V.bool b)) (awH (eR h.choose_spec).1).symm
def Tt:Code->Code| .block _ c=>c|c=>c
def awM:Code->Code| .loop c=>c|c=>c
noncomputable def Tu:Code:=Tryz.f50.body.getD .skip
noncomputable def oF:Nat->Code
 |0=>Tu
 |n+1=>c0 (oF n)
noncomputable def ym:Code:=awM (Tt (c0 (gI (oF 5))))
noncomputable def awN:Code:=.seq (gI Tu) (.seq (gI (oF 1)) (.seq (gI (oF 2)) (.seq (gI (oF 3)) (.seq (gI (oF 4)) (.seq (.seq (gI (gI (oF 5))) (.block 4 (.loop (.seq (gI ym) (.seq (gI (c0 ym)) (.seq (.block 5 (Tt (gI (c0 (c0 ym))))) (c0 (c0 (c0 ym))))))))) (c0 (oF 5)))))))
theorem afj:Tryz.f50.body=some awN:=by kernel_rfl
theorem awO (h:dr (C g) id (fw g)):o6 (C g) id 50 DB:=by
 intro G H w args v xs aa eX ng;unfold DB at ng;split at ng
 case isFalse=>cases ng
 rename_i hj;have afk:=hj.choose_spec;generalize hj.choose=j at afk ng;clear hj;subst afk;cases ng;rw[EZ (C:=C g) Tryz.func50 afj (by kernel_rfl)];have oq:AF (fw g):=ar3 awK.hd;have S3:Mc (fw g):=ar2 afh.hd
 have PM:=auL (C:=C g) (fid:=id) (vars:=Ctx.varsOf Tryz.f50) (N:=Tryz.f50.ntmps) (ad:=fw g) (p1:=gI Tu) (p2:=gI (oF 1)) (p3:=gI (oF 2)) (mC:=gI (oF 3)) (s8:=gI (oF 4)) (Hj:=gI (gI (oF 5))) (L8:=c0 (oF 5)) (hd:=gI ym) (tY:=gI (c0 ym)) (r6:=Tt (gI (c0 (c0 ym)))) (inc:=c0 (c0 (c0 ym)))
  mixed tW (ar8 mixed tW h) (by kernel_rfl) (by kernel_rfl) (by kernel_rfl) (by kernel_rfl) (by kernel_rfl) (by kernel_rfl) (by kernel_rfl) (by kernel_rfl) (by kernel_rfl) (by kernel_rfl) (by kernel_rfl) (by kernel_rfl) (by kernel_rfl) oq S3 j
 have hc:=WX (C:=C g) (H:=[]) (H':=[]) (pY:=[.tmp 2]) (fresh:=false) (v:=.bool (A7 j)) (low':=0) tW Tryz.func50 afj (by kernel_rfl) (args:=[.agg (j8 j)]) (of_decide_eq_true (by kernel_rfl)) (PM.mono fun x s hx=>by
  obtain⟨rfl,h2⟩:=hx;refine⟨.inr rfl,[.bool (A7 j)],?_,?_⟩
  ·simp only[hK,kC,h2];rfl
  ·simp[jW,finish,fR,ei,bQ,old]) aa.apart (dn.oP eX)
 exact DN hc fun e w'=>fun⟨x,ag,e2⟩=>⟨x,ag,e2.beside aa (by simp[bQ])⟩
noncomputable def b9 (g:Nat->Option Obj):Nat->Option cb:=over (over (fw g) 50 DB) 4 (E2 [] (.bool true))
theorem awP (h:dr (C g) id (fw g)):dr (C g) id (b9 g):=E3 (E3 h (awO h)) (awD h)
end Go.Abs.bZ
namespace Go.Abs
open Go Go.ChangeShapes
def tp:List V->V
 |[x]=>x
 |vs=>.agg vs
theorem awQ{x:V}(h:eH x=true):aF x=[x]:=by cases x<;>simp_all [eH,aF]
theorem afl{l:List V}(h:bX l=true):aF (tp l)=l:=by
 match l,h with
 |[],_=>rfl
 |[x],h=>simp only[bX,u0]at h;exact awQ h
 | _::_::_,_=>rfl
inductive fz {H:Type} (P:Program):TypeId->DataW H->List V->Prop
 |bool (t:TypeId) (b:Bool) (ht:P.underlying t=some .bool):fz P t (.lit (.bool b)) [.bool b]
 |int (t:TypeId) (k:IntKind) (n:Int) (ht:P.underlying t=some (.int k)) (hw:(Lit.int k n).wf=true):fz P t (.lit (.int k n)) [.int k n]
 |str (t:TypeId) (s:List UInt8) (ht:P.underlying t=some .string):fz P t (.lit (.string s)) [.str s]
 |nil (t e:TypeId) (ht:P.underlying t=some (.slice e)):fz P t .nil [.aY]
 |slice (t e:TypeId) (elems spare:List (DataW H)) (ls:List (List V)) (ht:P.underlying t=some (.slice e)) (hl:ls.length=elems.length)
  (h:∀(i:Nat) d l,elems[i]? =some d->ls[i]? =some l->fz P e d l):fz P t (.slice elems spare) [.list (P.cellsOf e) (ls.map tp)]
 |struct (t:TypeId) (fs:Array Field) (parts:List (DataW H)) (ls:List (List V)) (ht:P.underlying t=some (.struct fs)) (hp:parts.length=fs.size) (hl:ls.length=fs.size)
  (h:∀(i:Nat) (f:Field) d l,fs[i]? =some f->parts[i]? =some d->ls[i]? =some l->fz P f.type d l):fz P t (.agg parts) ls.flatten
def uQ (P:Program):Nat->TypeId->Bool
 |0,_=>false
 |n+1,t=>match P.underlying t with
  |some .bool|some (.int _)|some .string=>P.cellsOf t==1
  |some (.slice e)=>P.cellsOf t==1&&decide (0<P.cellsOf e)&&uQ P n e
  |some (.struct fs)=>fs.toList.all fun f=>uQ P n f.type
  | _=>false
theorem Tv{w:World}{I:Nat->Prop}:∀{vs:List V} {xs:List Value} {us:List V} {cL:List Value},dn w I vs xs->dn w I us cL->dn w I (vs++us) (xs++cL)
 | _,_,_,_,.nil,h=>h
 | _,_,_,_,.cons v x vs xs h hs,k=>.cons v x _ _ h (Tv hs k)
theorem awR{a b:List V}:bX (a++b)=(bX a&&bX b):=by
 induction a with
 |nil=>simp[bX]
 |cons x a ih=>simp[bX,ih,DK]
theorem afm{α:Type}{p:Nat->α->Prop}:∀n,(∀i,i<n->∃a,p i a)->∃l:List α,l.length=n/\∀i a,l[i]? =some a->p i a
 |0,_=>⟨[],rfl,fun i a h=>by simp at h⟩
 |n+1,h=>by
  obtain⟨l,hl,hp⟩:=afm n (fun i hi=>h i (by omega));obtain⟨a,ao⟩:=h n (by omega);refine⟨l++[a],by simp[hl],fun i b hb=> ?_⟩;rcases gq i n with hi|hi
  ·rw[gM (by omega)]at hb;exact hp i b hb
  ·rw[w5 (by omega)]at hb
   have:i-l.length=0:=by
    rcases TU (i-l.length)with h0|h0
    ·exact h0
    ·rw[nt (by simp;omega)]at hb;cases hb
   rw[this]at hb;cases hb;have:i=n:=by omega
   rw[this];exact ao
theorem afn{α:Type}{c:Nat}:∀{ls:List (List α)} {j:Nat} {x:α},(∀l∈ls,l.length=c)->ls.flatten[j]? =some x->∃i r l,ls[i]? =some l/\l[r]? =some x/\j=i*c+r/\r<c
 |[],j,x,_,h=>by simp at h
 |l::ls,j,x,hc,h=>by
  have hl:=hc l (by simp);rw[H3]at h;rcases gq j c with hj|hj
  ·rw[gM (by omega)]at h
   exact⟨0,j,l,rfl,h,by omega,hj⟩
  ·rw[w5 (by omega)]at h
   obtain⟨i,r,fS,h1,h2,av,bc⟩:=afn (fun m hm=>hc m (by simp[hm])) h;exact⟨i+1,r,fS,by simpa using h1,h2,by rw[si];omega,bc⟩
section
variable{H:Type}{enc:TypeId × Value->H}{P:Program}{W:World}{held:Bool}
def A8 (W:World):Nat->Prop:=fun b=>b<W.heap.size
def Reads (P:Program)(W:World)(t:TypeId)(cs:List Value)(d:DataW H):Prop:=
 ∃vs,fz P t d vs/\dn W (A8 W) vs cs/\bX vs=true/\vs.length=P.cellsOf t/\cs.length=P.cellsOf t
theorem afo{a:Addr}{v:Value}(h:W.cell? a=some v):a.spot=none/\a.block<W.heap.size:=by
 unfold World.cell? at h;split at h
 ·rename_i c e f eS
  split at h
  ·cases h
  ·rename_i hs
   refine⟨by simpa using hs,?_⟩;rcases gq a.block W.heap.size with q|q
   ·exact q
   ·rw[HU q]at eS;cases eS
 ·cases h
theorem afp (n:Nat)(afq:∀fuel t cs (x:DataW H × List MemPlace),t<P.types.size->uQ P n t=true->DataW.trod enc P W 0 (fun _=>true) held fuel t cs=some x->Reads P W t cs x.1)(m:Nat)(cs:List Value):
  ∀(bb:List Field) (xs:List (DataW H × List MemPlace)) (off:Nat),(∀(j:Nat) (f:Field),bb[j]? =some f->f.offset=off+((bb.take j).map fun f=>P.cellsOf f.type).sum)->xs.length=bb.length->(∀f∈bb,f.type<P.types.size/\uQ P n f.type=true)->
   (∀(i:Nat) (f:Field),bb[i]? =some f->DataW.trod enc P W 0 (fun _=>true) held m f.type ((cs.drop f.offset).take (P.cellsOf f.type))=xs[i]?)->
   ∃ls:List (List V),ls.length=bb.length/\(∀(i:Nat) (f:Field) (y:DataW H × List MemPlace) (l:List V),bb[i]? =some f->xs[i]? =some y->ls[i]? =some l->fz P f.type y.1 l)/\dn W (A8 W) ls.flatten ((cs.drop off).take (bb.map fun f=>P.cellsOf f.type).sum)/\bX ls.flatten=true/\
    ls.flatten.length=(bb.map fun f=>P.cellsOf f.type).sum
 |[],xs,off,_,hl,_,_=>⟨[],rfl,fun i f y l h=>by simp at h,by simp;exact .nil,rfl,rfl⟩
 |f::bb,xs,off,afr,hl,ae,hx=>by
  match xs,hl with
  |y::xs,hl=>
   have h0:=hx 0 f rfl;have ho:=afr 0 f rfl;simp only[List.take_zero,me,List.sum_nil,yx]at ho;rw[ho]at h0;simp only[n4]at h0;obtain⟨vs,bH,cw,ff,gW,jv⟩:=afq m f.type _ y (ae f (by simp)).1 (ae f (by simp)).2 h0
   obtain⟨ls,q1,aT,b3,cZ,fq⟩:=afp n afq m cs bb xs (off+P.cellsOf f.type) (fun j g bx=>by
     have:=afr (j+1) g (by simpa using bx);simp only[List.take_succ_cons,eG,List.sum_cons]at this;omega) (by simpa using hl) (fun g bx=>ae g (by simp[bx])) (fun i g bx=>by simpa using hx (i+1) g (by simpa using bx))
   refine⟨vs::ls,by simp[q1],fun i g z l bx aI jX=> ?_,?_,?_,?_⟩
   ·cases i with
    |zero=>
     simp only[n4,aA]at bx aI jX;subst bx;subst aI;subst jX;exact bH
    |succ i=>
     simp only[Bd]at bx aI jX;exact aT i g z l bx aI jX
   ·rw[H3,eG,List.sum_cons,List.take_add,tA]
    exact Tv cw b3
   ·rw[H3,awR,ff,cZ];rfl
   ·rw[H3,e1,gW,fq,eG,List.sum_cons]
theorem reads (iH:laidOutB P=true):∀(n fuel:Nat) (t:TypeId) (cs:List Value) (x:DataW H × List MemPlace),t<P.types.size->uQ P n t=true->DataW.trod enc P W 0 (fun _=>true) held fuel t cs=some x->Reads P W t cs x.1
 |0,_,_,_,_,_,ae,_=>by simp[uQ]at ae
 |n+1,fuel,t,cs,x,MM,ae,h=>by
  unfold uQ at ae;split at ae
  ·rename_i ht
   have hc:P.cellsOf t=1:=by simpa using ae
   obtain⟨b,rfl,hx⟩:∃b,cs=[.bool b]/\x=(.lit (.bool b),[]):=by
    cases fuel with
    |zero=>simp[DataW.trod]at h
    |succ m=>
     unfold DataW.trod at h;rw[ht]at h;split at h<;>simp_all
   subst hx;exact⟨_,.bool t _ ht,.cons _ _ _ _ (.bool _) .nil,rfl,by rw[hc];rfl,by rw[hc];rfl⟩
  ·rename_i k ht
   have hc:P.cellsOf t=1:=by simpa using ae
   obtain⟨m,rfl,rfl,hw⟩:=DataW.trod_int ht h;exact⟨_,.int t k m ht hw,.cons _ _ _ _ (.int k m) .nil,rfl,by rw[hc];rfl,by rw[hc];rfl⟩
  ·rename_i ht
   have hc:P.cellsOf t=1:=by simpa using ae
   obtain⟨s,rfl,rfl,hw⟩:=DataW.trod_string ht h;obtain⟨⟨s⟩⟩:=s;exact⟨_,.str t _ ht,.cons _ _ _ _ (.str s) .nil,rfl,by rw[hc];rfl,by rw[hc];rfl⟩
  ·rename_i e ht
   simp only[ca,beq_iff_eq,decide_eq_true_eq]at ae;obtain⟨⟨hc,we⟩,jd⟩:=ae;have fc:=kid_slice iH MM ht;rcases DataW.trod_slice ht h with⟨rfl,rfl⟩|⟨a,len,cap,elems,rest,m,-,rfl,rfl,-,pO,-,hlen,Tp,-,-⟩
   ·exact⟨_,.nil t e ht,.cons _ _ _ _ .aY .nil,rfl,by rw[hc];rfl,by rw[hc];rfl⟩
   ·have each:∀i,i<len->∃q:List Value × List V,(∃y,elems[i]? =some y/\W.cells? 0 (a.add (i*P.cellsOf e)) (P.cellsOf e)=some q.1/\fz P e y.1 q.2/\dn W (A8 W) q.2 q.1/\bX q.2=true/\q.2.length=P.cellsOf e/\q.1.length=P.cellsOf e):=fun i hi=>by
     have hb:=Tp i hi;obtain⟨y,hy⟩:∃y,elems[i]? =some y:=⟨_,jI (by omega)⟩;rw[hy,dT]at hb;obtain⟨cs',h1,h2⟩:=hb;obtain⟨vs,bH,cw,ff,gW,jv⟩:=reads iH n m e cs' y fc jd h2;exact⟨(cs',vs),y,hy,h1,bH,cw,ff,gW,jv⟩
    obtain⟨lF,afs,bj⟩:=afm len each;have dG:∀q∈lF,∃i,lF[i]? =some q:=fun q h=>TM h;refine⟨[.list (P.cellsOf e) ((lF.map (·.2)).map tp)],.slice t e (elems.map (·.1)) (rest.map (·.1)) (lF.map (·.2)) ht (by simp[afs,hlen]) (fun i d l hd hl=> ?_),?_,rfl,by rw[hc];rfl,by rw[hc];rfl⟩
    ·rw[kR]at hd hl
     cases A9:lF[i]? with
     |none=>rw[A9]at hl;cases hl
     |some q=>
      obtain⟨y,hy,-,h2,-⟩:=bj i q A9;rw[A9]at hl;rw[hy]at hd;cases hd;cases hl;exact h2
    ·refine .cons _ _ _ _ ?_ .nil
     cases sE:len with
     |zero=>
      have:lF=[]:=List.eq_nil_of_length_eq_zero (by omega);subst this;exact .u7 _ a cap
     |succ aCh=>
      obtain⟨fM,Ts⟩:∃q,lF[0]? =some q:=⟨_,jI (by omega)⟩;obtain⟨arI,-,SP,-,-,-,-,qE⟩:=bj 0 fM Ts;have Tw:=(World.cells?_some SP).2.2 0 we;obtain⟨v0,yU⟩:∃v,fM.1[0]? =some v:=⟨_,jI (by omega)⟩;rw[yU]at Tw;obtain⟨hU,bh,awS⟩:=a
      have ng:awS=none:=by
       have:=(afo Tw).1;simpa[Addr.add]using this
      subst ng
      have kg:hU<W.heap.size:=by
       have:=(afo Tw).2;rwa [block_add,block_add]at this
      have MN:((lF.map (·.2)).map tp).length=len:=by simp[afs]
      have key:fW W (A8 W) (.list (P.cellsOf e) ((lF.map (·.2)).map tp)) (.slice (some ⟨hU,bh,none⟩) ((lF.map (·.2)).map tp).length cap):=by
       refine .list _ _ hU bh cap (lF.map (·.1)).flatten kg (fun j x hj=> ?_) (fun d hd=> ?_) ?_ (by rw[MN];exact pO)
       ·obtain⟨i,r,l,h1,h2,rfl,bc⟩:=afn (c:=P.cellsOf e) (fun l hl=>by
         obtain⟨q,HN,rfl⟩:=eM.1 hl;obtain⟨i,hi⟩:=dG q HN;obtain⟨y,-,-,-,-,-,-,h⟩:=bj i q hi;exact h) hj
        rw[kR]at h1;cases A9:lF[i]? with
        |none=>rw[A9]at h1;cases h1
        |some q=>
         rw[A9]at h1;cases h1;obtain⟨y,-,fa,-⟩:=bj i q A9;have:=(World.cells?_some fa).2.2 r bc;rw[h2]at this
         have ag:((⟨hU,bh,none⟩:Addr).add (i*P.cellsOf e)).add r=⟨hU,bh+(i*P.cellsOf e+r),none⟩:=by
          simp only[Addr.add];split<;>split<;>simp_all<;>omega
         rw[ag]at this;exact this
       ·obtain⟨l,hl,rfl⟩:=eM.1 hd
        obtain⟨q,HN,rfl⟩:=eM.1 hl;obtain⟨i,hi⟩:=dG q HN;obtain⟨y,-,-,-,-,h5,gb,-⟩:=bj i q hi;rw[afl h5];exact gb
       ·have eD:∀q∈lF,dn W (A8 W) q.2 q.1/\bX q.2=true:=fun q HN=>by
         obtain⟨i,hi⟩:=dG q HN;obtain⟨y,-,-,-,bc,h5,-⟩:=bj i q hi;exact⟨bc,h5⟩
        have:∀lF:List (List Value × List V),(∀q∈lF,dn W (A8 W) q.2 q.1/\bX q.2=true)->dn W (A8 W) (((lF.map (·.2)).map tp).flatMap aF) (lF.map (·.1)).flatten:=by
         intro lF
         induction lF with
         |nil=>intro _;exact .nil
         |cons q lF ih=>
          intro h;have h0:=h q (by simp);simp only[eG,lH,H3];rw[afl h0.2];exact Tv h0.1 (ih fun p hp=>h p (by simp[hp]))
        exact this lF eD
      rw[MN,sE]at key;exact key
  ·rename_i fs ht
   obtain⟨ct,dN,jT⟩:=kid_struct iH MM ht;obtain⟨xs,m,-,rfl,h8,jc,hx⟩:=DataW.trod_struct ht h;rw[eV]at ae;obtain⟨ls,q1,aT,b3,cZ,fq⟩:=afp n (fun fuel t cs x a b c=>reads iH n fuel t cs x a b c) m cs fs.toList xs 0 (fun j f hj=>by rw[jT j f hj];omega) (by simpa using jc) (fun f aft=>⟨ct f aft,ae f aft⟩) (fun i f hi=>hx i f (by simpa using hi));refine⟨ls.flatten,.struct t fs (xs.map (·.1)) ls ht (by simpa using jc) (by simpa using q1) (fun i f d l sB hd hl=> ?_),?_,cZ,by rw[fq,dN],h8⟩
   ·rw[kR]at hd
    cases r5:xs[i]? with
    |none=>rw[r5]at hd;cases hd
    |some y=>
     rw[r5]at hd;cases hd;exact aT i f y l (by simpa using sB) r5 hl
   ·rw[List.drop_zero,MV (by rw[h8,dN];exact aM _)]at b3
    exact b3
  ·cases ae
theorem kQ{t:TypeId}{k:IntKind}{d:DataW H}{vs:List V}(ht:P.underlying t=some (.int k))(h:fz P t d vs):∃n,d=.lit (.int k n)/\vs=[.int k n]/\(Lit.int k n).wf=true:=by
 cases h<;>rename_i eo<;>rw[ht]at* <;>try (first|(cases eo;done)|contradiction)
 ·rename_i hw;cases eo;exact⟨_,rfl,rfl,hw⟩
theorem Tx{t:TypeId}{d:DataW H}{vs:List V}(ht:P.underlying t=some .string)(h:fz P t d vs):∃s,d=.lit (.string s)/\vs=[.str s]:=by
 cases h with
 |str _ s eo=>exact⟨s,rfl,rfl⟩
 |bool _ _ eo|int _ _ _ eo _|nil _ _ eo|slice _ _ _ _ _ eo _ _|struct _ _ _ _ eo _ _ _=>rw[ht]at eo;cases eo
theorem awT{t:TypeId}{d:DataW H}{vs:List V}(ht:P.underlying t=some .bool)(h:fz P t d vs):∃b,d=.lit (.bool b)/\vs=[.bool b]:=by
 cases h with
 |bool _ b eo=>exact⟨b,rfl,rfl⟩
 |str _ _ eo|int _ _ _ eo _|nil _ _ eo|slice _ _ _ _ _ eo _ _|struct _ _ _ _ eo _ _ _=>rw[ht]at eo;cases eo
theorem awU{t e:TypeId}{d:DataW H}{vs:List V}(ht:P.underlying t=some (.slice e))(h:fz P t d vs):
  (d=.nil/\vs=[.aY])\/∃(elems spare:List (DataW H)) (ls:List (List V)),d=.slice elems spare/\vs=[.list (P.cellsOf e) (ls.map tp)]/\ls.length=elems.length/\∀(i:Nat) d l,elems[i]? =some d->ls[i]? =some l->fz P e d l:=by
 cases h with
 |nil _ _ eo=>exact .inl ⟨rfl,rfl⟩
 |slice _ e' elems spare ls eo hl h=>rw[ht]at eo;cases eo;exact .inr ⟨elems,spare,ls,rfl,rfl,hl,h⟩
 |bool _ _ eo|str _ _ eo|int _ _ _ eo _|struct _ _ _ _ eo _ _ _=>rw[ht]at eo;cases eo
theorem ri{t:TypeId}{fs:Array Field}{d:DataW H}{vs:List V}(ht:P.underlying t=some (.struct fs))(h:fz P t d vs):
  ∃(parts:List (DataW H)) (ls:List (List V)),d=.agg parts/\vs=ls.flatten/\parts.length=fs.size/\ls.length=fs.size/\∀(i:Nat) (f:Field) d l,fs[i]? =some f->parts[i]? =some d->ls[i]? =some l->fz P f.type d l:=by
 cases h with
 |struct _ aCi parts ls eo hp hl h=>rw[ht]at eo;cases eo;exact⟨parts,ls,rfl,rfl,hp,hl,h⟩
 |bool _ _ eo|str _ _ eo|int _ _ _ eo _|nil _ _ eo|slice _ _ _ _ _ eo _ _=>rw[ht]at eo;cases eo
end
end Go.Abs
namespace Go.Abs.bZ
open Go Go.Abs Go.Proofs
set_option maxRecDepth 100000
def sJ (W:World):cc:=⟨fun _=>none,fun b=>b<W.heap.size⟩
theorem awV (W:World):bf (C fun b=>W.heap[b]?) id (sJ W) [] W where
 obj l h e:=by cases e
 inj l fS h h' e:=by cases e
 blk l h e:=by cases e
 dd b hb:=⟨hb,fun l h e=>by cases e⟩
 kX l h e:=by cases e
 fG b o h:=⟨by
  rcases gq b W.heap.size with q|q
  ·exact q
  ·simp[C,HU q]at h,h⟩
theorem HO{W w':World}{G':cc}{H':Heap}(aa:bf (C fun b=>W.heap[b]?) id G' H' w'){b:Nat}(hb:b<W.heap.size):w'.heap[b]? =W.heap[b]? :=by
 have h:W.heap[b]? =some W.heap[b]:=by simp[hb]
 rw[(aa.fG b _ h).2,h]
theorem awW{W w':World}{G':cc}{H':Heap}(aa:bf (C fun b=>W.heap[b]?) id G' H' w'){b off:Nat}(hb:b<W.heap.size):w'.cell? ⟨b,off,none⟩=W.cell? ⟨b,off,none⟩:=by
 unfold World.cell?; rw[HO aa hb]
theorem awX{W w':World}{G':cc}{H':Heap}(aa:bf (C fun b=>W.heap[b]?) id G' H' w')(ho:w'.os=W.os)(hp:w'.output=W.output)(may:MemPlace->Prop):W.keptBut w' may:=by
 refine⟨ho,hp,fun i hi=> ?_⟩;rw[HO aa hi];cases h:W.heap[i]? with
 |none=>simp
 |some o=>cases o<;>simp
theorem afu{P:Program}{w:World}{n:String}{d:DataW Unit}:∀{l:List (String × DataW Unit)} {ps:List MemPlace},DataW.LaidVars P w l ps->(n,d)∈l->
  ∃g t cs fuel p,P.globalNamed n=some g/\(P.globals[g]?).map (·.type)=some t/\w.var? P n=some cs/\DataW.trod (fun _=>()) P w 0 (fun _=>true) false fuel t cs.toList=some (d,p)
 |[],_,_,h=>by cases h
 |(m,e)::r,ps,h,hm=>by
  obtain⟨g,t,cs,fuel,p,q,h1,h2,av,bc,h5,-⟩:=h;rcases dL.1 hm with hm|hm
  ·cases hm;exact⟨g,t,cs,fuel,p,h1,h2,av,bc⟩
  ·exact afu h5 hm
theorem afv{P:Program}{W:World}{name:String}{k:IntKind}{dj:List Int}{l:List (String × DataW Unit)}{g:Nat}{t e:TypeId}{n:Nat}
  (bx:P.globalNamed name=some g) (awY:(P.globals[g]?).map (·.type)=some t) (ht:P.underlying t=some (.array n e)) (he:P.underlying e=some (.int k)) (we:P.cellsOf e=1) (Mt:P.cellsOf t=n)
  (h:laidMet P l W) (hm:(name,Lib.tabData k dj)∈l):Lib.TabIs P W name k dj:=by
 obtain⟨ps,af,-⟩:=h;obtain⟨aCj,e9,cs,fuel,p,awZ,eo,aw0,hd⟩:=afu af hm;obtain rfl:=yv (bx.symm.trans awZ);obtain rfl:=yv (awY.symm.trans eo);unfold Lib.TabIs;rw[aw0,<-Lib.cells_of_tab ht he we Mt hd]
theorem afw{W w':World}{G':cc}{H':Heap}(aa:bf (C fun b=>W.heap[b]?) id G' H' w'){name:String}{k:IntKind}{dj:List Int}(h:Lib.TabIs Tryz.prog W name k dj):Lib.TabIs Tryz.prog w' name k dj:=by
 unfold Lib.TabIs World.var? at h⊢;cases bx:Tryz.prog.globalNamed name with
 |none=>rw[bx]at h;cases h
 |some g=>
  rw[bx]at h;simp only[aK]at h⊢
  have hb:g<W.heap.size:=by
   rcases gq g W.heap.size with q|q
   ·exact q
   ·rw[HU q]at h;cases h
  rw[HO aa hb];exact h
section
variable{W:World}{H:Type}{enc:TypeId × Value->H}
theorem afx{w':World}{T:TypeId->Prop}(K:Kids Tryz.prog T)(ea:∀{t e:TypeId},T t->Tryz.prog.underlying t=some (.slice e)->0<Tryz.prog.cellsOf e){afy:Nat->Bool}:
  ∀{ts:List TypeId} {vs:List Value} {ds:List (DataW H)} {p:List MemPlace},(∀t∈ts,T t)->DataW.TrodAll enc Tryz.prog W 0 (fun _=>true) true ts vs ds p->(∀q∈p,W.sameAt w' q)->(∀q∈p,afy q.block=true)->
   DataW.TrodAll enc Tryz.prog w' 0 afy true ts vs ds p
 |[],vs,ds,p,_,h,_,_=>by
  obtain⟨rfl,rfl,rfl⟩:=ChangeShapes.trodAll_nil h;rfl
 |t::ts,vs,ds,p,hT,h,hs,hp=>by
  obtain⟨v,vs',d,ds',a,b,rfl,rfl,rfl,⟨fuel,h1⟩,h2⟩:=ChangeShapes.trodAll_cons h;refine⟨a,b,⟨fuel,DataW.trod_stays K ea (fun h=>by cases h) (hT t (by simp)) h1 (fun q bj=>hs q (by simp[bj])) (fun q bj=>hp q (by simp[bj]))⟩,afx K ea (fun u hu=>hT u (by simp[hu])) h2 (fun q bj=>hs q (by simp[bj])) (fun q bj=>hp q (by simp[bj])),rfl⟩
end
set_option maxRecDepth 100000 in
theorem laidOut:laidOutB Tryz.prog=true:=by kernel_rfl
theorem aw1:mapsRowed Tryz.prog=true:=by kernel_rfl
theorem kids:Kids Tryz.prog (· <Tryz.prog.types.size):=kids_rows laidOut aw1
theorem aw2:((List.range Tryz.prog.types.size).all fun t=>match Tryz.prog.underlying t with|some (.slice e)=>decide (0<Tryz.prog.cellsOf e)| _=>true)=true:=by kernel_rfl
theorem aw3{t e:TypeId}(h:t<Tryz.prog.types.size)(hu:Tryz.prog.underlying t=some (.slice e)):0<Tryz.prog.cellsOf e:=by
 have:=eV.1 aw2 t (M9.2 h);rw[hu]at this;simpa using this
theorem aw4{W w':World}{G':cc}{H':Heap}(aa:bf (C fun b=>W.heap[b]?) id G' H' w'){q:MemPlace}(hb:q.block<W.heap.size):W.sameAt w' q:=by
 cases q with
 |cell b off=>exact awW aa hb
 |map b=>exact HO aa hb
theorem aw5{W w':World}{G':cc}{H':Heap}(aa:bf (C fun b=>W.heap[b]?) id G' H' w'){a:Addr}(hb:a.block<W.heap.size):w'.frozen? a=W.frozen? a:=by
 unfold World.frozen?; rw[HO aa hb]
end Go.Abs.bZ
namespace Go.Abs.bZ
open Go Go.Abs Go.Proofs
set_option maxRecDepth 100000
theorem tq{H A:Type}{P:Program}{t e:TypeId}{es:Nat}{f:A->V}{d:DataW H}{l:List V}(ht:P.underlying t=some (.slice e))(fc:P.cellsOf e=es)(he:∀(d:DataW H) l,fz P e d l->∃a:A,tp l=f a)(h:fz P t d l):∃s:ak A,l=[bU es f s]:=by
 rcases awU ht h with⟨-,rfl⟩|⟨elems,spare,ls,-,rfl,hl,hr⟩
 ·exact⟨.nil,rfl⟩
 ·have:∀(ls:List (List V)),(∀l∈ls,∃a:A,tp l=f a)->∃xs:List A,ls.map tp=xs.map f:=by
   intro ls
   induction ls with
   |nil=>exact fun _=>⟨[],rfl⟩
   |cons l ls ih=>
    intro h;obtain⟨a,ao⟩:=h l (by simp);obtain⟨xs,hx⟩:=ih fun l hl=>h l (by simp[hl]);exact⟨a::xs,by rw[eG,eG,ao,hx]⟩
  obtain⟨xs,hx⟩:=this ls fun l MN=>by
   obtain⟨i,hi⟩:=TM MN;have rT:i<ls.length:=(fF.1 hi).1;exact he _ l (hr i _ l (jI (by omega)) hi)
  exact⟨.mk xs,by rw[hx,fc];rfl⟩
theorem uR{α:Type}{l:List α}(h:l.length=2):∃a0 al,l=[a0,al]:=by
 match l,h with
 |[a0,al],_=>exact⟨a0,al,rfl⟩
theorem uS{α:Type}{l:List α}(h:l.length=3):∃a0 al a2,l=[a0,al,a2]:=by
 match l,h with
 |[a0,al,a2],_=>exact⟨a0,al,a2,rfl⟩
theorem MO{α:Type}{l:List α}(h:l.length=5):∃a0 al a2 a3 a4,l=[a0,al,a2,a3,a4]:=by
 match l,h with
 |[a0,al,a2,a3,a4],_=>exact⟨a0,al,a2,a3,a4,rfl⟩
theorem afz{α:Type}{l:List α}(h:l.length=7):∃a0 al a2 a3 a4 a5 HH,l=[a0,al,a2,a3,a4,a5,HH]:=by
 match l,h with
 |[a0,al,a2,a3,a4,a5,HH],_=>exact⟨a0,al,a2,a3,a4,a5,HH,rfl⟩
section
variable{W:World}{H:Type}{enc:TypeId × Value->H}
theorem MP{d:DataW H}{l:List V}(h:fz Tryz.prog 22 d l):∃s:ak Int,l=[bU 1 aQ s]:=
 tq Tryz.underlying22 (by kernel_rfl) (fun d l h=>by obtain⟨n,-,rfl,-⟩:=kQ Tryz.underlying3 h;exact⟨n,rfl⟩) h
theorem aw6{d:DataW H}{l:List V}(h:fz Tryz.prog 86 d l):∃x:Range,l=aF (qV x):=by
 obtain⟨parts,ls,-,rfl,hp,hl,hr⟩:=ri Tryz.underlying86 h;obtain⟨p0,p1,rfl⟩:=uR hp;obtain⟨o5,ck,rfl⟩:=uR hl;obtain⟨cu,-,rfl,-⟩:=kQ Tryz.underlying3 (hr 0 _ _ _ rfl rfl rfl);obtain⟨bt,-,rfl,-⟩:=kQ Tryz.underlying3 (hr 1 _ _ _ rfl rfl rfl);exact⟨⟨cu,bt⟩,rfl⟩
theorem aw7{d:DataW H}{l:List V}(h:fz Tryz.prog 88 d l):∃x:Table,l=aF (lZ x):=by
 obtain⟨parts,ls,-,rfl,hp,hl,hr⟩:=ri Tryz.underlying88 h;obtain⟨p0,p1,p2,p3,mC,rfl⟩:=MO hp;obtain⟨o5,ck,kY,L9,Ab,rfl⟩:=MO hl;obtain⟨cu,-,rfl⟩:=Tx Tryz.underlying9 (hr 0 _ _ _ rfl rfl rfl);obtain⟨bt,-,rfl,-⟩:=kQ Tryz.underlying3 (hr 1 _ _ _ rfl rfl rfl);obtain⟨cH,rfl⟩:=MP (hr 2 _ _ _ rfl rfl rfl);obtain⟨dp,rfl⟩:=aw6 (hr 3 _ _ _ rfl rfl rfl);obtain⟨jC,-,rfl,-⟩:=kQ Tryz.underlying3 (hr 4 _ _ _ rfl rfl rfl);exact⟨⟨cu,bt,cH,dp,jC⟩,rfl⟩
theorem aw8{d:DataW H}{l:List V}(h:fz Tryz.prog 23 d l):∃s:ak Table,l=[bU 6 lZ s]:=
 tq Tryz.underlying23 (by kernel_rfl) (fun d l h=>by obtain⟨x,rfl⟩:=aw7 h;exact⟨x,rfl⟩) h
theorem aw9{d:DataW H}{l:List V}(h:fz Tryz.prog 24 d l):∃s:ak aW,l=[bU 1 V.str s]:=
 tq Tryz.underlying24 (by kernel_rfl) (fun d l h=>by obtain⟨n,-,rfl⟩:=Tx Tryz.underlying9 h;exact⟨n,rfl⟩) h
theorem axa{d:DataW H}{l:List V}(h:fz Tryz.prog 122 d l):∃x:Term,l=aF (ua x):=by
 obtain⟨parts,ls,-,rfl,hp,hl,hr⟩:=ri Tryz.underlying122 h;obtain⟨p0,p1,rfl⟩:=uR hp;obtain⟨o5,ck,rfl⟩:=uR hl;obtain⟨cu,-,rfl,-⟩:=kQ Tryz.underlying3 (hr 0 _ _ _ rfl rfl rfl);obtain⟨bt,-,rfl,-⟩:=kQ Tryz.underlying3 (hr 1 _ _ _ rfl rfl rfl);exact⟨⟨cu,bt⟩,rfl⟩
theorem axb{d:DataW H}{l:List V}(h:fz Tryz.prog 72 d l):∃s:ak Term,l=[bU 2 ua s]:=
 tq Tryz.underlying72 (by kernel_rfl) (fun d l h=>by obtain⟨x,rfl⟩:=axa h;exact⟨x,rfl⟩) h
theorem afA{d:DataW H}{l:List V}(h:fz Tryz.prog 74 d l):∃x:Row,l=aF (ub x):=by
 obtain⟨parts,ls,-,rfl,hp,hl,hr⟩:=ri Tryz.underlying74 h;obtain⟨p0,p1,rfl⟩:=uR hp;obtain⟨o5,ck,rfl⟩:=uR hl;obtain⟨cu,rfl⟩:=axb (hr 0 _ _ _ rfl rfl rfl);obtain⟨bt,-,rfl,-⟩:=kQ Tryz.underlying3 (hr 1 _ _ _ rfl rfl rfl);exact⟨⟨cu,bt⟩,rfl⟩
theorem axc{d:DataW H}{l:List V}(h:fz Tryz.prog 76 d l):∃x:Constraint,l=aF (sV x):=by
 obtain⟨parts,ls,-,rfl,hp,hl,hr⟩:=ri Tryz.underlying76 h;obtain⟨p0,p1,p2,p3,mC,rfl⟩:=MO hp;obtain⟨o5,ck,kY,L9,Ab,rfl⟩:=MO hl;obtain⟨cu,-,rfl,-⟩:=kQ Tryz.underlying3 (hr 0 _ _ _ rfl rfl rfl);obtain⟨bt,-,rfl,-⟩:=kQ Tryz.underlying3 (hr 1 _ _ _ rfl rfl rfl);obtain⟨cH,rfl⟩:=afA (hr 2 _ _ _ rfl rfl rfl);obtain⟨dp,-,rfl,-⟩:=kQ Tryz.underlying3 (hr 3 _ _ _ rfl rfl rfl);obtain⟨jC,-,rfl,-⟩:=kQ Tryz.underlying3 (hr 4 _ _ _ rfl rfl rfl);exact⟨⟨cu,bt,cH,dp,jC⟩,rfl⟩
theorem axd{d:DataW H}{l:List V}(h:fz Tryz.prog 25 d l):∃s:ak Constraint,l=[bU 6 sV s]:=
 tq Tryz.underlying25 (by kernel_rfl) (fun d l h=>by obtain⟨x,rfl⟩:=axc h;exact⟨x,rfl⟩) h
theorem axe{d:DataW H}{l:List V}(h:fz Tryz.prog 78 d l):∃x:cV,l=aF (sW x):=by
 obtain⟨parts,ls,-,rfl,hp,hl,hr⟩:=ri Tryz.underlying78 h;obtain⟨p0,p1,p2,rfl⟩:=uS hp;obtain⟨o5,ck,kY,rfl⟩:=uS hl;obtain⟨cu,-,rfl⟩:=Tx Tryz.underlying9 (hr 0 _ _ _ rfl rfl rfl);obtain⟨bt,-,rfl⟩:=awT Tryz.underlying4 (hr 1 _ _ _ rfl rfl rfl);obtain⟨cH,rfl⟩:=MP (hr 2 _ _ _ rfl rfl rfl);exact⟨⟨cu,bt,cH⟩,rfl⟩
theorem axf{d:DataW H}{l:List V}(h:fz Tryz.prog 26 d l):∃s:ak cV,l=[bU 3 sW s]:=
 tq Tryz.underlying26 (by kernel_rfl) (fun d l h=>by obtain⟨x,rfl⟩:=axe h;exact⟨x,rfl⟩) h
theorem axg{d:DataW H}{l:List V}(h:fz Tryz.prog 128 d l):∃x:Change,l=aF (uc x):=by
 obtain⟨parts,ls,-,rfl,hp,hl,hr⟩:=ri Tryz.underlying128 h;obtain⟨p0,p1,rfl⟩:=uR hp;obtain⟨o5,ck,rfl⟩:=uR hl;obtain⟨cu,-,rfl,-⟩:=kQ Tryz.underlying3 (hr 0 _ _ _ rfl rfl rfl);obtain⟨bt,-,rfl,-⟩:=kQ Tryz.underlying3 (hr 1 _ _ _ rfl rfl rfl);exact⟨⟨cu,bt⟩,rfl⟩
theorem axh{d:DataW H}{l:List V}(h:fz Tryz.prog 31 d l):∃s:ak Change,l=[bU 2 uc s]:=
 tq Tryz.underlying31 (by kernel_rfl) (fun d l h=>by obtain⟨x,rfl⟩:=axg h;exact⟨x,rfl⟩) h
theorem axi{d:DataW H}{l:List V}(h:fz Tryz.prog 32 d l):∃s:ak Row,l=[bU 2 ub s]:=
 tq Tryz.underlying32 (by kernel_rfl) (fun d l h=>by obtain⟨x,rfl⟩:=afA h;exact⟨x,rfl⟩) h
theorem axj{d:DataW H}{l:List V}(h:fz Tryz.prog 194 d l):∃x:ko,l=aF (ud x):=by
 obtain⟨parts,ls,-,rfl,hp,hl,hr⟩:=ri Tryz.underlying194 h;obtain⟨p0,p1,p2,rfl⟩:=uS hp;obtain⟨o5,ck,kY,rfl⟩:=uS hl;obtain⟨cu,-,rfl,-⟩:=kQ Tryz.underlying3 (hr 0 _ _ _ rfl rfl rfl);obtain⟨bt,-,rfl,-⟩:=kQ Tryz.underlying3 (hr 1 _ _ _ rfl rfl rfl);obtain⟨cH,-,rfl,-⟩:=kQ Tryz.underlying3 (hr 2 _ _ _ rfl rfl rfl);exact⟨⟨cu,bt,cH⟩,rfl⟩
theorem axk{d:DataW H}{l:List V}(h:fz Tryz.prog 33 d l):∃s:ak ko,l=[bU 3 ud s]:=
 tq Tryz.underlying33 (by kernel_rfl) (fun d l h=>by obtain⟨x,rfl⟩:=axj h;exact⟨x,rfl⟩) h
theorem afB{d:DataW H}{l:List V}(h:fz Tryz.prog 35 d l):∃x:c7,l=aF (wk x):=by
 obtain⟨parts,ls,-,rfl,hp,hl,hr⟩:=ri Tryz.underlying35 h;obtain⟨p0,p1,p2,rfl⟩:=uS hp;obtain⟨o5,ck,kY,rfl⟩:=uS hl;obtain⟨cu,rfl⟩:=axh (hr 0 _ _ _ rfl rfl rfl);obtain⟨bt,rfl⟩:=axi (hr 1 _ _ _ rfl rfl rfl);obtain⟨cH,rfl⟩:=axk (hr 2 _ _ _ rfl rfl rfl);exact⟨⟨cu,bt,cH⟩,rfl⟩
theorem axl{d:DataW H}{l:List V}(h:fz Tryz.prog 69 d l):∃x:Action,l=aF (sX x):=by
 obtain⟨parts,ls,-,rfl,hp,hl,hr⟩:=ri Tryz.underlying69 h;obtain⟨p0,p1,p2,rfl⟩:=uS hp;obtain⟨o5,ck,kY,rfl⟩:=uS hl;obtain⟨cu,-,rfl,-⟩:=kQ Tryz.underlying3 (hr 0 _ _ _ rfl rfl rfl);obtain⟨bt,rfl⟩:=MP (hr 1 _ _ _ rfl rfl rfl);obtain⟨cH,rfl⟩:=afB (hr 2 _ _ _ rfl rfl rfl);exact⟨⟨cu,bt,cH⟩,rfl⟩
theorem axm{d:DataW H}{l:List V}(h:fz Tryz.prog 27 d l):∃s:ak Action,l=[bU 5 sX s]:=
 tq Tryz.underlying27 (by kernel_rfl) (fun d l h=>by obtain⟨x,rfl⟩:=axl h;exact⟨x,rfl⟩) h
theorem axn{d:DataW H}{l:List V}(h:fz Tryz.prog 174 d l):∃x:gz,l=aF (jB x):=by
 obtain⟨parts,ls,-,rfl,hp,hl,hr⟩:=ri Tryz.underlying174 h;obtain⟨p0,p1,p2,rfl⟩:=uS hp;obtain⟨o5,ck,kY,rfl⟩:=uS hl;obtain⟨cu,-,rfl,-⟩:=kQ Tryz.underlying3 (hr 0 _ _ _ rfl rfl rfl);obtain⟨bt,-,rfl,-⟩:=kQ Tryz.underlying3 (hr 1 _ _ _ rfl rfl rfl);obtain⟨cH,-,rfl,-⟩:=kQ Tryz.underlying3 (hr 2 _ _ _ rfl rfl rfl);exact⟨⟨cu,bt,cH⟩,rfl⟩
theorem axo{d:DataW H}{l:List V}(h:fz Tryz.prog 28 d l):∃s:ak gz,l=[bU 3 jB s]:=
 tq Tryz.underlying28 (by kernel_rfl) (fun d l h=>by obtain⟨x,rfl⟩:=axn h;exact⟨x,rfl⟩) h
theorem axp{d:DataW H}{l:List V}(h:fz Tryz.prog 30 d l):∃x:Model,l=aF (wm x):=by
 obtain⟨parts,ls,-,rfl,hp,hl,hr⟩:=ri Tryz.underlying30 h;obtain⟨p0,p1,p2,p3,mC,s8,Hj,rfl⟩:=afz hp;obtain⟨o5,ck,kY,L9,Ab,A5,yj,rfl⟩:=afz hl;obtain⟨cu,rfl⟩:=MP (hr 0 _ _ _ rfl rfl rfl);obtain⟨bt,rfl⟩:=aw8 (hr 1 _ _ _ rfl rfl rfl);obtain⟨cH,rfl⟩:=aw9 (hr 2 _ _ _ rfl rfl rfl);obtain⟨dp,rfl⟩:=axd (hr 3 _ _ _ rfl rfl rfl);obtain⟨jC,rfl⟩:=axf (hr 4 _ _ _ rfl rfl rfl);obtain⟨ez,rfl⟩:=axm (hr 5 _ _ _ rfl rfl rfl);obtain⟨nN,rfl⟩:=axo (hr 6 _ _ _ rfl rfl rfl);exact⟨⟨cu,bt,cH,dp,jC,ez,nN⟩,rfl⟩
theorem axq:uQ Tryz.prog 12 30=true:=by kernel_rfl
theorem axr:30<Tryz.prog.types.size:=of_decide_eq_true (by kernel_rfl)
theorem axs{b:Nat}{v:Value}(hval:Value.okWide Tryz.prog W .any b 30 v):∃cs,v=.agg cs:=by
 unfold Value.okWide at hval;rw[Tryz.underlying30]at hval;cases v<;>first|exact⟨_,rfl⟩|(simp at hval)
theorem axt{b:Nat}{v:Value}(hval:Value.okWide Tryz.prog W .any b 30 v){d:DataW H}{p:List MemPlace}{held:Bool}(hd:DataW.Trod enc Tryz.prog W 0 (fun _=>true) held 30 v d p):∃m:Model,fW W (sJ W).I (wm m) v:=by
 obtain⟨cs,rfl⟩:=axs hval;obtain⟨fuel,hd⟩:=hd;obtain⟨vs,bH,cw,-⟩:=reads laidOut 12 fuel 30 _ _ axr axq hd;obtain⟨m,rfl⟩:=axp bH;exact⟨m,.agg _ cs.toList cw⟩
end
end Go.Abs.bZ
namespace Go.Abs.bZ
open Go Go.Abs Go.Proofs
set_option maxRecDepth 100000
section
variable{W:World}{H:Type}{enc:TypeId × Value->H}
theorem axu:uQ Tryz.prog 12 35=true:=by kernel_rfl
theorem axv:35<Tryz.prog.types.size:=of_decide_eq_true (by kernel_rfl)
theorem axw{b:Nat}{v:Value}(hval:Value.okWide Tryz.prog W .any b 35 v):∃cs,v=.agg cs:=by
 unfold Value.okWide at hval;rw[Tryz.underlying35]at hval;cases v<;>first|exact⟨_,rfl⟩|(simp at hval)
theorem axx{b:Nat}{v:Value}(hval:Value.okWide Tryz.prog W .any b 35 v){d:DataW H}{p:List MemPlace}{held:Bool}(hd:DataW.Trod enc Tryz.prog W 0 (fun _=>true) held 35 v d p):∃m:c7,fW W (sJ W).I (wk m) v:=by
 obtain⟨cs,rfl⟩:=axw hval;obtain⟨fuel,hd⟩:=hd;obtain⟨vs,bH,cw,-⟩:=reads laidOut 12 fuel 35 _ _ axv axu hd;obtain⟨m,rfl⟩:=afB bH;exact⟨m,.agg _ cs.toList cw⟩
theorem axy{d:DataW H}{l:List V}(h:fz Tryz.prog 37 d l):∃x:rY,l=aF (wo x):=by
 obtain⟨parts,ls,-,rfl,hp,hl,hr⟩:=ri Tryz.underlying37 h;obtain⟨p0,p1,rfl⟩:=uR hp;obtain⟨o5,ck,rfl⟩:=uR hl;obtain⟨cu,-,rfl,-⟩:=kQ Tryz.underlying3 (hr 0 _ _ _ rfl rfl rfl);obtain⟨bt,-,rfl,-⟩:=kQ Tryz.underlying3 (hr 1 _ _ _ rfl rfl rfl);exact⟨⟨cu,bt⟩,rfl⟩
theorem axz:uQ Tryz.prog 12 37=true:=by kernel_rfl
theorem axA:37<Tryz.prog.types.size:=of_decide_eq_true (by kernel_rfl)
theorem axB{b:Nat}{v:Value}(hval:Value.okWide Tryz.prog W .any b 37 v):∃cs,v=.agg cs:=by
 unfold Value.okWide at hval;rw[Tryz.underlying37]at hval;cases v<;>first|exact⟨_,rfl⟩|(simp at hval)
theorem axC{b:Nat}{v:Value}(hval:Value.okWide Tryz.prog W .any b 37 v){d:DataW H}{p:List MemPlace}{held:Bool}(hd:DataW.Trod enc Tryz.prog W 0 (fun _=>true) held 37 v d p):∃m:rY,fW W (sJ W).I (wo m) v:=by
 obtain⟨cs,rfl⟩:=axB hval;obtain⟨fuel,hd⟩:=hd;obtain⟨vs,bH,cw,-⟩:=reads laidOut 12 fuel 37 _ _ axA axz hd;obtain⟨m,rfl⟩:=axy bH;exact⟨m,.agg _ cs.toList cw⟩
end
end Go.Abs.bZ
namespace Go.Proofs.YtdoflpjbdlgciaaGreatDoor.words
open Go Go.Abs Go.Abs.bZ Go.Proofs Go.ChangeShapes Go.WideShapes Go.ChangeAt Go.RowKit
set_option maxRecDepth 100000
theorem axD{H:Type}{enc:TypeId × Value->H}{f:Func}{s:ChangeSpec}{apart fresh handsOn again:Bool}{W W':World}{args:Array Value}{ds gs:List (DataW H)}{before:List MemPlace}{G':cc}{H':Heap}
  (hW:DataW.Whole enc Tryz.prog f.params.toList s.vars apart W args.toList ds gs before) (af:s.vars=[]) (hT:∀t∈f.params.toList,t<Tryz.prog.types.size) (hr:f.resultTypes= #[4])
  (iI:(s.fn H (ds++gs)).results=[.lit (.bool true)]) (axE:gs=[]->(s.fn H (ds++gs)).args=ds) (Av:(s.fn H (ds++gs)).vars=[])
  (aa:bf (C fun b=>W.heap[b]?) id G' H' W') (ho:W'.os=W.os) (hp:W'.output=W.output):s.post enc Tryz.prog f apart fresh handsOn again W args (.bool true) W':=by
 have aH:=hW.lt;have hold:∀p∈before,(fun b=>decide (b<W.heap.size)) p.block=true:=fun p hp=>by simpa using aH p hp
 have axF:=hW;obtain⟨pa,q,hA,hV,u9,aI,hn⟩:=hW;rw[af]at hV;obtain⟨yN,rfl⟩:=trodVars_none hV;rw[rk]at u9;subst u9
 have vv:∀sp:Nat->Bool,(∀p∈before,sp p.block=true)->DataW.TrodAll enc Tryz.prog W' 0 sp true f.params.toList args.toList (s.fn H (ds++gs)).args before:=fun sp ng=>by
  rw[axE yN];exact afx kids (fun h hu=>aw3 h hu) hT hA (fun q bj=>aw4 aa (aH q bj)) ng
 have afC:∀sp:Nat->Bool,DataW.TrodVars enc Tryz.prog W' sp s.vars (s.fn H (ds++gs)).vars []:=fun sp=>by rw[af,Av];rfl
 have tS:∀(b:Nat) (sp:Nat->Bool) (hd:Bool),DataW.TrodAll enc Tryz.prog W' b sp hd f.resultTypes.toList ((Value.bool true).resultList f.resultTypes.size) (s.fn H (ds++gs)).results []:=fun b sp hd=>by
  rw[hr,iI];exact trodAll_cons_mk (shut_bool Tryz.underlying4 _) trodAll_mk0
 refine⟨ds,gs,before,[],before,[],axF,tS _ _ _,vv _ hold,afC _,awX aa ho hp _,fun _=> ?_⟩;refine⟨ok_one hr rfl (okWide_bool_mk Tryz.underlying4 _),_,_,([]++before)++[],⟨[]++before,[],trodAll_append (vv _ (fun _ _=>rfl)) (tS _ _ _),afC _,rfl,?_,?_⟩,?_⟩
 ·intro b off pQ
  have hm:MemPlace.cell b off∈before:=by simpa using pQ
  rw[aw5 aa (aH _ hm)];exact aI b off hm
 ·intro ao
  simpa using hn ao
 ·intro p pQ _
  simpa using pQ
theorem axG{W:World}(h:laidMetH Tryz.prog Rows.executionWordsRow.laid W):Lib.TabIs Tryz.prog W "strings.asciiSpace" .u8 Lib.asciiSpaceTab:=by
 have ae:(Rows.executionWordsRow.laid.filter fun x=>x.2.handleName?.isSome)=[]:=by kernel_rfl
 unfold laidMetH at h;rw[ae]at h
 have hm:("strings.asciiSpace",Lib.tabData .u8 Lib.asciiSpaceTab)∈Rows.executionWordsRow.laid:=by
  have e:Rows.executionWordsRow.laid[7]? =some ("strings.asciiSpace",Lib.tabData .u8 Lib.asciiSpaceTab):=by kernel_rfl
  exact e0 e
 exact afv (g:=1) (t:=487) (e:=5) (n:=256) (by kernel_rfl) (by kernel_rfl) (by kernel_rfl) (by kernel_rfl) (by kernel_rfl) (by kernel_rfl) h hm
theorem axH{W:World}(h:laidMetH Tryz.prog Rows.executionWordsRow.laid W):Lib.TabIs Tryz.prog W "internal/strconv.uint64pow10" .u64 Lib.pow10Tab:=by
 have ae:(Rows.executionWordsRow.laid.filter fun x=>x.2.handleName?.isSome)=[]:=by kernel_rfl
 unfold laidMetH at h;rw[ae]at h
 have hm:("internal/strconv.uint64pow10",Lib.tabData .u64 Lib.pow10Tab)∈Rows.executionWordsRow.laid:=by
  have e:Rows.executionWordsRow.laid[2]? =some ("internal/strconv.uint64pow10",Lib.tabData .u64 Lib.pow10Tab):=by kernel_rfl
  exact e0 e
 exact afv (g:=0) (t:=435) (e:=373) (n:=20) (by kernel_rfl) (by kernel_rfl) (by kernel_rfl) (by kernel_rfl) (by kernel_rfl) (by kernel_rfl) h hm
theorem walk{W:World}{ad:Nat->Option cb}(aZ:dr (C fun b=>W.heap[b]?) id (fw fun b=>W.heap[b]?)->dr (C fun b=>W.heap[b]?) id ad)(dY:laidMetH Tryz.prog Rows.executionWordsRow.laid W){i:Nat}{f:hh}(hi:ad i=some (.code f)){vs:List V}{xs:List Value}(c3:dn W (sJ W).I vs xs)
  (he:cl ad (.fn i [] []) vs []=some (.bool true,[],0)):
  Calls Tryz.prog i ⟨xs⟩ W fun e W'=>e=.returned (.bool true)/\∃G' H',bf (C fun b=>W.heap[b]?) id G' H' W'/\W'.os=W.os/\W'.output=W.output:=by
 obtain⟨n,hn⟩:=sq.1 he;have hT:dr (C fun b=>W.heap[b]?) id ad:=aZ <| awb (fun G H w aa=>afw aa (axH dY)) fun G H w aa=>afw aa (axG dY)
 have h:=WI (C:=C fun b=>W.heap[b]?) (fid:=id) (Checked.mixed Tryz.checked) tW hT hi hn (awV W) (dn.oP c3);refine DN h fun e W' hp=> ?_;obtain⟨x,rfl,G',h1,h2,av⟩:=hp;rw[av.k1];have dw:=h2 0 (aM _);exact⟨rfl,G',_,h1,dw.os,dw.output⟩
end Go.Proofs.YtdoflpjbdlgciaaGreatDoor.words
namespace Go.Proofs.YtdoflpjbdlgciaaGreatDoor
open Go Go.Abs Go.Abs.bZ Go.Proofs
set_option maxRecDepth 100000
def Ba:DataW Unit->List Value
 | .agg xs=>xs.map fun x=>match x with
   | .lit (.int k n)=>.int k n
   | _=>.tuple #[]
 | _=>[]
def axI:DataW Unit->List Value
 | .agg xs=>xs.flatMap Ba
 | _=>[]
def afD:DataW Unit->Value
 | .iface _ (.ptr (.agg [.lit (.string s)]))=>.string ⟨⟨s⟩⟩
 | _=>.tuple #[]
def rowsOf:DataW Unit->List Value
 | .ptr (.agg (.slice xs _::_))=>xs.flatMap Ba
 | _=>[]
def more:Array Obj:= #[.cells #[afD Rows.laid_strconv_ErrRange] 523 (0,0),.cells #[afD Rows.laid_strconv_ErrSyntax] 523 (0,0),
 .cells #[.slice (some ⟨19,0,none⟩) 7 7,.slice none 0 0,.int .i64 2] 537 (0,0),.cells (rowsOf Rows.laid_unicode_White_Space).toArray 540 (0,0)]
def w3 (cs:Array Value):Obj->Obj
 | .cells _ t f=>.cells cs t f
 |o=>o
noncomputable def MQ (os:Os):World:=
 {World.holding Tryz.prog os ⟨more,#[],[]⟩with heap:=(((((((((World.holding Tryz.prog os ⟨more,#[],[]⟩).heap.modify 1 (w3 (Ba Rows.laid_strings_asciiSpace).toArray)).modify 0 (w3 (Ba Rows.laid_internal_strconv_uint64pow10).toArray)).modify 7 (w3 #[.pointer (some ⟨18,0,none⟩)])).modify 3 (w3 #[.iface 521 (.pointer (some ⟨16,0,none⟩))])).modify 2 (w3 #[.iface 521 (.pointer (some ⟨17,0,none⟩))])).modify 4 (w3 (Ba Rows.laid_math_bits_deBruijn32tab).toArray)).modify 5 (w3 (Ba Rows.laid_math_bits_deBruijn64tab).toArray)).modify 8 (w3 (Ba Rows.laid_unicode_utf8_first).toArray)).modify 9 (w3 (axI Rows.laid_unicode_utf8_acceptRanges).toArray)}
theorem own:ownKnob Tryz.prog.godebug=none:=by kernel_rfl
end Go.Proofs.YtdoflpjbdlgciaaGreatDoor
