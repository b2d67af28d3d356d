/- Texts of this claim, joined and written short by a program. -/
import Derived.Test.YtgkcikhegodchaaGreatDoorS33
import Derived.Test.YtgkcikhegodchaaGreatDoorS35
import Derived.Test.YtgkcikhegodchaaGreatDoorS00
set_option linter.unusedVariables false
set_option linter.unusedSimpArgs false
set_option linter.unusedSectionVars false
set_option maxRecDepth 100000
namespace Go.Abs.bs
open Go Go.Abs Go.Proofs Go.Sort
noncomputable section
variable{g:Nat->Option Obj}
def SR (g:Nat->Option Obj):Nat->Option bV:=Bd (nX g) 93 (Go.Abs.w6 94)
theorem afg (h:du (C g) id (nX g)):du (C g) id (SR g):=axV h axx
theorem axW (g:Nat->Option Obj):Ch (C g) Tryz.f47 (Go.Abs.ja 93 94):=⟨[hY sb,hY (e7 sb),hY (e7 (e7 sb)),hY (e7 (e7 (e7 sb)))],hY (e7 (e7 (e7 (e7 sb)))),e7 (e7 (e7 (e7 (e7 sb)))),by kernel_rfl,by kernel_rfl,by kernel_rfl,by kernel_rfl,by kernel_rfl,by kernel_rfl⟩
theorem axX (h:du (C g) id (nX g)):iS (C g) id 47 yw:=axS mixed E7 (afg h) Tryz.func47 (axW g) (by unfold SR;exact axU _ _ _) (by decide)
def cT (g:Nat->Option Obj):Nat->Option bV:=over (over (over (SR g) 47 yw) 41 Dq) 6 (Ce [] (.bool true))
theorem axY (h:du (C g) id (nX g)/\du (A g) id (iE g)):du (C g) id (cT g):=EN (EN (EN (afg h.1) (axX h.1)) (ave h.1)) (au3 h.2)
theorem axZ (x:ad Term):cg [bb 2 oN x]=true:=by simp[cg]
theorem ax0 (x:ad Term):bb 2 oN x=bb 2 gG (x.map fun t=>(t.Cell,t.dA)):=by
 cases x with
 |nil=>rfl
 |emp=>rfl
 |mk l=>simp only[bb,ad.map,kR];rfl
theorem afh{α β:Type}(f:α->β)(x:ad α):(x.map f).l=x.l.map f:=by cases x<;>rfl
theorem ax1 (x:ad (Int × Int))(h:x.l.length<1073741824):yw [bb 2 gG x]=some (ny (kI x.l)):=by
 cases x with
 |nil=>show some V.bX=_;simp[ad.l,kI,iG,mF,ny]
 |emp=>show some V.bX=_;simp[ad.l,kI,iG,mF,ny]
 |mk l=>
  show(match yv (l.map gG)with
   |some ps=>if ps.length<1073741824 then some (ny (kI ps))else none
   |none=>none)=_
  rw[SK];exact if_pos h
theorem ax2 (l:List (Int × Int)):ny l=bb 2 oN (wu l):=by
 unfold ny wu;cases l with
 |nil=>rfl
 |cons p l=>
  show V.list 2 ((p::l).map gG)=V.list 2 (((p::l).map fun p=>Term.mk p.1 p.2).map oN);rw[kR];rfl
theorem ax3{x r:ad Term}(h:Cx x=some r):yw [bb 2 oN x]=some (bb 2 oN r):=by
 unfold Cx at h;split at h
 ·rename_i hl
  cases h;rw[ax0,ax1 _ (by rw[afh,ef];exact hl),afh,ax2]
 ·cases h
end
end Go.Abs.bs
