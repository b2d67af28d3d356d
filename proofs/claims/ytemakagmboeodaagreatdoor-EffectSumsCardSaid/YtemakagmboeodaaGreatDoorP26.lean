/- Texts of this claim, joined and written short by a program. -/
import Derived.Test.YtemakagmboeodaaGreatDoorP18
import Derived.Test.YtemakagmboeodaaGreatDoorP20
import Derived.Test.YtemakagmboeodaaGreatDoorP24
import Derived.Test.YtemakagmboeodaaGreatDoorP25
import Derived.Test.YtemakagmboeodaaGreatDoorP15
import Derived.Test.YtemakagmboeodaaGreatDoorP00
set_option linter.unusedVariables false
set_option linter.unusedSimpArgs false
set_option linter.unusedSectionVars false
set_option maxRecDepth 100000
namespace Go.Abs.cb
open Go Go.Abs Go.Proofs Go.Sort
noncomputable section
variable{g:Nat->Option Obj}
def Ia (g:Nat->Option Obj):Nat->Option bQ:=r8 (gq g) 20 (Go.Abs.q4 21)
theorem Tl (h:da (C g) id (gq g)):da (C g) id (Ia g):=Qy h ae4
theorem afx (g:Nat->Option Obj):uf (C g) Tryz.f8 (Go.Abs.nY 20 21):=⟨[jx nM,jx (cd nM),jx (cd (cd nM)),jx (cd (cd (cd nM)))],jx (cd (cd (cd (cd nM)))),cd (cd (cd (cd (cd nM)))),by kernel_rfl,by kernel_rfl,by kernel_rfl,by kernel_rfl,by kernel_rfl,by kernel_rfl⟩
theorem afy (h:da (C g) id (gq g)):lv (C g) id 8 sv:=afv mixed qF (Tl h) Tryz.func8 (afx g) (by unfold Ia;exact abr _ _ _) (by decide)
def jY (g:Nat->Option Obj):Nat->Option bQ:=over (over (Ia g) 8 sv) 4 (yt [] (.bool true))
theorem afz (h:da (C g) id (gq g)):da (C g) id (jY g):=yu (yu (Tl h) (afy h)) (acb h)
theorem afA (x:al Term):cB [b4 2 jU x]=true:=by simp[cB]
theorem afB (x:al Term):b4 2 jU x=b4 2 e8 (x.map fun t=>(t.Cell,t.cV)):=by
 cases x with
 |nil=>rfl
 |emp=>rfl
 |mk l=>simp only[b4,al.map,jm];rfl
theorem Tm{α β:Type}(f:α->β)(x:al α):(x.map f).l=x.l.map f:=by cases x<;>rfl
theorem afC (x:al (Int × Int))(h:x.l.length<1073741824):sv [b4 2 e8 x]=some (kh (e0 x.l)):=by
 cases x with
 |nil=>show some V.ak=_;simp[al.l,e0,gi,jV,kh]
 |emp=>show some V.ak=_;simp[al.l,e0,gi,jV,kh]
 |mk l=>
  show(match ss (l.map e8)with
   |some ps=>if ps.length<1073741824 then some (kh (e0 ps))else none
   |none=>none)=_
  rw[H3];exact if_pos h
theorem afD (l:List (Int × Int)):kh l=b4 2 jU (mQ l):=by
 unfold kh mQ;cases l with
 |nil=>rfl
 |cons p l=>
  show V.list 2 ((p::l).map e8)=V.list 2 (((p::l).map fun p=>Term.mk p.1 p.2).map jU);rw[jm];rfl
theorem afE{x r:al Term}(h:qY x=some r):sv [b4 2 jU x]=some (b4 2 jU r):=by
 unfold qY at h;split at h
 ·rename_i hl
  cases h;rw[afB,afC _ (by rw[Tm,eA];exact hl),Tm,afD]
 ·cases h
end
end Go.Abs.cb
