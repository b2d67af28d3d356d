/- EffectSums: the card. -/
import Derived.Test.YtemakagmboeodaaGreatDoorP30
import Derived.Test.YtemakagmboeodaaGreatDoorP40
import Derived.Test.YtemakagmboeodaaGreatDoorP41
import Derived.Test.YtemakagmboeodaaGreatDoorP42
import Derived.Test.YtemakagmboeodaaGreatDoorP43
import Derived.Test.YtemakagmboeodaaGreatDoorP00
set_option linter.unusedVariables false
set_option linter.unusedSimpArgs false
set_option linter.unusedSectionVars false
namespace Go.Proofs.YtemakagmboeodaaGreatDoor.adding
open Go Go.Abs Go.Abs.cb Go.Proofs Go.ChangeShapes Go.WideShapes Go.ChangeAt Go.RowKit
set_option maxRecDepth 100000
theorem said:Rows.EffectSumsSaid:=
 OpenClaim.holds_of_cond 3 Tryz.f3 rfl rfl rfl rfl rfl rfl rfl ⟨rfl,rfl,rfl,rfl,rfl⟩ rfl rfl rfl rfl rfl named Tryz.func3 closed inst wrap
  (fun os started H enc _ F=>by rw[OpenClaim.pre_eq_preRow];exact lifted os started H enc F)
theorem plain (f:FuncId)(fn:Func)(af:Tryz.pinned.checked.prog.funcNamed Rows.effectSumsRow.func=some f)(fx:Tryz.pinned.checked.prog.funcs[f]? =some fn):
  true=Tryz.pinned.checked.prog.looks []/\∀(j:Nat) t,fn.params[j]? =some t->Tryz.pinned.checked.prog.wantsStandIn t=false:=by
 obtain rfl:f=3:=xm (named.symm.trans af) |>.symm
 obtain rfl:fn=Tryz.f3:=(xm (Tryz.func3.symm.trans fx)).symm
 refine⟨looks,fun j t ht=> ?_⟩
 rw[Tryz.params3]at ht
 have:t∈[22,23,23,3]:=by simpa using Array.mem_of_getElem? ht
 have:=eV.1 ah1 t this
 exact Eq.trans (Bool.not_not _).symm (congrArg not this)
theorem card:Rows.EffectSumsCardSaid:=
 Claim7.holds_tied_plain_at .later [] _ _ _ _ said (fun _ h=>by cases h) ah2 (fun _ h=>by cases h) own.effectSums_row_tie rfl ⟨rfl,rfl⟩ mainIs rfl plain ah0
end Go.Proofs.YtemakagmboeodaaGreatDoor.adding
