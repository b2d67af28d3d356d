/- StateSums: the card. -/
import Derived.Test.YtgkcikhegodchaaGreatDoorS38
import Derived.Test.YtgkcikhegodchaaGreatDoorS48
import Derived.Test.YtgkcikhegodchaaGreatDoorS49
import Derived.Test.YtgkcikhegodchaaGreatDoorS50
import Derived.Test.YtgkcikhegodchaaGreatDoorS52
import Derived.Test.YtgkcikhegodchaaGreatDoorS00
set_option linter.unusedVariables false
set_option linter.unusedSimpArgs false
set_option linter.unusedSectionVars false
namespace Go.Proofs.YtgkcikhegodchaaGreatDoor.summing
open Go Go.Abs Go.Abs.bs Go.Proofs Go.ChangeShapes Go.WideShapes Go.ChangeAt Go.RowKit
set_option maxRecDepth 100000
theorem said:Rows.StateSumsSaid:=
 OpenClaim.holds_of_cond 5 Tryz.f5 rfl rfl rfl rfl rfl rfl rfl ⟨rfl,rfl,rfl,rfl,rfl⟩ rfl rfl rfl rfl rfl named Tryz.func5 closed inst wrap
  (fun os started H enc _ F=>by rw[OpenClaim.pre_eq_preRow];exact lifted os started H enc F)
theorem plain (f:FuncId)(fn:Func)(ae:Tryz.pinned.checked.prog.funcNamed Rows.stateSumsRow.func=some f)(h9:Tryz.pinned.checked.prog.funcs[f]? =some fn):
  true=Tryz.pinned.checked.prog.looks []/\∀(j:Nat) t,fn.params[j]? =some t->Tryz.pinned.checked.prog.wantsStandIn t=false:=by
 obtain rfl:f=5:=u3 (named.symm.trans ae) |>.symm
 obtain rfl:fn=Tryz.f5:=(u3 (Tryz.func5.symm.trans h9)).symm
 refine⟨looks,fun j t ht=> ?_⟩
 rw[Tryz.params5]at ht
 have:t∈[30,22,46,46]:=by simpa using Array.mem_of_getElem? ht
 have:=eU.1 azr t this
 exact Eq.trans (Bool.not_not _).symm (congrArg not this)
theorem card:Rows.StateSumsCardSaid:=
 Claim7.holds_tied_plain_at .later [] _ _ _ _ said (fun _ h=>by cases h) azs (fun _ h=>by cases h) own.stateSums_row_tie rfl ⟨rfl,rfl⟩ mainIs rfl plain azq
end Go.Proofs.YtgkcikhegodchaaGreatDoor.summing
