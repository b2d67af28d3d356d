/- ExecutionLess: the card. -/
import Derived.Test.YtonmjjfciemcoaaGreatDoorP52
import Derived.Test.YtonmjjfciemcoaaGreatDoorP61
import Derived.Test.YtonmjjfciemcoaaGreatDoorP62
import Derived.Test.YtonmjjfciemcoaaGreatDoorP63
import Derived.Test.YtonmjjfciemcoaaGreatDoorP64
import Derived.Test.YtonmjjfciemcoaaGreatDoorP00
set_option linter.unusedVariables false
set_option linter.unusedSimpArgs false
set_option linter.unusedSectionVars false
namespace Go.Proofs.YtonmjjfciemcoaaGreatDoor.lessening
open Go Go.Abs Go.Abs.bz Go.Proofs Go.ChangeShapes Go.WideShapes Go.ChangeAt Go.RowKit
set_option maxRecDepth 100000
theorem said:Rows.ExecutionLessSaid:=
 OpenClaim.holds_of_cond 6 Tryz.f6 rfl rfl rfl rfl rfl rfl rfl ⟨rfl,rfl,rfl,rfl,rfl⟩ rfl rfl rfl rfl rfl named Tryz.func6 closed inst wrap
  (fun os started H enc _ F=>by rw[OpenClaim.pre_eq_preRow];exact lifted os started H enc F)
theorem plain (f:FuncId)(fn:Func)(ag:Tryz.pinned.checked.prog.funcNamed Rows.executionLessRow.func=some f)(iv:Tryz.pinned.checked.prog.funcs[f]? =some fn):
  true=Tryz.pinned.checked.prog.looks []/\∀(j:Nat) t,fn.params[j]? =some t->Tryz.pinned.checked.prog.wantsStandIn t=false:=by
 obtain rfl:f=6:=te (named.symm.trans ag) |>.symm
 obtain rfl:fn=Tryz.f6:=(te (Tryz.func6.symm.trans iv)).symm
 refine⟨looks,fun j t ht=> ?_⟩
 rw[Tryz.params6]at ht
 have:t∈[30,5,5,5,22]:=by simpa using Array.mem_of_getElem? ht
 have:=ev.1 V9 t this
 exact Eq.trans (Bool.not_not _).symm (congrArg not this)
theorem card:Rows.ExecutionLessCardSaid:=
 Claim7.holds_tied_plain_at .later [] _ _ _ _ said (fun _ h=>by cases h) Wa (fun _ h=>by cases h) own.executionLess_row_tie rfl ⟨rfl,rfl⟩ mainIs rfl plain V8
end Go.Proofs.YtonmjjfciemcoaaGreatDoor.lessening
