/- ExecutionRuns: the card. -/
import Derived.Test.YtonmjjfciemcoaaGreatDoorP34
import Derived.Test.YtonmjjfciemcoaaGreatDoorP44
import Derived.Test.YtonmjjfciemcoaaGreatDoorP45
import Derived.Test.YtonmjjfciemcoaaGreatDoorP46
import Derived.Test.YtonmjjfciemcoaaGreatDoorP47
import Derived.Test.YtonmjjfciemcoaaGreatDoorP00
set_option linter.unusedVariables false
set_option linter.unusedSimpArgs false
set_option linter.unusedSectionVars false
namespace Go.Proofs.YtonmjjfciemcoaaGreatDoor.running
open Go Go.Abs Go.Abs.hk Go.Proofs Go.ChangeShapes Go.WideShapes Go.ChangeAt Go.RowKit
set_option maxRecDepth 100000
theorem said:Rows.ExecutionRunsSaid:=
 OpenClaim.holds_of_cond 4 Tryz.f4 rfl rfl rfl rfl rfl rfl rfl ⟨rfl,rfl,rfl,rfl,rfl⟩ rfl rfl rfl rfl rfl named Tryz.func4 closed inst wrap
  (fun os started H enc _ F=>by rw[OpenClaim.pre_eq_preRow];exact lifted os started H enc F)
theorem plain (f:FuncId)(fn:Func)(ab:Tryz.pinned.checked.prog.funcNamed Rows.executionRunsRow.func=some f)(im:Tryz.pinned.checked.prog.funcs[f]? =some fn):
  true=Tryz.pinned.checked.prog.looks []/\∀(j:Nat) t,fn.params[j]? =some t->Tryz.pinned.checked.prog.wantsStandIn t=false:=by
 obtain rfl:f=4:=rA (named.symm.trans ab) |>.symm
 obtain rfl:fn=Tryz.f4:=(rA (Tryz.func4.symm.trans im)).symm
 refine⟨looks,fun j t ht=> ?_⟩
 rw[Tryz.params4]at ht
 have:t∈[30,22,22,3]:=by simpa using Array.mem_of_getElem? ht
 have:=eV.1 asD t this
 exact Eq.trans (Bool.not_not _).symm (congrArg not this)
theorem card:Rows.ExecutionRunsCardSaid:=
 Claim7.holds_tied_plain_at .later [] _ _ _ _ said (fun _ h=>by cases h) asE (fun _ h=>by cases h) own.executionRuns_row_tie rfl ⟨rfl,rfl⟩ mainIs rfl plain asC
end Go.Proofs.YtonmjjfciemcoaaGreatDoor.running
