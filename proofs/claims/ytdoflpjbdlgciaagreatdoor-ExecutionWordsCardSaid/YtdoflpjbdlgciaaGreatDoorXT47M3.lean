/- ExecutionWords: the card. -/
import Derived.Test.YtdoflpjbdlgciaaGreatDoorP35
import Derived.Test.YtdoflpjbdlgciaaGreatDoorP45
import Derived.Test.YtdoflpjbdlgciaaGreatDoorP46
import Derived.Test.YtdoflpjbdlgciaaGreatDoorP47
import Derived.Test.YtdoflpjbdlgciaaGreatDoorP48
import Derived.Test.YtdoflpjbdlgciaaGreatDoorP00
set_option linter.unusedVariables false
set_option linter.unusedSimpArgs false
set_option linter.unusedSectionVars false
namespace Go.Proofs.YtdoflpjbdlgciaaGreatDoor.wording
open Go Go.Abs Go.Abs.bZ Go.Proofs Go.ChangeShapes Go.WideShapes Go.ChangeAt Go.RowKit
set_option maxRecDepth 100000
theorem said:Rows.ExecutionWordsSaid:=
 OpenClaim.holds_of_cond 3 Tryz.f3 rfl rfl rfl rfl rfl rfl rfl ⟨rfl,rfl,rfl,rfl,rfl⟩ rfl rfl rfl rfl rfl named Tryz.func3 closed inst wrap
  (fun os started H enc _ F=>by rw[OpenClaim.pre_eq_preRow];exact lifted os started H enc F)
theorem plain (f:FuncId)(fn:Func)(ae:Tryz.pinned.checked.prog.funcNamed Rows.executionWordsRow.func=some f)(iI:Tryz.pinned.checked.prog.funcs[f]? =some fn):
  true=Tryz.pinned.checked.prog.looks []/\∀(j:Nat) t,fn.params[j]? =some t->Tryz.pinned.checked.prog.wantsStandIn t=false:=by
 obtain rfl:f=3:=yv (named.symm.trans ae) |>.symm
 obtain rfl:fn=Tryz.f3:=(yv (Tryz.func3.symm.trans iI)).symm
 refine⟨looks,fun j t ht=> ?_⟩
 rw[Tryz.params3]at ht
 have:t∈[30,35,37]:=by simpa using Array.mem_of_getElem? ht
 have:=eV.1 aAy t this
 exact Eq.trans (Bool.not_not _).symm (congrArg not this)
theorem card:Rows.ExecutionWordsCardSaid:=
 Claim7.holds_tied_plain_at .later [] _ _ _ _ said (fun _ h=>by cases h) aAz (fun _ h=>by cases h) own.executionWords_row_tie rfl ⟨rfl,rfl⟩ mainIs rfl plain aAx
end Go.Proofs.YtdoflpjbdlgciaaGreatDoor.wording
