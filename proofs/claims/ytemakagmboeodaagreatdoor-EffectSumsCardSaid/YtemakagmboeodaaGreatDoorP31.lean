/- Texts of this claim, joined and written short by a program. -/
import GoSem.ClaimSeven
import Derived.Test.YtemakagmboeodaaGreatDoorP00
set_option linter.unusedVariables false
set_option linter.unusedSimpArgs false
set_option linter.unusedSectionVars false
namespace Go.Abs
open Go
theorem Uh{P:Program}(h:P.funcs.any Func.goes=false)(f:FuncId):P.goes f=false:=by
 unfold Program.goes;rw[h,Bool.and_false,Bool.or_false,List.any_eq_false];intro g _;cases aT:P.funcs[g]? with
 |none=>simp
 |some fn=>
  have:fn∈P.funcs:=Array.mem_of_getElem? aT;rw[Array.any_eq_false]at h;obtain⟨i,hi,e⟩:=Array.mem_iff_getElem.1 this;have:=h i hi;rw[e]at this;simpa using this
theorem ahO{P:Program}(h:P.funcs.any Func.goes=false)(c:OpenClaim):false=c.goesBy P:=by
 unfold OpenClaim.goesBy Program.goesAt Program.goesFrom;have h1:∀o:Option FuncId,o.any P.goes=false:=fun o=>by cases o<;>simp[Uh h]
 have h2:∀l:List FuncId,l.any P.goes=false:=fun l=>by rw[List.any_eq_false];intro x _;simp[Uh h]
 rw[h1,re];split
 ·rfl
 ·rw[h2]
end Go.Abs
