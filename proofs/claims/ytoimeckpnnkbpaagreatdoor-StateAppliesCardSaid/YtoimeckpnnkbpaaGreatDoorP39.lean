/- Texts of this claim, joined and written short by a program. -/
import GoSem.ClaimSeven
import Derived.Test.YtoimeckpnnkbpaaGreatDoorP00
set_option linter.unusedVariables false
set_option linter.unusedSimpArgs false
set_option linter.unusedSectionVars false
namespace Go.Abs
open Go
theorem aaW{P:Program}(h:P.funcs.any Func.goes=false)(f:FuncId):P.goes f=false:=by
 unfold Program.goes;rw[h,Bool.and_false,ayw,QR];intro g _;cases bj:P.funcs[g]? with
 |none=>simp
 |some fn=>
  have:fn∈P.funcs:=Array.mem_of_getElem? bj;rw[Array.any_eq_false]at h;obtain⟨i,hi,e⟩:=Array.mem_iff_getElem.1 this;have:=h i hi;rw[e]at this;simpa using this
theorem asA{P:Program}(h:P.funcs.any Func.goes=false)(c:OpenClaim):false=c.goesBy P:=by
 unfold OpenClaim.goesBy Program.goesAt Program.goesFrom;have h1:∀o:Option FuncId,o.any P.goes=false:=fun o=>by cases o<;>simp[aaW h]
 have h2:∀l:List FuncId,l.any P.goes=false:=fun l=>by rw[QR];intro x _;simp[aaW h]
 rw[h1,qv];split
 ·rfl
 ·rw[h2]
end Go.Abs
