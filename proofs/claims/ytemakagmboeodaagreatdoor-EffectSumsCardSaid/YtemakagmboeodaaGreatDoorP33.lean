/- Texts of this claim, joined and written short by a program. -/
import Derived.Test.YtemakagmboeodaaGreatDoorP09
import Derived.Test.YtemakagmboeodaaGreatDoorP01
import Derived.Test.YtemakagmboeodaaGreatDoorCards
import Derived.WalkKit
import Derived.ProofKit
import Derived.OpenShut
import Derived.ChangeSlices
import Derived.ChangeStays
import Derived.SizedLaws
import Derived.Deep.DeepHandedRow
import Derived.Deep.DeepLaidRun
import Derived.Lib.LaidTab
import Derived.JoinedCond
import Derived.Test.YtemakagmboeodaaGreatDoorP31
import Derived.SevenTiedAt
import Derived.Test.YtemakagmboeodaaGreatDoorP00
set_option linter.unusedVariables false
set_option linter.unusedSimpArgs false
set_option linter.unusedSectionVars false
namespace Go.Proofs.YtemakagmboeodaaGreatDoor.adding
open Go Go.Abs Go.Abs.cb Go.Proofs Go.ChangeShapes Go.WideShapes Go.ChangeAt Go.RowKit
set_option maxRecDepth 100000
set_option maxHeartbeats 4000000 in
theorem CS:Tryz.prog.closure 3=[3,4,16,23,37,71,146,224,289,328,329,355,374,375,225,226,232,228,290,227,229,230,231,291,330,292,331,356,233,145,223,72,73,147,148,234,293,332,357,358,235,294,333,295,296,335,359,376,385,386,70,391,392,387,388,393,394,396,397,334,297,38,74,39,75,149,150,236,298,76,77,78,79,80,151,237,299,300,301,336,302,337,360,338,361,377,378,379,81,152,82,158,86,161,155,83,153,84,154,85,157,156,88,159,160,238,242,305,87,89,162,239,240,241,304,339,362,363,380,389,395,398,303,40,90,163,243,244,306,340,91,24,41,93,166,167,246,247,307,168,248,169,170,249,171,250,251,164,245,172,173,252,174,253,175,254,176,177,178,179,180,181,92,165,42,43,44,45,94,182,255,256,257,308,258,309,259,310,263,260,183,184,261,262,312,311,46,95,96,97,185,186,98,99,100,187,47,101,188,102,189,103,190,104,105,106,191,117,107,108,109,110,193,192,111,118,194,195,112,113,196,197,114,198,264,35,69,313,341,347,36,342,364,343,141,142,344,365,366,381,345,346,348,349,199,265,212,213,270,269,208,216,273,274,275,276,277,278,279,280,281,282,283,284,314,350,351,271,322,367,368,369,370,382,383,315,352,371,372,384,390,316,200,115,48,116,27,201,17,25,49,119,120,121,202,122,123,124,203,50,51,126,26,52,30,29,58,125,204,128,214,272,215,206,205,28,53,127,207,267,266,209,211,210,268,286,323,354,325,318,317,353,373,285,324,319,320,321,54,55,129,131,218,217,287,326,327,8,20,34,61,62,140,63,64,143,144,222,65,66,67,68,21,22,130,56,57,11,31,59,132,133,219,134,135,220,221,288,136,137,138,139,32,18,10,33,60,7,14,5,19,6,9,13,12,15]:=eq_of_beq (by kernel_rfl)
end Go.Proofs.YtemakagmboeodaaGreatDoor.adding
