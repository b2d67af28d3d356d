/- Texts of this claim, joined and written short by a program. -/
import Derived.Test.YtoimeckpnnkbpaaGreatDoorP10
import Derived.Test.YtoimeckpnnkbpaaGreatDoorP00
set_option linter.unusedVariables false
set_option linter.unusedSimpArgs false
set_option linter.unusedSectionVars false
set_option maxRecDepth 100000
namespace Go.Abs.hk
open Go Go.Abs Go.Proofs
noncomputable section
variable (g:Nat->Option Obj)
def ayn:List V:=[.str [59,32,114,101,108,97,116,105,111,110,32,114,40,97,58,32,115,41,59,32,99,111,117,110,116,101,114,32,99,40,41,32,105,110,32,49,46,46,51,59,32,105,110,118,97,114,105,97,110,116,32,105,58,32,97,108,108,40,41,32,115,117,109,40,120,58,32,115,41,32,114,40,120,41,32,45,32,99,40,41,32,60,61,32,48,59]]
def ayo:V:=au 1
theorem aDm:cu (sa g) 200 (.fn 234 [] []) ayn []=some (ayo,[],0):=by kernel_rfl
def ayp:List V:=[.str [40,97,58,32,115,41,59,32,99,111,117,110,116,101,114,32,99,40,41,32,105,110,32,49,46,46,51,59,32,105,110,118,97,114,105,97,110,116,32,105,58,32,97,108,108,40,41,32,115,117,109,40,120,58,32,115,41,32,114,40,120,41,32,45,32,99,40,41,32,60,61,32,48,59]]
def ayq:V:=au 1
theorem aDn:cu (sa g) 200 (.fn 234 [] []) ayp []=some (ayq,[],0):=by kernel_rfl
def ayr:List V:=[.str [58,32,115,41,59,32,99,111,117,110,116,101,114,32,99,40,41,32,105,110,32,49,46,46,51,59,32,105,110,118,97,114,105,97,110,116,32,105,58,32,97,108,108,40,41,32,115,117,109,40,120,58,32,115,41,32,114,40,120,41,32,45,32,99,40,41,32,60,61,32,48,59]]
def ayt:V:=au 1
theorem aDo:cu (sa g) 200 (.fn 234 [] []) ayr []=some (ayt,[],0):=by kernel_rfl
def ayu:List V:=[.str [41,59,32,99,111,117,110,116,101,114,32,99,40,41,32,105,110,32,49,46,46,51,59,32,105,110,118,97,114,105,97,110,116,32,105,58,32,97,108,108,40,41,32,115,117,109,40,120,58,32,115,41,32,114,40,120,41,32,45,32,99,40,41,32,60,61,32,48,59]]
def ayv:V:=au 1
theorem aDp:cu (sa g) 200 (.fn 234 [] []) ayu []=some (ayv,[],0):=by kernel_rfl
def ayx:List V:=[.str [59,32,99,111,117,110,116,101,114,32,99,40,41,32,105,110,32,49,46,46,51,59,32,105,110,118,97,114,105,97,110,116,32,105,58,32,97,108,108,40,41,32,115,117,109,40,120,58,32,115,41,32,114,40,120,41,32,45,32,99,40,41,32,60,61,32,48,59]]
def ayy:V:=au 1
theorem aDq:cu (sa g) 200 (.fn 234 [] []) ayx []=some (ayy,[],0):=by kernel_rfl
def ayz:List V:=[.str [40,41,32,105,110,32,49,46,46,51,59,32,105,110,118,97,114,105,97,110,116,32,105,58,32,97,108,108,40,41,32,115,117,109,40,120,58,32,115,41,32,114,40,120,41,32,45,32,99,40,41,32,60,61,32,48,59]]
def ayA:V:=au 1
theorem aDr:cu (sa g) 200 (.fn 234 [] []) ayz []=some (ayA,[],0):=by kernel_rfl
def ayB:List V:=[.str [41,32,105,110,32,49,46,46,51,59,32,105,110,118,97,114,105,97,110,116,32,105,58,32,97,108,108,40,41,32,115,117,109,40,120,58,32,115,41,32,114,40,120,41,32,45,32,99,40,41,32,60,61,32,48,59]]
def ayC:V:=au 1
theorem aDs:cu (sa g) 200 (.fn 234 [] []) ayB []=some (ayC,[],0):=by kernel_rfl
def ayD:List V:=[.str [46,46,51,59,32,105,110,118,97,114,105,97,110,116,32,105,58,32,97,108,108,40,41,32,115,117,109,40,120,58,32,115,41,32,114,40,120,41,32,45,32,99,40,41,32,60,61,32,48,59]]
def ayE:V:=au 2
theorem aDu:cu (sa g) 200 (.fn 234 [] []) ayD []=some (ayE,[],0):=by kernel_rfl
def ayF:List V:=[.str [59,32,105,110,118,97,114,105,97,110,116,32,105,58,32,97,108,108,40,41,32,115,117,109,40,120,58,32,115,41,32,114,40,120,41,32,45,32,99,40,41,32,60,61,32,48,59]]
def ayG:V:=au 1
theorem aDv:cu (sa g) 200 (.fn 234 [] []) ayF []=some (ayG,[],0):=by kernel_rfl
def ayH:List V:=[.str [58,32,97,108,108,40,41,32,115,117,109,40,120,58,32,115,41,32,114,40,120,41,32,45,32,99,40,41,32,60,61,32,48,59]]
def ayI:V:=au 1
theorem aDw:cu (sa g) 200 (.fn 234 [] []) ayH []=some (ayI,[],0):=by kernel_rfl
def ayK:List V:=[.str [40,41,32,115,117,109,40,120,58,32,115,41,32,114,40,120,41,32,45,32,99,40,41,32,60,61,32,48,59]]
def ayL:V:=au 1
theorem aDx:cu (sa g) 200 (.fn 234 [] []) ayK []=some (ayL,[],0):=by kernel_rfl
def ayM:List V:=[.str [41,32,115,117,109,40,120,58,32,115,41,32,114,40,120,41,32,45,32,99,40,41,32,60,61,32,48,59]]
def ayY:V:=au 1
theorem aDy:cu (sa g) 200 (.fn 234 [] []) ayM []=some (ayY,[],0):=by kernel_rfl
def ayZ:List V:=[.str [40,120,58,32,115,41,32,114,40,120,41,32,45,32,99,40,41,32,60,61,32,48,59]]
def ay0:V:=au 1
theorem aDz:cu (sa g) 200 (.fn 234 [] []) ayZ []=some (ay0,[],0):=by kernel_rfl
def ay1:List V:=[.str [58,32,115,41,32,114,40,120,41,32,45,32,99,40,41,32,60,61,32,48,59]]
def ay2:V:=au 1
theorem aDA:cu (sa g) 200 (.fn 234 [] []) ay1 []=some (ay2,[],0):=by kernel_rfl
def ay5:List V:=[.str [41,32,114,40,120,41,32,45,32,99,40,41,32,60,61,32,48,59]]
def azb:V:=au 1
theorem aDB:cu (sa g) 200 (.fn 234 [] []) ay5 []=some (azb,[],0):=by kernel_rfl
def azc:List V:=[.str [40,120,41,32,45,32,99,40,41,32,60,61,32,48,59]]
def azd:V:=au 1
theorem aDC:cu (sa g) 200 (.fn 234 [] []) azc []=some (azd,[],0):=by kernel_rfl
def aze:List V:=[.str [41,32,45,32,99,40,41,32,60,61,32,48,59]]
def azf:V:=au 1
theorem aDD:cu (sa g) 200 (.fn 234 [] []) aze []=some (azf,[],0):=by kernel_rfl
def azg:List V:=[.str [45,32,99,40,41,32,60,61,32,48,59]]
def azh:V:=au 1
theorem aDE:cu (sa g) 200 (.fn 234 [] []) azg []=some (azh,[],0):=by kernel_rfl
def azi:List V:=[.str [40,41,32,60,61,32,48,59]]
def azj:V:=au 1
theorem aDF:cu (sa g) 200 (.fn 234 [] []) azi []=some (azj,[],0):=by kernel_rfl
def azk:List V:=[.str [41,32,60,61,32,48,59]]
def azl:V:=au 1
theorem aDM:cu (sa g) 200 (.fn 234 [] []) azk []=some (azl,[],0):=by kernel_rfl
def azm:List V:=[.str [60,61,32,48,59]]
def azn:V:=au 2
theorem aDN:cu (sa g) 200 (.fn 234 [] []) azm []=some (azn,[],0):=by kernel_rfl
def azp:List V:=[.str [59]]
def azq:V:=au 1
theorem aDO:cu (sa g) 200 (.fn 234 [] []) azp []=some (azq,[],0):=by kernel_rfl
def azr:List V:=[.str [40,41,61,50,59,114,32,40,32,48,32,41,32,61,32,49,32,59]]
def azs:V:=au 1
theorem aDP:cu (sa g) 200 (.fn 234 [] []) azr []=some (azs,[],0):=by kernel_rfl
def azt:List V:=[.str [41,61,50,59,114,32,40,32,48,32,41,32,61,32,49,32,59]]
def azu:V:=au 1
theorem aDQ:cu (sa g) 200 (.fn 234 [] []) azt []=some (azu,[],0):=by kernel_rfl
def azv:List V:=[.str [61,50,59,114,32,40,32,48,32,41,32,61,32,49,32,59]]
def azw:V:=au 1
theorem aDT:cu (sa g) 200 (.fn 234 [] []) azv []=some (azw,[],0):=by kernel_rfl
def azx:List V:=[.str [59,114,32,40,32,48,32,41,32,61,32,49,32,59]]
def azy:V:=au 1
theorem aDV:cu (sa g) 200 (.fn 234 [] []) azx []=some (azy,[],0):=by kernel_rfl
def azz:List V:=[.str [40,32,48,32,41,32,61,32,49,32,59]]
def azA:V:=au 1
theorem aDW:cu (sa g) 200 (.fn 234 [] []) azz []=some (azA,[],0):=by kernel_rfl
def azB:List V:=[.str [41,32,61,32,49,32,59]]
def azC:V:=au 1
theorem aDX:cu (sa g) 200 (.fn 234 [] []) azB []=some (azC,[],0):=by kernel_rfl
def azD:List V:=[.str [61,32,49,32,59]]
def azE:V:=au 1
theorem aDY:cu (sa g) 200 (.fn 234 [] []) azD []=some (azE,[],0):=by kernel_rfl
def azF:List (List V × V):=[(ayn,ayo),(ayp,ayq),(ayr,ayt),(ayu,ayv),(ayx,ayy),(ayz,ayA),(ayB,ayC),(ayD,ayE),(ayF,ayG),(ayH,ayI),(ayK,ayL),(ayM,ayY),(ayZ,ay0),(ay1,ay2),(ay5,azb),(azc,azd),(aze,azf),(azg,azh),(azi,azj),(azk,azl),(azm,azn),(azp,azq),(azr,azs),(azt,azu),(azv,azw),(azx,azy),(azz,azA),(azB,azC),(azD,azE)]
theorem aDZ:jf (sa g) 200 234 azF:=⟨⟨by kernel_rfl,aDm g⟩,⟨⟨by kernel_rfl,aDn g⟩,⟨⟨by kernel_rfl,aDo g⟩,⟨⟨by kernel_rfl,aDp g⟩,⟨⟨by kernel_rfl,aDq g⟩,⟨⟨by kernel_rfl,aDr g⟩,⟨⟨by kernel_rfl,aDs g⟩,⟨⟨by kernel_rfl,aDu g⟩,⟨⟨by kernel_rfl,aDv g⟩,⟨⟨by kernel_rfl,aDw g⟩,⟨⟨by kernel_rfl,aDx g⟩,⟨⟨by kernel_rfl,aDy g⟩,⟨⟨by kernel_rfl,aDz g⟩,⟨⟨by kernel_rfl,aDA g⟩,⟨⟨by kernel_rfl,aDB g⟩,⟨⟨by kernel_rfl,aDC g⟩,⟨⟨by kernel_rfl,aDD g⟩,⟨⟨by kernel_rfl,aDE g⟩,⟨⟨by kernel_rfl,aDF g⟩,⟨⟨by kernel_rfl,aDM g⟩,⟨⟨by kernel_rfl,aDN g⟩,⟨⟨by kernel_rfl,aDO g⟩,⟨⟨by kernel_rfl,aDP g⟩,⟨⟨by kernel_rfl,aDQ g⟩,⟨⟨by kernel_rfl,aDT g⟩,⟨⟨by kernel_rfl,aDV g⟩,⟨⟨by kernel_rfl,aDW g⟩,⟨⟨by kernel_rfl,aDX g⟩,⟨⟨by kernel_rfl,aDY g⟩,trivial⟩⟩⟩⟩⟩⟩⟩⟩⟩⟩⟩⟩⟩⟩⟩⟩⟩⟩⟩⟩⟩⟩⟩⟩⟩⟩⟩⟩⟩
def Hg:Nat->Option bY:=over (sa g) 234 (je azF)
def azG:List V:=[.str [50]]
def azH:V:=au 3
theorem aD0:cu (Hg g) 200 (.fn 117 [] []) azG []=some (azH,[],0):=by kernel_rfl
def azI:List V:=[.str [49]]
def azJ:V:=au 3
theorem aEb:cu (Hg g) 200 (.fn 117 [] []) azI []=some (azJ,[],0):=by kernel_rfl
def azK:List V:=[.str [51]]
def azL:V:=au 3
theorem aEc:cu (Hg g) 200 (.fn 117 [] []) azK []=some (azL,[],0):=by kernel_rfl
def azM:List V:=[.str [48]]
def azN:V:=au 3
theorem aEd:cu (Hg g) 200 (.fn 117 [] []) azM []=some (azN,[],0):=by kernel_rfl
def azO:List V:=[.str [115]]
def azP:V:=au 1
theorem aEe:cu (Hg g) 200 (.fn 117 [] []) azO []=some (azP,[],0):=by kernel_rfl
def azQ:List V:=[.str [114]]
def azR:V:=au 1
theorem aEf:cu (Hg g) 200 (.fn 117 [] []) azQ []=some (azR,[],0):=by kernel_rfl
def azS:List V:=[.str [97]]
def azT:V:=au 1
theorem aEg:cu (Hg g) 200 (.fn 117 [] []) azS []=some (azT,[],0):=by kernel_rfl
def azU:List V:=[.str [99]]
def azV:V:=au 1
theorem aEh:cu (Hg g) 200 (.fn 117 [] []) azU []=some (azV,[],0):=by kernel_rfl
def azW:List V:=[.str [105]]
def azX:V:=au 1
theorem aEi:cu (Hg g) 200 (.fn 117 [] []) azW []=some (azX,[],0):=by kernel_rfl
def azY:List V:=[.str [120]]
def azZ:V:=au 1
theorem aEj:cu (Hg g) 200 (.fn 117 [] []) azY []=some (azZ,[],0):=by kernel_rfl
def az0:List (List V × V):=[(azG,azH),(azI,azJ),(azK,azL),(azM,azN),(azO,azP),(azQ,azR),(azS,azT),(azU,azV),(azW,azX),(azY,azZ)]
theorem aEk:jf (Hg g) 200 117 az0:=⟨⟨by kernel_rfl,aD0 g⟩,⟨⟨by kernel_rfl,aEb g⟩,⟨⟨by kernel_rfl,aEc g⟩,⟨⟨by kernel_rfl,aEd g⟩,⟨⟨by kernel_rfl,aEe g⟩,⟨⟨by kernel_rfl,aEf g⟩,⟨⟨by kernel_rfl,aEg g⟩,⟨⟨by kernel_rfl,aEh g⟩,⟨⟨by kernel_rfl,aEi g⟩,⟨⟨by kernel_rfl,aEj g⟩,trivial⟩⟩⟩⟩⟩⟩⟩⟩⟩⟩
def Hh:Nat->Option bY:=over (Hg g) 117 (je az0)
end
end Go.Abs.hk
