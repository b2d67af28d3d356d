/- Texts of this claim, joined and written short by a program. -/
import Derived.Test.YtemakagmboeodaaGreatDoorP11
import Derived.Test.YtemakagmboeodaaGreatDoorP09
import Derived.Test.YtemakagmboeodaaGreatDoorP00
set_option linter.unusedVariables false
set_option linter.unusedSimpArgs false
set_option linter.unusedSectionVars false
set_option maxRecDepth 100000
namespace Go.Abs.cb
open Go Go.Abs Go.Proofs
noncomputable section
variable (g:Nat->Option Obj)
def OL:List V:=[nh,.ak,nh]
def OM:V:=.aR [nh,J 0]
theorem aas:aS (Bo g) 200 (.fn 116 [] []) OL []=some (OM,[],0):=by kernel_rfl
def ON:List (List V × V):=[(OL,OM)]
theorem aat:iS (Bo g) 200 116 ON:=⟨⟨by kernel_rfl,aas g⟩,trivial⟩
def dJ:Nat->Option bQ:=over (Bo g) 116 (iR ON)
def OO:List V:=[I6]
def OP:V:=J 1
theorem aau:aS (dJ g) 200 (.fn 44 [] []) OO []=some (OP,[],0):=by kernel_rfl
def OQ:List V:=[Dr]
def OR:V:=J 2
theorem aav:aS (dJ g) 200 (.fn 44 [] []) OQ []=some (OR,[],0):=by kernel_rfl
def OS:List V:=[I7]
def OT:V:=J 1
theorem aaw:aS (dJ g) 200 (.fn 44 [] []) OS []=some (OT,[],0):=by kernel_rfl
def OU:List V:=[Ds]
def OV:V:=J 2
theorem aax:aS (dJ g) 200 (.fn 44 [] []) OU []=some (OV,[],0):=by kernel_rfl
def OW:List V:=[I8]
def OX:V:=J 3
theorem aay:aS (dJ g) 200 (.fn 44 [] []) OW []=some (OX,[],0):=by kernel_rfl
def OY:List V:=[Dt]
def OZ:V:=J 4
theorem aaz:aS (dJ g) 200 (.fn 44 [] []) OY []=some (OZ,[],0):=by kernel_rfl
def O0:List V:=[I9]
def O1:V:=J 1
theorem aaA:aS (dJ g) 200 (.fn 44 [] []) O0 []=some (O1,[],0):=by kernel_rfl
def O2:List V:=[Du]
def O3:V:=J 2
theorem aaB:aS (dJ g) 200 (.fn 44 [] []) O2 []=some (O3,[],0):=by kernel_rfl
def O4:List V:=[Ja]
def O5:V:=J 3
theorem aaC:aS (dJ g) 200 (.fn 44 [] []) O4 []=some (O5,[],0):=by kernel_rfl
def O6:List V:=[Jb]
def O7:V:=J 1
theorem aaD:aS (dJ g) 200 (.fn 44 [] []) O6 []=some (O7,[],0):=by kernel_rfl
def O8:List V:=[Jc]
def O9:V:=J 1
theorem aaE:aS (dJ g) 200 (.fn 44 [] []) O8 []=some (O9,[],0):=by kernel_rfl
def Pa:List V:=[Jd]
def Pb:V:=J 2
theorem aaF:aS (dJ g) 200 (.fn 44 [] []) Pa []=some (Pb,[],0):=by kernel_rfl
def Pc:List V:=[Dv]
def Pf:V:=J 4
theorem aaG:aS (dJ g) 200 (.fn 44 [] []) Pc []=some (Pf,[],0):=by kernel_rfl
def Pg:List V:=[Je]
def Ph:V:=J 1
theorem aaH:aS (dJ g) 200 (.fn 44 [] []) Pg []=some (Ph,[],0):=by kernel_rfl
def Pj:List V:=[Dw]
def Pk:V:=J 2
theorem aaI:aS (dJ g) 200 (.fn 44 [] []) Pj []=some (Pk,[],0):=by kernel_rfl
def Pl:List V:=[Jf]
def Pm:V:=J 3
theorem aaJ:aS (dJ g) 200 (.fn 44 [] []) Pl []=some (Pm,[],0):=by kernel_rfl
def Pn:List V:=[Jg]
def Po:V:=J 1
theorem aaK:aS (dJ g) 200 (.fn 44 [] []) Pn []=some (Po,[],0):=by kernel_rfl
def Pp:List V:=[Dx]
def Pq:V:=J 1
theorem aaL:aS (dJ g) 200 (.fn 44 [] []) Pp []=some (Pq,[],0):=by kernel_rfl
def Pr:List V:=[Jh]
def Ps:V:=J 2
theorem aaM:aS (dJ g) 200 (.fn 44 [] []) Pr []=some (Ps,[],0):=by kernel_rfl
def Pt:List V:=[xy]
def Pu:V:=J 3
theorem aaN:aS (dJ g) 200 (.fn 44 [] []) Pt []=some (Pu,[],0):=by kernel_rfl
def Pv:List V:=[Ji]
def Pw:V:=J 1
theorem aaO:aS (dJ g) 200 (.fn 44 [] []) Pv []=some (Pw,[],0):=by kernel_rfl
def Px:List V:=[Jj]
def Py:V:=J 2
theorem aaP:aS (dJ g) 200 (.fn 44 [] []) Px []=some (Py,[],0):=by kernel_rfl
def Pz:List V:=[Jk]
def PA:V:=J 1
theorem aaQ:aS (dJ g) 200 (.fn 44 [] []) Pz []=some (PA,[],0):=by kernel_rfl
def PB:List V:=[Jl]
def PC:V:=J 1
theorem aaR:aS (dJ g) 200 (.fn 44 [] []) PB []=some (PC,[],0):=by kernel_rfl
def PD:List V:=[tg]
def PE:V:=J 2
theorem aaS:aS (dJ g) 200 (.fn 44 [] []) PD []=some (PE,[],0):=by kernel_rfl
def PF:List V:=[xz]
def PG:V:=J 1
theorem aaT:aS (dJ g) 200 (.fn 44 [] []) PF []=some (PG,[],0):=by kernel_rfl
def PH:List V:=[Dy]
def PI:V:=J 1
theorem aaU:aS (dJ g) 200 (.fn 44 [] []) PH []=some (PI,[],0):=by kernel_rfl
def PJ:List V:=[Jm]
def PK:V:=J 2
theorem aaV:aS (dJ g) 200 (.fn 44 [] []) PJ []=some (PK,[],0):=by kernel_rfl
def PL:List V:=[Dz]
def PM:V:=J 3
theorem aaW:aS (dJ g) 200 (.fn 44 [] []) PL []=some (PM,[],0):=by kernel_rfl
def PN:List V:=[Jn]
def PO:V:=J 4
theorem aaX:aS (dJ g) 200 (.fn 44 [] []) PN []=some (PO,[],0):=by kernel_rfl
def PQ:List V:=[An]
def PR:V:=J 5
theorem aaY:aS (dJ g) 200 (.fn 44 [] []) PQ []=some (PR,[],0):=by kernel_rfl
def PS:List V:=[DA]
def PT:V:=J 1
theorem aaZ:aS (dJ g) 200 (.fn 44 [] []) PS []=some (PT,[],0):=by kernel_rfl
def PU:List V:=[DB]
def PV:V:=J 1
theorem aa0:aS (dJ g) 200 (.fn 44 [] []) PU []=some (PV,[],0):=by kernel_rfl
def PW:List V:=[Jo]
def PX:V:=J 2
theorem aa1:aS (dJ g) 200 (.fn 44 [] []) PW []=some (PX,[],0):=by kernel_rfl
def PY:List V:=[DC]
def PZ:V:=J 3
theorem aa2:aS (dJ g) 200 (.fn 44 [] []) PY []=some (PZ,[],0):=by kernel_rfl
def P0:List V:=[Jp]
def P1:V:=J 1
theorem aa3:aS (dJ g) 200 (.fn 44 [] []) P0 []=some (P1,[],0):=by kernel_rfl
def P2:List V:=[Jq]
def P3:V:=J 1
theorem aa4:aS (dJ g) 200 (.fn 44 [] []) P2 []=some (P3,[],0):=by kernel_rfl
def P4:List V:=[DD]
def P5:V:=J 1
theorem aa5:aS (dJ g) 200 (.fn 44 [] []) P4 []=some (P5,[],0):=by kernel_rfl
def P6:List V:=[Jr]
def P7:V:=J 2
theorem aa6:aS (dJ g) 200 (.fn 44 [] []) P6 []=some (P7,[],0):=by kernel_rfl
def P8:List V:=[DE]
def P9:V:=J 3
theorem aa7:aS (dJ g) 200 (.fn 44 [] []) P8 []=some (P9,[],0):=by kernel_rfl
def Qa:List V:=[Js]
def Qb:V:=J 4
theorem aa8:aS (dJ g) 200 (.fn 44 [] []) Qa []=some (Qb,[],0):=by kernel_rfl
def Qc:List V:=[xA]
def Qd:V:=J 1
theorem aa9:aS (dJ g) 200 (.fn 44 [] []) Qc []=some (Qd,[],0):=by kernel_rfl
def Qe:List V:=[Jt]
def Qf:V:=J 2
theorem aba:aS (dJ g) 200 (.fn 44 [] []) Qe []=some (Qf,[],0):=by kernel_rfl
def Qg:List V:=[DF]
def Qh:V:=J 5
theorem abb:aS (dJ g) 200 (.fn 44 [] []) Qg []=some (Qh,[],0):=by kernel_rfl
def Qi:List V:=[Ju]
def Qj:V:=J 6
theorem abc:aS (dJ g) 200 (.fn 44 [] []) Qi []=some (Qj,[],0):=by kernel_rfl
def Qk:List V:=[Jv]
def Ql:V:=J 7
theorem abd:aS (dJ g) 200 (.fn 44 [] []) Qk []=some (Ql,[],0):=by kernel_rfl
def Qm:List V:=[nh]
def Qn:V:=J 8
theorem abe:aS (dJ g) 200 (.fn 44 [] []) Qm []=some (Qn,[],0):=by kernel_rfl
def Qo:List (List V × V):=[(OO,OP),(OQ,OR),(OS,OT),(OU,OV),(OW,OX),(OY,OZ),(O0,O1),(O2,O3),(O4,O5),(O6,O7),(O8,O9),(Pa,Pb),(Pc,Pf),(Pg,Ph),(Pj,Pk),(Pl,Pm),(Pn,Po),(Pp,Pq),(Pr,Ps),(Pt,Pu),(Pv,Pw),(Px,Py),(Pz,PA),(PB,PC),(PD,PE),(PF,PG),(PH,PI),(PJ,PK),(PL,PM),(PN,PO),(PQ,PR),(PS,PT),(PU,PV),(PW,PX),(PY,PZ),(P0,P1),(P2,P3),(P4,P5),(P6,P7),(P8,P9),(Qa,Qb),(Qc,Qd),(Qe,Qf),(Qg,Qh),(Qi,Qj),(Qk,Ql),(Qm,Qn)]
theorem abf:iS (dJ g) 200 44 Qo:=⟨⟨by kernel_rfl,aau g⟩,⟨⟨by kernel_rfl,aav g⟩,⟨⟨by kernel_rfl,aaw g⟩,⟨⟨by kernel_rfl,aax g⟩,⟨⟨by kernel_rfl,aay g⟩,⟨⟨by kernel_rfl,aaz g⟩,⟨⟨by kernel_rfl,aaA g⟩,⟨⟨by kernel_rfl,aaB g⟩,⟨⟨by kernel_rfl,aaC g⟩,⟨⟨by kernel_rfl,aaD g⟩,⟨⟨by kernel_rfl,aaE g⟩,⟨⟨by kernel_rfl,aaF g⟩,⟨⟨by kernel_rfl,aaG g⟩,⟨⟨by kernel_rfl,aaH g⟩,⟨⟨by kernel_rfl,aaI g⟩,⟨⟨by kernel_rfl,aaJ g⟩,⟨⟨by kernel_rfl,aaK g⟩,⟨⟨by kernel_rfl,aaL g⟩,⟨⟨by kernel_rfl,aaM g⟩,⟨⟨by kernel_rfl,aaN g⟩,⟨⟨by kernel_rfl,aaO g⟩,⟨⟨by kernel_rfl,aaP g⟩,⟨⟨by kernel_rfl,aaQ g⟩,⟨⟨by kernel_rfl,aaR g⟩,⟨⟨by kernel_rfl,aaS g⟩,⟨⟨by kernel_rfl,aaT g⟩,⟨⟨by kernel_rfl,aaU g⟩,⟨⟨by kernel_rfl,aaV g⟩,⟨⟨by kernel_rfl,aaW g⟩,⟨⟨by kernel_rfl,aaX g⟩,⟨⟨by kernel_rfl,aaY g⟩,⟨⟨by kernel_rfl,aaZ g⟩,⟨⟨by kernel_rfl,aa0 g⟩,⟨⟨by kernel_rfl,aa1 g⟩,⟨⟨by kernel_rfl,aa2 g⟩,⟨⟨by kernel_rfl,aa3 g⟩,⟨⟨by kernel_rfl,aa4 g⟩,⟨⟨by kernel_rfl,aa5 g⟩,⟨⟨by kernel_rfl,aa6 g⟩,⟨⟨by kernel_rfl,aa7 g⟩,⟨⟨by kernel_rfl,aa8 g⟩,⟨⟨by kernel_rfl,aa9 g⟩,⟨⟨by kernel_rfl,aba g⟩,⟨⟨by kernel_rfl,abb g⟩,⟨⟨by kernel_rfl,abc g⟩,⟨⟨by kernel_rfl,abd g⟩,⟨⟨by kernel_rfl,abe g⟩,trivial⟩⟩⟩⟩⟩⟩⟩⟩⟩⟩⟩⟩⟩⟩⟩⟩⟩⟩⟩⟩⟩⟩⟩⟩⟩⟩⟩⟩⟩⟩⟩⟩⟩⟩⟩⟩⟩⟩⟩⟩⟩⟩⟩⟩⟩⟩⟩
def r7:Nat->Option bQ:=over (dJ g) 44 (iR Qo)
end
end Go.Abs.cb
namespace Go.Abs
def uj:Option bQ->gR
 |some (.code f)=>f
 | _=>⟨0,.skip,[],false⟩
def kV:bP->bP| .seq a _=>a|c=>c
def cm:bP->bP| .seq _ a=>a|c=>c
def abg:bP->bP| .block _ (.loop c)=>c|c=>c
def uk:List bP->bP->bP
 |[],c=>c
 |a::r,c=>.seq a (uk r c)
variable{ab:Nat->Option bQ}
theorem Ga{n:Nat}{c:bP}:∀{l:List bP} {st aV:au},kb (aS ab n) n l st=some aV->dt ab (uk l c) st=dt ab c aV
 |[],st,aV,h=>by cases h;rfl
 |a::r,st,aV,h=>by
  simp only[kb]at h;split at h
  ·rename_i s hs
   simp only[uk,kI,e3.2 ⟨n,hs⟩];exact Ga h
  ·cases h
theorem Qp{n i:Nat}{X R:bP}:∀{k:Nat} {st aV:au},kb (aS ab n) n (List.replicate k X) st=some aV->dt ab (.seq (.block i (.loop X)) R) st=dt ab (.seq (.block i (.loop X)) R) aV
 |0,st,aV,h=>by cases h;rfl
 |k+1,st,aV,h=>by
  simp only[List.replicate,kb]at h;split at h
  ·rename_i s hs
   rw[<-Qp h,kI,kI,s6,s6,vk X st,e3.2 ⟨n,hs⟩]
  ·cases h
theorem Qq{call:cj}{n:Nat}{m:List bP}{aV:au}:∀{l:List bP} {st:au},kb call n (l++m) st=some aV->∃s,kb call n l st=some s/\kb call n m s=some aV
 |[],st,h=>⟨st,rfl,h⟩
 |a::r,st,h=>by
  simp only[kE,kb]at h;split at h
  ·rename_i s hs
   obtain⟨u,h1,h2⟩:=Qq h;exact⟨u,by simp only[kb,hs];exact h1,h2⟩
  ·cases h
theorem abh{i b n l:Nat}{fn:gR}{ps:List bP}{X R:bP}{aC:List V}{qH:au}{r:V × Heap × Nat}(hc:ab i=some (.code fn))(hb:fn.body=uk ps (.seq (.block b (.loop X)) R))
  (h1:kb (aS ab n) n (ps++List.replicate l X) ⟨[],fo 0 aC,[],0,none⟩=some qH)
  (h2:fP (fun _ _=>Abs.exec (aS ab n) n (.seq (.block b (.loop X)) R) qH) fn aC []=some r):∃n,aS ab n (.fn i [] []) aC []=some r:=by
 rw[<-p9,pd,hc];obtain⟨s,q1,q2⟩:=Qq h1;have he:dt ab fn.body ⟨[],fo 0 aC,[],0,none⟩=dt ab (.seq (.block b (.loop X)) R) qH:=by rw[hb,Ga q1,Qp q2]
 have aq:=Ai (ex':=fun _ _=>dt ab (.seq (.block b (.loop X)) R) qH) (fun c st r h=>e3.2 ⟨n,h⟩) h2;show fP (dt ab) fn ([]++aC++[]) []=_;rw[ij,lQ,<-aq];unfold fP;rw[show(([]:Heap).length)=0 from rfl,he]
theorem abi{i n:Nat}{fn:gR}{ps:List bP}{R:bP}{aC:List V}{qH:au}{r:V × Heap × Nat}(hc:ab i=some (.code fn))(hb:fn.body=uk ps R)(h1:kb (aS ab n) n ps ⟨[],fo 0 aC,[],0,none⟩=some qH)
  (h2:fP (fun _ _=>Abs.exec (aS ab n) n R qH) fn aC []=some r):∃n,aS ab n (.fn i [] []) aC []=some r:=by
 rw[<-p9,pd,hc];have he:dt ab fn.body ⟨[],fo 0 aC,[],0,none⟩=dt ab R qH:=by rw[hb,Ga h1]
 have aq:=Ai (ex':=fun _ _=>dt ab R qH) (fun c st r h=>e3.2 ⟨n,h⟩) h2;show fP (dt ab) fn ([]++aC++[]) []=_;rw[ij,lQ,<-aq];unfold fP;rw[show(([]:Heap).length)=0 from rfl,he]
end Go.Abs
