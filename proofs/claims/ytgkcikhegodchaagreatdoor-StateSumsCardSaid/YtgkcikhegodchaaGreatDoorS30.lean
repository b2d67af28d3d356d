/- Texts of this claim, joined and written short by a program. -/
import Derived.Test.YtgkcikhegodchaaGreatDoorS21
import Derived.Test.YtgkcikhegodchaaGreatDoorS28
import Derived.Test.YtgkcikhegodchaaGreatDoorS29
import Derived.Test.YtgkcikhegodchaaGreatDoorS22
import Derived.Test.YtgkcikhegodchaaGreatDoorS00
set_option linter.unusedVariables false
set_option linter.unusedSimpArgs false
set_option linter.unusedSectionVars false
set_option maxHeartbeats 2000000
namespace Go.Abs.bs
open Go Go.Abs
noncomputable section
abbrev j9 (j:dR):List V:=[bb 1 aI j.Model.bE,bb 6 lJ j.Model.Tables,bb 1 V.str j.Model.fR,bb 6 sf j.Model.dO,bb 3 sg j.Model.Operations,bb 5 si j.Model.Actions,bb 3 jn j.Model.b9,bb 2 q3 j.strict]
def AR (ah:dR):(Int)->Option (cU (Int) (cz (Unit) (Unit))):=fun i12=>(bif (decide (i12<ah.Model.b9.len))then((bj ah.Model.b9.l i12).bind fun eu=>((((nn eu.Table ah.Model.Tables.len).bind fun oQ=>(bif oQ then((nn eu.c5 ah.Model.Tables.len).bind fun j5=>(bif j5 then some (eu.Table==eu.c5)else some true))else some true)):Option (Bool)).bind fun wx=>(bif wx then some (.out (.ret ()))else((bj ah.Model.Tables.l eu.Table).bind fun h6=>((bj ah.Model.Tables.l eu.c5).bind fun gP=>(((bif (h6.Kind != 0)then some true else(bif (gP.Kind != 0)then some true else((nn eu.iF h6.bR.len).bind fun xT=>(bif xT then(bif (gP.bR.len != 1)then some true else((bj gP.bR.l 0).bind fun sk=>((bj h6.bR.l eu.iF).bind fun xV=>some (sk != xV))))else some true)))):Option (Bool)).bind fun FQ=>(bif FQ then some (.out (.ret ()))else some (.next (aM (i12+1))))))))))else some (.out (.go ())))
def AU (ah:dR):(Int × (List (Int × Bool)))->Option (cU (Int × (List (Int × Bool))) ((List (Int × Bool)))):=fun⟨i90,i91⟩=>(bif (decide (i90<ah.Model.b9.len))then((bj ah.Model.b9.l i90).bind fun mH=>some (.next ((aM (i90+1)),(lF i91 mH.Table true))))else some (.out i91))
def Lm (ah:dR):Option Bool:=bif (decide (ah.Model.b9.len>12))then some false else((bZ (AR ah) 0:Option (cz Unit Unit)).bind fun o=>match o with| .go _=>some true| .ret _=>some false)
def yb:cm->cm| .seq a _=>a|c=>c
def lL:cm->cm| .seq _ a=>a|c=>c
def hA (k:Nat):cm:=match k with
 |1=>yb AO.body
 |2=>yb (lL AO.body)
 |3=>yb (lL (lL AO.body))
 |4=>yb (lL (lL (lL AO.body)))
 |5=>yb (lL (lL (lL (lL AO.body))))
 |6=>yb (lL (lL (lL (lL (lL AO.body)))))
 | _=>lL (lL (lL (lL (lL (lL AO.body)))))
section
variable{aa:Nat->Option bV}{b:Nat}{σ:bN}{H H0:Heap}
theorem arf (Rq:Le aa)(ah:dR){r:Bool}(h:Lm ah=some r):
  e8 aa b (.seq (hA 1) (.seq (hA 2) (hA 3))) (wk 0 ([.agg (j9 ah)]++[])) H0 fun x aS H'=>match(generalizing:=false) r with
   |false=>x=.ret/\At aS [2] [.bool false]
   |true=>x=.normal/\∃al,b<=al/\At aS [1] [.ptr al 0]/\Own H' [[(al,.cells (j9 ah))]]:=by
 unfold Lm at h;refine pA <| Ph (cs:=(j9 ah)) rfl (Own.nil H0) rfl (by simp[bM]) fun tF al sU Rr=>pp (.bool false) <| gB <| qk <| pA <| pp (.ptr al 0) <| pp (.ptr al 6) <| ph (bb 3 jn ah.Model.b9) (ig rfl (Rr.get 0 rfl) rfl) <| ph (aI ah.Model.b9.len) (we rfl _) <| pp (.bool (decide (ah.Model.b9.len>12))) <| gB <| ?_
 rcases qX h with⟨hX,h⟩|⟨hX,h⟩
 ·refine zJ rfl hX <| pA <| pp (.bool false) <| gB <| zI <| ?_
  cases h;exact⟨rfl,rfl⟩
 ·refine zK rfl hX <| zH <| pA <| pp (.ptr al 0) <| pp (.ptr al 6) <| ph (bb 3 jn ah.Model.b9) (ig rfl (Rr.get 0 rfl) rfl) <| ph (aI ah.Model.b9.len) (we rfl _) <| pp (aI 0) <| gB <| E8 <| ?_
  obtain⟨wz,arh,h⟩:=bind_some h;refine eE (AR ah) (fun s aS H'=>At aS [1,18,19,20] [.ptr al 0,bb 3 jn ah.Model.b9,aI ah.Model.b9.len,aI s]/\Own H' ([(al,.cells (j9 ah))]::[])) (fun o=>fun fJ aS H'=>match(generalizing:=false) o with| .go s=>fJ=(.exit 0)/\At aS [1] [.ptr al 0]/\Own H' ([(al,.cells (j9 ah))]::[])| .ret s=>fJ=.ret/\At aS [2] [.bool false]/\Own H' []) arh ⟨rfl,Rr⟩ ?_ ?_
  ·rintro i12 cL aAK r bk jK
   dsimp only[AR]at jK
   try dsimp only at bk
   obtain⟨Rs,acU⟩:=bk;refine dK Rs <| pA <| pp (.bool (decide (i12<ah.Model.b9.len))) <| gB <| qk <| ?_
   rcases qX jK with⟨Rt,jK⟩|⟨Rt,jK⟩
   ·refine zJ rfl Rt <| zH <| qk <| E8 <| pA <| ?_
    obtain⟨eu,ari,jK⟩:=bind_some jK;refine ph (.dH (aE (jn eu)) 0) (zN rfl rfl ari _) <| pp (.agg [aI eu.Table,aI eu.iF,aI eu.c5]) <| zP rfl acU fun aAL uR arj ark=>zQ (vs:=[aI eu.Table,aI eu.iF,aI eu.c5]) (cs':=[aI eu.Table,aI eu.iF,aI eu.c5]) rfl ark 0 rfl arj rfl rfl ⟨rfl,ma rfl⟩ (by simp[bM]) rfl fun aAM wR=>gB <| qk <| qk <| ?_
    obtain⟨wx,rl,jK⟩:=bind_some jK;refine Pg (fun fJ aS H'=>(fun s=>fJ=.normal/\At aS [1,4,18,19,20,48] [.ptr al 0,.ptr uR 0,bb 3 jn ah.Model.b9,aI ah.Model.b9.len,aI i12,.bool s]/\Own H' ([(uR,.cells [aI eu.Table,aI eu.iF,aI eu.c5])]::[(al,.cells (j9 ah))]::[])) wx) ?_ ?_
    ·refine uv <| pp (.ptr uR 0) <| ph (aI eu.Table) (ig rfl (wR.get 0 rfl) rfl) <| pp (.ptr al 0) <| pp (.ptr al 1) <| ph (bb 6 lJ ah.Model.Tables) (ig rfl (wR.get 1 rfl) rfl) <| ph (aI ah.Model.Tables.len) (we rfl _) <| ?_
     obtain⟨oQ,arl,rl⟩:=bind_some rl;refine ph (.bool oQ) (Cq (Rq _ _ _ _ arl) (uw (by simp[cg,bx])) rfl rfl) <| pp (.bool (!oQ)) <| pp (.bool (!oQ)) <| ?_
     rcases qX rl with⟨mJ,rl⟩|⟨mJ,rl⟩
     ·refine la (.ptr uR 2) (lX mJ) <| iU (v:=(aI eu.c5)) (jl rfl (lX mJ)) (ig rfl (wR.get 0 rfl) rfl) <| la (.ptr al 0) (lX mJ) <| la (.ptr al 1) (lX mJ) <| iU (v:=(bb 6 lJ ah.Model.Tables)) (jl rfl (lX mJ)) (ig rfl (wR.get 1 rfl) rfl) <| iU (v:=(aI ah.Model.Tables.len)) (jl rfl (lX mJ)) (we rfl _) <| ?_
      obtain⟨j5,arn,rl⟩:=bind_some rl;refine iU (v:=(.bool j5)) (jl rfl (lX mJ)) (Cq (Rq _ _ _ _ arn) (uw (by simp[cg,bx])) rfl rfl) <| la (.bool (!j5)) (lX mJ) <| ph (.bool (!j5)) (Cp rfl (lX mJ)) <| pp (.bool (!j5)) <| ?_
      rcases qX rl with⟨rm,rl⟩|⟨rm,rl⟩
      ·refine la (.ptr uR 0) (lX rm) <| iU (v:=(aI eu.Table)) (jl rfl (lX rm)) (ig rfl (wR.get 0 rfl) rfl) <| la (.ptr uR 2) (lX rm) <| iU (v:=(aI eu.c5)) (jl rfl (lX rm)) (ig rfl (wR.get 0 rfl) rfl) <| la (.bool (eu.Table==eu.c5)) (lX rm) <| ph (.bool (eu.Table==eu.c5)) (Cp rfl (lX rm)) <| gB <| ?_
       cases rl;exact⟨rfl,rfl,wR⟩
      ·refine cr (lY rm) <| cr (lY rm) <| cr (lY rm) <| cr (lY rm) <| cr (lY rm) <| ph (.bool true) (qY rfl (lY rm)) <| gB <| ?_
       cases rl;exact⟨rfl,rfl,wR⟩
     ·refine cr (lY mJ) <| cr (lY mJ) <| cr (lY mJ) <| cr (lY mJ) <| cr (lY mJ) <| cr (lY mJ) <| cr (lY mJ) <| cr (lY mJ) <| ph (.bool true) (qY rfl (lY mJ)) <| pp (.bool true) <| cr rfl <| cr rfl <| cr rfl <| cr rfl <| cr rfl <| ph (.bool true) (qY rfl rfl) <| gB <| ?_
      cases rl;exact⟨rfl,rfl,wR⟩
    ·intro b0 cL aAN mC
     try dsimp only at jK mC
     obtain⟨rfl,aro,Ru⟩:=mC;refine dK aro <| ?_
     rcases qX jK with⟨Rv,jK⟩|⟨Rv,jK⟩
     ·refine zJ rfl Rv <| pA <| pp (.bool false) <| gB <| zI <| ?_
      cases jK;exact⟨nofun,⟨rfl,rfl,((Ru.drop 0).drop 0)⟩⟩
     ·refine zK rfl Rv <| zH <| qk <| ?_
      obtain⟨h6,arp,jK⟩:=bind_some jK;obtain⟨gP,arq,jK⟩:=bind_some jK;refine aai 14 Ru rfl (.pp (.ptr al 0) <| .pp (.ptr al 1) <| .ph (bb 6 lJ ah.Model.Tables) (fun _ wS=>(ig rfl (wS.get 1 rfl) rfl)) <| .pp (.ptr uR 0) <| .ph (aI eu.Table) (fun _ wS=>(ig rfl (wS.get 0 rfl) rfl)) <| .ph (.dH (aE (lJ h6)) 0) (fun _ wS=>(zN rfl rfl arp _)) <| .pp (.agg [.str h6.Name,aI h6.Kind,bb 1 aI h6.bR,aI h6.Range.lb,aI h6.Range.lf,aI h6.dc]) <| .pp (.ptr al 0) <| .pp (.ptr al 1) <| .ph (bb 6 lJ ah.Model.Tables) (fun _ wS=>(ig rfl (wS.get 1 rfl) rfl)) <| .pp (.ptr uR 2) <| .ph (aI eu.c5) (fun _ wS=>(ig rfl (wS.get 0 rfl) rfl)) <| .ph (.dH (aE (lJ gP)) 0) (fun _ wS=>(zN rfl rfl arq _)) <| .pp (.agg [.str gP.Name,aI gP.Kind,bb 1 aI gP.bR,aI gP.Range.lb,aI gP.Range.lf,aI gP.dc]) <| .nil) fun acV=>zP rfl Ru fun aAO Rw Rx ars=>zP rfl ars fun aAP Ry Rz art=>zQ (vs:=[.str h6.Name,aI h6.Kind,bb 1 aI h6.bR,aI h6.Range.lb,aI h6.Range.lf,aI h6.dc]) (cs':=[.str h6.Name,aI h6.Kind,bb 1 aI h6.bR,aI h6.Range.lb,aI h6.Range.lf,aI h6.dc]) rfl art 1 rfl Rx rfl rfl ⟨rfl,ma rfl⟩ (by simp[bM]) rfl fun aAQ aru=>zQ (vs:=[.str gP.Name,aI gP.Kind,bb 1 aI gP.bR,aI gP.Range.lb,aI gP.Range.lf,aI gP.dc]) (cs':=[.str gP.Name,aI gP.Kind,bb 1 aI gP.bR,aI gP.Range.lb,aI gP.Range.lf,aI gP.dc]) rfl aru 0 rfl Rz rfl rfl ⟨rfl,ma rfl⟩ (by simp[bM]) rfl fun aAR rn=>gB ⟨rfl,?_⟩;replace Rz:=cM acV Rz;replace Rx:=cM acV Rx;refine qk <| ?_
      obtain⟨FQ,kO,jK⟩:=bind_some jK;refine Pg (fun fJ aS H'=>(fun s=>fJ=.normal/\At aS [1,18,19,20,98] [.ptr al 0,bb 3 jn ah.Model.b9,aI ah.Model.b9.len,aI i12,.bool s]/\Own H' ([(al,.cells (j9 ah))]::[])) FQ) ?_ ?_
      ·refine ZV <| pp (.ptr Rw 1) <| ph (aI h6.Kind) (ig rfl (rn.get 1 rfl) rfl) <| pp (.bool (h6.Kind != 0)) <| pp (.bool (h6.Kind != 0)) <| ?_
       rcases qX kO with⟨wT,kO⟩|⟨wT,kO⟩
       ·refine cr wT <| cr wT <| cr wT <| ph (.bool true) (qY rfl wT) <| pp (.bool true) <| cr rfl <| cr rfl <| cr rfl <| cr rfl <| cr rfl <| cr rfl <| cr rfl <| ph (.bool true) (qY rfl rfl) <| pp (.bool true) <| cr rfl <| cr rfl <| cr rfl <| cr rfl <| ph (.bool true) (qY rfl rfl) <| pp (.bool true) <| cr rfl <| cr rfl <| cr rfl <| cr rfl <| cr rfl <| cr rfl <| cr rfl <| cr rfl <| cr rfl <| cr rfl <| cr rfl <| ph (.bool true) (qY rfl rfl) <| gB ⟨rfl,?_⟩
        cases kO;exact⟨rfl,rfl,(((rn.drop 0).drop 0).drop 0)⟩
       ·refine la (.ptr Ry 1) wT <| iU (v:=(aI gP.Kind)) (jl rfl wT) (ig rfl (rn.get 0 rfl) rfl) <| la (.bool (gP.Kind != 0)) wT <| ph (.bool (gP.Kind != 0)) (Cp rfl wT) <| pp (.bool (gP.Kind != 0)) <| ?_
        rcases qX kO with⟨oh,kO⟩|⟨oh,kO⟩
        ·refine cr oh <| cr oh <| cr oh <| cr oh <| cr oh <| cr oh <| cr oh <| ph (.bool true) (qY rfl oh) <| pp (.bool true) <| cr rfl <| cr rfl <| cr rfl <| cr rfl <| ph (.bool true) (qY rfl rfl) <| pp (.bool true) <| cr rfl <| cr rfl <| cr rfl <| cr rfl <| cr rfl <| cr rfl <| cr rfl <| cr rfl <| cr rfl <| cr rfl <| cr rfl <| ph (.bool true) (qY rfl rfl) <| gB ⟨rfl,?_⟩
         cases kO;exact⟨rfl,rfl,(((rn.drop 0).drop 0).drop 0)⟩
        ·refine la (.ptr uR 1) oh <| iU (v:=(aI eu.iF)) (jl rfl oh) (ig rfl (rn.get 2 rfl) rfl) <| la (.ptr Rw 2) oh <| iU (v:=(bb 1 aI h6.bR)) (jl rfl oh) (ig rfl (rn.get 1 rfl) rfl) <| iU (v:=(aI h6.bR.len)) (jl rfl oh) (we rfl _) <| ?_
         obtain⟨xT,arv,kO⟩:=bind_some kO;refine iU (v:=(.bool xT)) (jl rfl oh) (Cq (Rq _ _ _ _ arv) (uw (by simp[cg,bx])) rfl rfl) <| la (.bool (!xT)) oh <| ph (.bool (!xT)) (Cp rfl oh) <| pp (.bool (!xT)) <| ?_
         rcases qX kO with⟨tG,kO⟩|⟨tG,kO⟩
         ·refine la (.ptr Ry 2) (lX tG) <| iU (v:=(bb 1 aI gP.bR)) (jl rfl (lX tG)) (ig rfl (rn.get 0 rfl) rfl) <| iU (v:=(aI gP.bR.len)) (jl rfl (lX tG)) (we rfl _) <| la (.bool (gP.bR.len != 1)) (lX tG) <| ph (.bool (gP.bR.len != 1)) (Cp rfl (lX tG)) <| pp (.bool (gP.bR.len != 1)) <| ?_
          rcases qX kO with⟨ka,kO⟩|⟨ka,kO⟩
          ·refine cr ka <| cr ka <| cr ka <| cr ka <| cr ka <| cr ka <| cr ka <| cr ka <| cr ka <| cr ka <| cr ka <| ph (.bool true) (qY rfl ka) <| gB ⟨rfl,?_⟩
           cases kO;exact⟨rfl,rfl,(((rn.drop 0).drop 0).drop 0)⟩
          ·refine la (.ptr Ry 2) ka <| iU (v:=(bb 1 aI gP.bR)) (jl rfl ka) (ig rfl (rn.get 0 rfl) rfl) <| ?_
           obtain⟨sk,arw,kO⟩:=bind_some kO;refine iU (v:=(.dH (aE (aI sk)) 0)) (jl rfl ka) (zN rfl rfl arw _) <| la (aI sk) ka <| la (.ptr Rw 2) ka <| iU (v:=(bb 1 aI h6.bR)) (jl rfl ka) (ig rfl (rn.get 1 rfl) rfl) <| la (.ptr uR 1) ka <| iU (v:=(aI eu.iF)) (jl rfl ka) (ig rfl (rn.get 2 rfl) rfl) <| ?_
           obtain⟨xV,arx,kO⟩:=bind_some kO;refine iU (v:=(.dH (aE (aI xV)) 0)) (jl rfl ka) (zN rfl rfl arx _) <| la (aI xV) ka <| la (.bool (sk != xV)) ka <| ph (.bool (sk != xV)) (Cp rfl ka) <| gB ⟨rfl,?_⟩
           cases kO;exact⟨rfl,rfl,(((rn.drop 0).drop 0).drop 0)⟩
         ·refine cr (lY tG) <| cr (lY tG) <| cr (lY tG) <| cr (lY tG) <| ph (.bool true) (qY rfl (lY tG)) <| pp (.bool true) <| cr rfl <| cr rfl <| cr rfl <| cr rfl <| cr rfl <| cr rfl <| cr rfl <| cr rfl <| cr rfl <| cr rfl <| cr rfl <| ph (.bool true) (qY rfl rfl) <| gB ⟨rfl,?_⟩
          cases kO;exact⟨rfl,rfl,(((rn.drop 0).drop 0).drop 0)⟩
      ·intro b0 cL aAS mC
       try dsimp only at jK mC
       obtain⟨rfl,ary,acW⟩:=mC;refine dK ary <| ?_
       rcases qX jK with⟨RA,jK⟩|⟨RA,jK⟩
       ·refine zJ rfl RA <| pA <| pp (.bool false) <| gB <| zI <| ?_
        cases jK;exact⟨nofun,⟨rfl,rfl,(acW.drop 0)⟩⟩
       ·refine zK rfl RA <| zH <| uv <| pp (aI (aM (i12+1))) <| pp (aI (aM (i12+1))) <| gB <| ?_
        cases jK;exact⟨rfl,⟨rfl,acW⟩⟩
   ·refine zK rfl Rt <| Jr <| ?_
    cases jK;exact⟨nofun,⟨rfl,rfl,acU⟩⟩
  ·intro b0 cL aAT mC
   cases wz with
   |go aAU=>
    try dsimp only at h mC
    obtain⟨rfl,arz,arA⟩:=mC;cases h;exact⟨rfl,al,sU,arz,arA⟩
   |ret q=>
    obtain⟨rfl,arB,aw⟩:=mC;cases h;exact⟨rfl,arB⟩
theorem arC (ah:dR){al:Nat}{m:List (Int × Bool)}(arD:At σ [1] [.ptr al 0])(aw:Own H [[(al,.cells (j9 ah))]])(h:bZ (AU ah) (0,[])=some m):
  e8 aa b (.seq (hA 4) (hA 5)) σ H fun x aS H'=>x=.normal/\∃eX l,b<=eX/\b<=l/\At aS [1,7] [.ptr al 0,.ptr eX 0]/\Own H' [[(eX,.cells [.map l])],[(l,.map (gC aI V.bool m))],[(al,.cells (j9 ah))]]:=by
 rw[<-Fe arD];refine pA <| Z1 rfl aw fun aAV yc acX arE=>zP rfl arE fun aAW a77 acY arF=>zQ (vs:=[.map yc]) (cs':=[.map yc]) rfl arF 0 rfl acY rfl rfl ⟨rfl,ma rfl⟩ (by simp[bM]) rfl fun aAX acZ=>gB <| pA <| pp (.ptr al 0) <| pp (.ptr al 6) <| ph (bb 3 jn ah.Model.b9) (ig rfl (acZ.get 2 rfl) rfl) <| ph (aI ah.Model.b9.len) (we rfl _) <| pp (aI 0) <| gB <| E8 <| ?_
 refine eE (AU ah) (fun s aS H'=>At aS [1,7,103,104,105] [.ptr al 0,.ptr a77 0,bb 3 jn ah.Model.b9,aI ah.Model.b9.len,aI s.1]/\Own H' ([(a77,.cells [.map yc])]::[(yc,.map (gC aI V.bool s.2))]::[(al,.cells (j9 ah))]::[])) (fun o=>fun fJ aS H'=>fJ=(.exit 2)/\At aS [1,7] [.ptr al 0,.ptr a77 0]/\Own H' ([(a77,.cells [.map yc])]::[(yc,.map (gC aI V.bool o))]::[(al,.cells (j9 ah))]::[])) h ⟨rfl,acZ⟩ ?_ ?_
 ·rintro⟨i90,i91⟩ cL aAY r bk yd
  dsimp only[AU]at yd
  try dsimp only at bk
  obtain⟨arG,ac0⟩:=bk;refine dK arG <| pA <| pp (.bool (decide (i90<ah.Model.b9.len))) <| gB <| qk <| ?_
  rcases qX yd with⟨RB,yd⟩|⟨RB,yd⟩
  ·refine zJ rfl RB <| zH <| qk <| E8 <| pA <| ?_
   obtain⟨mH,arH,yd⟩:=bind_some yd;refine ph (.dH (aE (jn mH)) 0) (zN rfl rfl arH _) <| pp (.agg [aI mH.Table,aI mH.iF,aI mH.c5]) <| zP rfl ac0 fun aAZ arI arJ arK=>zQ (vs:=[aI mH.Table,aI mH.iF,aI mH.c5]) (cs':=[aI mH.Table,aI mH.iF,aI mH.c5]) rfl arK 0 rfl arJ rfl rfl ⟨rfl,ma rfl⟩ (by simp[bM]) rfl fun aA0 RC=>gB <| uv <| ph (.map yc) (ig rfl (RC.get 1 rfl) rfl) <| pp (.ptr arI 0) <| ph (aI mH.Table) (ig rfl (RC.get 0 rfl) rfl) <| aad (gR:=aI) (gD:=V.bool) (m:=i91) (k:=mH.Table) (w:=true) rfl Fb RC 2 rfl acX rfl rfl rfl (by simp) fun aA1 arL=>gB <| uv <| pp (aI (aM (i90+1))) <| pp (aI (aM (i90+1))) <| gB <| ?_
   cases yd;exact⟨rfl,⟨rfl,(arL.drop 0)⟩⟩
  ·refine zK rfl RB <| Jr <| ?_
   cases yd;exact⟨nofun,rfl,rfl,ac0⟩
 ·intro b0 cL aA2 mC
  obtain⟨rfl,arM,arN⟩:=mC;exact⟨rfl,a77,yc,acY,acX,arM,arN⟩
theorem arO{eX l:Nat}{m:List (Int × Bool)}(j:At σ [7] [.ptr eX 0]){ms:cy}(aw:Own H ([(eX,.cells [.map l])]::[(l,.map (gC aI V.bool m))]::ms)):
  e8 aa b (hA 7) σ H fun x aS H'=>x=.ret/\At aS [2] [.bool (decide (m.length=0))]:=by
 rw[<-Fe j];refine pA <| ph (.map l) (ig rfl (aw.get 0 rfl) rfl) <| ph (aI (m.length:Int)) (aac (gR:=aI) (gD:=V.bool) (aw.get 1 rfl) rfl) <| pp (.bool ((m.length:Int)==0)) <| pp (.bool ((m.length:Int)==0)) <| gB <| zI <| ?_
 refine⟨rfl,?_⟩;have:((m.length:Int)==0)=decide (m.length=0):=by rw[xb];simp
 rw[<-this];rfl
theorem arP (tH:aa 92=some (.code Db)){oi eX l:Nat}{t:Int}{m:List (Int × Bool)}{ms:cy}(aw:Own H ([(oi,.cells [aI t])]::[(eX,.cells [.map l])]::[(l,.map (gC aI V.bool m))]::ms))(h:gi):
  bY aa (.fn 92 [] [.ptr oi 0,.ptr eX 0]) [.agg [aI h.Table,aI h.iF,aI h.c5]] H=some (.bool ((h.Table==t)&&(ie m h.c5).getD false),H,H.length):=by
 refine Z9 (caps:=[.ptr oi 0,.ptr eX 0]) tH (ma rfl) rfl ?_ (by simp[bx,cg]);refine pA <| Ph (cs:=[aI h.Table,aI h.iF,aI h.c5]) rfl aw rfl (by simp[bM]) fun tF a3 zo AV=>pp (.bool false) <| gB <| pA <| pp (.ptr a3 0) <| ph (aI h.Table) (ig rfl (AV.get 0 rfl) rfl) <| ph (aI t) (ig rfl (AV.get 1 rfl) rfl) <| pp (.bool (h.Table==t)) <| pp (.bool (h.Table==t)) <| ?_
 cases c:h.Table==t with
 |true=>
  refine iU (v:=.map l) (jl rfl rfl) (ig rfl (AV.get 2 rfl) rfl) <| la (.ptr a3 2) rfl <| iU (v:=aI h.c5) (jl rfl rfl) (ig rfl (AV.get 0 rfl) rfl) <| iU (v:=.bool ((ie m h.c5).getD false)) (jl rfl rfl) (aab (gR:=aI) (gD:=V.bool) Fb false rfl (AV.get 3 rfl) rfl rfl) <| pp (.bool ((ie m h.c5).getD false)) <| pp (.bool ((ie m h.c5).getD false)) <| gB <| zI <| ?_
  exact⟨.inr rfl,Z7 (.tmp rfl .nil) rfl (by simp[bx,cg])⟩
 |false=>
  refine qm rfl <| qm rfl <| qm rfl <| qm rfl <| pp (.bool false) <| pp (.bool false) <| gB <| zI <| ?_
  exact⟨.inr rfl,Z7 (.tmp rfl .nil) rfl (by simp[bx,cg])⟩
def oU:cm:=.region [⟨some (125,false),.fieldAddr 0 (.var 1),none⟩,⟨some (126,false),.fieldAddr 6 (.tmp 125),none⟩,⟨some (127,false),.load none (.tmp 126),none⟩,⟨some (128,false),.ua 92 [] [.var 10,.var 7],none⟩,⟨some (129,false),.call false (.func 91) [.tmp 127,.tmp 128],none⟩,⟨some (130,true),.un .not (.tmp 129),none⟩] none
def aag:List bI:=[⟨some (124,false),.extract (.tmp 123) 0,none⟩,⟨some (10,true),.alloc [aI 0],none⟩,⟨none,.store 1 (.var 10) (.tmp 124),none⟩]
def Ln:List bI:=[⟨some (131,false),.load none (.var 7),none⟩,⟨some (132,false),.load none (.var 10),none⟩]
def U:eS:=⟨[⟨some (119,false),.load none (.var 7),none⟩],.tmp 119,120,(121,false),[⟨some (122,true),.extract (.tmp 121) 0,none⟩],.var 122,7,(123,false),aag,.seq oU (.cond (.var 130) (.region (Ln++[⟨none,.yL 0 (.tmp 131) (.tmp 132),none⟩]) none) .skip)⟩
def n2:AP:=⟨oU,.var 130,Ln,.tmp 131,.tmp 132,0⟩
theorem arQ (tH:aa 92=some (.code Db))(oI:AM aa){ah:dR}{al oi eX l:Nat}{t:Int}{m:List (Int × Bool)}{q:Bool}
  (aw:Own H [[(oi,.cells [aI t])],[(eX,.cells [.map l])],[(l,.map (gC aI V.bool m))],[(al,.cells (j9 ah))]]) {vs:List V} {ts:List Nat} (j:At σ (1::7::10::ts) (.ptr al 0::.ptr eX 0::.ptr oi 0::vs))
  (bg:Fl ah.Model.b9 (fun h=>some ((h.Table==t)&&(ie m h.c5).getD false))=some q):
  e8 aa b oU σ H fun x aS H'=>x=.normal/\H'=H/\aS=up σ 130 (.bool (!q)):=by
 have GS:σ 1=.ptr al 0:=by simpa using(eO j).1
 have arR:σ 7=.ptr eX 0:=by simpa using(eO (eO j).2).1
 have RD:σ 10=.ptr oi 0:=by simpa using(eO (eO (eO j).2).2).1
 have ba:=oI H _ aw ah.Model.b9 _ (.fn 92 [] [.ptr oi 0,.ptr eX 0]) (fun H low=>by simp[fN,dQ,bx,cg]) (fun H' z0 gT lI aO=>by
  cases aO;exact arP tH lI z0) q bg
 refine uv <| ph (.ptr al 0) ?_ <| ph (.ptr al 6) rfl <| ph (bb 3 jn ah.Model.b9) (ig rfl (aw.get 3 rfl) rfl) <| ph (.fn 92 [] [.ptr oi 0,.ptr eX 0]) ?_ <| ph (.bool q) (Cq ba (Z2 (by simp) (Z3 (fun H low=>by simp[fN,dQ,bx,cg]) amr)) rfl rfl) <| pp (.bool (!q)) <| gB ⟨rfl,rfl,rfl⟩
 ·rw[nZ];simp only[bn,GS]
 ·rw[O3]
  show some (V.fn 92 [] [σ 10,σ 7],H,H.length)=_;rw[RD,arR]
end
end
end Go.Abs.bs
namespace Go.Abs
open Go
theorem eY{n:Int}(h1:-9223372036854775808<=n)(h2:n<=9223372036854775807):aM n=n:=wrap_small h1 (by omega)
theorem dV{α:Type}(l:List α)(k:Nat):bj l (k:Int)=l[k]? :=by simp[bj]
theorem arS{α:Type}{l:List α}{i:Int}{a:α}(h:0<=i)(e:l[i.toNat]? =some a):bj l i=some a:=by simp[bj,h,e]
theorem RE{α:Type}(l:List α):bj l 0=l[0]? :=dV l 0
def jL{α A O:Type}(step:Nat->A->α->Sum A O)(fin:A->O):Nat->A->List α->O
 | _,a,[]=>fin a
 |k,a,x::r=>match step k a x with
  | .inl a8=>jL step fin (k+1) a8 r
  | .inr o=>o
theorem Dg{α A S O:Type}{f:S->Option (cU S O)}(mk:Nat->A->S)(step:Nat->A->α->Sum A O)(fin:A->O)(I:Nat->A->Prop)(xs:List α)
  (hs:∀k a x,xs[k]? =some x->I k a->f (mk k a)=some (match step k a x with| .inl a8=>.next (mk (k+1) a8)| .inr o=>.out o)/\∀a8,step k a x=.inl a8->I (k+1) a8)
  (he:∀a,I xs.length a->f (mk xs.length a)=some (.out (fin a))) {a:A} (h0:I 0 a):bZ f (mk 0 a)=some (jL step fin 0 a xs):=by
 have key:∀(n k:Nat) (a:A),k+n=xs.length->I k a->bZ f (mk k a)=some (jL step fin k a (xs.drop k)):=by
  intro n
  induction n with
  |zero=>
   intro k a hk bk;have e:k=xs.length:=by omega
   subst e;rw[fK,he a bk,u1 (aF _)];rfl
  |succ n ih=>
   intro k a hk bk;have aK:k<xs.length:=by omega
   obtain⟨h1,h2⟩:=hs k a xs[k] (by simp[aK]) bk;rw[fK,h1,pK aK];simp only[jL];cases b7:step k a xs[k]with
   |inl a8=>exact ih (k+1) a8 (by omega) (h2 a8 b7)
   |inr o=>rfl
 have:=key xs.length 0 a (by omega) h0;simpa using this
theorem RF{α A S O:Type}{f:S->Option (cU S O)}(bW:Nat->A->S->Prop)(step:Nat->A->α->Sum A O)(fin:A->O)(xs:List α)
  (hs:∀k a x s,xs[k]? =some x->bW k a s->match step k a x with| .inl a8=>∃ao,f s=some (.next ao)/\bW (k+1) a8 ao| .inr o=>f s=some (.out o))
  (he:∀a s,bW xs.length a s->f s=some (.out (fin a))) {a:A} {s:S} (h0:bW 0 a s):bZ f s=some (jL step fin 0 a xs):=by
 have key:∀(n k:Nat) (a:A) (s:S),k+n=xs.length->bW k a s->bZ f s=some (jL step fin k a (xs.drop k)):=by
  intro n
  induction n with
  |zero=>
   intro k a s hk bk;have e:k=xs.length:=by omega
   subst e;rw[fK,he a s bk,u1 (aF _)];rfl
  |succ n ih=>
   intro k a s hk bk;have aK:k<xs.length:=by omega
   have h1:=hs k a xs[k] s (by simp[aK]) bk;rw[pK aK];simp only[jL];cases b7:step k a xs[k]with
   |inl a8=>
    rw[b7]at h1;obtain⟨ao,ab,aj⟩:=h1;rw[fK,ab];exact ih (k+1) a8 ao (by omega) aj
   |inr o=>
    rw[b7]at h1;rw[fK,h1]
 have:=key xs.length 0 a s (by omega) h0;simpa using this
theorem ac1{α S O:Type}{f:S->Option (cU S O)}(I:Nat->S->Prop)(P:O->Prop)(xs:List α)(hs:∀k x s,xs[k]? =some x->I k s->∃ao,f s=some (.next ao)/\I (k+1) ao)
  (he:∀s,I xs.length s->∃o,f s=some (.out o)/\P o) {s:S} (h0:I 0 s):∃o,bZ f s=some o/\P o:=by
 have key:∀(n k:Nat) (s:S),k+n=xs.length->I k s->∃o,bZ f s=some o/\P o:=by
  intro n
  induction n with
  |zero=>
   intro k s hk bk;have e:k=xs.length:=by omega
   subst e;obtain⟨o,ab,aj⟩:=he s bk;exact⟨o,by rw[fK,ab],aj⟩
  |succ n ih=>
   intro k s hk bk;have aK:k<xs.length:=by omega
   obtain⟨ao,ab,aj⟩:=hs k xs[k] s (by simp[aK]) bk;obtain⟨o,f1,f2⟩:=ih (k+1) ao (by omega) aj;exact⟨o,by rw[fK,ab];exact f1,f2⟩
 exact key xs.length 0 s (by omega) h0
theorem GU{α S O:Type}{f:S->Option (cU S O)}(I:Nat->S->Prop)(P:O->Prop)(xs:List α)(hs:∀k x s,xs[k]? =some x->I k s->(∃ao,f s=some (.next ao)/\I (k+1) ao)\/(∃o,f s=some (.out o)/\P o))
  (he:∀s,I xs.length s->∃o,f s=some (.out o)/\P o) {s:S} (h0:I 0 s):∃o,bZ f s=some o/\P o:=by
 have key:∀(n k:Nat) (s:S),k+n=xs.length->I k s->∃o,bZ f s=some o/\P o:=by
  intro n
  induction n with
  |zero=>
   intro k s hk bk;have e:k=xs.length:=by omega
   subst e;obtain⟨o,ab,aj⟩:=he s bk;exact⟨o,by rw[fK,ab],aj⟩
  |succ n ih=>
   intro k s hk bk;have aK:k<xs.length:=by omega
   rcases hs k xs[k] s (by simp[aK]) bk with⟨ao,ab,aj⟩|⟨o,ab,aj⟩
   ·obtain⟨o,f1,f2⟩:=ih (k+1) ao (by omega) aj
    exact⟨o,by rw[fK,ab];exact f1,f2⟩
   ·exact⟨o,by rw[fK,ab],aj⟩
 exact key xs.length 0 s (by omega) h0
def allI{α:Type}(ok:Nat->α->Bool)(xs:List α):Bool:=xs.zipIdx.all fun p=>ok p.2 p.1
theorem Lo{α:Type}{ok:Nat->α->Bool}{xs:List α}:allI ok xs=true↔∀k x,xs[k]? =some x->ok k x=true:=by
 unfold allI;rw[eU];constructor
 ·intro h k x hx
  exact h (x,k) (js.2 hx)
 ·intro h p hp
  exact h p.2 p.1 (js.1 hp)
theorem AW{α S:Type}{f:S->Option (cU S (cz Unit Unit))}(I:Nat->S->Prop)(ok:Nat->α->Bool)(xs:List α)
  (hs:∀k x s,xs[k]? =some x->I k s->(∀j y,j<k->xs[j]? =some y->ok j y=true)->(ok k x=true->∃ao,f s=some (.next ao)/\I (k+1) ao)/\(ok k x=false->f s=some (.out (.ret ()))))
  (he:∀s,I xs.length s->f s=some (.out (.go ()))) {s:S} (h0:I 0 s):bZ f s=some (bif allI ok xs then .go ()else .ret ()):=by
 obtain⟨o,ab,aj⟩:=GU (f:=f) (fun k s=>I k s/\∀j y,j<k->xs[j]? =some y->ok j y=true) (fun o=>o=bif allI ok xs then .go ()else .ret ()) xs (fun k x s hx bk=>by
  obtain⟨h1,h2⟩:=hs k x s hx bk.1 bk.2;cases bh:ok k x with
  |true=>
   obtain⟨ao,ab,aj⟩:=h1 bh;refine .inl ⟨ao,ab,aj,fun j y hj hy=> ?_⟩;by_cases e:j=k
   ·subst e;rw[hx]at hy;cases hy;exact bh
   ·exact bk.2 j y (by omega) hy
  |false=>
   refine .inr ⟨.ret (),h2 bh,?_⟩;cases ha:allI ok xs with
   |false=>rfl
   |true=>rw[Lo.1 ha k x hx]at bh;cases bh) (fun s bk=>by
  refine⟨.go (),he s bk.1,?_⟩;have:allI ok xs=true:=Lo.2 fun k x hx=>bk.2 k x (e0.1 hx).1 hx;rw[this];rfl) (s:=s) ⟨h0,fun j y hj=>by omega⟩
 rw[ab,aj]
def mK{α:Type}(f:α->Int)(xs:List α):Nat->Int
 |0=>-1
 |k+1=>((xs[k]?).map f).getD (-1)
theorem Lp{α:Type}(f:α->Int){xs:List α}{k:Nat}{x:α}(h:xs[k]? =some x):mK f xs (k+1)=f x:=by simp[mK,h]
theorem ac2{α:Type}{f:α->Int}{xs:List α}:∀{k:Nat},(∀j y,j<k->xs[j]? =some y->mK f xs j<f y)-> -1<=mK f xs k
 |0,_=>by simp[mK]
 |k+1,h=>by
  have ih:=ac2 (k:=k) fun j y hj=>h j y (by omega);cases hx:xs[k]? with
  |none=>simp[mK,hx]
  |some x=>
   rw[Lp f hx];have:=h k x (by omega) hx;omega
theorem GV{α A O:Type}{step:Nat->A->α->Sum A O}{fin:A->O}{g:A->α->A}(h:∀k a x,step k a x=.inl (g a x)):∀(l:List α) (k:Nat) (a:A),jL step fin k a l=fin (l.foldl g a)
 |[],_,_=>rfl
 |x::r,k,a=>by simp only[jL,h,ot];exact GV h r (k+1) (g a x)
theorem arT{α R:Type}{f:Int->Option (cU Int (cz Unit Unit))}(xs:List α)(hn:xs.length<4611686018427387904)(b:Nat->α->Bool)
  (hs:∀(k:Nat) x,xs[k]? =some x->f k=some (bif b k x then .out (.ret ())else .next (aM (k+1)))) (he:f (xs.length:Int)=some (.out (.go ()))):
  bZ f 0=some (bif xs.zipIdx.any (fun p=>b p.2 p.1)then .ret ()else .go ()):=by
 have h:=Dg (f:=f) (fun k (_:Unit)=>(k:Int)) (fun k _ x=>bif b k x then .inr (.ret ())else .inl ()) (fun _=>.go ()) (fun _ _=>True) xs (fun k a x hx _=>by
  refine⟨?_,fun _ _=>trivial⟩;have aK:=(e0.1 hx).1;rw[hs k x hx];cases b k x
  ·simp only[cond_false]
   rw[eY (by omega) (by omega)];rfl
  ·rfl) (fun _ _=>he) (a:=()) trivial
 have h2:∀(k:Nat) (l:List α),jL (fun k (_:Unit) x=>bif b k x then(.inr (.ret ()):Sum Unit (cz Unit Unit))else .inl ()) (fun _=>.go ()) k () l=bif (l.zipIdx k).any (fun p=>b p.2 p.1)then .ret ()else .go ():=by
  intro k l
  induction l generalizing k with
  |nil=>rfl
  |cons x r ih=>
   simp only[jL,List.zipIdx_cons,List.any_cons];cases hb:b k x
   ·simp only[cond_false,tZ];exact ih (k+1)
   ·simp
 rw[h2]at h;exact h
theorem arU{α:Type}(b:α->Bool)(l:List α)(k:Nat):(l.zipIdx k).any (fun p=>b p.1)=l.any b:=by
 induction l generalizing k with
 |nil=>rfl
 |cons x r ih=>simp[List.zipIdx_cons,ih]
theorem rp{α:Type}{f:Int->Option (cU Int (cz Unit Unit))}(xs:List α)(hn:xs.length<4611686018427387904)(b:α->Bool)
  (hs:∀(k:Nat) x,xs[k]? =some x->f k=some (bif b x then .out (.ret ())else .next (aM (k+1)))) (he:f (xs.length:Int)=some (.out (.go ()))):
  bZ f 0=some (bif xs.any b then .ret ()else .go ()):=by
 have:=arT (R:=Unit) xs hn (fun _ x=>b x) hs he;rw[arU]at this;exact this
theorem arV{α:Type}(xs:ad α)(hn:xs.l.length<4611686018427387904){f:α->Option Bool}{p:α->Bool}(ae:∀x∈xs.l,f x=some (p x)):
  (bZ (fun i7:Int=>(bif (decide (i7<xs.len))then((bj xs.l i7).bind fun hh=>((f hh).bind fun fS=>(bif fS then some (cU.out (cz.ret i7))else some (.next (aM (i7+1))))))else some (.out (.go ())))) 0:Option (cz Unit Int))=
    some (match xs.l.findIdx? p with|none=>.go ()|some i=>.ret (i:Int)):=by
 have h:=Dg (f:=fun i7:Int=>(bif (decide (i7<xs.len))then((bj xs.l i7).bind fun hh=>((f hh).bind fun fS=>(bif fS then some (cU.out (cz.ret i7:cz Unit Int))else some (.next (aM (i7+1))))))else some (.out (.go ()))))
  (fun k (_:Unit)=>(k:Int)) (fun k _ x=>bif p x then .inr (.ret (k:Int))else .inl ()) (fun _=>.go ()) (fun _ _=>True) xs.l (fun k a x hx _=>by
    refine⟨?_,fun _ _=>trivial⟩;have aK:=(e0.1 hx).1;have hd:decide ((k:Int)<xs.len)=true:=by simp[ad.len];exact aK
    simp only[hd,cond_true,dV,hx,bm,ae x (gV hx)];cases p x
    ·simp only[cond_false]
     rw[eY (by omega) (by omega)];rfl
    ·rfl) (fun _ _=>by
    have hd:decide ((xs.l.length:Int)<xs.len)=false:=by simp[ad.len]
    simp only[hd,cond_false]) (a:=()) trivial
 have h2:∀(k:Nat) (l:List α),jL (fun k (_:Unit) x=>bif p x then(.inr (.ret (k:Int)):Sum Unit (cz Unit Int))else .inl ()) (fun _=>.go ()) k () l=match l.findIdx? p with|none=>.go ()|some i=>.ret ((k+i:Nat):Int):=by
  intro k l
  induction l generalizing k with
  |nil=>rfl
  |cons x r ih=>
   simp only[jL,S3];cases hb:p x
   ·simp only[cond_false,ih (k+1)]
    cases r.findIdx? p with
    |none=>rfl
    |some i=>simp;omega
   ·simp
 rw[h2]at h;refine h.trans ?_;cases xs.l.findIdx? p<;>simp
theorem AX{α:Type}(xs:ad α)(hn:xs.l.length<4611686018427387904){f:α->Option Bool}{p:α->Bool}(ae:∀x∈xs.l,f x=some (p x)):
  ((((bZ (fun i7:Int=>(bif (decide (i7<xs.len))then((bj xs.l i7).bind fun hh=>((f hh).bind fun fS=>(bif fS then some (cU.out (cz.ret i7))else some (.next (aM (i7+1))))))else some (.out (.go ())))) 0:Option (cz Unit Int)).bind fun gO=>match gO with| .go _=>some (-1)| .ret wv=>some wv)).bind fun b0=>some (decide (b0>=0)))=some (xs.l.any p):=by
 rw[arV xs hn ae]
 have:(xs.l.findIdx? p).isSome=xs.l.any p:=by
  rw[List.findIdx?_isSome]
 rw[<-this];cases xs.l.findIdx? p with
 |none=>simp
 |some i=>simp
theorem Lq{K W:Type}[BEq K][LawfulBEq K](k bz:K)(w:W):∀m:List (K × W),ie (lF m k w) bz=if bz==k then some w else ie m bz
 |[]=>by
  simp only[lF,ie,HS,List.find?_nil];cases hk:bz==k<;>simp
 |p::r=>by
  have ih:=Lq k bz w r;simp only[ie]at ih;simp only[lF];cases hp:k==p.1
  ·simp only[fE,if_false,ie,HS]
   cases bg:bz==p.1
   ·simp only[ih]
   ·have e:bz=p.1:=by simpa using bg
    have:(bz==k)=false:=by
     rw[e];cases h:p.1==k with
     |false=>rfl
     |true=>have aj:p.1=k:=by simpa using h
            rw[aj]at hp;simp at hp
    simp[this]
  ·have e:k=p.1:=by simpa using hp
   simp only[if_true,ie,HS,e];cases bg:bz==p.1<;>simp
end Go.Abs
namespace Go.Abs.bs
open Go Go.Abs
def b2{α:Type}(l:List α):Prop:=l.length<4611686018427387904
def qt (l:List Int):Bool:=l.all fun n=>decide (n>=1)&&decide (n<=6)
def ja (n:Nat)(c:List Int):Bool:=decide (c.length<=3)&&c.all fun x=>decide (x>=0)&&decide (x<n)
def jb (s:List Int)(x:Int):Int:=(s[x.toNat]?).getD 1
def wid (s c:List Int):Int:=c.foldl (fun a x=>a*jb s x) 1
def kq (t:Table):Bool:=(t.Kind==0)||(t.Kind==1)
def Lr (t:Table):Bool:=bif (t.Kind==1)||((t.Kind==4)||(t.Kind==5))then decide (t.Range.lb<=t.Range.lf)&&(decide (t.Range.lb>=-9999)&&decide (t.Range.lf<=9999))else(t.Range.lb==0)&&(t.Range.lf==1)
noncomputable def uS (w:cf):Bool:=(zX w).getD false
theorem ew{α:Type}(x:ad α):x.len=(x.l.length:Int):=rfl
theorem ac3 (w:cf):zX w=some (uS w):=by
 unfold uS zX JC;cases decide ((w.length:Int)<=16)<;>rfl
theorem RG (xs:ad Int)(h:b2 xs.l){f:Int->Option Bool}{p:Int->Bool}(ae:∀x∈xs.l,f x=some (p x)):Fu xs f=some (xs.l.any p):=AX xs h ae
theorem arW (xs:ad Bool)(h:b2 xs.l)(a:Bool):PF xs a=some (xs.l.any fun x=>a==x):=AX xs h (f:=fun x=>some (a==x)) (fun x _=>rfl)
theorem arX (s:ad Int)(h:b2 s.l):JH s=some (qt s.l):=by
 unfold JH;rw[RG s h (f:=PG) (p:=fun n=>!(decide (n>=1)&&decide (n<=6))) (fun x _=>rfl)];simp[qt,tT]
theorem arY (s c:ad Int)(h:b2 c.l):JI s c=some (ja s.l.length c.l):=by
 unfold JI;rw[RG c h (f:=fun z0=>PH s z0) (p:=fun x=>(decide (x<0))||(decide (x>=s.len))) (fun x _=>rfl)];unfold ja;have e:decide ((c.l.length:Int)<=3)=decide (c.l.length<=3):=decide_eq_decide.2 (by omega);rw[ew,e];cases hc:decide (c.l.length<=3)with
 |true=>
  simp only[cond_true,bm,fF,tT,aA];congr 2;funext x;rw[ew];by_cases h1:x<0<;>by_cases h2:x>=(s.l.length:Int)<;>simp_all<;>omega
 |false=>
  simp
theorem ac4 (l:List Bool)(h:b2 l):CE (ad.mk l)=some (l.all id):=by
 unfold CE;rw[arW (ad.mk l) h];simp only[bm,tT,aA,ad.l];congr 2;funext x;cases x<;>rfl
theorem arZ (t:Table):JJ t=some (Lr t):=by
 unfold JJ Lr;cases h1:t.Kind==1<;>cases aR:t.Kind==4<;>cases h5:t.Kind==5<;>simp
theorem Ls (t:Table):CD t=some (kq t):=rfl
theorem Lt{s:List Int}{x:Int}(h0:0<=x)(h1:x<s.length):bj s x=some (jb s x):=by
 have aK:x.toNat<s.length:=by omega
 refine arS h0 ?_;unfold jb;simp[aK]
theorem Lu{s:List Int}(h:qt s=true){x:Int}(h0:0<=x)(h1:x<s.length):1<=jb s x/\jb s x<=6:=by
 have aK:x.toNat<s.length:=by omega
 unfold jb;simp only[gq aK,tW];have:=eU.1 h _ (Mq aK);simpa using this
theorem GW{n:Nat}{c:List Int}(h:ja n c=true):c.length<=3/\∀x∈c,0<=x/\x<n:=by
 unfold ja at h;simp only[cn,decide_eq_true_eq,eU]at h;exact⟨h.1,fun x hx=>h.2 x hx⟩
theorem GX{s c:List Int}(hs:qt s=true)(hc:ja s.length c=true):1<=wid s c/\wid s c<=216:=by
 obtain⟨h1,h2⟩:=GW hc
 have step:∀(a x:Int),0<=x/\x<s.length->1<=a->∀m:Int,a<=m->1<=a*jb s x/\a*jb s x<=m*6:=fun a x hx ha m hm=>by
  obtain⟨q1,q2⟩:=Lu hs hx.1 hx.2;constructor
  ·exact Int.le_trans (by omega) (Mr ha q1 (by omega) (by omega))
  ·exact Mr hm q2 (by omega) (by omega)
 unfold wid
 match c,h1,h2 with
 |[],_,_=>simp
 |[x],_,h=>have a:=step 1 x (h x (by simp)) (by omega) 1 (by omega);simp only[ot,DL];omega
 |[x,y],_,h=>
  have a:=step 1 x (h x (by simp)) (by omega) 1 (by omega);have b:=step _ y (h y (by simp)) a.1 _ a.2;simp only[ot,DL];omega
 |[x,y,z],_,h=>
  have a:=step 1 x (h x (by simp)) (by omega) 1 (by omega);have b:=step _ y (h y (by simp)) a.1 _ a.2;have d:=step _ z (h z (by simp)) b.1 _ b.2;simp only[ot,DL];omega
 | _::_::_::_::_,h,_=>simp at h
theorem RH (s c:ad Int)(hs:qt s.l=true)(hc:ja s.l.length c.l=true):uA s c=some (wid s.l c.l):=by
 obtain⟨h1,h2⟩:=GW hc;unfold uA
 have h:=RF (f:=JF s c) (fun k (a:Int) st=>st=(a,(k:Int))/\k<=3/\1<=a/\a<=6^k) (fun _ a x=>.inl (a*jb s.l x)) (fun a=>a) c.l (fun k a x st hx U=>by
  obtain⟨rfl,hk,ha⟩:=U;have aK:=(e0.1 hx).1;have dM:=h2 x (gV hx);obtain⟨q1,q2⟩:=Lu hs dM.1 dM.2;have hd:decide ((k:Int)<c.len)=true:=by simp[ew];exact aK
  have hb:1<=a*jb s.l x/\a*jb s.l x<=6^(k+1):=⟨Int.le_trans (by omega) (Mr ha.1 q1 (by omega) (by omega)),by
   rw[Int.pow_succ];exact Mr ha.2 q2 (by omega) (by have:(0:Int)<=6^k:=Int.pow_nonneg (by omega);omega)⟩
  have ac5:(6:Int)^(k+1)<=1296:=by
   have:k=0\/k=1\/k=2\/k=3:=by omega
   rcases this with rfl|rfl|rfl|rfl<;>decide
  refine⟨(a*jb s.l x,((k+1:Nat):Int)),?_,rfl,by omega,hb⟩;simp only[JF,hd,cond_true,dV,hx,bm,Lt dM.1 dM.2];rw[eY (by omega) (by omega),eY (by omega) (by omega)];rfl) (fun a st U=>by
  obtain⟨rfl,-⟩:=U;have hd:decide ((c.l.length:Int)<c.len)=false:=by simp[ew]
  simp only[JF,hd,cond_false]) (a:=1) (s:=(1,0)) ⟨rfl,by omega,by simp⟩
 rw[h,GV (g:=fun a x=>a*jb s.l x) (fun _ _ _=>rfl)];rfl
end Go.Abs.bs
namespace Go.Abs.bs
open Go Go.Abs
noncomputable section
def nu (s:List Int)(t:Table):Bool:=uS t.Name&&((decide (t.Kind>=0)&&decide (t.Kind<=5))&&(ja s.length t.bR.l&&Lr t))
def oX (ts:List Table)(k:Nat)(n:cf):Bool:=(ts.take k).any fun u=>u.Name==n
def rq (s:List Int)(ts:List Table)(k:Nat)(a:Int × Int)(t:Table):Sum (Int × Int) (Option (Int × Int)):=
 bif nu s t&&!(oX ts k t.Name)then
  (bif kq t then(bif t.dc==a.1 then .inl (a.1+wid s t.bR.l,a.2)else .inr none)else(bif t.dc==a.2 then .inl (a.1,a.2+wid s t.bR.l)else .inr none))
 else .inr none
def RI (s:List Int)(ts:List Table):Option (Int × Int):=jL (rq s ts) some 0 (0,0) ts
def l9 (s:List Int)(ts:List Table):Bool:=decide (s.length<=4)&&(decide (ts.length<=12)&&(qt s&&match RI s ts with
 |some (a,b)=>decide (a<=128)&&decide (b<=64)
 |none=>false))
theorem ac6{α A O ar0:Type}(Lv:O->ar0){step:Nat->A->α->Sum A O}{fin:A->O}:∀(l:List α) (k:Nat) (a:A),jL (fun k a x=>(step k a x).map id Lv) (fun a=>Lv (fin a)) k a l=Lv (jL step fin k a l)
 |[],_,_=>rfl
 |x::r,k,a=>by
  simp only[jL];cases step k a x with
  |inl a8=>exact ac6 Lv r (k+1) a8
  |inr o=>rfl
theorem ar1{ts:List Table}{k:Nat}{t:Table}(h:ts[k]? =some t)(n:cf):oX ts (k+1) n=(oX ts k n||t.Name==n):=by
 unfold oX;rw[Bi,h];simp
theorem GY{a b:cf}:(a==b)=(b==a):=by
 cases h:a==b with
 |true=>have:a=b:=by simpa using h
        subst this;exact h.symm
 |false=>cases h':b==a with
  |false=>rfl
  |true=>have:b=a:=by simpa using h'
         subst this;rw[h]at h';cases h'
def Lw:Option (Int × Int)->cz (Int × Int) Unit
 |some a=>.go (a.2,a.1)
 |none=>.ret ()
theorem ar2{s:ad Int}{ts:ad Table}(hs:qt s.l=true)(hl:ts.l.length<=12)(hc:∀t∈ts.l,b2 t.bR.l):
  bZ (CF s ts) (0,0,0,[])=some (Lw (RI s.l ts.l)):=by
 have h:=RF (f:=CF s ts) (fun k (a:Int × Int) st=>∃m,st=((k:Int),a.2,a.1,m)/\(0<=a.1/\a.1<=216*k/\0<=a.2/\a.2<=216*k)/\∀n,(ie m n).getD false=oX ts.l k n)
  (fun k a x=>(rq s.l ts.l k a x).map id Lw) (fun a=>Lw (some a)) ts.l (fun k a t st hx U=>by
  obtain⟨m,rfl,⟨al,a2,a3,a4⟩,hm⟩:=U;have aK:=(e0.1 hx).1;have eQ:=gV hx;have hd:decide ((k:Int)<ts.len)=true:=by simp[ew];exact aK
  have eP:∀a b c d e:Bool,CE (ad.mk [a,b,c,d,e])=some (a&&(b&&(c&&(d&&e)))):=fun a b c d e=>by
   rw[ac4 _ (by simp[b2])];simp
  have nc:∀n,(ie (lF m t.Name true) n).getD false=oX ts.l (k+1) n:=fun n=>by
   rw[Lq,ar1 hx,<-hm n];cases e:n==t.Name with
   |true=>rw[GY,e];simp
   |false=>rw[GY (a:=t.Name),e];simp
  have ae:CF s ts ((k:Int),a.2,a.1,m)=bif nu s.l t&&!(oX ts.l k t.Name)then
    (bif kq t then(bif t.dc==a.1 then((uA s t.bR).bind fun sk=>some (.next ((aM (k+1)),a.2,(aM (a.1+sk)),(lF m t.Name true))))else some (.out (.ret ())))
      else(bif t.dc==a.2 then((uA s t.bR).bind fun CH=>some (.next ((aM (k+1)),(aM (a.2+CH)),a.1,(lF m t.Name true))))else some (.out (.ret ()))))
    else some (.out (.ret ())):=by
   simp only[CF,hd,cond_true,dV,hx,bm,ac3,JG,arY s t.bR (hc t eQ),arZ,eP,Ls,hm]
   have e:(uS t.Name&&((!(oX ts.l k t.Name))&&((decide (t.Kind>=0)&&decide (t.Kind<=5))&&(ja s.l.length t.bR.l&&Lr t))))=(nu s.l t&&!(oX ts.l k t.Name)):=by
    unfold nu;cases uS t.Name<;>cases oX ts.l k t.Name<;>simp
   rw[e];cases nu s.l t&&!(oX ts.l k t.Name)with
   |false=>rfl
   |true=>
    cases kq t<;>simp only[cond_true,cond_false,bne]
    ·cases t.dc==a.2<;>rfl
    ·cases t.dc==a.1<;>rfl
  rw[ae];unfold rq;cases bh:nu s.l t&&!(oX ts.l k t.Name)with
  |false=>rfl
  |true=>
   have sx:ja s.l.length t.bR.l=true:=by
    simp only[cn]at bh;have:=bh.1;unfold nu at this;simp only[cn]at this;exact this.2.2.1
   have hw:=GX hs sx;have hk:(k:Int)<=12:=by omega
   rw[RH s t.bR hs sx];simp only[cond_true,bm];cases kq t with
   |true=>
    simp only[cond_true];cases t.dc==a.1 with
    |false=>rfl
    |true=>
     simp only[cond_true,Sum.map_inl,id];rw[eY (n:=(k:Int)+1) (by omega) (by omega),eY (n:=a.1+wid s.l t.bR.l) (by omega) (by omega)];exact⟨_,rfl,_,rfl,⟨by omega,by omega,a3,by omega⟩,nc⟩
   |false=>
    simp only[cond_false];cases t.dc==a.2 with
    |false=>rfl
    |true=>
     simp only[cond_true,Sum.map_inl,id];rw[eY (n:=(k:Int)+1) (by omega) (by omega),eY (n:=a.2+wid s.l t.bR.l) (by omega) (by omega)];exact⟨_,rfl,_,rfl,⟨al,by omega,by omega,by omega⟩,nc⟩) (fun a st U=>by
  obtain⟨m,rfl,-⟩:=U;have hd:decide ((ts.l.length:Int)<ts.len)=false:=by simp[ew]
  simp only[CF,hd,cond_false];rfl) (a:=(0,0)) (s:=(0,0,0,[])) ⟨[],rfl,by simp,fun n=>rfl⟩
 rw[h,ac6 Lw (fin:=some)];rfl
theorem RJ (s:ad Int)(ts:ad Table)(h1:b2 s.l)(h2:b2 ts.l)(hc:∀t∈ts.l,b2 t.bR.l):zZ s ts=some (l9 s.l ts.l):=by
 unfold zZ;rw[arX s h1];simp only[bm];rw[ac4 _ (by simp[b2])];have ab:decide (s.len<=4)=decide (s.l.length<=4):=decide_eq_decide.2 (by rw[ew];omega);have aj:decide (ts.len<=12)=decide (ts.l.length<=12):=decide_eq_decide.2 (by rw[ew];omega);simp only[bm,Mt,List.all_nil,id,Bk,ab,aj];unfold l9;cases gI:decide (s.l.length<=4)with
 |false=>rfl
 |true=>
  cases ht:decide (ts.l.length<=12)with
  |false=>rfl
  |true=>
   cases hs:qt s.l with
   |false=>rfl
   |true=>
    simp only[fF,cond_true];rw[ar2 hs (by simpa using ht) hc];simp only[bm];cases RI s.l ts.l with
    |none=>rfl
    |some a=>rfl
end
end Go.Abs.bs
namespace Go.Abs.bs
open Go Go.Abs
noncomputable section
end
end Go.Abs.bs
namespace Go.Abs.bs
open Go Go.Abs
noncomputable section
def gU (s:List Int)(ts:List Table)(b:Bool):List Range:=ts.flatMap fun t=>bif kq t==b then List.replicate (wid s t.bR.l).toNat t.Range else[]
theorem ac7{s:List Int}{ts:List Table}:∀(l:List Table) (k:Nat) (a p:Int × Int),jL (rq s ts) some k a l=some p->∀t∈l,nu s t=true
 |[],_,_,_,_,t,h=>by cases h
 |x::r,k,a,p,h,t,ht=>by
  simp only[jL]at h;cases b7:rq s ts k a x with
  |inr o=>
   rw[b7]at h
   have ho:o=none:=by
    unfold rq at b7;cases bg:nu s x&&!(oX ts k x.Name)<;>cases hb:kq x<;>cases hc:x.dc==a.1<;>cases hd:x.dc==a.2<;>rw[bg]at b7<;>simp only[hb,hc,hd,cond_true,cond_false]at b7<;>first|(cases b7;rfl)|cases b7
   rw[ho]at h;cases h
  |inl a8=>
   rw[b7]at h;rcases dp.1 ht with rfl|ht
   ·unfold rq at b7
    cases bh:nu s t&&!(oX ts k t.Name)with
    |false=>rw[bh]at b7;cases b7
    |true=>simp only[cn]at bh;exact bh.1
   ·exact ac7 r (k+1) a8 p h t ht
theorem GZ{s:List Int}{ts:List Table}(h:l9 s ts=true):s.length<=4/\ts.length<=12/\qt s=true/\∀t∈ts,nu s t=true:=by
 unfold l9 at h;simp only[cn,decide_eq_true_eq]at h;obtain⟨h1,h2,ar,aR⟩:=h;refine⟨h1,h2,ar,?_⟩;split at aR
 ·rename_i a b hr
  exact ac7 ts 0 (0,0) _ hr
 ·cases aR
theorem G0{s:List Int}{t:Table}(h:nu s t=true):ja s.length t.bR.l=true:=by
 unfold nu at h;simp only[cn]at h;exact h.2.2.1
theorem Dh{α:Type}{jJ:Nat}{x y:ad α}(hb:jJ+1<=1000)(h:x.l.length+y.l.length<=1000000000):∃z,gn jJ x y=some z/\z.l=x.l++y.l:=by
 unfold gn;split
 ·rename_i e;exact⟨x,rfl,by rw[e];simp⟩
 ·have:(x.l.length+y.l.length)*(jJ+1)<=2^40:=by
   have:(x.l.length+y.l.length)*(jJ+1)<=1000000000*1000:=HU h hb;omega
  rw[if_pos this];exact⟨_,rfl,rfl⟩
theorem ar3 (r:Range)(n:Int)(h:1<=n/\n<=1000):∃z,Fj (ad.mk [r]) n=some z/\z.l=List.replicate n.toNat r:=by
 refine⟨_,if_pos ⟨rfl,h⟩,?_⟩;show(List.replicate n.toNat [r]).flatten=_
 induction n.toNat with
 |zero=>rfl
 |succ n ih=>rw[DF,HO,ih,DF];rfl
theorem RL{s:List Int}(hs:qt s=true)(b:Bool):∀ts:List Table,(∀t∈ts,nu s t=true)->(gU s ts b).length<=216*ts.length
 |[],_=>by simp[gU]
 |t::ts,h=>by
  have ih:=RL hs b ts (fun u hu=>h u (by simp[hu]));have hw:=GX hs (G0 (h t (by simp)));unfold gU at ih⊢;rw[kd,fD,fl]
  have:(bif kq t==b then List.replicate (wid s t.bR.l).toNat t.Range else[]).length<=216:=by
   cases kq t==b<;>simp;omega
  omega
theorem Lx (s:List Int)(b:Bool){ts:List Table}{k:Nat}{t:Table}(h:ts[k]? =some t):gU s (ts.take (k+1)) b=gU s (ts.take k) b++(bif kq t==b then List.replicate (wid s t.bR.l).toNat t.Range else[]):=by
 unfold gU;rw[Bi,h];simp
theorem ar4{s:List Int}(hs:qt s=true)(b:Bool){ts:List Table}(h:∀t∈ts,nu s t=true)(hl:ts.length<=12)(k:Nat):(gU s (ts.take k) b).length<=2592:=by
 have:=RL hs b (ts.take k) (fun t ht=>h t (DC ht));have:(ts.take k).length<=12:=by rw[tV];omega
 omega
theorem RM (s:ad Int)(ts:ad Table)(b:Bool)(h1:b2 s.l)(h2:b2 ts.l)(hc:∀t∈ts.l,b2 t.bR.l):
  ∃x,CI s ts b=some x/\x.l=bif l9 s.l ts.l then gU s.l ts.l b else[]:=by
 unfold CI;rw[RJ s ts h1 h2 hc];simp only[bm];cases af:l9 s.l ts.l with
 |false=>exact⟨.nil,rfl,rfl⟩
 |true=>
  obtain⟨q1,q2,cd,c2⟩:=GZ af
  obtain⟨o,ab,aj⟩:=ac1 (f:=Fx s ts b) (fun k st=>∃a:ad Range,st=((k:Int),a)/\a.l=gU s.l (ts.l.take k) b) (fun o=>o.l=gU s.l ts.l b) ts.l (fun k t st hx U=>by
   obtain⟨a,rfl,ha⟩:=U;have aK:=(e0.1 hx).1;have eQ:=gV hx;have hd:decide ((k:Int)<ts.len)=true:=by simp[ew];exact aK
   have sx:=G0 (c2 t eQ);have hw:=GX cd sx;have lS:=ar4 cd b c2 q2 k;cases hb:kq t==b with
   |false=>
    refine⟨(((k+1:Nat):Int),a),?_,a,rfl,?_⟩
    ·simp only[Fx,hd,cond_true,dV,hx,bm,Ls,hb,cond_false]
     rw[eY (by omega) (by omega)];rfl
    ·rw[Lx s.l b hx,hb,ha];simp
   |true=>
    obtain⟨z,nN,el⟩:=ar3 t.Range (wid s.l t.bR.l) (by omega);obtain⟨y,pe,AA⟩:=Dh (jJ:=16) (x:=a) (y:=z) (by omega) (by rw[ha,el,Bf];omega);refine⟨(((k+1:Nat):Int),y),?_,y,rfl,?_⟩
    ·simp only[Fx,hd,cond_true,dV,hx,bm,Ls,hb,RH s t.bR cd sx,nN,pe]
     rw[eY (by omega) (by omega)];rfl
    ·rw[Lx s.l b hx,hb,AA,ha,el];rfl) (fun st U=>by
   obtain⟨a,rfl,ha⟩:=U;have hd:decide ((ts.l.length:Int)<ts.len)=false:=by simp[ew]
   refine⟨a,by simp only[Fx,hd,cond_false],?_⟩;rw[ha,DJ]) (s:=(0,.nil)) ⟨.nil,rfl,rfl⟩
  exact⟨o,by simp only[cond_true];rw[ab];rfl,aj⟩
end
end Go.Abs.bs
namespace Go.Abs.bs
open Go Go.Abs
noncomputable section
def uT (n m:Int):Bool:=decide (n>=-m)&&decide (n<=m)
theorem Ly (n m:Int)(h:0<=m/\m<=1000000000):z1 n m=some (uT n m):=by
 unfold z1 uT;rw[eY (by omega) (by omega)];simp
def Di (n:Int)(xs:List Term)(k:Nat)(t:Term):Bool:=!(decide (t.Cell<=mK Term.Cell xs k))&&(!(decide (t.Cell>=n))&&(!(t.dA==0)&&uT t.dA 1000))
def AY (n:Int)(r:Row):Bool:=allI (Di n r.cC.l) r.cC.l&&uT r.ni 1000000000
theorem gF{α:Type}{x:ad α}{k:Nat}(h:k<x.l.length):decide ((k:Int)<x.len)=true:=by rw[ew];simp;exact h
theorem hv{α:Type}{x:ad α}:decide ((x.l.length:Int)<x.len)=false:=by rw[ew];simp
theorem eT{k:Nat}(h:k<4611686018427387904):aM ((k:Int)+1)=((k+1:Nat):Int):=by rw[eY (by omega) (by omega)];rfl
theorem ar5{k:Nat}(h:k<4611686018427387904):aM (((k+1:Nat):Int)-1)=(k:Int):=by
 rw[eY (by omega) (by omega)];omega
theorem fM{α:Type}{l:List α}{k:Nat}{x:α}(h:l[k]? =some x):k<l.length:=(e0.1 h).1
theorem ac8 (j:dR)(r:Row)(h:b2 r.cC.l):FA j r=some (AY j.strict.len r):=by
 unfold FA
 rw[AW (f:=Fz j r) (fun k s=>s=(mK Term.Cell r.cC.l k,(k:Int))) (Di j.strict.len r.cC.l) r.cC.l (fun k x s hx bk _=>by
  subst bk;have aK:=fM hx
  have ae:Fz j r (mK Term.Cell r.cC.l k,(k:Int))=bif Di j.strict.len r.cC.l k x then some (.next (x.Cell,aM ((k:Int)+1)))else some (.out (.ret ())):=by
   simp only[Fz,gF aK,cond_true,dV,hx,bm,Ly x.dA 1000 (by omega)];unfold Di;cases decide (x.Cell<=mK Term.Cell r.cC.l k)with
   |true=>rfl
   |false=>
    cases decide (x.Cell>=j.strict.len)with
    |true=>rfl
    |false=>
     cases x.dA==0 with
     |true=>rfl
     |false=>cases uT x.dA 1000<;>rfl
  rw[ae];constructor
  ·intro bh
   rw[bh,eT (by unfold b2 at h;omega)];exact⟨_,rfl,by rw[Lp Term.Cell hx]⟩
  ·intro bh;rw[bh];rfl) (fun s bk=>by subst bk;simp only[Fz,hv,cond_false]) (s:=(-1,0)) rfl]
 unfold AY;cases allI (Di j.strict.len r.cC.l) r.cC.l with
 |false=>rfl
 |true=>
  simp only[cond_true,bm,fF];rw[Ly _ _ (by omega)];rfl
def G1 (ye:List cf)(k:Nat)(x:cf):Bool:=uS x&&!((ye.take k).any fun y=>y==x)
def G2 (ye:List cf):Bool:=allI (G1 ye) ye
theorem ar6{ye:List cf}{k:Nat}{x:cf}(h:ye[k]? =some x)(n:cf):(ye.take (k+1)).any (fun y=>y==n)=((ye.take k).any (fun y=>y==n)||x==n):=by
 rw[Bi,h];simp
theorem ac9 (a:ad cf)(h:b2 a.l):Fw a=some (G2 a.l):=by
 unfold Fw
 rw[AW (f:=Fv a) (fun k s=>∃m,s=((k:Int),m)/\∀n,(ie m n).getD false=(a.l.take k).any fun y=>y==n) (G1 a.l) a.l (fun k x s hx bk _=>by
  obtain⟨m,rfl,hm⟩:=bk;have aK:=fM hx
  have ae:Fv a ((k:Int),m)=bif G1 a.l k x then some (.next ((aM ((k:Int)+1)),lF m x true))else some (.out (.ret ())):=by
   simp only[Fv,gF aK,cond_true,dV,hx,bm,ac3,hm];unfold G1;cases uS x with
   |false=>rfl
   |true=>cases(a.l.take k).any fun y=>y==x<;>rfl
  rw[ae];constructor
  ·intro bh
   rw[bh,eT (by unfold b2 at h;omega)];refine⟨_,rfl,_,rfl,fun n=> ?_⟩;rw[Lq,ar6 hx,<-hm n];cases e:n==x with
   |true=>rw[GY,e];simp
   |false=>rw[GY (a:=x),e];simp
  ·intro bh;rw[bh];rfl) (fun s bk=>by obtain⟨m,rfl,-⟩:=bk;simp only[Fv,hv,cond_false]) (s:=(0,[])) ⟨[],rfl,fun n=>rfl⟩]
 unfold G2;cases allI (G1 a.l) a.l<;>rfl
theorem ar7 (a:ad cf)(x:cf)(h:b2 a.l):P1 a x=some (a.l.any fun y=>y==x):=by
 unfold P1
 rw[rp (f:=Kf a x) a.l h (fun y=>y==x) (fun k y hy=>by
  simp only[Kf,gF (fM hy),cond_true,dV,hy,bm];cases y==x<;>rfl) (by simp only[Kf,hv,cond_false])]
 cases a.l.any fun y=>y==x<;>rfl
end
end Go.Abs.bs
namespace Go.Abs.bs
open Go Go.Abs
noncomputable section
def Lz (a b:ad Term):Bool:=(CJ a b).getD false
theorem ar8 (a b:ad Term)(h:b2 a.l):CJ a b=some (Lz a b):=by
 have:∃r,CJ a b=some r:=by
  unfold CJ;cases hl:a.len != b.len with
  |true=>exact⟨false,rfl⟩
  |false=>
   have mj:a.l.length=b.l.length:=by
    rw[ew,ew]at hl;simp at hl;omega
   obtain⟨o,ab,-⟩:=GU (f:=JO a b) (fun k s=>s=(k:Int)) (fun _=>True) a.l (fun k x s hx bk=>by
    subst bk;have aK:=fM hx;have hy:b.l[k]? =some b.l[k]:=by simp[<-mj,aK]
    simp only[JO,gF aK,cond_true,dV,hx,hy,bm];cases(x.Cell==b.l[k].Cell&&(x.dA==b.l[k].dA&&true))with
    |true=>exact .inl ⟨_,rfl,eT (by unfold b2 at h;omega)⟩
    |false=>exact .inr ⟨_,rfl,trivial⟩) (fun s bk=>by subst bk;exact⟨.go (),by simp only[JO,hv,cond_false],trivial⟩) (s:=0) rfl
   simp only[cond_false,ab,bm];cases o<;>exact⟨_,rfl⟩
 obtain⟨r,e⟩:=this;unfold Lz;rw[e];rfl
def Dj (r:Row)(c f b:Int):Bool:=(r.ni==b)&&Lz r.cC (ad.mk [Term.mk c f])
theorem ar9 (r:Row)(c f b:Int)(h:b2 r.cC.l):JP r c f b=some (Dj r c f b):=by
 unfold JP Dj;rw[ar8 _ _ h];simp only[bm];cases Lz r.cC (ad.mk [Term.mk c f])<;>cases r.ni==b<;>rfl
def LA (s:List Int)(c:Constraint)(t:Table):Bool:=(t.Kind==0)&&((t.bR.l.length==2)&&((t.bR.l.getD 0 0==t.bR.l.getD 1 0)&&((t.dc==c.dc)&&(jb s (t.bR.l.getD 0 0)==c.fL))))
def LB (s:List Int)(ts:List Table)(c:Constraint):Bool:=(c.Row.cC.l.length==0)&&((c.Row.ni==0)&&ts.any (LA s c))
theorem asa{l:List Int}(h:l.length=2):∃a b,l=[a,b]:=by
 match l,h with
 |[a,b],_=>exact⟨a,b,rfl⟩
theorem LC{α:Type}(x:ad α)(n:Nat):((x.len:Int)==(n:Int))=(x.l.length==n):=by
 rw[ew];cases h:x.l.length==n with
 |true=>have:x.l.length=n:=by simpa using h
        rw[this];simp
 |false=>have:x.l.length≠n:=by simpa using h
         simp;omega
theorem asb{s:ad Int}(c:Constraint)(t:Table)(hc:ja s.l.length t.bR.l=true):
  (((bif (t.Kind==0)then(bif (t.bR.len==2)then((bj t.bR.l 0).bind fun oP=>((bj t.bR.l 1).bind fun sn=>(bif (oP==sn)then(bif (t.dc==c.dc)then((bj t.bR.l 0).bind fun z6=>((bj s.l z6).bind fun hh=>some (hh==c.fL)))else some false)else some false)))else some false)else some false):Option (Bool)))=some (LA s.l c t):=by
 unfold LA;cases t.Kind==0 with
 |false=>rfl
 |true=>
  have:(t.bR.len==2)=(t.bR.l.length==2):=LC t.bR 2;rw[this];cases h2:t.bR.l.length==2 with
  |false=>rfl
  |true=>
   obtain⟨a,b,e⟩:=asa (by simpa using h2);have hi:=(GW hc).2;rw[e]at hi⊢;have ha:=hi a (by simp);have i0:bj [a,b] 0=some a:=dV [a,b] 0;have i1:bj [a,b] 1=some b:=dV [a,b] 1;simp only[i0,i1,bm,Lt ha.1 ha.2,cond_true,fF];simp only[List.getD_cons_zero,List.getD_cons_succ];cases a==b with
   |false=>rfl
   |true=>cases t.dc==c.dc<;>rfl
theorem asc (xs:ad Table)(h:b2 xs.l){f:Table->Option Bool}{p:Table->Bool}(ae:∀x∈xs.l,f x=some (p x)):PK xs f=some (xs.l.any p):=AX xs h ae
theorem asd (j:dR)(c:Constraint)(h:b2 j.Model.Tables.l)(hc:∀t∈j.Model.Tables.l,ja j.Model.bE.l.length t.bR.l=true):JN j c=some (LB j.Model.bE.l j.Model.Tables.l c):=by
 unfold JN
 rw[asc j.Model.Tables h (f:=fun z0=>JL c j z0) (p:=LA j.Model.bE.l c) (fun t ht=>by
  unfold JL;rw[asb c t (hc t ht)];rfl)]
 have e:(c.Row.cC.len==0)=(c.Row.cC.l.length==0):=LC c.Row.cC 0;rw[e];unfold LB;cases c.Row.cC.l.length==0 with
 |false=>rfl
 |true=>cases c.Row.ni==0<;>rfl
def ada (rs:List Range)(i:Nat)(c:Constraint):Bool:=match rs[i/2]? with
 |some r=>bif i%2==0 then Dj c.Row ((i/2:Nat):Int) (-1) (aM (0-r.lb))else Dj c.Row ((i/2:Nat):Int) 1 r.lf
 |none=>true
def LD (F:Int)(c:Constraint):Bool:=decide (c.zS>=0)&&decide (c.zS<F)
def Dk (s:List Int)(ts:List Table)(rs:List Range)(F:Int)(i:Nat)(c:Constraint):Bool:=
 LD F c&&((bif c.Kind==0 then(c.dc==0)&&((c.fL==0)&&AY rs.length c.Row)else(c.Kind==1)&&LB s ts c)&&(bif decide (i/2<rs.length)then(c.Kind==0)&&ada rs i c else true))
def G3 (s:List Int)(ts:List Table)(rs:List Range)(F:Int)(cs:List Constraint):Bool:=
 decide (cs.length<=512)&&(decide (2*rs.length<=cs.length)&&allI (Dk s ts rs F) cs)
theorem ase{k:Nat}(h:k<4611686018427387904):aM ((k:Int).tdiv 2)=((k/2:Nat):Int):=by
 have e:((k:Int).tdiv 2)=((k/2:Nat):Int):=by
  rw[Int.tdiv_eq_ediv_of_nonneg (by omega)];omega
 rw[e,eY (by omega) (by omega)]
theorem asf (k:Nat):(((k:Int).tmod 2)==0)=(k%2==0):=by
 have e:((k:Int).tmod 2)=((k%2:Nat):Int):=by
  rw[Int.tmod_eq_emod_of_nonneg (by omega)];omega
 rw[e];have:k%2=0\/k%2=1:=by omega
 rcases this with h|h<;>rw[h]<;>rfl
theorem asg (j:dR)(h:b2 j.Model.dO.l)(hr:j.strict.l.length<=100000)(ht:b2 j.Model.Tables.l)(hc:∀t∈j.Model.Tables.l,ja j.Model.bE.l.length t.bR.l=true)(hT:∀c∈j.Model.dO.l,b2 c.Row.cC.l):
  JQ j=some (G3 j.Model.bE.l j.Model.Tables.l j.strict.l j.Model.fR.len j.Model.dO.l):=by
 unfold JQ G3;have ab:decide (j.Model.dO.len>512)=!decide (j.Model.dO.l.length<=512):=by rw[ew];by_cases q:j.Model.dO.l.length<=512<;>simp[q]<;>omega
 have aj:decide (j.Model.dO.len<aM (2*j.strict.len))=!decide (2*j.strict.l.length<=j.Model.dO.l.length):=by
  rw[ew,ew,eY (by omega) (by omega)];by_cases q:2*j.strict.l.length<=j.Model.dO.l.length<;>simp[q]<;>omega
 rw[ab,aj];cases decide (j.Model.dO.l.length<=512)with
 |false=>rfl
 |true=>
  cases decide (2*j.strict.l.length<=j.Model.dO.l.length)with
  |false=>rfl
  |true=>
   simp only[iN,Bool.or_self,cond_false,fF]
   rw[AW (f:=FC j) (fun k s=>s=(k:Int)) (Dk j.Model.bE.l j.Model.Tables.l j.strict.l j.Model.fR.len) j.Model.dO.l (fun k c s hx bk _=>by
    subst bk;have aK:=fM hx;have eQ:=gV hx;have hk:k<4611686018427387904:=by unfold b2 at h;omega
    have ae:FC j (k:Int)=bif Dk j.Model.bE.l j.Model.Tables.l j.strict.l j.Model.fR.len k c then some (.next (aM ((k:Int)+1)))else some (.out (.ret ())):=by
     simp only[FC,gF aK,cond_true,dV,hx,bm,nn,ac8 j c.Row (hT c eQ),asd j c ht hc,ase hk,asf,ar9 _ _ _ _ (hT c eQ)];unfold Dk;show _=bif LD _ c&&_ then _ else _;have ash:(decide (c.zS>=0)&&decide (c.zS<j.Model.fR.len))=LD j.Model.fR.len c:=rfl;rw[ash];cases LD j.Model.fR.len c with
     |false=>rfl
     |true=>
      have hd:decide (((k/2:Nat):Int)<j.strict.len)=decide (k/2<j.strict.l.length):=by
       rw[ew];exact decide_eq_decide.2 (by omega)
      rw[hd];have hlen:j.strict.len=(j.strict.l.length:Int):=rfl;rw[hlen];cases rY:c.Kind==0 with
      |false=>
       simp only[cond_true,cond_false,fF,bne,rY,xc];cases gx:c.Kind==1 with
       |false=>simp
       |true=>
        cases LB j.Model.bE.l j.Model.Tables.l c with
        |false=>rfl
        |true=>
         simp only[iN,cond_false,bm,fF];cases bg:decide (k/2<j.strict.l.length)with
         |false=>rfl
         |true=>
          have RN:k/2<j.strict.l.length:=by simpa using bg
          have hy:j.strict.l[k/2]? =some j.strict.l[k/2]:=by simp[RN]
          simp only[cond_true,hy,bm,Ms,cond_false];cases k%2==0<;>simp
      |true=>
       simp only[cond_true,fF,bne,rY,iN,cond_false];cases c.dc==0 with
       |false=>simp
       |true=>
        cases c.fL==0 with
        |false=>simp
        |true=>
         cases AY (j.strict.l.length:Int) c.Row with
         |false=>rfl
         |true=>
          simp only[iN,cond_false,bm,fF];cases bg:decide (k/2<j.strict.l.length)with
          |false=>rfl
          |true=>
           have RN:k/2<j.strict.l.length:=by simpa using bg
           have hy:j.strict.l[k/2]? =some j.strict.l[k/2]:=by simp[RN]
           unfold ada;simp only[cond_true,hy,bm];cases k%2==0 with
           |true=>
            simp only[cond_true,bm];cases Dj c.Row ((k/2:Nat):Int) (-1) (aM (0-j.strict.l[k/2].lb))<;>rfl
           |false=>
            simp only[cond_false,bm];cases Dj c.Row ((k/2:Nat):Int) 1 j.strict.l[k/2].lf<;>rfl
    rw[ae];constructor
    ·intro bh
     rw[bh,eT hk];exact⟨_,rfl,rfl⟩
    ·intro bh;rw[bh];rfl) (fun s bk=>by subst bk;simp only[FC,hv,cond_false]) (s:=0) rfl]
   cases allI (Dk j.Model.bE.l j.Model.Tables.l j.strict.l j.Model.fR.len) j.Model.dO.l<;>rfl
theorem adb{s:List Int}{ts:List Table}(af:l9 s ts=true)(b:Bool):(gU s ts b).length<=2592:=by
 obtain⟨q1,q2,cd,c2⟩:=GZ af;have:=RL cd b ts c2;omega
end
end Go.Abs.bs
