/- Texts of this claim, joined and written short by a program. -/
import Derived.Test.YtgkcikhegodchaaGreatDoorP21
import Derived.Test.YtgkcikhegodchaaGreatDoorP28
import Derived.Test.YtgkcikhegodchaaGreatDoorP29
import Derived.Test.YtgkcikhegodchaaGreatDoorP22
import Derived.Test.YtgkcikhegodchaaGreatDoorP00
set_option linter.unusedVariables false
set_option linter.unusedSimpArgs false
set_option linter.unusedSectionVars false
set_option maxHeartbeats 2000000
namespace Go.Abs.bA
open Go Go.Abs
noncomputable section
abbrev kn (j:eh):List V:=[aV 1 ao j.Model.aA,aV 6 jW j.Model.Tables,aV 1 V.str j.Model.eg,aV 6 rL j.Model.di,aV 3 rM j.Model.Operations,aV 5 rN j.Model.Actions,aV 3 iv j.Model.aW,aV 2 rJ j.strict]
def BO (ab:eh):(Int)->Option (cH (Int) (bO (Unit) (Unit))):=fun i12=>(bif (decide (i12<ab.Model.aW.len))then((aO ab.Model.aW.l i12).bind fun dx=>((((nc dx.Table ab.Model.Tables.len).bind fun mm=>(bif mm then((nc dx.bS ab.Model.Tables.len).bind fun nG=>(bif nG then some (dx.Table==dx.bS)else some true))else some true)):Option (Bool)).bind fun w5=>(bif w5 then some (.out (.ret ()))else((aO ab.Model.Tables.l dx.Table).bind fun gK=>((aO ab.Model.Tables.l dx.bS).bind fun gC=>(((bif (gK.Kind != 0)then some true else(bif (gC.Kind != 0)then some true else((nc dx.dK gK.aZ.len).bind fun sW=>(bif sW then(bif (gC.aZ.len != 1)then some true else((aO gC.aZ.l 0).bind fun sX=>((aO gK.aZ.l dx.dK).bind fun sY=>some (sX != sY))))else some true)))):Option (Bool)).bind fun GL=>(bif GL then some (.out (.ret ()))else some (.next (aL (i12+1))))))))))else some (.out (.go ())))
def BP (ab:eh):(Int × (List (Int × Bool)))->Option (cH (Int × (List (Int × Bool))) ((List (Int × Bool)))):=fun⟨i90,i91⟩=>(bif (decide (i90<ab.Model.aW.len))then((aO ab.Model.aW.l i90).bind fun lY=>some (.next ((aL (i90+1)),(ly i91 lY.Table true))))else some (.out i91))
def MG (ab:eh):Option Bool:=bif (decide (ab.Model.aW.len>12))then some false else((bW (BO ab) 0:Option (bO Unit Unit)).bind fun o=>match o with| .go _=>some true| .ret _=>some false)
def yZ:cF->cF| .seq a _=>a|c=>c
def l0:cF->cF| .seq _ a=>a|c=>c
def hA (k:Nat):cF:=match k with
 |1=>yZ BL.body
 |2=>yZ (l0 BL.body)
 |3=>yZ (l0 (l0 BL.body))
 |4=>yZ (l0 (l0 (l0 BL.body)))
 |5=>yZ (l0 (l0 (l0 (l0 BL.body))))
 |6=>yZ (l0 (l0 (l0 (l0 (l0 BL.body)))))
 | _=>l0 (l0 (l0 (l0 (l0 (l0 BL.body)))))
section
variable{aa:Nat->Option cc}{b:Nat}{σ:bY}{H H0:Heap}
theorem atn (SV:My aa)(ab:eh){r:Bool}(h:MG ab=some r):
  fj aa b (.seq (hA 1) (.seq (hA 2) (hA 3))) (vb 0 ([.agg (kn ab)]++[])) H0 fun x aT H'=>match(generalizing:=false) r with
   |false=>x=.ret/\At aT [2] [.bool false]
   |true=>x=.normal/\∃ak,b<=ak/\At aT [1] [.ptr ak 0]/\Own H' [[(ak,.cells (kn ab))]]:=by
 unfold MG at h;refine eL <| F4 (cs:=(kn ab)) rfl (Own.nil H0) rfl (by simp[bM]) fun oq ak nW xr=>pp (.bool false) <| cZ <| gW <| eL <| pp (.ptr ak 0) <| pp (.ptr ak 6) <| ph (aV 3 iv ab.Model.aW) (fo rfl (xr.get 0 rfl) rfl) <| ph (ao ab.Model.aW.len) (od rfl _) <| pp (.bool (decide (ab.Model.aW.len>12))) <| cZ <| ?_
 rcases nD h with⟨il,h⟩|⟨il,h⟩
 ·refine p4 rfl il <| eL <| pp (.bool false) <| cZ <| sT <| ?_
  cases h;exact⟨rfl,rfl⟩
 ·refine nB rfl il <| nA <| eL <| pp (.ptr ak 0) <| pp (.ptr ak 6) <| ph (aV 3 iv ab.Model.aW) (fo rfl (xr.get 0 rfl) rfl) <| ph (ao ab.Model.aW.len) (od rfl _) <| pp (ao 0) <| cZ <| p6 <| ?_
  obtain⟨ue,ato,h⟩:=bind_some h;refine cy (BO ab) (fun s aT H'=>At aT [1,18,19,20] [.ptr ak 0,aV 3 iv ab.Model.aW,ao ab.Model.aW.len,ao s]/\Own H' ([(ak,.cells (kn ab))]::[])) (fun o=>fun e1 aT H'=>match(generalizing:=false) o with| .go s=>e1=(.exit 0)/\At aT [1] [.ptr ak 0]/\Own H' ([(ak,.cells (kn ab))]::[])| .ret s=>e1=.ret/\At aT [2] [.bool false]/\Own H' []) ato ⟨rfl,xr⟩ ?_ ?_
  ·rintro i12 cM aBs r bp jZ
   dsimp only[BO]at jZ
   try dsimp only at bp
   obtain⟨H6,afc⟩:=bp;refine du H6 <| eL <| pp (.bool (decide (i12<ab.Model.aW.len))) <| cZ <| gW <| ?_
   rcases nD jZ with⟨SX,jZ⟩|⟨SX,jZ⟩
   ·refine p4 rfl SX <| nA <| gW <| p6 <| eL <| ?_
    obtain⟨dx,atp,jZ⟩:=bind_some jZ;refine ph (.dz (aI (iv dx)) 0) (p7 rfl rfl atp _) <| pp (.agg [ao dx.Table,ao dx.dK,ao dx.bS]) <| u7 rfl afc fun aBt vt atq atr=>u9 (vs:=[ao dx.Table,ao dx.dK,ao dx.bS]) (cs':=[ao dx.Table,ao dx.dK,ao dx.bS]) rfl atr 0 rfl atq rfl rfl ⟨rfl,j1 rfl⟩ (by simp[bM]) rfl fun aBu xt=>cZ <| gW <| gW <| ?_
    obtain⟨w5,r4,jZ⟩:=bind_some jZ;refine Qu (fun e1 aT H'=>(fun s=>e1=.normal/\At aT [1,4,18,19,20,48] [.ptr ak 0,.ptr vt 0,aV 3 iv ab.Model.aW,ao ab.Model.aW.len,ao i12,.bool s]/\Own H' ([(vt,.cells [ao dx.Table,ao dx.dK,ao dx.bS])]::[(ak,.cells (kn ab))]::[])) w5) ?_ ?_
    ·refine lR <| pp (.ptr vt 0) <| ph (ao dx.Table) (fo rfl (xt.get 0 rfl) rfl) <| pp (.ptr ak 0) <| pp (.ptr ak 1) <| ph (aV 6 jW ab.Model.Tables) (fo rfl (xt.get 1 rfl) rfl) <| ph (ao ab.Model.Tables.len) (od rfl _) <| ?_
     obtain⟨mm,ats,r4⟩:=bind_some r4;refine ph (.bool mm) (va (SV _ _ _ _ ats) (o9 (by simp[cj,bx])) rfl rfl) <| pp (.bool (!mm)) <| pp (.bool (!mm)) <| ?_
     rcases nD r4 with⟨nj,r4⟩|⟨nj,r4⟩
     ·refine iu (.ptr vt 2) (lS nj) <| hF (v:=(ao dx.bS)) (h3 rfl (lS nj)) (fo rfl (xt.get 0 rfl) rfl) <| iu (.ptr ak 0) (lS nj) <| iu (.ptr ak 1) (lS nj) <| hF (v:=(aV 6 jW ab.Model.Tables)) (h3 rfl (lS nj)) (fo rfl (xt.get 1 rfl) rfl) <| hF (v:=(ao ab.Model.Tables.len)) (h3 rfl (lS nj)) (od rfl _) <| ?_
      obtain⟨nG,att,r4⟩:=bind_some r4;refine hF (v:=(.bool nG)) (h3 rfl (lS nj)) (va (SV _ _ _ _ att) (o9 (by simp[cj,bx])) rfl rfl) <| iu (.bool (!nG)) (lS nj) <| ph (.bool (!nG)) (wZ rfl (lS nj)) <| pp (.bool (!nG)) <| ?_
      rcases nD r4 with⟨r5,r4⟩|⟨r5,r4⟩
      ·refine iu (.ptr vt 0) (lS r5) <| hF (v:=(ao dx.Table)) (h3 rfl (lS r5)) (fo rfl (xt.get 0 rfl) rfl) <| iu (.ptr vt 2) (lS r5) <| hF (v:=(ao dx.bS)) (h3 rfl (lS r5)) (fo rfl (xt.get 0 rfl) rfl) <| iu (.bool (dx.Table==dx.bS)) (lS r5) <| ph (.bool (dx.Table==dx.bS)) (wZ rfl (lS r5)) <| cZ <| ?_
       cases r4;exact⟨rfl,rfl,xt⟩
      ·refine cI (lT r5) <| cI (lT r5) <| cI (lT r5) <| cI (lT r5) <| cI (lT r5) <| ph (.bool true) (qV rfl (lT r5)) <| cZ <| ?_
       cases r4;exact⟨rfl,rfl,xt⟩
     ·refine cI (lT nj) <| cI (lT nj) <| cI (lT nj) <| cI (lT nj) <| cI (lT nj) <| cI (lT nj) <| cI (lT nj) <| cI (lT nj) <| ph (.bool true) (qV rfl (lT nj)) <| pp (.bool true) <| cI rfl <| cI rfl <| cI rfl <| cI rfl <| cI rfl <| ph (.bool true) (qV rfl rfl) <| cZ <| ?_
      cases r4;exact⟨rfl,rfl,xt⟩
    ·intro bs cM aBv o8
     try dsimp only at jZ o8
     obtain⟨rfl,atu,SY⟩:=o8;refine du atu <| ?_
     rcases nD jZ with⟨SZ,jZ⟩|⟨SZ,jZ⟩
     ·refine p4 rfl SZ <| eL <| pp (.bool false) <| cZ <| sT <| ?_
      cases jZ;exact⟨nofun,⟨rfl,rfl,((SY.drop 0).drop 0)⟩⟩
     ·refine nB rfl SZ <| nA <| gW <| ?_
      obtain⟨gK,atv,jZ⟩:=bind_some jZ;obtain⟨gC,atw,jZ⟩:=bind_some jZ;refine acC 14 SY rfl (.pp (.ptr ak 0) <| .pp (.ptr ak 1) <| .ph (aV 6 jW ab.Model.Tables) (fun _ xu=>(fo rfl (xu.get 1 rfl) rfl)) <| .pp (.ptr vt 0) <| .ph (ao dx.Table) (fun _ xu=>(fo rfl (xu.get 0 rfl) rfl)) <| .ph (.dz (aI (jW gK)) 0) (fun _ xu=>(p7 rfl rfl atv _)) <| .pp (.agg [.str gK.Name,ao gK.Kind,aV 1 ao gK.aZ,ao gK.Range.fq,ao gK.Range.fr,ao gK.cz]) <| .pp (.ptr ak 0) <| .pp (.ptr ak 1) <| .ph (aV 6 jW ab.Model.Tables) (fun _ xu=>(fo rfl (xu.get 1 rfl) rfl)) <| .pp (.ptr vt 2) <| .ph (ao dx.bS) (fun _ xu=>(fo rfl (xu.get 0 rfl) rfl)) <| .ph (.dz (aI (jW gC)) 0) (fun _ xu=>(p7 rfl rfl atw _)) <| .pp (.agg [.str gC.Name,ao gC.Kind,aV 1 ao gC.aZ,ao gC.Range.fq,ao gC.Range.fr,ao gC.cz]) <| .nil) fun BQ=>u7 rfl SY fun aBw S0 S1 atx=>u7 rfl atx fun aBx S2 S3 aty=>u9 (vs:=[.str gK.Name,ao gK.Kind,aV 1 ao gK.aZ,ao gK.Range.fq,ao gK.Range.fr,ao gK.cz]) (cs':=[.str gK.Name,ao gK.Kind,aV 1 ao gK.aZ,ao gK.Range.fq,ao gK.Range.fr,ao gK.cz]) rfl aty 1 rfl S1 rfl rfl ⟨rfl,j1 rfl⟩ (by simp[bM]) rfl fun aBy atz=>u9 (vs:=[.str gC.Name,ao gC.Kind,aV 1 ao gC.aZ,ao gC.Range.fq,ao gC.Range.fr,ao gC.cz]) (cs':=[.str gC.Name,ao gC.Kind,aV 1 ao gC.aZ,ao gC.Range.fq,ao gC.Range.fr,ao gC.cz]) rfl atz 0 rfl S3 rfl rfl ⟨rfl,j1 rfl⟩ (by simp[bM]) rfl fun aBz r6=>cZ ⟨rfl,?_⟩;replace S3:=c4 BQ S3;replace S1:=c4 BQ S1;refine gW <| ?_
      obtain⟨GL,lb,jZ⟩:=bind_some jZ;refine Qu (fun e1 aT H'=>(fun s=>e1=.normal/\At aT [1,18,19,20,98] [.ptr ak 0,aV 3 iv ab.Model.aW,ao ab.Model.aW.len,ao i12,.bool s]/\Own H' ([(ak,.cells (kn ab))]::[])) GL) ?_ ?_
      ·refine Qn <| pp (.ptr S0 1) <| ph (ao gK.Kind) (fo rfl (r6.get 1 rfl) rfl) <| pp (.bool (gK.Kind != 0)) <| pp (.bool (gK.Kind != 0)) <| ?_
       rcases nD lb with⟨xv,lb⟩|⟨xv,lb⟩
       ·refine cI xv <| cI xv <| cI xv <| ph (.bool true) (qV rfl xv) <| pp (.bool true) <| cI rfl <| cI rfl <| cI rfl <| cI rfl <| cI rfl <| cI rfl <| cI rfl <| ph (.bool true) (qV rfl rfl) <| pp (.bool true) <| cI rfl <| cI rfl <| cI rfl <| cI rfl <| ph (.bool true) (qV rfl rfl) <| pp (.bool true) <| cI rfl <| cI rfl <| cI rfl <| cI rfl <| cI rfl <| cI rfl <| cI rfl <| cI rfl <| cI rfl <| cI rfl <| cI rfl <| ph (.bool true) (qV rfl rfl) <| cZ ⟨rfl,?_⟩
        cases lb;exact⟨rfl,rfl,(((r6.drop 0).drop 0).drop 0)⟩
       ·refine iu (.ptr S2 1) xv <| hF (v:=(ao gC.Kind)) (h3 rfl xv) (fo rfl (r6.get 0 rfl) rfl) <| iu (.bool (gC.Kind != 0)) xv <| ph (.bool (gC.Kind != 0)) (wZ rfl xv) <| pp (.bool (gC.Kind != 0)) <| ?_
        rcases nD lb with⟨ot,lb⟩|⟨ot,lb⟩
        ·refine cI ot <| cI ot <| cI ot <| cI ot <| cI ot <| cI ot <| cI ot <| ph (.bool true) (qV rfl ot) <| pp (.bool true) <| cI rfl <| cI rfl <| cI rfl <| cI rfl <| ph (.bool true) (qV rfl rfl) <| pp (.bool true) <| cI rfl <| cI rfl <| cI rfl <| cI rfl <| cI rfl <| cI rfl <| cI rfl <| cI rfl <| cI rfl <| cI rfl <| cI rfl <| ph (.bool true) (qV rfl rfl) <| cZ ⟨rfl,?_⟩
         cases lb;exact⟨rfl,rfl,(((r6.drop 0).drop 0).drop 0)⟩
        ·refine iu (.ptr vt 1) ot <| hF (v:=(ao dx.dK)) (h3 rfl ot) (fo rfl (r6.get 2 rfl) rfl) <| iu (.ptr S0 2) ot <| hF (v:=(aV 1 ao gK.aZ)) (h3 rfl ot) (fo rfl (r6.get 1 rfl) rfl) <| hF (v:=(ao gK.aZ.len)) (h3 rfl ot) (od rfl _) <| ?_
         obtain⟨sW,atA,lb⟩:=bind_some lb;refine hF (v:=(.bool sW)) (h3 rfl ot) (va (SV _ _ _ _ atA) (o9 (by simp[cj,bx])) rfl rfl) <| iu (.bool (!sW)) ot <| ph (.bool (!sW)) (wZ rfl ot) <| pp (.bool (!sW)) <| ?_
         rcases nD lb with⟨ux,lb⟩|⟨ux,lb⟩
         ·refine iu (.ptr S2 2) (lS ux) <| hF (v:=(aV 1 ao gC.aZ)) (h3 rfl (lS ux)) (fo rfl (r6.get 0 rfl) rfl) <| hF (v:=(ao gC.aZ.len)) (h3 rfl (lS ux)) (od rfl _) <| iu (.bool (gC.aZ.len != 1)) (lS ux) <| ph (.bool (gC.aZ.len != 1)) (wZ rfl (lS ux)) <| pp (.bool (gC.aZ.len != 1)) <| ?_
          rcases nD lb with⟨ko,lb⟩|⟨ko,lb⟩
          ·refine cI ko <| cI ko <| cI ko <| cI ko <| cI ko <| cI ko <| cI ko <| cI ko <| cI ko <| cI ko <| cI ko <| ph (.bool true) (qV rfl ko) <| cZ ⟨rfl,?_⟩
           cases lb;exact⟨rfl,rfl,(((r6.drop 0).drop 0).drop 0)⟩
          ·refine iu (.ptr S2 2) ko <| hF (v:=(aV 1 ao gC.aZ)) (h3 rfl ko) (fo rfl (r6.get 0 rfl) rfl) <| ?_
           obtain⟨sX,atB,lb⟩:=bind_some lb;refine hF (v:=(.dz (aI (ao sX)) 0)) (h3 rfl ko) (p7 rfl rfl atB _) <| iu (ao sX) ko <| iu (.ptr S0 2) ko <| hF (v:=(aV 1 ao gK.aZ)) (h3 rfl ko) (fo rfl (r6.get 1 rfl) rfl) <| iu (.ptr vt 1) ko <| hF (v:=(ao dx.dK)) (h3 rfl ko) (fo rfl (r6.get 2 rfl) rfl) <| ?_
           obtain⟨sY,atC,lb⟩:=bind_some lb;refine hF (v:=(.dz (aI (ao sY)) 0)) (h3 rfl ko) (p7 rfl rfl atC _) <| iu (ao sY) ko <| iu (.bool (sX != sY)) ko <| ph (.bool (sX != sY)) (wZ rfl ko) <| cZ ⟨rfl,?_⟩
           cases lb;exact⟨rfl,rfl,(((r6.drop 0).drop 0).drop 0)⟩
         ·refine cI (lT ux) <| cI (lT ux) <| cI (lT ux) <| cI (lT ux) <| ph (.bool true) (qV rfl (lT ux)) <| pp (.bool true) <| cI rfl <| cI rfl <| cI rfl <| cI rfl <| cI rfl <| cI rfl <| cI rfl <| cI rfl <| cI rfl <| cI rfl <| cI rfl <| ph (.bool true) (qV rfl rfl) <| cZ ⟨rfl,?_⟩
          cases lb;exact⟨rfl,rfl,(((r6.drop 0).drop 0).drop 0)⟩
      ·intro bs cM aBA o8
       try dsimp only at jZ o8
       obtain⟨rfl,atD,afd⟩:=o8;refine du atD <| ?_
       rcases nD jZ with⟨S4,jZ⟩|⟨S4,jZ⟩
       ·refine p4 rfl S4 <| eL <| pp (.bool false) <| cZ <| sT <| ?_
        cases jZ;exact⟨nofun,⟨rfl,rfl,(afd.drop 0)⟩⟩
       ·refine nB rfl S4 <| nA <| lR <| pp (ao (aL (i12+1))) <| pp (ao (aL (i12+1))) <| cZ <| ?_
        cases jZ;exact⟨rfl,⟨rfl,afd⟩⟩
   ·refine nB rfl SX <| wX <| ?_
    cases jZ;exact⟨nofun,⟨rfl,rfl,afc⟩⟩
  ·intro bs cM aBB o8
   cases ue with
   |go aBC=>
    try dsimp only at h o8
    obtain⟨rfl,atE,atF⟩:=o8;cases h;exact⟨rfl,ak,nW,atE,atF⟩
   |ret q=>
    obtain⟨rfl,atG,av⟩:=o8;cases h;exact⟨rfl,atG⟩
theorem atH (ab:eh){ak:Nat}{m:List (Int × Bool)}(atI:At σ [1] [.ptr ak 0])(av:Own H [[(ak,.cells (kn ab))]])(h:bW (BP ab) (0,[])=some m):
  fj aa b (.seq (hA 4) (hA 5)) σ H fun x aT H'=>x=.normal/\∃fa l,b<=fa/\b<=l/\At aT [1,7] [.ptr ak 0,.ptr fa 0]/\Own H' [[(fa,.cells [.map l])],[(l,.map (gr ao V.bool m))],[(ak,.cells (kn ab))]]:=by
 rw[<-F8 atI];refine eL <| Qv rfl av fun aBD y0 afe atJ=>u7 rfl atJ fun aBE a77 aff atK=>u9 (vs:=[.map y0]) (cs':=[.map y0]) rfl atK 0 rfl aff rfl rfl ⟨rfl,j1 rfl⟩ (by simp[bM]) rfl fun aBF afg=>cZ <| eL <| pp (.ptr ak 0) <| pp (.ptr ak 6) <| ph (aV 3 iv ab.Model.aW) (fo rfl (afg.get 2 rfl) rfl) <| ph (ao ab.Model.aW.len) (od rfl _) <| pp (ao 0) <| cZ <| p6 <| ?_
 refine cy (BP ab) (fun s aT H'=>At aT [1,7,103,104,105] [.ptr ak 0,.ptr a77 0,aV 3 iv ab.Model.aW,ao ab.Model.aW.len,ao s.1]/\Own H' ([(a77,.cells [.map y0])]::[(y0,.map (gr ao V.bool s.2))]::[(ak,.cells (kn ab))]::[])) (fun o=>fun e1 aT H'=>e1=(.exit 2)/\At aT [1,7] [.ptr ak 0,.ptr a77 0]/\Own H' ([(a77,.cells [.map y0])]::[(y0,.map (gr ao V.bool o))]::[(ak,.cells (kn ab))]::[])) h ⟨rfl,afg⟩ ?_ ?_
 ·rintro⟨i90,i91⟩ cM aBG r bp y1
  dsimp only[BP]at y1
  try dsimp only at bp
  obtain⟨atL,afh⟩:=bp;refine du atL <| eL <| pp (.bool (decide (i90<ab.Model.aW.len))) <| cZ <| gW <| ?_
  rcases nD y1 with⟨S5,y1⟩|⟨S5,y1⟩
  ·refine p4 rfl S5 <| nA <| gW <| p6 <| eL <| ?_
   obtain⟨lY,atM,y1⟩:=bind_some y1;refine ph (.dz (aI (iv lY)) 0) (p7 rfl rfl atM _) <| pp (.agg [ao lY.Table,ao lY.dK,ao lY.bS]) <| u7 rfl afh fun aBH atN atO atP=>u9 (vs:=[ao lY.Table,ao lY.dK,ao lY.bS]) (cs':=[ao lY.Table,ao lY.dK,ao lY.bS]) rfl atP 0 rfl atO rfl rfl ⟨rfl,j1 rfl⟩ (by simp[bM]) rfl fun aBI S6=>cZ <| lR <| ph (.map y0) (fo rfl (S6.get 1 rfl) rfl) <| pp (.ptr atN 0) <| ph (ao lY.Table) (fo rfl (S6.get 0 rfl) rfl) <| QB (gJ:=ao) (gu:=V.bool) (m:=i91) (k:=lY.Table) (w:=true) rfl yv S6 2 rfl afe rfl rfl rfl (by simp) fun aBJ atQ=>cZ <| lR <| pp (ao (aL (i90+1))) <| pp (ao (aL (i90+1))) <| cZ <| ?_
   cases y1;exact⟨rfl,⟨rfl,(atQ.drop 0)⟩⟩
  ·refine nB rfl S5 <| wX <| ?_
   cases y1;exact⟨nofun,rfl,rfl,afh⟩
 ·intro bs cM aBK o8
  obtain⟨rfl,atS,atT⟩:=o8;exact⟨rfl,a77,y0,aff,afe,atS,atT⟩
theorem atU{fa l:Nat}{m:List (Int × Bool)}(j:At σ [7] [.ptr fa 0]){ms:cG}(av:Own H ([(fa,.cells [.map l])]::[(l,.map (gr ao V.bool m))]::ms)):
  fj aa b (hA 7) σ H fun x aT H'=>x=.ret/\At aT [2] [.bool (decide (m.length=0))]:=by
 rw[<-F8 j];refine eL <| ph (.map l) (fo rfl (av.get 0 rfl) rfl) <| ph (ao (m.length:Int)) (acx (gJ:=ao) (gu:=V.bool) (av.get 1 rfl) rfl) <| pp (.bool ((m.length:Int)==0)) <| pp (.bool ((m.length:Int)==0)) <| cZ <| sT <| ?_
 refine⟨rfl,?_⟩;have:((m.length:Int)==0)=decide (m.length=0):=by rw[EA];simp
 rw[<-this];rfl
theorem atV (uy:aa 92=some (.code D9)){ou fa l:Nat}{t:Int}{m:List (Int × Bool)}{ms:cG}(av:Own H ([(ou,.cells [ao t])]::[(fa,.cells [.map l])]::[(l,.map (gr ao V.bool m))]::ms))(h:fp):
  b9 aa (.fn 92 [] [.ptr ou 0,.ptr fa 0]) [.agg [ao h.Table,ao h.dK,ao h.bS]] H=some (.bool ((h.Table==t)&&(hI m h.bS).getD false),H,H.length):=by
 refine KT (caps:=[.ptr ou 0,.ptr fa 0]) uy (j1 rfl) rfl ?_ (by simp[bx,cj]);refine eL <| F4 (cs:=[ao h.Table,ao h.dK,ao h.bS]) rfl av rfl (by simp[bM]) fun oq a3 u4 l1=>pp (.bool false) <| cZ <| eL <| pp (.ptr a3 0) <| ph (ao h.Table) (fo rfl (l1.get 0 rfl) rfl) <| ph (ao t) (fo rfl (l1.get 1 rfl) rfl) <| pp (.bool (h.Table==t)) <| pp (.bool (h.Table==t)) <| ?_
 cases c:h.Table==t with
 |true=>
  refine hF (v:=.map l) (h3 rfl rfl) (fo rfl (l1.get 2 rfl) rfl) <| iu (.ptr a3 2) rfl <| hF (v:=ao h.bS) (h3 rfl rfl) (fo rfl (l1.get 0 rfl) rfl) <| hF (v:=.bool ((hI m h.bS).getD false)) (h3 rfl rfl) (acw (gJ:=ao) (gu:=V.bool) yv false rfl (l1.get 3 rfl) rfl rfl) <| pp (.bool ((hI m h.bS).getD false)) <| pp (.bool ((hI m h.bS).getD false)) <| cZ <| sT <| ?_
  exact⟨.inr rfl,Qy (.tmp rfl .nil) rfl (by simp[bx,cj])⟩
 |false=>
  refine nE rfl <| nE rfl <| nE rfl <| nE rfl <| pp (.bool false) <| pp (.bool false) <| cZ <| sT <| ?_
  exact⟨.inr rfl,Qy (.tmp rfl .nil) rfl (by simp[bx,cj])⟩
def pk:cF:=.region [⟨some (125,false),.fieldAddr 0 (.var 1),none⟩,⟨some (126,false),.fieldAddr 6 (.tmp 125),none⟩,⟨some (127,false),.load none (.tmp 126),none⟩,⟨some (128,false),.tk 92 [] [.var 10,.var 7],none⟩,⟨some (129,false),.call false (.func 91) [.tmp 127,.tmp 128],none⟩,⟨some (130,true),.un .not (.tmp 129),none⟩] none
def acA:List bU:=[⟨some (124,false),.extract (.tmp 123) 0,none⟩,⟨some (10,true),.alloc [ao 0],none⟩,⟨none,.store 1 (.var 10) (.tmp 124),none⟩]
def MH:List bU:=[⟨some (131,false),.load none (.var 7),none⟩,⟨some (132,false),.load none (.var 10),none⟩]
def U:fR:=⟨[⟨some (119,false),.load none (.var 7),none⟩],.tmp 119,120,(121,false),[⟨some (122,true),.extract (.tmp 121) 0,none⟩],.var 122,7,(123,false),acA,.seq pk (.cond (.var 130) (.region (MH++[⟨none,.zA 0 (.tmp 131) (.tmp 132),none⟩]) none) .skip)⟩
def me:BM:=⟨pk,.var 130,MH,.tmp 131,.tmp 132,0⟩
theorem atW (uy:aa 92=some (.code D9))(oW:BK aa){ab:eh}{ak ou fa l:Nat}{t:Int}{m:List (Int × Bool)}{q:Bool}
  (av:Own H [[(ou,.cells [ao t])],[(fa,.cells [.map l])],[(l,.map (gr ao V.bool m))],[(ak,.cells (kn ab))]]) {vs:List V} {ts:List Nat} (j:At σ (1::7::10::ts) (.ptr ak 0::.ptr fa 0::.ptr ou 0::vs))
  (bu:Ge ab.Model.aW (fun h=>some ((h.Table==t)&&(hI m h.bS).getD false))=some q):
  fj aa b pk σ H fun x aT H'=>x=.normal/\H'=H/\aT=up σ 130 (.bool (!q)):=by
 have BR:σ 1=.ptr ak 0:=by simpa using(e5 j).1
 have atX:σ 7=.ptr fa 0:=by simpa using(e5 (e5 j).2).1
 have H7:σ 10=.ptr ou 0:=by simpa using(e5 (e5 (e5 j).2).2).1
 have bm:=oW H _ av ab.Model.aW _ (.fn 92 [] [.ptr ou 0,.ptr fa 0]) (fun H low=>by simp[gl,ec,bx,cj]) (fun H' z0 fP lW aJ=>by
  cases aJ;exact atV uy lW z0) q bu
 refine lR <| ph (.ptr ak 0) ?_ <| ph (.ptr ak 6) rfl <| ph (aV 3 iv ab.Model.aW) (fo rfl (av.get 3 rfl) rfl) <| ph (.fn 92 [] [.ptr ou 0,.ptr fa 0]) ?_ <| ph (.bool q) (va bm (acq (by simp) (acr (fun H low=>by simp[gl,ec,bx,cj]) aoG)) rfl rfl) <| pp (.bool (!q)) <| cZ ⟨rfl,rfl,rfl⟩
 ·rw[o4];simp only[bB,BR]
 ·rw[Qj]
  show some (V.fn 92 [] [σ 10,σ 7],H,H.length)=_;rw[H7,atX]
end
end
end Go.Abs.bA
namespace Go.Abs
open Go
theorem fF{n:Int}(h1:-9223372036854775808<=n)(h2:n<=9223372036854775807):aL n=n:=wrap_small h1 (by omega)
theorem dc{α:Type}(l:List α)(k:Nat):aO l (k:Int)=l[k]? :=by simp[aO]
theorem atY{α:Type}{l:List α}{i:Int}{a:α}(h:0<=i)(e:l[i.toNat]? =some a):aO l i=some a:=by simp[aO,h,e]
theorem S7{α:Type}(l:List α):aO l 0=l[0]? :=dc l 0
def j0{α A O:Type}(step:Nat->A->α->Sum A O)(fin:A->O):Nat->A->List α->O
 | _,a,[]=>fin a
 |k,a,x::r=>match step k a x with
  | .inl bn=>j0 step fin (k+1) bn r
  | .inr o=>o
theorem S8{α A S O:Type}{f:S->Option (cH S O)}(mk:Nat->A->S)(step:Nat->A->α->Sum A O)(fin:A->O)(I:Nat->A->Prop)(xs:List α)
  (hs:∀k a x,xs[k]? =some x->I k a->f (mk k a)=some (match step k a x with| .inl bn=>.next (mk (k+1) bn)| .inr o=>.out o)/\∀bn,step k a x=.inl bn->I (k+1) bn)
  (he:∀a,I xs.length a->f (mk xs.length a)=some (.out (fin a))) {a:A} (h0:I 0 a):bW f (mk 0 a)=some (j0 step fin 0 a xs):=by
 have key:∀(n k:Nat) (a:A),k+n=xs.length->I k a->bW f (mk k a)=some (j0 step fin k a (xs.drop k)):=by
  intro n
  induction n with
  |zero=>
   intro k a hk bp;have e:k=xs.length:=by omega
   subst e;rw[hG,he a bp,uJ (aN _)];rfl
  |succ n ih=>
   intro k a hk bp;have aG:k<xs.length:=by omega
   obtain⟨h1,h2⟩:=hs k a xs[k] (by simp[aG]) bp;rw[hG,h1,qo aG];simp only[j0];cases ca:step k a xs[k]with
   |inl bn=>exact ih (k+1) bn (by omega) (h2 bn ca)
   |inr o=>rfl
 have:=key xs.length 0 a (by omega) h0;simpa using this
theorem H8{α A S O:Type}{f:S->Option (cH S O)}(cd:Nat->A->S->Prop)(step:Nat->A->α->Sum A O)(fin:A->O)(xs:List α)
  (hs:∀k a x s,xs[k]? =some x->cd k a s->match step k a x with| .inl bn=>∃ar,f s=some (.next ar)/\cd (k+1) bn ar| .inr o=>f s=some (.out o))
  (he:∀a s,cd xs.length a s->f s=some (.out (fin a))) {a:A} {s:S} (h0:cd 0 a s):bW f s=some (j0 step fin 0 a xs):=by
 have key:∀(n k:Nat) (a:A) (s:S),k+n=xs.length->cd k a s->bW f s=some (j0 step fin k a (xs.drop k)):=by
  intro n
  induction n with
  |zero=>
   intro k a s hk bp;have e:k=xs.length:=by omega
   subst e;rw[hG,he a s bp,uJ (aN _)];rfl
  |succ n ih=>
   intro k a s hk bp;have aG:k<xs.length:=by omega
   have h1:=hs k a xs[k] s (by simp[aG]) bp;rw[qo aG];simp only[j0];cases ca:step k a xs[k]with
   |inl bn=>
    rw[ca]at h1;obtain⟨ar,ad,e2⟩:=h1;rw[hG,ad];exact ih (k+1) bn ar (by omega) e2
   |inr o=>
    rw[ca]at h1;rw[hG,h1]
 have:=key xs.length 0 a s (by omega) h0;simpa using this
theorem MI{α S O:Type}{f:S->Option (cH S O)}(I:Nat->S->Prop)(P:O->Prop)(xs:List α)(hs:∀k x s,xs[k]? =some x->I k s->∃ar,f s=some (.next ar)/\I (k+1) ar)
  (he:∀s,I xs.length s->∃o,f s=some (.out o)/\P o) {s:S} (h0:I 0 s):∃o,bW f s=some o/\P o:=by
 have key:∀(n k:Nat) (s:S),k+n=xs.length->I k s->∃o,bW f s=some o/\P o:=by
  intro n
  induction n with
  |zero=>
   intro k s hk bp;have e:k=xs.length:=by omega
   subst e;obtain⟨o,ad,e2⟩:=he s bp;exact⟨o,by rw[hG,ad],e2⟩
  |succ n ih=>
   intro k s hk bp;have aG:k<xs.length:=by omega
   obtain⟨ar,ad,e2⟩:=hs k xs[k] s (by simp[aG]) bp;obtain⟨o,f1,f2⟩:=ih (k+1) ar (by omega) e2;exact⟨o,by rw[hG,ad];exact f1,f2⟩
 exact key xs.length 0 s (by omega) h0
theorem y2{α S O:Type}{f:S->Option (cH S O)}(I:Nat->S->Prop)(P:O->Prop)(xs:List α)(hs:∀k x s,xs[k]? =some x->I k s->(∃ar,f s=some (.next ar)/\I (k+1) ar)\/(∃o,f s=some (.out o)/\P o))
  (he:∀s,I xs.length s->∃o,f s=some (.out o)/\P o) {s:S} (h0:I 0 s):∃o,bW f s=some o/\P o:=by
 have key:∀(n k:Nat) (s:S),k+n=xs.length->I k s->∃o,bW f s=some o/\P o:=by
  intro n
  induction n with
  |zero=>
   intro k s hk bp;have e:k=xs.length:=by omega
   subst e;obtain⟨o,ad,e2⟩:=he s bp;exact⟨o,by rw[hG,ad],e2⟩
  |succ n ih=>
   intro k s hk bp;have aG:k<xs.length:=by omega
   rcases hs k xs[k] s (by simp[aG]) bp with⟨ar,ad,e2⟩|⟨o,ad,e2⟩
   ·obtain⟨o,f1,f2⟩:=ih (k+1) ar (by omega) e2
    exact⟨o,by rw[hG,ad];exact f1,f2⟩
   ·exact⟨o,by rw[hG,ad],e2⟩
 exact key xs.length 0 s (by omega) h0
def allI{α:Type}(ok:Nat->α->Bool)(xs:List α):Bool:=xs.zipIdx.all fun p=>ok p.2 p.1
theorem H9{α:Type}{ok:Nat->α->Bool}{xs:List α}:allI ok xs=true↔∀k x,xs[k]? =some x->ok k x=true:=by
 unfold allI;rw[eE];constructor
 ·intro h k x hx
  exact h (x,k) (jC.2 hx)
 ·intro h p hp
  exact h p.2 p.1 (jC.1 hp)
theorem q0{α S:Type}{f:S->Option (cH S (bO Unit Unit))}(I:Nat->S->Prop)(ok:Nat->α->Bool)(xs:List α)
  (hs:∀k x s,xs[k]? =some x->I k s->(∀j y,j<k->xs[j]? =some y->ok j y=true)->(ok k x=true->∃ar,f s=some (.next ar)/\I (k+1) ar)/\(ok k x=false->f s=some (.out (.ret ()))))
  (he:∀s,I xs.length s->f s=some (.out (.go ()))) {s:S} (h0:I 0 s):bW f s=some (bif allI ok xs then .go ()else .ret ()):=by
 obtain⟨o,ad,e2⟩:=y2 (f:=f) (fun k s=>I k s/\∀j y,j<k->xs[j]? =some y->ok j y=true) (fun o=>o=bif allI ok xs then .go ()else .ret ()) xs (fun k x s hx bp=>by
  obtain⟨h1,h2⟩:=hs k x s hx bp.1 bp.2;cases a1:ok k x with
  |true=>
   obtain⟨ar,ad,e2⟩:=h1 a1;refine .inl ⟨ar,ad,e2,fun j y hj hy=> ?_⟩;by_cases e:j=k
   ·subst e;rw[hx]at hy;cases hy;exact a1
   ·exact bp.2 j y (by omega) hy
  |false=>
   refine .inr ⟨.ret (),h2 a1,?_⟩;cases al:allI ok xs with
   |false=>rfl
   |true=>rw[H9.1 al k x hx]at a1;cases a1) (fun s bp=>by
  refine⟨.go (),he s bp.1,?_⟩;have:allI ok xs=true:=H9.2 fun k x hx=>bp.2 k x (eY.1 hx).1 hx;rw[this];rfl) (s:=s) ⟨h0,fun j y hj=>by omega⟩
 rw[ad,e2]
def jg{α:Type}(f:α->Int)(xs:List α):Nat->Int
 |0=>-1
 |k+1=>((xs[k]?).map f).getD (-1)
theorem BS{α:Type}(f:α->Int){xs:List α}{k:Nat}{x:α}(h:xs[k]? =some x):jg f xs (k+1)=f x:=by simp[jg,h]
theorem MJ{α:Type}{f:α->Int}{xs:List α}:∀{k:Nat},(∀j y,j<k->xs[j]? =some y->jg f xs j<f y)-> -1<=jg f xs k
 |0,_=>by simp[jg]
 |k+1,h=>by
  have ih:=MJ (k:=k) fun j y hj=>h j y (by omega);cases hx:xs[k]? with
  |none=>simp[jg,hx]
  |some x=>
   rw[BS f hx];have:=h k x (by omega) hx;omega
theorem S9{α A O:Type}{step:Nat->A->α->Sum A O}{fin:A->O}{g:A->α->A}(h:∀k a x,step k a x=.inl (g a x)):∀(l:List α) (k:Nat) (a:A),j0 step fin k a l=fin (l.foldl g a)
 |[],_,_=>rfl
 |x::r,k,a=>by simp only[j0,h,ti];exact S9 h r (k+1) (g a x)
theorem atZ{α R:Type}{f:Int->Option (cH Int (bO Unit Unit))}(xs:List α)(hn:xs.length<4611686018427387904)(b:Nat->α->Bool)
  (hs:∀(k:Nat) x,xs[k]? =some x->f k=some (bif b k x then .out (.ret ())else .next (aL (k+1)))) (he:f (xs.length:Int)=some (.out (.go ()))):
  bW f 0=some (bif xs.zipIdx.any (fun p=>b p.2 p.1)then .ret ()else .go ()):=by
 have h:=S8 (f:=f) (fun k (_:Unit)=>(k:Int)) (fun k _ x=>bif b k x then .inr (.ret ())else .inl ()) (fun _=>.go ()) (fun _ _=>True) xs (fun k a x hx _=>by
  refine⟨?_,fun _ _=>trivial⟩;have aG:=(eY.1 hx).1;rw[hs k x hx];cases b k x
  ·simp only[cond_false]
   rw[fF (by omega) (by omega)];rfl
  ·rfl) (fun _ _=>he) (a:=()) trivial
 have h2:∀(k:Nat) (l:List α),j0 (fun k (_:Unit) x=>bif b k x then(.inr (.ret ()):Sum Unit (bO Unit Unit))else .inl ()) (fun _=>.go ()) k () l=bif (l.zipIdx k).any (fun p=>b p.2 p.1)then .ret ()else .go ():=by
  intro k l
  induction l generalizing k with
  |nil=>rfl
  |cons x r ih=>
   simp only[j0,List.zipIdx_cons,List.any_cons];cases hb:b k x
   ·simp only[cond_false,tj];exact ih (k+1)
   ·simp
 rw[h2]at h;exact h
theorem at0{α:Type}(b:α->Bool)(l:List α)(k:Nat):(l.zipIdx k).any (fun p=>b p.1)=l.any b:=by
 induction l generalizing k with
 |nil=>rfl
 |cons x r ih=>simp[List.zipIdx_cons,ih]
theorem mw{α:Type}{f:Int->Option (cH Int (bO Unit Unit))}(xs:List α)(hn:xs.length<4611686018427387904)(b:α->Bool)
  (hs:∀(k:Nat) x,xs[k]? =some x->f k=some (bif b x then .out (.ret ())else .next (aL (k+1)))) (he:f (xs.length:Int)=some (.out (.go ()))):
  bW f 0=some (bif xs.any b then .ret ()else .go ()):=by
 have:=atZ (R:=Unit) xs hn (fun _ x=>b x) hs he;rw[at0]at this;exact this
theorem afi{α:Type}(xs:ae α)(hn:xs.l.length<4611686018427387904){f:α->Option Bool}{p:α->Bool}(ag:∀x∈xs.l,f x=some (p x)):
  (bW (fun i7:Int=>(bif (decide (i7<xs.len))then((aO xs.l i7).bind fun hM=>((f hM).bind fun fA=>(bif fA then some (cH.out (bO.ret i7))else some (.next (aL (i7+1))))))else some (.out (.go ())))) 0:Option (bO Unit Int))=
    some (match xs.l.findIdx? p with|none=>.go ()|some i=>.ret (i:Int)):=by
 have h:=S8 (f:=fun i7:Int=>(bif (decide (i7<xs.len))then((aO xs.l i7).bind fun hM=>((f hM).bind fun fA=>(bif fA then some (cH.out (bO.ret i7:bO Unit Int))else some (.next (aL (i7+1))))))else some (.out (.go ()))))
  (fun k (_:Unit)=>(k:Int)) (fun k _ x=>bif p x then .inr (.ret (k:Int))else .inl ()) (fun _=>.go ()) (fun _ _=>True) xs.l (fun k a x hx _=>by
    refine⟨?_,fun _ _=>trivial⟩;have aG:=(eY.1 hx).1;have hd:decide ((k:Int)<xs.len)=true:=by simp[ae.len];exact aG
    simp only[hd,cond_true,dc,hx,aS,ag x (eZ hx)];cases p x
    ·simp only[cond_false]
     rw[fF (by omega) (by omega)];rfl
    ·rfl) (fun _ _=>by
    have hd:decide ((xs.l.length:Int)<xs.len)=false:=by simp[ae.len]
    simp only[hd,cond_false]) (a:=()) trivial
 have h2:∀(k:Nat) (l:List α),j0 (fun k (_:Unit) x=>bif p x then(.inr (.ret (k:Int)):Sum Unit (bO Unit Int))else .inl ()) (fun _=>.go ()) k () l=match l.findIdx? p with|none=>.go ()|some i=>.ret ((k+i:Nat):Int):=by
  intro k l
  induction l generalizing k with
  |nil=>rfl
  |cons x r ih=>
   simp only[j0,Vu];cases hb:p x
   ·simp only[cond_false,ih (k+1)]
    cases r.findIdx? p with
    |none=>rfl
    |some i=>simp;omega
   ·simp
 rw[h2]at h;refine h.trans ?_;cases xs.l.findIdx? p<;>simp
theorem Ia{α:Type}(xs:ae α)(hn:xs.l.length<4611686018427387904){f:α->Option Bool}{p:α->Bool}(ag:∀x∈xs.l,f x=some (p x)):
  ((((bW (fun i7:Int=>(bif (decide (i7<xs.len))then((aO xs.l i7).bind fun hM=>((f hM).bind fun fA=>(bif fA then some (cH.out (bO.ret i7))else some (.next (aL (i7+1))))))else some (.out (.go ())))) 0:Option (bO Unit Int)).bind fun gX=>match gX with| .go _=>some (-1)| .ret uc=>some uc)).bind fun bs=>some (decide (bs>=0)))=some (xs.l.any p):=by
 rw[afi xs hn ag]
 have:(xs.l.findIdx? p).isSome=xs.l.any p:=by
  rw[List.findIdx?_isSome]
 rw[<-this];cases xs.l.findIdx? p with
 |none=>simp
 |some i=>simp
theorem MK{K W:Type}[BEq K][LawfulBEq K](k bJ:K)(w:W):∀m:List (K × W),hI (ly m k w) bJ=if bJ==k then some w else hI m bJ
 |[]=>by
  simp only[ly,hI,NN,List.find?_nil];cases hk:bJ==k<;>simp
 |p::r=>by
  have ih:=MK k bJ w r;simp only[hI]at ih;simp only[ly];cases hp:k==p.1
  ·simp only[fV,if_false,hI,NN]
   cases bu:bJ==p.1
   ·simp only[ih]
   ·have e:bJ=p.1:=by simpa using bu
    have:(bJ==k)=false:=by
     rw[e];cases h:p.1==k with
     |false=>rfl
     |true=>have e2:p.1=k:=by simpa using h
            rw[e2]at hp;simp at hp
    simp[this]
  ·have e:k=p.1:=by simpa using hp
   simp only[if_true,hI,NN,e];cases bu:bJ==p.1<;>simp
end Go.Abs
namespace Go.Abs.bA
open Go Go.Abs
def bk{α:Type}(l:List α):Prop:=l.length<4611686018427387904
def kM (l:List Int):Bool:=l.all fun n=>decide (n>=1)&&decide (n<=6)
def kN (n:Nat)(c:List Int):Bool:=decide (c.length<=3)&&c.all fun x=>decide (x>=0)&&decide (x<n)
def et (s:List Int)(x:Int):Int:=(s[x.toNat]?).getD 1
def wid (s c:List Int):Int:=c.foldl (fun a x=>a*et s x) 1
def gx (t:Table):Bool:=(t.Kind==0)||(t.Kind==1)
def Ee (t:Table):Bool:=bif (t.Kind==1)||((t.Kind==4)||(t.Kind==5))then decide (t.Range.fq<=t.Range.fr)&&(decide (t.Range.fq>=-9999)&&decide (t.Range.fr<=9999))else(t.Range.fq==0)&&(t.Range.fr==1)
noncomputable def kO (w:ck):Bool:=(yB w).getD false
theorem dn{α:Type}(x:ae α):x.len=(x.l.length:Int):=rfl
theorem afj (w:ck):yB w=some (kO w):=by
 unfold kO yB Gd;cases decide ((w.length:Int)<=16)<;>rfl
theorem Ta (xs:ae Int)(h:bk xs.l){f:Int->Option Bool}{p:Int->Bool}(ag:∀x∈xs.l,f x=some (p x)):Dz xs f=some (xs.l.any p):=Ia xs h ag
theorem at1 (xs:ae Bool)(h:bk xs.l)(a:Bool):K2 xs a=some (xs.l.any fun x=>a==x):=Ia xs h (f:=fun x=>some (a==x)) (fun x _=>rfl)
theorem at2 (s:ae Int)(h:bk s.l):Gj s=some (kM s.l):=by
 unfold Gj;rw[Ta s h (f:=K3) (p:=fun n=>!(decide (n>=1)&&decide (n<=6))) (fun x _=>rfl)];simp[kM,px]
theorem at3 (s c:ae Int)(h:bk c.l):Gk s c=some (kN s.l.length c.l):=by
 unfold Gk;rw[Ta c h (f:=fun z0=>K4 s z0) (p:=fun x=>(decide (x<0))||(decide (x>=s.len))) (fun x _=>rfl)];unfold kN;have e:decide ((c.l.length:Int)<=3)=decide (c.l.length<=3):=decide_eq_decide.2 (by omega);rw[dn,e];cases hc:decide (c.l.length<=3)with
 |true=>
  simp only[cond_true,aS,dy,px,aD];congr 2;funext x;rw[dn];by_cases h1:x<0<;>by_cases h2:x>=(s.l.length:Int)<;>simp_all<;>omega
 |false=>
  simp
theorem afk (l:List Bool)(h:bk l):AO (ae.mk l)=some (l.all id):=by
 unfold AO;rw[at1 (ae.mk l) h];simp only[aS,px,aD,ae.l];congr 2;funext x;cases x<;>rfl
theorem at4 (t:Table):Gl t=some (Ee t):=by
 unfold Gl Ee;cases h1:t.Kind==1<;>cases a7:t.Kind==4<;>cases h5:t.Kind==5<;>simp
theorem ML (t:Table):AM t=some (gx t):=rfl
theorem y3{s:List Int}{x:Int}(h0:0<=x)(h1:x<s.length):aO s x=some (et s x):=by
 have aG:x.toNat<s.length:=by omega
 refine atY h0 ?_;unfold et;simp[aG]
theorem y4{s:List Int}(h:kM s=true){x:Int}(h0:0<=x)(h1:x<s.length):1<=et s x/\et s x<=6:=by
 have aG:x.toNat<s.length:=by omega
 unfold et;simp only[jD aG,xO];have:=eE.1 h _ (Jg aG);simpa using this
theorem xw{n:Nat}{c:List Int}(h:kN n c=true):c.length<=3/\∀x∈c,0<=x/\x<n:=by
 unfold kN at h;simp only[cm,decide_eq_true_eq,eE]at h;exact⟨h.1,fun x hx=>h.2 x hx⟩
theorem s6{s c:List Int}(hs:kM s=true)(hc:kN s.length c=true):1<=wid s c/\wid s c<=216:=by
 obtain⟨h1,h2⟩:=xw hc
 have step:∀(a x:Int),0<=x/\x<s.length->1<=a->∀m:Int,a<=m->1<=a*et s x/\a*et s x<=m*6:=fun a x hx al m hm=>by
  obtain⟨q1,q2⟩:=y4 hs hx.1 hx.2;constructor
  ·exact Int.le_trans (by omega) (Jk al q1 (by omega) (by omega))
  ·exact Jk hm q2 (by omega) (by omega)
 unfold wid
 match c,h1,h2 with
 |[],_,_=>simp
 |[x],_,h=>have a:=step 1 x (h x (by simp)) (by omega) 1 (by omega);simp only[ti,NP];omega
 |[x,y],_,h=>
  have a:=step 1 x (h x (by simp)) (by omega) 1 (by omega);have b:=step _ y (h y (by simp)) a.1 _ a.2;simp only[ti,NP];omega
 |[x,y,z],_,h=>
  have a:=step 1 x (h x (by simp)) (by omega) 1 (by omega);have b:=step _ y (h y (by simp)) a.1 _ a.2;have d:=step _ z (h z (by simp)) b.1 _ b.2;simp only[ti,NP];omega
 | _::_::_::_::_,h,_=>simp at h
theorem Tb (s c:ae Int)(hs:kM s.l=true)(hc:kN s.l.length c.l=true):ud s c=some (wid s.l c.l):=by
 obtain⟨h1,h2⟩:=xw hc;unfold ud
 have h:=H8 (f:=K1 s c) (fun k (a:Int) st=>st=(a,(k:Int))/\k<=3/\1<=a/\a<=6^k) (fun _ a x=>.inl (a*et s.l x)) (fun a=>a) c.l (fun k a x st hx U=>by
  obtain⟨rfl,hk,al⟩:=U;have aG:=(eY.1 hx).1;have dZ:=h2 x (eZ hx);obtain⟨q1,q2⟩:=y4 hs dZ.1 dZ.2;have hd:decide ((k:Int)<c.len)=true:=by simp[dn];exact aG
  have hb:1<=a*et s.l x/\a*et s.l x<=6^(k+1):=⟨Int.le_trans (by omega) (Jk al.1 q1 (by omega) (by omega)),by
   rw[Int.pow_succ];exact Jk al.2 q2 (by omega) (by have:(0:Int)<=6^k:=Int.pow_nonneg (by omega);omega)⟩
  have Tc:(6:Int)^(k+1)<=1296:=by
   have:k=0\/k=1\/k=2\/k=3:=by omega
   rcases this with rfl|rfl|rfl|rfl<;>decide
  refine⟨(a*et s.l x,((k+1:Nat):Int)),?_,rfl,by omega,hb⟩;simp only[K1,hd,cond_true,dc,hx,aS,y3 dZ.1 dZ.2];rw[fF (by omega) (by omega),fF (by omega) (by omega)];rfl) (fun a st U=>by
  obtain⟨rfl,-⟩:=U;have hd:decide ((c.l.length:Int)<c.len)=false:=by simp[dn]
  simp only[K1,hd,cond_false]) (a:=1) (s:=(1,0)) ⟨rfl,by omega,by simp⟩
 rw[h,S9 (g:=fun a x=>a*et s.l x) (fun _ _ _=>rfl)];rfl
end Go.Abs.bA
namespace Go.Abs.bA
open Go Go.Abs
noncomputable section
def lF (s:List Int)(t:Table):Bool:=kO t.Name&&((decide (t.Kind>=0)&&decide (t.Kind<=5))&&(kN s.length t.aZ.l&&Ee t))
def my (ts:List Table)(k:Nat)(n:ck):Bool:=(ts.take k).any fun u=>u.Name==n
def qn (s:List Int)(ts:List Table)(k:Nat)(a:Int × Int)(t:Table):Sum (Int × Int) (Option (Int × Int)):=
 bif lF s t&&!(my ts k t.Name)then
  (bif gx t then(bif t.cz==a.1 then .inl (a.1+wid s t.aZ.l,a.2)else .inr none)else(bif t.cz==a.2 then .inl (a.1,a.2+wid s t.aZ.l)else .inr none))
 else .inr none
def Ib (s:List Int)(ts:List Table):Option (Int × Int):=j0 (qn s ts) some 0 (0,0) ts
def gQ (s:List Int)(ts:List Table):Bool:=decide (s.length<=4)&&(decide (ts.length<=12)&&(kM s&&match Ib s ts with
 |some (a,b)=>decide (a<=128)&&decide (b<=64)
 |none=>false))
theorem Td{α A O at5:Type}(MM:O->at5){step:Nat->A->α->Sum A O}{fin:A->O}:∀(l:List α) (k:Nat) (a:A),j0 (fun k a x=>(step k a x).map id MM) (fun a=>MM (fin a)) k a l=MM (j0 step fin k a l)
 |[],_,_=>rfl
 |x::r,k,a=>by
  simp only[j0];cases step k a x with
  |inl bn=>exact Td MM r (k+1) bn
  |inr o=>rfl
theorem at6{ts:List Table}{k:Nat}{t:Table}(h:ts[k]? =some t)(n:ck):my ts (k+1) n=(my ts k n||t.Name==n):=by
 unfold my;rw[xN,h];simp
theorem Ic{a b:ck}:(a==b)=(b==a):=by
 cases h:a==b with
 |true=>have:a=b:=by simpa using h
        subst this;exact h.symm
 |false=>cases h':b==a with
  |false=>rfl
  |true=>have:b=a:=by simpa using h'
         subst this;rw[h]at h';cases h'
def MN:Option (Int × Int)->bO (Int × Int) Unit
 |some a=>.go (a.2,a.1)
 |none=>.ret ()
theorem at7{s:ae Int}{ts:ae Table}(hs:kM s.l=true)(hl:ts.l.length<=12)(hc:∀t∈ts.l,bk t.aZ.l):
  bW (DA s ts) (0,0,0,[])=some (MN (Ib s.l ts.l)):=by
 have h:=H8 (f:=DA s ts) (fun k (a:Int × Int) st=>∃m,st=((k:Int),a.2,a.1,m)/\(0<=a.1/\a.1<=216*k/\0<=a.2/\a.2<=216*k)/\∀n,(hI m n).getD false=my ts.l k n)
  (fun k a x=>(qn s.l ts.l k a x).map id MN) (fun a=>MN (some a)) ts.l (fun k a t st hx U=>by
  obtain⟨m,rfl,⟨ak,a2,a3,a4⟩,hm⟩:=U;have aG:=(eY.1 hx).1;have dD:=eZ hx;have hd:decide ((k:Int)<ts.len)=true:=by simp[dn];exact aG
  have eC:∀a b c d e:Bool,AO (ae.mk [a,b,c,d,e])=some (a&&(b&&(c&&(d&&e)))):=fun a b c d e=>by
   rw[afk _ (by simp[bk])];simp
  have o0:∀n,(hI (ly m t.Name true) n).getD false=my ts.l (k+1) n:=fun n=>by
   rw[MK,at6 hx,<-hm n];cases e:n==t.Name with
   |true=>rw[Ic,e];simp
   |false=>rw[Ic (a:=t.Name),e];simp
  have ag:DA s ts ((k:Int),a.2,a.1,m)=bif lF s.l t&&!(my ts.l k t.Name)then
    (bif gx t then(bif t.cz==a.1 then((ud s t.aZ).bind fun sX=>some (.next ((aL (k+1)),a.2,(aL (a.1+sX)),(ly m t.Name true))))else some (.out (.ret ())))
      else(bif t.cz==a.2 then((ud s t.aZ).bind fun DB=>some (.next ((aL (k+1)),(aL (a.2+DB)),a.1,(ly m t.Name true))))else some (.out (.ret ()))))
    else some (.out (.ret ())):=by
   simp only[DA,hd,cond_true,dc,hx,aS,afj,Gi,at3 s t.aZ (hc t dD),at4,eC,ML,hm]
   have e:(kO t.Name&&((!(my ts.l k t.Name))&&((decide (t.Kind>=0)&&decide (t.Kind<=5))&&(kN s.l.length t.aZ.l&&Ee t))))=(lF s.l t&&!(my ts.l k t.Name)):=by
    unfold lF;cases kO t.Name<;>cases my ts.l k t.Name<;>simp
   rw[e];cases lF s.l t&&!(my ts.l k t.Name)with
   |false=>rfl
   |true=>
    cases gx t<;>simp only[cond_true,cond_false,bne]
    ·cases t.cz==a.2<;>rfl
    ·cases t.cz==a.1<;>rfl
  rw[ag];unfold qn;cases a1:lF s.l t&&!(my ts.l k t.Name)with
  |false=>rfl
  |true=>
   have jB:kN s.l.length t.aZ.l=true:=by
    simp only[cm]at a1;have:=a1.1;unfold lF at this;simp only[cm]at this;exact this.2.2.1
   have hw:=s6 hs jB;have hk:(k:Int)<=12:=by omega
   rw[Tb s t.aZ hs jB];simp only[cond_true,aS];cases gx t with
   |true=>
    simp only[cond_true];cases t.cz==a.1 with
    |false=>rfl
    |true=>
     simp only[cond_true,Sum.map_inl,id];rw[fF (n:=(k:Int)+1) (by omega) (by omega),fF (n:=a.1+wid s.l t.aZ.l) (by omega) (by omega)];exact⟨_,rfl,_,rfl,⟨by omega,by omega,a3,by omega⟩,o0⟩
   |false=>
    simp only[cond_false];cases t.cz==a.2 with
    |false=>rfl
    |true=>
     simp only[cond_true,Sum.map_inl,id];rw[fF (n:=(k:Int)+1) (by omega) (by omega),fF (n:=a.2+wid s.l t.aZ.l) (by omega) (by omega)];exact⟨_,rfl,_,rfl,⟨ak,by omega,by omega,by omega⟩,o0⟩) (fun a st U=>by
  obtain⟨m,rfl,-⟩:=U;have hd:decide ((ts.l.length:Int)<ts.len)=false:=by simp[dn]
  simp only[DA,hd,cond_false];rfl) (a:=(0,0)) (s:=(0,0,0,[])) ⟨[],rfl,by simp,fun n=>rfl⟩
 rw[h,Td MN (fin:=some)];rfl
theorem MO (s:ae Int)(ts:ae Table)(h1:bk s.l)(h2:bk ts.l)(hc:∀t∈ts.l,bk t.aZ.l):yD s ts=some (gQ s.l ts.l):=by
 unfold yD;rw[at2 s h1];simp only[aS];rw[afk _ (by simp[bk])];have ad:decide (s.len<=4)=decide (s.l.length<=4):=decide_eq_decide.2 (by rw[dn];omega);have e2:decide (ts.len<=12)=decide (ts.l.length<=12):=decide_eq_decide.2 (by rw[dn];omega);simp only[aS,Ck,List.all_nil,id,sj,ad,e2];unfold gQ;cases gM:decide (s.l.length<=4)with
 |false=>rfl
 |true=>
  cases ht:decide (ts.l.length<=12)with
  |false=>rfl
  |true=>
   cases hs:kM s.l with
   |false=>rfl
   |true=>
    simp only[dy,cond_true];rw[at7 hs (by simpa using ht) hc];simp only[aS];cases Ib s.l ts.l with
    |none=>rfl
    |some a=>rfl
end
end Go.Abs.bA
namespace Go.Abs.bA
open Go Go.Abs
noncomputable section
theorem Te (s:ae Int)(h:bk s.l):yJ s=some (kM s.l):=by
 unfold yJ
 rw[mw s.l h (fun n=>decide (n<1)||decide (n>6)) (fun k x hx=>by
  have aG:=(eY.1 hx).1;have hd:decide ((k:Int)<s.len)=true:=by simp[dn];exact aG
  simp only[Rm,hd,cond_true,dc,hx,aS];cases decide (x<1)<;>cases decide (x>6)<;>rfl) (by
  have hd:decide ((s.l.length:Int)<s.len)=false:=by simp[dn]
  simp only[Rm,hd,cond_false])]
 simp only[aS,kM,px]
 have e:(fun n:Int=>decide (n<1)||decide (n>6))=fun n=>!(decide (n>=1)&&decide (n<=6)):=by
  funext n;by_cases h1:n<1<;>by_cases h2:n>6<;>simp_all<;>omega
 rw[e];cases s.l.any _<;>rfl
def Ie (s c:List Int):Int:=bif kM s&&kN s.length c then wid s c else 0
theorem Tf (s c:ae Int)(h:bk s.l)(h2:bk c.l):yK s c=some (Ie s.l c.l):=by
 unfold yK;rw[Te s h];have e:decide (c.len>3)=!decide (c.l.length<=3):=by rw[dn];by_cases q:c.l.length<=3<;>simp[q]<;>omega
 rw[e];unfold Ie kN;cases hl:decide (c.l.length<=3)with
 |false=>simp
 |true=>
  cases hs:kM s.l with
  |false=>simp
  |true=>
   simp only[fZ,cond_false,aS,dy];have hlen:c.l.length<=3:=by simpa using hl
   have aua:=H8 (f:=GV s c) (fun k (a:Int) st=>st=(a,(k:Int))/\k<=3/\1<=a/\a<=6^k)
    (fun _ a x=>bif decide (x>=0)&&decide (x<(s.l.length:Int))then(.inl (a*et s.l x):Sum Int (bO Int Unit))else .inr (.ret ())) (fun a=>.go a) c.l (fun k a x st hx U=>by
    obtain⟨rfl,hk,al⟩:=U;have aG:=(eY.1 hx).1;have hd:decide ((k:Int)<c.len)=true:=by simp[dn];exact aG
    cases hin:decide (x>=0)&&decide (x<(s.l.length:Int))with
    |false=>
     simp only[cond_false];simp only[GV,hd,cond_true,dc,hx,aS]
     have:(bif decide (x<0)then some true else some (decide (x>=s.len)))=some true:=by
      by_cases q1:x<0
      ·simp[q1]
      ·have:x>=s.len:=by
        rw[dn];by_cases q2:x<(s.l.length:Int)
        ·exfalso;have h1:decide (x>=0)=true:=by simp;omega
         simp[h1,q2]at hin
        ·omega
       simp[q1,this]
     rw[this];rfl
    |true=>
     simp only[cm,decide_eq_true_eq]at hin;obtain⟨q1,q2⟩:=y4 hs hin.1 hin.2
     have hb:1<=a*et s.l x/\a*et s.l x<=6^(k+1):=⟨Int.le_trans (by omega) (Jk al.1 q1 (by omega) (by omega)),by
      rw[Int.pow_succ];exact Jk al.2 q2 (by omega) (by have:(0:Int)<=6^k:=Int.pow_nonneg (by omega);omega)⟩
     have Tc:(6:Int)^(k+1)<=1296:=by
      have:k=0\/k=1\/k=2\/k=3:=by omega
      rcases this with rfl|rfl|rfl|rfl<;>decide
     simp only[cond_true];refine⟨(a*et s.l x,((k+1:Nat):Int)),?_,rfl,by omega,hb⟩;have mM:decide (x<0)=false:=by simp;omega
     have JO:decide (x>=s.len)=false:=by rw[dn];simp;omega
     simp only[GV,hd,cond_true,dc,hx,aS,mM,JO,cond_false,y3 hin.1 hin.2];rw[fF (by omega) (by omega),fF (by omega) (by omega)];rfl) (fun a st U=>by
    obtain⟨rfl,-⟩:=U;have hd:decide ((c.l.length:Int)<c.len)=false:=by simp[dn]
    simp only[GV,hd,cond_false]) (a:=1) (s:=(1,0)) ⟨rfl,by omega,by simp⟩
   rw[aua]
   have ct:∀(l:List Int) (k:Nat) (a:Int),j0 (fun _ a x=>bif decide (x>=0)&&decide (x<(s.l.length:Int))then(.inl (a*et s.l x):Sum Int (bO Int Unit))else .inr (.ret ())) (fun a=>.go a) k a l=
     bif l.all (fun x=>decide (x>=0)&&decide (x<(s.l.length:Int)))then .go (l.foldl (fun a x=>a*et s.l x) a)else .ret ():=by
    intro l
    induction l with
    |nil=>intro k a;rfl
    |cons x r ih=>
     intro k a;simp only[j0,Ck,ti];cases decide (x>=0)&&decide (x<(s.l.length:Int))with
     |true=>simp only[cond_true,dy];exact ih (k+1) _
     |false=>rfl
   rw[ct];simp only[aS];unfold wid;cases c.l.all (fun x=>decide (x>=0)&&decide (x<(s.l.length:Int)))<;>rfl
def MP:Option (Int × Int)->bO (Int × Int) Unit
 |some a=>.go (a.1,a.2)
 |none=>.ret ()
theorem aub (t:Table)(h0:0<=t.Kind)(h5:t.Kind<=5):Ee t=(!((decide (t.Range.fq>t.Range.fr))||((decide (t.Range.fq<(-9999)))||(decide (t.Range.fr>9999))))&&
  !(bif (t.Kind==0)then((t.Range.fq != 0)||(t.Range.fr != 1))else(bif (t.Kind==2)then((t.Range.fq != 0)||(t.Range.fr != 1))else((t.Kind==3)&&((t.Range.fq != 0)||(t.Range.fr != 1)))))):=by
 have:t.Kind=0\/t.Kind=1\/t.Kind=2\/t.Kind=3\/t.Kind=4\/t.Kind=5:=by omega
 unfold Ee;generalize t.Range.fq=lo;generalize t.Range.fr=hi
 have auc:((lo==0)&&(hi==1))=(!((decide (lo>hi))||((decide (lo<(-9999)))||(decide (hi>9999))))&&!((lo != 0)||(hi != 1))):=by
  by_cases a:lo=0
  ·by_cases b:hi=1
   ·subst a;subst b;decide
   ·have q:(hi==1)=false:=by simpa using b
    simp[a,q,bne]
  ·have q:(lo==0)=false:=by simpa using a
   simp[q,bne]
 have aud:(decide (lo<=hi)&&(decide (lo>=-9999)&&decide (hi<=9999)))=!((decide (lo>hi))||((decide (lo<(-9999)))||(decide (hi>9999)))):=by
  by_cases a:lo>hi<;>by_cases b:lo< -9999<;>by_cases d:hi>9999<;>simp_all<;>omega
 rcases this with h|h|h|h|h|h<;>rw[h]<;>simp only[show((0:Int)==0)=true from rfl,show((0:Int)==1)=false from rfl,show((0:Int)==4)=false from rfl,show((0:Int)==5)=false from rfl,
  show((1:Int)==0)=false from rfl,show((1:Int)==1)=true from rfl,show((1:Int)==2)=false from rfl,show((1:Int)==3)=false from rfl,
  show((2:Int)==0)=false from rfl,show((2:Int)==1)=false from rfl,show((2:Int)==2)=true from rfl,show((2:Int)==4)=false from rfl,show((2:Int)==5)=false from rfl,
  show((3:Int)==0)=false from rfl,show((3:Int)==1)=false from rfl,show((3:Int)==2)=false from rfl,show((3:Int)==3)=true from rfl,show((3:Int)==4)=false from rfl,show((3:Int)==5)=false from rfl,
  show((4:Int)==0)=false from rfl,show((4:Int)==1)=false from rfl,show((4:Int)==2)=false from rfl,show((4:Int)==3)=false from rfl,show((4:Int)==4)=true from rfl,
  show((5:Int)==0)=false from rfl,show((5:Int)==1)=false from rfl,show((5:Int)==2)=false from rfl,show((5:Int)==3)=false from rfl,show((5:Int)==4)=false from rfl,show((5:Int)==5)=true from rfl,
  NQ,Bool.or_true,Bool.true_or,cond_true,cond_false,dy,EB,pA,sj]<;>first|exact auc|exact aud
theorem aue (ts:ae Table)(k:Nat)(t:Table)(hk:k<=ts.l.length)(h:bk ts.l):bW (G3 ts (k:Int) t) 0=some (bif my ts.l k t.Name then .ret ()else .go ()):=by
 have hlen:(ts.l.take k).length=k:=by rw[q9];omega
 have aC:bk (ts.l.take k):=by unfold bk at h⊢; omega
 have:=mw (f:=G3 ts (k:Int) t) (ts.l.take k) aC (fun u=>u.Name==t.Name) (fun j x hx=>by
  have aG:=(eY.1 hx).1;rw[hlen]at aG;rw[I7,if_pos aG]at hx;have hd:decide ((j:Int)<(k:Int))=true:=by simp;exact aG
  simp only[G3,hd,cond_true,dc,hx,aS];cases x.Name==t.Name<;>rfl) (by
  rw[hlen];simp[G3])
 exact this
theorem auf{s:ae Int}{ts:ae Table}(hs:kM s.l=true)(h1:bk s.l)(hl:ts.l.length<=12)(hc:∀t∈ts.l,bk t.aZ.l)(fM:∀t∈ts.l,nH t.Name=some (kO t.Name)):
  bW (DL s ts) (0,0,0)=some (MP (Ib s.l ts.l)):=by
 have h:=H8 (f:=DL s ts) (fun k (a:Int × Int) st=>st=(a.1,a.2,(k:Int))/\(0<=a.1/\a.1<=216*k/\0<=a.2/\a.2<=216*k))
  (fun k a x=>(qn s.l ts.l k a x).map id MP) (fun a=>MP (some a)) ts.l (fun k a t st hx U=>by
  obtain⟨rfl,⟨ak,a2,a3,a4⟩⟩:=U;have aG:=(eY.1 hx).1;have dD:=eZ hx;have hd:decide ((k:Int)<ts.len)=true:=by simp[dn];exact aG
  have ag:DL s ts (a.1,a.2,(k:Int))=bif lF s.l t&&!(my ts.l k t.Name)then
    (bif gx t then(bif t.cz==a.1 then some (.next ((aL (a.1+wid s.l t.aZ.l)),a.2,(aL (k+1))))else some (.out (.ret ())))
      else(bif t.cz==a.2 then some (.next (a.1,(aL (a.2+wid s.l t.aZ.l)),(aL (k+1))))else some (.out (.ret ()))))
    else some (.out (.ret ())):=by
   simp only[DL,hd,cond_true,dc,hx,aS];rw[aue ts k t (by omega) (by unfold bk;omega)];simp only[aS];cases aBL:my ts.l k t.Name with
   |true=>simp
   |false=>
    simp only[cond_false,Tf s t.aZ h1 (hc t dD),fM t dD,aS,pA,sj];unfold lF;cases hn:kO t.Name with
    |false=>rfl
    |true=>
     simp only[cond_true,dy];by_cases k0:t.Kind<0
     ·have:decide (t.Kind>=0)=false:=by simp;omega
      simp[k0,this]
     ·by_cases vg:t.Kind>5
      ·have:decide (t.Kind<=5)=false:=by simp;omega
       simp[k0,vg,this]
      ·have fP:decide (t.Kind<0)=false:=by simpa using k0
       have q1:decide (t.Kind>5)=false:=by simpa using vg
       have q2:decide (t.Kind>=0)=true:=by simp;omega
       have b3:decide (t.Kind<=5)=true:=by simp;omega
       simp only[fP,q1,q2,b3,cond_false,dy];unfold Ie;rw[hs];cases jB:kN s.l.length t.aZ.l with
       |false=>rfl
       |true=>
        have hw:=s6 hs jB;have bq:(wid s.l t.aZ.l==0)=false:=by simp;omega
        simp only[dy,cond_true,bq,aS,cond_false];rw[aub t (by omega) (by omega)];cases((decide (t.Range.fq>t.Range.fr))||((decide (t.Range.fq<(-9999)))||(decide (t.Range.fr>9999))))with
        |true=>rfl
        |false=>
         cases(bif (t.Kind==0)then((t.Range.fq != 0)||(t.Range.fr != 1))else(bif (t.Kind==2)then((t.Range.fq != 0)||(t.Range.fr != 1))else((t.Kind==3)&&((t.Range.fq != 0)||(t.Range.fr != 1)))))with
         |true=>rfl
         |false=>
          simp only[cond_false,pA,dy,cond_true,A2,aS];unfold gx;cases(t.Kind==0||t.Kind==1)<;>simp only[cond_true,cond_false,bne]
          ·cases t.cz==a.2<;>rfl
          ·cases t.cz==a.1<;>rfl
  rw[ag];unfold qn;cases a1:lF s.l t&&!(my ts.l k t.Name)with
  |false=>rfl
  |true=>
   have jB:kN s.l.length t.aZ.l=true:=by
    simp only[cm]at a1;have:=a1.1;unfold lF at this;simp only[cm]at this;exact this.2.2.1
   have hw:=s6 hs jB;have hk:(k:Int)<=12:=by omega
   simp only[cond_true];cases gx t with
   |true=>
    simp only[cond_true];cases t.cz==a.1 with
    |false=>rfl
    |true=>
     simp only[cond_true,Sum.map_inl,id];rw[fF (n:=(k:Int)+1) (by omega) (by omega),fF (n:=a.1+wid s.l t.aZ.l) (by omega) (by omega)];exact⟨_,rfl,rfl,⟨by omega,by omega,a3,by omega⟩⟩
   |false=>
    simp only[cond_false];cases t.cz==a.2 with
    |false=>rfl
    |true=>
     simp only[cond_true,Sum.map_inl,id];rw[fF (n:=(k:Int)+1) (by omega) (by omega),fF (n:=a.2+wid s.l t.aZ.l) (by omega) (by omega)];exact⟨_,rfl,rfl,⟨ak,by omega,by omega,by omega⟩⟩) (fun a st U=>by
  obtain⟨rfl,-⟩:=U;have hd:decide ((ts.l.length:Int)<ts.len)=false:=by simp[dn]
  simp only[DL,hd,cond_false];rfl) (a:=(0,0)) (s:=(0,0,0)) ⟨rfl,by simp⟩
 rw[h,Td MP (fin:=some)];rfl
theorem MQ (s:ae Int)(ts:ae Table)(h1:bk s.l)(h2:bk ts.l)(hc:∀t∈ts.l,bk t.aZ.l)(fM:∀t∈ts.l,nH t.Name=some (kO t.Name)):A6 s ts=some (gQ s.l ts.l):=by
 unfold A6;rw[Te s h1];have ad:decide (s.len>4)=!decide (s.l.length<=4):=by rw[dn];by_cases q:s.l.length<=4<;>simp[q]<;>omega
 have e2:decide (ts.len>12)=!decide (ts.l.length<=12):=by rw[dn];by_cases q:ts.l.length<=12<;>simp[q]<;>omega
 rw[ad,e2];unfold gQ;cases gM:decide (s.l.length<=4)with
 |false=>rfl
 |true=>
  cases hs:kM s.l with
  |false=>simp
  |true=>
   cases ht:decide (ts.l.length<=12)with
   |false=>rfl
   |true=>
    simp only[fZ,cond_false,aS,cond_true,dy];rw[auf hs h1 (by simpa using ht) hc fM];simp only[aS];cases Ib s.l ts.l with
    |none=>rfl
    |some a=>rfl
end
end Go.Abs.bA
namespace Go.Abs.bA
open Go Go.Abs
noncomputable section
def eD (s:List Int)(ts:List Table)(b:Bool):List Range:=ts.flatMap fun t=>bif gx t==b then List.replicate (wid s t.aZ.l).toNat t.Range else[]
theorem afl{s:List Int}{ts:List Table}:∀(l:List Table) (k:Nat) (a p:Int × Int),j0 (qn s ts) some k a l=some p->∀t∈l,lF s t=true
 |[],_,_,_,_,t,h=>by cases h
 |x::r,k,a,p,h,t,ht=>by
  simp only[j0]at h;cases ca:qn s ts k a x with
  |inr o=>
   rw[ca]at h
   have ho:o=none:=by
    unfold qn at ca;cases bu:lF s x&&!(my ts k x.Name)<;>cases hb:gx x<;>cases hc:x.cz==a.1<;>cases hd:x.cz==a.2<;>rw[bu]at ca<;>simp only[hb,hc,hd,cond_true,cond_false]at ca<;>first|(cases ca;rfl)|cases ca
   rw[ho]at h;cases h
  |inl bn=>
   rw[ca]at h;rcases dG.1 ht with rfl|ht
   ·unfold qn at ca
    cases a1:lF s t&&!(my ts k t.Name)with
    |false=>rw[a1]at ca;cases ca
    |true=>simp only[cm]at a1;exact a1.1
   ·exact afl r (k+1) bn p h t ht
theorem r7{s:List Int}{ts:List Table}(h:gQ s ts=true):s.length<=4/\ts.length<=12/\kM s=true/\∀t∈ts,lF s t=true:=by
 unfold gQ at h;simp only[cm,decide_eq_true_eq]at h;obtain⟨h1,h2,au,a7⟩:=h;refine⟨h1,h2,au,?_⟩;split at a7
 ·rename_i a b hr
  exact afl ts 0 (0,0) _ hr
 ·cases a7
theorem q3{s:List Int}{t:Table}(h:lF s t=true):kN s.length t.aZ.l=true:=by
 unfold lF at h;simp only[cm]at h;exact h.2.2.1
theorem BT{α:Type}{ni:Nat}{x y:ae α}(hb:ni+1<=1000)(h:x.l.length+y.l.length<=1000000000):∃z,hh ni x y=some z/\z.l=x.l++y.l:=by
 unfold hh;split
 ·rename_i e;exact⟨x,rfl,by rw[e];simp⟩
 ·have:(x.l.length+y.l.length)*(ni+1)<=2^40:=by
   have:(x.l.length+y.l.length)*(ni+1)<=1000000000*1000:=Nat.mul_le_mul h hb;omega
  rw[if_pos this];exact⟨_,rfl,rfl⟩
theorem aug (r:Range)(n:Int)(h:1<=n/\n<=1000):∃z,Ds (ae.mk [r]) n=some z/\z.l=List.replicate n.toNat r:=by
 refine⟨_,if_pos ⟨rfl,h⟩,?_⟩;show(List.replicate n.toNat [r]).flatten=_
 induction n.toNat with
 |zero=>rfl
 |succ n ih=>rw[Ex,Jc,ih,Ex];rfl
theorem Tg{s:List Int}(hs:kM s=true)(b:Bool):∀ts:List Table,(∀t∈ts,lF s t=true)->(eD s ts b).length<=216*ts.length
 |[],_=>by simp[eD]
 |t::ts,h=>by
  have ih:=Tg hs b ts (fun u hu=>h u (by simp[hu]));have hw:=s6 hs (q3 (h t (by simp)));unfold eD at ih⊢;rw[lH,hO,iI]
  have:(bif gx t==b then List.replicate (wid s t.aZ.l).toNat t.Range else[]).length<=216:=by
   cases gx t==b<;>simp;omega
  omega
theorem Ig (s:List Int)(b:Bool){ts:List Table}{k:Nat}{t:Table}(h:ts[k]? =some t):eD s (ts.take (k+1)) b=eD s (ts.take k) b++(bif gx t==b then List.replicate (wid s t.aZ.l).toNat t.Range else[]):=by
 unfold eD;rw[xN,h];simp
theorem MR{s:List Int}(hs:kM s=true)(b:Bool){ts:List Table}(h:∀t∈ts,lF s t=true)(hl:ts.length<=12)(k:Nat):(eD s (ts.take k) b).length<=2592:=by
 have:=Tg hs b (ts.take k) (fun t ht=>h t (Ew ht));have:(ts.take k).length<=12:=by rw[q9];omega
 omega
theorem Th (s:ae Int)(ts:ae Table)(b:Bool)(h1:bk s.l)(h2:bk ts.l)(hc:∀t∈ts.l,bk t.aZ.l):
  ∃x,AR s ts b=some x/\x.l=bif gQ s.l ts.l then eD s.l ts.l b else[]:=by
 unfold AR;rw[MO s ts h1 h2 hc];simp only[aS];cases af:gQ s.l ts.l with
 |false=>exact⟨.nil,rfl,rfl⟩
 |true=>
  obtain⟨q1,q2,b3,cS⟩:=r7 af
  obtain⟨o,ad,e2⟩:=MI (f:=Gp s ts b) (fun k st=>∃a:ae Range,st=((k:Int),a)/\a.l=eD s.l (ts.l.take k) b) (fun o=>o.l=eD s.l ts.l b) ts.l (fun k t st hx U=>by
   obtain⟨a,rfl,al⟩:=U;have aG:=(eY.1 hx).1;have dD:=eZ hx;have hd:decide ((k:Int)<ts.len)=true:=by simp[dn];exact aG
   have jB:=q3 (cS t dD);have hw:=s6 b3 jB;have kF:=MR b3 b cS q2 k;cases hb:gx t==b with
   |false=>
    refine⟨(((k+1:Nat):Int),a),?_,a,rfl,?_⟩
    ·simp only[Gp,hd,cond_true,dc,hx,aS,ML,hb,cond_false]
     rw[fF (by omega) (by omega)];rfl
    ·rw[Ig s.l b hx,hb,al];simp
   |true=>
    obtain⟨z,qD,el⟩:=aug t.Range (wid s.l t.aZ.l) (by omega);obtain⟨y,jr,rY⟩:=BT (ni:=16) (x:=a) (y:=z) (by omega) (by rw[al,el,vI];omega);refine⟨(((k+1:Nat):Int),y),?_,y,rfl,?_⟩
    ·simp only[Gp,hd,cond_true,dc,hx,aS,ML,hb,Tb s t.aZ b3 jB,qD,jr]
     rw[fF (by omega) (by omega)];rfl
    ·rw[Ig s.l b hx,hb,rY,al,el];rfl) (fun st U=>by
   obtain⟨a,rfl,al⟩:=U;have hd:decide ((ts.l.length:Int)<ts.len)=false:=by simp[dn]
   refine⟨a,by simp only[Gp,hd,cond_false],?_⟩;rw[al,Ci]) (s:=(0,.nil)) ⟨.nil,rfl,rfl⟩
  exact⟨o,by simp only[cond_true];rw[ad];rfl,e2⟩
theorem auh{s:ae Int}{ts:ae Table}{b:Bool}(h1:bk s.l){k:Nat}{t:Table}(hx:ts.l[k]? =some t)(MS:bk t.aZ.l)(b3:kM s.l=true)(jB:kN s.l.length t.aZ.l=true){a:ae Range}(al:a.l.length<=2592):
  ∃o,bW (A7 s ts b (k:Int)) (0,a)=some o/\o.l=a.l++(bif gx t==b then List.replicate (wid s.l t.aZ.l).toNat t.Range else[]):=by
 have hw:=s6 b3 jB;have MT:yK s t.aZ=some (wid s.l t.aZ.l):=by rw[Tf s t.aZ h1 MS];unfold Ie;rw[b3,jB];rfl
 have ca:A2 t.Kind=some (gx t):=rfl;cases hb:gx t==b with
 |false=>
  refine⟨a,?_,by simp⟩;rw[hG]
  have:A7 s ts b (k:Int) (0,a)=some (.out a):=by
   simp only[A7,dc,hx,aS,ca,hb,cond_false]
  rw[this]
 |true=>
  obtain⟨o,ad,e2⟩:=MI (f:=A7 s ts b (k:Int)) (fun j st=>∃x:ae Range,st=((j:Int),x)/\x.l=a.l++List.replicate j t.Range) (fun o=>o.l=a.l++List.replicate (wid s.l t.aZ.l).toNat t.Range) (List.replicate (wid s.l t.aZ.l).toNat ()) (fun j u st hj U=>by
   obtain⟨x,rfl,js⟩:=U;have aG:=(eY.1 hj).1;rw[vI]at aG;have hd:decide ((j:Int)<wid s.l t.aZ.l)=true:=by simp;omega
   obtain⟨y,jr,rY⟩:=BT (ni:=16) (x:=x) (y:=ae.mk [t.Range]) (by omega) (by rw[js];simp only[hO,vI];show _+_+1<=_;omega);refine⟨(((j+1:Nat):Int),y),?_,y,rfl,?_⟩
   ·simp only[A7,dc,hx,aS,ca,hb,cond_true,MT,hd,jr]
    rw[fF (by omega) (by omega)];rfl
   ·rw[rY,js,kR]
    congr 1;rw[Vm];rfl) (fun st U=>by
   obtain⟨x,rfl,js⟩:=U;rw[vI]at js⊢;have hd:decide ((((wid s.l t.aZ.l).toNat:Nat):Int)<wid s.l t.aZ.l)=false:=by simp;omega
   exact⟨x,by simp only[A7,dc,hx,aS,ca,hb,cond_true,MT,hd,cond_false],js⟩) (s:=(0,a)) ⟨a,rfl,by simp⟩
  exact⟨o,ad,by simpa using e2⟩
theorem afm (s:ae Int)(ts:ae Table)(b:Bool)(h1:bk s.l)(h2:bk ts.l)(hc:∀t∈ts.l,bk t.aZ.l)(fM:∀t∈ts.l,nH t.Name=some (kO t.Name)):
  ∃x,Lw s ts b=some x/\x.l=bif gQ s.l ts.l then eD s.l ts.l b else[]:=by
 unfold Lw;rw[MQ s ts h1 h2 hc fM];simp only[aS];cases af:gQ s.l ts.l with
 |false=>exact⟨.emp,rfl,rfl⟩
 |true=>
  obtain⟨q1,q2,b3,cS⟩:=r7 af
  obtain⟨o,ad,e2⟩:=MI (f:=Lv s ts b) (fun k st=>∃a:ae Range,st=((k:Int),a)/\a.l=eD s.l (ts.l.take k) b) (fun o=>o.l=eD s.l ts.l b) ts.l (fun k t st hx U=>by
   obtain⟨a,rfl,al⟩:=U;have aG:=(eY.1 hx).1;have dD:=eZ hx;have hd:decide ((k:Int)<ts.len)=true:=by simp[dn];exact aG
   have jB:=q3 (cS t dD);have kF:=MR b3 b cS q2 k;obtain⟨y,jr,rY⟩:=auh (b:=b) h1 hx (hc t dD) b3 jB (a:=a) (by rw[al];exact kF);refine⟨(((k+1:Nat):Int),y),?_,y,rfl,?_⟩
   ·simp only[Lv,hd,cond_true]
    rw[jr];simp only[aS];rw[fF (by omega) (by omega)];rfl
   ·rw[Ig s.l b hx,rY,al]) (fun st U=>by
   obtain⟨a,rfl,al⟩:=U;have hd:decide ((ts.l.length:Int)<ts.len)=false:=by simp[dn]
   refine⟨a,by simp only[Lv,hd,cond_false],?_⟩;rw[al,Ci]) (s:=(0,.emp)) ⟨.emp,rfl,rfl⟩
  exact⟨o,by simp only[cond_true];rw[ad];rfl,e2⟩
end
end Go.Abs.bA
