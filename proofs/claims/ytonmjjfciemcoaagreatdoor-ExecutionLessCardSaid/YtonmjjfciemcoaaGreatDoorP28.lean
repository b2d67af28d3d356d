/- Texts of this claim, joined and written short by a program. -/
import Derived.Test.YtonmjjfciemcoaaGreatDoorP19
import Derived.Test.YtonmjjfciemcoaaGreatDoorP26
import Derived.Test.YtonmjjfciemcoaaGreatDoorP27
import Derived.Test.YtonmjjfciemcoaaGreatDoorP20
import Derived.Test.YtonmjjfciemcoaaGreatDoorP00
set_option linter.unusedVariables false
set_option linter.unusedSimpArgs false
set_option linter.unusedSectionVars false
set_option maxHeartbeats 2000000
namespace Go.Abs.bz
open Go Go.Abs
noncomputable section
abbrev ke (j:dV):List V:=[bn 1 aI j.Model.bH,bn 6 l8 j.Model.Tables,bn 1 V.str j.Model.ff,bn 6 uc j.Model.cN,bn 3 ud j.Model.Operations,bn 5 uf j.Model.Actions,bn 3 jH j.Model.cf,bn 2 rz j.strict]
def B6 (ai:dV):(Int)->Option (di (Int) (cz (Unit) (Unit))):=fun i12=>(bif (decide (i12<ai.Model.cf.len))then((bE ai.Model.cf.l i12).bind fun eT=>((((mS eT.Table ai.Model.Tables.len).bind fun uo=>(bif uo then((mS eT.dp ai.Model.Tables.len).bind fun j9=>(bif j9 then some (eT.Table==eT.dp)else some true))else some true)):Option (Bool)).bind fun xe=>(bif xe then some (.out (.ret ()))else((bE ai.Model.Tables.l eT.Table).bind fun ij=>((bE ai.Model.Tables.l eT.dp).bind fun hI=>(((bif (ij.Kind != 0)then some true else(bif (hI.Kind != 0)then some true else((mS eT.j6 ij.ch.len).bind fun vr=>(bif vr then(bif (hI.ch.len != 1)then some true else((bE hI.ch.l 0).bind fun sQ=>((bE ij.ch.l eT.j6).bind fun xi=>some (sQ != xi))))else some true)))):Option (Bool)).bind fun HP=>(bif HP then some (.out (.ret ()))else some (.next (aM (i12+1))))))))))else some (.out (.go ())))
def B7 (ai:dV):(Int × (List (Int × Bool)))->Option (di (Int × (List (Int × Bool))) ((List (Int × Bool)))):=fun⟨sS,i91⟩=>(bif (decide (sS<ai.Model.cf.len))then((bE ai.Model.cf.l sS).bind fun mU=>some (.next ((aM (sS+1)),(mM i91 mU.Table true))))else some (.out i91))
def Nn (ai:dV):Option Bool:=bif (decide (ai.Model.cf.len>12))then some false else((cd (B6 ai) 0:Option (cz Unit Unit)).bind fun o=>match o with| .go _=>some true| .ret _=>some false)
def za:bZ->bZ| .seq a _=>a|c=>c
def lO:bZ->bZ| .seq _ a=>a|c=>c
def hA (k:Nat):bZ:=match k with
 |1=>za B3.body
 |2=>za (lO B3.body)
 |3=>za (lO (lO B3.body))
 |4=>za (lO (lO (lO B3.body)))
 |5=>za (lO (lO (lO (lO B3.body))))
 |6=>za (lO (lO (lO (lO (lO B3.body)))))
 | _=>lO (lO (lO (lO (lO (lO B3.body)))))
section
variable{aa:Nat->Option bU}{b:Nat}{σ:bW}{H H0:Heap}
theorem awm (Tw:Nd aa)(ai:dV){r:Bool}(h:Nn ai=some r):
  fc aa b (.seq (hA 1) (.seq (hA 2) (hA 3))) (xb 0 ([.agg (ke ai)]++[])) H0 fun x aW H'=>match(generalizing:=false) r with
   |false=>x=.ret/\At aW [2] [.bool false]
   |true=>x=.normal/\∃al,b<=al/\At aW [1] [.ptr al 0]/\Own H' [[(al,.cells (ke ai))]]:=by
 unfold Nn at h;refine pH <| Rh (cs:=(ke ai)) rfl (Own.nil H0) rfl (by simp[bL]) fun uC al pq Tx=>pp (.bool false) <| gJ <| qF <| pH <| pp (.ptr al 0) <| pp (.ptr al 6) <| ph (bn 3 jH ai.Model.cf) (iz rfl (Tx.get 0 rfl) rfl) <| ph (aI ai.Model.cf.len) (w7 rfl _) <| pp (.bool (decide (ai.Model.cf.len>12))) <| gJ <| ?_
 rcases ru h with⟨ie,h⟩|⟨ie,h⟩
 ·refine A1 rfl ie <| pH <| pp (.bool false) <| gJ <| A0 <| ?_
  cases h;exact⟨rfl,rfl⟩
 ·refine A2 rfl ie <| AZ <| pH <| pp (.ptr al 0) <| pp (.ptr al 6) <| ph (bn 3 jH ai.Model.cf) (iz rfl (Tx.get 0 rfl) rfl) <| ph (aI ai.Model.cf.len) (w7 rfl _) <| pp (aI 0) <| gJ <| G2 <| ?_
  obtain⟨Hr,awn,h⟩:=bind_some h;refine cM (B6 ai) (fun s aW H'=>At aW [1,18,19,20] [.ptr al 0,bn 3 jH ai.Model.cf,aI ai.Model.cf.len,aI s]/\Own H' ([(al,.cells (ke ai))]::[])) (fun o=>fun fQ aW H'=>match(generalizing:=false) o with| .go s=>fQ=(.exit 0)/\At aW [1] [.ptr al 0]/\Own H' ([(al,.cells (ke ai))]::[])| .ret s=>fQ=.ret/\At aW [2] [.bool false]/\Own H' []) awn ⟨rfl,Tx⟩ ?_ ?_
  ·rintro i12 cU aEq r bq jK
   dsimp only[B6]at jK
   try dsimp only at bq
   obtain⟨I2,agY⟩:=bq;refine dQ I2 <| pH <| pp (.bool (decide (i12<ai.Model.cf.len))) <| gJ <| qF <| ?_
   rcases ru jK with⟨Ty,jK⟩|⟨Ty,jK⟩
   ·refine A1 rfl Ty <| AZ <| qF <| G2 <| pH <| ?_
    obtain⟨eT,awo,jK⟩:=bind_some jK;refine ph (.dO (aC (jH eT)) 0) (A5 rfl rfl awo _) <| pp (.agg [aI eT.Table,aI eT.j6,aI eT.dp]) <| A7 rfl agY fun aEr vH awp awq=>A8 (vs:=[aI eT.Table,aI eT.j6,aI eT.dp]) (cs':=[aI eT.Table,aI eT.j6,aI eT.dp]) rfl awq 0 rfl awp rfl rfl ⟨rfl,mh rfl⟩ (by simp[bL]) rfl fun aEs xB=>gJ <| qF <| qF <| ?_
    obtain⟨xe,rQ,jK⟩:=bind_some jK;refine Rg (fun fQ aW H'=>(fun s=>fQ=.normal/\At aW [1,4,18,19,20,48] [.ptr al 0,.ptr vH 0,bn 3 jH ai.Model.cf,aI ai.Model.cf.len,aI i12,.bool s]/\Own H' ([(vH,.cells [aI eT.Table,aI eT.j6,aI eT.dp])]::[(al,.cells (ke ai))]::[])) xe) ?_ ?_
    ·refine vj <| pp (.ptr vH 0) <| ph (aI eT.Table) (iz rfl (xB.get 0 rfl) rfl) <| pp (.ptr al 0) <| pp (.ptr al 1) <| ph (bn 6 l8 ai.Model.Tables) (iz rfl (xB.get 1 rfl) rfl) <| ph (aI ai.Model.Tables.len) (w7 rfl _) <| ?_
     obtain⟨uo,awr,rQ⟩:=bind_some rQ;refine ph (.bool uo) (DS (Tw _ _ _ _ awr) (vk (by simp[cj,bI])) rfl rfl) <| pp (.bool (!uo)) <| pp (.bool (!uo)) <| ?_
     rcases ru rQ with⟨mX,rQ⟩|⟨mX,rQ⟩
     ·refine lj (.ptr vH 2) (l4 mX) <| jb (v:=(aI eT.dp)) (jo rfl (l4 mX)) (iz rfl (xB.get 0 rfl) rfl) <| lj (.ptr al 0) (l4 mX) <| lj (.ptr al 1) (l4 mX) <| jb (v:=(bn 6 l8 ai.Model.Tables)) (jo rfl (l4 mX)) (iz rfl (xB.get 1 rfl) rfl) <| jb (v:=(aI ai.Model.Tables.len)) (jo rfl (l4 mX)) (w7 rfl _) <| ?_
      obtain⟨j9,aws,rQ⟩:=bind_some rQ;refine jb (v:=(.bool j9)) (jo rfl (l4 mX)) (DS (Tw _ _ _ _ aws) (vk (by simp[cj,bI])) rfl rfl) <| lj (.bool (!j9)) (l4 mX) <| ph (.bool (!j9)) (DR rfl (l4 mX)) <| pp (.bool (!j9)) <| ?_
      rcases ru rQ with⟨rR,rQ⟩|⟨rR,rQ⟩
      ·refine lj (.ptr vH 0) (l4 rR) <| jb (v:=(aI eT.Table)) (jo rfl (l4 rR)) (iz rfl (xB.get 0 rfl) rfl) <| lj (.ptr vH 2) (l4 rR) <| jb (v:=(aI eT.dp)) (jo rfl (l4 rR)) (iz rfl (xB.get 0 rfl) rfl) <| lj (.bool (eT.Table==eT.dp)) (l4 rR) <| ph (.bool (eT.Table==eT.dp)) (DR rfl (l4 rR)) <| gJ <| ?_
       cases rQ;exact⟨rfl,rfl,xB⟩
      ·refine cC (l5 rR) <| cC (l5 rR) <| cC (l5 rR) <| cC (l5 rR) <| cC (l5 rR) <| ph (.bool true) (rv rfl (l5 rR)) <| gJ <| ?_
       cases rQ;exact⟨rfl,rfl,xB⟩
     ·refine cC (l5 mX) <| cC (l5 mX) <| cC (l5 mX) <| cC (l5 mX) <| cC (l5 mX) <| cC (l5 mX) <| cC (l5 mX) <| cC (l5 mX) <| ph (.bool true) (rv rfl (l5 mX)) <| pp (.bool true) <| cC rfl <| cC rfl <| cC rfl <| cC rfl <| cC rfl <| ph (.bool true) (rv rfl rfl) <| gJ <| ?_
      cases rQ;exact⟨rfl,rfl,xB⟩
    ·intro cq cU aEt oa
     try dsimp only at jK oa
     obtain⟨rfl,awt,Tz⟩:=oa;refine dQ awt <| ?_
     rcases ru jK with⟨TA,jK⟩|⟨TA,jK⟩
     ·refine A1 rfl TA <| pH <| pp (.bool false) <| gJ <| A0 <| ?_
      cases jK;exact⟨nofun,⟨rfl,rfl,((Tz.drop 0).drop 0)⟩⟩
     ·refine A2 rfl TA <| AZ <| qF <| ?_
      obtain⟨ij,awu,jK⟩:=bind_some jK;obtain⟨hI,awv,jK⟩:=bind_some jK;refine aem 14 Tz rfl (.pp (.ptr al 0) <| .pp (.ptr al 1) <| .ph (bn 6 l8 ai.Model.Tables) (fun _ xC=>(iz rfl (xC.get 1 rfl) rfl)) <| .pp (.ptr vH 0) <| .ph (aI eT.Table) (fun _ xC=>(iz rfl (xC.get 0 rfl) rfl)) <| .ph (.dO (aC (l8 ij)) 0) (fun _ xC=>(A5 rfl rfl awu _)) <| .pp (.agg [.str ij.Name,aI ij.Kind,bn 1 aI ij.ch,aI ij.Range.jI,aI ij.Range.j7,aI ij.dK]) <| .pp (.ptr al 0) <| .pp (.ptr al 1) <| .ph (bn 6 l8 ai.Model.Tables) (fun _ xC=>(iz rfl (xC.get 1 rfl) rfl)) <| .pp (.ptr vH 2) <| .ph (aI eT.dp) (fun _ xC=>(iz rfl (xC.get 0 rfl) rfl)) <| .ph (.dO (aC (l8 hI)) 0) (fun _ xC=>(A5 rfl rfl awv _)) <| .pp (.agg [.str hI.Name,aI hI.Kind,bn 1 aI hI.ch,aI hI.Range.jI,aI hI.Range.j7,aI hI.dK]) <| .nil) fun agZ=>A7 rfl Tz fun aEu TB TC aww=>A7 rfl aww fun aEv TD TE awx=>A8 (vs:=[.str ij.Name,aI ij.Kind,bn 1 aI ij.ch,aI ij.Range.jI,aI ij.Range.j7,aI ij.dK]) (cs':=[.str ij.Name,aI ij.Kind,bn 1 aI ij.ch,aI ij.Range.jI,aI ij.Range.j7,aI ij.dK]) rfl awx 1 rfl TC rfl rfl ⟨rfl,mh rfl⟩ (by simp[bL]) rfl fun aEw awy=>A8 (vs:=[.str hI.Name,aI hI.Kind,bn 1 aI hI.ch,aI hI.Range.jI,aI hI.Range.j7,aI hI.dK]) (cs':=[.str hI.Name,aI hI.Kind,bn 1 aI hI.ch,aI hI.Range.jI,aI hI.Range.j7,aI hI.dK]) rfl awy 0 rfl TE rfl rfl ⟨rfl,mh rfl⟩ (by simp[bL]) rfl fun aEx rS=>gJ ⟨rfl,?_⟩;replace TE:=cY agZ TE;replace TC:=cY agZ TC;refine qF <| ?_
      obtain⟨HP,kU,jK⟩:=bind_some jK;refine Rg (fun fQ aW H'=>(fun s=>fQ=.normal/\At aW [1,18,19,20,98] [.ptr al 0,bn 3 jH ai.Model.cf,aI ai.Model.cf.len,aI i12,.bool s]/\Own H' ([(al,.cells (ke ai))]::[])) HP) ?_ ?_
      ·refine adZ <| pp (.ptr TB 1) <| ph (aI ij.Kind) (iz rfl (rS.get 1 rfl) rfl) <| pp (.bool (ij.Kind != 0)) <| pp (.bool (ij.Kind != 0)) <| ?_
       rcases ru kU with⟨xD,kU⟩|⟨xD,kU⟩
       ·refine cC xD <| cC xD <| cC xD <| ph (.bool true) (rv rfl xD) <| pp (.bool true) <| cC rfl <| cC rfl <| cC rfl <| cC rfl <| cC rfl <| cC rfl <| cC rfl <| ph (.bool true) (rv rfl rfl) <| pp (.bool true) <| cC rfl <| cC rfl <| cC rfl <| cC rfl <| ph (.bool true) (rv rfl rfl) <| pp (.bool true) <| cC rfl <| cC rfl <| cC rfl <| cC rfl <| cC rfl <| cC rfl <| cC rfl <| cC rfl <| cC rfl <| cC rfl <| cC rfl <| ph (.bool true) (rv rfl rfl) <| gJ ⟨rfl,?_⟩
        cases kU;exact⟨rfl,rfl,(((rS.drop 0).drop 0).drop 0)⟩
       ·refine lj (.ptr TD 1) xD <| jb (v:=(aI hI.Kind)) (jo rfl xD) (iz rfl (rS.get 0 rfl) rfl) <| lj (.bool (hI.Kind != 0)) xD <| ph (.bool (hI.Kind != 0)) (DR rfl xD) <| pp (.bool (hI.Kind != 0)) <| ?_
        rcases ru kU with⟨iy,kU⟩|⟨iy,kU⟩
        ·refine cC iy <| cC iy <| cC iy <| cC iy <| cC iy <| cC iy <| cC iy <| ph (.bool true) (rv rfl iy) <| pp (.bool true) <| cC rfl <| cC rfl <| cC rfl <| cC rfl <| ph (.bool true) (rv rfl rfl) <| pp (.bool true) <| cC rfl <| cC rfl <| cC rfl <| cC rfl <| cC rfl <| cC rfl <| cC rfl <| cC rfl <| cC rfl <| cC rfl <| cC rfl <| ph (.bool true) (rv rfl rfl) <| gJ ⟨rfl,?_⟩
         cases kU;exact⟨rfl,rfl,(((rS.drop 0).drop 0).drop 0)⟩
        ·refine lj (.ptr vH 1) iy <| jb (v:=(aI eT.j6)) (jo rfl iy) (iz rfl (rS.get 2 rfl) rfl) <| lj (.ptr TB 2) iy <| jb (v:=(bn 1 aI ij.ch)) (jo rfl iy) (iz rfl (rS.get 1 rfl) rfl) <| jb (v:=(aI ij.ch.len)) (jo rfl iy) (w7 rfl _) <| ?_
         obtain⟨vr,awz,kU⟩:=bind_some kU;refine jb (v:=(.bool vr)) (jo rfl iy) (DS (Tw _ _ _ _ awz) (vk (by simp[cj,bI])) rfl rfl) <| lj (.bool (!vr)) iy <| ph (.bool (!vr)) (DR rfl iy) <| pp (.bool (!vr)) <| ?_
         rcases ru kU with⟨uD,kU⟩|⟨uD,kU⟩
         ·refine lj (.ptr TD 2) (l4 uD) <| jb (v:=(bn 1 aI hI.ch)) (jo rfl (l4 uD)) (iz rfl (rS.get 0 rfl) rfl) <| jb (v:=(aI hI.ch.len)) (jo rfl (l4 uD)) (w7 rfl _) <| lj (.bool (hI.ch.len != 1)) (l4 uD) <| ph (.bool (hI.ch.len != 1)) (DR rfl (l4 uD)) <| pp (.bool (hI.ch.len != 1)) <| ?_
          rcases ru kU with⟨kf,kU⟩|⟨kf,kU⟩
          ·refine cC kf <| cC kf <| cC kf <| cC kf <| cC kf <| cC kf <| cC kf <| cC kf <| cC kf <| cC kf <| cC kf <| ph (.bool true) (rv rfl kf) <| gJ ⟨rfl,?_⟩
           cases kU;exact⟨rfl,rfl,(((rS.drop 0).drop 0).drop 0)⟩
          ·refine lj (.ptr TD 2) kf <| jb (v:=(bn 1 aI hI.ch)) (jo rfl kf) (iz rfl (rS.get 0 rfl) rfl) <| ?_
           obtain⟨sQ,awA,kU⟩:=bind_some kU;refine jb (v:=(.dO (aC (aI sQ)) 0)) (jo rfl kf) (A5 rfl rfl awA _) <| lj (aI sQ) kf <| lj (.ptr TB 2) kf <| jb (v:=(bn 1 aI ij.ch)) (jo rfl kf) (iz rfl (rS.get 1 rfl) rfl) <| lj (.ptr vH 1) kf <| jb (v:=(aI eT.j6)) (jo rfl kf) (iz rfl (rS.get 2 rfl) rfl) <| ?_
           obtain⟨xi,awB,kU⟩:=bind_some kU;refine jb (v:=(.dO (aC (aI xi)) 0)) (jo rfl kf) (A5 rfl rfl awB _) <| lj (aI xi) kf <| lj (.bool (sQ != xi)) kf <| ph (.bool (sQ != xi)) (DR rfl kf) <| gJ ⟨rfl,?_⟩
           cases kU;exact⟨rfl,rfl,(((rS.drop 0).drop 0).drop 0)⟩
         ·refine cC (l5 uD) <| cC (l5 uD) <| cC (l5 uD) <| cC (l5 uD) <| ph (.bool true) (rv rfl (l5 uD)) <| pp (.bool true) <| cC rfl <| cC rfl <| cC rfl <| cC rfl <| cC rfl <| cC rfl <| cC rfl <| cC rfl <| cC rfl <| cC rfl <| cC rfl <| ph (.bool true) (rv rfl rfl) <| gJ ⟨rfl,?_⟩
          cases kU;exact⟨rfl,rfl,(((rS.drop 0).drop 0).drop 0)⟩
      ·intro cq cU aEy oa
       try dsimp only at jK oa
       obtain⟨rfl,awC,ag0⟩:=oa;refine dQ awC <| ?_
       rcases ru jK with⟨TF,jK⟩|⟨TF,jK⟩
       ·refine A1 rfl TF <| pH <| pp (.bool false) <| gJ <| A0 <| ?_
        cases jK;exact⟨nofun,⟨rfl,rfl,(ag0.drop 0)⟩⟩
       ·refine A2 rfl TF <| AZ <| vj <| pp (aI (aM (i12+1))) <| pp (aI (aM (i12+1))) <| gJ <| ?_
        cases jK;exact⟨rfl,⟨rfl,ag0⟩⟩
   ·refine A2 rfl Ty <| LG <| ?_
    cases jK;exact⟨nofun,⟨rfl,rfl,agY⟩⟩
  ·intro cq cU aEz oa
   cases Hr with
   |go aEA=>
    try dsimp only at h oa
    obtain⟨rfl,awD,awE⟩:=oa;cases h;exact⟨rfl,al,pq,awD,awE⟩
   |ret q=>
    obtain⟨rfl,awF,aw⟩:=oa;cases h;exact⟨rfl,awF⟩
theorem awG (ai:dV){al:Nat}{m:List (Int × Bool)}(awH:At σ [1] [.ptr al 0])(aw:Own H [[(al,.cells (ke ai))]])(h:cd (B7 ai) (0,[])=some m):
  fc aa b (.seq (hA 4) (hA 5)) σ H fun x aW H'=>x=.normal/\∃e4 l,b<=e4/\b<=l/\At aW [1,7] [.ptr al 0,.ptr e4 0]/\Own H' [[(e4,.cells [.map l])],[(l,.map (gK aI V.bool m))],[(al,.cells (ke ai))]]:=by
 rw[<-G7 awH];refine pH <| ad5 rfl aw fun aEB zb ag1 awI=>A7 rfl awI fun aEC a77 ag2 awJ=>A8 (vs:=[.map zb]) (cs':=[.map zb]) rfl awJ 0 rfl ag2 rfl rfl ⟨rfl,mh rfl⟩ (by simp[bL]) rfl fun aED ag3=>gJ <| pH <| pp (.ptr al 0) <| pp (.ptr al 6) <| ph (bn 3 jH ai.Model.cf) (iz rfl (ag3.get 2 rfl) rfl) <| ph (aI ai.Model.cf.len) (w7 rfl _) <| pp (aI 0) <| gJ <| G2 <| ?_
 refine cM (B7 ai) (fun s aW H'=>At aW [1,7,103,104,105] [.ptr al 0,.ptr a77 0,bn 3 jH ai.Model.cf,aI ai.Model.cf.len,aI s.1]/\Own H' ([(a77,.cells [.map zb])]::[(zb,.map (gK aI V.bool s.2))]::[(al,.cells (ke ai))]::[])) (fun o=>fun fQ aW H'=>fQ=(.exit 2)/\At aW [1,7] [.ptr al 0,.ptr a77 0]/\Own H' ([(a77,.cells [.map zb])]::[(zb,.map (gK aI V.bool o))]::[(al,.cells (ke ai))]::[])) h ⟨rfl,ag3⟩ ?_ ?_
 ·rintro⟨sS,i91⟩ cU aEE r bq zc
  dsimp only[B7]at zc
  try dsimp only at bq
  obtain⟨awK,ag4⟩:=bq;refine dQ awK <| pH <| pp (.bool (decide (sS<ai.Model.cf.len))) <| gJ <| qF <| ?_
  rcases ru zc with⟨TG,zc⟩|⟨TG,zc⟩
  ·refine A1 rfl TG <| AZ <| qF <| G2 <| pH <| ?_
   obtain⟨mU,awL,zc⟩:=bind_some zc;refine ph (.dO (aC (jH mU)) 0) (A5 rfl rfl awL _) <| pp (.agg [aI mU.Table,aI mU.j6,aI mU.dp]) <| A7 rfl ag4 fun aEF awM awN awO=>A8 (vs:=[aI mU.Table,aI mU.j6,aI mU.dp]) (cs':=[aI mU.Table,aI mU.j6,aI mU.dp]) rfl awO 0 rfl awN rfl rfl ⟨rfl,mh rfl⟩ (by simp[bL]) rfl fun aEG TH=>gJ <| vj <| ph (.map zb) (iz rfl (TH.get 1 rfl) rfl) <| pp (.ptr awM 0) <| ph (aI mU.Table) (iz rfl (TH.get 0 rfl) rfl) <| aeh (hf:=aI) (gL:=V.bool) (m:=i91) (k:=mU.Table) (w:=true) rfl G5 TH 2 rfl ag1 rfl rfl rfl (by simp) fun aEH awP=>gJ <| vj <| pp (aI (aM (sS+1))) <| pp (aI (aM (sS+1))) <| gJ <| ?_
   cases zc;exact⟨rfl,⟨rfl,(awP.drop 0)⟩⟩
  ·refine A2 rfl TG <| LG <| ?_
   cases zc;exact⟨nofun,rfl,rfl,ag4⟩
 ·intro cq cU aEI oa
  obtain⟨rfl,awQ,awR⟩:=oa;exact⟨rfl,a77,zb,ag2,ag1,awQ,awR⟩
theorem awS{e4 l:Nat}{m:List (Int × Bool)}(j:At σ [7] [.ptr e4 0]){ms:cG}(aw:Own H ([(e4,.cells [.map l])]::[(l,.map (gK aI V.bool m))]::ms)):
  fc aa b (hA 7) σ H fun x aW H'=>x=.ret/\At aW [2] [.bool (decide (m.length=0))]:=by
 rw[<-G7 j];refine pH <| ph (.map l) (iz rfl (aw.get 0 rfl) rfl) <| ph (aI (m.length:Int)) (aeg (hf:=aI) (gL:=V.bool) (aw.get 1 rfl) rfl) <| pp (.bool ((m.length:Int)==0)) <| pp (.bool ((m.length:Int)==0)) <| gJ <| A0 <| ?_
 refine⟨rfl,?_⟩;have:((m.length:Int)==0)=decide (m.length=0):=by rw[zG];simp
 rw[<-this];rfl
theorem awT (uE:aa 233=some (.code EJ)){oq e4 l:Nat}{t:Int}{m:List (Int × Bool)}{ms:cG}(aw:Own H ([(oq,.cells [aI t])]::[(e4,.cells [.map l])]::[(l,.map (gK aI V.bool m))]::ms))(h:gM):
  b0 aa (.fn 233 [] [.ptr oq 0,.ptr e4 0]) [.agg [aI h.Table,aI h.j6,aI h.dp]] H=some (.bool ((h.Table==t)&&(jq m h.dp).getD false),H,H.length):=by
 refine aed (caps:=[.ptr oq 0,.ptr e4 0]) uE (mh rfl) rfl ?_ (by simp[bI,cj]);refine pH <| Rh (cs:=[aI h.Table,aI h.j6,aI h.dp]) rfl aw rfl (by simp[bL]) fun uC a3 Ax B8=>pp (.bool false) <| gJ <| pH <| pp (.ptr a3 0) <| ph (aI h.Table) (iz rfl (B8.get 0 rfl) rfl) <| ph (aI t) (iz rfl (B8.get 1 rfl) rfl) <| pp (.bool (h.Table==t)) <| pp (.bool (h.Table==t)) <| ?_
 cases c:h.Table==t with
 |true=>
  refine jb (v:=.map l) (jo rfl rfl) (iz rfl (B8.get 2 rfl) rfl) <| lj (.ptr a3 2) rfl <| jb (v:=aI h.dp) (jo rfl rfl) (iz rfl (B8.get 0 rfl) rfl) <| jb (v:=.bool ((jq m h.dp).getD false)) (jo rfl rfl) (aef (hf:=aI) (gL:=V.bool) G5 false rfl (B8.get 3 rfl) rfl rfl) <| pp (.bool ((jq m h.dp).getD false)) <| pp (.bool ((jq m h.dp).getD false)) <| gJ <| A0 <| ?_
  exact⟨.inr rfl,aeb (.tmp rfl .nil) rfl (by simp[bI,cj])⟩
 |false=>
  refine qG rfl <| qG rfl <| qG rfl <| qG rfl <| pp (.bool false) <| pp (.bool false) <| gJ <| A0 <| ?_
  exact⟨.inr rfl,aeb (.tmp rfl .nil) rfl (by simp[bI,cj])⟩
def o3:bZ:=.region [⟨some (125,false),.fieldAddr 0 (.var 1),none⟩,⟨some (126,false),.fieldAddr 6 (.tmp 125),none⟩,⟨some (127,false),.load none (.tmp 126),none⟩,⟨some (128,false),.uY 233 [] [.var 10,.var 7],none⟩,⟨some (129,false),.call false (.func 232) [.tmp 127,.tmp 128],none⟩,⟨some (130,true),.un .not (.tmp 129),none⟩] none
def aek:List bS:=[⟨some (124,false),.extract (.tmp 123) 0,none⟩,⟨some (10,true),.alloc [aI 0],none⟩,⟨none,.store 1 (.var 10) (.tmp 124),none⟩]
def qO:List bS:=[⟨some (131,false),.load none (.var 7),none⟩,⟨some (132,false),.load none (.var 10),none⟩]
def ab:eY:=⟨[⟨some (119,false),.load none (.var 7),none⟩],.tmp 119,120,(121,false),[⟨some (122,true),.extract (.tmp 121) 0,none⟩],.var 122,7,(123,false),aek,.seq o3 (.cond (.var 130) (.region (qO++[⟨none,.zP 0 (.tmp 131) (.tmp 132),none⟩]) none) .skip)⟩
def n1:B4:=⟨o3,.var 130,qO,.tmp 131,.tmp 132,0⟩
theorem awU (uE:aa 233=some (.code EJ))(lZ:B2 aa){ai:dV}{al oq e4 l:Nat}{t:Int}{m:List (Int × Bool)}{q:Bool}
  (aw:Own H [[(oq,.cells [aI t])],[(e4,.cells [.map l])],[(l,.map (gK aI V.bool m))],[(al,.cells (ke ai))]]) {vs:List V} {ts:List Nat} (j:At σ (1::7::10::ts) (.ptr al 0::.ptr e4 0::.ptr oq 0::vs))
  (bf:Hf ai.Model.cf (fun h=>some ((h.Table==t)&&(jq m h.dp).getD false))=some q):
  fc aa b o3 σ H fun x aW H'=>x=.normal/\H'=H/\aW=up σ 130 (.bool (!q)):=by
 have xE:σ 1=.ptr al 0:=by simpa using(eU j).1
 have awV:σ 7=.ptr e4 0:=by simpa using(eU (eU j).2).1
 have I3:σ 10=.ptr oq 0:=by simpa using(eU (eU (eU j).2).2).1
 have bb:=lZ H _ aw ai.Model.cf _ (.fn 233 [] [.ptr oq 0,.ptr e4 0]) (fun H low=>by simp[fF,dR,bI,cj]) (fun H' z0 fh lM aR=>by
  cases aR;exact awT uE lM z0) q bf
 refine vj <| ph (.ptr al 0) ?_ <| ph (.ptr al 6) rfl <| ph (bn 3 jH ai.Model.cf) (iz rfl (aw.get 3 rfl) rfl) <| ph (.fn 233 [] [.ptr oq 0,.ptr e4 0]) ?_ <| ph (.bool q) (DS bb (ad6 (by simp) (ad7 (fun H low=>by simp[fF,dR,bI,cj]) arp)) rfl rfl) <| pp (.bool (!q)) <| gJ ⟨rfl,rfl,rfl⟩
 ·rw[n3];simp only[bw,xE]
 ·rw[QZ]
  show some (V.fn 233 [] [σ 10,σ 7],H,H.length)=_;rw[I3,awV]
end
end
end Go.Abs.bz
namespace Go.Abs
open Go
theorem fi{n:Int}(h1:-9223372036854775808<=n)(h2:n<=9223372036854775807):aM n=n:=wrap_small h1 (by omega)
theorem ef{α:Type}(l:List α)(k:Nat):bE l (k:Int)=l[k]? :=by simp[bE]
theorem awW{α:Type}{l:List α}{i:Int}{a:α}(h:0<=i)(e:l[i.toNat]? =some a):bE l i=some a:=by simp[bE,h,e]
theorem ag5{α:Type}(l:List α):bE l 0=l[0]? :=ef l 0
def kg{α A O:Type}(step:Nat->A->α->Sum A O)(fin:A->O):Nat->A->List α->O
 | _,a,[]=>fin a
 |k,a,x::r=>match step k a x with
  | .inl bk=>kg step fin (k+1) bk r
  | .inr o=>o
theorem Np{α A S O:Type}{f:S->Option (di S O)}(mk:Nat->A->S)(step:Nat->A->α->Sum A O)(fin:A->O)(I:Nat->A->Prop)(xs:List α)
  (hs:∀k a x,xs[k]? =some x->I k a->f (mk k a)=some (match step k a x with| .inl bk=>.next (mk (k+1) bk)| .inr o=>.out o)/\∀bk,step k a x=.inl bk->I (k+1) bk)
  (he:∀a,I xs.length a->f (mk xs.length a)=some (.out (fin a))) {a:A} (h0:I 0 a):cd f (mk 0 a)=some (kg step fin 0 a xs):=by
 have key:∀(n k:Nat) (a:A),k+n=xs.length->I k a->cd f (mk k a)=some (kg step fin k a (xs.drop k)):=by
  intro n
  induction n with
  |zero=>
   intro k a hk bq;have e:k=xs.length:=by omega
   subst e;rw[fp,he a bq,zy (aH _)];rfl
  |succ n ih=>
   intro k a hk bq;have aT:k<xs.length:=by omega
   obtain⟨h1,h2⟩:=hs k a xs[k] (by simp[aT]) bq;rw[fp,h1,uQ aT];simp only[kg];cases ct:step k a xs[k]with
   |inl bk=>exact ih (k+1) bk (by omega) (h2 bk ct)
   |inr o=>rfl
 have:=key xs.length 0 a (by omega) h0;simpa using this
theorem ag6{α A S O:Type}{f:S->Option (di S O)}(b7:Nat->A->S->Prop)(step:Nat->A->α->Sum A O)(fin:A->O)(xs:List α)
  (hs:∀k a x s,xs[k]? =some x->b7 k a s->match step k a x with| .inl bk=>∃ao,f s=some (.next ao)/\b7 (k+1) bk ao| .inr o=>f s=some (.out o))
  (he:∀a s,b7 xs.length a s->f s=some (.out (fin a))) {a:A} {s:S} (h0:b7 0 a s):cd f s=some (kg step fin 0 a xs):=by
 have key:∀(n k:Nat) (a:A) (s:S),k+n=xs.length->b7 k a s->cd f s=some (kg step fin k a (xs.drop k)):=by
  intro n
  induction n with
  |zero=>
   intro k a s hk bq;have e:k=xs.length:=by omega
   subst e;rw[fp,he a s bq,zy (aH _)];rfl
  |succ n ih=>
   intro k a s hk bq;have aT:k<xs.length:=by omega
   have h1:=hs k a xs[k] s (by simp[aT]) bq;rw[uQ aT];simp only[kg];cases ct:step k a xs[k]with
   |inl bk=>
    rw[ct]at h1;obtain⟨ao,af,ak⟩:=h1;rw[fp,af];exact ih (k+1) bk ao (by omega) ak
   |inr o=>
    rw[ct]at h1;rw[fp,h1]
 have:=key xs.length 0 a s (by omega) h0;simpa using this
theorem ag7{α S O:Type}{f:S->Option (di S O)}(I:Nat->S->Prop)(P:O->Prop)(xs:List α)(hs:∀k x s,xs[k]? =some x->I k s->∃ao,f s=some (.next ao)/\I (k+1) ao)
  (he:∀s,I xs.length s->∃o,f s=some (.out o)/\P o) {s:S} (h0:I 0 s):∃o,cd f s=some o/\P o:=by
 have key:∀(n k:Nat) (s:S),k+n=xs.length->I k s->∃o,cd f s=some o/\P o:=by
  intro n
  induction n with
  |zero=>
   intro k s hk bq;have e:k=xs.length:=by omega
   subst e;obtain⟨o,af,ak⟩:=he s bq;exact⟨o,by rw[fp,af],ak⟩
  |succ n ih=>
   intro k s hk bq;have aT:k<xs.length:=by omega
   obtain⟨ao,af,ak⟩:=hs k xs[k] s (by simp[aT]) bq;obtain⟨o,f1,f2⟩:=ih (k+1) ao (by omega) ak;exact⟨o,by rw[fp,af];exact f1,f2⟩
 exact key xs.length 0 s (by omega) h0
theorem I4{α S O:Type}{f:S->Option (di S O)}(I:Nat->S->Prop)(P:O->Prop)(xs:List α)(hs:∀k x s,xs[k]? =some x->I k s->(∃ao,f s=some (.next ao)/\I (k+1) ao)\/(∃o,f s=some (.out o)/\P o))
  (he:∀s,I xs.length s->∃o,f s=some (.out o)/\P o) {s:S} (h0:I 0 s):∃o,cd f s=some o/\P o:=by
 have key:∀(n k:Nat) (s:S),k+n=xs.length->I k s->∃o,cd f s=some o/\P o:=by
  intro n
  induction n with
  |zero=>
   intro k s hk bq;have e:k=xs.length:=by omega
   subst e;obtain⟨o,af,ak⟩:=he s bq;exact⟨o,by rw[fp,af],ak⟩
  |succ n ih=>
   intro k s hk bq;have aT:k<xs.length:=by omega
   rcases hs k xs[k] s (by simp[aT]) bq with⟨ao,af,ak⟩|⟨o,af,ak⟩
   ·obtain⟨o,f1,f2⟩:=ih (k+1) ao (by omega) ak
    exact⟨o,by rw[fp,af];exact f1,f2⟩
   ·exact⟨o,by rw[fp,af],ak⟩
 exact key xs.length 0 s (by omega) h0
def allI{α:Type}(ok:Nat->α->Bool)(xs:List α):Bool:=xs.zipIdx.all fun p=>ok p.2 p.1
theorem xF{α:Type}{ok:Nat->α->Bool}{xs:List α}:allI ok xs=true↔∀k x,xs[k]? =some x->ok k x=true:=by
 unfold allI;rw[ev];constructor
 ·intro h k x hx
  exact h (x,k) (jw.2 hx)
 ·intro h p hp
  exact h p.2 p.1 (jw.1 hp)
theorem B9{α S:Type}{f:S->Option (di S (cz Unit Unit))}(I:Nat->S->Prop)(ok:Nat->α->Bool)(xs:List α)
  (hs:∀k x s,xs[k]? =some x->I k s->(∀j y,j<k->xs[j]? =some y->ok j y=true)->(ok k x=true->∃ao,f s=some (.next ao)/\I (k+1) ao)/\(ok k x=false->f s=some (.out (.ret ()))))
  (he:∀s,I xs.length s->f s=some (.out (.go ()))) {s:S} (h0:I 0 s):cd f s=some (bif allI ok xs then .go ()else .ret ()):=by
 obtain⟨o,af,ak⟩:=I4 (f:=f) (fun k s=>I k s/\∀j y,j<k->xs[j]? =some y->ok j y=true) (fun o=>o=bif allI ok xs then .go ()else .ret ()) xs (fun k x s hx bq=>by
  obtain⟨h1,h2⟩:=hs k x s hx bq.1 bq.2;cases bc:ok k x with
  |true=>
   obtain⟨ao,af,ak⟩:=h1 bc;refine .inl ⟨ao,af,ak,fun j y hj hy=> ?_⟩;by_cases e:j=k
   ·subst e;rw[hx]at hy;cases hy;exact bc
   ·exact bq.2 j y (by omega) hy
  |false=>
   refine .inr ⟨.ret (),h2 bc,?_⟩;cases ha:allI ok xs with
   |false=>rfl
   |true=>rw[xF.1 ha k x hx]at bc;cases bc) (fun s bq=>by
  refine⟨.go (),he s bq.1,?_⟩;have:allI ok xs=true:=xF.2 fun k x hx=>bq.2 k x (fj.1 hx).1 hx;rw[this];rfl) (s:=s) ⟨h0,fun j y hj=>by omega⟩
 rw[af,ak]
def mf{α:Type}(f:α->Int)(xs:List α):Nat->Int
 |0=>-1
 |k+1=>((xs[k]?).map f).getD (-1)
theorem Nq{α:Type}(f:α->Int){xs:List α}{k:Nat}{x:α}(h:xs[k]? =some x):mf f xs (k+1)=f x:=by simp[mf,h]
theorem TI{α:Type}{f:α->Int}{xs:List α}:∀{k:Nat},(∀j y,j<k->xs[j]? =some y->mf f xs j<f y)-> -1<=mf f xs k
 |0,_=>by simp[mf]
 |k+1,h=>by
  have ih:=TI (k:=k) fun j y hj=>h j y (by omega);cases hx:xs[k]? with
  |none=>simp[mf,hx]
  |some x=>
   rw[Nq f hx];have:=h k x (by omega) hx;omega
theorem ag8{α A O:Type}{step:Nat->A->α->Sum A O}{fin:A->O}{g:A->α->A}(h:∀k a x,step k a x=.inl (g a x)):∀(l:List α) (k:Nat) (a:A),kg step fin k a l=fin (l.foldl g a)
 |[],_,_=>rfl
 |x::r,k,a=>by simp only[kg,h,p6];exact ag8 h r (k+1) (g a x)
theorem awX{α R:Type}{f:Int->Option (di Int (cz Unit Unit))}(xs:List α)(hn:xs.length<4611686018427387904)(b:Nat->α->Bool)
  (hs:∀(k:Nat) x,xs[k]? =some x->f k=some (bif b k x then .out (.ret ())else .next (aM (k+1)))) (he:f (xs.length:Int)=some (.out (.go ()))):
  cd f 0=some (bif xs.zipIdx.any (fun p=>b p.2 p.1)then .ret ()else .go ()):=by
 have h:=Np (f:=f) (fun k (_:Unit)=>(k:Int)) (fun k _ x=>bif b k x then .inr (.ret ())else .inl ()) (fun _=>.go ()) (fun _ _=>True) xs (fun k a x hx _=>by
  refine⟨?_,fun _ _=>trivial⟩;have aT:=(fj.1 hx).1;rw[hs k x hx];cases b k x
  ·simp only[cond_false]
   rw[fi (by omega) (by omega)];rfl
  ·rfl) (fun _ _=>he) (a:=()) trivial
 have h2:∀(k:Nat) (l:List α),kg (fun k (_:Unit) x=>bif b k x then(.inr (.ret ()):Sum Unit (cz Unit Unit))else .inl ()) (fun _=>.go ()) k () l=bif (l.zipIdx k).any (fun p=>b p.2 p.1)then .ret ()else .go ():=by
  intro k l
  induction l generalizing k with
  |nil=>rfl
  |cons x r ih=>
   simp only[kg,List.zipIdx_cons,List.any_cons];cases hb:b k x
   ·simp only[cond_false,uX];exact ih (k+1)
   ·simp
 rw[h2]at h;exact h
theorem awY{α:Type}(b:α->Bool)(l:List α)(k:Nat):(l.zipIdx k).any (fun p=>b p.1)=l.any b:=by
 induction l generalizing k with
 |nil=>rfl
 |cons x r ih=>simp[List.zipIdx_cons,ih]
theorem xG{α:Type}{f:Int->Option (di Int (cz Unit Unit))}(xs:List α)(hn:xs.length<4611686018427387904)(b:α->Bool)
  (hs:∀(k:Nat) x,xs[k]? =some x->f k=some (bif b x then .out (.ret ())else .next (aM (k+1)))) (he:f (xs.length:Int)=some (.out (.go ()))):
  cd f 0=some (bif xs.any b then .ret ()else .go ()):=by
 have:=awX (R:=Unit) xs hn (fun _ x=>b x) hs he;rw[awY]at this;exact this
theorem awZ{α:Type}(xs:ae α)(hn:xs.l.length<4611686018427387904){f:α->Option Bool}{p:α->Bool}(ag:∀x∈xs.l,f x=some (p x)):
  (cd (fun cQ:Int=>(bif (decide (cQ<xs.len))then((bE xs.l cQ).bind fun fT=>((f fT).bind fun hq=>(bif hq then some (di.out (cz.ret cQ))else some (.next (aM (cQ+1))))))else some (.out (.go ())))) 0:Option (cz Unit Int))=
    some (match xs.l.findIdx? p with|none=>.go ()|some i=>.ret (i:Int)):=by
 have h:=Np (f:=fun cQ:Int=>(bif (decide (cQ<xs.len))then((bE xs.l cQ).bind fun fT=>((f fT).bind fun hq=>(bif hq then some (di.out (cz.ret cQ:cz Unit Int))else some (.next (aM (cQ+1))))))else some (.out (.go ()))))
  (fun k (_:Unit)=>(k:Int)) (fun k _ x=>bif p x then .inr (.ret (k:Int))else .inl ()) (fun _=>.go ()) (fun _ _=>True) xs.l (fun k a x hx _=>by
    refine⟨?_,fun _ _=>trivial⟩;have aT:=(fj.1 hx).1;have hd:decide ((k:Int)<xs.len)=true:=by simp[ae.len];exact aT
    simp only[hd,cond_true,ef,hx,bs,ag x (gg hx)];cases p x
    ·simp only[cond_false]
     rw[fi (by omega) (by omega)];rfl
    ·rfl) (fun _ _=>by
    have hd:decide ((xs.l.length:Int)<xs.len)=false:=by simp[ae.len]
    simp only[hd,cond_false]) (a:=()) trivial
 have h2:∀(k:Nat) (l:List α),kg (fun k (_:Unit) x=>bif p x then(.inr (.ret (k:Int)):Sum Unit (cz Unit Int))else .inl ()) (fun _=>.go ()) k () l=match l.findIdx? p with|none=>.go ()|some i=>.ret ((k+i:Nat):Int):=by
  intro k l
  induction l generalizing k with
  |nil=>rfl
  |cons x r ih=>
   simp only[kg,Wv];cases hb:p x
   ·simp only[cond_false,ih (k+1)]
    cases r.findIdx? p with
    |none=>rfl
    |some i=>simp;omega
   ·simp
 rw[h2]at h;refine h.trans ?_;cases xs.l.findIdx? p<;>simp
theorem rT{α:Type}(xs:ae α)(hn:xs.l.length<4611686018427387904){f:α->Option Bool}{p:α->Bool}(ag:∀x∈xs.l,f x=some (p x)):
  ((((cd (fun cQ:Int=>(bif (decide (cQ<xs.len))then((bE xs.l cQ).bind fun fT=>((f fT).bind fun hq=>(bif hq then some (di.out (cz.ret cQ))else some (.next (aM (cQ+1))))))else some (.out (.go ())))) 0:Option (cz Unit Int)).bind fun gV=>match gV with| .go _=>some (-1)| .ret pJ=>some pJ)).bind fun cq=>some (decide (cq>=0)))=some (xs.l.any p):=by
 rw[awZ xs hn ag]
 have:(xs.l.findIdx? p).isSome=xs.l.any p:=by
  rw[List.findIdx?_isSome]
 rw[<-this];cases xs.l.findIdx? p with
 |none=>simp
 |some i=>simp
theorem TJ{K W:Type}[BEq K][LawfulBEq K](k bF:K)(w:W):∀m:List (K × W),jq (mM m k w) bF=if bF==k then some w else jq m bF
 |[]=>by
  simp only[mM,jq,J6,List.find?_nil];cases hk:bF==k<;>simp
 |p::r=>by
  have ih:=TJ k bF w r;simp only[jq]at ih;simp only[mM];cases hp:k==p.1
  ·simp only[gq,if_false,jq,J6]
   cases bf:bF==p.1
   ·simp only[ih]
   ·have e:bF=p.1:=by simpa using bf
    have:(bF==k)=false:=by
     rw[e];cases h:p.1==k with
     |false=>rfl
     |true=>have ak:p.1=k:=by simpa using h
            rw[ak]at hp;simp at hp
    simp[this]
  ·have e:k=p.1:=by simpa using hp
   simp only[if_true,jq,J6,e];cases bf:bF==p.1<;>simp
end Go.Abs
namespace Go.Abs.bz
open Go Go.Abs
def b9{α:Type}(l:List α):Prop:=l.length<4611686018427387904
def rU (l:List Int):Bool:=l.all fun n=>decide (n>=1)&&decide (n<=6)
def jg (n:Nat)(c:List Int):Bool:=decide (c.length<=3)&&c.all fun x=>decide (x>=0)&&decide (x<n)
def jh (s:List Int)(x:Int):Int:=(s[x.toNat]?).getD 1
def wid (s c:List Int):Int:=c.foldl (fun a x=>a*jh s x) 1
def qP (t:Table):Bool:=(t.Kind==0)||(t.Kind==1)
def I5 (t:Table):Bool:=bif (t.Kind==1)||((t.Kind==4)||(t.Kind==5))then decide (t.Range.jI<=t.Range.j7)&&(decide (t.Range.jI>=-9999)&&decide (t.Range.j7<=9999))else(t.Range.jI==0)&&(t.Range.j7==1)
noncomputable def Ca (w:dn):Bool:=(Bi w).getD false
theorem du{α:Type}(x:ae α):x.len=(x.l.length:Int):=rfl
theorem ag9 (w:dn):Bi w=some (Ca w):=by
 unfold Ca Bi LU;cases decide ((w.length:Int)<=16)<;>rfl
theorem TK (xs:ae Int)(h:b9 xs.l){f:Int->Option Bool}{p:Int->Bool}(ag:∀x∈xs.l,f x=some (p x)):ui xs f=some (xs.l.any p):=rT xs h ag
theorem aw0 (xs:ae Bool)(h:b9 xs.l)(a:Bool):L7 xs a=some (xs.l.any fun x=>a==x):=rT xs h (f:=fun x=>some (a==x)) (fun x _=>rfl)
theorem aw1 (s:ae Int)(h:b9 s.l):Ho s=some (rU s.l):=by
 unfold Ho;rw[TK s h (f:=L6) (p:=fun n=>!(decide (n>=1)&&decide (n<=6))) (fun x _=>rfl)];simp[rU,uS]
theorem aw2 (s c:ae Int)(h:b9 c.l):Hm s c=some (jg s.l.length c.l):=by
 unfold Hm;rw[TK c h (f:=fun z0=>L5 s z0) (p:=fun x=>(decide (x<0))||(decide (x>=s.len))) (fun x _=>rfl)];unfold jg;have e:decide ((c.l.length:Int)<=3)=decide (c.l.length<=3):=decide_eq_decide.2 (by omega);rw[du,e];cases hc:decide (c.l.length<=3)with
 |true=>
  simp only[cond_true,bs,fU,uS,aB];congr 2;funext x;rw[du];by_cases h1:x<0<;>by_cases h2:x>=(s.l.length:Int)<;>simp_all<;>omega
 |false=>
  simp
theorem aha (l:List Bool)(h:b9 l):Bh (ae.mk l)=some (l.all id):=by
 unfold Bh;rw[aw0 (ae.mk l) h];simp only[bs,uS,aB,ae.l];congr 2;funext x;cases x<;>rfl
theorem aw3 (t:Table):Hp t=some (I5 t):=by
 unfold Hp I5;cases h1:t.Kind==1<;>cases aS:t.Kind==4<;>cases h5:t.Kind==5<;>simp
theorem Nr (t:Table):Bj t=some (qP t):=rfl
theorem Ns{s:List Int}{x:Int}(h0:0<=x)(h1:x<s.length):bE s x=some (jh s x):=by
 have aT:x.toNat<s.length:=by omega
 refine awW h0 ?_;unfold jh;simp[aT]
theorem Nt{s:List Int}(h:rU s=true){x:Int}(h0:0<=x)(h1:x<s.length):1<=jh s x/\jh s x<=6:=by
 have aT:x.toNat<s.length:=by omega
 unfold jh;simp only[eg aT,oB];have:=ev.1 h _ (vP aT);simpa using this
theorem I6{n:Nat}{c:List Int}(h:jg n c=true):c.length<=3/\∀x∈c,0<=x/\x<n:=by
 unfold jg at h;simp only[b6,decide_eq_true_eq,ev]at h;exact⟨h.1,fun x hx=>h.2 x hx⟩
theorem Nu{s c:List Int}(hs:rU s=true)(hc:jg s.length c=true):1<=wid s c/\wid s c<=216:=by
 obtain⟨h1,h2⟩:=I6 hc
 have step:∀(a x:Int),0<=x/\x<s.length->1<=a->∀m:Int,a<=m->1<=a*jh s x/\a*jh s x<=m*6:=fun a x hx ha m hm=>by
  obtain⟨q1,q2⟩:=Nt hs hx.1 hx.2;constructor
  ·exact Int.le_trans (by omega) (Ot ha q1 (by omega) (by omega))
  ·exact Ot hm q2 (by omega) (by omega)
 unfold wid
 match c,h1,h2 with
 |[],_,_=>simp
 |[x],_,h=>have a:=step 1 x (h x (by simp)) (by omega) 1 (by omega);simp only[p6,x8];omega
 |[x,y],_,h=>
  have a:=step 1 x (h x (by simp)) (by omega) 1 (by omega);have b:=step _ y (h y (by simp)) a.1 _ a.2;simp only[p6,x8];omega
 |[x,y,z],_,h=>
  have a:=step 1 x (h x (by simp)) (by omega) 1 (by omega);have b:=step _ y (h y (by simp)) a.1 _ a.2;have d:=step _ z (h z (by simp)) b.1 _ b.2;simp only[p6,x8];omega
 | _::_::_::_::_,h,_=>simp at h
theorem TL (s c:ae Int)(hs:rU s.l=true)(hc:jg s.l.length c.l=true):uj s c=some (wid s.l c.l):=by
 obtain⟨h1,h2⟩:=I6 hc;unfold uj
 have h:=ag6 (f:=L8 s c) (fun k (a:Int) st=>st=(a,(k:Int))/\k<=3/\1<=a/\a<=6^k) (fun _ a x=>.inl (a*jh s.l x)) (fun a=>a) c.l (fun k a x st hx ab=>by
  obtain⟨rfl,hk,ha⟩:=ab;have aT:=(fj.1 hx).1;have dT:=h2 x (gg hx);obtain⟨q1,q2⟩:=Nt hs dT.1 dT.2;have hd:decide ((k:Int)<c.len)=true:=by simp[du];exact aT
  have hb:1<=a*jh s.l x/\a*jh s.l x<=6^(k+1):=⟨Int.le_trans (by omega) (Ot ha.1 q1 (by omega) (by omega)),by
   rw[Int.pow_succ];exact Ot ha.2 q2 (by omega) (by have:(0:Int)<=6^k:=Int.pow_nonneg (by omega);omega)⟩
  have ahb:(6:Int)^(k+1)<=1296:=by
   have:k=0\/k=1\/k=2\/k=3:=by omega
   rcases this with rfl|rfl|rfl|rfl<;>decide
  refine⟨(a*jh s.l x,((k+1:Nat):Int)),?_,rfl,by omega,hb⟩;simp only[L8,hd,cond_true,ef,hx,bs,Ns dT.1 dT.2];rw[fi (by omega) (by omega),fi (by omega) (by omega)];rfl) (fun a st ab=>by
  obtain⟨rfl,-⟩:=ab;have hd:decide ((c.l.length:Int)<c.len)=false:=by simp[du]
  simp only[L8,hd,cond_false]) (a:=1) (s:=(1,0)) ⟨rfl,by omega,by simp⟩
 rw[h,ag8 (g:=fun a x=>a*jh s.l x) (fun _ _ _=>rfl)];rfl
end Go.Abs.bz
namespace Go.Abs.bz
open Go Go.Abs
noncomputable section
def ot (s:List Int)(t:Table):Bool:=Ca t.Name&&((decide (t.Kind>=0)&&decide (t.Kind<=5))&&(jg s.length t.ch.l&&I5 t))
def qQ (ts:List Table)(k:Nat)(n:dn):Bool:=(ts.take k).any fun u=>u.Name==n
def Cb (s:List Int)(ts:List Table)(k:Nat)(a:Int × Int)(t:Table):Sum (Int × Int) (Option (Int × Int)):=
 bif ot s t&&!(qQ ts k t.Name)then
  (bif qP t then(bif t.dK==a.1 then .inl (a.1+wid s t.ch.l,a.2)else .inr none)else(bif t.dK==a.2 then .inl (a.1,a.2+wid s t.ch.l)else .inr none))
 else .inr none
def TM (s:List Int)(ts:List Table):Option (Int × Int):=kg (Cb s ts) some 0 (0,0) ts
def ou (s:List Int)(ts:List Table):Bool:=decide (s.length<=4)&&(decide (ts.length<=12)&&(rU s&&match TM s ts with
 |some (a,b)=>decide (a<=128)&&decide (b<=64)
 |none=>false))
theorem ahc{α A O aw4:Type}(Nv:O->aw4){step:Nat->A->α->Sum A O}{fin:A->O}:∀(l:List α) (k:Nat) (a:A),kg (fun k a x=>(step k a x).map id Nv) (fun a=>Nv (fin a)) k a l=Nv (kg step fin k a l)
 |[],_,_=>rfl
 |x::r,k,a=>by
  simp only[kg];cases step k a x with
  |inl bk=>exact ahc Nv r (k+1) bk
  |inr o=>rfl
theorem aw5{ts:List Table}{k:Nat}{t:Table}(h:ts[k]? =some t)(n:dn):qQ ts (k+1) n=(qQ ts k n||t.Name==n):=by
 unfold qQ;rw[Fp,h];simp
theorem Nw{a b:dn}:(a==b)=(b==a):=by
 cases h:a==b with
 |true=>have:a=b:=by simpa using h
        subst this;exact h.symm
 |false=>cases h':b==a with
  |false=>rfl
  |true=>have:b=a:=by simpa using h'
         subst this;rw[h]at h';cases h'
def Nx:Option (Int × Int)->cz (Int × Int) Unit
 |some a=>.go (a.2,a.1)
 |none=>.ret ()
theorem aw6{s:ae Int}{ts:ae Table}(hs:rU s.l=true)(hl:ts.l.length<=12)(hc:∀t∈ts.l,b9 t.ch.l):
  cd (D8 s ts) (0,0,0,[])=some (Nx (TM s.l ts.l)):=by
 have h:=ag6 (f:=D8 s ts) (fun k (a:Int × Int) st=>∃m,st=((k:Int),a.2,a.1,m)/\(0<=a.1/\a.1<=216*k/\0<=a.2/\a.2<=216*k)/\∀n,(jq m n).getD false=qQ ts.l k n)
  (fun k a x=>(Cb s.l ts.l k a x).map id Nx) (fun a=>Nx (some a)) ts.l (fun k a t st hx ab=>by
  obtain⟨m,rfl,⟨al,a2,a3,a4⟩,hm⟩:=ab;have aT:=(fj.1 hx).1;have eW:=gg hx;have hd:decide ((k:Int)<ts.len)=true:=by simp[du];exact aT
  have eP:∀a b c d e:Bool,Bh (ae.mk [a,b,c,d,e])=some (a&&(b&&(c&&(d&&e)))):=fun a b c d e=>by
   rw[aha _ (by simp[b9])];simp
  have nt:∀n,(jq (mM m t.Name true) n).getD false=qQ ts.l (k+1) n:=fun n=>by
   rw[TJ,aw5 hx,<-hm n];cases e:n==t.Name with
   |true=>rw[Nw,e];simp
   |false=>rw[Nw (a:=t.Name),e];simp
  have ag:D8 s ts ((k:Int),a.2,a.1,m)=bif ot s.l t&&!(qQ ts.l k t.Name)then
    (bif qP t then(bif t.dK==a.1 then((uj s t.ch).bind fun sQ=>some (.next ((aM (k+1)),a.2,(aM (a.1+sQ)),(mM m t.Name true))))else some (.out (.ret ())))
      else(bif t.dK==a.2 then((uj s t.ch).bind fun yN=>some (.next ((aM (k+1)),(aM (a.2+yN)),a.1,(mM m t.Name true))))else some (.out (.ret ()))))
    else some (.out (.ret ())):=by
   simp only[D8,hd,cond_true,ef,hx,bs,ag9,Hn,aw2 s t.ch (hc t eW),aw3,eP,Nr,hm]
   have e:(Ca t.Name&&((!(qQ ts.l k t.Name))&&((decide (t.Kind>=0)&&decide (t.Kind<=5))&&(jg s.l.length t.ch.l&&I5 t))))=(ot s.l t&&!(qQ ts.l k t.Name)):=by
    unfold ot;cases Ca t.Name<;>cases qQ ts.l k t.Name<;>simp
   rw[e];cases ot s.l t&&!(qQ ts.l k t.Name)with
   |false=>rfl
   |true=>
    cases qP t<;>simp only[cond_true,cond_false,bne]
    ·cases t.dK==a.2<;>rfl
    ·cases t.dK==a.1<;>rfl
  rw[ag];unfold Cb;cases bc:ot s.l t&&!(qQ ts.l k t.Name)with
  |false=>rfl
  |true=>
   have qR:jg s.l.length t.ch.l=true:=by
    simp only[b6]at bc;have:=bc.1;unfold ot at this;simp only[b6]at this;exact this.2.2.1
   have hw:=Nu hs qR;have hk:(k:Int)<=12:=by omega
   rw[TL s t.ch hs qR];simp only[cond_true,bs];cases qP t with
   |true=>
    simp only[cond_true];cases t.dK==a.1 with
    |false=>rfl
    |true=>
     simp only[cond_true,Sum.map_inl,id];rw[fi (n:=(k:Int)+1) (by omega) (by omega),fi (n:=a.1+wid s.l t.ch.l) (by omega) (by omega)];exact⟨_,rfl,_,rfl,⟨by omega,by omega,a3,by omega⟩,nt⟩
   |false=>
    simp only[cond_false];cases t.dK==a.2 with
    |false=>rfl
    |true=>
     simp only[cond_true,Sum.map_inl,id];rw[fi (n:=(k:Int)+1) (by omega) (by omega),fi (n:=a.2+wid s.l t.ch.l) (by omega) (by omega)];exact⟨_,rfl,_,rfl,⟨al,by omega,by omega,by omega⟩,nt⟩) (fun a st ab=>by
  obtain⟨m,rfl,-⟩:=ab;have hd:decide ((ts.l.length:Int)<ts.len)=false:=by simp[du]
  simp only[D8,hd,cond_false];rfl) (a:=(0,0)) (s:=(0,0,0,[])) ⟨[],rfl,by simp,fun n=>rfl⟩
 rw[h,ahc Nx (fin:=some)];rfl
theorem TN (s:ae Int)(ts:ae Table)(h1:b9 s.l)(h2:b9 ts.l)(hc:∀t∈ts.l,b9 t.ch.l):Bl s ts=some (ou s.l ts.l):=by
 unfold Bl;rw[aw1 s h1];simp only[bs];rw[aha _ (by simp[b9])];have af:decide (s.len<=4)=decide (s.l.length<=4):=decide_eq_decide.2 (by rw[du];omega);have ak:decide (ts.len<=12)=decide (ts.l.length<=12):=decide_eq_decide.2 (by rw[du];omega);simp only[bs,J7,List.all_nil,id,uW,af,ak];unfold ou;cases gw:decide (s.l.length<=4)with
 |false=>rfl
 |true=>
  cases ht:decide (ts.l.length<=12)with
  |false=>rfl
  |true=>
   cases hs:rU s.l with
   |false=>rfl
   |true=>
    simp only[fU,cond_true];rw[aw6 hs (by simpa using ht) hc];simp only[bs];cases TM s.l ts.l with
    |none=>rfl
    |some a=>rfl
end
end Go.Abs.bz
namespace Go.Abs.bz
open Go Go.Abs
noncomputable section
end
end Go.Abs.bz
namespace Go.Abs.bz
open Go Go.Abs
noncomputable section
def hU (s:List Int)(ts:List Table)(b:Bool):List Range:=ts.flatMap fun t=>bif qP t==b then List.replicate (wid s t.ch.l).toNat t.Range else[]
theorem ahd{s:List Int}{ts:List Table}:∀(l:List Table) (k:Nat) (a p:Int × Int),kg (Cb s ts) some k a l=some p->∀t∈l,ot s t=true
 |[],_,_,_,_,t,h=>by cases h
 |x::r,k,a,p,h,t,ht=>by
  simp only[kg]at h;cases ct:Cb s ts k a x with
  |inr o=>
   rw[ct]at h
   have ho:o=none:=by
    unfold Cb at ct;cases bf:ot s x&&!(qQ ts k x.Name)<;>cases hb:qP x<;>cases hc:x.dK==a.1<;>cases hd:x.dK==a.2<;>rw[bf]at ct<;>simp only[hb,hc,hd,cond_true,cond_false]at ct<;>first|(cases ct;rfl)|cases ct
   rw[ho]at h;cases h
  |inl bk=>
   rw[ct]at h;rcases dx.1 ht with rfl|ht
   ·unfold Cb at ct
    cases bc:ot s t&&!(qQ ts k t.Name)with
    |false=>rw[bc]at ct;cases ct
    |true=>simp only[b6]at bc;exact bc.1
   ·exact ahd r (k+1) bk p h t ht
theorem EO{s:List Int}{ts:List Table}(h:ou s ts=true):s.length<=4/\ts.length<=12/\rU s=true/\∀t∈ts,ot s t=true:=by
 unfold ou at h;simp only[b6,decide_eq_true_eq]at h;obtain⟨h1,h2,ar,aS⟩:=h;refine⟨h1,h2,ar,?_⟩;split at aS
 ·rename_i a b hr
  exact ahd ts 0 (0,0) _ hr
 ·cases aS
theorem Ny{s:List Int}{t:Table}(h:ot s t=true):jg s.length t.ch.l=true:=by
 unfold ot at h;simp only[b6]at h;exact h.2.2.1
theorem xH{α:Type}{gW:Nat}{x y:ae α}(hb:gW+1<=1000)(h:x.l.length+y.l.length<=1000000000):∃z,gz gW x y=some z/\z.l=x.l++y.l:=by
 unfold gz;split
 ·rename_i e;exact⟨x,rfl,by rw[e];simp⟩
 ·have:(x.l.length+y.l.length)*(gW+1)<=2^40:=by
   have:(x.l.length+y.l.length)*(gW+1)<=1000000000*1000:=Ou h hb;omega
  rw[if_pos this];exact⟨_,rfl,rfl⟩
theorem aw7 (r:Range)(n:Int)(h:1<=n/\n<=1000):∃z,DY (ae.mk [r]) n=some z/\z.l=List.replicate n.toNat r:=by
 refine⟨_,if_pos ⟨rfl,h⟩,?_⟩;show(List.replicate n.toNat [r]).flatten=_
 induction n.toNat with
 |zero=>rfl
 |succ n ih=>rw[zz,J1,ih,zz];rfl
theorem Nz{s:List Int}(hs:rU s=true)(b:Bool):∀ts:List Table,(∀t∈ts,ot s t=true)->(hU s ts b).length<=216*ts.length
 |[],_=>by simp[hU]
 |t::ts,h=>by
  have ih:=Nz hs b ts (fun u hu=>h u (by simp[hu]));have hw:=Nu hs (Ny (h t (by simp)));unfold hU at ih⊢;rw[im,eZ,gD]
  have:(bif qP t==b then List.replicate (wid s t.ch.l).toNat t.Range else[]).length<=216:=by
   cases qP t==b<;>simp;omega
  omega
theorem ahe (s:List Int)(b:Bool){ts:List Table}{k:Nat}{t:Table}(h:ts[k]? =some t):hU s (ts.take (k+1)) b=hU s (ts.take k) b++(bif qP t==b then List.replicate (wid s t.ch.l).toNat t.Range else[]):=by
 unfold hU;rw[Fp,h];simp
theorem aw8{s:List Int}(hs:rU s=true)(b:Bool){ts:List Table}(h:∀t∈ts,ot s t=true)(hl:ts.length<=12)(k:Nat):(hU s (ts.take k) b).length<=2592:=by
 have:=Nz hs b (ts.take k) (fun t ht=>h t (x3 ht));have:(ts.take k).length<=12:=by rw[nc];omega
 omega
theorem ahf (s:ae Int)(ts:ae Table)(b:Bool)(h1:b9 s.l)(h2:b9 ts.l)(hc:∀t∈ts.l,b9 t.ch.l):
  ∃x,Eb s ts b=some x/\x.l=bif ou s.l ts.l then hU s.l ts.l b else[]:=by
 unfold Eb;rw[TN s ts h1 h2 hc];simp only[bs];cases ad:ou s.l ts.l with
 |false=>exact⟨.nil,rfl,rfl⟩
 |true=>
  obtain⟨q1,q2,cn,c7⟩:=EO ad
  obtain⟨o,af,ak⟩:=ag7 (f:=Hs s ts b) (fun k st=>∃a:ae Range,st=((k:Int),a)/\a.l=hU s.l (ts.l.take k) b) (fun o=>o.l=hU s.l ts.l b) ts.l (fun k t st hx ab=>by
   obtain⟨a,rfl,ha⟩:=ab;have aT:=(fj.1 hx).1;have eW:=gg hx;have hd:decide ((k:Int)<ts.len)=true:=by simp[du];exact aT
   have qR:=Ny (c7 t eW);have hw:=Nu cn qR;have lY:=aw8 cn b c7 q2 k;cases hb:qP t==b with
   |false=>
    refine⟨(((k+1:Nat):Int),a),?_,a,rfl,?_⟩
    ·simp only[Hs,hd,cond_true,ef,hx,bs,Nr,hb,cond_false]
     rw[fi (by omega) (by omega)];rfl
    ·rw[ahe s.l b hx,hb,ha];simp
   |true=>
    obtain⟨z,q9,el⟩:=aw7 t.Range (wid s.l t.ch.l) (by omega);obtain⟨y,po,BS⟩:=xH (gW:=16) (x:=a) (y:=z) (by omega) (by rw[ha,el,CE];omega);refine⟨(((k+1:Nat):Int),y),?_,y,rfl,?_⟩
    ·simp only[Hs,hd,cond_true,ef,hx,bs,Nr,hb,TL s t.ch cn qR,q9,po]
     rw[fi (by omega) (by omega)];rfl
    ·rw[ahe s.l b hx,hb,BS,ha,el];rfl) (fun st ab=>by
   obtain⟨a,rfl,ha⟩:=ab;have hd:decide ((ts.l.length:Int)<ts.len)=false:=by simp[du]
   refine⟨a,by simp only[Hs,hd,cond_false],?_⟩;rw[ha,J4]) (s:=(0,.nil)) ⟨.nil,rfl,rfl⟩
  exact⟨o,by simp only[cond_true];rw[af];rfl,ak⟩
end
end Go.Abs.bz
namespace Go.Abs.bz
open Go Go.Abs
noncomputable section
def uF (n m:Int):Bool:=decide (n>=-m)&&decide (n<=m)
theorem NA (n m:Int)(h:0<=m/\m<=1000000000):yO n m=some (uF n m):=by
 unfold yO uF;rw[fi (by omega) (by omega)];simp
def EP (n:Int)(xs:List Term)(k:Nat)(t:Term):Bool:=!(decide (t.Cell<=mf Term.Cell xs k))&&(!(decide (t.Cell>=n))&&(!(t.gA==0)&&uF t.gA 1000))
def Cc (n:Int)(r:Row):Bool:=allI (EP n r.dq.l) r.dq.l&&uF r.qH 1000000000
theorem gC{α:Type}{x:ae α}{k:Nat}(h:k<x.l.length):decide ((k:Int)<x.len)=true:=by rw[du];simp;exact h
theorem hJ{α:Type}{x:ae α}:decide ((x.l.length:Int)<x.len)=false:=by rw[du];simp
theorem eR{k:Nat}(h:k<4611686018427387904):aM ((k:Int)+1)=((k+1:Nat):Int):=by rw[fi (by omega) (by omega)];rfl
theorem aw9{k:Nat}(h:k<4611686018427387904):aM (((k+1:Nat):Int)-1)=(k:Int):=by
 rw[fi (by omega) (by omega)];omega
theorem ik{α:Type}{l:List α}{k:Nat}{x:α}(h:l[k]? =some x):k<l.length:=(fj.1 h).1
theorem ahg (j:dV)(r:Row)(h:b9 r.dq.l):Ec j r=some (Cc j.strict.len r):=by
 unfold Ec
 rw[B9 (f:=Ht j r) (fun k s=>s=(mf Term.Cell r.dq.l k,(k:Int))) (EP j.strict.len r.dq.l) r.dq.l (fun k x s hx bq _=>by
  subst bq;have aT:=ik hx
  have ag:Ht j r (mf Term.Cell r.dq.l k,(k:Int))=bif EP j.strict.len r.dq.l k x then some (.next (x.Cell,aM ((k:Int)+1)))else some (.out (.ret ())):=by
   simp only[Ht,gC aT,cond_true,ef,hx,bs,NA x.gA 1000 (by omega)];unfold EP;cases decide (x.Cell<=mf Term.Cell r.dq.l k)with
   |true=>rfl
   |false=>
    cases decide (x.Cell>=j.strict.len)with
    |true=>rfl
    |false=>
     cases x.gA==0 with
     |true=>rfl
     |false=>cases uF x.gA 1000<;>rfl
  rw[ag];constructor
  ·intro bc
   rw[bc,eR (by unfold b9 at h;omega)];exact⟨_,rfl,by rw[Nq Term.Cell hx]⟩
  ·intro bc;rw[bc];rfl) (fun s bq=>by subst bq;simp only[Ht,hJ,cond_false]) (s:=(-1,0)) rfl]
 unfold Cc;cases allI (EP j.strict.len r.dq.l) r.dq.l with
 |false=>rfl
 |true=>
  simp only[cond_true,bs,fU];rw[NA _ _ (by omega)];rfl
def I7 (zd:List dn)(k:Nat)(x:dn):Bool:=Ca x&&!((zd.take k).any fun y=>y==x)
def I8 (zd:List dn):Bool:=allI (I7 zd) zd
theorem axa{zd:List dn}{k:Nat}{x:dn}(h:zd[k]? =some x)(n:dn):(zd.take (k+1)).any (fun y=>y==n)=((zd.take k).any (fun y=>y==n)||x==n):=by
 rw[Fp,h];simp
theorem ahh (a:ae dn)(h:b9 a.l):Ea a=some (I8 a.l):=by
 unfold Ea
 rw[B9 (f:=Hq a) (fun k s=>∃m,s=((k:Int),m)/\∀n,(jq m n).getD false=(a.l.take k).any fun y=>y==n) (I7 a.l) a.l (fun k x s hx bq _=>by
  obtain⟨m,rfl,hm⟩:=bq;have aT:=ik hx
  have ag:Hq a ((k:Int),m)=bif I7 a.l k x then some (.next ((aM ((k:Int)+1)),mM m x true))else some (.out (.ret ())):=by
   simp only[Hq,gC aT,cond_true,ef,hx,bs,ag9,hm];unfold I7;cases Ca x with
   |false=>rfl
   |true=>cases(a.l.take k).any fun y=>y==x<;>rfl
  rw[ag];constructor
  ·intro bc
   rw[bc,eR (by unfold b9 at h;omega)];refine⟨_,rfl,_,rfl,fun n=> ?_⟩;rw[TJ,axa hx,<-hm n];cases e:n==x with
   |true=>rw[Nw,e];simp
   |false=>rw[Nw (a:=x),e];simp
  ·intro bc;rw[bc];rfl) (fun s bq=>by obtain⟨m,rfl,-⟩:=bq;simp only[Hq,hJ,cond_false]) (s:=(0,[])) ⟨[],rfl,fun n=>rfl⟩]
 unfold I8;cases allI (I7 a.l) a.l<;>rfl
end
end Go.Abs.bz
namespace Go.Abs.bz
open Go Go.Abs
noncomputable section
def ER (a b:ae Term):Bool:=(yP a b).getD false
theorem axb (a b:ae Term)(h:b9 a.l):yP a b=some (ER a b):=by
 have:∃r,yP a b=some r:=by
  unfold yP;cases hl:a.len != b.len with
  |true=>exact⟨false,rfl⟩
  |false=>
   have lS:a.l.length=b.l.length:=by
    rw[du,du]at hl;simp at hl;omega
   obtain⟨o,af,-⟩:=I4 (f:=Hx a b) (fun k s=>s=(k:Int)) (fun _=>True) a.l (fun k x s hx bq=>by
    subst bq;have aT:=ik hx;have hy:b.l[k]? =some b.l[k]:=by simp[<-lS,aT]
    simp only[Hx,gC aT,cond_true,ef,hx,hy,bs];cases(x.Cell==b.l[k].Cell&&(x.gA==b.l[k].gA&&true))with
    |true=>exact .inl ⟨_,rfl,eR (by unfold b9 at h;omega)⟩
    |false=>exact .inr ⟨_,rfl,trivial⟩) (fun s bq=>by subst bq;exact⟨.go (),by simp only[Hx,hJ,cond_false],trivial⟩) (s:=0) rfl
   simp only[cond_false,af,bs];cases o<;>exact⟨_,rfl⟩
 obtain⟨r,e⟩:=this;unfold ER;rw[e];rfl
def xI (r:Row)(c f b:Int):Bool:=(r.qH==b)&&ER r.dq (ae.mk [Term.mk c f])
theorem axc (r:Row)(c f b:Int)(h:b9 r.dq.l):Hy r c f b=some (xI r c f b):=by
 unfold Hy xI;rw[axb _ _ h];simp only[bs];cases ER r.dq (ae.mk [Term.mk c f])<;>cases r.qH==b<;>rfl
def NB (s:List Int)(c:Constraint)(t:Table):Bool:=(t.Kind==0)&&((t.ch.l.length==2)&&((t.ch.l.getD 0 0==t.ch.l.getD 1 0)&&((t.dK==c.dK)&&(jh s (t.ch.l.getD 0 0)==c.fS))))
def NC (s:List Int)(ts:List Table)(c:Constraint):Bool:=(c.Row.dq.l.length==0)&&((c.Row.qH==0)&&ts.any (NB s c))
theorem axd{l:List Int}(h:l.length=2):∃a b,l=[a,b]:=by
 match l,h with
 |[a,b],_=>exact⟨a,b,rfl⟩
theorem TP{α:Type}(x:ae α)(n:Nat):((x.len:Int)==(n:Int))=(x.l.length==n):=by
 rw[du];cases h:x.l.length==n with
 |true=>have:x.l.length=n:=by simpa using h
        rw[this];simp
 |false=>have:x.l.length≠n:=by simpa using h
         simp;omega
theorem axe{s:ae Int}(c:Constraint)(t:Table)(hc:jg s.l.length t.ch.l=true):
  (((bif (t.Kind==0)then(bif (t.ch.len==2)then((bE t.ch.l 0).bind fun pL=>((bE t.ch.l 1).bind fun ka=>(bif (pL==ka)then(bif (t.dK==c.dK)then((bE t.ch.l 0).bind fun um=>((bE s.l um).bind fun fT=>some (fT==c.fS)))else some false)else some false)))else some false)else some false):Option (Bool)))=some (NB s.l c t):=by
 unfold NB;cases t.Kind==0 with
 |false=>rfl
 |true=>
  have:(t.ch.len==2)=(t.ch.l.length==2):=TP t.ch 2;rw[this];cases h2:t.ch.l.length==2 with
  |false=>rfl
  |true=>
   obtain⟨a,b,e⟩:=axd (by simpa using h2);have hi:=(I6 hc).2;rw[e]at hi⊢;have ha:=hi a (by simp);have i0:bE [a,b] 0=some a:=ef [a,b] 0;have l2:bE [a,b] 1=some b:=ef [a,b] 1;simp only[i0,l2,bs,Ns ha.1 ha.2,cond_true,fU];simp only[List.getD_cons_zero,List.getD_cons_succ];cases a==b with
   |false=>rfl
   |true=>cases t.dK==c.dK<;>rfl
theorem axf (xs:ae Table)(h:b9 xs.l){f:Table->Option Bool}{p:Table->Bool}(ag:∀x∈xs.l,f x=some (p x)):Mb xs f=some (xs.l.any p):=rT xs h ag
theorem axg (j:dV)(c:Constraint)(h:b9 j.Model.Tables.l)(hc:∀t∈j.Model.Tables.l,jg j.Model.bH.l.length t.ch.l=true):Hv j c=some (NC j.Model.bH.l j.Model.Tables.l c):=by
 unfold Hv
 rw[axf j.Model.Tables h (f:=fun z0=>Hu c j z0) (p:=NB j.Model.bH.l c) (fun t ht=>by
  unfold Hu;rw[axe c t (hc t ht)];rfl)]
 have e:(c.Row.dq.len==0)=(c.Row.dq.l.length==0):=TP c.Row.dq 0;rw[e];unfold NC;cases c.Row.dq.l.length==0 with
 |false=>rfl
 |true=>cases c.Row.qH==0<;>rfl
def TQ (rs:List Range)(i:Nat)(c:Constraint):Bool:=match rs[i/2]? with
 |some r=>bif i%2==0 then xI c.Row ((i/2:Nat):Int) (-1) (aM (0-r.jI))else xI c.Row ((i/2:Nat):Int) 1 r.j7
 |none=>true
def ND (F:Int)(c:Constraint):Bool:=decide (c.Bb>=0)&&decide (c.Bb<F)
def Cd (s:List Int)(ts:List Table)(rs:List Range)(F:Int)(i:Nat)(c:Constraint):Bool:=
 ND F c&&((bif c.Kind==0 then(c.dK==0)&&((c.fS==0)&&Cc rs.length c.Row)else(c.Kind==1)&&NC s ts c)&&(bif decide (i/2<rs.length)then(c.Kind==0)&&TQ rs i c else true))
def ES (s:List Int)(ts:List Table)(rs:List Range)(F:Int)(cs:List Constraint):Bool:=
 decide (cs.length<=512)&&(decide (2*rs.length<=cs.length)&&allI (Cd s ts rs F) cs)
theorem axh{k:Nat}(h:k<4611686018427387904):aM ((k:Int).tdiv 2)=((k/2:Nat):Int):=by
 have e:((k:Int).tdiv 2)=((k/2:Nat):Int):=by
  rw[Int.tdiv_eq_ediv_of_nonneg (by omega)];omega
 rw[e,fi (by omega) (by omega)]
theorem axi (k:Nat):(((k:Int).tmod 2)==0)=(k%2==0):=by
 have e:((k:Int).tmod 2)=((k%2:Nat):Int):=by
  rw[Wn (by omega)];omega
 rw[e];have:k%2=0\/k%2=1:=by omega
 rcases this with h|h<;>rw[h]<;>rfl
theorem axj (j:dV)(h:b9 j.Model.cN.l)(hr:j.strict.l.length<=100000)(ht:b9 j.Model.Tables.l)(hc:∀t∈j.Model.Tables.l,jg j.Model.bH.l.length t.ch.l=true)(hT:∀c∈j.Model.cN.l,b9 c.Row.dq.l):
  HA j=some (ES j.Model.bH.l j.Model.Tables.l j.strict.l j.Model.ff.len j.Model.cN.l):=by
 unfold HA ES;have af:decide (j.Model.cN.len>512)=!decide (j.Model.cN.l.length<=512):=by rw[du];by_cases q:j.Model.cN.l.length<=512<;>simp[q]<;>omega
 have ak:decide (j.Model.cN.len<aM (2*j.strict.len))=!decide (2*j.strict.l.length<=j.Model.cN.l.length):=by
  rw[du,du,fi (by omega) (by omega)];by_cases q:2*j.strict.l.length<=j.Model.cN.l.length<;>simp[q]<;>omega
 rw[af,ak];cases decide (j.Model.cN.l.length<=512)with
 |false=>rfl
 |true=>
  cases decide (2*j.strict.l.length<=j.Model.cN.l.length)with
  |false=>rfl
  |true=>
   simp only[hX,Bool.or_self,cond_false,fU]
   rw[B9 (f:=Hz j) (fun k s=>s=(k:Int)) (Cd j.Model.bH.l j.Model.Tables.l j.strict.l j.Model.ff.len) j.Model.cN.l (fun k c s hx bq _=>by
    subst bq;have aT:=ik hx;have eW:=gg hx;have hk:k<4611686018427387904:=by unfold b9 at h;omega
    have ag:Hz j (k:Int)=bif Cd j.Model.bH.l j.Model.Tables.l j.strict.l j.Model.ff.len k c then some (.next (aM ((k:Int)+1)))else some (.out (.ret ())):=by
     simp only[Hz,gC aT,cond_true,ef,hx,bs,mS,ahg j c.Row (hT c eW),axg j c ht hc,axh hk,axi,axc _ _ _ _ (hT c eW)];unfold Cd;show _=bif ND _ c&&_ then _ else _;have axk:(decide (c.Bb>=0)&&decide (c.Bb<j.Model.ff.len))=ND j.Model.ff.len c:=rfl;rw[axk];cases ND j.Model.ff.len c with
     |false=>rfl
     |true=>
      have hd:decide (((k/2:Nat):Int)<j.strict.len)=decide (k/2<j.strict.l.length):=by
       rw[du];exact decide_eq_decide.2 (by omega)
      rw[hd];have hlen:j.strict.len=(j.strict.l.length:Int):=rfl;rw[hlen];cases vf:c.Kind==0 with
      |false=>
       simp only[cond_true,cond_false,fU,bne,vf,vQ];cases gG:c.Kind==1 with
       |false=>simp
       |true=>
        cases NC j.Model.bH.l j.Model.Tables.l c with
        |false=>rfl
        |true=>
         simp only[hX,cond_false,bs,fU];cases bf:decide (k/2<j.strict.l.length)with
         |false=>rfl
         |true=>
          have ET:k/2<j.strict.l.length:=by simpa using bf
          have hy:j.strict.l[k/2]? =some j.strict.l[k/2]:=by simp[ET]
          simp only[cond_true,hy,bs,Ov,cond_false];cases k%2==0<;>simp
      |true=>
       simp only[cond_true,fU,bne,vf,hX,cond_false];cases c.dK==0 with
       |false=>simp
       |true=>
        cases c.fS==0 with
        |false=>simp
        |true=>
         cases Cc (j.strict.l.length:Int) c.Row with
         |false=>rfl
         |true=>
          simp only[hX,cond_false,bs,fU];cases bf:decide (k/2<j.strict.l.length)with
          |false=>rfl
          |true=>
           have ET:k/2<j.strict.l.length:=by simpa using bf
           have hy:j.strict.l[k/2]? =some j.strict.l[k/2]:=by simp[ET]
           unfold TQ;simp only[cond_true,hy,bs];cases k%2==0 with
           |true=>
            simp only[cond_true,bs];cases xI c.Row ((k/2:Nat):Int) (-1) (aM (0-j.strict.l[k/2].jI))<;>rfl
           |false=>
            simp only[cond_false,bs];cases xI c.Row ((k/2:Nat):Int) 1 j.strict.l[k/2].j7<;>rfl
    rw[ag];constructor
    ·intro bc
     rw[bc,eR hk];exact⟨_,rfl,rfl⟩
    ·intro bc;rw[bc];rfl) (fun s bq=>by subst bq;simp only[Hz,hJ,cond_false]) (s:=0) rfl]
   cases allI (Cd j.Model.bH.l j.Model.Tables.l j.strict.l j.Model.ff.len) j.Model.cN.l<;>rfl
theorem axl{s:List Int}{ts:List Table}(ad:ou s ts=true)(b:Bool):(hU s ts b).length<=2592:=by
 obtain⟨q1,q2,cn,c7⟩:=EO ad;have:=Nz cn b ts c7;omega
end
end Go.Abs.bz
