/- Texts of this claim, joined and written short by a program. -/
import Derived.Test.YtdoflpjbdlgciaaGreatDoorP19
import Derived.Test.YtdoflpjbdlgciaaGreatDoorP26
import Derived.Test.YtdoflpjbdlgciaaGreatDoorP27
import Derived.Test.YtdoflpjbdlgciaaGreatDoorP20
import Derived.Test.YtdoflpjbdlgciaaGreatDoorP00
set_option linter.unusedVariables false
set_option linter.unusedSimpArgs false
set_option linter.unusedSectionVars false
set_option maxHeartbeats 2000000
namespace Go.Abs.bZ
open Go Go.Abs
noncomputable section
abbrev j8 (j:eg):List V:=[bU 1 aQ j.Model.aL,bU 6 lZ j.Model.Tables,bU 1 V.str j.Model.dI,bU 6 sV j.Model.c4,bU 3 sW j.Model.Operations,bU 5 sX j.Model.Actions,bU 3 jB j.Model.bA,bU 2 qV j.strict]
def AK (ab:eg):(Int)->Option (cE (Int) (bJ (Unit) (Unit))):=fun i12=>(bif (decide (i12<ab.Model.bA.len))then((aP ab.Model.bA.l i12).bind fun dt=>((((np dt.Table ab.Model.Tables.len).bind fun j4=>(bif j4 then((np dt.cj ab.Model.Tables.len).bind fun oB=>(bif oB then some (dt.Table==dt.cj)else some true))else some true)):Option (Bool)).bind fun wu=>(bif wu then some (.out (.ret ()))else((aP ab.Model.Tables.l dt.Table).bind fun gC=>((aP ab.Model.Tables.l dt.cj).bind fun gn=>(((bif (gC.Kind != 0)then some true else(bif (gn.Kind != 0)then some true else((np dt.fP gC.ba.len).bind fun oC=>(bif oC then(bif (gn.ba.len != 1)then some true else((aP gn.ba.l 0).bind fun oD=>((aP gC.ba.l dt.fP).bind fun oE=>some (oD != oE))))else some true)))):Option (Bool)).bind fun zU=>(bif zU then some (.out (.ret ()))else some (.next (aN (i12+1))))))))))else some (.out (.go ())))
def AL (ab:eg):(Int × (List (Int × Bool)))->Option (cE (Int × (List (Int × Bool))) ((List (Int × Bool)))):=fun⟨i90,i91⟩=>(bif (decide (i90<ab.Model.bA.len))then((aP ab.Model.bA.l i90).bind fun mO=>some (.next ((aN (i90+1)),(mI i91 mO.Table true))))else some (.out i91))
def Mk (ab:eg):Option Bool:=bif (decide (ab.Model.bA.len>12))then some false else((bO (AK ab) 0:Option (bJ Unit Unit)).bind fun o=>match o with| .go _=>some true| .ret _=>some false)
def x4:b8->b8| .seq a _=>a|c=>c
def lD:b8->b8| .seq _ a=>a|c=>c
def hA (k:Nat):b8:=match k with
 |1=>x4 AG.body
 |2=>x4 (lD AG.body)
 |3=>x4 (lD (lD AG.body))
 |4=>x4 (lD (lD (lD AG.body)))
 |5=>x4 (lD (lD (lD (lD AG.body))))
 |6=>x4 (lD (lD (lD (lD (lD AG.body)))))
 | _=>lD (lD (lD (lD (lD (lD AG.body)))))
section
variable{ad:Nat->Option cb}{b:Nat}{σ:bY}{H H0:Heap}
theorem asK (Sm:Mc ad)(ab:eg){r:Bool}(h:Mk ab=some r):
  fg ad b (.seq (hA 1) (.seq (hA 2) (hA 3))) (wi 0 ([.agg (j8 ab)]++[])) H0 fun x aV H'=>match(generalizing:=false) r with
   |false=>x=.ret/\At aV [2] [.bool false]
   |true=>x=.normal/\∃al,b<=al/\At aV [1] [.ptr al 0]/\Own H' [[(al,.cells (j8 ab))]]:=by
 unfold Mk at h;refine pj <| P5 (cs:=(j8 ab)) rfl (Own.nil H0) rfl (by simp[bX]) fun td al qF Sn=>pp (.bool false) <| gJ <| p8 <| pj <| pp (.ptr al 0) <| pp (.ptr al 6) <| ph (bU 3 jB ab.Model.bA) (ib rfl (Sn.get 0 rfl) rfl) <| ph (aQ ab.Model.bA.len) (v8 rfl _) <| pp (.bool (decide (ab.Model.bA.len>12))) <| gJ <| ?_
 rcases qR h with⟨iz,h⟩|⟨iz,h⟩
 ·refine zy rfl iz <| pj <| pp (.bool false) <| gJ <| zx <| ?_
  cases h;exact⟨rfl,rfl⟩
 ·refine zz rfl iz <| zw <| pj <| pp (.ptr al 0) <| pp (.ptr al 6) <| ph (bU 3 jB ab.Model.bA) (ib rfl (Sn.get 0 rfl) rfl) <| ph (aQ ab.Model.bA.len) (v8 rfl _) <| pp (aQ 0) <| gJ <| Fp <| ?_
  obtain⟨s3,asL,h⟩:=bind_some h;refine c8 (AK ab) (fun s aV H'=>At aV [1,18,19,20] [.ptr al 0,bU 3 jB ab.Model.bA,aQ ab.Model.bA.len,aQ s]/\Own H' ([(al,.cells (j8 ab))]::[])) (fun o=>fun gx aV H'=>match(generalizing:=false) o with| .go s=>gx=(.exit 0)/\At aV [1] [.ptr al 0]/\Own H' ([(al,.cells (j8 ab))]::[])| .ret s=>gx=.ret/\At aV [2] [.bool false]/\Own H' []) asL ⟨rfl,Sn⟩ ?_ ?_
  ·rintro i12 cU aBM r a7 jH
   dsimp only[AK]at jH
   try dsimp only at a7
   obtain⟨So,adZ⟩:=a7;refine ed So <| pj <| pp (.bool (decide (i12<ab.Model.bA.len))) <| gJ <| p8 <| ?_
   rcases qR jH with⟨Sp,jH⟩|⟨Sp,jH⟩
   ·refine zy rfl Sp <| zw <| p8 <| Fp <| pj <| ?_
    obtain⟨dt,asM,jH⟩:=bind_some jH;refine ph (.dW (aF (jB dt)) 0) (zB rfl rfl asM _) <| pp (.agg [aQ dt.Table,aQ dt.fP,aQ dt.cj]) <| zC rfl adZ fun aBN uA asN asO=>zD (vs:=[aQ dt.Table,aQ dt.fP,aQ dt.cj]) (cs':=[aQ dt.Table,aQ dt.fP,aQ dt.cj]) rfl asO 0 rfl asN rfl rfl ⟨rfl,ma rfl⟩ (by simp[bX]) rfl fun aBO wR=>gJ <| p8 <| p8 <| ?_
    obtain⟨wu,rb,jH⟩:=bind_some jH;refine P4 (fun gx aV H'=>(fun s=>gx=.normal/\At aV [1,4,18,19,20,48] [.ptr al 0,.ptr uA 0,bU 3 jB ab.Model.bA,aQ ab.Model.bA.len,aQ i12,.bool s]/\Own H' ([(uA,.cells [aQ dt.Table,aQ dt.fP,aQ dt.cj])]::[(al,.cells (j8 ab))]::[])) wu) ?_ ?_
    ·refine tZ <| pp (.ptr uA 0) <| ph (aQ dt.Table) (ib rfl (wR.get 0 rfl) rfl) <| pp (.ptr al 0) <| pp (.ptr al 1) <| ph (bU 6 lZ ab.Model.Tables) (ib rfl (wR.get 1 rfl) rfl) <| ph (aQ ab.Model.Tables.len) (v8 rfl _) <| ?_
     obtain⟨j4,asP,rb⟩:=bind_some rb;refine ph (.bool j4) (Cr (Sm _ _ _ _ asP) (xO (by simp[cx,bQ])) rfl rfl) <| pp (.bool (!j4)) <| pp (.bool (!j4)) <| ?_
     rcases qR rb with⟨mQ,rb⟩|⟨mQ,rb⟩
     ·refine k9 (.ptr uA 2) (lX mQ) <| iN (v:=(aQ dt.cj)) (jf rfl (lX mQ)) (ib rfl (wR.get 0 rfl) rfl) <| k9 (.ptr al 0) (lX mQ) <| k9 (.ptr al 1) (lX mQ) <| iN (v:=(bU 6 lZ ab.Model.Tables)) (jf rfl (lX mQ)) (ib rfl (wR.get 1 rfl) rfl) <| iN (v:=(aQ ab.Model.Tables.len)) (jf rfl (lX mQ)) (v8 rfl _) <| ?_
      obtain⟨oB,asQ,rb⟩:=bind_some rb;refine iN (v:=(.bool oB)) (jf rfl (lX mQ)) (Cr (Sm _ _ _ _ asQ) (xO (by simp[cx,bQ])) rfl rfl) <| k9 (.bool (!oB)) (lX mQ) <| ph (.bool (!oB)) (Cq rfl (lX mQ)) <| pp (.bool (!oB)) <| ?_
      rcases qR rb with⟨re,rb⟩|⟨re,rb⟩
      ·refine k9 (.ptr uA 0) (lX re) <| iN (v:=(aQ dt.Table)) (jf rfl (lX re)) (ib rfl (wR.get 0 rfl) rfl) <| k9 (.ptr uA 2) (lX re) <| iN (v:=(aQ dt.cj)) (jf rfl (lX re)) (ib rfl (wR.get 0 rfl) rfl) <| k9 (.bool (dt.Table==dt.cj)) (lX re) <| ph (.bool (dt.Table==dt.cj)) (Cq rfl (lX re)) <| gJ <| ?_
       cases rb;exact⟨rfl,rfl,wR⟩
      ·refine cB (lY re) <| cB (lY re) <| cB (lY re) <| cB (lY re) <| cB (lY re) <| ph (.bool true) (qT rfl (lY re)) <| gJ <| ?_
       cases rb;exact⟨rfl,rfl,wR⟩
     ·refine cB (lY mQ) <| cB (lY mQ) <| cB (lY mQ) <| cB (lY mQ) <| cB (lY mQ) <| cB (lY mQ) <| cB (lY mQ) <| cB (lY mQ) <| ph (.bool true) (qT rfl (lY mQ)) <| pp (.bool true) <| cB rfl <| cB rfl <| cB rfl <| cB rfl <| cB rfl <| ph (.bool true) (qT rfl rfl) <| gJ <| ?_
      cases rb;exact⟨rfl,rfl,wR⟩
    ·intro bt cU aBP p9
     try dsimp only at jH p9
     obtain⟨rfl,asR,Sq⟩:=p9;refine ed asR <| ?_
     rcases qR jH with⟨o9,jH⟩|⟨o9,jH⟩
     ·refine zy rfl o9 <| pj <| pp (.bool false) <| gJ <| zx <| ?_
      cases jH;exact⟨nofun,⟨rfl,rfl,((Sq.drop 0).drop 0)⟩⟩
     ·refine zz rfl o9 <| zw <| p8 <| ?_
      obtain⟨gC,asS,jH⟩:=bind_some jH;obtain⟨gn,asT,jH⟩:=bind_some jH;refine abM 14 Sq rfl (.pp (.ptr al 0) <| .pp (.ptr al 1) <| .ph (bU 6 lZ ab.Model.Tables) (fun _ wS=>(ib rfl (wS.get 1 rfl) rfl)) <| .pp (.ptr uA 0) <| .ph (aQ dt.Table) (fun _ wS=>(ib rfl (wS.get 0 rfl) rfl)) <| .ph (.dW (aF (lZ gC)) 0) (fun _ wS=>(zB rfl rfl asS _)) <| .pp (.agg [.str gC.Name,aQ gC.Kind,bU 1 aQ gC.ba,aQ gC.Range.fh,aQ gC.Range.fi,aQ gC.cF]) <| .pp (.ptr al 0) <| .pp (.ptr al 1) <| .ph (bU 6 lZ ab.Model.Tables) (fun _ wS=>(ib rfl (wS.get 1 rfl) rfl)) <| .pp (.ptr uA 2) <| .ph (aQ dt.cj) (fun _ wS=>(ib rfl (wS.get 0 rfl) rfl)) <| .ph (.dW (aF (lZ gn)) 0) (fun _ wS=>(zB rfl rfl asT _)) <| .pp (.agg [.str gn.Name,aQ gn.Kind,bU 1 aQ gn.ba,aQ gn.Range.fh,aQ gn.Range.fi,aQ gn.cF]) <| .nil) fun ad0=>zC rfl Sq fun aBQ Sr Ss asU=>zC rfl asU fun aBR St Su asV=>zD (vs:=[.str gC.Name,aQ gC.Kind,bU 1 aQ gC.ba,aQ gC.Range.fh,aQ gC.Range.fi,aQ gC.cF]) (cs':=[.str gC.Name,aQ gC.Kind,bU 1 aQ gC.ba,aQ gC.Range.fh,aQ gC.Range.fi,aQ gC.cF]) rfl asV 1 rfl Ss rfl rfl ⟨rfl,ma rfl⟩ (by simp[bX]) rfl fun aBS asW=>zD (vs:=[.str gn.Name,aQ gn.Kind,bU 1 aQ gn.ba,aQ gn.Range.fh,aQ gn.Range.fi,aQ gn.cF]) (cs':=[.str gn.Name,aQ gn.Kind,bU 1 aQ gn.ba,aQ gn.Range.fh,aQ gn.Range.fi,aQ gn.cF]) rfl asW 0 rfl Su rfl rfl ⟨rfl,ma rfl⟩ (by simp[bX]) rfl fun aBT rf=>gJ ⟨rfl,?_⟩;replace Su:=dc ad0 Su;replace Ss:=dc ad0 Ss;refine p8 <| ?_
      obtain⟨zU,kO,jH⟩:=bind_some jH;refine P4 (fun gx aV H'=>(fun s=>gx=.normal/\At aV [1,18,19,20,98] [.ptr al 0,bU 3 jB ab.Model.bA,aQ ab.Model.bA.len,aQ i12,.bool s]/\Own H' ([(al,.cells (j8 ab))]::[])) zU) ?_ ?_
      ·refine abq <| pp (.ptr Sr 1) <| ph (aQ gC.Kind) (ib rfl (rf.get 1 rfl) rfl) <| pp (.bool (gC.Kind != 0)) <| pp (.bool (gC.Kind != 0)) <| ?_
       rcases qR kO with⟨wT,kO⟩|⟨wT,kO⟩
       ·refine cB wT <| cB wT <| cB wT <| ph (.bool true) (qT rfl wT) <| pp (.bool true) <| cB rfl <| cB rfl <| cB rfl <| cB rfl <| cB rfl <| cB rfl <| cB rfl <| ph (.bool true) (qT rfl rfl) <| pp (.bool true) <| cB rfl <| cB rfl <| cB rfl <| cB rfl <| ph (.bool true) (qT rfl rfl) <| pp (.bool true) <| cB rfl <| cB rfl <| cB rfl <| cB rfl <| cB rfl <| cB rfl <| cB rfl <| cB rfl <| cB rfl <| cB rfl <| cB rfl <| ph (.bool true) (qT rfl rfl) <| gJ ⟨rfl,?_⟩
        cases kO;exact⟨rfl,rfl,(((rf.drop 0).drop 0).drop 0)⟩
       ·refine k9 (.ptr St 1) wT <| iN (v:=(aQ gn.Kind)) (jf rfl wT) (ib rfl (rf.get 0 rfl) rfl) <| k9 (.bool (gn.Kind != 0)) wT <| ph (.bool (gn.Kind != 0)) (Cq rfl wT) <| pp (.bool (gn.Kind != 0)) <| ?_
        rcases qR kO with⟨nX,kO⟩|⟨nX,kO⟩
        ·refine cB nX <| cB nX <| cB nX <| cB nX <| cB nX <| cB nX <| cB nX <| ph (.bool true) (qT rfl nX) <| pp (.bool true) <| cB rfl <| cB rfl <| cB rfl <| cB rfl <| ph (.bool true) (qT rfl rfl) <| pp (.bool true) <| cB rfl <| cB rfl <| cB rfl <| cB rfl <| cB rfl <| cB rfl <| cB rfl <| cB rfl <| cB rfl <| cB rfl <| cB rfl <| ph (.bool true) (qT rfl rfl) <| gJ ⟨rfl,?_⟩
         cases kO;exact⟨rfl,rfl,(((rf.drop 0).drop 0).drop 0)⟩
        ·refine k9 (.ptr uA 1) nX <| iN (v:=(aQ dt.fP)) (jf rfl nX) (ib rfl (rf.get 2 rfl) rfl) <| k9 (.ptr Sr 2) nX <| iN (v:=(bU 1 aQ gC.ba)) (jf rfl nX) (ib rfl (rf.get 1 rfl) rfl) <| iN (v:=(aQ gC.ba.len)) (jf rfl nX) (v8 rfl _) <| ?_
         obtain⟨oC,asX,kO⟩:=bind_some kO;refine iN (v:=(.bool oC)) (jf rfl nX) (Cr (Sm _ _ _ _ asX) (xO (by simp[cx,bQ])) rfl rfl) <| k9 (.bool (!oC)) nX <| ph (.bool (!oC)) (Cq rfl nX) <| pp (.bool (!oC)) <| ?_
         rcases qR kO with⟨te,kO⟩|⟨te,kO⟩
         ·refine k9 (.ptr St 2) (lX te) <| iN (v:=(bU 1 aQ gn.ba)) (jf rfl (lX te)) (ib rfl (rf.get 0 rfl) rfl) <| iN (v:=(aQ gn.ba.len)) (jf rfl (lX te)) (v8 rfl _) <| k9 (.bool (gn.ba.len != 1)) (lX te) <| ph (.bool (gn.ba.len != 1)) (Cq rfl (lX te)) <| pp (.bool (gn.ba.len != 1)) <| ?_
          rcases qR kO with⟨j9,kO⟩|⟨j9,kO⟩
          ·refine cB j9 <| cB j9 <| cB j9 <| cB j9 <| cB j9 <| cB j9 <| cB j9 <| cB j9 <| cB j9 <| cB j9 <| cB j9 <| ph (.bool true) (qT rfl j9) <| gJ ⟨rfl,?_⟩
           cases kO;exact⟨rfl,rfl,(((rf.drop 0).drop 0).drop 0)⟩
          ·refine k9 (.ptr St 2) j9 <| iN (v:=(bU 1 aQ gn.ba)) (jf rfl j9) (ib rfl (rf.get 0 rfl) rfl) <| ?_
           obtain⟨oD,asY,kO⟩:=bind_some kO;refine iN (v:=(.dW (aF (aQ oD)) 0)) (jf rfl j9) (zB rfl rfl asY _) <| k9 (aQ oD) j9 <| k9 (.ptr Sr 2) j9 <| iN (v:=(bU 1 aQ gC.ba)) (jf rfl j9) (ib rfl (rf.get 1 rfl) rfl) <| k9 (.ptr uA 1) j9 <| iN (v:=(aQ dt.fP)) (jf rfl j9) (ib rfl (rf.get 2 rfl) rfl) <| ?_
           obtain⟨oE,asZ,kO⟩:=bind_some kO;refine iN (v:=(.dW (aF (aQ oE)) 0)) (jf rfl j9) (zB rfl rfl asZ _) <| k9 (aQ oE) j9 <| k9 (.bool (oD != oE)) j9 <| ph (.bool (oD != oE)) (Cq rfl j9) <| gJ ⟨rfl,?_⟩
           cases kO;exact⟨rfl,rfl,(((rf.drop 0).drop 0).drop 0)⟩
         ·refine cB (lY te) <| cB (lY te) <| cB (lY te) <| cB (lY te) <| ph (.bool true) (qT rfl (lY te)) <| pp (.bool true) <| cB rfl <| cB rfl <| cB rfl <| cB rfl <| cB rfl <| cB rfl <| cB rfl <| cB rfl <| cB rfl <| cB rfl <| cB rfl <| ph (.bool true) (qT rfl rfl) <| gJ ⟨rfl,?_⟩
          cases kO;exact⟨rfl,rfl,(((rf.drop 0).drop 0).drop 0)⟩
      ·intro bt cU aBU p9
       try dsimp only at jH p9
       obtain⟨rfl,as0,ad1⟩:=p9;refine ed as0 <| ?_
       rcases qR jH with⟨Sv,jH⟩|⟨Sv,jH⟩
       ·refine zy rfl Sv <| pj <| pp (.bool false) <| gJ <| zx <| ?_
        cases jH;exact⟨nofun,⟨rfl,rfl,(ad1.drop 0)⟩⟩
       ·refine zz rfl Sv <| zw <| tZ <| pp (aQ (aN (i12+1))) <| pp (aQ (aN (i12+1))) <| gJ <| ?_
        cases jH;exact⟨rfl,⟨rfl,ad1⟩⟩
   ·refine zz rfl Sp <| J5 <| ?_
    cases jH;exact⟨nofun,⟨rfl,rfl,adZ⟩⟩
  ·intro bt cU aBV p9
   cases s3 with
   |go ad2=>
    try dsimp only at h p9
    obtain⟨rfl,as1,as2⟩:=p9;cases h;exact⟨rfl,al,qF,as1,as2⟩
   |ret q=>
    obtain⟨rfl,as3,aB⟩:=p9;cases h;exact⟨rfl,as3⟩
theorem as4 (ab:eg){al:Nat}{m:List (Int × Bool)}(as5:At σ [1] [.ptr al 0])(aB:Own H [[(al,.cells (j8 ab))]])(h:bO (AL ab) (0,[])=some m):
  fg ad b (.seq (hA 4) (hA 5)) σ H fun x aV H'=>x=.normal/\∃eZ l,b<=eZ/\b<=l/\At aV [1,7] [.ptr al 0,.ptr eZ 0]/\Own H' [[(eZ,.cells [.map l])],[(l,.map (gK aQ V.bool m))],[(al,.cells (j8 ab))]]:=by
 rw[<-Fv as5];refine pj <| abv rfl aB fun aBW x5 ad3 as6=>zC rfl as6 fun aBX Hr ad4 as7=>zD (vs:=[.map x5]) (cs':=[.map x5]) rfl as7 0 rfl ad4 rfl rfl ⟨rfl,ma rfl⟩ (by simp[bX]) rfl fun aBY ad5=>gJ <| pj <| pp (.ptr al 0) <| pp (.ptr al 6) <| ph (bU 3 jB ab.Model.bA) (ib rfl (ad5.get 2 rfl) rfl) <| ph (aQ ab.Model.bA.len) (v8 rfl _) <| pp (aQ 0) <| gJ <| Fp <| ?_
 refine c8 (AL ab) (fun s aV H'=>At aV [1,7,103,104,105] [.ptr al 0,.ptr Hr 0,bU 3 jB ab.Model.bA,aQ ab.Model.bA.len,aQ s.1]/\Own H' ([(Hr,.cells [.map x5])]::[(x5,.map (gK aQ V.bool s.2))]::[(al,.cells (j8 ab))]::[])) (fun o=>fun gx aV H'=>gx=(.exit 2)/\At aV [1,7] [.ptr al 0,.ptr Hr 0]/\Own H' ([(Hr,.cells [.map x5])]::[(x5,.map (gK aQ V.bool o))]::[(al,.cells (j8 ab))]::[])) h ⟨rfl,ad5⟩ ?_ ?_
 ·rintro⟨i90,i91⟩ cU aBZ r a7 x6
  dsimp only[AL]at x6
  try dsimp only at a7
  obtain⟨as8,ad6⟩:=a7;refine ed as8 <| pj <| pp (.bool (decide (i90<ab.Model.bA.len))) <| gJ <| p8 <| ?_
  rcases qR x6 with⟨Sw,x6⟩|⟨Sw,x6⟩
  ·refine zy rfl Sw <| zw <| p8 <| Fp <| pj <| ?_
   obtain⟨mO,as9,x6⟩:=bind_some x6;refine ph (.dW (aF (jB mO)) 0) (zB rfl rfl as9 _) <| pp (.agg [aQ mO.Table,aQ mO.fP,aQ mO.cj]) <| zC rfl ad6 fun aB0 ata atb atc=>zD (vs:=[aQ mO.Table,aQ mO.fP,aQ mO.cj]) (cs':=[aQ mO.Table,aQ mO.fP,aQ mO.cj]) rfl atc 0 rfl atb rfl rfl ⟨rfl,ma rfl⟩ (by simp[bX]) rfl fun aB1 Sx=>gJ <| tZ <| ph (.map x5) (ib rfl (Sx.get 1 rfl) rfl) <| pp (.ptr ata 0) <| ph (aQ mO.Table) (ib rfl (Sx.get 0 rfl) rfl) <| abH (gY:=aQ) (gL:=V.bool) (m:=i91) (k:=mO.Table) (w:=true) rfl Ft Sx 2 rfl ad3 rfl rfl rfl (by simp) fun aB2 atd=>gJ <| tZ <| pp (aQ (aN (i90+1))) <| pp (aQ (aN (i90+1))) <| gJ <| ?_
   cases x6;exact⟨rfl,⟨rfl,(atd.drop 0)⟩⟩
  ·refine zz rfl Sw <| J5 <| ?_
   cases x6;exact⟨nofun,rfl,rfl,ad6⟩
 ·intro bt cU aB3 p9
  obtain⟨rfl,ate,atf⟩:=p9;exact⟨rfl,Hr,x5,ad4,ad3,ate,atf⟩
theorem atg{eZ l:Nat}{m:List (Int × Bool)}(j:At σ [7] [.ptr eZ 0]){ms:cO}(aB:Own H ([(eZ,.cells [.map l])]::[(l,.map (gK aQ V.bool m))]::ms)):
  fg ad b (hA 7) σ H fun x aV H'=>x=.ret/\At aV [2] [.bool (decide (m.length=0))]:=by
 rw[<-Fv j];refine pj <| ph (.map l) (ib rfl (aB.get 0 rfl) rfl) <| ph (aQ (m.length:Int)) (abG (gY:=aQ) (gL:=V.bool) (aB.get 1 rfl) rfl) <| pp (.bool ((m.length:Int)==0)) <| pp (.bool ((m.length:Int)==0)) <| gJ <| zx <| ?_
 refine⟨rfl,?_⟩;have:((m.length:Int)==0)=decide (m.length=0):=by rw[Bi];simp
 rw[<-this];rfl
theorem ath (tf:ad 129=some (.code Dj)){nY eZ l:Nat}{t:Int}{m:List (Int × Bool)}{ms:cO}(aB:Own H ([(nY,.cells [aQ t])]::[(eZ,.cells [.map l])]::[(l,.map (gK aQ V.bool m))]::ms))(h:gz):
  cl ad (.fn 129 [] [.ptr nY 0,.ptr eZ 0]) [.agg [aQ h.Table,aQ h.fP,aQ h.cj]] H=some (.bool ((h.Table==t)&&(jg m h.cj).getD false),H,H.length):=by
 refine abD (caps:=[.ptr nY 0,.ptr eZ 0]) tf (ma rfl) rfl ?_ (by simp[bQ,cx]);refine pj <| P5 (cs:=[aQ h.Table,aQ h.fP,aQ h.cj]) rfl aB rfl (by simp[bX]) fun td a3 zc AM=>pp (.bool false) <| gJ <| pj <| pp (.ptr a3 0) <| ph (aQ h.Table) (ib rfl (AM.get 0 rfl) rfl) <| ph (aQ t) (ib rfl (AM.get 1 rfl) rfl) <| pp (.bool (h.Table==t)) <| pp (.bool (h.Table==t)) <| ?_
 cases c:h.Table==t with
 |true=>
  refine iN (v:=.map l) (jf rfl rfl) (ib rfl (AM.get 2 rfl) rfl) <| k9 (.ptr a3 2) rfl <| iN (v:=aQ h.cj) (jf rfl rfl) (ib rfl (AM.get 0 rfl) rfl) <| iN (v:=.bool ((jg m h.cj).getD false)) (jf rfl rfl) (abF (gY:=aQ) (gL:=V.bool) Ft false rfl (AM.get 3 rfl) rfl rfl) <| pp (.bool ((jg m h.cj).getD false)) <| pp (.bool ((jg m h.cj).getD false)) <| gJ <| zx <| ?_
  exact⟨.inr rfl,abB (.tmp rfl .nil) rfl (by simp[bQ,cx])⟩
 |false=>
  refine qb rfl <| qb rfl <| qb rfl <| qb rfl <| pp (.bool false) <| pp (.bool false) <| gJ <| zx <| ?_
  exact⟨.inr rfl,abB (.tmp rfl .nil) rfl (by simp[bQ,cx])⟩
def oJ:b8:=.region [⟨some (125,false),.fieldAddr 0 (.var 1),none⟩,⟨some (126,false),.fieldAddr 6 (.tmp 125),none⟩,⟨some (127,false),.load none (.tmp 126),none⟩,⟨some (128,false),.tB 129 [] [.var 10,.var 7],none⟩,⟨some (129,false),.call false (.func 128) [.tmp 127,.tmp 128],none⟩,⟨some (130,true),.un .not (.tmp 129),none⟩] none
def abK:List bP:=[⟨some (124,false),.extract (.tmp 123) 0,none⟩,⟨some (10,true),.alloc [aQ 0],none⟩,⟨none,.store 1 (.var 10) (.tmp 124),none⟩]
def Ml:List bP:=[⟨some (131,false),.load none (.var 7),none⟩,⟨some (132,false),.load none (.var 10),none⟩]
def aa:fJ:=⟨[⟨some (119,false),.load none (.var 7),none⟩],.tmp 119,120,(121,false),[⟨some (122,true),.extract (.tmp 121) 0,none⟩],.var 122,7,(123,false),abK,.seq oJ (.cond (.var 130) (.region (Ml++[⟨none,.yz 0 (.tmp 131) (.tmp 132),none⟩]) none) .skip)⟩
def lW:AH:=⟨oJ,.var 130,Ml,.tmp 131,.tmp 132,0⟩
theorem ati (tf:ad 129=some (.code Dj))(oq:AF ad){ab:eg}{al nY eZ l:Nat}{t:Int}{m:List (Int × Bool)}{q:Bool}
  (aB:Own H [[(nY,.cells [aQ t])],[(eZ,.cells [.map l])],[(l,.map (gK aQ V.bool m))],[(al,.cells (j8 ab))]]) {vs:List V} {ts:List Nat} (j:At σ (1::7::10::ts) (.ptr al 0::.ptr eZ 0::.ptr nY 0::vs))
  (bj:FD ab.Model.bA (fun h=>some ((h.Table==t)&&(jg m h.cj).getD false))=some q):
  fg ad b oJ σ H fun x aV H'=>x=.normal/\H'=H/\aV=up σ 130 (.bool (!q)):=by
 have Sy:σ 1=.ptr al 0:=by simpa using(eR j).1
 have atj:σ 7=.ptr eZ 0:=by simpa using(eR (eR j).2).1
 have Sz:σ 10=.ptr nY 0:=by simpa using(eR (eR (eR j).2).2).1
 have bn:=oq H _ aB ab.Model.bA _ (.fn 129 [] [.ptr nY 0,.ptr eZ 0]) (fun H low=>by simp[fR,ei,bQ,cx]) (fun H' z0 fM mJ aI=>by
  cases aI;exact ath tf mJ z0) q bj
 refine tZ <| ph (.ptr al 0) ?_ <| ph (.ptr al 6) rfl <| ph (bU 3 jB ab.Model.bA) (ib rfl (aB.get 3 rfl) rfl) <| ph (.fn 129 [] [.ptr nY 0,.ptr eZ 0]) ?_ <| ph (.bool q) (Cr bn (abw (by simp) (abx (fun H low=>by simp[fR,ei,bQ,cx]) anN)) rfl rfl) <| pp (.bool (!q)) <| gJ ⟨rfl,rfl,rfl⟩
 ·rw[ox];simp only[bV,Sy]
 ·rw[PO]
  show some (V.fn 129 [] [σ 10,σ 7],H,H.length)=_;rw[Sz,atj]
end
end
end Go.Abs.bZ
namespace Go.Abs
open Go
theorem gp{n:Int}(h1:-9223372036854775808<=n)(h2:n<=9223372036854775807):aN n=n:=wrap_small h1 (by omega)
theorem cX{α:Type}(l:List α)(k:Nat):aP l (k:Int)=l[k]? :=by simp[aP]
theorem atk{α:Type}{l:List α}{i:Int}{a:α}(h:0<=i)(e:l[i.toNat]? =some a):aP l i=some a:=by simp[aP,h,e]
theorem SA{α:Type}(l:List α):aP l 0=l[0]? :=cX l 0
def iU{α A O:Type}(step:Nat->A->α->Sum A O)(fin:A->O):Nat->A->List α->O
 | _,a,[]=>fin a
 |k,a,x::r=>match step k a x with
  | .inl bl=>iU step fin (k+1) bl r
  | .inr o=>o
theorem ad7{α A S O:Type}{f:S->Option (cE S O)}(mk:Nat->A->S)(step:Nat->A->α->Sum A O)(fin:A->O)(I:Nat->A->Prop)(xs:List α)
  (hs:∀k a x,xs[k]? =some x->I k a->f (mk k a)=some (match step k a x with| .inl bl=>.next (mk (k+1) bl)| .inr o=>.out o)/\∀bl,step k a x=.inl bl->I (k+1) bl)
  (he:∀a,I xs.length a->f (mk xs.length a)=some (.out (fin a))) {a:A} (h0:I 0 a):bO f (mk 0 a)=some (iU step fin 0 a xs):=by
 have key:∀(n k:Nat) (a:A),k+n=xs.length->I k a->bO f (mk k a)=some (iU step fin k a (xs.drop k)):=by
  intro n
  induction n with
  |zero=>
   intro k a ah a7;have e:k=xs.length:=by omega
   subst e;rw[hD,he a a7,uV (aM _)];rfl
  |succ n ih=>
   intro k a ah a7;have aH:k<xs.length:=by omega
   obtain⟨h1,h2⟩:=hs k a xs[k] (by simp[aH]) a7;rw[hD,h1,qm aH];simp only[iU];cases cg:step k a xs[k]with
   |inl bl=>exact ih (k+1) bl (by omega) (h2 bl cg)
   |inr o=>rfl
 have:=key xs.length 0 a (by omega) h0;simpa using this
theorem Hs{α A S O:Type}{f:S->Option (cE S O)}(b6:Nat->A->S->Prop)(step:Nat->A->α->Sum A O)(fin:A->O)(xs:List α)
  (hs:∀k a x s,xs[k]? =some x->b6 k a s->match step k a x with| .inl bl=>∃ar,f s=some (.next ar)/\b6 (k+1) bl ar| .inr o=>f s=some (.out o))
  (he:∀a s,b6 xs.length a s->f s=some (.out (fin a))) {a:A} {s:S} (h0:b6 0 a s):bO f s=some (iU step fin 0 a xs):=by
 have key:∀(n k:Nat) (a:A) (s:S),k+n=xs.length->b6 k a s->bO f s=some (iU step fin k a (xs.drop k)):=by
  intro n
  induction n with
  |zero=>
   intro k a s ah a7;have e:k=xs.length:=by omega
   subst e;rw[hD,he a s a7,uV (aM _)];rfl
  |succ n ih=>
   intro k a s ah a7;have aH:k<xs.length:=by omega
   have h1:=hs k a xs[k] s (by simp[aH]) a7;rw[qm aH];simp only[iU];cases cg:step k a xs[k]with
   |inl bl=>
    rw[cg]at h1;obtain⟨ar,ag,e2⟩:=h1;rw[hD,ag];exact ih (k+1) bl ar (by omega) e2
   |inr o=>
    rw[cg]at h1;rw[hD,h1]
 have:=key xs.length 0 a s (by omega) h0;simpa using this
theorem Mm{α S O:Type}{f:S->Option (cE S O)}(I:Nat->S->Prop)(P:O->Prop)(xs:List α)(hs:∀k x s,xs[k]? =some x->I k s->∃ar,f s=some (.next ar)/\I (k+1) ar)
  (he:∀s,I xs.length s->∃o,f s=some (.out o)/\P o) {s:S} (h0:I 0 s):∃o,bO f s=some o/\P o:=by
 have key:∀(n k:Nat) (s:S),k+n=xs.length->I k s->∃o,bO f s=some o/\P o:=by
  intro n
  induction n with
  |zero=>
   intro k s ah a7;have e:k=xs.length:=by omega
   subst e;obtain⟨o,ag,e2⟩:=he s a7;exact⟨o,by rw[hD,ag],e2⟩
  |succ n ih=>
   intro k s ah a7;have aH:k<xs.length:=by omega
   obtain⟨ar,ag,e2⟩:=hs k xs[k] s (by simp[aH]) a7;obtain⟨o,f1,f2⟩:=ih (k+1) ar (by omega) e2;exact⟨o,by rw[hD,ag];exact f1,f2⟩
 exact key xs.length 0 s (by omega) h0
theorem x7{α S O:Type}{f:S->Option (cE S O)}(I:Nat->S->Prop)(P:O->Prop)(xs:List α)(hs:∀k x s,xs[k]? =some x->I k s->(∃ar,f s=some (.next ar)/\I (k+1) ar)\/(∃o,f s=some (.out o)/\P o))
  (he:∀s,I xs.length s->∃o,f s=some (.out o)/\P o) {s:S} (h0:I 0 s):∃o,bO f s=some o/\P o:=by
 have key:∀(n k:Nat) (s:S),k+n=xs.length->I k s->∃o,bO f s=some o/\P o:=by
  intro n
  induction n with
  |zero=>
   intro k s ah a7;have e:k=xs.length:=by omega
   subst e;obtain⟨o,ag,e2⟩:=he s a7;exact⟨o,by rw[hD,ag],e2⟩
  |succ n ih=>
   intro k s ah a7;have aH:k<xs.length:=by omega
   rcases hs k xs[k] s (by simp[aH]) a7 with⟨ar,ag,e2⟩|⟨o,ag,e2⟩
   ·obtain⟨o,f1,f2⟩:=ih (k+1) ar (by omega) e2
    exact⟨o,by rw[hD,ag];exact f1,f2⟩
   ·exact⟨o,by rw[hD,ag],e2⟩
 exact key xs.length 0 s (by omega) h0
def allI{α:Type}(ok:Nat->α->Bool)(xs:List α):Bool:=xs.zipIdx.all fun p=>ok p.2 p.1
theorem AO{α:Type}{ok:Nat->α->Bool}{xs:List α}:allI ok xs=true↔∀k x,xs[k]? =some x->ok k x=true:=by
 unfold allI;rw[eV];constructor
 ·intro h k x hx
  exact h (x,k) (jm.2 hx)
 ·intro h p hp
  exact h p.2 p.1 (jm.1 hp)
theorem qh{α S:Type}{f:S->Option (cE S (bJ Unit Unit))}(I:Nat->S->Prop)(ok:Nat->α->Bool)(xs:List α)
  (hs:∀k x s,xs[k]? =some x->I k s->(∀j y,j<k->xs[j]? =some y->ok j y=true)->(ok k x=true->∃ar,f s=some (.next ar)/\I (k+1) ar)/\(ok k x=false->f s=some (.out (.ret ()))))
  (he:∀s,I xs.length s->f s=some (.out (.go ()))) {s:S} (h0:I 0 s):bO f s=some (bif allI ok xs then .go ()else .ret ()):=by
 obtain⟨o,ag,e2⟩:=x7 (f:=f) (fun k s=>I k s/\∀j y,j<k->xs[j]? =some y->ok j y=true) (fun o=>o=bif allI ok xs then .go ()else .ret ()) xs (fun k x s hx a7=>by
  obtain⟨h1,h2⟩:=hs k x s hx a7.1 a7.2;cases aZ:ok k x with
  |true=>
   obtain⟨ar,ag,e2⟩:=h1 aZ;refine .inl ⟨ar,ag,e2,fun j y hj hy=> ?_⟩;by_cases e:j=k
   ·subst e;rw[hx]at hy;cases hy;exact aZ
   ·exact a7.2 j y (by omega) hy
  |false=>
   refine .inr ⟨.ret (),h2 aZ,?_⟩;cases ao:allI ok xs with
   |false=>rfl
   |true=>rw[AO.1 ao k x hx]at aZ;cases aZ) (fun s a7=>by
  refine⟨.go (),he s a7.1,?_⟩;have:allI ok xs=true:=AO.2 fun k x hx=>a7.2 k x (fF.1 hx).1 hx;rw[this];rfl) (s:=s) ⟨h0,fun j y hj=>by omega⟩
 rw[ag,e2]
def iV{α:Type}(f:α->Int)(xs:List α):Nat->Int
 |0=>-1
 |k+1=>((xs[k]?).map f).getD (-1)
theorem AP{α:Type}(f:α->Int){xs:List α}{k:Nat}{x:α}(h:xs[k]? =some x):iV f xs (k+1)=f x:=by simp[iV,h]
theorem Mn{α:Type}{f:α->Int}{xs:List α}:∀{k:Nat},(∀j y,j<k->xs[j]? =some y->iV f xs j<f y)-> -1<=iV f xs k
 |0,_=>by simp[iV]
 |k+1,h=>by
  have ih:=Mn (k:=k) fun j y hj=>h j y (by omega);cases hx:xs[k]? with
  |none=>simp[iV,hx]
  |some x=>
   rw[AP f hx];have:=h k x (by omega) hx;omega
theorem ad8{α A O:Type}{step:Nat->A->α->Sum A O}{fin:A->O}{g:A->α->A}(h:∀k a x,step k a x=.inl (g a x)):∀(l:List α) (k:Nat) (a:A),iU step fin k a l=fin (l.foldl g a)
 |[],_,_=>rfl
 |x::r,k,a=>by simp only[iU,h,xb];exact ad8 h r (k+1) (g a x)
theorem atl{α R:Type}{f:Int->Option (cE Int (bJ Unit Unit))}(xs:List α)(hn:xs.length<4611686018427387904)(b:Nat->α->Bool)
  (hs:∀(k:Nat) x,xs[k]? =some x->f k=some (bif b k x then .out (.ret ())else .next (aN (k+1)))) (he:f (xs.length:Int)=some (.out (.go ()))):
  bO f 0=some (bif xs.zipIdx.any (fun p=>b p.2 p.1)then .ret ()else .go ()):=by
 have h:=ad7 (f:=f) (fun k (_:Unit)=>(k:Int)) (fun k _ x=>bif b k x then .inr (.ret ())else .inl ()) (fun _=>.go ()) (fun _ _=>True) xs (fun k a x hx _=>by
  refine⟨?_,fun _ _=>trivial⟩;have aH:=(fF.1 hx).1;rw[hs k x hx];cases b k x
  ·simp only[cond_false]
   rw[gp (by omega) (by omega)];rfl
  ·rfl) (fun _ _=>he) (a:=()) trivial
 have h2:∀(k:Nat) (l:List α),iU (fun k (_:Unit) x=>bif b k x then(.inr (.ret ()):Sum Unit (bJ Unit Unit))else .inl ()) (fun _=>.go ()) k () l=bif (l.zipIdx k).any (fun p=>b p.2 p.1)then .ret ()else .go ():=by
  intro k l
  induction l generalizing k with
  |nil=>rfl
  |cons x r ih=>
   simp only[iU,List.zipIdx_cons,List.any_cons];cases hb:b k x
   ·simp only[cond_false,qp];exact ih (k+1)
   ·simp
 rw[h2]at h;exact h
theorem atm{α:Type}(b:α->Bool)(l:List α)(k:Nat):(l.zipIdx k).any (fun p=>b p.1)=l.any b:=by
 induction l generalizing k with
 |nil=>rfl
 |cons x r ih=>simp[List.zipIdx_cons,ih]
theorem lE{α:Type}{f:Int->Option (cE Int (bJ Unit Unit))}(xs:List α)(hn:xs.length<4611686018427387904)(b:α->Bool)
  (hs:∀(k:Nat) x,xs[k]? =some x->f k=some (bif b x then .out (.ret ())else .next (aN (k+1)))) (he:f (xs.length:Int)=some (.out (.go ()))):
  bO f 0=some (bif xs.any b then .ret ()else .go ()):=by
 have:=atl (R:=Unit) xs hn (fun _ x=>b x) hs he;rw[atm]at this;exact this
theorem atn{α:Type}(xs:ak α)(hn:xs.l.length<4611686018427387904){f:α->Option Bool}{p:α->Bool}(ae:∀x∈xs.l,f x=some (p x)):
  (bO (fun i7:Int=>(bif (decide (i7<xs.len))then((aP xs.l i7).bind fun gB=>((f gB).bind fun fE=>(bif fE then some (cE.out (bJ.ret i7))else some (.next (aN (i7+1))))))else some (.out (.go ())))) 0:Option (bJ Unit Int))=
    some (match xs.l.findIdx? p with|none=>.go ()|some i=>.ret (i:Int)):=by
 have h:=ad7 (f:=fun i7:Int=>(bif (decide (i7<xs.len))then((aP xs.l i7).bind fun gB=>((f gB).bind fun fE=>(bif fE then some (cE.out (bJ.ret i7:bJ Unit Int))else some (.next (aN (i7+1))))))else some (.out (.go ()))))
  (fun k (_:Unit)=>(k:Int)) (fun k _ x=>bif p x then .inr (.ret (k:Int))else .inl ()) (fun _=>.go ()) (fun _ _=>True) xs.l (fun k a x hx _=>by
    refine⟨?_,fun _ _=>trivial⟩;have aH:=(fF.1 hx).1;have hd:decide ((k:Int)<xs.len)=true:=by simp[ak.len];exact aH
    simp only[hd,cond_true,cX,hx,aK,ae x (e0 hx)];cases p x
    ·simp only[cond_false]
     rw[gp (by omega) (by omega)];rfl
    ·rfl) (fun _ _=>by
    have hd:decide ((xs.l.length:Int)<xs.len)=false:=by simp[ak.len]
    simp only[hd,cond_false]) (a:=()) trivial
 have h2:∀(k:Nat) (l:List α),iU (fun k (_:Unit) x=>bif p x then(.inr (.ret (k:Int)):Sum Unit (bJ Unit Int))else .inl ()) (fun _=>.go ()) k () l=match l.findIdx? p with|none=>.go ()|some i=>.ret ((k+i:Nat):Int):=by
  intro k l
  induction l generalizing k with
  |nil=>rfl
  |cons x r ih=>
   simp only[iU,TW];cases hb:p x
   ·simp only[cond_false,ih (k+1)]
    cases r.findIdx? p with
    |none=>rfl
    |some i=>simp;omega
   ·simp
 rw[h2]at h;refine h.trans ?_;cases xs.l.findIdx? p<;>simp
theorem Dp{α:Type}(xs:ak α)(hn:xs.l.length<4611686018427387904){f:α->Option Bool}{p:α->Bool}(ae:∀x∈xs.l,f x=some (p x)):
  ((((bO (fun i7:Int=>(bif (decide (i7<xs.len))then((aP xs.l i7).bind fun gB=>((f gB).bind fun fE=>(bif fE then some (cE.out (bJ.ret i7))else some (.next (aN (i7+1))))))else some (.out (.go ())))) 0:Option (bJ Unit Int)).bind fun gT=>match gT with| .go _=>some (-1)| .ret sY=>some sY)).bind fun bt=>some (decide (bt>=0)))=some (xs.l.any p):=by
 rw[atn xs hn ae]
 have:(xs.l.findIdx? p).isSome=xs.l.any p:=by
  rw[List.findIdx?_isSome]
 rw[<-this];cases xs.l.findIdx? p with
 |none=>simp
 |some i=>simp
theorem SB{K W:Type}[BEq K][LawfulBEq K](k bE:K)(w:W):∀m:List (K × W),jg (mI m k w) bE=if bE==k then some w else jg m bE
 |[]=>by
  simp only[mI,jg,M8,List.find?_nil];cases ah:bE==k<;>simp
 |p::r=>by
  have ih:=SB k bE w r;simp only[jg]at ih;simp only[mI];cases hp:k==p.1
  ·simp only[gN,if_false,jg,M8]
   cases bj:bE==p.1
   ·simp only[ih]
   ·have e:bE=p.1:=by simpa using bj
    have:(bE==k)=false:=by
     rw[e];cases h:p.1==k with
     |false=>rfl
     |true=>have e2:p.1=k:=by simpa using h
            rw[e2]at hp;simp at hp
    simp[this]
  ·have e:k=p.1:=by simpa using hp
   simp only[if_true,jg,M8,e];cases bj:bE==p.1<;>simp
end Go.Abs
namespace Go.Abs.bZ
open Go Go.Abs
def bg{α:Type}(l:List α):Prop:=l.length<4611686018427387904
def ka (l:List Int):Bool:=l.all fun n=>decide (n>=1)&&decide (n<=6)
def kb (n:Nat)(c:List Int):Bool:=decide (c.length<=3)&&c.all fun x=>decide (x>=0)&&decide (x<n)
def gg (s:List Int)(x:Int):Int:=(s[x.toNat]?).getD 1
def wid (s c:List Int):Int:=c.foldl (fun a x=>a*gg s x) 1
def h4 (t:Table):Bool:=(t.Kind==0)||(t.Kind==1)
def Dq (t:Table):Bool:=bif (t.Kind==1)||((t.Kind==4)||(t.Kind==5))then decide (t.Range.fh<=t.Range.fi)&&(decide (t.Range.fh>=-9999)&&decide (t.Range.fi<=9999))else(t.Range.fh==0)&&(t.Range.fi==1)
noncomputable def kP (w:aW):Bool:=(zP w).getD false
theorem dy{α:Type}(x:ak α):x.len=(x.l.length:Int):=rfl
theorem ad9 (w:aW):zP w=some (kP w):=by
 unfold kP zP Ki;cases decide ((w.length:Int)<=16)<;>rfl
theorem SC (xs:ak Int)(h:bg xs.l){f:Int->Option Bool}{p:Int->Bool}(ae:∀x∈xs.l,f x=some (p x)):FJ xs f=some (xs.l.any p):=Dp xs h ae
theorem ato (xs:ak Bool)(h:bg xs.l)(a:Bool):Qr xs a=some (xs.l.any fun x=>a==x):=Dp xs h (f:=fun x=>some (a==x)) (fun x _=>rfl)
theorem atp (s:ak Int)(h:bg s.l):Kw s=some (ka s.l):=by
 unfold Kw;rw[SC s h (f:=Qs) (p:=fun n=>!(decide (n>=1)&&decide (n<=6))) (fun x _=>rfl)];simp[ka,oM]
theorem atq (s c:ak Int)(h:bg c.l):Kx s c=some (kb s.l.length c.l):=by
 unfold Kx;rw[SC c h (f:=fun z0=>Qt s z0) (p:=fun x=>(decide (x<0))||(decide (x>=s.len))) (fun x _=>rfl)];unfold kb;have e:decide ((c.l.length:Int)<=3)=decide (c.l.length<=3):=decide_eq_decide.2 (by omega);rw[dy,e];cases hc:decide (c.l.length<=3)with
 |true=>
  simp only[cond_true,aK,dC,oM,aA];congr 2;funext x;rw[dy];by_cases h1:x<0<;>by_cases h2:x>=(s.l.length:Int)<;>simp_all<;>omega
 |false=>
  simp
theorem aea (l:List Bool)(h:bg l):CA (ak.mk l)=some (l.all id):=by
 unfold CA;rw[ato (ak.mk l) h];simp only[aK,oM,aA,ak.l];congr 2;funext x;cases x<;>rfl
theorem atr (t:Table):Ky t=some (Dq t):=by
 unfold Ky Dq;cases h1:t.Kind==1<;>cases bc:t.Kind==4<;>cases h5:t.Kind==5<;>simp
theorem Mo (t:Table):CB t=some (h4 t):=rfl
theorem AQ{s:List Int}{x:Int}(h0:0<=x)(h1:x<s.length):aP s x=some (gg s x):=by
 have aH:x.toNat<s.length:=by omega
 refine atk h0 ?_;unfold gg;simp[aH]
theorem Dr{s:List Int}(h:ka s=true){x:Int}(h0:0<=x)(h1:x<s.length):1<=gg s x/\gg s x<=6:=by
 have aH:x.toNat<s.length:=by omega
 unfold gg;simp only[jI aH,w8];have:=eV.1 h _ (w9 aH);simpa using this
theorem Ds{n:Nat}{c:List Int}(h:kb n c=true):c.length<=3/\∀x∈c,0<=x/\x<n:=by
 unfold kb at h;simp only[ca,decide_eq_true_eq,eV]at h;exact⟨h.1,fun x hx=>h.2 x hx⟩
theorem uB{s c:List Int}(hs:ka s=true)(hc:kb s.length c=true):1<=wid s c/\wid s c<=216:=by
 obtain⟨h1,h2⟩:=Ds hc
 have step:∀(a x:Int),0<=x/\x<s.length->1<=a->∀m:Int,a<=m->1<=a*gg s x/\a*gg s x<=m*6:=fun a x hx ao m hm=>by
  obtain⟨q1,aT⟩:=Dr hs hx.1 hx.2;constructor
  ·exact Int.le_trans (by omega) (Ia ao q1 (by omega) (by omega))
  ·exact Ia hm aT (by omega) (by omega)
 unfold wid
 match c,h1,h2 with
 |[],_,_=>simp
 |[x],_,h=>have a:=step 1 x (h x (by simp)) (by omega) 1 (by omega);simp only[xb,List.foldl_nil];omega
 |[x,y],_,h=>
  have a:=step 1 x (h x (by simp)) (by omega) 1 (by omega);have b:=step _ y (h y (by simp)) a.1 _ a.2;simp only[xb,List.foldl_nil];omega
 |[x,y,z],_,h=>
  have a:=step 1 x (h x (by simp)) (by omega) 1 (by omega);have b:=step _ y (h y (by simp)) a.1 _ a.2;have d:=step _ z (h z (by simp)) b.1 _ b.2;simp only[xb,List.foldl_nil];omega
 | _::_::_::_::_,h,_=>simp at h
theorem SD (s c:ak Int)(hs:ka s.l=true)(hc:kb s.l.length c.l=true):uf s c=some (wid s.l c.l):=by
 obtain⟨h1,h2⟩:=Ds hc;unfold uf
 have h:=Hs (f:=Kz s c) (fun k (a:Int) st=>st=(a,(k:Int))/\k<=3/\1<=a/\a<=6^k) (fun _ a x=>.inl (a*gg s.l x)) (fun a=>a) c.l (fun k a x st hx aa=>by
  obtain⟨rfl,ah,ao⟩:=aa;have aH:=(fF.1 hx).1;have en:=h2 x (e0 hx);obtain⟨q1,aT⟩:=Dr hs en.1 en.2;have hd:decide ((k:Int)<c.len)=true:=by simp[dy];exact aH
  have hb:1<=a*gg s.l x/\a*gg s.l x<=6^(k+1):=⟨Int.le_trans (by omega) (Ia ao.1 q1 (by omega) (by omega)),by
   rw[Int.pow_succ];exact Ia ao.2 aT (by omega) (by have:(0:Int)<=6^k:=Int.pow_nonneg (by omega);omega)⟩
  have SE:(6:Int)^(k+1)<=1296:=by
   have:k=0\/k=1\/k=2\/k=3:=by omega
   rcases this with rfl|rfl|rfl|rfl<;>decide
  refine⟨(a*gg s.l x,((k+1:Nat):Int)),?_,rfl,by omega,hb⟩;simp only[Kz,hd,cond_true,cX,hx,aK,AQ en.1 en.2];rw[gp (by omega) (by omega),gp (by omega) (by omega)];rfl) (fun a st aa=>by
  obtain⟨rfl,-⟩:=aa;have hd:decide ((c.l.length:Int)<c.len)=false:=by simp[dy]
  simp only[Kz,hd,cond_false]) (a:=1) (s:=(1,0)) ⟨rfl,by omega,by simp⟩
 rw[h,ad8 (g:=fun a x=>a*gg s.l x) (fun _ _ _=>rfl)];rfl
end Go.Abs.bZ
namespace Go.Abs.bZ
open Go Go.Abs
noncomputable section
def lf (s:List Int)(t:Table):Bool:=kP t.Name&&((decide (t.Kind>=0)&&decide (t.Kind<=5))&&(kb s.length t.ba.l&&Dq t))
def l9 (ts:List Table)(k:Nat)(n:aW):Bool:=(ts.take k).any fun u=>u.Name==n
def nZ (s:List Int)(ts:List Table)(k:Nat)(a:Int × Int)(t:Table):Sum (Int × Int) (Option (Int × Int)):=
 bif lf s t&&!(l9 ts k t.Name)then
  (bif h4 t then(bif t.cF==a.1 then .inl (a.1+wid s t.ba.l,a.2)else .inr none)else(bif t.cF==a.2 then .inl (a.1,a.2+wid s t.ba.l)else .inr none))
 else .inr none
def AR (s:List Int)(ts:List Table):Option (Int × Int):=iU (nZ s ts) some 0 (0,0) ts
def il (s:List Int)(ts:List Table):Bool:=decide (s.length<=4)&&(decide (ts.length<=12)&&(ka s&&match AR s ts with
 |some (a,b)=>decide (a<=128)&&decide (b<=64)
 |none=>false))
theorem SF{α A O ats:Type}(Mp:O->ats){step:Nat->A->α->Sum A O}{fin:A->O}:∀(l:List α) (k:Nat) (a:A),iU (fun k a x=>(step k a x).map id Mp) (fun a=>Mp (fin a)) k a l=Mp (iU step fin k a l)
 |[],_,_=>rfl
 |x::r,k,a=>by
  simp only[iU];cases step k a x with
  |inl bl=>exact SF Mp r (k+1) bl
  |inr o=>rfl
theorem att{ts:List Table}{k:Nat}{t:Table}(h:ts[k]? =some t)(n:aW):l9 ts (k+1) n=(l9 ts k n||t.Name==n):=by
 unfold l9;rw[tv,h];simp
theorem Ht{a b:aW}:(a==b)=(b==a):=by
 cases h:a==b with
 |true=>have:a=b:=by simpa using h
        subst this;exact h.symm
 |false=>cases h':b==a with
  |false=>rfl
  |true=>have:b=a:=by simpa using h'
         subst this;rw[h]at h';cases h'
def Mq:Option (Int × Int)->bJ (Int × Int) Unit
 |some a=>.go (a.2,a.1)
 |none=>.ret ()
theorem atu{s:ak Int}{ts:ak Table}(hs:ka s.l=true)(hl:ts.l.length<=12)(hc:∀t∈ts.l,bg t.ba.l):
  bO (CC s ts) (0,0,0,[])=some (Mq (AR s.l ts.l)):=by
 have h:=Hs (f:=CC s ts) (fun k (a:Int × Int) st=>∃m,st=((k:Int),a.2,a.1,m)/\(0<=a.1/\a.1<=216*k/\0<=a.2/\a.2<=216*k)/\∀n,(jg m n).getD false=l9 ts.l k n)
  (fun k a x=>(nZ s.l ts.l k a x).map id Mq) (fun a=>Mq (some a)) ts.l (fun k a t st hx aa=>by
  obtain⟨m,rfl,⟨al,a2,a3,a4⟩,hm⟩:=aa;have aH:=(fF.1 hx).1;have dG:=e0 hx;have hd:decide ((k:Int)<ts.len)=true:=by simp[dy];exact aH
  have eD:∀a b c d e:Bool,CA (ak.mk [a,b,c,d,e])=some (a&&(b&&(c&&(d&&e)))):=fun a b c d e=>by
   rw[aea _ (by simp[bg])];simp
  have ow:∀n,(jg (mI m t.Name true) n).getD false=l9 ts.l (k+1) n:=fun n=>by
   rw[SB,att hx,<-hm n];cases e:n==t.Name with
   |true=>rw[Ht,e];simp
   |false=>rw[Ht (a:=t.Name),e];simp
  have ae:CC s ts ((k:Int),a.2,a.1,m)=bif lf s.l t&&!(l9 ts.l k t.Name)then
    (bif h4 t then(bif t.cF==a.1 then((uf s t.ba).bind fun oD=>some (.next ((aN (k+1)),a.2,(aN (a.1+oD)),(mI m t.Name true))))else some (.out (.ret ())))
      else(bif t.cF==a.2 then((uf s t.ba).bind fun CD=>some (.next ((aN (k+1)),(aN (a.2+CD)),a.1,(mI m t.Name true))))else some (.out (.ret ()))))
    else some (.out (.ret ())):=by
   simp only[CC,hd,cond_true,cX,hx,aK,ad9,Kv,atq s t.ba (hc t dG),atr,eD,Mo,hm]
   have e:(kP t.Name&&((!(l9 ts.l k t.Name))&&((decide (t.Kind>=0)&&decide (t.Kind<=5))&&(kb s.l.length t.ba.l&&Dq t))))=(lf s.l t&&!(l9 ts.l k t.Name)):=by
    unfold lf;cases kP t.Name<;>cases l9 ts.l k t.Name<;>simp
   rw[e];cases lf s.l t&&!(l9 ts.l k t.Name)with
   |false=>rfl
   |true=>
    cases h4 t<;>simp only[cond_true,cond_false,bne]
    ·cases t.cF==a.2<;>rfl
    ·cases t.cF==a.1<;>rfl
  rw[ae];unfold nZ;cases aZ:lf s.l t&&!(l9 ts.l k t.Name)with
  |false=>rfl
  |true=>
   have hI:kb s.l.length t.ba.l=true:=by
    simp only[ca]at aZ;have:=aZ.1;unfold lf at this;simp only[ca]at this;exact this.2.2.1
   have hw:=uB hs hI;have ah:(k:Int)<=12:=by omega
   rw[SD s t.ba hs hI];simp only[cond_true,aK];cases h4 t with
   |true=>
    simp only[cond_true];cases t.cF==a.1 with
    |false=>rfl
    |true=>
     simp only[cond_true,Sum.map_inl,id];rw[gp (n:=(k:Int)+1) (by omega) (by omega),gp (n:=a.1+wid s.l t.ba.l) (by omega) (by omega)];exact⟨_,rfl,_,rfl,⟨by omega,by omega,a3,by omega⟩,ow⟩
   |false=>
    simp only[cond_false];cases t.cF==a.2 with
    |false=>rfl
    |true=>
     simp only[cond_true,Sum.map_inl,id];rw[gp (n:=(k:Int)+1) (by omega) (by omega),gp (n:=a.2+wid s.l t.ba.l) (by omega) (by omega)];exact⟨_,rfl,_,rfl,⟨al,by omega,by omega,by omega⟩,ow⟩) (fun a st aa=>by
  obtain⟨m,rfl,-⟩:=aa;have hd:decide ((ts.l.length:Int)<ts.len)=false:=by simp[dy]
  simp only[CC,hd,cond_false];rfl) (a:=(0,0)) (s:=(0,0,0,[])) ⟨[],rfl,by simp,fun n=>rfl⟩
 rw[h,SF Mq (fin:=some)];rfl
theorem SG (s:ak Int)(ts:ak Table)(h1:bg s.l)(h2:bg ts.l)(hc:∀t∈ts.l,bg t.ba.l):CE s ts=some (il s.l ts.l):=by
 unfold CE;rw[atp s h1];simp only[aK];rw[aea _ (by simp[bg])];have ag:decide (s.len<=4)=decide (s.l.length<=4):=decide_eq_decide.2 (by rw[dy];omega);have e2:decide (ts.len<=12)=decide (ts.l.length<=12):=decide_eq_decide.2 (by rw[dy];omega);simp only[aK,Na,List.all_nil,id,u0,ag,e2];unfold il;cases fy:decide (s.l.length<=4)with
 |false=>rfl
 |true=>
  cases ht:decide (ts.l.length<=12)with
  |false=>rfl
  |true=>
   cases hs:ka s.l with
   |false=>rfl
   |true=>
    simp only[dC,cond_true];rw[atu hs (by simpa using ht) hc];simp only[aK];cases AR s.l ts.l with
    |none=>rfl
    |some a=>rfl
end
end Go.Abs.bZ
namespace Go.Abs.bZ
open Go Go.Abs
noncomputable section
theorem aeb (s:ak Int)(h:bg s.l):Gd s=some (ka s.l):=by
 unfold Gd
 rw[lE s.l h (fun n=>decide (n<1)||decide (n>6)) (fun k x hx=>by
  have aH:=(fF.1 hx).1;have hd:decide ((k:Int)<s.len)=true:=by simp[dy];exact aH
  simp only[QQ,hd,cond_true,cX,hx,aK];cases decide (x<1)<;>cases decide (x>6)<;>rfl) (by
  have hd:decide ((s.l.length:Int)<s.len)=false:=by simp[dy]
  simp only[QQ,hd,cond_false])]
 simp only[aK,ka,oM]
 have e:(fun n:Int=>decide (n<1)||decide (n>6))=fun n=>!(decide (n>=1)&&decide (n<=6)):=by
  funext n;by_cases h1:n<1<;>by_cases h2:n>6<;>simp_all<;>omega
 rw[e];cases s.l.any _<;>rfl
def Hu (s c:List Int):Int:=bif ka s&&kb s.length c then wid s c else 0
theorem SH (s c:ak Int)(h:bg s.l)(h2:bg c.l):xR s c=some (Hu s.l c.l):=by
 unfold xR;rw[aeb s h];have e:decide (c.len>3)=!decide (c.l.length<=3):=by rw[dy];by_cases q:c.l.length<=3<;>simp[q]<;>omega
 rw[e];unfold Hu kb;cases hl:decide (c.l.length<=3)with
 |false=>simp
 |true=>
  cases hs:ka s.l with
  |false=>simp
  |true=>
   simp only[fQ,cond_false,aK,dC];have hlen:c.l.length<=3:=by simpa using hl
   have atv:=Hs (f:=Ge s c) (fun k (a:Int) st=>st=(a,(k:Int))/\k<=3/\1<=a/\a<=6^k)
    (fun _ a x=>bif decide (x>=0)&&decide (x<(s.l.length:Int))then(.inl (a*gg s.l x):Sum Int (bJ Int Unit))else .inr (.ret ())) (fun a=>.go a) c.l (fun k a x st hx aa=>by
    obtain⟨rfl,ah,ao⟩:=aa;have aH:=(fF.1 hx).1;have hd:decide ((k:Int)<c.len)=true:=by simp[dy];exact aH
    cases hin:decide (x>=0)&&decide (x<(s.l.length:Int))with
    |false=>
     simp only[cond_false];simp only[Ge,hd,cond_true,cX,hx,aK]
     have:(bif decide (x<0)then some true else some (decide (x>=s.len)))=some true:=by
      by_cases q1:x<0
      ·simp[q1]
      ·have:x>=s.len:=by
        rw[dy];by_cases aT:x<(s.l.length:Int)
        ·exfalso;have h1:decide (x>=0)=true:=by simp;omega
         simp[h1,aT]at hin
        ·omega
       simp[q1,this]
     rw[this];rfl
    |true=>
     simp only[ca,decide_eq_true_eq]at hin;obtain⟨q1,aT⟩:=Dr hs hin.1 hin.2
     have hb:1<=a*gg s.l x/\a*gg s.l x<=6^(k+1):=⟨Int.le_trans (by omega) (Ia ao.1 q1 (by omega) (by omega)),by
      rw[Int.pow_succ];exact Ia ao.2 aT (by omega) (by have:(0:Int)<=6^k:=Int.pow_nonneg (by omega);omega)⟩
     have SE:(6:Int)^(k+1)<=1296:=by
      have:k=0\/k=1\/k=2\/k=3:=by omega
      rcases this with rfl|rfl|rfl|rfl<;>decide
     simp only[cond_true];refine⟨(a*gg s.l x,((k+1:Nat):Int)),?_,rfl,by omega,hb⟩;have lR:decide (x<0)=false:=by simp;omega
     have Jd:decide (x>=s.len)=false:=by rw[dy];simp;omega
     simp only[Ge,hd,cond_true,cX,hx,aK,lR,Jd,cond_false,AQ hin.1 hin.2];rw[gp (by omega) (by omega),gp (by omega) (by omega)];rfl) (fun a st aa=>by
    obtain⟨rfl,-⟩:=aa;have hd:decide ((c.l.length:Int)<c.len)=false:=by simp[dy]
    simp only[Ge,hd,cond_false]) (a:=1) (s:=(1,0)) ⟨rfl,by omega,by simp⟩
   rw[atv]
   have cn:∀(l:List Int) (k:Nat) (a:Int),iU (fun _ a x=>bif decide (x>=0)&&decide (x<(s.l.length:Int))then(.inl (a*gg s.l x):Sum Int (bJ Int Unit))else .inr (.ret ())) (fun a=>.go a) k a l=
     bif l.all (fun x=>decide (x>=0)&&decide (x<(s.l.length:Int)))then .go (l.foldl (fun a x=>a*gg s.l x) a)else .ret ():=by
    intro l
    induction l with
    |nil=>intro k a;rfl
    |cons x r ih=>
     intro k a;simp only[iU,Na,xb];cases decide (x>=0)&&decide (x<(s.l.length:Int))with
     |true=>simp only[cond_true,dC];exact ih (k+1) _
     |false=>rfl
   rw[cn];simp only[aK];unfold wid;cases c.l.all (fun x=>decide (x>=0)&&decide (x<(s.l.length:Int)))<;>rfl
def Mr:Option (Int × Int)->bJ (Int × Int) Unit
 |some a=>.go (a.1,a.2)
 |none=>.ret ()
theorem atw (t:Table)(h0:0<=t.Kind)(h5:t.Kind<=5):Dq t=(!((decide (t.Range.fh>t.Range.fi))||((decide (t.Range.fh<(-9999)))||(decide (t.Range.fi>9999))))&&
  !(bif (t.Kind==0)then((t.Range.fh != 0)||(t.Range.fi != 1))else(bif (t.Kind==2)then((t.Range.fh != 0)||(t.Range.fi != 1))else((t.Kind==3)&&((t.Range.fh != 0)||(t.Range.fi != 1)))))):=by
 have:t.Kind=0\/t.Kind=1\/t.Kind=2\/t.Kind=3\/t.Kind=4\/t.Kind=5:=by omega
 unfold Dq;generalize t.Range.fh=lo;generalize t.Range.fi=hi
 have atx:((lo==0)&&(hi==1))=(!((decide (lo>hi))||((decide (lo<(-9999)))||(decide (hi>9999))))&&!((lo != 0)||(hi != 1))):=by
  by_cases a:lo=0
  ·by_cases b:hi=1
   ·subst a;subst b;decide
   ·have q:(hi==1)=false:=by simpa using b
    simp[a,q,bne]
  ·have q:(lo==0)=false:=by simpa using a
   simp[q,bne]
 have aty:(decide (lo<=hi)&&(decide (lo>=-9999)&&decide (hi<=9999)))=!((decide (lo>hi))||((decide (lo<(-9999)))||(decide (hi>9999)))):=by
  by_cases a:lo>hi<;>by_cases b:lo< -9999<;>by_cases d:hi>9999<;>simp_all<;>omega
 rcases this with h|h|h|h|h|h<;>rw[h]<;>simp only[show((0:Int)==0)=true from rfl,show((0:Int)==1)=false from rfl,show((0:Int)==4)=false from rfl,show((0:Int)==5)=false from rfl,
  show((1:Int)==0)=false from rfl,show((1:Int)==1)=true from rfl,show((1:Int)==2)=false from rfl,show((1:Int)==3)=false from rfl,
  show((2:Int)==0)=false from rfl,show((2:Int)==1)=false from rfl,show((2:Int)==2)=true from rfl,show((2:Int)==4)=false from rfl,show((2:Int)==5)=false from rfl,
  show((3:Int)==0)=false from rfl,show((3:Int)==1)=false from rfl,show((3:Int)==2)=false from rfl,show((3:Int)==3)=true from rfl,show((3:Int)==4)=false from rfl,show((3:Int)==5)=false from rfl,
  show((4:Int)==0)=false from rfl,show((4:Int)==1)=false from rfl,show((4:Int)==2)=false from rfl,show((4:Int)==3)=false from rfl,show((4:Int)==4)=true from rfl,
  show((5:Int)==0)=false from rfl,show((5:Int)==1)=false from rfl,show((5:Int)==2)=false from rfl,show((5:Int)==3)=false from rfl,show((5:Int)==4)=false from rfl,show((5:Int)==5)=true from rfl,
  Ib,Ic,Ie,cond_true,cond_false,dC,yw,mU,u0]<;>first|exact atx|exact aty
theorem atz (ts:ak Table)(k:Nat)(t:Table)(ah:k<=ts.l.length)(h:bg ts.l):bO (Gp ts (k:Int) t) 0=some (bif l9 ts.l k t.Name then .ret ()else .go ()):=by
 have hlen:(ts.l.take k).length=k:=by rw[mc];omega
 have aD:bg (ts.l.take k):=by unfold bg at h⊢; omega
 have:=lE (f:=Gp ts (k:Int) t) (ts.l.take k) aD (fun u=>u.Name==t.Name) (fun j x hx=>by
  have aH:=(fF.1 hx).1;rw[hlen]at aH;rw[HX,if_pos aH]at hx;have hd:decide ((j:Int)<(k:Int))=true:=by simp;exact aH
  simp only[Gp,hd,cond_true,cX,hx,aK];cases x.Name==t.Name<;>rfl) (by
  rw[hlen];simp[Gp])
 exact this
theorem atA{s:ak Int}{ts:ak Table}(hs:ka s.l=true)(h1:bg s.l)(hl:ts.l.length<=12)(hc:∀t∈ts.l,bg t.ba.l)(hZ:∀t∈ts.l,nR t.Name=some (kP t.Name)):
  bO (CS s ts) (0,0,0)=some (Mr (AR s.l ts.l)):=by
 have h:=Hs (f:=CS s ts) (fun k (a:Int × Int) st=>st=(a.1,a.2,(k:Int))/\(0<=a.1/\a.1<=216*k/\0<=a.2/\a.2<=216*k))
  (fun k a x=>(nZ s.l ts.l k a x).map id Mr) (fun a=>Mr (some a)) ts.l (fun k a t st hx aa=>by
  obtain⟨rfl,⟨al,a2,a3,a4⟩⟩:=aa;have aH:=(fF.1 hx).1;have dG:=e0 hx;have hd:decide ((k:Int)<ts.len)=true:=by simp[dy];exact aH
  have ae:CS s ts (a.1,a.2,(k:Int))=bif lf s.l t&&!(l9 ts.l k t.Name)then
    (bif h4 t then(bif t.cF==a.1 then some (.next ((aN (a.1+wid s.l t.ba.l)),a.2,(aN (k+1))))else some (.out (.ret ())))
      else(bif t.cF==a.2 then some (.next (a.1,(aN (a.2+wid s.l t.ba.l)),(aN (k+1))))else some (.out (.ret ()))))
    else some (.out (.ret ())):=by
   simp only[CS,hd,cond_true,cX,hx,aK];rw[atz ts k t (by omega) (by unfold bg;omega)];simp only[aK];cases aB4:l9 ts.l k t.Name with
   |true=>simp
   |false=>
    simp only[cond_false,SH s t.ba h1 (hc t dG),hZ t dG,aK,mU,u0];unfold lf;cases hn:kP t.Name with
    |false=>rfl
    |true=>
     simp only[cond_true,dC];by_cases k0:t.Kind<0
     ·have:decide (t.Kind>=0)=false:=by simp;omega
      simp[k0,this]
     ·by_cases ug:t.Kind>5
      ·have:decide (t.Kind<=5)=false:=by simp;omega
       simp[k0,ug,this]
      ·have fM:decide (t.Kind<0)=false:=by simpa using k0
       have q1:decide (t.Kind>5)=false:=by simpa using ug
       have aT:decide (t.Kind>=0)=true:=by simp;omega
       have b3:decide (t.Kind<=5)=true:=by simp;omega
       simp only[fM,q1,aT,b3,cond_false,dC];unfold Hu;rw[hs];cases hI:kb s.l.length t.ba.l with
       |false=>rfl
       |true=>
        have hw:=uB hs hI;have bu:(wid s.l t.ba.l==0)=false:=by simp;omega
        simp only[dC,cond_true,bu,aK,cond_false];rw[atw t (by omega) (by omega)];cases((decide (t.Range.fh>t.Range.fi))||((decide (t.Range.fh<(-9999)))||(decide (t.Range.fi>9999))))with
        |true=>rfl
        |false=>
         cases(bif (t.Kind==0)then((t.Range.fh != 0)||(t.Range.fi != 1))else(bif (t.Kind==2)then((t.Range.fh != 0)||(t.Range.fi != 1))else((t.Kind==3)&&((t.Range.fh != 0)||(t.Range.fi != 1)))))with
         |true=>rfl
         |false=>
          simp only[cond_false,mU,dC,cond_true,z1,aK];unfold h4;cases(t.Kind==0||t.Kind==1)<;>simp only[cond_true,cond_false,bne]
          ·cases t.cF==a.2<;>rfl
          ·cases t.cF==a.1<;>rfl
  rw[ae];unfold nZ;cases aZ:lf s.l t&&!(l9 ts.l k t.Name)with
  |false=>rfl
  |true=>
   have hI:kb s.l.length t.ba.l=true:=by
    simp only[ca]at aZ;have:=aZ.1;unfold lf at this;simp only[ca]at this;exact this.2.2.1
   have hw:=uB hs hI;have ah:(k:Int)<=12:=by omega
   simp only[cond_true];cases h4 t with
   |true=>
    simp only[cond_true];cases t.cF==a.1 with
    |false=>rfl
    |true=>
     simp only[cond_true,Sum.map_inl,id];rw[gp (n:=(k:Int)+1) (by omega) (by omega),gp (n:=a.1+wid s.l t.ba.l) (by omega) (by omega)];exact⟨_,rfl,rfl,⟨by omega,by omega,a3,by omega⟩⟩
   |false=>
    simp only[cond_false];cases t.cF==a.2 with
    |false=>rfl
    |true=>
     simp only[cond_true,Sum.map_inl,id];rw[gp (n:=(k:Int)+1) (by omega) (by omega),gp (n:=a.2+wid s.l t.ba.l) (by omega) (by omega)];exact⟨_,rfl,rfl,⟨al,by omega,by omega,by omega⟩⟩) (fun a st aa=>by
  obtain⟨rfl,-⟩:=aa;have hd:decide ((ts.l.length:Int)<ts.len)=false:=by simp[dy]
  simp only[CS,hd,cond_false];rfl) (a:=(0,0)) (s:=(0,0,0)) ⟨rfl,by simp⟩
 rw[h,SF Mr (fin:=some)];rfl
theorem SI (s:ak Int)(ts:ak Table)(h1:bg s.l)(h2:bg ts.l)(hc:∀t∈ts.l,bg t.ba.l)(hZ:∀t∈ts.l,nR t.Name=some (kP t.Name)):CT s ts=some (il s.l ts.l):=by
 unfold CT;rw[aeb s h1];have ag:decide (s.len>4)=!decide (s.l.length<=4):=by rw[dy];by_cases q:s.l.length<=4<;>simp[q]<;>omega
 have e2:decide (ts.len>12)=!decide (ts.l.length<=12):=by rw[dy];by_cases q:ts.l.length<=12<;>simp[q]<;>omega
 rw[ag,e2];unfold il;cases fy:decide (s.l.length<=4)with
 |false=>rfl
 |true=>
  cases hs:ka s.l with
  |false=>simp
  |true=>
   cases ht:decide (ts.l.length<=12)with
   |false=>rfl
   |true=>
    simp only[fQ,cond_false,aK,cond_true,dC];rw[atA hs h1 (by simpa using ht) hc hZ];simp only[aK];cases AR s.l ts.l with
    |none=>rfl
    |some a=>rfl
end
end Go.Abs.bZ
namespace Go.Abs.bZ
open Go Go.Abs
noncomputable section
def im (s:List Int)(ts:List Table)(b:Bool):List Range:=ts.flatMap fun t=>bif h4 t==b then List.replicate (wid s t.ba.l).toNat t.Range else[]
theorem aec{s:List Int}{ts:List Table}:∀(l:List Table) (k:Nat) (a p:Int × Int),iU (nZ s ts) some k a l=some p->∀t∈l,lf s t=true
 |[],_,_,_,_,t,h=>by cases h
 |x::r,k,a,p,h,t,ht=>by
  simp only[iU]at h;cases cg:nZ s ts k a x with
  |inr o=>
   rw[cg]at h
   have ho:o=none:=by
    unfold nZ at cg;cases bj:lf s x&&!(l9 ts k x.Name)<;>cases hb:h4 x<;>cases hc:x.cF==a.1<;>cases hd:x.cF==a.2<;>rw[bj]at cg<;>simp only[hb,hc,hd,cond_true,cond_false]at cg<;>first|(cases cg;rfl)|cases cg
   rw[ho]at h;cases h
  |inl bl=>
   rw[cg]at h;rcases dL.1 ht with rfl|ht
   ·unfold nZ at cg
    cases aZ:lf s t&&!(l9 ts k t.Name)with
    |false=>rw[aZ]at cg;cases cg
    |true=>simp only[ca]at aZ;exact aZ.1
   ·exact aec r (k+1) bl p h t ht
theorem uC{s:List Int}{ts:List Table}(h:il s ts=true):s.length<=4/\ts.length<=12/\ka s=true/\∀t∈ts,lf s t=true:=by
 unfold il at h;simp only[ca,decide_eq_true_eq]at h;obtain⟨h1,h2,av,bc⟩:=h;refine⟨h1,h2,av,?_⟩;split at bc
 ·rename_i a b hr
  exact aec ts 0 (0,0) _ hr
 ·cases bc
theorem uD{s:List Int}{t:Table}(h:lf s t=true):kb s.length t.ba.l=true:=by
 unfold lf at h;simp only[ca]at h;exact h.2.2.1
theorem Dt{α:Type}{uE:Nat}{x y:ak α}(hb:uE+1<=1000)(h:x.l.length+y.l.length<=1000000000):∃z,jz uE x y=some z/\z.l=x.l++y.l:=by
 unfold jz;split
 ·rename_i e;exact⟨x,rfl,by rw[e];simp⟩
 ·have:(x.l.length+y.l.length)*(uE+1)<=2^40:=by
   have:(x.l.length+y.l.length)*(uE+1)<=1000000000*1000:=Nat.mul_le_mul h hb;omega
  rw[if_pos this];exact⟨_,rfl,rfl⟩
theorem atB (r:Range)(n:Int)(h:1<=n/\n<=1000):∃z,FA (ak.mk [r]) n=some z/\z.l=List.replicate n.toNat r:=by
 refine⟨_,if_pos ⟨rfl,h⟩,?_⟩;show(List.replicate n.toNat [r]).flatten=_
 induction n.toNat with
 |zero=>rfl
 |succ n ih=>rw[DG,H3,ih,DG];rfl
theorem Ms{s:List Int}(hs:ka s=true)(b:Bool):∀ts:List Table,(∀t∈ts,lf s t=true)->(im s ts b).length<=216*ts.length
 |[],_=>by simp[im]
 |t::ts,h=>by
  have ih:=Ms hs b ts (fun u hu=>h u (by simp[hu]));have hw:=uB hs (uD (h t (by simp)));unfold im at ih⊢;rw[lH,e1,dE]
  have:(bif h4 t==b then List.replicate (wid s t.ba.l).toNat t.Range else[]).length<=216:=by
   cases h4 t==b<;>simp;omega
  omega
theorem SJ (s:List Int)(b:Bool){ts:List Table}{k:Nat}{t:Table}(h:ts[k]? =some t):im s (ts.take (k+1)) b=im s (ts.take k) b++(bif h4 t==b then List.replicate (wid s t.ba.l).toNat t.Range else[]):=by
 unfold im;rw[tv,h];simp
theorem aed{s:List Int}(hs:ka s=true)(b:Bool){ts:List Table}(h:∀t∈ts,lf s t=true)(hl:ts.length<=12)(k:Nat):(im s (ts.take k) b).length<=2592:=by
 have:=Ms hs b (ts.take k) (fun t ht=>h t (Be ht));have:(ts.take k).length<=12:=by rw[mc];omega
 omega
theorem aee (s:ak Int)(ts:ak Table)(b:Bool)(h1:bg s.l)(h2:bg ts.l)(hc:∀t∈ts.l,bg t.ba.l):
  ∃x,FP s ts b=some x/\x.l=bif il s.l ts.l then im s.l ts.l b else[]:=by
 unfold FP;rw[SG s ts h1 h2 hc];simp only[aK];cases af:il s.l ts.l with
 |false=>exact⟨.nil,rfl,rfl⟩
 |true=>
  obtain⟨q1,aT,b3,cZ⟩:=uC af
  obtain⟨o,ag,e2⟩:=Mm (f:=FO s ts b) (fun k st=>∃a:ak Range,st=((k:Int),a)/\a.l=im s.l (ts.l.take k) b) (fun o=>o.l=im s.l ts.l b) ts.l (fun k t st hx aa=>by
   obtain⟨a,rfl,ao⟩:=aa;have aH:=(fF.1 hx).1;have dG:=e0 hx;have hd:decide ((k:Int)<ts.len)=true:=by simp[dy];exact aH
   have hI:=uD (cZ t dG);have hw:=uB b3 hI;have kl:=aed b3 b cZ aT k;cases hb:h4 t==b with
   |false=>
    refine⟨(((k+1:Nat):Int),a),?_,a,rfl,?_⟩
    ·simp only[FO,hd,cond_true,cX,hx,aK,Mo,hb,cond_false]
     rw[gp (by omega) (by omega)];rfl
    ·rw[SJ s.l b hx,hb,ao];simp
   |true=>
    obtain⟨z,pN,el⟩:=atB t.Range (wid s.l t.ba.l) (by omega);obtain⟨y,mq,ta⟩:=Dt (uE:=16) (x:=a) (y:=z) (by omega) (by rw[ao,el,w6];omega);refine⟨(((k+1:Nat):Int),y),?_,y,rfl,?_⟩
    ·simp only[FO,hd,cond_true,cX,hx,aK,Mo,hb,SD s t.ba b3 hI,pN,mq]
     rw[gp (by omega) (by omega)];rfl
    ·rw[SJ s.l b hx,hb,ta,ao,el];rfl) (fun st aa=>by
   obtain⟨a,rfl,ao⟩:=aa;have hd:decide ((ts.l.length:Int)<ts.len)=false:=by simp[dy]
   refine⟨a,by simp only[FO,hd,cond_false],?_⟩;rw[ao,Bh]) (s:=(0,.nil)) ⟨.nil,rfl,rfl⟩
  exact⟨o,by simp only[cond_true];rw[ag];rfl,e2⟩
theorem atC{s:ak Int}{ts:ak Table}{b:Bool}(h1:bg s.l){k:Nat}{t:Table}(hx:ts.l[k]? =some t)(Mt:bg t.ba.l)(b3:ka s.l=true)(hI:kb s.l.length t.ba.l=true){a:ak Range}(ao:a.l.length<=2592):
  ∃o,bO (z6 s ts b (k:Int)) (0,a)=some o/\o.l=a.l++(bif h4 t==b then List.replicate (wid s.l t.ba.l).toNat t.Range else[]):=by
 have hw:=uB b3 hI;have Mu:xR s t.ba=some (wid s.l t.ba.l):=by rw[SH s t.ba h1 Mt];unfold Hu;rw[b3,hI];rfl
 have cg:z1 t.Kind=some (h4 t):=rfl;cases hb:h4 t==b with
 |false=>
  refine⟨a,?_,by simp⟩;rw[hD]
  have:z6 s ts b (k:Int) (0,a)=some (.out a):=by
   simp only[z6,cX,hx,aK,cg,hb,cond_false]
  rw[this]
 |true=>
  obtain⟨o,ag,e2⟩:=Mm (f:=z6 s ts b (k:Int)) (fun j st=>∃x:ak Range,st=((j:Int),x)/\x.l=a.l++List.replicate j t.Range) (fun o=>o.l=a.l++List.replicate (wid s.l t.ba.l).toNat t.Range) (List.replicate (wid s.l t.ba.l).toNat ()) (fun j u st hj aa=>by
   obtain⟨x,rfl,jc⟩:=aa;have aH:=(fF.1 hj).1;rw[w6]at aH;have hd:decide ((j:Int)<wid s.l t.ba.l)=true:=by simp;omega
   obtain⟨y,mq,ta⟩:=Dt (uE:=16) (x:=x) (y:=ak.mk [t.Range]) (by omega) (by rw[jc];simp only[e1,w6];show _+_+1<=_;omega);refine⟨(((j+1:Nat):Int),y),?_,y,rfl,?_⟩
   ·simp only[z6,cX,hx,aK,cg,hb,cond_true,Mu,hd,mq]
    rw[gp (by omega) (by omega)];rfl
   ·rw[ta,jc,jJ]
    congr 1;rw[TK];rfl) (fun st aa=>by
   obtain⟨x,rfl,jc⟩:=aa;rw[w6]at jc⊢;have hd:decide ((((wid s.l t.ba.l).toNat:Nat):Int)<wid s.l t.ba.l)=false:=by simp;omega
   exact⟨x,by simp only[z6,cX,hx,aK,cg,hb,cond_true,Mu,hd,cond_false],jc⟩) (s:=(0,a)) ⟨a,rfl,by simp⟩
  exact⟨o,ag,by simpa using e2⟩
theorem aef (s:ak Int)(ts:ak Table)(b:Bool)(h1:bg s.l)(h2:bg ts.l)(hc:∀t∈ts.l,bg t.ba.l)(hZ:∀t∈ts.l,nR t.Name=some (kP t.Name)):
  ∃x,K3 s ts b=some x/\x.l=bif il s.l ts.l then im s.l ts.l b else[]:=by
 unfold K3;rw[SI s ts h1 h2 hc hZ];simp only[aK];cases af:il s.l ts.l with
 |false=>exact⟨.emp,rfl,rfl⟩
 |true=>
  obtain⟨q1,aT,b3,cZ⟩:=uC af
  obtain⟨o,ag,e2⟩:=Mm (f:=K2 s ts b) (fun k st=>∃a:ak Range,st=((k:Int),a)/\a.l=im s.l (ts.l.take k) b) (fun o=>o.l=im s.l ts.l b) ts.l (fun k t st hx aa=>by
   obtain⟨a,rfl,ao⟩:=aa;have aH:=(fF.1 hx).1;have dG:=e0 hx;have hd:decide ((k:Int)<ts.len)=true:=by simp[dy];exact aH
   have hI:=uD (cZ t dG);have kl:=aed b3 b cZ aT k;obtain⟨y,mq,ta⟩:=atC (b:=b) h1 hx (hc t dG) b3 hI (a:=a) (by rw[ao];exact kl);refine⟨(((k+1:Nat):Int),y),?_,y,rfl,?_⟩
   ·simp only[K2,hd,cond_true]
    rw[mq];simp only[aK];rw[gp (by omega) (by omega)];rfl
   ·rw[SJ s.l b hx,ta,ao]) (fun st aa=>by
   obtain⟨a,rfl,ao⟩:=aa;have hd:decide ((ts.l.length:Int)<ts.len)=false:=by simp[dy]
   refine⟨a,by simp only[K2,hd,cond_false],?_⟩;rw[ao,Bh]) (s:=(0,.emp)) ⟨.emp,rfl,rfl⟩
  exact⟨o,by simp only[cond_true];rw[ag];rfl,e2⟩
end
end Go.Abs.bZ
