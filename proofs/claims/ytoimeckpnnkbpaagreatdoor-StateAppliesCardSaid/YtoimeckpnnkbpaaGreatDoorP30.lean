/- Texts of this claim, joined and written short by a program. -/
import Derived.Test.YtoimeckpnnkbpaaGreatDoorP21
import Derived.Test.YtoimeckpnnkbpaaGreatDoorP28
import Derived.Test.YtoimeckpnnkbpaaGreatDoorP29
import Derived.Test.YtoimeckpnnkbpaaGreatDoorP22
import Derived.Test.YtoimeckpnnkbpaaGreatDoorP00
set_option linter.unusedVariables false
set_option linter.unusedSimpArgs false
set_option linter.unusedSectionVars false
set_option maxHeartbeats 2000000
namespace Go.Abs.hk
open Go Go.Abs
noncomputable section
abbrev iM (j:dN):List V:=[bg 1 aD j.Model.bC,bg 6 lH j.Model.Tables,bg 1 V.str j.Model.fE,bg 6 sf j.Model.fu,bg 3 sg j.Model.Operations,bg 5 si j.Model.Actions,bg 3 iX j.Model.b7,bg 2 pS j.strict]
def zu (ah:dN):(Int)->Option (dM (Int) (cP (Unit) (Unit))):=fun i12=>(bif (decide (i12<ah.Model.b7.len))then((bQ ah.Model.b7.l i12).bind fun eN=>((((kg eN.Table ah.Model.Tables.len).bind fun sj=>(bif sj then((kg eN.da ah.Model.Tables.len).bind fun pd=>(bif pd then some (eN.Table==eN.da)else some true))else some true)):Option (Bool)).bind fun vr=>(bif vr then some (.out (.ret ()))else((bQ ah.Model.Tables.l eN.Table).bind fun hq=>((bQ ah.Model.Tables.l eN.da).bind fun gl=>(((bif (hq.Kind != 0)then some true else(bif (gl.Kind != 0)then some true else((kg eN.jt hq.bP.len).bind fun tv=>(bif tv then(bif (gl.bP.len != 1)then some true else((bQ gl.bP.l 0).bind fun nf=>((bQ hq.bP.l eN.jt).bind fun pe=>some (nf != pe))))else some true)))):Option (Bool)).bind fun Ee=>(bif Ee then some (.out (.ret ()))else some (.next (bJ (i12+1))))))))))else some (.out (.go ())))
def zv (ah:dN):(Int × (List (Int × Bool)))->Option (dM (Int × (List (Int × Bool))) ((List (Int × Bool)))):=fun⟨i90,i91⟩=>(bif (decide (i90<ah.Model.b7.len))then((bQ ah.Model.b7.l i90).bind fun pf=>some (.next ((bJ (i90+1)),(mg i91 pf.Table true))))else some (.out i91))
def Jv (ah:dN):Option Bool:=bif (decide (ah.Model.b7.len>12))then some false else((c0 (zu ah) 0:Option (cP Unit Unit)).bind fun o=>match o with| .go _=>some true| .ret _=>some false)
def xk:cj->cj| .seq a _=>a|c=>c
def k7:cj->cj| .seq _ a=>a|c=>c
def hA (k:Nat):cj:=match k with
 |1=>xk auJ.body
 |2=>xk (k7 auJ.body)
 |3=>xk (k7 (k7 auJ.body))
 |4=>xk (k7 (k7 (k7 auJ.body)))
 |5=>xk (k7 (k7 (k7 (k7 auJ.body))))
 |6=>xk (k7 (k7 (k7 (k7 (k7 auJ.body)))))
 | _=>k7 (k7 (k7 (k7 (k7 (k7 auJ.body)))))
section
variable{aa:Nat->Option bY}{b:Nat}{σ:bV}{H H0:Heap}
theorem alq (O6:Jn aa)(ah:dN){r:Bool}(h:Jv ah=some r):
  eS aa b (.seq (hA 1) (.seq (hA 2) (hA 3))) (vj 0 ([.agg (iM ah)]++[])) H0 fun x aN H'=>match(generalizing:=false) r with
   |false=>x=.ret/\At aN [2] [.bool false]
   |true=>x=.normal/\∃ai,b<=ai/\At aN [1] [.ptr ai 0]/\Own H' [[(ai,.cells (iM ah))]]:=by
 unfold Jv at h;refine iW <| MT (cs:=(iM ah)) rfl (Own.nil H0) rfl (by simp[bS]) fun sw ai rN O7=>pp (.bool false) <| dV <| kc <| iW <| pp (.ptr ai 0) <| pp (.ptr ai 6) <| ph (bg 3 iX ah.Model.b7) (hK rfl (O7.get 0 rfl) rfl) <| ph (aD ah.Model.b7.len) (qZ rfl _) <| pp (.bool (decide (ah.Model.b7.len>12))) <| dV <| ?_
 rcases lD h with⟨jj,h⟩|⟨jj,h⟩
 ·refine qW rfl jj <| iW <| pp (.bool false) <| dV <| ti <| ?_
  cases h;exact⟨rfl,rfl⟩
 ·refine qX rfl jj <| qV <| iW <| pp (.ptr ai 0) <| pp (.ptr ai 6) <| ph (bg 3 iX ah.Model.b7) (hK rfl (O7.get 0 rfl) rfl) <| ph (aD ah.Model.b7.len) (qZ rfl _) <| pp (aD 0) <| dV <| yF <| ?_
  obtain⟨vv,O8,h⟩:=bind_some h;refine fe (zu ah) (fun s aN H'=>At aN [1,18,19,20] [.ptr ai 0,bg 3 iX ah.Model.b7,aD ah.Model.b7.len,aD s]/\Own H' ([(ai,.cells (iM ah))]::[])) (fun o=>fun eI aN H'=>match(generalizing:=false) o with| .go s=>eI=(.exit 0)/\At aN [1] [.ptr ai 0]/\Own H' ([(ai,.cells (iM ah))]::[])| .ret s=>eI=.ret/\At aN [2] [.bool false]/\Own H' []) O8 ⟨rfl,O7⟩ ?_ ?_
  ·rintro i12 c1 atQ r aW auE
   dsimp only[zu]at auE
   try dsimp only at aW
   obtain⟨alr,Yz⟩:=aW;refine dv alr <| iW <| pp (.bool (decide (i12<ah.Model.b7.len))) <| dV <| kc <| ?_
   rcases lD auE with⟨O9,auE⟩|⟨O9,auE⟩
   ·refine qW rfl O9 <| qV <| kc <| yF <| iW <| ?_
    obtain⟨eN,als,auE⟩:=bind_some auE;refine ph (.dn (aE (iX eN)) 0) (sc rfl rfl als _) <| pp (.agg [aD eN.Table,aD eN.jt,aD eN.da]) <| yJ rfl Yz fun atS tL alu alv=>yK (vs:=[aD eN.Table,aD eN.jt,aD eN.da]) (cs':=[aD eN.Table,aD eN.jt,aD eN.da]) rfl alv 0 rfl alu rfl rfl ⟨rfl,km rfl⟩ (by simp[bS]) rfl fun atT vM=>dV <| kc <| kc <| ?_
    obtain⟨vr,qi,auE⟩:=bind_some auE;refine wU (fun eI aN H'=>(fun s=>eI=.normal/\At aN [1,4,18,19,20,48] [.ptr ai 0,.ptr tL 0,bg 3 iX ah.Model.b7,aD ah.Model.b7.len,aD i12,.bool s]/\Own H' ([(tL,.cells [aD eN.Table,aD eN.jt,aD eN.da])]::[(ai,.cells (iM ah))]::[])) vr) ?_ ?_
    ·refine o6 <| pp (.ptr tL 0) <| ph (aD eN.Table) (hK rfl (vM.get 0 rfl) rfl) <| pp (.ptr ai 0) <| pp (.ptr ai 1) <| ph (bg 6 lH ah.Model.Tables) (hK rfl (vM.get 1 rfl) rfl) <| ph (aD ah.Model.Tables.len) (qZ rfl _) <| ?_
     obtain⟨sj,alw,qi⟩:=bind_some qi;refine ph (.bool sj) (wV (O6 _ _ _ _ alw) (tj (by simp[bW,bs])) rfl rfl) <| pp (.bool (!sj)) <| pp (.bool (!sj)) <| ?_
     rcases lD qi with⟨mr,qi⟩|⟨mr,qi⟩
     ·refine h9 (.ptr tL 2) (lE mr) <| ha (v:=(aD eN.da)) (hJ rfl (lE mr)) (hK rfl (vM.get 0 rfl) rfl) <| h9 (.ptr ai 0) (lE mr) <| h9 (.ptr ai 1) (lE mr) <| ha (v:=(bg 6 lH ah.Model.Tables)) (hJ rfl (lE mr)) (hK rfl (vM.get 1 rfl) rfl) <| ha (v:=(aD ah.Model.Tables.len)) (hJ rfl (lE mr)) (qZ rfl _) <| ?_
      obtain⟨pd,alx,qi⟩:=bind_some qi;refine ha (v:=(.bool pd)) (hJ rfl (lE mr)) (wV (O6 _ _ _ _ alx) (tj (by simp[bW,bs])) rfl rfl) <| h9 (.bool (!pd)) (lE mr) <| ph (.bool (!pd)) (vh rfl (lE mr)) <| pp (.bool (!pd)) <| ?_
      rcases lD qi with⟨qj,qi⟩|⟨qj,qi⟩
      ·refine h9 (.ptr tL 0) (lE qj) <| ha (v:=(aD eN.Table)) (hJ rfl (lE qj)) (hK rfl (vM.get 0 rfl) rfl) <| h9 (.ptr tL 2) (lE qj) <| ha (v:=(aD eN.da)) (hJ rfl (lE qj)) (hK rfl (vM.get 0 rfl) rfl) <| h9 (.bool (eN.Table==eN.da)) (lE qj) <| ph (.bool (eN.Table==eN.da)) (vh rfl (lE qj)) <| dV <| ?_
       cases qi;exact⟨rfl,rfl,vM⟩
      ·refine ca (lF qj) <| ca (lF qj) <| ca (lF qj) <| ca (lF qj) <| ca (lF qj) <| ph (.bool true) (nK rfl (lF qj)) <| dV <| ?_
       cases qi;exact⟨rfl,rfl,vM⟩
     ·refine ca (lF mr) <| ca (lF mr) <| ca (lF mr) <| ca (lF mr) <| ca (lF mr) <| ca (lF mr) <| ca (lF mr) <| ca (lF mr) <| ph (.bool true) (nK rfl (lF mr)) <| pp (.bool true) <| ca rfl <| ca rfl <| ca rfl <| ca rfl <| ca rfl <| ph (.bool true) (nK rfl rfl) <| dV <| ?_
      cases qi;exact⟨rfl,rfl,vM⟩
    ·intro cb c1 atU gr
     try dsimp only at auE gr
     obtain⟨rfl,aly,Pa⟩:=gr;refine dv aly <| ?_
     rcases lD auE with⟨Pb,auE⟩|⟨Pb,auE⟩
     ·refine qW rfl Pb <| iW <| pp (.bool false) <| dV <| ti <| ?_
      cases auE;exact⟨nofun,⟨rfl,rfl,((Pa.drop 0).drop 0)⟩⟩
     ·refine qX rfl Pb <| qV <| kc <| ?_
      obtain⟨hq,alz,auE⟩:=bind_some auE;obtain⟨gl,alA,auE⟩:=bind_some auE;refine Wb 14 Pa rfl (.pp (.ptr ai 0) <| .pp (.ptr ai 1) <| .ph (bg 6 lH ah.Model.Tables) (fun _ vN=>(hK rfl (vN.get 1 rfl) rfl)) <| .pp (.ptr tL 0) <| .ph (aD eN.Table) (fun _ vN=>(hK rfl (vN.get 0 rfl) rfl)) <| .ph (.dn (aE (lH hq)) 0) (fun _ vN=>(sc rfl rfl alz _)) <| .pp (.agg [.str hq.Name,aD hq.Kind,bg 1 aD hq.bP,aD hq.Range.kI,aD hq.Range.kJ,aD hq.dG]) <| .pp (.ptr ai 0) <| .pp (.ptr ai 1) <| .ph (bg 6 lH ah.Model.Tables) (fun _ vN=>(hK rfl (vN.get 1 rfl) rfl)) <| .pp (.ptr tL 2) <| .ph (aD eN.da) (fun _ vN=>(hK rfl (vN.get 0 rfl) rfl)) <| .ph (.dn (aE (lH gl)) 0) (fun _ vN=>(sc rfl rfl alA _)) <| .pp (.agg [.str gl.Name,aD gl.Kind,bg 1 aD gl.bP,aD gl.Range.kI,aD gl.Range.kJ,aD gl.dG]) <| .nil) fun YA=>yJ rfl Pa fun atV Pc Pf alB=>yJ rfl alB fun atW Pg Ph alC=>yK (vs:=[.str hq.Name,aD hq.Kind,bg 1 aD hq.bP,aD hq.Range.kI,aD hq.Range.kJ,aD hq.dG]) (cs':=[.str hq.Name,aD hq.Kind,bg 1 aD hq.bP,aD hq.Range.kI,aD hq.Range.kJ,aD hq.dG]) rfl alC 1 rfl Pf rfl rfl ⟨rfl,km rfl⟩ (by simp[bS]) rfl fun atX alD=>yK (vs:=[.str gl.Name,aD gl.Kind,bg 1 aD gl.bP,aD gl.Range.kI,aD gl.Range.kJ,aD gl.dG]) (cs':=[.str gl.Name,aD gl.Kind,bg 1 aD gl.bP,aD gl.Range.kI,aD gl.Range.kJ,aD gl.dG]) rfl alD 0 rfl Ph rfl rfl ⟨rfl,km rfl⟩ (by simp[bS]) rfl fun atY qk=>dV ⟨rfl,?_⟩;replace Ph:=cV YA Ph;replace Pf:=cV YA Pf;refine kc <| ?_
      obtain⟨Ee,kk,auE⟩:=bind_some auE;refine wU (fun eI aN H'=>(fun s=>eI=.normal/\At aN [1,18,19,20,98] [.ptr ai 0,bg 3 iX ah.Model.b7,aD ah.Model.b7.len,aD i12,.bool s]/\Own H' ([(ai,.cells (iM ah))]::[])) Ee) ?_ ?_
      ·refine MN <| pp (.ptr Pc 1) <| ph (aD hq.Kind) (hK rfl (qk.get 1 rfl) rfl) <| pp (.bool (hq.Kind != 0)) <| pp (.bool (hq.Kind != 0)) <| ?_
       rcases lD kk with⟨vO,kk⟩|⟨vO,kk⟩
       ·refine ca vO <| ca vO <| ca vO <| ph (.bool true) (nK rfl vO) <| pp (.bool true) <| ca rfl <| ca rfl <| ca rfl <| ca rfl <| ca rfl <| ca rfl <| ca rfl <| ph (.bool true) (nK rfl rfl) <| pp (.bool true) <| ca rfl <| ca rfl <| ca rfl <| ca rfl <| ph (.bool true) (nK rfl rfl) <| pp (.bool true) <| ca rfl <| ca rfl <| ca rfl <| ca rfl <| ca rfl <| ca rfl <| ca rfl <| ca rfl <| ca rfl <| ca rfl <| ca rfl <| ph (.bool true) (nK rfl rfl) <| dV ⟨rfl,?_⟩
        cases kk;exact⟨rfl,rfl,(((qk.drop 0).drop 0).drop 0)⟩
       ·refine h9 (.ptr Pg 1) vO <| ha (v:=(aD gl.Kind)) (hJ rfl vO) (hK rfl (qk.get 0 rfl) rfl) <| h9 (.bool (gl.Kind != 0)) vO <| ph (.bool (gl.Kind != 0)) (vh rfl vO) <| pp (.bool (gl.Kind != 0)) <| ?_
        rcases lD kk with⟨nk,kk⟩|⟨nk,kk⟩
        ·refine ca nk <| ca nk <| ca nk <| ca nk <| ca nk <| ca nk <| ca nk <| ph (.bool true) (nK rfl nk) <| pp (.bool true) <| ca rfl <| ca rfl <| ca rfl <| ca rfl <| ph (.bool true) (nK rfl rfl) <| pp (.bool true) <| ca rfl <| ca rfl <| ca rfl <| ca rfl <| ca rfl <| ca rfl <| ca rfl <| ca rfl <| ca rfl <| ca rfl <| ca rfl <| ph (.bool true) (nK rfl rfl) <| dV ⟨rfl,?_⟩
         cases kk;exact⟨rfl,rfl,(((qk.drop 0).drop 0).drop 0)⟩
        ·refine h9 (.ptr tL 1) nk <| ha (v:=(aD eN.jt)) (hJ rfl nk) (hK rfl (qk.get 2 rfl) rfl) <| h9 (.ptr Pc 2) nk <| ha (v:=(bg 1 aD hq.bP)) (hJ rfl nk) (hK rfl (qk.get 1 rfl) rfl) <| ha (v:=(aD hq.bP.len)) (hJ rfl nk) (qZ rfl _) <| ?_
         obtain⟨tv,alE,kk⟩:=bind_some kk;refine ha (v:=(.bool tv)) (hJ rfl nk) (wV (O6 _ _ _ _ alE) (tj (by simp[bW,bs])) rfl rfl) <| h9 (.bool (!tv)) nk <| ph (.bool (!tv)) (vh rfl nk) <| pp (.bool (!tv)) <| ?_
         rcases lD kk with⟨sx,kk⟩|⟨sx,kk⟩
         ·refine h9 (.ptr Pg 2) (lE sx) <| ha (v:=(bg 1 aD gl.bP)) (hJ rfl (lE sx)) (hK rfl (qk.get 0 rfl) rfl) <| ha (v:=(aD gl.bP.len)) (hJ rfl (lE sx)) (qZ rfl _) <| h9 (.bool (gl.bP.len != 1)) (lE sx) <| ph (.bool (gl.bP.len != 1)) (vh rfl (lE sx)) <| pp (.bool (gl.bP.len != 1)) <| ?_
          rcases lD kk with⟨fH,kk⟩|⟨fH,kk⟩
          ·refine ca fH <| ca fH <| ca fH <| ca fH <| ca fH <| ca fH <| ca fH <| ca fH <| ca fH <| ca fH <| ca fH <| ph (.bool true) (nK rfl fH) <| dV ⟨rfl,?_⟩
           cases kk;exact⟨rfl,rfl,(((qk.drop 0).drop 0).drop 0)⟩
          ·refine h9 (.ptr Pg 2) fH <| ha (v:=(bg 1 aD gl.bP)) (hJ rfl fH) (hK rfl (qk.get 0 rfl) rfl) <| ?_
           obtain⟨nf,Pj,kk⟩:=bind_some kk;refine ha (v:=(.dn (aE (aD nf)) 0)) (hJ rfl fH) (sc rfl rfl Pj _) <| h9 (aD nf) fH <| h9 (.ptr Pc 2) fH <| ha (v:=(bg 1 aD hq.bP)) (hJ rfl fH) (hK rfl (qk.get 1 rfl) rfl) <| h9 (.ptr tL 1) fH <| ha (v:=(aD eN.jt)) (hJ rfl fH) (hK rfl (qk.get 2 rfl) rfl) <| ?_
           obtain⟨pe,Pk,kk⟩:=bind_some kk;refine ha (v:=(.dn (aE (aD pe)) 0)) (hJ rfl fH) (sc rfl rfl Pk _) <| h9 (aD pe) fH <| h9 (.bool (nf != pe)) fH <| ph (.bool (nf != pe)) (vh rfl fH) <| dV ⟨rfl,?_⟩
           cases kk;exact⟨rfl,rfl,(((qk.drop 0).drop 0).drop 0)⟩
         ·refine ca (lF sx) <| ca (lF sx) <| ca (lF sx) <| ca (lF sx) <| ph (.bool true) (nK rfl (lF sx)) <| pp (.bool true) <| ca rfl <| ca rfl <| ca rfl <| ca rfl <| ca rfl <| ca rfl <| ca rfl <| ca rfl <| ca rfl <| ca rfl <| ca rfl <| ph (.bool true) (nK rfl rfl) <| dV ⟨rfl,?_⟩
          cases kk;exact⟨rfl,rfl,(((qk.drop 0).drop 0).drop 0)⟩
      ·intro cb c1 alF gr
       try dsimp only at auE gr
       obtain⟨rfl,Pl,BL⟩:=gr;refine dv Pl <| ?_
       rcases lD auE with⟨vP,auE⟩|⟨vP,auE⟩
       ·refine qW rfl vP <| iW <| pp (.bool false) <| dV <| ti <| ?_
        cases auE;exact⟨nofun,⟨rfl,rfl,(BL.drop 0)⟩⟩
       ·refine qX rfl vP <| qV <| o6 <| pp (aD (bJ (i12+1))) <| pp (aD (bJ (i12+1))) <| dV <| ?_
        cases auE;exact⟨rfl,⟨rfl,BL⟩⟩
   ·refine qX rfl O9 <| Dz <| ?_
    cases auE;exact⟨nofun,⟨rfl,rfl,Yz⟩⟩
  ·intro cb c1 alG gr
   cases vv with
   |go atZ=>
    try dsimp only at h gr
    obtain⟨rfl,alH,alI⟩:=gr;cases h;exact⟨rfl,ai,rN,alH,alI⟩
   |ret q=>
    obtain⟨rfl,alJ,aA⟩:=gr;cases h;exact⟨rfl,alJ⟩
theorem alK (ah:dN){ai:Nat}{m:List (Int × Bool)}(alL:At σ [1] [.ptr ai 0])(aA:Own H [[(ai,.cells (iM ah))]])(h:c0 (zv ah) (0,[])=some m):
  eS aa b (.seq (hA 4) (hA 5)) σ H fun x aN H'=>x=.normal/\∃eu l,b<=eu/\b<=l/\At aN [1,7] [.ptr ai 0,.ptr eu 0]/\Own H' [[(eu,.cells [.map l])],[(l,.map (gi aD V.bool m))],[(ai,.cells (iM ah))]]:=by
 rw[<-wY alL];refine iW <| VU rfl aA fun at0 xl YB alM=>yJ rfl alM fun at1 E2 YC alN=>yK (vs:=[.map xl]) (cs':=[.map xl]) rfl alN 0 rfl YC rfl rfl ⟨rfl,km rfl⟩ (by simp[bS]) rfl fun at2 YD=>dV <| iW <| pp (.ptr ai 0) <| pp (.ptr ai 6) <| ph (bg 3 iX ah.Model.b7) (hK rfl (YD.get 2 rfl) rfl) <| ph (aD ah.Model.b7.len) (qZ rfl _) <| pp (aD 0) <| dV <| yF <| ?_
 refine fe (zv ah) (fun s aN H'=>At aN [1,7,103,104,105] [.ptr ai 0,.ptr E2 0,bg 3 iX ah.Model.b7,aD ah.Model.b7.len,aD s.1]/\Own H' ([(E2,.cells [.map xl])]::[(xl,.map (gi aD V.bool s.2))]::[(ai,.cells (iM ah))]::[])) (fun o=>fun eI aN H'=>eI=(.exit 2)/\At aN [1,7] [.ptr ai 0,.ptr E2 0]/\Own H' ([(E2,.cells [.map xl])]::[(xl,.map (gi aD V.bool o))]::[(ai,.cells (iM ah))]::[])) h ⟨rfl,YD⟩ ?_ ?_
 ·rintro⟨i90,i91⟩ c1 at3 r aW xm
  dsimp only[zv]at xm
  try dsimp only at aW
  obtain⟨alO,YE⟩:=aW;refine dv alO <| iW <| pp (.bool (decide (i90<ah.Model.b7.len))) <| dV <| kc <| ?_
  rcases lD xm with⟨Pm,xm⟩|⟨Pm,xm⟩
  ·refine qW rfl Pm <| qV <| kc <| yF <| iW <| ?_
   obtain⟨pf,alP,xm⟩:=bind_some xm;refine ph (.dn (aE (iX pf)) 0) (sc rfl rfl alP _) <| pp (.agg [aD pf.Table,aD pf.jt,aD pf.da]) <| yJ rfl YE fun alQ alR alS alT=>yK (vs:=[aD pf.Table,aD pf.jt,aD pf.da]) (cs':=[aD pf.Table,aD pf.jt,aD pf.da]) rfl alT 0 rfl alS rfl rfl ⟨rfl,km rfl⟩ (by simp[bS]) rfl fun at4 Pn=>dV <| o6 <| ph (.map xl) (hK rfl (Pn.get 1 rfl) rfl) <| pp (.ptr alR 0) <| ph (aD pf.Table) (hK rfl (Pn.get 0 rfl) rfl) <| V4 (gA:=aD) (gj:=V.bool) (m:=i91) (k:=pf.Table) (w:=true) rfl DD Pn 2 rfl YB rfl rfl rfl (by simp) fun at5 alU=>dV <| o6 <| pp (aD (bJ (i90+1))) <| pp (aD (bJ (i90+1))) <| dV <| ?_
   cases xm;exact⟨rfl,⟨rfl,(alU.drop 0)⟩⟩
  ·refine qX rfl Pm <| Dz <| ?_
   cases xm;exact⟨nofun,rfl,rfl,YE⟩
 ·intro cb c1 at6 gr
  obtain⟨rfl,alV,alW⟩:=gr;exact⟨rfl,E2,xl,YC,YB,alV,alW⟩
theorem alX{eu l:Nat}{m:List (Int × Bool)}(j:At σ [7] [.ptr eu 0]){ms:cN}(aA:Own H ([(eu,.cells [.map l])]::[(l,.map (gi aD V.bool m))]::ms)):
  eS aa b (hA 7) σ H fun x aN H'=>x=.ret/\At aN [2] [.bool (decide (m.length=0))]:=by
 rw[<-wY j];refine iW <| ph (.map l) (hK rfl (aA.get 0 rfl) rfl) <| ph (aD (m.length:Int)) (V3 (gA:=aD) (gj:=V.bool) (aA.get 1 rfl) rfl) <| pp (.bool ((m.length:Int)==0)) <| pp (.bool ((m.length:Int)==0)) <| dV <| ti <| ?_
 refine⟨rfl,?_⟩;have:((m.length:Int)==0)=decide (m.length=0):=by rw[zU];simp
 rw[<-this];rfl
theorem alY (Qw:aa 224=some (.code au0)){nn eu l:Nat}{t:Int}{m:List (Int × Bool)}{ms:cN}(aA:Own H ([(nn,.cells [aD t])]::[(eu,.cells [.map l])]::[(l,.map (gi aD V.bool m))]::ms))(h:gk):
  bZ aa (.fn 224 [] [.ptr nn 0,.ptr eu 0]) [.agg [aD h.Table,aD h.jt,aD h.da]] H=some (.bool ((h.Table==t)&&(iH m h.da).getD false),H,H.length):=by
 refine MZ (caps:=[.ptr nn 0,.ptr eu 0]) Qw (km rfl) rfl ?_ (by simp[bs,bW]);refine iW <| MT (cs:=[aD h.Table,aD h.jt,aD h.da]) rfl aA rfl (by simp[bS]) fun sw a3 ym zx=>pp (.bool false) <| dV <| iW <| pp (.ptr a3 0) <| ph (aD h.Table) (hK rfl (zx.get 0 rfl) rfl) <| ph (aD t) (hK rfl (zx.get 1 rfl) rfl) <| pp (.bool (h.Table==t)) <| pp (.bool (h.Table==t)) <| ?_
 cases c:h.Table==t with
 |true=>
  refine ha (v:=.map l) (hJ rfl rfl) (hK rfl (zx.get 2 rfl) rfl) <| h9 (.ptr a3 2) rfl <| ha (v:=aD h.da) (hJ rfl rfl) (hK rfl (zx.get 0 rfl) rfl) <| ha (v:=.bool ((iH m h.da).getD false)) (hJ rfl rfl) (V2 (gA:=aD) (gj:=V.bool) DD false rfl (zx.get 3 rfl) rfl rfl) <| pp (.bool ((iH m h.da).getD false)) <| pp (.bool ((iH m h.da).getD false)) <| dV <| ti <| ?_
  exact⟨.inr rfl,MX (.tmp rfl .nil) rfl (by simp[bs,bW])⟩
 |false=>
  refine mi rfl <| mi rfl <| mi rfl <| mi rfl <| pp (.bool false) <| pp (.bool false) <| dV <| ti <| ?_
  exact⟨.inr rfl,MX (.tmp rfl .nil) rfl (by simp[bs,bW])⟩
def nS:cj:=.region [⟨some (125,false),.fieldAddr 0 (.var 1),none⟩,⟨some (126,false),.fieldAddr 6 (.tmp 125),none⟩,⟨some (127,false),.load none (.tmp 126),none⟩,⟨some (128,false),.sS 224 [] [.var 10,.var 7],none⟩,⟨some (129,false),.call false (.func 223) [.tmp 127,.tmp 128],none⟩,⟨some (130,true),.un .not (.tmp 129),none⟩] none
def V9:List bO:=[⟨some (124,false),.extract (.tmp 123) 0,none⟩,⟨some (10,true),.alloc [aD 0],none⟩,⟨none,.store 1 (.var 10) (.tmp 124),none⟩]
def Jw:List bO:=[⟨some (131,false),.load none (.var 7),none⟩,⟨some (132,false),.load none (.var 10),none⟩]
def U:fc:=⟨[⟨some (119,false),.load none (.var 7),none⟩],.tmp 119,120,(121,false),[⟨some (122,true),.extract (.tmp 121) 0,none⟩],.var 122,7,(123,false),V9,.seq nS (.cond (.var 130) (.region (Jw++[⟨none,.xK 0 (.tmp 131) (.tmp 132),none⟩]) none) .skip)⟩
def lx:zs:=⟨nS,.var 130,Jw,.tmp 131,.tmp 132,0⟩
theorem alZ (Qw:aa 224=some (.code au0))(nC:zq aa){ah:dN}{ai nn eu l:Nat}{t:Int}{m:List (Int × Bool)}{q:Bool}
  (aA:Own H [[(nn,.cells [aD t])],[(eu,.cells [.map l])],[(l,.map (gi aD V.bool m))],[(ai,.cells (iM ah))]]) {vs:List V} {ts:List Nat} (j:At σ (1::7::10::ts) (.ptr ai 0::.ptr eu 0::.ptr nn 0::vs))
  (bc:DM ah.Model.b7 (fun h=>some ((h.Table==t)&&(iH m h.da).getD false))=some q):
  eS aa b nS σ H fun x aN H'=>x=.normal/\H'=H/\aN=up σ 130 (.bool (!q)):=by
 have al0:σ 1=.ptr ai 0:=by simpa using(ew j).1
 have al1:σ 7=.ptr eu 0:=by simpa using(ew (ew j).2).1
 have al2:σ 10=.ptr nn 0:=by simpa using(ew (ew (ew j).2).2).1
 have a6:=nC H _ aA ah.Model.b7 _ (.fn 224 [] [.ptr nn 0,.ptr eu 0]) (fun H low=>by simp[eP,dF,bs,bW]) (fun H' z0 gU tk aT=>by
  cases aT;exact alY Qw tk z0) q bc
 refine o6 <| ph (.ptr ai 0) ?_ <| ph (.ptr ai 6) rfl <| ph (bg 3 iX ah.Model.b7) (hK rfl (aA.get 3 rfl) rfl) <| ph (.fn 224 [] [.ptr nn 0,.ptr eu 0]) ?_ <| ph (.bool q) (wV a6 (VV (by simp) (VW (fun H low=>by simp[eP,dF,bs,bW]) ahs)) rfl rfl) <| pp (.bool (!q)) <| dV ⟨rfl,rfl,rfl⟩
 ·rw[mf];simp only[bN,al0]
 ·rw[MG]
  show some (V.fn 224 [] [σ 10,σ 7],H,H.length)=_;rw[al2,al1]
end
end
end Go.Abs.hk
namespace Go.Abs
open Go
theorem iN{n:Int}(h1:-9223372036854775808<=n)(h2:n<=9223372036854775807):bJ n=n:=wrap_small h1 (by omega)
theorem fP{α:Type}(l:List α)(k:Nat):bQ l (k:Int)=l[k]? :=by simp[bQ]
theorem YF{α:Type}{l:List α}{i:Int}{a:α}(h:0<=i)(e:l[i.toNat]? =some a):bQ l i=some a:=by simp[bQ,h,e]
theorem al3{α:Type}(l:List α):bQ l 0=l[0]? :=fP l 0
def kO{α A O:Type}(step:Nat->A->α->Sum A O)(fin:A->O):Nat->A->List α->O
 | _,a,[]=>fin a
 |k,a,x::r=>match step k a x with
  | .inl a7=>kO step fin (k+1) a7 r
  | .inr o=>o
theorem YG{α A S O:Type}{f:S->Option (dM S O)}(mk:Nat->A->S)(step:Nat->A->α->Sum A O)(fin:A->O)(I:Nat->A->Prop)(xs:List α)
  (hs:∀k a x,xs[k]? =some x->I k a->f (mk k a)=some (match step k a x with| .inl a7=>.next (mk (k+1) a7)| .inr o=>.out o)/\∀a7,step k a x=.inl a7->I (k+1) a7)
  (he:∀a,I xs.length a->f (mk xs.length a)=some (.out (fin a))) {a:A} (h0:I 0 a):c0 f (mk 0 a)=some (kO step fin 0 a xs):=by
 have key:∀(n k:Nat) (a:A),k+n=xs.length->I k a->c0 f (mk k a)=some (kO step fin k a (xs.drop k)):=by
  intro n
  induction n with
  |zero=>
   intro k a cW aW;have e:k=xs.length:=by omega
   subst e;rw[k4,he a aW,B6 (aK _)];rfl
  |succ n ih=>
   intro k a cW aW;have aX:k<xs.length:=by omega
   obtain⟨h1,h2⟩:=hs k a xs[k] (by simp[aX]) aW;rw[k4,h1,wc aX];simp only[kO];cases cd:step k a xs[k]with
   |inl a7=>exact ih (k+1) a7 (by omega) (h2 a7 cd)
   |inr o=>rfl
 have:=key xs.length 0 a (by omega) h0;simpa using this
theorem YH{α A S O:Type}{f:S->Option (dM S O)}(b5:Nat->A->S->Prop)(step:Nat->A->α->Sum A O)(fin:A->O)(xs:List α)
  (hs:∀k a x s,xs[k]? =some x->b5 k a s->match step k a x with| .inl a7=>∃al,f s=some (.next al)/\b5 (k+1) a7 al| .inr o=>f s=some (.out o))
  (he:∀a s,b5 xs.length a s->f s=some (.out (fin a))) {a:A} {s:S} (h0:b5 0 a s):c0 f s=some (kO step fin 0 a xs):=by
 have key:∀(n k:Nat) (a:A) (s:S),k+n=xs.length->b5 k a s->c0 f s=some (kO step fin k a (xs.drop k)):=by
  intro n
  induction n with
  |zero=>
   intro k a s cW aW;have e:k=xs.length:=by omega
   subst e;rw[k4,he a s aW,B6 (aK _)];rfl
  |succ n ih=>
   intro k a s cW aW;have aX:k<xs.length:=by omega
   have h1:=hs k a xs[k] s (by simp[aX]) aW;rw[wc aX];simp only[kO];cases cd:step k a xs[k]with
   |inl a7=>
    rw[cd]at h1;obtain⟨al,af,e2⟩:=h1;rw[k4,af];exact ih (k+1) a7 al (by omega) e2
   |inr o=>
    rw[cd]at h1;rw[k4,h1]
 have:=key xs.length 0 a s (by omega) h0;simpa using this
theorem YI{α S O:Type}{f:S->Option (dM S O)}(I:Nat->S->Prop)(P:O->Prop)(xs:List α)(hs:∀k x s,xs[k]? =some x->I k s->∃al,f s=some (.next al)/\I (k+1) al)
  (he:∀s,I xs.length s->∃o,f s=some (.out o)/\P o) {s:S} (h0:I 0 s):∃o,c0 f s=some o/\P o:=by
 have key:∀(n k:Nat) (s:S),k+n=xs.length->I k s->∃o,c0 f s=some o/\P o:=by
  intro n
  induction n with
  |zero=>
   intro k s cW aW;have e:k=xs.length:=by omega
   subst e;obtain⟨o,af,e2⟩:=he s aW;exact⟨o,by rw[k4,af],e2⟩
  |succ n ih=>
   intro k s cW aW;have aX:k<xs.length:=by omega
   obtain⟨al,af,e2⟩:=hs k xs[k] s (by simp[aX]) aW;obtain⟨o,f1,f2⟩:=ih (k+1) al (by omega) e2;exact⟨o,by rw[k4,af];exact f1,f2⟩
 exact key xs.length 0 s (by omega) h0
theorem E3{α S O:Type}{f:S->Option (dM S O)}(I:Nat->S->Prop)(P:O->Prop)(xs:List α)(hs:∀k x s,xs[k]? =some x->I k s->(∃al,f s=some (.next al)/\I (k+1) al)\/(∃o,f s=some (.out o)/\P o))
  (he:∀s,I xs.length s->∃o,f s=some (.out o)/\P o) {s:S} (h0:I 0 s):∃o,c0 f s=some o/\P o:=by
 have key:∀(n k:Nat) (s:S),k+n=xs.length->I k s->∃o,c0 f s=some o/\P o:=by
  intro n
  induction n with
  |zero=>
   intro k s cW aW;have e:k=xs.length:=by omega
   subst e;obtain⟨o,af,e2⟩:=he s aW;exact⟨o,by rw[k4,af],e2⟩
  |succ n ih=>
   intro k s cW aW;have aX:k<xs.length:=by omega
   rcases hs k xs[k] s (by simp[aX]) aW with⟨al,af,e2⟩|⟨o,af,e2⟩
   ·obtain⟨o,f1,f2⟩:=ih (k+1) al (by omega) e2
    exact⟨o,by rw[k4,af];exact f1,f2⟩
   ·exact⟨o,by rw[k4,af],e2⟩
 exact key xs.length 0 s (by omega) h0
def allI{α:Type}(ok:Nat->α->Bool)(xs:List α):Bool:=xs.zipIdx.all fun p=>ok p.2 p.1
theorem E4{α:Type}{ok:Nat->α->Bool}{xs:List α}:allI ok xs=true↔∀k x,xs[k]? =some x->ok k x=true:=by
 unfold allI;rw[eV];constructor
 ·intro h k x hx
  exact h (x,k) (ie.2 hx)
 ·intro h p hp
  exact h p.2 p.1 (ie.1 hp)
theorem zy{α S:Type}{f:S->Option (dM S (cP Unit Unit))}(I:Nat->S->Prop)(ok:Nat->α->Bool)(xs:List α)
  (hs:∀k x s,xs[k]? =some x->I k s->(∀j y,j<k->xs[j]? =some y->ok j y=true)->(ok k x=true->∃al,f s=some (.next al)/\I (k+1) al)/\(ok k x=false->f s=some (.out (.ret ()))))
  (he:∀s,I xs.length s->f s=some (.out (.go ()))) {s:S} (h0:I 0 s):c0 f s=some (bif allI ok xs then .go ()else .ret ()):=by
 obtain⟨o,af,e2⟩:=E3 (f:=f) (fun k s=>I k s/\∀j y,j<k->xs[j]? =some y->ok j y=true) (fun o=>o=bif allI ok xs then .go ()else .ret ()) xs (fun k x s hx aW=>by
  obtain⟨h1,h2⟩:=hs k x s hx aW.1 aW.2;cases bx:ok k x with
  |true=>
   obtain⟨al,af,e2⟩:=h1 bx;refine .inl ⟨al,af,e2,fun j y hj hy=> ?_⟩;by_cases e:j=k
   ·subst e;rw[hx]at hy;cases hy;exact bx
   ·exact aW.2 j y (by omega) hy
  |false=>
   refine .inr ⟨.ret (),h2 bx,?_⟩;cases ao:allI ok xs with
   |false=>rfl
   |true=>rw[E4.1 ao k x hx]at bx;cases bx) (fun s aW=>by
  refine⟨.go (),he s aW.1,?_⟩;have:allI ok xs=true:=E4.2 fun k x hx=>aW.2 k x (pY.1 hx).1 hx;rw[this];rfl) (s:=s) ⟨h0,fun j y hj=>by omega⟩
 rw[af,e2]
def pg{α:Type}(f:α->Int)(xs:List α):Nat->Int
 |0=>-1
 |k+1=>((xs[k]?).map f).getD (-1)
theorem Po{α:Type}(f:α->Int){xs:List α}{k:Nat}{x:α}(h:xs[k]? =some x):pg f xs (k+1)=f x:=by simp[pg,h]
theorem ayg{α:Type}{f:α->Int}{xs:List α}:∀{k:Nat},(∀j y,j<k->xs[j]? =some y->pg f xs j<f y)-> -1<=pg f xs k
 |0,_=>by simp[pg]
 |k+1,h=>by
  have ih:=ayg (k:=k) fun j y hj=>h j y (by omega);cases hx:xs[k]? with
  |none=>simp[pg,hx]
  |some x=>
   rw[Po f hx];have:=h k x (by omega) hx;omega
theorem YJ{α A O:Type}{step:Nat->A->α->Sum A O}{fin:A->O}{g:A->α->A}(h:∀k a x,step k a x=.inl (g a x)):∀(l:List α) (k:Nat) (a:A),kO step fin k a l=fin (l.foldl g a)
 |[],_,_=>rfl
 |x::r,k,a=>by simp only[kO,h,qu];exact YJ h r (k+1) (g a x)
theorem Pp{α R:Type}{f:Int->Option (dM Int (cP Unit Unit))}(xs:List α)(hn:xs.length<4611686018427387904)(b:Nat->α->Bool)
  (hs:∀(k:Nat) x,xs[k]? =some x->f k=some (bif b k x then .out (.ret ())else .next (bJ (k+1)))) (he:f (xs.length:Int)=some (.out (.go ()))):
  c0 f 0=some (bif xs.zipIdx.any (fun p=>b p.2 p.1)then .ret ()else .go ()):=by
 have h:=YG (f:=f) (fun k (_:Unit)=>(k:Int)) (fun k _ x=>bif b k x then .inr (.ret ())else .inl ()) (fun _=>.go ()) (fun _ _=>True) xs (fun k a x hx _=>by
  refine⟨?_,fun _ _=>trivial⟩;have aX:=(pY.1 hx).1;rw[hs k x hx];cases b k x
  ·simp only[cond_false]
   rw[iN (by omega) (by omega)];rfl
  ·rfl) (fun _ _=>he) (a:=()) trivial
 have h2:∀(k:Nat) (l:List α),kO (fun k (_:Unit) x=>bif b k x then(.inr (.ret ()):Sum Unit (cP Unit Unit))else .inl ()) (fun _=>.go ()) k () l=bif (l.zipIdx k).any (fun p=>b p.2 p.1)then .ret ()else .go ():=by
  intro k l
  induction l generalizing k with
  |nil=>rfl
  |cons x r ih=>
   simp only[kO,List.zipIdx_cons,List.any_cons];cases hb:b k x
   ·simp only[cond_false,qv];exact ih (k+1)
   ·simp
 rw[h2]at h;exact h
theorem al4{α:Type}(b:α->Bool)(l:List α)(k:Nat):(l.zipIdx k).any (fun p=>b p.1)=l.any b:=by
 induction l generalizing k with
 |nil=>rfl
 |cons x r ih=>simp[List.zipIdx_cons,ih]
theorem xn{α:Type}{f:Int->Option (dM Int (cP Unit Unit))}(xs:List α)(hn:xs.length<4611686018427387904)(b:α->Bool)
  (hs:∀(k:Nat) x,xs[k]? =some x->f k=some (bif b x then .out (.ret ())else .next (bJ (k+1)))) (he:f (xs.length:Int)=some (.out (.go ()))):
  c0 f 0=some (bif xs.any b then .ret ()else .go ()):=by
 have:=Pp (R:=Unit) xs hn (fun _ x=>b x) hs he;rw[al4]at this;exact this
theorem Pq{α:Type}(xs:ak α)(hn:xs.l.length<4611686018427387904){f:α->Option Bool}{p:α->Bool}(ab:∀x∈xs.l,f x=some (p x)):
  (c0 (fun i7:Int=>(bif (decide (i7<xs.len))then((bQ xs.l i7).bind fun hh=>((f hh).bind fun hM=>(bif hM then some (dM.out (cP.ret i7))else some (.next (bJ (i7+1))))))else some (.out (.go ())))) 0:Option (cP Unit Int))=
    some (match xs.l.findIdx? p with|none=>.go ()|some i=>.ret (i:Int)):=by
 have h:=YG (f:=fun i7:Int=>(bif (decide (i7<xs.len))then((bQ xs.l i7).bind fun hh=>((f hh).bind fun hM=>(bif hM then some (dM.out (cP.ret i7:cP Unit Int))else some (.next (bJ (i7+1))))))else some (.out (.go ()))))
  (fun k (_:Unit)=>(k:Int)) (fun k _ x=>bif p x then .inr (.ret (k:Int))else .inl ()) (fun _=>.go ()) (fun _ _=>True) xs.l (fun k a x hx _=>by
    refine⟨?_,fun _ _=>trivial⟩;have aX:=(pY.1 hx).1;have hd:decide ((k:Int)<xs.len)=true:=by simp[ak.len];exact aX
    simp only[hd,cond_true,fP,hx,cg,ab x (hz hx)];cases p x
    ·simp only[cond_false]
     rw[iN (by omega) (by omega)];rfl
    ·rfl) (fun _ _=>by
    have hd:decide ((xs.l.length:Int)<xs.len)=false:=by simp[ak.len]
    simp only[hd,cond_false]) (a:=()) trivial
 have h2:∀(k:Nat) (l:List α),kO (fun k (_:Unit) x=>bif p x then(.inr (.ret (k:Int)):Sum Unit (cP Unit Int))else .inl ()) (fun _=>.go ()) k () l=match l.findIdx? p with|none=>.go ()|some i=>.ret ((k+i:Nat):Int):=by
  intro k l
  induction l generalizing k with
  |nil=>rfl
  |cons x r ih=>
   simp only[kO,QP];cases hb:p x
   ·simp only[cond_false,ih (k+1)]
    cases r.findIdx? p with
    |none=>rfl
    |some i=>simp;omega
   ·simp
 rw[h2]at h;refine h.trans ?_;cases xs.l.findIdx? p<;>simp
theorem E5{α:Type}(xs:ak α)(hn:xs.l.length<4611686018427387904){f:α->Option Bool}{p:α->Bool}(ab:∀x∈xs.l,f x=some (p x)):
  ((((c0 (fun i7:Int=>(bif (decide (i7<xs.len))then((bQ xs.l i7).bind fun hh=>((f hh).bind fun hM=>(bif hM then some (dM.out (cP.ret i7))else some (.next (bJ (i7+1))))))else some (.out (.go ())))) 0:Option (cP Unit Int)).bind fun iJ=>match iJ with| .go _=>some (-1)| .ret pW=>some pW)).bind fun cb=>some (decide (cb>=0)))=some (xs.l.any p):=by
 rw[Pq xs hn ab]
 have:(xs.l.findIdx? p).isSome=xs.l.any p:=by
  rw[List.findIdx?_isSome]
 rw[<-this];cases xs.l.findIdx? p with
 |none=>simp
 |some i=>simp
theorem Pr{K W:Type}[BEq K][LawfulBEq K](k bp:K)(w:W):∀m:List (K × W),iH (mg m k w) bp=if bp==k then some w else iH m bp
 |[]=>by
  simp only[mg,iH,Kr,List.find?_nil];cases cW:bp==k<;>simp
 |p::r=>by
  have ih:=Pr k bp w r;simp only[iH]at ih;simp only[mg];cases hp:k==p.1
  ·simp only[hY,if_false,iH,Kr]
   cases bc:bp==p.1
   ·simp only[ih]
   ·have e:bp=p.1:=by simpa using bc
    have:(bp==k)=false:=by
     rw[e];cases h:p.1==k with
     |false=>rfl
     |true=>have e2:p.1=k:=by simpa using h
            rw[e2]at hp;simp at hp
    simp[this]
  ·have e:k=p.1:=by simpa using hp
   simp only[if_true,iH,Kr,e];cases bc:bp==p.1<;>simp
end Go.Abs
namespace Go.Abs.hk
open Go Go.Abs
def cm{α:Type}(l:List α):Prop:=l.length<4611686018427387904
def oD (l:List Int):Bool:=l.all fun n=>decide (n>=1)&&decide (n<=6)
def oE (n:Nat)(c:List Int):Bool:=decide (c.length<=3)&&c.all fun x=>decide (x>=0)&&decide (x<n)
def hP (s:List Int)(x:Int):Int:=(s[x.toNat]?).getD 1
def wid (s c:List Int):Int:=c.foldl (fun a x=>a*hP s x) 1
def kP (t:Table):Bool:=(t.Kind==0)||(t.Kind==1)
def Jx (t:Table):Bool:=bif (t.Kind==1)||((t.Kind==4)||(t.Kind==5))then decide (t.Range.kI<=t.Range.kJ)&&(decide (t.Range.kI>=-9999)&&decide (t.Range.kJ<=9999))else(t.Range.kI==0)&&(t.Range.kJ==1)
noncomputable def tM (w:bH):Bool:=(yX w).getD false
theorem gL{α:Type}(x:ak α):x.len=(x.l.length:Int):=rfl
theorem YK (w:bH):yX w=some (tM w):=by
 unfold tM yX pU;cases decide ((w.length:Int)<=16)<;>rfl
theorem Ps (xs:ak Int)(h:cm xs.l){f:Int->Option Bool}{p:Int->Bool}(ab:∀x∈xs.l,f x=some (p x)):DW xs f=some (xs.l.any p):=E5 xs h ab
theorem al5 (xs:ak Bool)(h:cm xs.l)(a:Bool):Nn xs a=some (xs.l.any fun x=>a==x):=E5 xs h (f:=fun x=>some (a==x)) (fun x _=>rfl)
theorem al6 (s:ak Int)(h:cm s.l):HW s=some (oD s.l):=by
 unfold HW;rw[Ps s h (f:=Np) (p:=fun n=>!(decide (n>=1)&&decide (n<=6))) (fun x _=>rfl)];simp[oD,sK]
theorem al7 (s c:ak Int)(h:cm c.l):HX s c=some (oE s.l.length c.l):=by
 unfold HX;rw[Ps c h (f:=fun z0=>Nq s z0) (p:=fun x=>(decide (x<0))||(decide (x>=s.len))) (fun x _=>rfl)];unfold oE;have e:decide ((c.l.length:Int)<=3)=decide (c.l.length<=3):=decide_eq_decide.2 (by omega);rw[gL,e];cases hc:decide (c.l.length<=3)with
 |true=>
  simp only[cond_true,cg,fI,sK,az];congr 2;funext x;rw[gL];by_cases h1:x<0<;>by_cases h2:x>=(s.l.length:Int)<;>simp_all<;>omega
 |false=>
  simp
theorem YL (l:List Bool)(h:cm l):Bc (ak.mk l)=some (l.all id):=by
 unfold Bc;rw[al5 (ak.mk l) h];simp only[cg,sK,az,ak.l];congr 2;funext x;cases x<;>rfl
theorem al8 (t:Table):HY t=some (Jx t):=by
 unfold HY Jx;cases h1:t.Kind==1<;>cases aQ:t.Kind==4<;>cases h5:t.Kind==5<;>simp
theorem Jy (t:Table):Bd t=some (kP t):=rfl
theorem Jz{s:List Int}{x:Int}(h0:0<=x)(h1:x<s.length):bQ s x=some (hP s x):=by
 have aX:x.toNat<s.length:=by omega
 refine YF h0 ?_;unfold hP;simp[aX]
theorem JA{s:List Int}(h:oD s=true){x:Int}(h0:0<=x)(h1:x<s.length):1<=hP s x/\hP s x<=6:=by
 have aX:x.toNat<s.length:=by omega
 unfold hP;simp only[hX aX,sO];have:=eV.1 h _ (Kp aX);simpa using this
theorem E6{n:Nat}{c:List Int}(h:oE n c=true):c.length<=3/\∀x∈c,0<=x/\x<n:=by
 unfold oE at h;simp only[b8,decide_eq_true_eq,eV]at h;exact⟨h.1,fun x hx=>h.2 x hx⟩
theorem E7{s c:List Int}(hs:oD s=true)(hc:oE s.length c=true):1<=wid s c/\wid s c<=216:=by
 obtain⟨h1,h2⟩:=E6 hc
 have step:∀(a x:Int),0<=x/\x<s.length->1<=a->∀m:Int,a<=m->1<=a*hP s x/\a*hP s x<=m*6:=fun a x hx ao m hm=>by
  obtain⟨q1,aS⟩:=JA hs hx.1 hx.2;constructor
  ·exact Int.le_trans (by omega) (av9 ao q1 (by omega) (by omega))
  ·exact av9 hm aS (by omega) (by omega)
 unfold wid
 match c,h1,h2 with
 |[],_,_=>simp
 |[x],_,h=>have a:=step 1 x (h x (by simp)) (by omega) 1 (by omega);simp only[qu,axf];omega
 |[x,y],_,h=>
  have a:=step 1 x (h x (by simp)) (by omega) 1 (by omega);have b:=step _ y (h y (by simp)) a.1 _ a.2;simp only[qu,axf];omega
 |[x,y,z],_,h=>
  have a:=step 1 x (h x (by simp)) (by omega) 1 (by omega);have b:=step _ y (h y (by simp)) a.1 _ a.2;have d:=step _ z (h z (by simp)) b.1 _ b.2;simp only[qu,axf];omega
 | _::_::_::_::_,h,_=>simp at h
theorem Pt (s c:ak Int)(hs:oD s.l=true)(hc:oE s.l.length c.l=true):tu s c=some (wid s.l c.l):=by
 obtain⟨h1,h2⟩:=E6 hc;unfold tu
 have h:=YH (f:=HZ s c) (fun k (a:Int) st=>st=(a,(k:Int))/\k<=3/\1<=a/\a<=6^k) (fun _ a x=>.inl (a*hP s.l x)) (fun a=>a) c.l (fun k a x st hx U=>by
  obtain⟨rfl,cW,ao⟩:=U;have aX:=(pY.1 hx).1;have dW:=h2 x (hz hx);obtain⟨q1,aS⟩:=JA hs dW.1 dW.2;have hd:decide ((k:Int)<c.len)=true:=by simp[gL];exact aX
  have hb:1<=a*hP s.l x/\a*hP s.l x<=6^(k+1):=⟨Int.le_trans (by omega) (av9 ao.1 q1 (by omega) (by omega)),by
   rw[Int.pow_succ];exact av9 ao.2 aS (by omega) (by have:(0:Int)<=6^k:=Int.pow_nonneg (by omega);omega)⟩
  have YM:(6:Int)^(k+1)<=1296:=by
   have:k=0\/k=1\/k=2\/k=3:=by omega
   rcases this with rfl|rfl|rfl|rfl<;>decide
  refine⟨(a*hP s.l x,((k+1:Nat):Int)),?_,rfl,by omega,hb⟩;simp only[HZ,hd,cond_true,fP,hx,cg,Jz dW.1 dW.2];rw[iN (by omega) (by omega),iN (by omega) (by omega)];rfl) (fun a st U=>by
  obtain⟨rfl,-⟩:=U;have hd:decide ((c.l.length:Int)<c.len)=false:=by simp[gL]
  simp only[HZ,hd,cond_false]) (a:=1) (s:=(1,0)) ⟨rfl,by omega,by simp⟩
 rw[h,YJ (g:=fun a x=>a*hP s.l x) (fun _ _ _=>rfl)];rfl
end Go.Abs.hk
namespace Go.Abs.hk
open Go Go.Abs
noncomputable section
def np (s:List Int)(t:Table):Bool:=tM t.Name&&((decide (t.Kind>=0)&&decide (t.Kind<=5))&&(oE s.length t.bP.l&&Jx t))
def oF (ts:List Table)(k:Nat)(n:bH):Bool:=(ts.take k).any fun u=>u.Name==n
def rf (s:List Int)(ts:List Table)(k:Nat)(a:Int × Int)(t:Table):Sum (Int × Int) (Option (Int × Int)):=
 bif np s t&&!(oF ts k t.Name)then
  (bif kP t then(bif t.dG==a.1 then .inl (a.1+wid s t.bP.l,a.2)else .inr none)else(bif t.dG==a.2 then .inl (a.1,a.2+wid s t.bP.l)else .inr none))
 else .inr none
def JB (s:List Int)(ts:List Table):Option (Int × Int):=kO (rf s ts) some 0 (0,0) ts
def mu (s:List Int)(ts:List Table):Bool:=decide (s.length<=4)&&(decide (ts.length<=12)&&(oD s&&match JB s ts with
 |some (a,b)=>decide (a<=128)&&decide (b<=64)
 |none=>false))
theorem YN{α A O al9:Type}(JC:O->al9){step:Nat->A->α->Sum A O}{fin:A->O}:∀(l:List α) (k:Nat) (a:A),kO (fun k a x=>(step k a x).map id JC) (fun a=>JC (fin a)) k a l=JC (kO step fin k a l)
 |[],_,_=>rfl
 |x::r,k,a=>by
  simp only[kO];cases step k a x with
  |inl a7=>exact YN JC r (k+1) a7
  |inr o=>rfl
theorem ama{ts:List Table}{k:Nat}{t:Table}(h:ts[k]? =some t)(n:bH):oF ts (k+1) n=(oF ts k n||t.Name==n):=by
 unfold oF;rw[zS,h];simp
theorem JD{a b:bH}:(a==b)=(b==a):=by
 cases h:a==b with
 |true=>have:a=b:=by simpa using h
        subst this;exact h.symm
 |false=>cases h':b==a with
  |false=>rfl
  |true=>have:b=a:=by simpa using h'
         subst this;rw[h]at h';cases h'
def JE:Option (Int × Int)->cP (Int × Int) Unit
 |some a=>.go (a.2,a.1)
 |none=>.ret ()
theorem amb{s:ak Int}{ts:ak Table}(hs:oD s.l=true)(hl:ts.l.length<=12)(hc:∀t∈ts.l,cm t.bP.l):
  c0 (Be s ts) (0,0,0,[])=some (JE (JB s.l ts.l)):=by
 have h:=YH (f:=Be s ts) (fun k (a:Int × Int) st=>∃m,st=((k:Int),a.2,a.1,m)/\(0<=a.1/\a.1<=216*k/\0<=a.2/\a.2<=216*k)/\∀n,(iH m n).getD false=oF ts.l k n)
  (fun k a x=>(rf s.l ts.l k a x).map id JE) (fun a=>JE (some a)) ts.l (fun k a t st hx U=>by
  obtain⟨m,rfl,⟨ai,a2,a3,a4⟩,hm⟩:=U;have aX:=(pY.1 hx).1;have eB:=hz hx;have hd:decide ((k:Int)<ts.len)=true:=by simp[gL];exact aX
  have eA:∀a b c d e:Bool,Bc (ak.mk [a,b,c,d,e])=some (a&&(b&&(c&&(d&&e)))):=fun a b c d e=>by
   rw[YL _ (by simp[cm])];simp
  have nG:∀n,(iH (mg m t.Name true) n).getD false=oF ts.l (k+1) n:=fun n=>by
   rw[Pr,ama hx,<-hm n];cases e:n==t.Name with
   |true=>rw[JD,e];simp
   |false=>rw[JD (a:=t.Name),e];simp
  have ab:Be s ts ((k:Int),a.2,a.1,m)=bif np s.l t&&!(oF ts.l k t.Name)then
    (bif kP t then(bif t.dG==a.1 then((tu s t.bP).bind fun nf=>some (.next ((bJ (k+1)),a.2,(bJ (a.1+nf)),(mg m t.Name true))))else some (.out (.ret ())))
      else(bif t.dG==a.2 then((tu s t.bP).bind fun w2=>some (.next ((bJ (k+1)),(bJ (a.2+w2)),a.1,(mg m t.Name true))))else some (.out (.ret ()))))
    else some (.out (.ret ())):=by
   simp only[Be,hd,cond_true,fP,hx,cg,YK,HV,al7 s t.bP (hc t eB),al8,eA,Jy,hm]
   have e:(tM t.Name&&((!(oF ts.l k t.Name))&&((decide (t.Kind>=0)&&decide (t.Kind<=5))&&(oE s.l.length t.bP.l&&Jx t))))=(np s.l t&&!(oF ts.l k t.Name)):=by
    unfold np;cases tM t.Name<;>cases oF ts.l k t.Name<;>simp
   rw[e];cases np s.l t&&!(oF ts.l k t.Name)with
   |false=>rfl
   |true=>
    cases kP t<;>simp only[cond_true,cond_false,bne]
    ·cases t.dG==a.2<;>rfl
    ·cases t.dG==a.1<;>rfl
  rw[ab];unfold rf;cases bx:np s.l t&&!(oF ts.l k t.Name)with
  |false=>rfl
  |true=>
   have rh:oE s.l.length t.bP.l=true:=by
    simp only[b8]at bx;have:=bx.1;unfold np at this;simp only[b8]at this;exact this.2.2.1
   have hw:=E7 hs rh;have cW:(k:Int)<=12:=by omega
   rw[Pt s t.bP hs rh];simp only[cond_true,cg];cases kP t with
   |true=>
    simp only[cond_true];cases t.dG==a.1 with
    |false=>rfl
    |true=>
     simp only[cond_true,Sum.map_inl,id];rw[iN (n:=(k:Int)+1) (by omega) (by omega),iN (n:=a.1+wid s.l t.bP.l) (by omega) (by omega)];exact⟨_,rfl,_,rfl,⟨by omega,by omega,a3,by omega⟩,nG⟩
   |false=>
    simp only[cond_false];cases t.dG==a.2 with
    |false=>rfl
    |true=>
     simp only[cond_true,Sum.map_inl,id];rw[iN (n:=(k:Int)+1) (by omega) (by omega),iN (n:=a.2+wid s.l t.bP.l) (by omega) (by omega)];exact⟨_,rfl,_,rfl,⟨ai,by omega,by omega,by omega⟩,nG⟩) (fun a st U=>by
  obtain⟨m,rfl,-⟩:=U;have hd:decide ((ts.l.length:Int)<ts.len)=false:=by simp[gL]
  simp only[Be,hd,cond_false];rfl) (a:=(0,0)) (s:=(0,0,0,[])) ⟨[],rfl,by simp,fun n=>rfl⟩
 rw[h,YN JE (fin:=some)];rfl
theorem Pu (s:ak Int)(ts:ak Table)(h1:cm s.l)(h2:cm ts.l)(hc:∀t∈ts.l,cm t.bP.l):Bg s ts=some (mu s.l ts.l):=by
 unfold Bg;rw[al6 s h1];simp only[cg];rw[YL _ (by simp[cm])];have af:decide (s.len<=4)=decide (s.l.length<=4):=decide_eq_decide.2 (by rw[gL];omega);have e2:decide (ts.len<=12)=decide (ts.l.length<=12):=decide_eq_decide.2 (by rw[gL];omega);simp only[cg,xG,List.all_nil,id,xH,af,e2];unfold mu;cases fJ:decide (s.l.length<=4)with
 |false=>rfl
 |true=>
  cases ht:decide (ts.l.length<=12)with
  |false=>rfl
  |true=>
   cases hs:oD s.l with
   |false=>rfl
   |true=>
    simp only[fI,cond_true];rw[amb hs (by simpa using ht) hc];simp only[cg];cases JB s.l ts.l with
    |none=>rfl
    |some a=>rfl
end
end Go.Abs.hk
namespace Go.Abs.hk
open Go Go.Abs
noncomputable section
theorem aD1 (s:ak Int)(h:cm s.l):aws s=some (oD s.l):=by
 unfold aws
 rw[xn s.l h (fun n=>decide (n<1)||decide (n>6)) (fun k x hx=>by
  have aX:=(pY.1 hx).1;have hd:decide ((k:Int)<s.len)=true:=by simp[gL];exact aX
  simp only[ayO,hd,cond_true,fP,hx,cg];cases decide (x<1)<;>cases decide (x>6)<;>rfl) (by
  have hd:decide ((s.l.length:Int)<s.len)=false:=by simp[gL]
  simp only[ayO,hd,cond_false])]
 simp only[cg,oD,sK]
 have e:(fun n:Int=>decide (n<1)||decide (n>6))=fun n=>!(decide (n>=1)&&decide (n<=6)):=by
  funext n;by_cases h1:n<1<;>by_cases h2:n>6<;>simp_all<;>omega
 rw[e];cases s.l.any _<;>rfl
def aw8 (s c:List Int):Int:=bif oD s&&oE s.length c then wid s c else 0
theorem ay6 (s c:ak Int)(h:cm s.l)(h2:cm c.l):avk s c=some (aw8 s.l c.l):=by
 unfold avk;rw[aD1 s h];have e:decide (c.len>3)=!decide (c.l.length<=3):=by rw[gL];by_cases q:c.l.length<=3<;>simp[q]<;>omega
 rw[e];unfold aw8 oE;cases hl:decide (c.l.length<=3)with
 |false=>simp
 |true=>
  cases hs:oD s.l with
  |false=>simp
  |true=>
   simp only[hZ,cond_false,cg,fI];have hlen:c.l.length<=3:=by simpa using hl
   have aJu:=YH (f:=awt s c) (fun k (a:Int) st=>st=(a,(k:Int))/\k<=3/\1<=a/\a<=6^k)
    (fun _ a x=>bif decide (x>=0)&&decide (x<(s.l.length:Int))then(.inl (a*hP s.l x):Sum Int (cP Int Unit))else .inr (.ret ())) (fun a=>.go a) c.l (fun k a x st hx U=>by
    obtain⟨rfl,cW,ao⟩:=U;have aX:=(pY.1 hx).1;have hd:decide ((k:Int)<c.len)=true:=by simp[gL];exact aX
    cases hin:decide (x>=0)&&decide (x<(s.l.length:Int))with
    |false=>
     simp only[cond_false];simp only[awt,hd,cond_true,fP,hx,cg]
     have:(bif decide (x<0)then some true else some (decide (x>=s.len)))=some true:=by
      by_cases q1:x<0
      ·simp[q1]
      ·have:x>=s.len:=by
        rw[gL];by_cases aS:x<(s.l.length:Int)
        ·exfalso;have h1:decide (x>=0)=true:=by simp;omega
         simp[h1,aS]at hin
        ·omega
       simp[q1,this]
     rw[this];rfl
    |true=>
     simp only[b8,decide_eq_true_eq]at hin;obtain⟨q1,aS⟩:=JA hs hin.1 hin.2
     have hb:1<=a*hP s.l x/\a*hP s.l x<=6^(k+1):=⟨Int.le_trans (by omega) (av9 ao.1 q1 (by omega) (by omega)),by
      rw[Int.pow_succ];exact av9 ao.2 aS (by omega) (by have:(0:Int)<=6^k:=Int.pow_nonneg (by omega);omega)⟩
     have YM:(6:Int)^(k+1)<=1296:=by
      have:k=0\/k=1\/k=2\/k=3:=by omega
      rcases this with rfl|rfl|rfl|rfl<;>decide
     simp only[cond_true];refine⟨(a*hP s.l x,((k+1:Nat):Int)),?_,rfl,by omega,hb⟩;have lk:decide (x<0)=false:=by simp;omega
     have Gv:decide (x>=s.len)=false:=by rw[gL];simp;omega
     simp only[awt,hd,cond_true,fP,hx,cg,lk,Gv,cond_false,Jz hin.1 hin.2];rw[iN (by omega) (by omega),iN (by omega) (by omega)];rfl) (fun a st U=>by
    obtain⟨rfl,-⟩:=U;have hd:decide ((c.l.length:Int)<c.len)=false:=by simp[gL]
    simp only[awt,hd,cond_false]) (a:=1) (s:=(1,0)) ⟨rfl,by omega,by simp⟩
   rw[aJu]
   have cr:∀(l:List Int) (k:Nat) (a:Int),kO (fun _ a x=>bif decide (x>=0)&&decide (x<(s.l.length:Int))then(.inl (a*hP s.l x):Sum Int (cP Int Unit))else .inr (.ret ())) (fun a=>.go a) k a l=
     bif l.all (fun x=>decide (x>=0)&&decide (x<(s.l.length:Int)))then .go (l.foldl (fun a x=>a*hP s.l x) a)else .ret ():=by
    intro l
    induction l with
    |nil=>intro k a;rfl
    |cons x r ih=>
     intro k a;simp only[kO,xG,qu];cases decide (x>=0)&&decide (x<(s.l.length:Int))with
     |true=>simp only[cond_true,fI];exact ih (k+1) _
     |false=>rfl
   rw[cr];simp only[cg];unfold wid;cases c.l.all (fun x=>decide (x>=0)&&decide (x<(s.l.length:Int)))<;>rfl
def ayh:Option (Int × Int)->cP (Int × Int) Unit
 |some a=>.go (a.1,a.2)
 |none=>.ret ()
theorem aJv (t:Table)(h0:0<=t.Kind)(h5:t.Kind<=5):Jx t=(!((decide (t.Range.kI>t.Range.kJ))||((decide (t.Range.kI<(-9999)))||(decide (t.Range.kJ>9999))))&&
  !(bif (t.Kind==0)then((t.Range.kI != 0)||(t.Range.kJ != 1))else(bif (t.Kind==2)then((t.Range.kI != 0)||(t.Range.kJ != 1))else((t.Kind==3)&&((t.Range.kI != 0)||(t.Range.kJ != 1)))))):=by
 have:t.Kind=0\/t.Kind=1\/t.Kind=2\/t.Kind=3\/t.Kind=4\/t.Kind=5:=by omega
 unfold Jx;generalize t.Range.kI=lo;generalize t.Range.kJ=hi
 have aJw:((lo==0)&&(hi==1))=(!((decide (lo>hi))||((decide (lo<(-9999)))||(decide (hi>9999))))&&!((lo != 0)||(hi != 1))):=by
  by_cases a:lo=0
  ·by_cases b:hi=1
   ·subst a;subst b;decide
   ·have q:(hi==1)=false:=by simpa using b
    simp[a,q,bne]
  ·have q:(lo==0)=false:=by simpa using a
   simp[q,bne]
 have aJx:(decide (lo<=hi)&&(decide (lo>=-9999)&&decide (hi<=9999)))=!((decide (lo>hi))||((decide (lo<(-9999)))||(decide (hi>9999)))):=by
  by_cases a:lo>hi<;>by_cases b:lo< -9999<;>by_cases d:hi>9999<;>simp_all<;>omega
 rcases this with h|h|h|h|h|h<;>rw[h]<;>simp only[show((0:Int)==0)=true from rfl,show((0:Int)==1)=false from rfl,show((0:Int)==4)=false from rfl,show((0:Int)==5)=false from rfl,
  show((1:Int)==0)=false from rfl,show((1:Int)==1)=true from rfl,show((1:Int)==2)=false from rfl,show((1:Int)==3)=false from rfl,
  show((2:Int)==0)=false from rfl,show((2:Int)==1)=false from rfl,show((2:Int)==2)=true from rfl,show((2:Int)==4)=false from rfl,show((2:Int)==5)=false from rfl,
  show((3:Int)==0)=false from rfl,show((3:Int)==1)=false from rfl,show((3:Int)==2)=false from rfl,show((3:Int)==3)=true from rfl,show((3:Int)==4)=false from rfl,show((3:Int)==5)=false from rfl,
  show((4:Int)==0)=false from rfl,show((4:Int)==1)=false from rfl,show((4:Int)==2)=false from rfl,show((4:Int)==3)=false from rfl,show((4:Int)==4)=true from rfl,
  show((5:Int)==0)=false from rfl,show((5:Int)==1)=false from rfl,show((5:Int)==2)=false from rfl,show((5:Int)==3)=false from rfl,show((5:Int)==4)=false from rfl,show((5:Int)==5)=true from rfl,
  ayw,Bool.or_true,Bool.true_or,cond_true,cond_false,fI,FT,ue,xH]<;>first|exact aJw|exact aJx
theorem aJy (ts:ak Table)(k:Nat)(t:Table)(cW:k<=ts.l.length)(h:cm ts.l):c0 (awC ts (k:Int) t) 0=some (bif oF ts.l k t.Name then .ret ()else .go ()):=by
 have hlen:(ts.l.take k).length=k:=by rw[sM];omega
 have aC:cm (ts.l.take k):=by unfold cm at h⊢; omega
 have:=xn (f:=awC ts (k:Int) t) (ts.l.take k) aC (fun u=>u.Name==t.Name) (fun j x hx=>by
  have aX:=(pY.1 hx).1;rw[hlen]at aX;rw[QL,if_pos aX]at hx;have hd:decide ((j:Int)<(k:Int))=true:=by simp;exact aX
  simp only[awC,hd,cond_true,fP,hx,cg];cases x.Name==t.Name<;>rfl) (by
  rw[hlen];simp[awC])
 exact this
theorem aJz{s:ak Int}{ts:ak Table}(hs:oD s.l=true)(h1:cm s.l)(hl:ts.l.length<=12)(hc:∀t∈ts.l,cm t.bP.l)(wN:∀t∈ts.l,ajb t.Name=some (tM t.Name)):
  c0 (avT s ts) (0,0,0)=some (ayh (JB s.l ts.l)):=by
 have h:=YH (f:=avT s ts) (fun k (a:Int × Int) st=>st=(a.1,a.2,(k:Int))/\(0<=a.1/\a.1<=216*k/\0<=a.2/\a.2<=216*k))
  (fun k a x=>(rf s.l ts.l k a x).map id ayh) (fun a=>ayh (some a)) ts.l (fun k a t st hx U=>by
  obtain⟨rfl,⟨ai,a2,a3,a4⟩⟩:=U;have aX:=(pY.1 hx).1;have eB:=hz hx;have hd:decide ((k:Int)<ts.len)=true:=by simp[gL];exact aX
  have ab:avT s ts (a.1,a.2,(k:Int))=bif np s.l t&&!(oF ts.l k t.Name)then
    (bif kP t then(bif t.dG==a.1 then some (.next ((bJ (a.1+wid s.l t.bP.l)),a.2,(bJ (k+1))))else some (.out (.ret ())))
      else(bif t.dG==a.2 then some (.next (a.1,(bJ (a.2+wid s.l t.bP.l)),(bJ (k+1))))else some (.out (.ret ()))))
    else some (.out (.ret ())):=by
   simp only[avT,hd,cond_true,fP,hx,cg];rw[aJy ts k t (by omega) (by unfold cm;omega)];simp only[cg];cases aNe:oF ts.l k t.Name with
   |true=>simp
   |false=>
    simp only[cond_false,ay6 s t.bP h1 (hc t eB),wN t eB,cg,ue,xH];unfold np;cases hn:tM t.Name with
    |false=>rfl
    |true=>
     simp only[cond_true,fI];by_cases k0:t.Kind<0
     ·have:decide (t.Kind>=0)=false:=by simp;omega
      simp[k0,this]
     ·by_cases yQ:t.Kind>5
      ·have:decide (t.Kind<=5)=false:=by simp;omega
       simp[k0,yQ,this]
      ·have gU:decide (t.Kind<0)=false:=by simpa using k0
       have q1:decide (t.Kind>5)=false:=by simpa using yQ
       have aS:decide (t.Kind>=0)=true:=by simp;omega
       have b1:decide (t.Kind<=5)=true:=by simp;omega
       simp only[gU,q1,aS,b1,cond_false,fI];unfold aw8;rw[hs];cases rh:oE s.l.length t.bP.l with
       |false=>rfl
       |true=>
        have hw:=E7 hs rh;have bf:(wid s.l t.bP.l==0)=false:=by simp;omega
        simp only[fI,cond_true,bf,cg,cond_false];rw[aJv t (by omega) (by omega)];cases((decide (t.Range.kI>t.Range.kJ))||((decide (t.Range.kI<(-9999)))||(decide (t.Range.kJ>9999))))with
        |true=>rfl
        |false=>
         cases(bif (t.Kind==0)then((t.Range.kI != 0)||(t.Range.kJ != 1))else(bif (t.Kind==2)then((t.Range.kI != 0)||(t.Range.kJ != 1))else((t.Kind==3)&&((t.Range.kI != 0)||(t.Range.kJ != 1)))))with
         |true=>rfl
         |false=>
          simp only[cond_false,ue,fI,cond_true,avx,cg];unfold kP;cases(t.Kind==0||t.Kind==1)<;>simp only[cond_true,cond_false,bne]
          ·cases t.dG==a.2<;>rfl
          ·cases t.dG==a.1<;>rfl
  rw[ab];unfold rf;cases bx:np s.l t&&!(oF ts.l k t.Name)with
  |false=>rfl
  |true=>
   have rh:oE s.l.length t.bP.l=true:=by
    simp only[b8]at bx;have:=bx.1;unfold np at this;simp only[b8]at this;exact this.2.2.1
   have hw:=E7 hs rh;have cW:(k:Int)<=12:=by omega
   simp only[cond_true];cases kP t with
   |true=>
    simp only[cond_true];cases t.dG==a.1 with
    |false=>rfl
    |true=>
     simp only[cond_true,Sum.map_inl,id];rw[iN (n:=(k:Int)+1) (by omega) (by omega),iN (n:=a.1+wid s.l t.bP.l) (by omega) (by omega)];exact⟨_,rfl,rfl,⟨by omega,by omega,a3,by omega⟩⟩
   |false=>
    simp only[cond_false];cases t.dG==a.2 with
    |false=>rfl
    |true=>
     simp only[cond_true,Sum.map_inl,id];rw[iN (n:=(k:Int)+1) (by omega) (by omega),iN (n:=a.2+wid s.l t.bP.l) (by omega) (by omega)];exact⟨_,rfl,rfl,⟨ai,by omega,by omega,by omega⟩⟩) (fun a st U=>by
  obtain⟨rfl,-⟩:=U;have hd:decide ((ts.l.length:Int)<ts.len)=false:=by simp[gL]
  simp only[avT,hd,cond_false];rfl) (a:=(0,0)) (s:=(0,0,0)) ⟨rfl,by simp⟩
 rw[h,YN ayh (fin:=some)];rfl
theorem ay7 (s:ak Int)(ts:ak Table)(h1:cm s.l)(h2:cm ts.l)(hc:∀t∈ts.l,cm t.bP.l)(wN:∀t∈ts.l,ajb t.Name=some (tM t.Name)):avU s ts=some (mu s.l ts.l):=by
 unfold avU;rw[aD1 s h1];have af:decide (s.len>4)=!decide (s.l.length<=4):=by rw[gL];by_cases q:s.l.length<=4<;>simp[q]<;>omega
 have e2:decide (ts.len>12)=!decide (ts.l.length<=12):=by rw[gL];by_cases q:ts.l.length<=12<;>simp[q]<;>omega
 rw[af,e2];unfold mu;cases fJ:decide (s.l.length<=4)with
 |false=>rfl
 |true=>
  cases hs:oD s.l with
  |false=>simp
  |true=>
   cases ht:decide (ts.l.length<=12)with
   |false=>rfl
   |true=>
    simp only[hZ,cond_false,cg,cond_true,fI];rw[aJz hs h1 (by simpa using ht) hc wN];simp only[cg];cases JB s.l ts.l with
    |none=>rfl
    |some a=>rfl
end
end Go.Abs.hk
namespace Go.Abs.hk
open Go Go.Abs
noncomputable section
def hQ (s:List Int)(ts:List Table)(b:Bool):List Range:=ts.flatMap fun t=>bif kP t==b then List.replicate (wid s t.bP.l).toNat t.Range else[]
theorem YO{s:List Int}{ts:List Table}:∀(l:List Table) (k:Nat) (a p:Int × Int),kO (rf s ts) some k a l=some p->∀t∈l,np s t=true
 |[],_,_,_,_,t,h=>by cases h
 |x::r,k,a,p,h,t,ht=>by
  simp only[kO]at h;cases cd:rf s ts k a x with
  |inr o=>
   rw[cd]at h
   have ho:o=none:=by
    unfold rf at cd;cases bc:np s x&&!(oF ts k x.Name)<;>cases hb:kP x<;>cases hc:x.dG==a.1<;>cases hd:x.dG==a.2<;>rw[bc]at cd<;>simp only[hb,hc,hd,cond_true,cond_false]at cd<;>first|(cases cd;rfl)|cases cd
   rw[ho]at h;cases h
  |inl a7=>
   rw[cd]at h;rcases dA.1 ht with rfl|ht
   ·unfold rf at cd
    cases bx:np s t&&!(oF ts k t.Name)with
    |false=>rw[bx]at cd;cases cd
    |true=>simp only[b8]at bx;exact bx.1
   ·exact YO r (k+1) a7 p h t ht
theorem BM{s:List Int}{ts:List Table}(h:mu s ts=true):s.length<=4/\ts.length<=12/\oD s=true/\∀t∈ts,np s t=true:=by
 unfold mu at h;simp only[b8,decide_eq_true_eq]at h;obtain⟨h1,h2,ar,aQ⟩:=h;refine⟨h1,h2,ar,?_⟩;split at aQ
 ·rename_i a b hr
  exact YO ts 0 (0,0) _ hr
 ·cases aQ
theorem JF{s:List Int}{t:Table}(h:np s t=true):oE s.length t.bP.l=true:=by
 unfold np at h;simp only[b8]at h;exact h.2.2.1
theorem YP{α:Type}{BN:Nat}{x y:ak α}(hb:BN+1<=1000)(h:x.l.length+y.l.length<=1000000000):∃z,lG BN x y=some z/\z.l=x.l++y.l:=by
 unfold lG;split
 ·rename_i e;exact⟨x,rfl,by rw[e];simp⟩
 ·have:(x.l.length+y.l.length)*(BN+1)<=2^40:=by
   have:(x.l.length+y.l.length)*(BN+1)<=1000000000*1000:=axg h hb;omega
  rw[if_pos this];exact⟨_,rfl,rfl⟩
theorem amc (r:Range)(n:Int)(h:1<=n/\n<=1000):∃z,DJ (ak.mk [r]) n=some z/\z.l=List.replicate n.toNat r:=by
 refine⟨_,if_pos ⟨rfl,h⟩,?_⟩;show(List.replicate n.toNat [r]).flatten=_
 induction n.toNat with
 |zero=>rfl
 |succ n ih=>rw[Ca,FN,ih,Ca];rfl
theorem Pv{s:List Int}(hs:oD s=true)(b:Bool):∀ts:List Table,(∀t∈ts,np s t=true)->(hQ s ts b).length<=216*ts.length
 |[],_=>by simp[hQ]
 |t::ts,h=>by
  have ih:=Pv hs b ts (fun u hu=>h u (by simp[hu]));have hw:=E7 hs (JF (h t (by simp)));unfold hQ at ih⊢;rw[kn,gM,ev]
  have:(bif kP t==b then List.replicate (wid s t.bP.l).toNat t.Range else[]).length<=216:=by
   cases kP t==b<;>simp;omega
  omega
theorem YQ (s:List Int)(b:Bool){ts:List Table}{k:Nat}{t:Table}(h:ts[k]? =some t):hQ s (ts.take (k+1)) b=hQ s (ts.take k) b++(bif kP t==b then List.replicate (wid s t.bP.l).toNat t.Range else[]):=by
 unfold hQ;rw[zS,h];simp
theorem amd{s:List Int}(hs:oD s=true)(b:Bool){ts:List Table}(h:∀t∈ts,np s t=true)(hl:ts.length<=12)(k:Nat):(hQ s (ts.take k) b).length<=2592:=by
 have:=Pv hs b (ts.take k) (fun t ht=>h t (zP ht));have:(ts.take k).length<=12:=by rw[sM];omega
 omega
theorem YR (s:ak Int)(ts:ak Table)(b:Bool)(h1:cm s.l)(h2:cm ts.l)(hc:∀t∈ts.l,cm t.bP.l):
  ∃x,D0 s ts b=some x/\x.l=bif mu s.l ts.l then hQ s.l ts.l b else[]:=by
 unfold D0;rw[Pu s ts h1 h2 hc];simp only[cg];cases ad:mu s.l ts.l with
 |false=>exact⟨.nil,rfl,rfl⟩
 |true=>
  obtain⟨q1,aS,b1,cL⟩:=BM ad
  obtain⟨o,af,e2⟩:=YI (f:=DZ s ts b) (fun k st=>∃a:ak Range,st=((k:Int),a)/\a.l=hQ s.l (ts.l.take k) b) (fun o=>o.l=hQ s.l ts.l b) ts.l (fun k t st hx U=>by
   obtain⟨a,rfl,ao⟩:=U;have aX:=(pY.1 hx).1;have eB:=hz hx;have hd:decide ((k:Int)<ts.len)=true:=by simp[gL];exact aX
   have rh:=JF (cL t eB);have hw:=E7 b1 rh;have lq:=amd b1 b cL aS k;cases hb:kP t==b with
   |false=>
    refine⟨(((k+1:Nat):Int),a),?_,a,rfl,?_⟩
    ·simp only[DZ,hd,cond_true,fP,hx,cg,Jy,hb,cond_false]
     rw[iN (by omega) (by omega)];rfl
    ·rw[YQ s.l b hx,hb,ao];simp
   |true=>
    obtain⟨z,Ar,el⟩:=amc t.Range (wid s.l t.bP.l) (by omega);obtain⟨y,rM,EO⟩:=YP (BN:=16) (x:=a) (y:=z) (by omega) (by rw[ao,el,xE];omega);refine⟨(((k+1:Nat):Int),y),?_,y,rfl,?_⟩
    ·simp only[DZ,hd,cond_true,fP,hx,cg,Jy,hb,Pt s t.bP b1 rh,Ar,rM]
     rw[iN (by omega) (by omega)];rfl
    ·rw[YQ s.l b hx,hb,EO,ao,el];rfl) (fun st U=>by
   obtain⟨a,rfl,ao⟩:=U;have hd:decide ((ts.l.length:Int)<ts.len)=false:=by simp[gL]
   refine⟨a,by simp only[DZ,hd,cond_false],?_⟩;rw[ao,Kq]) (s:=(0,.nil)) ⟨.nil,rfl,rfl⟩
  exact⟨o,by simp only[cond_true];rw[af];rfl,e2⟩
theorem aJA{s:ak Int}{ts:ak Table}{b:Bool}(h1:cm s.l){k:Nat}{t:Table}(hx:ts.l[k]? =some t)(Zw:cm t.bP.l)(b1:oD s.l=true)(rh:oE s.l.length t.bP.l=true){a:ak Range}(ao:a.l.length<=2592):
  ∃o,c0 (avy s ts b (k:Int)) (0,a)=some o/\o.l=a.l++(bif kP t==b then List.replicate (wid s.l t.bP.l).toNat t.Range else[]):=by
 have hw:=E7 b1 rh;have ayi:avk s t.bP=some (wid s.l t.bP.l):=by rw[ay6 s t.bP h1 Zw];unfold aw8;rw[b1,rh];rfl
 have cd:avx t.Kind=some (kP t):=rfl;cases hb:kP t==b with
 |false=>
  refine⟨a,?_,by simp⟩;rw[k4]
  have:avy s ts b (k:Int) (0,a)=some (.out a):=by
   simp only[avy,fP,hx,cg,cd,hb,cond_false]
  rw[this]
 |true=>
  obtain⟨o,af,e2⟩:=YI (f:=avy s ts b (k:Int)) (fun j st=>∃x:ak Range,st=((j:Int),x)/\x.l=a.l++List.replicate j t.Range) (fun o=>o.l=a.l++List.replicate (wid s.l t.bP.l).toNat t.Range) (List.replicate (wid s.l t.bP.l).toNat ()) (fun j u st hj U=>by
   obtain⟨x,rfl,jH⟩:=U;have aX:=(pY.1 hj).1;rw[xE]at aX;have hd:decide ((j:Int)<wid s.l t.bP.l)=true:=by simp;omega
   obtain⟨y,rM,EO⟩:=YP (BN:=16) (x:=x) (y:=ak.mk [t.Range]) (by omega) (by rw[jH];simp only[gM,xE];show _+_+1<=_;omega);refine⟨(((j+1:Nat):Int),y),?_,y,rfl,?_⟩
   ·simp only[avy,fP,hx,cg,cd,hb,cond_true,ayi,hd,rM]
    rw[iN (by omega) (by omega)];rfl
   ·rw[EO,jH,mS]
    congr 1;rw[azo];rfl) (fun st U=>by
   obtain⟨x,rfl,jH⟩:=U;rw[xE]at jH⊢;have hd:decide ((((wid s.l t.bP.l).toNat:Nat):Int)<wid s.l t.bP.l)=false:=by simp;omega
   exact⟨x,by simp only[avy,fP,hx,cg,cd,hb,cond_true,ayi,hd,cond_false],jH⟩) (s:=(0,a)) ⟨a,rfl,by simp⟩
  exact⟨o,af,by simpa using e2⟩
theorem aD2 (s:ak Int)(ts:ak Table)(b:Bool)(h1:cm s.l)(h2:cm ts.l)(hc:∀t∈ts.l,cm t.bP.l)(wN:∀t∈ts.l,ajb t.Name=some (tM t.Name)):
  ∃x,axH s ts b=some x/\x.l=bif mu s.l ts.l then hQ s.l ts.l b else[]:=by
 unfold axH;rw[ay7 s ts h1 h2 hc wN];simp only[cg];cases ad:mu s.l ts.l with
 |false=>exact⟨.emp,rfl,rfl⟩
 |true=>
  obtain⟨q1,aS,b1,cL⟩:=BM ad
  obtain⟨o,af,e2⟩:=YI (f:=axG s ts b) (fun k st=>∃a:ak Range,st=((k:Int),a)/\a.l=hQ s.l (ts.l.take k) b) (fun o=>o.l=hQ s.l ts.l b) ts.l (fun k t st hx U=>by
   obtain⟨a,rfl,ao⟩:=U;have aX:=(pY.1 hx).1;have eB:=hz hx;have hd:decide ((k:Int)<ts.len)=true:=by simp[gL];exact aX
   have rh:=JF (cL t eB);have lq:=amd b1 b cL aS k;obtain⟨y,rM,EO⟩:=aJA (b:=b) h1 hx (hc t eB) b1 rh (a:=a) (by rw[ao];exact lq);refine⟨(((k+1:Nat):Int),y),?_,y,rfl,?_⟩
   ·simp only[axG,hd,cond_true]
    rw[rM];simp only[cg];rw[iN (by omega) (by omega)];rfl
   ·rw[YQ s.l b hx,EO,ao]) (fun st U=>by
   obtain⟨a,rfl,ao⟩:=U;have hd:decide ((ts.l.length:Int)<ts.len)=false:=by simp[gL]
   refine⟨a,by simp only[axG,hd,cond_false],?_⟩;rw[ao,Kq]) (s:=(0,.emp)) ⟨.emp,rfl,rfl⟩
  exact⟨o,by simp only[cond_true];rw[af];rfl,e2⟩
end
end Go.Abs.hk
