/- Texts of this claim, joined and written short by a program. -/
import Derived.Test.YtgkcikhegodchaaGreatDoorS21
import Derived.Test.YtgkcikhegodchaaGreatDoorS00
set_option linter.unusedVariables false
set_option linter.unusedSimpArgs false
set_option linter.unusedSectionVars false
set_option maxHeartbeats 2000000
namespace Go.Abs.bs
open Go Go.Abs
noncomputable section
def ant (ah:(ad gi))(aJ:(gi->Option Bool)):(Int)->Option (cU (Int) (cz (Unit) (Int))):=fun i7=>(bif (decide (i7<ah.len))then((bj ah.l i7).bind fun hh=>((aJ hh).bind fun fS=>(bif fS then some (.out (.ret i7))else some (.next (aM (i7+1))))))else some (.out (.go ())))
def aaC (ah:(ad gi))(aJ:(gi->Option Bool)):Option (Int):=
 ((bZ (ant ah aJ) 0:Option (cz (Unit) (Int))).bind fun gO=>match gO with| .go _=>some (-1)| .ret wv=>some wv)
def Fl (ah:(ad gi))(aJ:(gi->Option Bool)):Option (Bool):=
 ((aaC ah aJ).bind fun b0=>some (decide (b0>=0)))
def zV (ah:Int):Option (Bool):=
 some ((decide (ah>=97))&&(decide (ah<=122)))
def zW (ah:Int):Option (Bool):=
 some ((decide (ah>=48))&&(decide (ah<=57)))
def PC (ah:cf)(aJ:cf):Option (Bool):=
 (((bif (decide ((ah.length:Int)>=(aJ.length:Int)))then((ql ah 0 (aJ.length:Int)).bind fun gA=>some (gA==aJ))else some false):Option (Bool)).bind fun h3=>some h3)
def JE (ah:cf)(aJ:cf):Option (Bool):=
 ((PC ah aJ).bind fun b0=>some b0)
def Fm (ah:cf):(Int)->Option (cU (Int) (cz (Unit) (Unit))):=fun i7=>(bif (decide (i7<(ad.mk [[61,61],[33,61],[60,61],[62,61],[46,46]]).len))then((bj (ad.mk [[61,61],[33,61],[60,61],[62,61],[46,46]]).l i7).bind fun hh=>((JE ah hh).bind fun fS=>(bif fS then some (.out (.ret ()))else some (.next (aM (i7+1))))))else some (.out (.go ())))
def Cy (ah:cf):Option (Int):=
 ((bZ (Fm ah) 0:Option (cz (Unit) (Unit))).bind fun gO=>match gO with| .go _=>(((bif (ah != [])then((bj ah 0).bind fun PD=>((strings_IndexByte [60,62,61,43,45,42,40,41,123,125,44,58,59] (PD.toNat:Int)).bind fun j5=>some (decide (j5>=0))))else some false):Option (Bool)).bind fun wx=>(bif wx then some 1 else some 0))| .ret _=>some 2)
def Fo (ah:cf):Option (Bool):=
 ((((bj ah 0).bind fun dy=>((zV (dy.toNat:Int)).bind fun gA=>(bif gA then some true else((bj ah 0).bind fun fZ=>((zW (fZ.toNat:Int)).bind fun pB=>(bif pB then some true else((Cy ah).bind fun oP=>some (decide (oP>0))))))))):Option (Bool)).bind fun h3=>some h3)
def Fp (ah:cf)(aJ:(Int->Option Bool)):(Int)->Option (cU (Int) (Int)):=fun i7=>(((bif (decide (i7<(ah.length:Int)))then((bj ah i7).bind fun fS=>((aJ (fS.toNat:Int)).bind fun sj=>some sj))else some false):Option (Bool)).bind fun Fq=>(bif Fq then some (.next (aM (i7+1)))else some (.out i7)))
def Cz (ah:cf)(aJ:(Int->Option Bool)):Option (Int):=
 ((bZ (Fp ah aJ) 0:Option (Int)).bind fun gO=>some gO)
def CA (ah:Int):Option (Bool):=
 some ((ah==32)||((ah==9)||((ah==10)||(ah==13))))
def CB (ah:Int):Option (Bool):=
 some (ah != 10)
def CC (ah:cf):(Int)->Option (cU (Int) (cz (Int) (Int))):=fun i7=>(bif (decide (i7<(ah.length:Int)))then((bj ah i7).bind fun hh=>((CA (hh.toNat:Int)).bind fun fS=>(bif fS then some (.next (aM (i7+1)))else((bj ah i7).bind fun ob=>(bif ((ob.toNat:Int)==35)then((ql ah i7 (ah.length:Int)).bind fun eu=>((Cz eu CB).bind fun uz=>some (.next (aM (i7+uz)))))else some (.out (.ret i7)))))))else some (.out (.go i7)))
def Fs (ah:cf):Option (Int):=
 ((bZ (CC ah) 0:Option (cz (Int) (Int))).bind fun gO=>match gO with| .go anu=>some anu| .ret anv=>some anv)
def Ft (ah:Int):Option (Bool):=
 ((((zV ah).bind fun dy=>(bif dy then some true else((zW ah).bind fun lh=>(bif lh then some true else some (ah==95))))):Option (Bool)).bind fun h3=>some h3)
def CD (ah:Table):Option (Bool):=
 some ((ah.Kind==0)||(ah.Kind==1))
def JF (ah:(ad Int))(aJ:(ad Int)):(Int × Int)->Option (cU (Int × Int) (Int)):=fun⟨i8,i9⟩=>(bif (decide (i9<aJ.len))then((bj aJ.l i9).bind fun sj=>((bj ah.l sj).bind fun ob=>some (.next ((aM (i8*ob)),(aM (i9+1))))))else some (.out i8))
def uA (ah:(ad Int))(aJ:(ad Int)):Option (Int):=
 ((bZ (JF ah aJ) (1,0):Option (Int)).bind fun wy=>some wy)
def anw (ah:(ad Bool))(aJ:Bool):(Int)->Option (cU (Int) (cz (Unit) (Int))):=fun i7=>(bif (decide (i7<ah.len))then((bj ah.l i7).bind fun hh=>(bif (aJ==hh)then some (.out (.ret i7))else some (.next (aM (i7+1)))))else some (.out (.go ())))
def aaD (ah:(ad Bool))(aJ:Bool):Option (Int):=
 ((bZ (anw ah aJ) 0:Option (cz (Unit) (Int))).bind fun gO=>match gO with| .go _=>some (-1)| .ret PE=>some PE)
def PF (ah:(ad Bool))(aJ:Bool):Option (Bool):=
 ((aaD ah aJ).bind fun b0=>some (decide (b0>=0)))
def CE (ah:(ad Bool)):Option (Bool):=
 ((PF ah false).bind fun b0=>some (!b0))
def anx (ah:(ad Int))(aJ:(Int->Option Bool)):(Int)->Option (cU (Int) (cz (Unit) (Int))):=fun i7=>(bif (decide (i7<ah.len))then((bj ah.l i7).bind fun hh=>((aJ hh).bind fun fS=>(bif fS then some (.out (.ret i7))else some (.next (aM (i7+1))))))else some (.out (.go ())))
def aaE (ah:(ad Int))(aJ:(Int->Option Bool)):Option (Int):=
 ((bZ (anx ah aJ) 0:Option (cz (Unit) (Int))).bind fun gO=>match gO with| .go _=>some (-1)| .ret wv=>some wv)
def Fu (ah:(ad Int))(aJ:(Int->Option Bool)):Option (Bool):=
 ((aaE ah aJ).bind fun b0=>some (decide (b0>=0)))
def JG (ah:Int)(aJ:Int)(iH:Int):Option (Bool):=
 some ((decide (ah>=aJ))&&(decide (ah<=iH)))
def PG (ah:Int):Option (Bool):=
 ((JG ah 1 6).bind fun b0=>some (!b0))
def JH (ah:(ad Int)):Option (Bool):=
 ((Fu ah PG).bind fun b0=>some (!b0))
def zX (ah:cf):Option (Bool):=
 (((bif (decide ((ah.length:Int)<=16))then((JC ah).bind fun gA=>some (gA==1))else some false):Option (Bool)).bind fun h3=>some h3)
def PH (uB:(ad Int))(ah:Int):Option (Bool):=
 some ((decide (ah<0))||(decide (ah>=uB.len)))
def JI (ah:(ad Int))(aJ:(ad Int)):Option (Bool):=
 (((bif (decide (aJ.len<=3))then((Fu aJ (fun z0=>PH ah z0)).bind fun uC=>some (!uC))else some false):Option (Bool)).bind fun q5=>some q5)
def JJ (ah:Table):Option (Bool):=
 (((((bif (ah.Kind==1)then some (ah.Kind==1)else(bif (ah.Kind==4)then some (ah.Kind==4)else some (ah.Kind==5))):Option (Bool)).bind fun gO=>(bif gO then some (.ret ((decide (ah.Range.lb<=ah.Range.lf))&&((decide (ah.Range.lb>=(-9999)))&&(decide (ah.Range.lf<=9999)))))else some (.go ()))):Option (cz (Unit) (Bool))).bind fun q5=>match q5 with| .go _=>some ((ah.Range.lb==0)&&((ah.Range.lf==1)&&true))| .ret anz=>some anz)
def CF (ah:(ad Int))(aJ:(ad Table)):(Int × Int × Int × (List (cf × Bool)))->Option (cU (Int × Int × Int × (List (cf × Bool))) (cz (Int × Int) (Unit))):=fun⟨i29,i30,i31,i32⟩=>(bif (decide (i29<aJ.len))then((bj aJ.l i29).bind fun qo=>((zX qo.Name).bind fun JK=>((JG qo.Kind 0 5).bind fun anA=>((JI ah qo.bR).bind fun anB=>((JJ qo).bind fun zY=>((CE (ad.mk [JK,(!((ie i32 qo.Name).getD false)),anA,anB,zY])).bind fun CG=>(bif CG then((CD qo).bind fun xT=>(bif xT then(bif (qo.dc != i31)then some (.out (.ret ()))else((uA ah qo.bR).bind fun sk=>some (.next ((aM (i29+1)),i30,(aM (i31+sk)),(lF i32 qo.Name true)))))else(bif (qo.dc != i30)then some (.out (.ret ()))else((uA ah qo.bR).bind fun CH=>some (.next ((aM (i29+1)),(aM (i30+CH)),i31,(lF i32 qo.Name true)))))))else some (.out (.ret ())))))))))else some (.out (.go (i30,i31))))
def zZ (ah:(ad Int))(aJ:(ad Table)):Option (Bool):=
 ((JH ah).bind fun b0=>((CE (ad.mk [(decide (ah.len<=4)),(decide (aJ.len<=12)),b0])).bind fun dy=>(bif dy then((bZ (CF ah aJ) (0,0,0,[]):Option (cz (Int × Int) (Unit))).bind fun anC=>match anC with| .go (⟨anD,anE⟩)=>some ((decide (anE<=128))&&(decide (anD<=64)))| .ret _=>some false)else some false)))
def Fv (ah:(ad cf)):(Int × (List (cf × Bool)))->Option (cU (Int × (List (cf × Bool))) (cz (Unit) (Unit))):=fun⟨i12,i13⟩=>(bif (decide (i12<ah.len))then((bj ah.l i12).bind fun uz=>((((zX uz).bind fun uD=>(bif uD then some ((ie i13 uz).getD false)else some true)):Option (Bool)).bind fun PI=>(bif PI then some (.out (.ret ()))else some (.next ((aM (i12+1)),(lF i13 uz true))))))else some (.out (.go ())))
def Fw (ah:(ad cf)):Option (Bool):=
 ((bZ (Fv ah) (0,[]):Option (cz (Unit) (Unit))).bind fun wz=>match wz with| .go _=>some true| .ret _=>some false)
def Fx (ah:(ad Int))(aJ:(ad Table))(iH:Bool):(Int × (ad Range))->Option (cU (Int × (ad Range)) ((ad Range))):=fun⟨i13,i14⟩=>(bif (decide (i13<aJ.len))then((bj aJ.l i13).bind fun l4=>((CD l4).bind fun pC=>(bif (pC==iH)then((uA ah l4.bR).bind fun Fy=>((Fj (ad.mk [l4.Range]) Fy).bind fun wA=>((gn 16 i14 wA).bind fun anF=>some (.next ((aM (i13+1)),anF)))))else some (.next ((aM (i13+1)),i14)))))else some (.out i14))
def CI (ah:(ad Int))(aJ:(ad Table))(iH:Bool):Option ((ad Range)):=
 ((zZ ah aJ).bind fun b0=>(bif b0 then((bZ (Fx ah aJ iH) (0,.nil):Option ((ad Range))).bind fun Fq=>some Fq)else some ad.nil))
def nn (ah:Int)(aJ:Int):Option (Bool):=
 some ((decide (ah>=0))&&(decide (ah<aJ)))
def z1 (ah:Int)(aJ:Int):Option (Bool):=
 some ((decide (ah>=(aM (0-aJ))))&&(decide (ah<=aJ)))
def Fz (ah:dR)(aJ:Row):(Int × Int)->Option (cU (Int × Int) (cz (Unit) (Unit))):=fun⟨i16,i17⟩=>(bif (decide (i17<aJ.cC.len))then((bj aJ.cC.l i17).bind fun l4=>(((bif (decide (l4.Cell<=i16))then some true else(bif (decide (l4.Cell>=ah.strict.len))then some true else(bif (l4.dA==0)then some true else((z1 l4.dA 1000).bind fun wB=>some (!wB))))):Option (Bool)).bind fun PJ=>(bif PJ then some (.out (.ret ()))else some (.next (l4.Cell,(aM (i17+1)))))))else some (.out (.go ())))
def FA (ah:dR)(aJ:Row):Option (Bool):=
 ((bZ (Fz ah aJ) ((-1),0):Option (cz (Unit) (Unit))).bind fun tt=>match tt with| .go _=>((z1 aJ.ni 1000000000).bind fun anG=>some anG)| .ret _=>some false)
def anH (ah:(ad Table))(aJ:(Table->Option Bool)):(Int)->Option (cU (Int) (cz (Unit) (Int))):=fun i7=>(bif (decide (i7<ah.len))then((bj ah.l i7).bind fun hh=>((aJ hh).bind fun fS=>(bif fS then some (.out (.ret i7))else some (.next (aM (i7+1))))))else some (.out (.go ())))
def aaF (ah:(ad Table))(aJ:(Table->Option Bool)):Option (Int):=
 ((bZ (anH ah aJ) 0:Option (cz (Unit) (Int))).bind fun gO=>match gO with| .go _=>some (-1)| .ret wv=>some wv)
def PK (ah:(ad Table))(aJ:(Table->Option Bool)):Option (Bool):=
 ((aaF ah aJ).bind fun b0=>some (decide (b0>=0)))
def JL (uB:Constraint)(JM:dR)(ah:Table):Option (Bool):=
 (((bif (ah.Kind==0)then(bif (ah.bR.len==2)then((bj ah.bR.l 0).bind fun oP=>((bj ah.bR.l 1).bind fun sn=>(bif (oP==sn)then(bif (ah.dc==uB.dc)then((bj ah.bR.l 0).bind fun z6=>((bj JM.Model.bE.l z6).bind fun hh=>some (hh==uB.fL)))else some false)else some false)))else some false)else some false):Option (Bool)).bind fun q5=>some q5)
def JN (ah:dR)(aJ:Constraint):Option (Bool):=
 (((bif (aJ.Row.cC.len==0)then(bif (aJ.Row.ni==0)then((PK ah.Model.Tables (fun z0=>JL aJ ah z0)).bind fun z6=>some z6)else some false)else some false):Option (Bool)).bind fun FB=>some FB)
def JO (ah:(ad Term))(aJ:(ad Term)):(Int)->Option (cU (Int) (cz (Unit) (Unit))):=fun i8=>(bif (decide (i8<ah.len))then((bj ah.l i8).bind fun fS=>((bj aJ.l i8).bind fun sj=>(bif ((fS.Cell==sj.Cell)&&((fS.dA==sj.dA)&&true))then some (.next (aM (i8+1)))else some (.out (.ret ())))))else some (.out (.go ())))
def CJ (ah:(ad Term))(aJ:(ad Term)):Option (Bool):=
 (bif (ah.len != aJ.len)then some false else((bZ (JO ah aJ) 0:Option (cz (Unit) (Unit))).bind fun wy=>match wy with| .go _=>some true| .ret _=>some false))
def JP (ah:Row)(aJ:Int)(iH:Int)(lj:Int):Option (Bool):=
 ((((CJ ah.cC (ad.mk [(Term.mk aJ iH)])).bind fun pB=>(bif pB then some (ah.ni==lj)else some false)):Option (Bool)).bind fun q5=>some q5)
def FC (ah:dR):(Int)->Option (cU (Int) (cz (Unit) (Unit))):=fun i16=>(bif (decide (i16<ah.Model.dO.len))then((bj ah.Model.dO.l i16).bind fun mG=>((((nn mG.zS ah.Model.fR.len).bind fun pC=>(bif pC then(bif (mG.Kind==0)then(((bif (mG.dc != 0)then some true else(bif (mG.fL != 0)then some true else((FA ah mG.Row).bind fun h6=>some (!h6)))):Option (Bool)).bind fun anI=>(bif anI then some (.ret ())else some (.go ())))else(((bif (mG.Kind != 1)then some true else((JN ah mG).bind fun JK=>some (!JK))):Option (Bool)).bind fun anJ=>(bif anJ then some (.ret ())else some (.go ()))))else some (.ret ()))):Option (cz (Unit) (Unit))).bind fun PL=>match PL with| .go _=>(bif (decide ((aM (i16.tdiv 2))<ah.strict.len))then((bj ah.strict.l (aM (i16.tdiv 2))).bind fun CH=>(((bif ((i16.tmod 2)==0)then some ((-1),(aM (0-CH.lb)))else some (1,CH.lf)):Option (Int × Int)).bind fun PM=>match PM with|⟨anK,anL⟩=>(((bif (mG.Kind != 0)then some true else((JP mG.Row (aM (i16.tdiv 2)) anK anL).bind fun anM=>some (!anM))):Option (Bool)).bind fun anN=>(bif anN then some (.out (.ret ()))else some (.next (aM (i16+1)))))))else some (.next (aM (i16+1))))| .ret _=>some (.out (.ret ()))))else some (.out (.go ())))
def JQ (ah:dR):Option (Bool):=
 (bif ((decide (ah.Model.dO.len>512))||(decide (ah.Model.dO.len<(aM (2*ah.strict.len)))))then some false else((bZ (FC ah) 0:Option (cz (Unit) (Unit))).bind fun tt=>match tt with| .go _=>some true| .ret _=>some false))
def JR (uB:dR)(ah:Int):Option (Bool):=
 some ((decide (ah<(-1)))||(decide (ah>=uB.Model.bE.len)))
def FD (ah:dR):(Int × (ad cf))->Option (cU (Int × (ad cf)) (cz ((ad cf)) (Unit))):=fun⟨i15,i16⟩=>(bif (decide (i15<ah.Model.Operations.len))then((bj ah.Model.Operations.l i15).bind fun FE=>((gn 16 i16 (ad.mk [FE.Name])).bind fun anO=>(((bif (decide (FE.bE.len>3))then some true else((Fu FE.bE (fun z0=>JR ah z0)).bind fun FF=>some FF)):Option (Bool)).bind fun anP=>(bif anP then some (.out (.ret ()))else some (.next ((aM (i15+1)),anO))))))else some (.out (.go i16)))
def JS (ah:dR):Option (Bool):=
 ((bZ (FD ah) (0,.nil):Option (cz ((ad cf)) (Unit))).bind fun anQ=>match anQ with| .go aaG=>(((bif (decide (aaG.len<=8))then((Fw aaG).bind fun PN=>some PN)else some false):Option (Bool)).bind fun PM=>some PM)| .ret _=>some false)
def cmp_isNaN_int (ah:Int):Option (Bool):=
 some (ah != ah)
def cmp_Compare_int (ah:Int)(aJ:Int):Option (Int):=
 ((cmp_isNaN_int ah).bind fun b0=>((cmp_isNaN_int aJ).bind fun dy=>(bif b0 then(bif dy then some 0 else some (-1))else(bif dy then some 1 else(bif (decide (ah<aJ))then some (-1)else(bif (decide (ah>aJ))then some 1 else some 0))))))
def CK (ah:(ad Int))(aJ:(ad Int)):(Int)->Option (cU (Int) (cz (Unit) (Int))):=fun i7=>(bif (decide (i7<ah.len))then((bj ah.l i7).bind fun hh=>(bif (decide (i7>=aJ.len))then some (.out (.ret 1))else((bj aJ.l i7).bind fun sj=>((cmp_Compare_int hh sj).bind fun ob=>(bif (ob != 0)then some (.out (.ret ob))else some (.next (aM (i7+1))))))))else some (.out (.go ())))
def FG (ah:(ad Int))(aJ:(ad Int)):Option (Int):=
 ((bZ (CK ah aJ) 0:Option (cz (Unit) (Int))).bind fun gO=>match gO with| .go _=>(bif (decide (ah.len<aJ.len))then some (-1)else some 0)| .ret anR=>some anR)
def JT (ah:(ad Int))(mG:Table):(Int × Int × (ad Int))->Option (cU (Int × Int × (ad Int)) ((ad Int))):=fun⟨i58,i59,i60⟩=>(bif (decide (i59>=0))then((bj mG.bR.l i59).bind fun PN=>((bj ah.l PN).bind fun aaH=>((Fa i58 aaH).bind fun anS=>((E9 i58 aaH).bind fun JU=>((bj i60.l i59).bind fun aaI=>((bj i60.l i59).bind fun xU=>some (.next (JU,(aM (i59-1)),(px i60 i59 anS)))))))))else some (.out i60))
def FH (ah:(ad Int))(aJ:(ad Table))(iH:Bool)(lj:Int):(Int)->Option (cU (Int) (cz (Unit) (Int × (ad Int)))):=fun i16=>(bif (decide (i16<aJ.len))then((bj aJ.l i16).bind fun mG=>((((CD mG).bind fun pC=>(bif (pC==iH)then(bif (decide ((aM (lj-mG.dc))<0))then some true else((uA ah mG.bR).bind fun wA=>some (decide ((aM (lj-mG.dc))>=wA))))else some true)):Option (Bool)).bind fun PL=>(bif PL then some (.next (aM (i16+1)))else((zO 8 0 mG.bR.len).bind fun FI=>((bZ (JT ah mG) ((aM (lj-mG.dc)),(aM (FI.len-1)),FI):Option ((ad Int))).bind fun PO=>some (.out (.ret (i16,PO))))))))else some (.out (.go ())))
def FJ (ah:(ad Int))(aJ:(ad Table))(iH:Bool)(lj:Int):Option (Int × (ad Int) × Bool):=
 ((((zZ ah aJ).bind fun dy=>(bif dy then some (decide (lj<0))else some true)):Option (Bool)).bind fun h3=>(bif h3 then some (0,ad.nil,false)else((bZ (FH ah aJ iH lj) 0:Option (cz (Unit) (Int × (ad Int)))).bind fun tt=>match tt with| .go _=>some (0,ad.nil,false)| .ret (⟨anT,anU⟩)=>some (anT,anU,true))))
def JV (ah:dR)(aJ:mD):Option (Bool):=
 ((FJ ah.Model.bE ah.Model.Tables false aJ.Cell).bind fun sn=>(bif sn.2.2 then((bj ah.Model.Tables.l sn.1).bind fun FK=>(((bif (FK.Kind==2)then some (FK.Kind==2)else some (FK.Kind==3)):Option (Bool)).bind fun anV=>(bif anV then some (bif (aJ.Kind==0)then(aJ.Value==0)else((aJ.Kind==1)&&(aJ.Value==0)))else some ((aJ.Kind==2)&&((decide (aJ.Value>=FK.Range.lb))&&(decide (aJ.Value<=FK.Range.lf)))))))else some false))
def anW (ah:(ad Row))(aJ:(Row->Option Bool)):(Int)->Option (cU (Int) (cz (Unit) (Int))):=fun i7=>(bif (decide (i7<ah.len))then((bj ah.l i7).bind fun hh=>((aJ hh).bind fun fS=>(bif fS then some (.out (.ret i7))else some (.next (aM (i7+1))))))else some (.out (.go ())))
def aaJ (ah:(ad Row))(aJ:(Row->Option Bool)):Option (Int):=
 ((bZ (anW ah aJ) 0:Option (cz (Unit) (Int))).bind fun gO=>match gO with| .go _=>some (-1)| .ret wv=>some wv)
def PQ (ah:(ad Row))(aJ:(Row->Option Bool)):Option (Bool):=
 ((aaJ ah aJ).bind fun b0=>some (decide (b0>=0)))
def JW (uB:dR)(ah:Row):Option (Bool):=
 ((FA uB ah).bind fun fZ=>some (!fZ))
def FL (ah:dR)(aJ:eJ):(Int × Int)->Option (cU (Int × Int) (cz (Unit) (Unit))):=fun⟨i16,i17⟩=>(bif (decide (i17<aJ.Delta.len))then((bj aJ.Delta.l i17).bind fun l4=>(((bif (decide (l4.Cell<=i16))then some true else(bif (decide (l4.Cell>=ah.strict.len))then some true else(bif (l4.Add==0)then some true else((z1 l4.Add 1000000000).bind fun wB=>some (!wB))))):Option (Bool)).bind fun PJ=>(bif PJ then some (.out (.ret ()))else some (.next (l4.Cell,(aM (i17+1)))))))else some (.out (.go ())))
def FM (ah:dR)(aJ:eJ):(Int × Int)->Option (cU (Int × Int) (cz (Unit) (Unit))):=fun⟨i57,i58⟩=>(bif (decide (i58<aJ.ik.len))then((bj aJ.ik.l i58).bind fun FN=>(((bif (decide (FN.Cell<=i57))then some true else((JV ah FN).bind fun aaI=>some (!aaI))):Option (Bool)).bind fun FO=>(bif FO then some (.out (.ret ()))else some (.next (FN.Cell,(aM (i58+1)))))))else some (.out (.go ())))
def JX (ah:dR)(aJ:eJ):Option (Bool):=
 ((bZ (FL ah aJ) ((-1),0):Option (cz (Unit) (Unit))).bind fun tt=>match tt with| .go _=>((bZ (FM ah aJ) ((-1),0):Option (cz (Unit) (Unit))).bind fun PR=>match PR with| .go _=>(((bif (decide (aJ.h4.len<=8))then(bif (decide (aJ.ik.len<=32))then((PQ aJ.h4 (fun z0=>JW ah z0)).bind fun JY=>some (!JY))else some false)else some false):Option (Bool)).bind fun anX=>some anX)| .ret _=>some false)| .ret _=>some false)
def JZ (ah:dR)(eu:Action)(J0:et):(Int)->Option (cU (Int) (cz (Unit) (Unit))):=fun i42=>(bif (decide (i42<J0.bE.len))then((bj J0.bE.l i42).bind fun zY=>((bj eu.gE.l i42).bind fun CG=>(((bif (decide (zY<0))then((z1 CG 9999).bind fun anY=>(bif anY then(bif (decide (zY>=0))then((bj ah.Model.bE.l zY).bind fun sq=>((nn CG sq).bind fun sk=>some (!sk)))else some false)else some true))else(bif (decide (zY>=0))then((bj ah.Model.bE.l zY).bind fun FP=>((nn CG FP).bind fun anZ=>some (!anZ)))else some false)):Option (Bool)).bind fun FQ=>(bif FQ then some (.out (.ret ()))else some (.next (aM (i42+1)))))))else some (.out (.go ())))
def FR (ah:dR):(Int)->Option (cU (Int) (cz (Unit) (Unit))):=fun i12=>(bif (decide (i12<ah.Model.Actions.len))then((bj ah.Model.Actions.l i12).bind fun eu=>((((nn eu.et ah.Model.Operations.len).bind fun oQ=>(bif oQ then((bj ah.Model.Operations.l eu.et).bind fun j5=>some (eu.gE.len != j5.bE.len))else some true)):Option (Bool)).bind fun wx=>(bif wx then some (.out (.ret ()))else((bj ah.Model.Operations.l eu.et).bind fun J0=>((bZ (JZ ah eu J0) 0:Option (cz (Unit) (Unit))).bind fun an0=>match an0 with| .go _=>(((bif (decide (i12>0))then((bj ah.Model.Actions.l (aM (i12-1))).bind fun xU=>(((bif (decide (xU.et>eu.et))then some true else(bif (xU.et==eu.et)then((FG xU.gE eu.gE).bind fun FT=>some (decide (FT>=0)))else some false)):Option (Bool)).bind fun PS=>(bif PS then some (.ret ())else some (.go ()))))else some (.go ())):Option (cz (Unit) (Unit))).bind fun an1=>match an1 with| .go _=>((JX ah eu.eJ).bind fun PT=>(bif PT then some (.next (aM (i12+1)))else some (.out (.ret ()))))| .ret _=>some (.out (.ret ())))| .ret _=>some (.out (.ret ())))))))else some (.out (.go ())))
def J1 (ah:dR):Option (Bool):=
 (bif (decide (ah.Model.Actions.len>256))then some false else((bZ (FR ah) 0:Option (cz (Unit) (Unit))).bind fun wz=>match wz with| .go _=>some true| .ret _=>some false))
def CL (ah:Model):Option (Bool):=
 ((((zZ ah.bE ah.Tables).bind fun pB=>(bif pB then(bif (decide (ah.fR.len>24))then some true else((Fw ah.fR).bind fun sn=>some (!sn)))else some true)):Option (Bool)).bind fun q5=>(bif q5 then some false else((CI ah.bE ah.Tables true).bind fun ob=>((((JQ (dR.mk ah ob)).bind fun z7=>(bif z7 then((JS (dR.mk ah ob)).bind fun oQ=>(bif oQ then((J1 (dR.mk ah ob)).bind fun j5=>(bif j5 then((aaA (dR.mk ah ob)).bind fun pC=>some pC)else some false))else some false))else some false)):Option (Bool)).bind fun an2=>some an2))))
def PU (ah:(ad Int))(aJ:(ad Table))(iH:Bool):Option (Int):=
 ((CI ah aJ iH).bind fun b0=>some b0.len)
def J2 (ah:Model)(aJ:(ad Int)):Option (Bool):=
 ((((CL ah).bind fun pB=>(bif pB then((PU ah.bE ah.Tables true).bind fun oP=>some (aJ.len==oP))else some false)):Option (Bool)).bind fun q5=>some q5)
def an3 (ah:(ad Int))(lj:(ad Int))(oP:Table):(Int × Int)->Option (cU (Int × Int) (cz (Int) (Unit))):=fun⟨i23,i24⟩=>(bif (decide (i24<lj.len))then((bj lj.l i24).bind fun pC=>(((bif (decide (pC<0))then some true else((bj oP.bR.l i24).bind fun wA=>((bj ah.l wA).bind fun wB=>some (decide (pC>=wB))))):Option (Bool)).bind fun z8=>(bif z8 then some (.out (.ret ()))else((bj oP.bR.l i24).bind fun FF=>((bj ah.l FF).bind fun uE=>some (.next ((aM ((aM (i23*uE))+pC)),(aM (i24+1)))))))))else some (.out (.go i23)))
def aaK (ah:(ad Int))(aJ:(ad Table))(iH:Int)(lj:(ad Int)):Option (Int × Int):=
 ((zZ ah aJ).bind fun b0=>(bif b0 then(bif ((decide (iH<0))||(decide (iH>=aJ.len)))then some (0,7)else((bj aJ.l iH).bind fun oP=>(bif (lj.len != oP.bR.len)then some (0,2)else((bZ (an3 ah lj oP) (0,0):Option (cz (Int) (Unit))).bind fun PV=>match PV with| .go an4=>some ((aM (oP.dc+an4)),0)| .ret _=>some (0,2)))))else some (0,1)))
def J3 (aJ:(ad Table)):(Int)->Option (cU (Int) (cz (Unit) (Unit))):=fun i7=>(bif (decide (i7<aJ.len))then((((bj aJ.l i7).bind fun fS=>(bif (decide ((fS.Name.length:Int)>40))then some true else((bj aJ.l i7).bind fun ob=>some (decide (ob.bR.len>12))))):Option (Bool)).bind fun PW=>(bif PW then some (.out (.ret ()))else some (.next (aM (i7+1)))))else some (.out (.go ())))
def J4 (ah:(ad Int))(aJ:(ad Table)):Option (Bool):=
 ((bZ (J3 aJ) 0:Option (cz (Unit) (Unit))).bind fun gO=>match gO with| .go _=>some ((decide (ah.len<=12))&&(decide (aJ.len<=20)))| .ret _=>some false)
def J5 (ah:Model):(Int)->Option (cU (Int) (cz (Unit) (Unit))):=fun i26=>(bif (decide (i26<ah.fR.len))then((bj ah.fR.l i26).bind fun Fy=>(bif (decide ((Fy.length:Int)>40))then some (.out (.ret ()))else some (.next (aM (i26+1)))))else some (.out (.go ())))
def J6 (ah:Model):(Int)->Option (cU (Int) (cz (Unit) (Unit))):=fun i49=>(bif (decide (i49<ah.dO.len))then((bj ah.dO.l i49).bind fun sq=>(bif (decide (sq.Row.cC.len>20))then some (.out (.ret ()))else some (.next (aM (i49+1)))))else some (.out (.go ())))
def J7 (ah:Model):(Int)->Option (cU (Int) (cz (Unit) (Unit))):=fun i72=>(bif (decide (i72<ah.Operations.len))then((((bj ah.Operations.l i72).bind fun J8=>(bif (decide ((J8.Name.length:Int)>40))then some true else((bj ah.Operations.l i72).bind fun an5=>some (decide (an5.bE.len>6))))):Option (Bool)).bind fun an6=>(bif an6 then some (.out (.ret ()))else some (.next (aM (i72+1)))))else some (.out (.go ())))
def J9 (uF:Action):(Int)->Option (cU (Int) (cz (Unit) (Unit))):=fun i133=>(bif (decide (i133<uF.eJ.h4.len))then((bj uF.eJ.h4.l i133).bind fun an7=>(bif (decide (an7.cC.len>20))then some (.out (.ret ()))else some (.next (aM (i133+1)))))else some (.out (.go ())))
def Ka (ah:Model):(Int)->Option (cU (Int) (cz (Unit) (Unit))):=fun i103=>(bif (decide (i103<ah.Actions.len))then((bj ah.Actions.l i103).bind fun uF=>((((bj ah.Actions.l i103).bind fun an8=>(bif (decide (an8.gE.len>6))then some true else(bif (decide (uF.eJ.Delta.len>20))then some true else(bif (decide (uF.eJ.h4.len>10))then some true else some (decide (uF.eJ.ik.len>40)))))):Option (Bool)).bind fun an9=>(bif an9 then some (.out (.ret ()))else((bZ (J9 uF) 0:Option (cz (Unit) (Unit))).bind fun aoa=>match aoa with| .go _=>some (.next (aM (i103+1)))| .ret _=>some (.out (.ret ()))))))else some (.out (.go ())))
def Kb (ah:Model):Option (Bool):=
 (((bif (decide (ah.bE.len>8))then some true else(bif (decide (ah.Tables.len>6))then some true else(bif (decide (ah.fR.len>20))then some true else(bif (decide (ah.dO.len>60))then some true else(bif (decide (ah.Operations.len>8))then some true else(bif (decide (ah.Actions.len>30))then some true else(bif (decide (ah.b9.len>12))then some true else((J4 ah.bE ah.Tables).bind fun hh=>some (!hh))))))))):Option (Bool)).bind fun q5=>(bif q5 then some false else((bZ (J5 ah) 0:Option (cz (Unit) (Unit))).bind fun wx=>match wx with| .go _=>((bZ (J6 ah) 0:Option (cz (Unit) (Unit))).bind fun PX=>match PX with| .go _=>((bZ (J7 ah) 0:Option (cz (Unit) (Unit))).bind fun FO=>match FO with| .go _=>((bZ (Ka ah) 0:Option (cz (Unit) (Unit))).bind fun aob=>match aob with| .go _=>some true| .ret _=>some false)| .ret _=>some false)| .ret _=>some false)| .ret _=>some false)))
def PY (ah:Model)(aJ:Bool):Option ((ad Range)):=
 ((CL ah).bind fun fZ=>(bif fZ then((CI ah.bE ah.Tables aJ).bind fun uC=>some uC)else some ad.nil))
def Kc (ah:Model):Option ((ad Range)):=
 ((PY ah true).bind fun fZ=>some fZ)
def aoc (g:Int->Option Bool)(m:Model)(t:Int)(aU:ad Int):(Int × Bool)->Option (cU (Int × Bool) Bool):=fun⟨i,v⟩=>bif decide (i<m.b9.len)then(bj m.b9.l i).bind fun h=>bif v&&h.Table==t then(bj aU.l h.iF).bind fun y=>(aaK m.bE m.Tables h.c5 (.mk [y])).bind fun p=>(g p.1).bind fun w=>some (.next (aM (i+1),w))else some (.next (aM (i+1),v))else some (.out v)
def PZ (m:Model)(l:ad Int)(g:Int->Option Bool)(c:Int):Option Bool:=(FJ m.bE m.Tables true c).bind fun t=>(bj l.l c).bind fun y=>bZ (aoc g m t.1 t.2.1) (0,decide (y>=1))
def aod (m:Model)(l:ad Int)(c:Int):Option Bool:=zR (PZ m l) c
def Kd (ah:Int):Option (Bool):=
 some ((ah==9)||((ah==10)||((ah==13)||(ah==32))))
def FU (ah:cf):(Int)->Option (cU (Int) (Int)):=fun i32=>(((bif (decide (i32<(ah.length:Int)))then((bj ah i32).bind fun P0=>some ((P0.toNat:Int) != 10))else some false):Option (Bool)).bind fun aoe=>(bif aoe then some (.next (aM (i32+1)))else some (.out i32)))
def CM (ah:cf):(Int)->Option (cU (Int) (Int)):=fun i7=>(((bif (decide (i7<(ah.length:Int)))then((bj ah i7).bind fun fS=>((Kd (fS.toNat:Int)).bind fun sj=>(bif sj then some true else((bj ah i7).bind fun FV=>some ((FV.toNat:Int)==35)))))else some false):Option (Bool)).bind fun Fq=>(bif Fq then((bj ah i7).bind fun z7=>(bif ((z7.toNat:Int)==35)then((bZ (FU ah) i7:Option (Int)).bind fun z8=>some (.next z8))else some (.next (aM (i7+1)))))else some (.out i7)))
def Ke (ah:cf)(aJ:Int):Option (Int):=
 ((bZ (CM ah) aJ:Option (Int)).bind fun gO=>some gO)
def Kf (ah:(ad cf))(aJ:cf):(Int)->Option (cU (Int) (cz (Unit) (Unit))):=fun i7=>(bif (decide (i7<ah.len))then((bj ah.l i7).bind fun hh=>(bif (hh==aJ)then some (.out (.ret ()))else some (.next (aM (i7+1)))))else some (.out (.go ())))
def P1 (ah:(ad cf))(aJ:cf):Option (Bool):=
 ((bZ (Kf ah aJ) 0:Option (cz (Unit) (Unit))).bind fun gO=>match gO with| .go _=>some false| .ret _=>some true)
def FW (ah:Int):Option (Bool):=
 some ((decide (ah>=97))&&(decide (ah<=122)))
def CN (ah:Int):Option (Bool):=
 some ((decide (ah>=48))&&(decide (ah<=57)))
def P2  :Option ((ad cf)):=
 some (ad.mk [[115,111,114,116],[114,101,108,97,116,105,111,110],[99,111,117,110,116,101,114],[115,101,116],[114,101,103,105,115,116,101,114],[105,110,118,97,114,105,97,110,116],[111,112,101,114,97,116,105,111,110],[107,101,121],[114,101,102,101,114,101,110,99,101],[116,111],[99,111,117,110,116],[97,99,121,99,108,105,99],[97,108,108],[115,117,109],[105,110],[97,100,100,119,105,110,115],[114,101,109,111,118,101,119,105,110,115],[108,97,115,116],[109,117,108,116,105],[104,105,100,101],[111,114,100,101,114,101,100],[114,101,113,117,105,114,101],[104,111,108,100],[105,110,115,101,114,116],[100,101,108,101,116,101],[97,100,100],[102,114,111,109],[112,117,116],[100,114,111,112],[97,115,115,105,103,110],[102,111,114],[119,104,101,114,101],[97,110,100],[111,114],[110,111,116]])
def P3  :Option ((ad cf)):=
 some (ad.mk [[61,61],[33,61],[60,61],[62,61],[46,46],[60],[62],[61],[43],[45],[42],[40],[41],[123],[125],[44],[58],[59]])
def FX (ah:cf)(aJ:Int)(b0:(ad cf)):(Int)->Option (cU (Int) (cz (Unit) (Int))):=fun i8=>(bif (decide (i8<b0.len))then((bj b0.l i8).bind fun fS=>(((bif (decide ((aM (aJ+(fS.length:Int)))<=(ah.length:Int)))then((ql ah aJ (aM (aJ+(fS.length:Int)))).bind fun FV=>((bj b0.l i8).bind fun eu=>some (FV==eu)))else some false):Option (Bool)).bind fun tt=>(bif tt then some (.out (.ret (fS.length:Int)))else some (.next (aM (i8+1))))))else some (.out (.go ())))
def Kg (ah:cf)(aJ:Int):Option (Int):=
 ((P3).bind fun b0=>((bZ (FX ah aJ b0) 0:Option (cz (Unit) (Int))).bind fun wy=>match wy with| .go _=>some 0| .ret aof=>some aof))
def Kh (ah:cf):(Int)->Option (cU (Int) (Int)):=fun i10=>(((bif (decide (i10<(ah.length:Int)))then((bj ah i10).bind fun FV=>((FW (FV.toNat:Int)).bind fun eu=>(bif eu then some true else((bj ah i10).bind fun aog=>((CN (aog.toNat:Int)).bind fun uD=>(bif uD then some true else((bj ah i10).bind fun l4=>some ((l4.toNat:Int)==95))))))))else some false):Option (Bool)).bind fun tt=>(bif tt then some (.next (aM (i10+1)))else some (.out i10)))
def Ki (ah:cf):(Int)->Option (cU (Int) (Int)):=fun i50=>(((bif (decide (i50<(ah.length:Int)))then((bj ah i50).bind fun xV=>((CN (xV.toNat:Int)).bind fun FP=>some FP))else some false):Option (Bool)).bind fun aoh=>(bif aoh then some (.next (aM (i50+1)))else some (.out i50)))
def CO (ah:cf):(Int)->Option (cU (Int) (Int)):=fun i80=>(((bif (decide (i80<(ah.length:Int)))then((bj ah i80).bind fun FT=>((Kd (FT.toNat:Int)).bind fun CP=>(bif CP then some false else((bj ah i80).bind fun aoi=>(bif ((aoi.toNat:Int) != 35)then((bj ah i80).bind fun JY=>((FW (JY.toNat:Int)).bind fun aoj=>(bif aoj then some false else((bj ah i80).bind fun aok=>((CN (aok.toNat:Int)).bind fun tu=>(bif tu then some false else((Kg ah i80).bind fun P4=>some (P4==0))))))))else some false)))))else some false):Option (Bool)).bind fun aol=>(bif aol then some (.next (aM (i80+1)))else some (.out i80)))
def P5 (ah:cf)(aJ:Int):Option (Int × Int):=
 ((bj ah aJ).bind fun b0=>((FW (b0.toNat:Int)).bind fun dy=>(bif dy then((bZ (Kh ah) aJ:Option (Int)).bind fun FB=>((P2).bind fun gP=>((ql ah aJ FB).bind fun qo=>((P1 gP qo).bind fun P0=>(bif P0 then some (2,FB)else some (1,FB))))))else((bj ah aJ).bind fun FF=>((CN (FF.toNat:Int)).bind fun uE=>(bif uE then((bZ (Ki ah) aJ:Option (Int)).bind fun aom=>some (3,aom))else((Kg ah aJ).bind fun JU=>(bif (decide (JU>0))then some (4,(aM (aJ+JU)))else((bZ (CO ah) aJ:Option (Int)).bind fun aon=>some (5,aon))))))))))
def Aa (ah:cf):(Int × (ad Token))->Option (cU (Int × (ad Token)) (Int × (ad Token))):=fun⟨i12,i13⟩=>((Ke ah i12).bind fun uD=>(bif (decide (uD<(ah.length:Int)))then((Ke ah i12).bind fun l4=>((P5 ah l4).bind fun z7=>((gn 32 i13 (ad.mk [(Token.mk z7.1 i12 l4 z7.2)])).bind fun aoo=>some (.next (z7.2,aoo)))))else some (.out (i12,i13))))
def aaL (ah:cf):Option ((ad Token) × Int):=
 (bif (decide ((ah.length:Int)>4096))then some (ad.nil,8)else((bZ (Aa ah) (0,.emp):Option (Int × (ad Token))).bind fun wz=>match wz with|⟨aop,aoq⟩=>((gn 32 aoq (ad.mk [(Token.mk 0 aop (ah.length:Int) (ah.length:Int))])).bind fun aor=>some (aor,0))))
def P6 (ah:cf):Option (Int):=
 ((aaL ah).bind fun b0=>(((bif (b0.2 != 0)then some true else(bif (b0.1.len != 2)then some true else((bj b0.1.l 0).bind fun fZ=>(bif (fZ.At != 0)then some true else((bj b0.1.l 0).bind fun uC=>some (uC.End != (ah.length:Int))))))):Option (Bool)).bind fun Pl=>(bif Pl then some 0 else((bj b0.1.l 0).bind fun fS=>some fS.Kind))))
def P7 (ah:cf):Option (Bool):=
 ((((P6 ah).bind fun dy=>(bif (dy==1)then some (decide ((ah.length:Int)<=16))else some false)):Option (Bool)).bind fun h3=>some h3)
def Kj (ah:(ad Int)):(Int)->Option (cU (Int) (cz (Unit) (Unit))):=fun i7=>(bif (decide (i7<ah.len))then((((bj ah.l i7).bind fun fS=>(bif (decide (fS<(-1000000)))then some true else((bj ah.l i7).bind fun ob=>some (decide (ob>1000000))))):Option (Bool)).bind fun PW=>(bif PW then some (.out (.ret ()))else some (.next (aM (i7+1)))))else some (.out (.go ())))
def Kk (ah:(ad Int)):Option (Bool):=
 ((bZ (Kj ah) 0:Option (cz (Unit) (Unit))).bind fun gO=>match gO with| .go _=>some (decide (ah.len<=128))| .ret _=>some false)
def P8 (ah:Int):Option (Bool):=
 some ((decide (ah>=(-1000000)))&&(decide (ah<=1000000)))
def Kl (ah:(ad Change)):(Int)->Option (cU (Int) (cz (Unit) (Unit))):=fun i7=>(bif (decide (i7<ah.len))then((bj ah.l i7).bind fun hh=>((P8 hh.Add).bind fun fS=>(bif fS then some (.next (aM (i7+1)))else some (.out (.ret ())))))else some (.out (.go ())))
def FY (ah:(ad Change)):Option (Bool):=
 ((bZ (Kl ah) 0:Option (cz (Unit) (Unit))).bind fun gO=>match gO with| .go _=>some (decide (ah.len<=100))| .ret _=>some false)
def FZ (aJ:(ad Change)):(Int × (ad Int))->Option (cU (Int × (ad Int)) ((ad Int))):=fun⟨i18,i19⟩=>(bif (decide (i18<aJ.len))then((bj aJ.l i18).bind fun j5=>(bif ((decide (j5.Cell>=0))&&(decide (j5.Cell<i19.len)))then((bj i19.l j5.Cell).bind fun P9=>((bj i19.l j5.Cell).bind fun Qa=>((bj i19.l j5.Cell).bind fun JK=>((bj i19.l j5.Cell).bind fun CG=>some (.next ((aM (i18+1)),(px i19 j5.Cell (aM (Qa+j5.Add)))))))))else some (.next ((aM (i18+1)),i19))))else some (.out i19))
def xW (ah:(ad Int))(aJ:(ad Change)):Option ((ad Int)):=
 ((xO 8 ah).bind fun s1=>((bZ (FZ aJ) (0,s1):Option ((ad Int))).bind fun aos=>some aos))
def Km (ah:(ad Int))(aJ:(ad Int)):(Int)->Option (cU (Int) (cz (Unit) (Unit))):=fun i8=>(bif (decide (i8<ah.len))then((bj ah.l i8).bind fun fS=>((bj aJ.l i8).bind fun sj=>(bif (fS != sj)then some (.out (.ret ()))else some (.next (aM (i8+1))))))else some (.out (.go ())))
def Ab (ah:(ad Int))(aJ:(ad Int)):Option (Bool):=
 (bif (ah.len != aJ.len)then some false else((bZ (Km ah aJ) 0:Option (cz (Unit) (Unit))).bind fun wy=>match wy with| .go _=>some true| .ret _=>some false))
def F0 (uD:(ad Change)):(Int × (ad Term))->Option (cU (Int × (ad Term)) ((ad Term))):=fun⟨i32,i33⟩=>(bif (decide (i32<uD.len))then((bj uD.l i32).bind fun uE=>((gn 16 i33 (ad.mk [(Term.mk uE.Cell uE.Add)])).bind fun aot=>some (.next ((aM (i32+1)),aot))))else some (.out i33))
def F1 (ah:(ad (ad Change))):(Int × (ad Term))->Option (cU (Int × (ad Term)) ((ad Term))):=fun⟨i11,i12⟩=>(bif (decide (i11<ah.len))then((bj ah.l i11).bind fun uD=>((bZ (F0 uD) (0,i12):Option ((ad Term))).bind fun z8=>some (.next ((aM (i11+1)),z8))))else some (.out i12))
def F2 (CP:(ad Term)):(Int × (ad Change))->Option (cU (Int × (ad Change)) ((ad Change))):=fun⟨i99,i100⟩=>(bif (decide (i99<CP.len))then((bj CP.l i99).bind fun uF=>((gn 16 i100 (ad.mk [(Change.mk uF.Cell uF.dA)])).bind fun aou=>some (.next ((aM (i99+1)),aou))))else some (.out i100))
def Kn (ah:(ad (ad Change))):Option ((ad Change)):=
 ((bZ (F1 ah) (0,.nil):Option ((ad Term))).bind fun aov=>((Cx aov).bind fun CP=>((bZ (F2 CP) (0,.nil):Option ((ad Change))).bind fun aow=>some aow)))
def F3 (ah:Constraint)(aJ:Int):Option (Bool):=
 some ((ah.Kind==1)&&((decide (ah.fL>=1))&&((decide (ah.fL<=6))&&((decide (ah.dc>=0))&&(decide (ah.dc<=(aM (aJ-(aM (ah.fL*ah.fL))))))))))
def aox (ah:(ad Int))(aJ:Int):(Int)->Option (cU (Int) (cz (Unit) (Int))):=fun i7=>(bif (decide (i7<ah.len))then((bj ah.l i7).bind fun hh=>(bif (aJ==hh)then some (.out (.ret i7))else some (.next (aM (i7+1)))))else some (.out (.go ())))
def aaM (ah:(ad Int))(aJ:Int):Option (Int):=
 ((bZ (aox ah aJ) 0:Option (cz (Unit) (Int))).bind fun gO=>match gO with| .go _=>some (-1)| .ret PE=>some PE)
def Ac (ah:(ad Int))(aJ:Int):Option (Bool):=
 ((aaM ah aJ).bind fun b0=>some (decide (b0>=0)))
def F4 (uB:(ad Int))(JM:Constraint)(ah:Int)(aJ:Int):Option (Bool):=
 ((bj uB.l (aM ((aM (JM.dc+(aM (ah*JM.fL))))+aJ))).bind fun b0=>some (decide (b0>=1)))
def Ko (ah:Constraint):(Int × (ad (ad Int)))->Option (cU (Int × (ad (ad Int))) ((ad (ad Int)))):=fun⟨i21,i22⟩=>(bif (decide (i21<ah.fL))then((gn 24 i22 (ad.mk [(ad.mk [i21])])).bind fun aoy=>some (.next ((aM (i21+1)),aoy)))else some (.out i22))
def F5 (ah:Constraint)(aJ:(ad Int))(tu:(ad Int))(mH:Int):(Int × (ad (ad Int)))->Option (cU (Int × (ad (ad Int))) ((ad (ad Int)))):=fun⟨i112,i113⟩=>(bif (decide (i112<ah.fL))then((((F4 aJ ah mH i112).bind fun aoz=>(bif aoz then((Ac tu i112).bind fun aoA=>some (!aoA))else some false)):Option (Bool)).bind fun aoB=>(bif aoB then((xO 8 tu).bind fun aoC=>((gn 8 aoC (ad.mk [i112])).bind fun aoD=>((gn 24 i113 (ad.mk [aoD])).bind fun aoE=>some (.next ((aM (i112+1)),aoE)))))else some (.next ((aM (i112+1)),i113))))else some (.out i113))
def F6 (ah:Constraint)(aJ:(ad Int))(i63:(ad (ad Int))):(Int × (ad (ad Int)))->Option (cU (Int × (ad (ad Int))) (cz ((ad (ad Int))) ((ad Int)))):=fun⟨i82,i83⟩=>(bif (decide (i82<i63.len))then((bj i63.l i82).bind fun JY=>((bj i63.l i82).bind fun tu=>((bj tu.l (aM (tu.len-1))).bind fun mH=>((bj tu.l 0).bind fun P4=>((F4 aJ ah mH P4).bind fun aoF=>(bif aoF then some (.out (.ret tu))else((bj tu.l 0).bind fun PT=>((bZ (F5 ah aJ tu mH) ((aM (PT+1)),i83):Option ((ad (ad Int)))).bind fun aoG=>some (.next ((aM (i82+1)),aoG))))))))))else some (.out (.go i83)))
def CQ (ah:Constraint)(aJ:(ad Int)):((ad (ad Int)))->Option (cU ((ad (ad Int))) (cz (Unit) ((ad Int)))):=fun i63=>(bif (decide (i63.len>0))then((bZ (F6 ah aJ i63) (0,.nil):Option (cz ((ad (ad Int))) ((ad Int)))).bind fun aoH=>match aoH with| .go aoI=>some (.next aoI)| .ret aoJ=>some (.out (.ret aoJ)))else some (.out (.go ())))
def Kp (ah:Constraint)(aJ:(ad Int)):Option ((ad Int)):=
 ((F3 ah aJ.len).bind fun sn=>(bif sn then((bZ (Ko ah) (0,.nil):Option ((ad (ad Int)))).bind fun PI=>((bZ (CQ ah aJ) PI:Option (cz (Unit) ((ad Int)))).bind fun aoK=>match aoK with| .go _=>some ad.nil| .ret aoL=>some aoL))else some ad.nil))
def Kq (ah:Int)(aJ:Int)(iH:Int):Option (Bool):=
 some ((decide ((aM (ah+(aJ/2^32)))<(iH/2^32)))||(((aM (ah+(aJ/2^32)))==(iH/2^32))&&(decide ((aM ((BitVec.ofInt (IntKind.i64).bits aJ &&& BitVec.ofInt (IntKind.i64).bits 4294967295).toNat))<=(aM ((BitVec.ofInt (IntKind.i64).bits iH &&& BitVec.ofInt (IntKind.i64).bits 4294967295).toNat))))))
def tv (ah:Constraint)(aJ:(ad Int)):(Int × Int × Int)->Option (cU (Int × Int × Int) (cz (Int × Int) (Unit))):=fun⟨i23,i24,i25⟩=>(bif (decide (i25<ah.Row.cC.len))then((bj ah.Row.cC.l i25).bind fun CR=>(bif ((decide (CR.Cell<0))||(decide (CR.Cell>=aJ.len)))then some (.out (.ret ()))else((bj aJ.l CR.Cell).bind fun aoM=>((bj aJ.l CR.Cell).bind fun Qa=>some (.next ((aM (i23+(aM (CR.dA*(aM (aoM.tdiv 4294967296)))))),(aM (i24+(aM (CR.dA*(Qa.tmod 4294967296))))),(aM (i25+1))))))))else some (.out (.go (i23,i24))))
def qp (ah:Constraint)(aJ:(ad Int)):Option (Bool):=
 (bif (ah.Kind==1)then((((F3 ah aJ.len).bind fun uC=>(bif uC then((Kp ah aJ).bind fun sn=>some (sn.len==0))else some false)):Option (Bool)).bind fun gO=>some gO)else((bZ (tv ah aJ) (0,0,0):Option (cz (Int × Int) (Unit))).bind fun PV=>match PV with| .go (⟨aoN,aoO⟩)=>(((bif (ah.Kind==0)then((Kq aoN aoO ah.Row.ni).bind fun FP=>some FP)else some false):Option (Bool)).bind fun PR=>some PR)| .ret _=>some false))
def F7 (ah:Model)(aJ:(ad Int)):(Int × (ad Int))->Option (cU (Int × (ad Int)) ((ad Int))):=fun⟨i17,i18⟩=>(bif (decide (i17<ah.dO.len))then((bj ah.dO.l i17).bind fun PD=>((qp PD aJ).bind fun wB=>(bif wB then some (.next ((aM (i17+1)),i18))else((gn 8 i18 (ad.mk [i17])).bind fun aoP=>some (.next ((aM (i17+1)),aoP))))))else some (.out i18))
def Kr (ah:Model)(aJ:(ad Int)):Option ((ad Int)):=
 ((J2 ah aJ).bind fun fZ=>(bif fZ then((bZ (F7 ah aJ) (0,.nil):Option ((ad Int))).bind fun aoQ=>some aoQ)else some ad.nil))
def F8 (aJ:(ad Change))(uz:Term):(Int × Int)->Option (cU (Int × Int) (Int)):=fun⟨i33,i34⟩=>(bif (decide (i34<aJ.len))then((bj aJ.l i34).bind fun P9=>(bif (P9.Cell==uz.Cell)then some (.next ((aM (i33+(aM (uz.dA*P9.Add)))),(aM (i34+1))))else some (.next (i33,(aM (i34+1))))))else some (.out i33))
def F9 (ah:Row)(aJ:(ad Change)):(Int × Int)->Option (cU (Int × Int) (Int)):=fun⟨i12,i13⟩=>(bif (decide (i13<ah.cC.len))then((bj ah.cC.l i13).bind fun uz=>((bZ (F8 aJ uz) (i12,0):Option (Int)).bind fun aoR=>some (.next (aoR,(aM (i13+1))))))else some (.out i12))
def Ga (ah:Row)(aJ:(ad Change)):Option (Int):=
 ((bZ (F9 ah aJ) (0,0):Option (Int)).bind fun wz=>some wz)
def Gb (aJ:(ad Int))(sq:Constraint):(Int × Int)->Option (cU (Int × Int) (Int)):=fun⟨i72,i73⟩=>(bif (decide (i73<sq.Row.cC.len))then((bj sq.Row.cC.l i73).bind fun J8=>((bj aJ.l J8.Cell).bind fun aoS=>some (.next ((aM (i72+(aM (J8.dA*aoS)))),(aM (i73+1))))))else some (.out i72))
def Ks (ah:Model)(aJ:(ad Int))(iH:(ad Change))(lj:(ad Change))(uE:(ad Int)):(Int)->Option (cU (Int) (cz (Unit) (Unit))):=fun i49=>(bif (decide (i49<ah.dO.len))then((bj ah.dO.l i49).bind fun sq=>(bif (sq.Kind != 0)then some (.next (aM (i49+1)))else((Ga sq.Row iH).bind fun aoT=>((Ga sq.Row lj).bind fun FN=>((bZ (Gb aJ sq) ((aM (aoT+FN)),0):Option (Int)).bind fun FO=>((Ac uE i49).bind fun aoU=>(bif (aoU==(decide (FO>sq.Row.ni)))then some (.next (aM (i49+1)))else some (.out (.ret ())))))))))else some (.out (.go ())))
def Kt (ah:Model)(aJ:(ad Int))(iH:(ad Change))(lj:(ad Change)):Option (Bool):=
 ((PA).bind fun fZ=>(bif fZ then((((Kb ah).bind fun oP=>(bif oP then((Kk aJ).bind fun aoV=>(bif aoV then((FY iH).bind fun z6=>(bif z6 then((FY lj).bind fun fS=>(bif fS then((CL ah).bind fun ob=>(bif ob then((Kc ah).bind fun eu=>some (aJ.len != eu.len))else some true))else some true))else some true))else some true))else some true)):Option (Bool)).bind fun wy=>(bif wy then some true else((xW aJ iH).bind fun FE=>((xW FE lj).bind fun oQ=>((((xW aJ lj).bind fun j5=>((xW j5 iH).bind fun aoW=>((Ab oQ aoW).bind fun pC=>(bif pC then((Kn (ad.mk [iH,lj])).bind fun Fy=>((xW aJ Fy).bind fun wA=>((Ab oQ wA).bind fun wB=>(bif wB then some (oQ.len != aJ.len)else some true))))else some true)))):Option (Bool)).bind fun aoX=>(bif aoX then some false else((Kr ah oQ).bind fun uE=>((bZ (Ks ah aJ iH lj uE) 0:Option (cz (Unit) (Unit))).bind fun PX=>match PX with| .go _=>some true| .ret _=>some false))))))))else some false))
end
end Go.Abs.bs
namespace Go.Abs
open Go
variable{aa:Nat->Option bV}
structure Qb (aa:Nat->Option bV) (i es:Nat):Prop where
 nil:∀H,bY aa (.fn i [] []) [.bX] H=some (.aU [],H,H.length)
 emp:∀H,bY aa (.fn i [] []) [.emp] H=some (.aU [],H,H.length)
 row:∀(H:Heap) (l:Nat) (ds:List V),H[l]? =some (.row es ds false)->bM (ds.flatMap aE)=true->ds.length<=1099511627776->bY aa (.fn i [] []) [.ca l es 0 ds.length ds.length] H=some (.aU [],H.set l (.row es ds.reverse false),min H.length l)
structure aaN (aa:Nat->Option bV) (i es:Nat):Prop where
 row:∀(H:Heap) (l:Nat) (ds:List V) (a c:Nat),H[l]? =some (.row es ds false)->cg ds=true->bM (ds.flatMap aE)=true->ds.length<=1099511627776->a<=c->c<=ds.length->
  ∃yO,bY aa (.fn i [] []) [.ca l es 0 ds.length ds.length,.int .i64 a,.int .i64 c] H=some (.list es (ds.take a++ds.drop c),H.set l (.row es yO true),min H.length l)
def aaO{α:Type}:ad α->Option (ad α)
 | .nil=>some .nil
 | .emp=>some .emp
 | .mk l=>if l.length<=1099511627776 then some (.mk l.reverse)else none
def aaP{α:Type}(s:ad α)(a c:Int):Option (ad α):=match s with
 | .mk l=>if 0<=a/\a<=c/\c<=l.length/\l.length<=1099511627776 then some (.mk (l.take a.toNat++l.drop c.toNat))else none
 | _=>none
section
variable{b:Nat}{aq σ:bN}{H:Heap}{wr:List Bool}{rest:List bI}
theorem aaQ{α:Type}{l:List α}{k:Nat}{a:α}(h:l[k]? =some a):l.set k a=l:=by
 apply o0;intro i;by_cases e:k=i
 ·subst e;rw[mP (e0.1 h).1,h]
 ·rw[iv e]
theorem aoY{α:Type}{i es:Nat}{f:α->V}{s y:ad α}{v:V}{m:List (Nat × bU)}{d:Option (Nat × Bool)}{g:Option (ai × Bool)}{kH x:ai}{Q:bN->Heap->List Bool->Prop}{ms:cy}(hw:ga aq σ g=some true)
  (cR:Qb aa i es) (k:Nat) (hs:aaO s=some y) (aw:Own H ms) (hk:ms[k]? =some m) (hr:ft b es f v s m) (ae:bn aq σ kH=.fn i [] []) (hx:bn aq σ x=v) (hc:∀a,bM (aE (f a))=true)
  (cl:∀H' m' mv,ft b es f v y m'->Own H' (ms.set k m')->Op aa b rest (fw aq d (.aU [])) (fx σ d (.aU [])) H' (mv::wr) Q):Op aa b (⟨d,.call true kH [x],g⟩::rest) aq σ H wr Q:=by
 cases s with
 |nil=>
  cases hs;have da:e9 b es v .nil m:=hr;cases da;refine j4 (o:=⟨d,.call true kH [x],g⟩) (v:=.aU []) (H1:=H) (mv:=ei H H (min H.length H.length)) hw (fun hb=>⟨hb,_,by omega,?_,rfl⟩) (cl H [] _ .nil (by rw[aaQ hk];exact aw));rw[ng];simp only[de,iO,ae,hx,cR.nil]
 |emp=>
  cases hs;have da:e9 b es v .emp m:=hr;cases da;refine j4 (o:=⟨d,.call true kH [x],g⟩) (v:=.aU []) (H1:=H) (mv:=ei H H (min H.length H.length)) hw (fun hb=>⟨hb,_,by omega,?_,rfl⟩) (cl H [] _ .emp (by rw[aaQ hk];exact aw));rw[ng];simp only[de,iO,ae,hx,cR.emp]
 |mk l=>
  have da:e9 b es v (.mk (l.map f)) m:=hr;have hs:(if l.length<=1099511627776 then some (ad.mk l.reverse)else none)=some y:=hs;split at hs
  ·rename_i hle
   cases hs;cases da with
   |row a _ h hb=>
    have a6:=aw.get k hk;have aK:=sc a6;refine j4 (o:=⟨d,.call true kH [x],g⟩) (v:=.aU []) (H1:=H.set a (.row es (l.map f).reverse false)) (mv:=true) hw (fun cp=>⟨by simpa using cp,min H.length (min H.length a),by omega,?_,?_⟩) (cl _ _ _ ?_ (aw.put k hk))
    ·rw[ng]
     simp only[de,iO,ae,hx,cR.row H a _ a6 (wi hc l) (by simpa using hle)]
    ·simp only[ei,jN,decide_eq_true_eq]
     exact .inl (by omega)
    ·have:=e9.row (b:=b) (es:=es) a (l.map f).reverse (by simpa using h) hb
     rw[List.length_reverse]at this;show e9 b es _ (.mk (l.reverse.map f)) _;rw[List.map_reverse];exact this
  ·cases hs
theorem aaR{α:Type}{es bytes:Nat}{f:α->V}{s y ao:ad α}{d:Option (Nat × Bool)}{g:Option (ai × Bool)}{dr fH:ai}{dt:V}{m:List (Nat × bU)}{Q:bN->Heap->List Bool->Prop}{ms:cy}(hw:ga aq σ g=some true)(k:Nat)
  (hs:gn bytes s y=some ao) (aw:Own H ms) (hk:ms[k]? =some m) (hr:ft b es f dt s m) (ha:bn aq σ dr=dt) (hb:elems H es (bn aq σ fH)=some (y.l.map f)) (hp:∀a,bx (f a)=true) (hc:∀a,bM (aE (f a))=true)
  (cl:∀H' v' m' mv,ft b es f v' ao m'->Own H' (ms.set k m')->Op aa b rest (fw aq d v') (fx σ d v') H' (mv::wr) Q):Op aa b (⟨d,.append es bytes dr fH,g⟩::rest) aq σ H wr Q:=by
 intro aC au low h1 h2 ar aR
 have nb:ms.set k m=ms:=by
  apply o0;intro i;by_cases e:k=i
  ·subst e;rw[mP (e0.1 hk).1,hk]
  ·rw[iv e]
 have hfz:eV H H.length (y.l.map f)=some (y.l.map f,H,H.length):=uw (tq hp _);have qZ:=wi hc y.l;unfold gn at hs;by_cases hy:y.l=[]
 ·rw[if_pos hy]at hs
  cases hs;refine j4 (o:=⟨d,.append es bytes dr fH,g⟩) (mv:=false) (v:=dt) (H1:=H) hw (fun cp=>⟨cp,H.length,cp,?_,lD H⟩) (cl H dt m false hr (by rw[nb];exact aw)) aC au low h1 h2 ar aR;rw[n0];simp only[step,hb];rw[hfz,hy];simp only[iO,Mp,if_true,ha];have da:e9 b es dt (s.map f) m:=hr;generalize oM:s.map f=gZ at da;cases da with
  |nil=>rfl
  |emp=>rfl
  |row l ds h gX=>simp[aw.get k hk]
 ·rw[if_neg hy]at hs
  split at hs
  ·rename_i ec
   cases hs
   have aZ:(y.l.map f).isEmpty=false:=by cases wj:y.l with
    |nil=>exact absurd wj hy
    |cons=>rfl
   have py:(bM ((y.l.map f).flatMap aE)=false)=False:=by rw[qZ];simp
   have da:e9 b es dt (s.map f) m:=hr;generalize oM:s.map f=gZ at da;cases da with
   |nil=>
    have dY:s.l=[]:=by cases s<;>simp_all [ad.map,ad.l]
    have n9:(y.l.map f).length*(bytes+1)<=2^40:=by simpa[dY]using ec
    refine j4 (o:=⟨d,.append es bytes dr fH,g⟩) (mv:=true) (v:=.ca H.length es 0 (y.l.map f).length (y.l.map f).length) (H1:=H++[.row es (y.l.map f) false]) hw
     (fun cp=>⟨by simp;omega,H.length,cp,?_,by simp[ei]⟩) (cl _ _ [(H.length,.row es (y.l.map f) false)] true ?_ (aw.fill k hk)) aC au low h1 h2 ar aR
    ·rw[n0]
     simp only[step,hb];rw[hfz];simp only[aZ,fE,if_false,py,ha,n9,if_true]
    ·simp only[dY,iM,ad.map]
     exact .row _ _ (by simpa using hy) aR
   |emp=>
    have dY:s.l=[]:=by cases s<;>simp_all [ad.map,ad.l]
    have n9:(y.l.map f).length*(bytes+1)<=2^40:=by simpa[dY]using ec
    refine j4 (o:=⟨d,.append es bytes dr fH,g⟩) (mv:=true) (v:=.ca H.length es 0 (y.l.map f).length (y.l.map f).length) (H1:=H++[.row es (y.l.map f) false]) hw
     (fun cp=>⟨by simp;omega,H.length,cp,?_,by simp[ei]⟩) (cl _ _ [(H.length,.row es (y.l.map f) false)] true ?_ (aw.fill k hk)) aC au low h1 h2 ar aR
    ·rw[n0]
     simp only[step,hb];rw[hfz];simp only[aZ,fE,if_false,py,ha,n9,if_true]
    ·simp only[dY,iM,ad.map]
     exact .row _ _ (by simpa using hy) aR
   |row l ds hd gX=>
    have dY:s.l.map f=ds:=by cases s<;>simp_all [ad.map,ad.l]
    have hlen:s.l.length=ds.length:=by rw[<-dY,ef]
    have a6:=aw.get k hk;have aK:=sc a6
    refine j4 (o:=⟨d,.append es bytes dr fH,g⟩) (mv:=true) (v:=.ca l es 0 (ds++y.l.map f).length (ds++y.l.map f).length) (H1:=H.set l (.row es (ds++y.l.map f) false)) hw
     (fun cp=>⟨by simpa using cp,l,gX,?_,by simp[ei,aK]⟩) (cl _ _ [(l,.row es (ds++y.l.map f) false)] true ?_ (aw.put k hk)) aC au low h1 h2 ar aR
    ·rw[n0]
     simp only[step,hb];rw[hfz];simp only[aZ,fE,if_false,py,ha,a6,fD];rw[if_pos ⟨trivial,trivial,trivial,trivial,trivial,by rw[hlen]at ec;simpa using ec⟩,tX (qz aK)]
     done
    ·show e9 b es _ (.mk ((s.l++y.l).map f)) _
     rw[jP,dY];exact .row _ _ (by simp[hd]) gX
  ·cases hs
theorem aoZ{i es:Nat}{d:Option (Nat × Bool)}{g:Option (ai × Bool)}{kH x:ai}{Q:bN->Heap->List Bool->Prop}(hw:ga aq σ g=some true)
  (cR:Qb aa i es) (ae:bn aq σ kH=.fn i [] []) (hx:bn aq σ x=.bX)
  (cl:∀mv,Op aa b rest (fw aq d (.aU [])) (fx σ d (.aU [])) H (mv::wr) Q):Op aa b (⟨d,.call true kH [x],g⟩::rest) aq σ H wr Q:=by
 refine j4 (o:=⟨d,.call true kH [x],g⟩) (v:=.aU []) (H1:=H) (mv:=ei H H (min H.length H.length)) hw (fun hb=>⟨hb,_,by omega,?_,rfl⟩) (cl _);rw[ng];simp only[de,iO,ae,hx,cR.nil]
theorem ao0{α:Type}{i es:Nat}{f:α->V}{s y:ad α}{v:V}{a c:Int}{m:List (Nat × bU)}{d:Option (Nat × Bool)}{g:Option (ai × Bool)}{kH x dr lz:ai}{Q:bN->Heap->List Bool->Prop}{ms:cy}(hw:ga aq σ g=some true)
  (cR:aaN aa i es) (k:Nat) (hs:aaP s a c=some y) (aw:Own H ms) (hk:ms[k]? =some m) (hr:ft b es f v s m) (ae:bn aq σ kH=.fn i [] []) (hx:bn aq σ x=v) (oc:bn aq σ dr=.int .i64 a) (Qc:bn aq σ lz=.int .i64 c) (hp:∀a,bx (f a)=true) (sQ:∀a,bM (aE (f a))=true)
  (cl:∀H' m' mv,Own H' (ms.set k m')->Op aa b rest (fw aq d (bb es f y)) (fx σ d (bb es f y)) H' (mv::wr) Q):Op aa b (⟨d,.call true kH [x,dr,lz],g⟩::rest) aq σ H wr Q:=by
 cases s with
 |nil=>cases hs
 |emp=>cases hs
 |mk l=>
  have da:e9 b es v (.mk (l.map f)) m:=hr;have hs:(if 0<=a/\a<=c/\c<=l.length/\l.length<=1099511627776 then some (ad.mk (l.take a.toNat++l.drop c.toNat))else none)=some y:=hs;split at hs
  ·rename_i hc
   obtain⟨h0,h1,h2,ar⟩:=hc;obtain⟨n,rfl⟩:=HD h0;obtain⟨q,rfl⟩:=HD (Int.le_trans h0 h1);cases hs;cases da with
   |row a _ h hb=>
    have a6:=aw.get k hk;have aK:=sc a6;obtain⟨yO,e⟩:=cR.row H a _ n q a6 (tq hp l) (wi sQ l) (by simpa using ar) (by omega) (by rw[ef];omega);rw[<-List.map_take,<-List.map_drop,<-jP]at e;refine j4 (o:=⟨d,.call true kH [x,dr,lz],g⟩) (H1:=H.set a (.row es yO true)) (mv:=true) hw (fun cp=>⟨by simpa using cp,min H.length (min H.length a),by omega,?_,?_⟩) (cl _ _ _ (aw.put k hk))
    ·rw[ng]
     simp only[de,iO,ae,hx,oc,Qc,e];rfl
    ·simp only[ei,jN,decide_eq_true_eq]
     exact .inl (by omega)
  ·cases hs
end
end Go.Abs
