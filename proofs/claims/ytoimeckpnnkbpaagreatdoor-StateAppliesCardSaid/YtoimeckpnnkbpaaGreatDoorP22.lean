/- Texts of this claim, joined and written short by a program. -/
import Derived.Test.YtoimeckpnnkbpaaGreatDoorP21
import Derived.Test.YtoimeckpnnkbpaaGreatDoorP00
set_option linter.unusedVariables false
set_option linter.unusedSimpArgs false
set_option linter.unusedSectionVars false
set_option maxHeartbeats 2000000
namespace Go.Abs.hk
open Go Go.Abs
noncomputable section
def aiv (ah:(ak gk))(ba:(gk->Option Bool)):(Int)->Option (dM (Int) (cP (Unit) (Int))):=fun i7=>(bif (decide (i7<ah.len))then((bQ ah.l i7).bind fun hh=>((ba hh).bind fun hM=>(bif hM then some (.out (.ret i7))else some (.next (bJ (i7+1))))))else some (.out (.go ())))
def Ws (ah:(ak gk))(ba:(gk->Option Bool)):Option (Int):=
 ((c0 (aiv ah ba) 0:Option (cP (Unit) (Int))).bind fun iJ=>match iJ with| .go _=>some (-1)| .ret pW=>some pW)
def DM (ah:(ak gk))(ba:(gk->Option Bool)):Option (Bool):=
 ((Ws ah ba).bind fun cb=>some (decide (cb>=0)))
def yT (ah:Int):Option (Bool):=
 some ((decide (ah>=97))&&(decide (ah<=122)))
def yU (ah:Int):Option (Bool):=
 some ((decide (ah>=48))&&(decide (ah<=57)))
def Ni (ah:bH)(ba:bH):Option (Bool):=
 (((bif (decide ((ah.length:Int)>=(ba.length:Int)))then((q0 ah 0 (ba.length:Int)).bind fun gR=>some (gR==ba))else some false):Option (Bool)).bind fun hg=>some hg)
def HL (ah:bH)(ba:bH):Option (Bool):=
 ((Ni ah ba).bind fun cb=>some cb)
def DN (ah:bH):(Int)->Option (dM (Int) (cP (Unit) (Unit))):=fun i7=>(bif (decide (i7<(ak.mk [[61,61],[33,61],[60,61],[62,61],[46,46]]).len))then((bQ (ak.mk [[61,61],[33,61],[60,61],[62,61],[46,46]]).l i7).bind fun hh=>((HL ah hh).bind fun hM=>(bif hM then some (.out (.ret ()))else some (.next (bJ (i7+1))))))else some (.out (.go ())))
def A7 (ah:bH):Option (Int):=
 ((c0 (DN ah) 0:Option (cP (Unit) (Unit))).bind fun iJ=>match iJ with| .go _=>(((bif (ah != [])then((bQ ah 0).bind fun aiw=>((strings_IndexByte [60,62,61,43,45,42,40,41,123,125,44,58,59] (aiw.toNat:Int)).bind fun pd=>some (decide (pd>=0))))else some false):Option (Bool)).bind fun vr=>(bif vr then some 1 else some 0))| .ret _=>some 2)
def DP (ah:bH):Option (Bool):=
 ((((bQ ah 0).bind fun dR=>((yT (dR.toNat:Int)).bind fun gR=>(bif gR then some true else((bQ ah 0).bind fun fl=>((yU (fl.toNat:Int)).bind fun oo=>(bif oo then some true else((A7 ah).bind fun vt=>some (decide (vt>0))))))))):Option (Bool)).bind fun hg=>some hg)
def DQ (ah:bH)(ba:(Int->Option Bool)):(Int)->Option (dM (Int) (Int)):=fun i7=>(((bif (decide (i7<(ah.length:Int)))then((bQ ah i7).bind fun hM=>((ba (hM.toNat:Int)).bind fun nM=>some nM))else some false):Option (Bool)).bind fun DR=>(bif DR then some (.next (bJ (i7+1)))else some (.out i7)))
def A8 (ah:bH)(ba:(Int->Option Bool)):Option (Int):=
 ((c0 (DQ ah ba) 0:Option (Int)).bind fun iJ=>some iJ)
def A9 (ah:Int):Option (Bool):=
 some ((ah==32)||((ah==9)||((ah==10)||(ah==13))))
def Ba (ah:Int):Option (Bool):=
 some (ah != 10)
def Bb (ah:bH):(Int)->Option (dM (Int) (cP (Int) (Int))):=fun i7=>(bif (decide (i7<(ah.length:Int)))then((bQ ah i7).bind fun hh=>((A9 (hh.toNat:Int)).bind fun hM=>(bif hM then some (.next (bJ (i7+1)))else((bQ ah i7).bind fun oq=>(bif ((oq.toNat:Int)==35)then((q0 ah i7 (ah.length:Int)).bind fun eN=>((A8 eN Ba).bind fun yV=>some (.next (bJ (i7+yV)))))else some (.out (.ret i7)))))))else some (.out (.go i7)))
def DS (ah:bH):Option (Int):=
 ((c0 (Bb ah) 0:Option (cP (Int) (Int))).bind fun iJ=>match iJ with| .go aix=>some aix| .ret aiy=>some aiy)
def DT (ah:Int):Option (Bool):=
 ((((yT ah).bind fun dR=>(bif dR then some true else((yU ah).bind fun kK=>(bif kK then some true else some (ah==95))))):Option (Bool)).bind fun hg=>some hg)
def HM (ba:(ak Table)):(Int)->Option (dM (Int) (cP (Unit) (Unit))):=fun i7=>(bif (decide (i7<ba.len))then((((bQ ba.l i7).bind fun hM=>(bif (decide ((hM.Name.length:Int)>40))then some true else((bQ ba.l i7).bind fun oq=>some (decide (oq.bP.len>12))))):Option (Bool)).bind fun aiz=>(bif aiz then some (.out (.ret ()))else some (.next (bJ (i7+1)))))else some (.out (.go ())))
def HN (ah:(ak Int))(ba:(ak Table)):Option (Bool):=
 ((c0 (HM ba) 0:Option (cP (Unit) (Unit))).bind fun iJ=>match iJ with| .go _=>some ((decide (ah.len<=12))&&(decide (ba.len<=20)))| .ret _=>some false)
def HO (ah:Model):(Int)->Option (dM (Int) (cP (Unit) (Unit))):=fun i26=>(bif (decide (i26<ah.fE.len))then((bQ ah.fE.l i26).bind fun DU=>(bif (decide ((DU.length:Int)>40))then some (.out (.ret ()))else some (.next (bJ (i26+1)))))else some (.out (.go ())))
def HP (ah:Model):(Int)->Option (dM (Int) (cP (Unit) (Unit))):=fun i49=>(bif (decide (i49<ah.fu.len))then((bQ ah.fu.l i49).bind fun DV=>(bif (decide (DV.Row.eT.len>20))then some (.out (.ret ()))else some (.next (bJ (i49+1)))))else some (.out (.go ())))
def HQ (ah:Model):(Int)->Option (dM (Int) (cP (Unit) (Unit))):=fun i72=>(bif (decide (i72<ah.Operations.len))then((((bQ ah.Operations.l i72).bind fun aiA=>(bif (decide ((aiA.Name.length:Int)>40))then some true else((bQ ah.Operations.l i72).bind fun aiB=>some (decide (aiB.bC.len>6))))):Option (Bool)).bind fun aiC=>(bif aiC then some (.out (.ret ()))else some (.next (bJ (i72+1)))))else some (.out (.go ())))
def HR (yW:Action):(Int)->Option (dM (Int) (cP (Unit) (Unit))):=fun i133=>(bif (decide (i133<yW.eK.ia.len))then((bQ yW.eK.ia.l i133).bind fun aiD=>(bif (decide (aiD.eT.len>20))then some (.out (.ret ()))else some (.next (bJ (i133+1)))))else some (.out (.go ())))
def HS (ah:Model):(Int)->Option (dM (Int) (cP (Unit) (Unit))):=fun i103=>(bif (decide (i103<ah.Actions.len))then((bQ ah.Actions.l i103).bind fun yW=>((((bQ ah.Actions.l i103).bind fun aiE=>(bif (decide (aiE.bL.len>6))then some true else(bif (decide (yW.eK.Delta.len>20))then some true else(bif (decide (yW.eK.ia.len>10))then some true else some (decide (yW.eK.hL.len>40)))))):Option (Bool)).bind fun aiF=>(bif aiF then some (.out (.ret ()))else((c0 (HR yW) 0:Option (cP (Unit) (Unit))).bind fun aiG=>match aiG with| .go _=>some (.next (bJ (i103+1)))| .ret _=>some (.out (.ret ()))))))else some (.out (.go ())))
def HU (ah:Model):Option (Bool):=
 (((bif (decide (ah.bC.len>8))then some true else(bif (decide (ah.Tables.len>6))then some true else(bif (decide (ah.fE.len>20))then some true else(bif (decide (ah.fu.len>60))then some true else(bif (decide (ah.Operations.len>8))then some true else(bif (decide (ah.Actions.len>30))then some true else(bif (decide (ah.b7.len>12))then some true else((HN ah.bC ah.Tables).bind fun hh=>some (!hh))))))))):Option (Bool)).bind fun ot=>(bif ot then some false else((c0 (HO ah) 0:Option (cP (Unit) (Unit))).bind fun vr=>match vr with| .go _=>((c0 (HP ah) 0:Option (cP (Unit) (Unit))).bind fun aiH=>match aiH with| .go _=>((c0 (HQ ah) 0:Option (cP (Unit) (Unit))).bind fun Nl=>match Nl with| .go _=>((c0 (HS ah) 0:Option (cP (Unit) (Unit))).bind fun aiI=>match aiI with| .go _=>some true| .ret _=>some false)| .ret _=>some false)| .ret _=>some false)| .ret _=>some false)))
def avY (ah:(ak Int)):(Int)->Option (dM (Int) (cP (Unit) (Unit))):=fun i7=>(bif (decide (i7<ah.len))then((((bQ ah.l i7).bind fun hM=>(bif (decide (hM<(-1000000)))then some true else((bQ ah.l i7).bind fun oq=>some (decide (oq>1000000))))):Option (Bool)).bind fun aiz=>(bif aiz then some (.out (.ret ()))else some (.next (bJ (i7+1)))))else some (.out (.go ())))
def auO (ah:(ak Int)):Option (Bool):=
 ((c0 (avY ah) 0:Option (cP (Unit) (Unit))).bind fun iJ=>match iJ with| .go _=>some (decide (ah.len<=128))| .ret _=>some false)
def aqq (ah:(ak Int))(ba:(ak Int)):(Int)->Option (dM (Int) (cP (Unit) (Unit))):=fun i8=>(bif (decide (i8<ah.len))then((bQ ah.l i8).bind fun hM=>((bQ ba.l i8).bind fun nM=>(bif (hM != nM)then some (.out (.ret ()))else some (.next (bJ (i8+1))))))else some (.out (.go ())))
def Qi (ah:(ak Int))(ba:(ak Int)):Option (Bool):=
 (bif (ah.len != ba.len)then some false else((c0 (aqq ah ba) 0:Option (cP (Unit) (Unit))).bind fun yY=>match yY with| .go _=>some true| .ret _=>some false))
def Bd (ah:Table):Option (Bool):=
 some ((ah.Kind==0)||(ah.Kind==1))
def HZ (ah:(ak Int))(ba:(ak Int)):(Int × Int)->Option (dM (Int × Int) (Int)):=fun⟨i8,i9⟩=>(bif (decide (i9<ba.len))then((bQ ba.l i9).bind fun nM=>((bQ ah.l nM).bind fun oq=>some (.next ((bJ (i8*oq)),(bJ (i9+1))))))else some (.out i8))
def tu (ah:(ak Int))(ba:(ak Int)):Option (Int):=
 ((c0 (HZ ah ba) (1,0):Option (Int)).bind fun yY=>some yY)
def aiL (ah:(ak Int))(ba:(Int->Option Bool)):(Int)->Option (dM (Int) (cP (Unit) (Int))):=fun i7=>(bif (decide (i7<ah.len))then((bQ ah.l i7).bind fun hh=>((ba hh).bind fun hM=>(bif hM then some (.out (.ret i7))else some (.next (bJ (i7+1))))))else some (.out (.go ())))
def Wu (ah:(ak Int))(ba:(Int->Option Bool)):Option (Int):=
 ((c0 (aiL ah ba) 0:Option (cP (Unit) (Int))).bind fun iJ=>match iJ with| .go _=>some (-1)| .ret pW=>some pW)
def DW (ah:(ak Int))(ba:(Int->Option Bool)):Option (Bool):=
 ((Wu ah ba).bind fun cb=>some (decide (cb>=0)))
def Nq (q5:(ak Int))(ah:Int):Option (Bool):=
 some ((decide (ah<0))||(decide (ah>=q5.len)))
def HX (ah:(ak Int))(ba:(ak Int)):Option (Bool):=
 (((bif (decide (ba.len<=3))then((DW ba (fun z0=>Nq ah z0)).bind fun mm=>some (!mm))else some false):Option (Bool)).bind fun ot=>some ot)
def HV (ah:Int)(ba:Int)(pX:Int):Option (Bool):=
 some ((decide (ah>=ba))&&(decide (ah<=pX)))
def Np (ah:Int):Option (Bool):=
 ((HV ah 1 6).bind fun cb=>some (!cb))
def HW (ah:(ak Int)):Option (Bool):=
 ((DW ah Np).bind fun cb=>some (!cb))
def aiJ (ah:(ak Bool))(ba:Bool):(Int)->Option (dM (Int) (cP (Unit) (Int))):=fun i7=>(bif (decide (i7<ah.len))then((bQ ah.l i7).bind fun hh=>(bif (ba==hh)then some (.out (.ret i7))else some (.next (bJ (i7+1)))))else some (.out (.go ())))
def Wt (ah:(ak Bool))(ba:Bool):Option (Int):=
 ((c0 (aiJ ah ba) 0:Option (cP (Unit) (Int))).bind fun iJ=>match iJ with| .go _=>some (-1)| .ret aiK=>some aiK)
def Nn (ah:(ak Bool))(ba:Bool):Option (Bool):=
 ((Wt ah ba).bind fun cb=>some (decide (cb>=0)))
def Bc (ah:(ak Bool)):Option (Bool):=
 ((Nn ah false).bind fun cb=>some (!cb))
def yX (ah:bH):Option (Bool):=
 (((bif (decide ((ah.length:Int)<=16))then((pU ah).bind fun gR=>some (gR==1))else some false):Option (Bool)).bind fun hg=>some hg)
def HY (ah:Table):Option (Bool):=
 (((((bif (ah.Kind==1)then some (ah.Kind==1)else(bif (ah.Kind==4)then some (ah.Kind==4)else some (ah.Kind==5))):Option (Bool)).bind fun iJ=>(bif iJ then some (.ret ((decide (ah.Range.kI<=ah.Range.kJ))&&((decide (ah.Range.kI>=(-9999)))&&(decide (ah.Range.kJ<=9999)))))else some (.go ()))):Option (cP (Unit) (Bool))).bind fun ot=>match ot with| .go _=>some ((ah.Range.kI==0)&&((ah.Range.kJ==1)&&true))| .ret aiM=>some aiM)
def Be (ah:(ak Int))(ba:(ak Table)):(Int × Int × Int × (List (bH × Bool)))->Option (dM (Int × Int × Int × (List (bH × Bool))) (cP (Int × Int) (Unit))):=fun⟨i29,i30,i31,i32⟩=>(bif (decide (i29<ba.len))then((bQ ba.l i29).bind fun q6=>((yX q6.Name).bind fun Bf=>((HV q6.Kind 0 5).bind fun aiN=>((HX ah q6.bP).bind fun aiO=>((HY q6).bind fun vu=>((Bc (ak.mk [Bf,(!((iH i32 q6.Name).getD false)),aiN,aiO,vu])).bind fun yZ=>(bif yZ then((Bd q6).bind fun tv=>(bif tv then(bif (q6.dG != i31)then some (.out (.ret ()))else((tu ah q6.bP).bind fun nf=>some (.next ((bJ (i29+1)),i30,(bJ (i31+nf)),(mg i32 q6.Name true)))))else(bif (q6.dG != i30)then some (.out (.ret ()))else((tu ah q6.bP).bind fun w2=>some (.next ((bJ (i29+1)),(bJ (i30+w2)),i31,(mg i32 q6.Name true)))))))else some (.out (.ret ())))))))))else some (.out (.go (i30,i31))))
def Bg (ah:(ak Int))(ba:(ak Table)):Option (Bool):=
 ((HW ah).bind fun cb=>((Bc (ak.mk [(decide (ah.len<=4)),(decide (ba.len<=12)),cb])).bind fun dR=>(bif dR then((c0 (Be ah ba) (0,0,0,[]):Option (cP (Int × Int) (Unit))).bind fun aiP=>match aiP with| .go (⟨aiQ,aiR⟩)=>some ((decide (aiR<=128))&&(decide (aiQ<=64)))| .ret _=>some false)else some false)))
def DX (ah:(ak bH)):(Int × (List (bH × Bool)))->Option (dM (Int × (List (bH × Bool))) (cP (Unit) (Unit))):=fun⟨i12,i13⟩=>(bif (decide (i12<ah.len))then((bQ ah.l i12).bind fun yV=>((((yX yV).bind fun Nr=>(bif Nr then some ((iH i13 yV).getD false)else some true)):Option (Bool)).bind fun aiS=>(bif aiS then some (.out (.ret ()))else some (.next ((bJ (i12+1)),(mg i13 yV true))))))else some (.out (.go ())))
def DY (ah:(ak bH)):Option (Bool):=
 ((c0 (DX ah) (0,[]):Option (cP (Unit) (Unit))).bind fun vv=>match vv with| .go _=>some true| .ret _=>some false)
def DZ (ah:(ak Int))(ba:(ak Table))(pX:Bool):(Int × (ak Range))->Option (dM (Int × (ak Range)) ((ak Range))):=fun⟨i13,i14⟩=>(bif (decide (i13<ba.len))then((bQ ba.l i13).bind fun ng=>((Bd ng).bind fun q7=>(bif (q7==pX)then((tu ah ng.bP).bind fun DU=>((DJ (ak.mk [ng.Range]) DU).bind fun y0=>((lG 16 i14 y0).bind fun aiT=>some (.next ((bJ (i13+1)),aiT)))))else some (.next ((bJ (i13+1)),i14)))))else some (.out i14))
def D0 (ah:(ak Int))(ba:(ak Table))(pX:Bool):Option ((ak Range)):=
 ((Bg ah ba).bind fun cb=>(bif cb then((c0 (DZ ah ba pX) (0,.nil):Option ((ak Range))).bind fun DR=>some DR)else some ak.nil))
def kg (ah:Int)(ba:Int):Option (Bool):=
 some ((decide (ah>=0))&&(decide (ah<ba)))
def y1 (ah:Int)(ba:Int):Option (Bool):=
 some ((decide (ah>=(bJ (0-ba))))&&(decide (ah<=ba)))
def D1 (ah:dN)(ba:Row):(Int × Int)->Option (dM (Int × Int) (cP (Unit) (Unit))):=fun⟨i16,i17⟩=>(bif (decide (i17<ba.eT.len))then((bQ ba.eT.l i17).bind fun ng=>(((bif (decide (ng.Cell<=i16))then some true else(bif (decide (ng.Cell>=ah.strict.len))then some true else(bif (ng.pT==0)then some true else((y1 ng.pT 1000).bind fun Bh=>some (!Bh))))):Option (Bool)).bind fun Ns=>(bif Ns then some (.out (.ret ()))else some (.next (ng.Cell,(bJ (i17+1)))))))else some (.out (.go ())))
def D2 (ah:dN)(ba:Row):Option (Bool):=
 ((c0 (D1 ah ba) ((-1),0):Option (cP (Unit) (Unit))).bind fun y3=>match y3 with| .go _=>((y1 ba.q3 1000000000).bind fun Nt=>some Nt)| .ret _=>some false)
def aiU (ah:(ak Table))(ba:(Table->Option Bool)):(Int)->Option (dM (Int) (cP (Unit) (Int))):=fun i7=>(bif (decide (i7<ah.len))then((bQ ah.l i7).bind fun hh=>((ba hh).bind fun hM=>(bif hM then some (.out (.ret i7))else some (.next (bJ (i7+1))))))else some (.out (.go ())))
def Wv (ah:(ak Table))(ba:(Table->Option Bool)):Option (Int):=
 ((c0 (aiU ah ba) 0:Option (cP (Unit) (Int))).bind fun iJ=>match iJ with| .go _=>some (-1)| .ret pW=>some pW)
def Nu (ah:(ak Table))(ba:(Table->Option Bool)):Option (Bool):=
 ((Wv ah ba).bind fun cb=>some (decide (cb>=0)))
def H5 (q5:Constraint)(Nv:dN)(ah:Table):Option (Bool):=
 (((bif (ah.Kind==0)then(bif (ah.bP.len==2)then((bQ ah.bP.l 0).bind fun vt=>((bQ ah.bP.l 1).bind fun w3=>(bif (vt==w3)then(bif (ah.dG==q5.dG)then((bQ ah.bP.l 0).bind fun D3=>((bQ Nv.Model.bC.l D3).bind fun hh=>some (hh==q5.w1)))else some false)else some false)))else some false)else some false):Option (Bool)).bind fun ot=>some ot)
def H6 (ah:dN)(ba:Constraint):Option (Bool):=
 (((bif (ba.Row.eT.len==0)then(bif (ba.Row.q3==0)then((Nu ah.Model.Tables (fun z0=>H5 ba ah z0)).bind fun D3=>some D3)else some false)else some false):Option (Bool)).bind fun aiV=>some aiV)
def H7 (ah:(ak Term))(ba:(ak Term)):(Int)->Option (dM (Int) (cP (Unit) (Unit))):=fun i8=>(bif (decide (i8<ah.len))then((bQ ah.l i8).bind fun hM=>((bQ ba.l i8).bind fun nM=>(bif ((hM.Cell==nM.Cell)&&((hM.pT==nM.pT)&&true))then some (.next (bJ (i8+1)))else some (.out (.ret ())))))else some (.out (.go ())))
def Bi (ah:(ak Term))(ba:(ak Term)):Option (Bool):=
 (bif (ah.len != ba.len)then some false else((c0 (H7 ah ba) 0:Option (cP (Unit) (Unit))).bind fun yY=>match yY with| .go _=>some true| .ret _=>some false))
def H8 (ah:Row)(ba:Int)(pX:Int)(tw:Int):Option (Bool):=
 ((((Bi ah.eT (ak.mk [(Term.mk ba pX)])).bind fun oo=>(bif oo then some (ah.q3==tw)else some false)):Option (Bool)).bind fun ot=>some ot)
def D4 (ah:dN):(Int)->Option (dM (Int) (cP (Unit) (Unit))):=fun i16=>(bif (decide (i16<ah.Model.fu.len))then((bQ ah.Model.fu.l i16).bind fun mn=>((((kg mn.yR ah.Model.fE.len).bind fun q7=>(bif q7 then(bif (mn.Kind==0)then(((bif (mn.dG != 0)then some true else(bif (mn.w1 != 0)then some true else((D2 ah mn.Row).bind fun hq=>some (!hq)))):Option (Bool)).bind fun aiW=>(bif aiW then some (.ret ())else some (.go ())))else(((bif (mn.Kind != 1)then some true else((H6 ah mn).bind fun Bf=>some (!Bf))):Option (Bool)).bind fun aiX=>(bif aiX then some (.ret ())else some (.go ()))))else some (.ret ()))):Option (cP (Unit) (Unit))).bind fun Nw=>match Nw with| .go _=>(bif (decide ((bJ (i16.tdiv 2))<ah.strict.len))then((bQ ah.strict.l (bJ (i16.tdiv 2))).bind fun w2=>(((bif ((i16.tmod 2)==0)then some ((-1),(bJ (0-w2.kI)))else some (1,w2.kJ)):Option (Int × Int)).bind fun Nx=>match Nx with|⟨aiY,aiZ⟩=>(((bif (mn.Kind != 0)then some true else((H8 mn.Row (bJ (i16.tdiv 2)) aiY aiZ).bind fun ai0=>some (!ai0))):Option (Bool)).bind fun ai1=>(bif ai1 then some (.out (.ret ()))else some (.next (bJ (i16+1)))))))else some (.next (bJ (i16+1))))| .ret _=>some (.out (.ret ()))))else some (.out (.go ())))
def H9 (ah:dN):Option (Bool):=
 (bif ((decide (ah.Model.fu.len>512))||(decide (ah.Model.fu.len<(bJ (2*ah.strict.len)))))then some false else((c0 (D4 ah) 0:Option (cP (Unit) (Unit))).bind fun y3=>match y3 with| .go _=>some true| .ret _=>some false))
def Ia (q5:dN)(ah:Int):Option (Bool):=
 some ((decide (ah<(-1)))||(decide (ah>=q5.Model.bC.len)))
def D5 (ah:dN):(Int × (ak bH))->Option (dM (Int × (ak bH)) (cP ((ak bH)) (Unit))):=fun⟨i15,i16⟩=>(bif (decide (i15<ah.Model.Operations.len))then((bQ ah.Model.Operations.l i15).bind fun vw=>((lG 16 i16 (ak.mk [vw.Name])).bind fun ai2=>(((bif (decide (vw.bC.len>3))then some true else((DW vw.bC (fun z0=>Ia ah z0)).bind fun ai3=>some ai3)):Option (Bool)).bind fun ai4=>(bif ai4 then some (.out (.ret ()))else some (.next ((bJ (i15+1)),ai2))))))else some (.out (.go i16)))
def Ib (ah:dN):Option (Bool):=
 ((c0 (D5 ah) (0,.nil):Option (cP ((ak bH)) (Unit))).bind fun Nz=>match Nz with| .go Ww=>(((bif (decide (Ww.len<=8))then((DY Ww).bind fun D6=>some D6)else some false):Option (Bool)).bind fun Nx=>some Nx)| .ret _=>some false)
def Ic (ah:Int):Option (Bool):=
 some (ah != ah)
def Ie (ah:Int)(ba:Int):Option (Int):=
 ((Ic ah).bind fun cb=>((Ic ba).bind fun dR=>(bif cb then(bif dR then some 0 else some (-1))else(bif dR then some 1 else(bif (decide (ah<ba))then some (-1)else(bif (decide (ah>ba))then some 1 else some 0))))))
def Bj (ah:(ak Int))(ba:(ak Int)):(Int)->Option (dM (Int) (cP (Unit) (Int))):=fun i7=>(bif (decide (i7<ah.len))then((bQ ah.l i7).bind fun hh=>(bif (decide (i7>=ba.len))then some (.out (.ret 1))else((bQ ba.l i7).bind fun nM=>((Ie hh nM).bind fun oq=>(bif (oq != 0)then some (.out (.ret oq))else some (.next (bJ (i7+1))))))))else some (.out (.go ())))
def D7 (ah:(ak Int))(ba:(ak Int)):Option (Int):=
 ((c0 (Bj ah ba) 0:Option (cP (Unit) (Int))).bind fun iJ=>match iJ with| .go _=>(bif (decide (ah.len<ba.len))then some (-1)else some 0)| .ret ai5=>some ai5)
def Ig (ah:(ak Int))(mn:Table):(Int × Int × (ak Int))->Option (dM (Int × Int × (ak Int)) ((ak Int))):=fun⟨i58,i59,i60⟩=>(bif (decide (i59>=0))then((bQ mn.bP.l i59).bind fun D6=>((bQ ah.l D6).bind fun Ii=>((DC i58 Ii).bind fun NA=>((DB i58 Ii).bind fun ai6=>((bQ i60.l i59).bind fun Wx=>((bQ i60.l i59).bind fun w4=>some (.next (ai6,(bJ (i59-1)),(o9 i60 i59 NA)))))))))else some (.out i60))
def D8 (ah:(ak Int))(ba:(ak Table))(pX:Bool)(tw:Int):(Int)->Option (dM (Int) (cP (Unit) (Int × (ak Int)))):=fun i16=>(bif (decide (i16<ba.len))then((bQ ba.l i16).bind fun mn=>((((Bd mn).bind fun q7=>(bif (q7==pX)then(bif (decide ((bJ (tw-mn.dG))<0))then some true else((tu ah mn.bP).bind fun y0=>some (decide ((bJ (tw-mn.dG))>=y0))))else some true)):Option (Bool)).bind fun Nw=>(bif Nw then some (.next (bJ (i16+1)))else((yI 8 0 mn.bP.len).bind fun D9=>((c0 (Ig ah mn) ((bJ (tw-mn.dG)),(bJ (D9.len-1)),D9):Option ((ak Int))).bind fun NB=>some (.out (.ret (i16,NB))))))))else some (.out (.go ())))
def Ea (ah:(ak Int))(ba:(ak Table))(pX:Bool)(tw:Int):Option (Int × (ak Int) × Bool):=
 ((((Bg ah ba).bind fun dR=>(bif dR then some (decide (tw<0))else some true)):Option (Bool)).bind fun hg=>(bif hg then some (0,ak.nil,false)else((c0 (D8 ah ba pX tw) 0:Option (cP (Unit) (Int × (ak Int)))).bind fun y3=>match y3 with| .go _=>some (0,ak.nil,false)| .ret (⟨ai7,ai8⟩)=>some (ai7,ai8,true))))
def Ij (ah:dN)(ba:mj):Option (Bool):=
 ((Ea ah.Model.bC ah.Model.Tables false ba.Cell).bind fun w3=>(bif w3.2.2 then((bQ ah.Model.Tables.l w3.1).bind fun Eb=>(((bif (Eb.Kind==2)then some (Eb.Kind==2)else some (Eb.Kind==3)):Option (Bool)).bind fun ai9=>(bif ai9 then some (bif (ba.Kind==0)then(ba.Value==0)else((ba.Kind==1)&&(ba.Value==0)))else some ((ba.Kind==2)&&((decide (ba.Value>=Eb.Range.kI))&&(decide (ba.Value<=Eb.Range.kJ)))))))else some false))
def aja (ah:(ak Row))(ba:(Row->Option Bool)):(Int)->Option (dM (Int) (cP (Unit) (Int))):=fun i7=>(bif (decide (i7<ah.len))then((bQ ah.l i7).bind fun hh=>((ba hh).bind fun hM=>(bif hM then some (.out (.ret i7))else some (.next (bJ (i7+1))))))else some (.out (.go ())))
def Wy (ah:(ak Row))(ba:(Row->Option Bool)):Option (Int):=
 ((c0 (aja ah ba) 0:Option (cP (Unit) (Int))).bind fun iJ=>match iJ with| .go _=>some (-1)| .ret pW=>some pW)
def NC (ah:(ak Row))(ba:(Row->Option Bool)):Option (Bool):=
 ((Wy ah ba).bind fun cb=>some (decide (cb>=0)))
def Ik (q5:dN)(ah:Row):Option (Bool):=
 ((D2 q5 ah).bind fun fl=>some (!fl))
def Ec (ah:dN)(ba:eK):(Int × Int)->Option (dM (Int × Int) (cP (Unit) (Unit))):=fun⟨i16,i17⟩=>(bif (decide (i17<ba.Delta.len))then((bQ ba.Delta.l i17).bind fun ng=>(((bif (decide (ng.Cell<=i16))then some true else(bif (decide (ng.Cell>=ah.strict.len))then some true else(bif (ng.Add==0)then some true else((y1 ng.Add 1000000000).bind fun Bh=>some (!Bh))))):Option (Bool)).bind fun Ns=>(bif Ns then some (.out (.ret ()))else some (.next (ng.Cell,(bJ (i17+1)))))))else some (.out (.go ())))
def Ed (ah:dN)(ba:eK):(Int × Int)->Option (dM (Int × Int) (cP (Unit) (Unit))):=fun⟨i57,i58⟩=>(bif (decide (i58<ba.hL.len))then((bQ ba.hL.l i58).bind fun w5=>(((bif (decide (w5.Cell<=i57))then some true else((Ij ah w5).bind fun Wx=>some (!Wx))):Option (Bool)).bind fun Nl=>(bif Nl then some (.out (.ret ()))else some (.next (w5.Cell,(bJ (i58+1)))))))else some (.out (.go ())))
def Il (ah:dN)(ba:eK):Option (Bool):=
 ((c0 (Ec ah ba) ((-1),0):Option (cP (Unit) (Unit))).bind fun y3=>match y3 with| .go _=>((c0 (Ed ah ba) ((-1),0):Option (cP (Unit) (Unit))).bind fun ajc=>match ajc with| .go _=>(((bif (decide (ba.ia.len<=8))then(bif (decide (ba.hL.len<=32))then((NC ba.ia (fun z0=>Ik ah z0)).bind fun ajd=>some (!ajd))else some false)else some false):Option (Bool)).bind fun aje=>some aje)| .ret _=>some false)| .ret _=>some false)
def Im (ah:dN)(eN:Action)(Io:cl):(Int)->Option (dM (Int) (cP (Unit) (Unit))):=fun i42=>(bif (decide (i42<Io.bC.len))then((bQ Io.bC.l i42).bind fun vu=>((bQ eN.bL.l i42).bind fun yZ=>(((bif (decide (vu<0))then((y1 yZ 9999).bind fun ND=>(bif ND then(bif (decide (vu>=0))then((bQ ah.Model.bC.l vu).bind fun DV=>((kg yZ DV).bind fun nf=>some (!nf)))else some false)else some true))else(bif (decide (vu>=0))then((bQ ah.Model.bC.l vu).bind fun NF=>((kg yZ NF).bind fun ajf=>some (!ajf)))else some false)):Option (Bool)).bind fun Ee=>(bif Ee then some (.out (.ret ()))else some (.next (bJ (i42+1)))))))else some (.out (.go ())))
def Ef (ah:dN):(Int)->Option (dM (Int) (cP (Unit) (Unit))):=fun i12=>(bif (decide (i12<ah.Model.Actions.len))then((bQ ah.Model.Actions.l i12).bind fun eN=>((((kg eN.cl ah.Model.Operations.len).bind fun sj=>(bif sj then((bQ ah.Model.Operations.l eN.cl).bind fun pd=>some (eN.bL.len != pd.bC.len))else some true)):Option (Bool)).bind fun vr=>(bif vr then some (.out (.ret ()))else((bQ ah.Model.Operations.l eN.cl).bind fun Io=>((c0 (Im ah eN Io) 0:Option (cP (Unit) (Unit))).bind fun ajg=>match ajg with| .go _=>(((bif (decide (i12>0))then((bQ ah.Model.Actions.l (bJ (i12-1))).bind fun w4=>(((bif (decide (w4.cl>eN.cl))then some true else(bif (w4.cl==eN.cl)then((D7 w4.bL eN.bL).bind fun NG=>some (decide (NG>=0)))else some false)):Option (Bool)).bind fun NH=>(bif NH then some (.ret ())else some (.go ()))))else some (.go ())):Option (cP (Unit) (Unit))).bind fun ajh=>match ajh with| .go _=>((Il ah eN.eK).bind fun aji=>(bif aji then some (.next (bJ (i12+1)))else some (.out (.ret ()))))| .ret _=>some (.out (.ret ())))| .ret _=>some (.out (.ret ())))))))else some (.out (.go ())))
def Iq (ah:dN):Option (Bool):=
 (bif (decide (ah.Model.Actions.len>256))then some false else((c0 (Ef ah) 0:Option (cP (Unit) (Unit))).bind fun vv=>match vv with| .go _=>some true| .ret _=>some false))
def ou (ah:Model):Option (Bool):=
 ((((Bg ah.bC ah.Tables).bind fun oo=>(bif oo then(bif (decide (ah.fE.len>24))then some true else((DY ah.fE).bind fun w3=>some (!w3)))else some true)):Option (Bool)).bind fun ot=>(bif ot then some false else((D0 ah.bC ah.Tables true).bind fun oq=>((((H9 (dN.mk ah oq)).bind fun NI=>(bif NI then((Ib (dN.mk ah oq)).bind fun sj=>(bif sj then((Iq (dN.mk ah oq)).bind fun pd=>(bif pd then((Wq (dN.mk ah oq)).bind fun q7=>some q7)else some false))else some false))else some false)):Option (Bool)).bind fun Bl=>some Bl))))
def Iz (ah:Model)(ba:Bool):Option ((ak Range)):=
 ((ou ah).bind fun fl=>(bif fl then((D0 ah.bC ah.Tables ba).bind fun mm=>some mm)else some ak.nil))
def Ql (ah:Model):Option ((ak Range)):=
 ((Iz ah true).bind fun fl=>some fl)
def avZ (fl:(ak Range)):(Int × (ak Int))->Option (dM (Int × (ak Int)) ((ak Int))):=fun⟨i16,i17⟩=>(bif (decide (i16<fl.len))then((bQ fl.l i16).bind fun sj=>((lG 8 i17 (ak.mk [(min (max 0 sj.kI) sj.kJ)])).bind fun aFL=>some (.next ((bJ (i16+1)),aFL))))else some (.out i17))
def av2 (ah:Model):Option ((ak Int)):=
 ((Ql ah).bind fun fl=>((c0 (avZ fl) (0,.nil):Option ((ak Int))).bind fun y3=>some y3))
def ayO (ah:(ak Int)):(Int)->Option (dM (Int) (cP (Unit) (Unit))):=fun i7=>(bif (decide (i7<ah.len))then((((bQ ah.l i7).bind fun hM=>(bif (decide (hM<1))then some true else((bQ ah.l i7).bind fun oq=>some (decide (oq>6))))):Option (Bool)).bind fun aiz=>(bif aiz then some (.out (.ret ()))else some (.next (bJ (i7+1)))))else some (.out (.go ())))
def aws (ah:(ak Int)):Option (Bool):=
 ((c0 (ayO ah) 0:Option (cP (Unit) (Unit))).bind fun iJ=>match iJ with| .go _=>some true| .ret _=>some false)
def awt (ah:(ak Int))(ba:(ak Int)):(Int × Int)->Option (dM (Int × Int) (cP (Int) (Unit))):=fun⟨i17,i18⟩=>(bif (decide (i18<ba.len))then((((bQ ba.l i18).bind fun vw=>(bif (decide (vw<0))then some true else((bQ ba.l i18).bind fun aiw=>some (decide (aiw>=ah.len))))):Option (Bool)).bind fun awu=>(bif awu then some (.out (.ret ()))else((bQ ba.l i18).bind fun Bh=>((bQ ah.l Bh).bind fun Io=>some (.next ((bJ (i17*Io)),(bJ (i18+1))))))))else some (.out (.go i17)))
def avk (ah:(ak Int))(ba:(ak Int)):Option (Int):=
 (((bif (decide (ba.len>3))then some true else((aws ah).bind fun gR=>some (!gR))):Option (Bool)).bind fun hg=>(bif hg then some 0 else((c0 (awt ah ba) (1,0):Option (cP (Int) (Unit))).bind fun avu=>match avu with| .go ayP=>some ayP| .ret _=>some 0)))
def awv (ah:Int):Option (Bool):=
 some ((ah==9)||((ah==10)||((ah==13)||(ah==32))))
def aww (ah:bH):(Int)->Option (dM (Int) (Int)):=fun i32=>(((bif (decide (i32<(ah.length:Int)))then((bQ ah i32).bind fun Bm=>some ((Bm.toNat:Int) != 10))else some false):Option (Bool)).bind fun NJ=>(bif NJ then some (.next (bJ (i32+1)))else some (.out i32)))
def avQ (ah:bH):(Int)->Option (dM (Int) (Int)):=fun i7=>(((bif (decide (i7<(ah.length:Int)))then((bQ ah i7).bind fun hM=>((awv (hM.toNat:Int)).bind fun nM=>(bif nM then some true else((bQ ah i7).bind fun ajp=>some ((ajp.toNat:Int)==35)))))else some false):Option (Bool)).bind fun DR=>(bif DR then((bQ ah i7).bind fun NI=>(bif ((NI.toNat:Int)==35)then((c0 (aww ah) i7:Option (Int)).bind fun ajm=>some (.next ajm))else some (.next (bJ (i7+1)))))else some (.out i7)))
def awx (ah:bH)(ba:Int):Option (Int):=
 ((c0 (avQ ah) ba:Option (Int)).bind fun iJ=>some iJ)
def axz (ah:(ak bH))(ba:bH):(Int)->Option (dM (Int) (cP (Unit) (Unit))):=fun i7=>(bif (decide (i7<ah.len))then((bQ ah.l i7).bind fun hh=>(bif (hh==ba)then some (.out (.ret ()))else some (.next (bJ (i7+1)))))else some (.out (.go ())))
def awy (ah:(ak bH))(ba:bH):Option (Bool):=
 ((c0 (axz ah ba) 0:Option (cP (Unit) (Unit))).bind fun iJ=>match iJ with| .go _=>some false| .ret _=>some true)
def avR (ah:Int):Option (Bool):=
 some ((decide (ah>=97))&&(decide (ah<=122)))
def avv (ah:Int):Option (Bool):=
 some ((decide (ah>=48))&&(decide (ah<=57)))
def axA  :Option ((ak bH)):=
 some (ak.mk [[115,111,114,116],[114,101,108,97,116,105,111,110],[99,111,117,110,116,101,114],[115,101,116],[114,101,103,105,115,116,101,114],[105,110,118,97,114,105,97,110,116],[111,112,101,114,97,116,105,111,110],[107,101,121],[114,101,102,101,114,101,110,99,101],[116,111],[99,111,117,110,116],[97,99,121,99,108,105,99],[97,108,108],[115,117,109],[105,110],[97,100,100,119,105,110,115],[114,101,109,111,118,101,119,105,110,115],[108,97,115,116],[109,117,108,116,105],[104,105,100,101],[111,114,100,101,114,101,100],[114,101,113,117,105,114,101],[104,111,108,100],[105,110,115,101,114,116],[100,101,108,101,116,101],[97,100,100],[102,114,111,109],[112,117,116],[100,114,111,112],[97,115,115,105,103,110],[102,111,114],[119,104,101,114,101],[97,110,100],[111,114],[110,111,116]])
def axB  :Option ((ak bH)):=
 some (ak.mk [[61,61],[33,61],[60,61],[62,61],[46,46],[60],[62],[61],[43],[45],[42],[40],[41],[123],[125],[44],[58],[59]])
def awz (ah:bH)(ba:Int)(cb:(ak bH)):(Int)->Option (dM (Int) (cP (Unit) (Int))):=fun i8=>(bif (decide (i8<cb.len))then((bQ cb.l i8).bind fun hM=>(((bif (decide ((bJ (ba+(hM.length:Int)))<=(ah.length:Int)))then((q0 ah ba (bJ (ba+(hM.length:Int)))).bind fun ajp=>((bQ cb.l i8).bind fun eN=>some (ajp==eN)))else some false):Option (Bool)).bind fun y3=>(bif y3 then some (.out (.ret (hM.length:Int)))else some (.next (bJ (i8+1))))))else some (.out (.go ())))
def awA (ah:bH)(ba:Int):Option (Int):=
 ((axB).bind fun cb=>((c0 (awz ah ba cb) 0:Option (cP (Unit) (Int))).bind fun yY=>match yY with| .go _=>some 0| .ret aIi=>some aIi))
def axC (ah:bH):(Int)->Option (dM (Int) (Int)):=fun i10=>(((bif (decide (i10<(ah.length:Int)))then((bQ ah i10).bind fun ajp=>((avR (ajp.toNat:Int)).bind fun eN=>(bif eN then some true else((bQ ah i10).bind fun awB=>((avv (awB.toNat:Int)).bind fun Nr=>(bif Nr then some true else((bQ ah i10).bind fun ng=>some ((ng.toNat:Int)==95))))))))else some false):Option (Bool)).bind fun y3=>(bif y3 then some (.next (bJ (i10+1)))else some (.out i10)))
def axD (ah:bH):(Int)->Option (dM (Int) (Int)):=fun i50=>(((bif (decide (i50<(ah.length:Int)))then((bQ ah i50).bind fun pe=>((avv (pe.toNat:Int)).bind fun NF=>some NF))else some false):Option (Bool)).bind fun aIj=>(bif aIj then some (.next (bJ (i50+1)))else some (.out i50)))
def avS (ah:bH):(Int)->Option (dM (Int) (Int)):=fun i80=>(((bif (decide (i80<(ah.length:Int)))then((bQ ah i80).bind fun NG=>((awv (NG.toNat:Int)).bind fun aIk=>(bif aIk then some false else((bQ ah i80).bind fun auY=>(bif ((auY.toNat:Int) != 35)then((bQ ah i80).bind fun ajd=>((avR (ajd.toNat:Int)).bind fun aIl=>(bif aIl then some false else((bQ ah i80).bind fun aIm=>((avv (aIm.toNat:Int)).bind fun auP=>(bif auP then some false else((awA ah i80).bind fun ayJ=>some (ayJ==0))))))))else some false)))))else some false):Option (Bool)).bind fun aIn=>(bif aIn then some (.next (bJ (i80+1)))else some (.out i80)))
def axE (ah:bH)(ba:Int):Option (Int × Int):=
 ((bQ ah ba).bind fun cb=>((avR (cb.toNat:Int)).bind fun dR=>(bif dR then((c0 (axC ah) ba:Option (Int)).bind fun aiV=>((axA).bind fun gl=>((q0 ah ba aiV).bind fun q6=>((awy gl q6).bind fun Bm=>(bif Bm then some (2,aiV)else some (1,aiV))))))else((bQ ah ba).bind fun ai3=>((avv (ai3.toNat:Int)).bind fun ajj=>(bif ajj then((c0 (axD ah) ba:Option (Int)).bind fun aIo=>some (3,aIo))else((awA ah ba).bind fun ai6=>(bif (decide (ai6>0))then some (4,(bJ (ba+ai6)))else((c0 (avS ah) ba:Option (Int)).bind fun aIp=>some (5,aIp))))))))))
def avw (ah:bH):(Int × (ak Token))->Option (dM (Int × (ak Token)) (Int × (ak Token))):=fun⟨i12,i13⟩=>((awx ah i12).bind fun Nr=>(bif (decide (Nr<(ah.length:Int)))then((awx ah i12).bind fun ng=>((axE ah ng).bind fun NI=>((lG 32 i13 (ak.mk [(Token.mk NI.1 i12 ng NI.2)])).bind fun nN=>some (.next (NI.2,nN)))))else some (.out (i12,i13))))
def ayQ (ah:bH):Option ((ak Token) × Int):=
 (bif (decide ((ah.length:Int)>4096))then some (ak.nil,8)else((c0 (avw ah) (0,.emp):Option (Int × (ak Token))).bind fun vv=>match vv with|⟨ayP,aIq⟩=>((lG 32 aIq (ak.mk [(Token.mk 0 ayP (ah.length:Int) (ah.length:Int))])).bind fun aIr=>some (aIr,0))))
def axF (ah:bH):Option (Int):=
 ((ayQ ah).bind fun cb=>(((bif (cb.2 != 0)then some true else(bif (cb.1.len != 2)then some true else((bQ cb.1.l 0).bind fun fl=>(bif (fl.At != 0)then some true else((bQ cb.1.l 0).bind fun mm=>some (mm.End != (ah.length:Int))))))):Option (Bool)).bind fun ahu=>(bif ahu then some 0 else((bQ cb.1.l 0).bind fun hM=>some hM.Kind))))
def ajb (ah:bH):Option (Bool):=
 ((((axF ah).bind fun dR=>(bif (dR==1)then some (decide ((ah.length:Int)<=16))else some false)):Option (Bool)).bind fun hg=>some hg)
def avx (ah:Int):Option (Bool):=
 some ((ah==0)||(ah==1))
def awC (ba:(ak Table))(i21:Int)(aiw:Table):(Int)->Option (dM (Int) (cP (Unit) (Unit))):=fun i40=>(bif (decide (i40<i21))then((bQ ba.l i40).bind fun aiN=>(bif (aiN.Name==aiw.Name)then some (.out (.ret ()))else some (.next (bJ (i40+1)))))else some (.out (.go ())))
def avT (ah:(ak Int))(ba:(ak Table)):(Int × Int × Int)->Option (dM (Int × Int × Int) (cP (Int × Int) (Unit))):=fun⟨i19,i20,i21⟩=>(bif (decide (i21<ba.len))then((bQ ba.l i21).bind fun aiw=>((c0 (awC ba i21 aiw) 0:Option (cP (Unit) (Unit))).bind fun ai4=>match ai4 with| .go _=>((avk ah aiw.bP).bind fun pe=>((((ajb aiw.Name).bind fun ajf=>(bif ajf then(bif (decide (aiw.Kind<0))then some true else(bif (decide (aiw.Kind>5))then some true else some (pe==0)))else some true)):Option (Bool)).bind fun aIs=>(bif aIs then some (.out (.ret ()))else(bif ((decide (aiw.Range.kI>aiw.Range.kJ))||((decide (aiw.Range.kI<(-9999)))||(decide (aiw.Range.kJ>9999))))then some (.out (.ret ()))else(bif (bif (aiw.Kind==0)then((aiw.Range.kI != 0)||(aiw.Range.kJ != 1))else(bif (aiw.Kind==2)then((aiw.Range.kI != 0)||(aiw.Range.kJ != 1))else((aiw.Kind==3)&&((aiw.Range.kI != 0)||(aiw.Range.kJ != 1)))))then some (.out (.ret ()))else((avx aiw.Kind).bind fun aIt=>(bif aIt then(bif (aiw.dG != i19)then some (.out (.ret ()))else some (.next ((bJ (i19+pe)),i20,(bJ (i21+1)))))else(bif (aiw.dG != i20)then some (.out (.ret ()))else some (.next (i19,(bJ (i20+pe)),(bJ (i21+1))))))))))))| .ret _=>some (.out (.ret ()))))else some (.out (.go (i19,i20))))
def avU (ah:(ak Int))(ba:(ak Table)):Option (Bool):=
 (((bif (decide (ah.len>4))then some true else((aws ah).bind fun gR=>(bif gR then some (decide (ba.len>12))else some true))):Option (Bool)).bind fun hg=>(bif hg then some false else((c0 (avT ah ba) (0,0,0):Option (cP (Int × Int) (Unit))).bind fun ai9=>match ai9 with| .go (⟨aIu,aIv⟩)=>some ((decide (aIu<=128))&&(decide (aIv<=64)))| .ret _=>some false)))
def awD (ah:(ak bH)):(Int)->Option (dM (Int) (cP (Unit) (Unit))):=fun i7=>(bif (decide (i7<ah.len))then((((bQ ah.l i7).bind fun hM=>((ajb hM).bind fun nM=>(bif nM then((o8 ah 0 i7).bind fun aIw=>((bQ ah.l i7).bind fun eN=>((awy aIw eN).bind fun yV=>some yV)))else some true))):Option (Bool)).bind fun aiz=>(bif aiz then some (.out (.ret ()))else some (.next (bJ (i7+1)))))else some (.out (.go ())))
def awE (ah:(ak bH)):Option (Bool):=
 ((c0 (awD ah) 0:Option (cP (Unit) (Unit))).bind fun iJ=>match iJ with| .go _=>some true| .ret _=>some false)
def avy (ah:(ak Int))(ba:(ak Table))(pX:Bool)(i13:Int):(Int × (ak Range))->Option (dM (Int × (ak Range)) ((ak Range))):=fun⟨i33,i34⟩=>((((bQ ba.l i13).bind fun ajk=>((avx ajk.Kind).bind fun avh=>(bif (avh==pX)then((bQ ba.l i13).bind fun aiN=>((avk ah aiN.bP).bind fun aiO=>some (decide (i33<aiO))))else some false))):Option (Bool)).bind fun aIx=>(bif aIx then((bQ ba.l i13).bind fun au8=>((lG 16 i34 (ak.mk [au8.Range])).bind fun aIy=>some (.next ((bJ (i33+1)),aIy))))else some (.out i34)))
def axG (ah:(ak Int))(ba:(ak Table))(pX:Bool):(Int × (ak Range))->Option (dM (Int × (ak Range)) ((ak Range))):=fun⟨i13,i14⟩=>(bif (decide (i13<ba.len))then((c0 (avy ah ba pX i13) (0,i14):Option ((ak Range))).bind fun aIz=>some (.next ((bJ (i13+1)),aIz)))else some (.out i14))
def axH (ah:(ak Int))(ba:(ak Table))(pX:Bool):Option ((ak Range)):=
 ((avU ah ba).bind fun cb=>(bif cb then((c0 (axG ah ba pX) (0,.emp):Option ((ak Range))).bind fun DR=>some DR)else some ak.emp))
def avz (ah:Model):Option ((ak Range)):=
 ((axH ah.bC ah.Tables true).bind fun fl=>some fl)
def aIA (ah:(ak Term))(ba:(ak Term)):(Int)->Option (dM (Int) (cP (Unit) (Unit))):=fun i8=>(bif (decide (i8<ah.len))then((bQ ah.l i8).bind fun hM=>((bQ ba.l i8).bind fun nM=>(bif ((hM.Cell==nM.Cell)&&((hM.pT==nM.pT)&&true))then some (.next (bJ (i8+1)))else some (.out (.ret ())))))else some (.out (.go ())))
def ayR (ah:(ak Term))(ba:(ak Term)):Option (Bool):=
 (bif (ah.len != ba.len)then some false else((c0 (aIA ah ba) 0:Option (cP (Unit) (Unit))).bind fun yY=>match yY with| .go _=>some true| .ret _=>some false))
def awF (ah:Row)(ba:Row):Option (Bool):=
 (((bif (ah.q3==ba.q3)then((ayR ah.eT ba.eT).bind fun Eb=>some Eb)else some false):Option (Bool)).bind fun aiV=>some aiV)
def au9 (ah:Int)(ba:Int):Option (Bool):=
 some ((decide (ah>=(bJ (0-ba))))&&(decide (ah<=ba)))
def awG (ah:Row)(ba:Int):(Int)->Option (dM (Int) (cP (Unit) (Unit))):=fun i11=>(bif (decide (i11<ah.eT.len))then((bQ ah.eT.l i11).bind fun ajp=>(((bif (decide (ajp.Cell<0))then some true else(bif (decide (ajp.Cell>=ba))then some true else(bif (decide (i11>0))then((bQ ah.eT.l (bJ (i11-1))).bind fun pd=>(bif (decide (pd.Cell>=ajp.Cell))then some true else(bif (ajp.pT==0)then some true else((au9 ajp.pT 1000).bind fun ajt=>some (!ajt)))))else(bif (ajp.pT==0)then some true else((au9 ajp.pT 1000).bind fun y0=>some (!y0)))))):Option (Bool)).bind fun awu=>(bif awu then some (.out (.ret ()))else some (.next (bJ (i11+1))))))else some (.out (.go ())))
def awH (ah:Row)(ba:Int):Option (Bool):=
 ((c0 (awG ah ba) 0:Option (cP (Unit) (Unit))).bind fun ayS=>match ayS with| .go _=>((au9 ah.q3 1000000000).bind fun yZ=>some yZ)| .ret _=>some false)
def axI (ah:Model)(ba:Constraint):(Int)->Option (dM (Int) (cP (Unit) (Unit))):=fun i20=>(bif (decide (i20<ah.Tables.len))then((bQ ah.Tables.l i20).bind fun sj=>(((bif (sj.Kind==0)then(bif (sj.bP.len==2)then((bQ sj.bP.l 0).bind fun hq=>((bQ sj.bP.l 1).bind fun gl=>(bif (hq==gl)then(bif (sj.dG==ba.dG)then((bQ sj.bP.l 0).bind fun auX=>((bQ ah.bC.l auX).bind fun ai3=>some (ai3==ba.w1)))else some false)else some false)))else some false)else some false):Option (Bool)).bind fun aiW=>(bif aiW then some (.out (.ret ()))else some (.next (bJ (i20+1))))))else some (.out (.go ())))
def axJ (ah:Model)(ba:Constraint):Option (Bool):=
 (bif ((decide (ba.Row.eT.len>0))||(ba.Row.q3 != 0))then some false else((c0 (axI ah ba) 0:Option (cP (Unit) (Unit))).bind fun ayT=>match ayT with| .go _=>some false| .ret _=>some true))
def awI (ah:Model)(fl:(ak Range)):(Int)->Option (dM (Int) (cP (Unit) (Unit))):=fun i17=>(bif (decide (i17<fl.len))then((bQ fl.l i17).bind fun ng=>((bQ fl.l i17).bind fun q7=>((((bQ ah.fu.l (bJ (2*i17))).bind fun q6=>((awF q6.Row (Row.mk (ak.mk [(Term.mk i17 (-1))]) (bJ (0-ng.kI)))).bind fun Bm=>(bif Bm then((bQ ah.fu.l (bJ ((bJ (2*i17))+1))).bind fun ai3=>((awF ai3.Row (Row.mk (ak.mk [(Term.mk i17 1)]) q7.kJ)).bind fun ajj=>some (!ajj)))else some true))):Option (Bool)).bind fun NJ=>(bif NJ then some (.out (.ret ()))else some (.next (bJ (i17+1)))))))else some (.out (.go ())))
def awJ (ah:Model)(fl:(ak Range)):(Int)->Option (dM (Int) (cP (Unit) (Unit))):=fun i64=>(bif (decide (i64<ah.fu.len))then((bQ ah.fu.l i64).bind fun Ii=>(bif ((decide (Ii.yR<0))||(decide (Ii.yR>=ah.fE.len)))then some (.out (.ret ()))else(((bif (Ii.Kind==0)then(bif (Ii.dG==0)then(bif (Ii.w1==0)then((awH Ii.Row fl.len).bind fun aIB=>some aIB)else some false)else some false)else some false):Option (Bool)).bind fun aIC=>(((bif aIC then some false else(bif (decide (i64>=(bJ (2*fl.len))))then(bif (Ii.Kind==1)then((axJ ah Ii).bind fun auP=>some (!auP))else some true)else some true)):Option (Bool)).bind fun aID=>(bif aID then some (.out (.ret ()))else some (.next (bJ (i64+1))))))))else some (.out (.go ())))
def axK (ah:Model):Option (Bool):=
 ((avz ah).bind fun fl=>(bif ((decide (ah.fu.len<(bJ (2*fl.len))))||(decide (ah.fu.len>512)))then some false else((c0 (awI ah fl) 0:Option (cP (Unit) (Unit))).bind fun avu=>match avu with| .go _=>((c0 (awJ ah fl) 0:Option (cP (Unit) (Unit))).bind fun aIE=>match aIE with| .go _=>some true| .ret _=>some false)| .ret _=>some false)))
def awK (ah:(ak Int))(ba:(ak Int)):(Int)->Option (dM (Int) (cP (Unit) (Bool))):=fun i7=>(bif ((decide (i7<ah.len))&&(decide (i7<ba.len)))then((bQ ah.l i7).bind fun ajp=>((bQ ba.l i7).bind fun eN=>(bif (ajp != eN)then((bQ ah.l i7).bind fun awB=>((bQ ba.l i7).bind fun Nr=>some (.out (.ret (decide (awB<Nr))))))else some (.next (bJ (i7+1))))))else some (.out (.go ())))
def awL (ah:(ak Int))(ba:(ak Int)):Option (Bool):=
 ((c0 (awK ah ba) 0:Option (cP (Unit) (Bool))).bind fun iJ=>match iJ with| .go _=>some (decide (ah.len<ba.len))| .ret aIF=>some aIF)
def ayU (ah:(ak Int))(ba:(ak Int)):(Int × Int × (ak Int))->Option (dM (Int × Int × (ak Int)) ((ak Int))):=fun⟨i19,i20,i21⟩=>(bif (decide (i20>=0))then((bQ ba.l i20).bind fun q7=>((bQ ah.l q7).bind fun ajt=>((DC i19 ajt).bind fun DU=>((bQ i21.l i20).bind fun y0=>((bQ i21.l i20).bind fun gl=>((bQ ba.l i20).bind fun ajj=>((bQ ah.l ajj).bind fun ajk=>((DB i19 ajk).bind fun avh=>some (.next (avh,(bJ (i20-1)),(o9 i21 i20 DU)))))))))))else some (.out i21))
def awM (ah:(ak Int))(ba:(ak Int))(pX:Int):Option ((ak Int)):=
 ((yI 8 0 ba.len).bind fun s1=>((c0 (ayU ah ba) (pX,(bJ (ba.len-1)),s1):Option ((ak Int))).bind fun ai9=>some ai9))
def awN (ah:(ak Int))(ba:(ak Table))(pX:Bool)(tw:Int):(Int)->Option (dM (Int) (cP (Unit) (Int × (ak Int)))):=fun i9=>(bif (decide (i9<ba.len))then((bQ ba.l i9).bind fun nM=>((((bQ ba.l i9).bind fun ajp=>((avx ajp.Kind).bind fun eN=>(bif (eN==pX)then(bif (decide (tw>=0))then(bif (decide ((bJ (tw-nM.dG))>=0))then((bQ ba.l i9).bind fun mn=>((avk ah mn.bP).bind fun ng=>some (decide ((bJ (tw-nM.dG))<ng))))else some false)else some false)else some false))):Option (Bool)).bind fun avu=>(bif avu then((bQ ba.l i9).bind fun q7=>((awM ah q7.bP (bJ (tw-nM.dG))).bind fun ajt=>some (.out (.ret (i9,ajt)))))else some (.next (bJ (i9+1))))))else some (.out (.go ())))
def axL (ah:(ak Int))(ba:(ak Table))(pX:Bool)(tw:Int):Option (Int × (ak Int) × Bool):=
 ((avU ah ba).bind fun cb=>(bif cb then((c0 (awN ah ba pX tw) 0:Option (cP (Unit) (Int × (ak Int)))).bind fun aIG=>match aIG with| .go _=>some (0,ak.nil,false)| .ret (⟨aIH,aII⟩)=>some (aIH,aII,true))else some (0,ak.nil,false)))
def axM (ah:Int):Option (Bool):=
 some ((ah==2)||(ah==3))
def awO (ba:eK)(w3:(ak Range)):(Int)->Option (dM (Int) (cP (Unit) (Unit))):=fun i16=>(bif (decide (i16<ba.Delta.len))then((bQ ba.Delta.l i16).bind fun mn=>(((bif (decide (mn.Cell<0))then some true else(bif (decide (mn.Cell>=w3.len))then some true else(bif (decide (i16>0))then((bQ ba.Delta.l (bJ (i16-1))).bind fun y0=>(bif (decide (y0.Cell>=mn.Cell))then some true else(bif (mn.Add==0)then some true else((au9 mn.Add 1000000000).bind fun hq=>some (!hq)))))else(bif (mn.Add==0)then some true else((au9 mn.Add 1000000000).bind fun q6=>some (!q6)))))):Option (Bool)).bind fun Nw=>(bif Nw then some (.out (.ret ()))else some (.next (bJ (i16+1))))))else some (.out (.go ())))
def axN (ba:eK)(w3:(ak Range)):(Int)->Option (dM (Int) (cP (Unit) (Unit))):=fun i60=>(bif (decide (i60<ba.ia.len))then((bQ ba.ia.l i60).bind fun aIJ=>((awH aIJ w3.len).bind fun ajn=>(bif ajn then some (.next (bJ (i60+1)))else some (.out (.ret ())))))else some (.out (.go ())))
def awP (ah:Model)(ba:eK):(Int)->Option (dM (Int) (cP (Unit) (Unit))):=fun i84=>(bif (decide (i84<ba.hL.len))then((bQ ba.hL.l i84).bind fun auY=>((axL ah.bC ah.Tables false auY.Cell).bind fun pf=>(((bif pf.2.2 then(bif (decide (i84>0))then((bQ ba.hL.l (bJ (i84-1))).bind fun aji=>some (decide (aji.Cell>=auY.Cell)))else some false)else some true):Option (Bool)).bind fun aIK=>(bif aIK then some (.out (.ret ()))else((bQ ah.Tables.l pf.1).bind fun axO=>((((axM axO.Kind).bind fun aIL=>(bif aIL then(bif (auY.Kind != 0)then(bif (auY.Kind != 1)then some true else some (auY.Value != 0))else some (auY.Value != 0))else some false)):Option (Bool)).bind fun aIM=>(bif aIM then some (.out (.ret ()))else((((axM axO.Kind).bind fun ayV=>(bif ayV then some false else(bif (auY.Kind != 2)then some true else(bif (decide (auY.Value<axO.Range.kI))then some true else some (decide (auY.Value>axO.Range.kJ)))))):Option (Bool)).bind fun aIN=>(bif aIN then some (.out (.ret ()))else some (.next (bJ (i84+1))))))))))))else some (.out (.go ())))
def axP (ah:Model)(ba:eK):Option (Bool):=
 ((avz ah).bind fun w3=>((c0 (awO ba w3) 0:Option (cP (Unit) (Unit))).bind fun y3=>match y3 with| .go _=>((c0 (axN ba w3) 0:Option (cP (Unit) (Unit))).bind fun aIO=>match aIO with| .go _=>((c0 (awP ah ba) 0:Option (cP (Unit) (Unit))).bind fun aIP=>match aIP with| .go _=>some ((decide (ba.ia.len<=8))&&(decide (ba.hL.len<=32)))| .ret _=>some false)| .ret _=>some false)| .ret _=>some false))
def axQ (ah:Model)(vw:cl):(Int)->Option (dM (Int) (cP (Unit) (Unit))):=fun i45=>(bif (decide (i45<vw.bC.len))then((((bQ vw.bC.l i45).bind fun ND=>(bif (decide (ND<(-1)))then some true else((bQ vw.bC.l i45).bind fun au8=>some (decide (au8>=ah.bC.len))))):Option (Bool)).bind fun ayN=>(bif ayN then some (.out (.ret ()))else some (.next (bJ (i45+1)))))else some (.out (.go ())))
def awQ (ah:Model):(Int × (ak bH))->Option (dM (Int × (ak bH)) (cP ((ak bH)) (Unit))):=fun⟨i15,i16⟩=>(bif (decide (i15<ah.Operations.len))then((bQ ah.Operations.l i15).bind fun vw=>((lG 16 i16 (ak.mk [vw.Name])).bind fun ai2=>((c0 (axQ ah vw) 0:Option (cP (Unit) (Unit))).bind fun aIQ=>match aIQ with| .go _=>(bif (decide (vw.bC.len>3))then some (.out (.ret ()))else some (.next ((bJ (i15+1)),ai2)))| .ret _=>some (.out (.ret ())))))else some (.out (.go i16)))
def axR (ah:Model)(aiE:Action):(Int)->Option (dM (Int) (cP (Unit) (Unit))):=fun i140=>(bif (decide (i140<aiE.bL.len))then((bQ ah.Operations.l aiE.cl).bind fun aIR=>((bQ aIR.bC.l i140).bind fun awR=>(((bif (decide (awR<0))then((bQ aiE.bL.l i140).bind fun aIS=>((au9 aIS 9999).bind fun aIT=>(bif aIT then(bif (decide (awR>=0))then((bQ aiE.bL.l i140).bind fun aIU=>(bif (decide (aIU<0))then some true else((bQ aiE.bL.l i140).bind fun aIV=>((bQ ah.bC.l awR).bind fun aIW=>some (decide (aIV>=aIW))))))else some false)else some true)))else(bif (decide (awR>=0))then((bQ aiE.bL.l i140).bind fun aIX=>(bif (decide (aIX<0))then some true else((bQ aiE.bL.l i140).bind fun aIY=>((bQ ah.bC.l awR).bind fun aIZ=>some (decide (aIY>=aIZ))))))else some false)):Option (Bool)).bind fun aI0=>(bif aI0 then some (.out (.ret ()))else some (.next (bJ (i140+1)))))))else some (.out (.go ())))
def awS (ah:Model):(Int)->Option (dM (Int) (cP (Unit) (Unit))):=fun i111=>(bif (decide (i111<ah.Actions.len))then((bQ ah.Actions.l i111).bind fun aiE=>(((bif (decide (aiE.cl<0))then some true else(bif (decide (aiE.cl>=ah.Operations.len))then some true else((bQ ah.Operations.l aiE.cl).bind fun ayV=>some (aiE.bL.len != ayV.bC.len)))):Option (Bool)).bind fun aI1=>(bif aI1 then some (.out (.ret ()))else((c0 (axR ah aiE) 0:Option (cP (Unit) (Unit))).bind fun aI2=>match aI2 with| .go _=>(((bif (decide (i111>0))then((bQ ah.Actions.l (bJ (i111-1))).bind fun avA=>(((bif (decide (avA.cl>aiE.cl))then some true else(bif (avA.cl==aiE.cl)then((awL avA.bL aiE.bL).bind fun ayW=>some (!ayW))else some false)):Option (Bool)).bind fun ayX=>(bif ayX then some (.ret ())else some (.go ()))))else some (.go ())):Option (cP (Unit) (Unit))).bind fun aI3=>match aI3 with| .go _=>((axP ah aiE.eK).bind fun aI4=>(bif aI4 then some (.next (bJ (i111+1)))else some (.out (.ret ()))))| .ret _=>some (.out (.ret ())))| .ret _=>some (.out (.ret ()))))))else some (.out (.go ())))
def axS (ah:Model):Option (Bool):=
 ((c0 (awQ ah) (0,.emp):Option (cP ((ak bH)) (Unit))).bind fun Nz=>match Nz with| .go aI5=>(((bif (decide (ah.Operations.len>8))then some true else((awE aI5).bind fun pf=>(bif pf then some (decide (ah.Actions.len>256))else some true))):Option (Bool)).bind fun aI6=>(bif aI6 then some false else((c0 (awS ah) 0:Option (cP (Unit) (Unit))).bind fun aI7=>match aI7 with| .go _=>some true| .ret _=>some false)))| .ret _=>some false)
def auL (ah:Model)(ba:Int)(pX:Int)(tw:Int)(avB:Model->Int->Int->Int->Option (Bool)):(Int)->Option (dM (Int) (cP (Unit) (Unit))):=fun i12=>(bif ((decide (i12<ah.b7.len))&&(decide (tw>0)))then((((bQ ah.b7.l i12).bind fun ng=>(bif (ng.Table==ba)then((bQ ah.b7.l i12).bind fun vw=>((avB ah vw.da pX (bJ (tw-1))).bind fun sj=>some sj))else some false)):Option (Bool)).bind fun ajv=>(bif ajv then some (.out (.ret ()))else some (.next (bJ (i12+1)))))else some (.out (.go ())))
def auQ (avB:Model->Int->Int->Int->Option (Bool))(ah:Model)(ba:Int)(pX:Int)(tw:Int):Option (Bool):=
 (bif (ba==pX)then some true else((c0 (auL ah ba pX tw avB) 0:Option (cP (Unit) (Unit))).bind fun vv=>match vv with| .go _=>some false| .ret _=>some true))
def axT (ah:Model)(ba:Int)(pX:Int)(tw:Int):Option (Bool):=avf (A:=Model × Int × Int × Int) (fun g p=>auQ (fun c6 cb dR gR=>g (c6,cb,dR,gR)) p.1 p.2.1 p.2.2.1 p.2.2.2) (ah,ba,pX,tw)
def axU (ah:Model):(Int)->Option (dM (Int) (cP (Unit) (Unit))):=fun i12=>(bif (decide (i12<ah.b7.len))then((bQ ah.b7.l i12).bind fun eN=>(bif ((decide (eN.Table<0))||((decide (eN.Table>=ah.Tables.len))||((decide (eN.da<0))||((decide (eN.da>=ah.Tables.len))||(eN.Table==eN.da)))))then some (.out (.ret ()))else((bQ ah.Tables.l eN.Table).bind fun y0=>((bQ ah.Tables.l eN.da).bind fun Bh=>(((bif (y0.Kind != 0)then some true else(bif (Bh.Kind != 0)then some true else(bif (decide (eN.jt<0))then some true else(bif (decide (eN.jt>=y0.bP.len))then some true else(bif (Bh.bP.len != 1)then some true else((bQ Bh.bP.l 0).bind fun tv=>((bQ y0.bP.l eN.jt).bind fun au8=>some (tv != au8)))))))):Option (Bool)).bind fun aI8=>(bif aI8 then some (.out (.ret ()))else some (.next (bJ (i12+1)))))))))else some (.out (.go ())))
def axV (ah:Model):(Int)->Option (dM (Int) (cP (Unit) (Unit))):=fun i76=>(bif (decide (i76<ah.b7.len))then((bQ ah.b7.l i76).bind fun aI9=>((bQ ah.b7.l i76).bind fun aJa=>((axT ah aI9.da aJa.Table ah.Tables.len).bind fun aJb=>(bif aJb then some (.out (.ret ()))else some (.next (bJ (i76+1)))))))else some (.out (.go ())))
def axW (ah:Model):Option (Bool):=
 (bif (decide (ah.b7.len>12))then some false else((c0 (axU ah) 0:Option (cP (Unit) (Unit))).bind fun vv=>match vv with| .go _=>((c0 (axV ah) 0:Option (cP (Unit) (Unit))).bind fun ajh=>match ajh with| .go _=>some true| .ret _=>some false)| .ret _=>some false))
def avV (ah:Model):Option (Bool):=
 ((((avU ah.bC ah.Tables).bind fun oo=>(bif oo then(bif (decide (ah.fE.len>24))then some true else((awE ah.fE).bind fun w3=>some (!w3)))else some true)):Option (Bool)).bind fun ot=>(bif ot then some false else((((axK ah).bind fun ajp=>(bif ajp then((axS ah).bind fun yV=>(bif yV then((axW ah).bind fun Nr=>some Nr)else some false))else some false)):Option (Bool)).bind fun avu=>some avu)))
def avW (ah:Model):Option ((ak Range)):=
 ((avV ah).bind fun fl=>(bif fl then((avz ah).bind fun mm=>some mm)else some ak.nil))
def axn (ah:Range):Option (Int):=
 some (min (max 0 ah.kI) ah.kJ)
def av3 (fl:(ak Range)):(Int × (ak Int))->Option (dM (Int × (ak Int)) ((ak Int))):=fun⟨i16,i17⟩=>(bif (decide (i16<fl.len))then((bQ fl.l i16).bind fun sj=>((axn sj).bind fun aiw=>((lG 8 i17 (ak.mk [aiw])).bind fun vZ=>some (.next ((bJ (i16+1)),vZ)))))else some (.out i17))
def av4 (ah:Model):Option ((ak Int)):=
 ((avW ah).bind fun fl=>((c0 (av3 fl) (0,.emp):Option ((ak Int))).bind fun y3=>some y3))
def av5 (ah:(ak Int))(ba:(ak Table))(pX:Bool):Option (Int):=
 ((D0 ah ba pX).bind fun cb=>some cb.len)
def auR (ah:Model)(ba:(ak Int)):Option (Bool):=
 ((((ou ah).bind fun oo=>(bif oo then((av5 ah.bC ah.Tables true).bind fun vt=>some (ba.len==vt))else some false)):Option (Bool)).bind fun ot=>some ot)
def aFM (ah:(ak Constraint))(ba:(Constraint->Option Bool)):(Int)->Option (dM (Int) (cP (Unit) (Int))):=fun i7=>(bif (decide (i7<ah.len))then((bQ ah.l i7).bind fun hh=>((ba hh).bind fun hM=>(bif hM then some (.out (.ret i7))else some (.next (bJ (i7+1))))))else some (.out (.go ())))
def aCd (ah:(ak Constraint))(ba:(Constraint->Option Bool)):Option (Int):=
 ((c0 (aFM ah ba) 0:Option (cP (Unit) (Int))).bind fun iJ=>match iJ with| .go _=>some (-1)| .ret pW=>some pW)
def axo (ah:(ak Constraint))(ba:(Constraint->Option Bool)):Option (Bool):=
 ((aCd ah ba).bind fun cb=>some (decide (cb>=0)))
def auS (ah:Constraint)(ba:Int):Option (Bool):=
 some ((ah.Kind==1)&&((decide (ah.w1>=1))&&((decide (ah.w1<=6))&&((decide (ah.dG>=0))&&(decide (ah.dG<=(bJ (ba-(bJ (ah.w1*ah.w1))))))))))
def avc (q5:(ak Int))(Nv:Constraint)(ah:Int)(ba:Int):Option (Bool):=
 ((bQ q5.l (bJ ((bJ (Nv.dG+(bJ (ah*Nv.w1))))+ba))).bind fun cb=>some (decide (cb>=1)))
def aFN (ah:(ak Int))(ba:Int):(Int)->Option (dM (Int) (cP (Unit) (Int))):=fun i7=>(bif (decide (i7<ah.len))then((bQ ah.l i7).bind fun hh=>(bif (ba==hh)then some (.out (.ret i7))else some (.next (bJ (i7+1)))))else some (.out (.go ())))
def aCe (ah:(ak Int))(ba:Int):Option (Int):=
 ((c0 (aFN ah ba) 0:Option (cP (Unit) (Int))).bind fun iJ=>match iJ with| .go _=>some (-1)| .ret aiK=>some aiK)
def av6 (ah:(ak Int))(ba:Int):Option (Bool):=
 ((aCe ah ba).bind fun cb=>some (decide (cb>=0)))
def av7 (ah:Constraint):(Int × (ak (ak Int)))->Option (dM (Int × (ak (ak Int))) ((ak (ak Int)))):=fun⟨i21,i22⟩=>(bif (decide (i21<ah.w1))then((lG 24 i22 (ak.mk [(ak.mk [i21])])).bind fun aFO=>some (.next ((bJ (i21+1)),aFO)))else some (.out i22))
def avd (ah:Constraint)(ba:(ak Int))(auP:(ak Int))(pf:Int):(Int × (ak (ak Int)))->Option (dM (Int × (ak (ak Int))) ((ak (ak Int)))):=fun⟨i112,i113⟩=>(bif (decide (i112<ah.w1))then((((avc ba ah pf i112).bind fun aFP=>(bif aFP then((av6 auP i112).bind fun aFQ=>some (!aFQ))else some false)):Option (Bool)).bind fun aFR=>(bif aFR then((HD 8 auP).bind fun aFS=>((lG 8 aFS (ak.mk [i112])).bind fun aFT=>((lG 24 i113 (ak.mk [aFT])).bind fun aFU=>some (.next ((bJ (i112+1)),aFU)))))else some (.next ((bJ (i112+1)),i113))))else some (.out i113))
def ave (ah:Constraint)(ba:(ak Int))(i63:(ak (ak Int))):(Int × (ak (ak Int)))->Option (dM (Int × (ak (ak Int))) (cP ((ak (ak Int))) ((ak Int)))):=fun⟨i82,i83⟩=>(bif (decide (i82<i63.len))then((bQ i63.l i82).bind fun ajd=>((bQ i63.l i82).bind fun auP=>((bQ auP.l (bJ (auP.len-1))).bind fun pf=>((bQ auP.l 0).bind fun ayJ=>((avc ba ah pf ayJ).bind fun aFV=>(bif aFV then some (.out (.ret auP))else((bQ auP.l 0).bind fun aji=>((c0 (avd ah ba auP pf) ((bJ (aji+1)),i83):Option ((ak (ak Int)))).bind fun aFW=>some (.next ((bJ (i82+1)),aFW))))))))))else some (.out (.go i83)))
def auT (ah:Constraint)(ba:(ak Int)):((ak (ak Int)))->Option (dM ((ak (ak Int))) (cP (Unit) ((ak Int)))):=fun i63=>(bif (decide (i63.len>0))then((c0 (ave ah ba i63) (0,.nil):Option (cP ((ak (ak Int))) ((ak Int)))).bind fun aFX=>match aFX with| .go aFY=>some (.next aFY)| .ret aFZ=>some (.out (.ret aFZ)))else some (.out (.go ())))
def awa (ah:Constraint)(ba:(ak Int)):Option ((ak Int)):=
 ((auS ah ba.len).bind fun w3=>(bif w3 then((c0 (av7 ah) (0,.nil):Option ((ak (ak Int)))).bind fun aiS=>((c0 (auT ah ba) aiS:Option (cP (Unit) ((ak Int)))).bind fun aF0=>match aF0 with| .go _=>some ak.nil| .ret aF1=>some aF1))else some ak.nil))
def aCf (ah:Int)(ba:Int)(pX:Int):Option (Bool):=
 some ((decide ((bJ (ah+(ba/2^32)))<(pX/2^32)))||(((bJ (ah+(ba/2^32)))==(pX/2^32))&&(decide ((bJ ((BitVec.ofInt (IntKind.i64).bits ba &&& BitVec.ofInt (IntKind.i64).bits 4294967295).toNat))<=(bJ ((BitVec.ofInt (IntKind.i64).bits pX &&& BitVec.ofInt (IntKind.i64).bits 4294967295).toNat))))))
def agt (ah:Constraint)(ba:(ak Int)):(Int × Int × Int)->Option (dM (Int × Int × Int) (cP (Int × Int) (Unit))):=fun⟨i23,i24,i25⟩=>(bif (decide (i25<ah.Row.eT.len))then((bQ ah.Row.eT.l i25).bind fun ajt=>(bif ((decide (ajt.Cell<0))||(decide (ajt.Cell>=ba.len)))then some (.out (.ret ()))else((bQ ba.l ajt.Cell).bind fun ajk=>((bQ ba.l ajt.Cell).bind fun avh=>some (.next ((bJ (i23+(bJ (ajt.pT*(bJ (ajk.tdiv 4294967296)))))),(bJ (i24+(bJ (ajt.pT*(avh.tmod 4294967296))))),(bJ (i25+1))))))))else some (.out (.go (i23,i24))))
def zw (ah:Constraint)(ba:(ak Int)):Option (Bool):=
 (bif (ah.Kind==1)then((((auS ah ba.len).bind fun mm=>(bif mm then((awa ah ba).bind fun w3=>some (w3.len==0))else some false)):Option (Bool)).bind fun iJ=>some iJ)else((c0 (agt ah ba) (0,0,0):Option (cP (Int × Int) (Unit))).bind fun ajv=>match ajv with| .go (⟨aF2,aF3⟩)=>(((bif (ah.Kind==0)then((aCf aF2 aF3 ah.Row.q3).bind fun NF=>some NF)else some false):Option (Bool)).bind fun ajc=>some ajc)| .ret _=>some false))
def awb (q5:(ak Int))(ah:Constraint):Option (Bool):=
 ((zw ah q5).bind fun fl=>some (!fl))
def awc (ah:Model)(ba:(ak Int)):Option (Bool):=
 ((((auR ah ba).bind fun avg=>(bif avg then((axo ah.fu (fun z0=>awb ba z0)).bind fun D3=>some (!D3))else some false)):Option (Bool)).bind fun aiV=>some aiV)
def auU (ah:Model)(ba:(ak Int)):Option (Bool):=
 ((((avV ah).bind fun oo=>(bif oo then((avW ah).bind fun vt=>some (ba.len==vt.len))else some false)):Option (Bool)).bind fun ot=>some ot)
def avi (ah:Constraint)(ba:Int):(Int)->Option (dM (Int) (cP (Unit) (Unit))):=fun i18=>(bif (decide (i18<ah.Row.eT.len))then((((bQ ah.Row.eT.l i18).bind fun vw=>(bif (decide (vw.Cell<0))then some true else((bQ ah.Row.eT.l i18).bind fun aiw=>some (decide (aiw.Cell>=ba))))):Option (Bool)).bind fun awu=>(bif awu then some (.out (.ret ()))else some (.next (bJ (i18+1)))))else some (.out (.go ())))
def auV (ah:Constraint)(ba:Int):Option (Bool):=
 (bif (ah.Kind==1)then some ((decide (ah.w1>=1))&&((decide (ah.w1<=6))&&((decide (ah.dG>=0))&&(decide (ah.dG<=(bJ (ba-(bJ (ah.w1*ah.w1)))))))))else((c0 (avi ah ba) 0:Option (cP (Unit) (Unit))).bind fun auH=>match auH with| .go _=>some (ah.Kind==0)| .ret _=>some false))
def avj (ah:Constraint)(ba:(ak Int))(pX:Int)(tw:Int):Option (Bool):=
 ((bQ ba.l (bJ ((bJ (ah.dG+(bJ (pX*ah.w1))))+tw))).bind fun fl=>some (decide (fl>=1)))
def awd (ah:(ak Int))(ba:Int):(Int)->Option (dM (Int) (cP (Unit) (Unit))):=fun i7=>(bif (decide (i7<ah.len))then((bQ ah.l i7).bind fun hh=>(bif (hh==ba)then some (.out (.ret ()))else some (.next (bJ (i7+1)))))else some (.out (.go ())))
def awe (ah:(ak Int))(ba:Int):Option (Bool):=
 ((c0 (awd ah ba) 0:Option (cP (Unit) (Unit))).bind fun iJ=>match iJ with| .go _=>some false| .ret _=>some true)
def aju (ah:Constraint)(ba:(ak Int))(pX:(ak Int))(tw:Int)(avB:Constraint->(ak Int)->(ak Int)->Int->Option ((ak (ak Int))))(fl:Int):(Int × (ak (ak Int)))->Option (dM (Int × (ak (ak Int))) ((ak (ak Int)))):=fun⟨i21,i22⟩=>(bif (decide (i21<ah.w1))then((((awe pX i21).bind fun DU=>(bif DU then some true else((avj ah ba fl i21).bind fun Bh=>some (!Bh)))):Option (Bool)).bind fun ajm=>(bif ajm then some (.next ((bJ (i21+1)),i22))else((lG 8 ak.emp pX).bind fun aF4=>((lG 8 aF4 (ak.mk [i21])).bind fun aF5=>((avB ah ba aF5 tw).bind fun DV=>((lG 24 i22 DV).bind fun aF6=>some (.next ((bJ (i21+1)),aF6))))))))else some (.out i22))
def auW (avB:Constraint->(ak Int)->(ak Int)->Int->Option ((ak (ak Int))))(ah:Constraint)(ba:(ak Int))(pX:(ak Int))(tw:Int):Option ((ak (ak Int))):=
 ((bQ pX.l (bJ (pX.len-1))).bind fun fl=>(bif (pX.len==tw)then((bQ pX.l 0).bind fun mm=>((avj ah ba fl mm).bind fun vt=>(bif vt then some (ak.mk [pX])else some ak.nil)))else((bQ pX.l 0).bind fun avg=>((c0 (aju ah ba pX tw avB fl) ((bJ (avg+1)),.emp):Option ((ak (ak Int)))).bind fun aiS=>some aiS))))
def awf (ah:Constraint)(ba:(ak Int))(pX:(ak Int))(tw:Int):Option ((ak (ak Int))):=avf (A:=Constraint × (ak Int) × (ak Int) × Int) (fun g p=>auW (fun c6 cb dR gR=>g (c6,cb,dR,gR)) p.1 p.2.1 p.2.2.1 p.2.2.2) (ah,ba,pX,tw)
def auI (ah:Constraint)(ba:(ak Int))(i20:Int):(Int)->Option (dM (Int) (cP (Unit) ((ak Int)))):=fun i32=>(bif (decide (i32<ah.w1))then((awf ah ba (ak.mk [i32]) i20).bind fun q6=>(bif (decide (q6.len>0))then((bQ q6.l 0).bind fun auX=>some (.out (.ret auX)))else some (.next (bJ (i32+1)))))else some (.out (.go ())))
def avl (ah:Constraint)(ba:(ak Int)):(Int)->Option (dM (Int) (cP (Unit) ((ak Int)))):=fun i20=>(bif (decide (i20<=ah.w1))then((c0 (auI ah ba i20) 0:Option (cP (Unit) ((ak Int)))).bind fun ajm=>match ajm with| .go _=>some (.next (bJ (i20+1)))| .ret w7=>some (.out (.ret w7)))else some (.out (.go ())))
def awg (ah:Constraint)(ba:(ak Int)):Option ((ak Int)):=
 (((bif (ah.Kind != 1)then some true else((auV ah ba.len).bind fun mm=>some (!mm))):Option (Bool)).bind fun ot=>(bif ot then some ak.nil else((c0 (avl ah ba) 1:Option (cP (Unit) ((ak Int)))).bind fun ayT=>match ayT with| .go _=>some ak.nil| .ret aF7=>some aF7)))
def avn (ah:Row)(ba:(ak Int)):(Int × Int × Int)->Option (dM (Int × Int × Int) (Int × Int)):=fun⟨i13,i14,i15⟩=>(bif (decide (i15<ah.eT.len))then((bQ ah.eT.l i15).bind fun Nr=>((bQ ba.l Nr.Cell).bind fun pd=>((bQ ba.l Nr.Cell).bind fun y4=>some (.next ((bJ (i13+(bJ (Nr.pT*(bJ (pd.tdiv 4294967296)))))),(bJ (i14+(bJ (Nr.pT*(y4.tmod 4294967296))))),(bJ (i15+1)))))))else some (.out (i13,i14)))
def axp (ah:Row)(ba:(ak Int)):Option (Bool):=
 ((c0 (avn ah ba) (0,0,0):Option (Int × Int)).bind fun DR=>match DR with|⟨aCg,axq⟩=>some ((decide ((bJ (aCg+(axq/2^32)))<(ah.q3/2^32)))||(((bJ (aCg+(axq/2^32)))==(ah.q3/2^32))&&(decide ((bJ ((BitVec.ofInt (IntKind.i64).bits axq &&& BitVec.ofInt (IntKind.i64).bits 4294967295).toNat))<=(bJ ((BitVec.ofInt (IntKind.i64).bits ah.q3 &&& BitVec.ofInt (IntKind.i64).bits 4294967295).toNat)))))))
def awh (ah:Constraint)(ba:(ak Int)):Option (Bool):=
 ((auV ah ba.len).bind fun fl=>(bif fl then(bif (ah.Kind==1)then((awg ah ba).bind fun vt=>some (vt.len==0))else((axp ah.Row ba).bind fun w3=>some w3))else some false))
def auZ (ah:Constraint)(ba:(ak Int)):Option (Bool):=
 ((awh ah ba).bind fun fl=>some fl)
def awi (ah:Model)(ba:(ak Int)):(Int)->Option (dM (Int) (cP (Unit) (Unit))):=fun i11=>(bif (decide (i11<ah.fu.len))then((bQ ah.fu.l i11).bind fun ajp=>((auZ ajp ba).bind fun eN=>(bif eN then some (.next (bJ (i11+1)))else some (.out (.ret ())))))else some (.out (.go ())))
def awj (ah:Model)(ba:(ak Int)):Option (Bool):=
 ((c0 (awi ah ba) 0:Option (cP (Unit) (Unit))).bind fun ayS=>match ayS with| .go _=>some true| .ret _=>some false)
def awk (ah:Model)(ba:(ak Int)):Option (Bool):=
 ((((auU ah ba).bind fun oo=>(bif oo then((awj ah ba).bind fun vt=>some vt)else some false)):Option (Bool)).bind fun ot=>some ot)
def awl (ah:Model)(ba:(ak Int)):(Int × (ak Int))->Option (dM (Int × (ak Int)) ((ak Int))):=fun⟨i17,i18⟩=>(bif (decide (i17<ah.fu.len))then((bQ ah.fu.l i17).bind fun aiw=>((zw aiw ba).bind fun Bh=>(bif Bh then some (.next ((bJ (i17+1)),i18))else((lG 8 i18 (ak.mk [i17])).bind fun aF8=>some (.next ((bJ (i17+1)),aF8))))))else some (.out i18))
def awm (ah:Model)(ba:(ak Int)):Option ((ak Int)):=
 ((auR ah ba).bind fun fl=>(bif fl then((c0 (awl ah ba) (0,.nil):Option ((ak Int))).bind fun avu=>some avu)else some ak.nil))
def awn (ah:Model)(ba:(ak Int)):(Int × (ak Int))->Option (dM (Int × (ak Int)) ((ak Int))):=fun⟨i17,i18⟩=>(bif (decide (i17<ah.fu.len))then((bQ ah.fu.l i17).bind fun aiw=>((auZ aiw ba).bind fun pd=>(bif pd then some (.next ((bJ (i17+1)),i18))else((lG 8 i18 (ak.mk [i17])).bind fun aF9=>some (.next ((bJ (i17+1)),aF9))))))else some (.out i18))
def awo (ah:Model)(ba:(ak Int)):Option ((ak Int)):=
 ((auU ah ba).bind fun fl=>(bif fl then((c0 (awn ah ba) (0,.emp):Option ((ak Int))).bind fun avu=>some avu)else some ak.emp))
def awp (ah:Model)(ba:(ak Int)):Option (Bool):=
 ((auN).bind fun fl=>(bif fl then((((HU ah).bind fun vt=>(bif vt then((auO ba).bind fun avg=>some (!avg))else some true)):Option (Bool)).bind fun yY=>(bif yY then some true else((((av2 ah).bind fun eN=>((av4 ah).bind fun yV=>((Qi eN yV).bind fun awB=>(bif awB then((awc ah ba).bind fun mn=>((awk ah ba).bind fun ng=>(bif (mn==ng)then((awm ah ba).bind fun vw=>((awo ah ba).bind fun sj=>((Qi vw sj).bind fun aiw=>some aiw)))else some false)))else some false)))):Option (Bool)).bind fun auH=>some auH)))else some false))
def axr (ah:Int):Option (Bool):=
 some ((decide (ah>=(-1000000)))&&(decide (ah<=1000000)))
def awq (ah:(ak Change)):(Int)->Option (dM (Int) (cP (Unit) (Unit))):=fun i7=>(bif (decide (i7<ah.len))then((bQ ah.l i7).bind fun hh=>((axr hh.Add).bind fun hM=>(bif hM then some (.next (bJ (i7+1)))else some (.out (.ret ())))))else some (.out (.go ())))
def awr (ah:(ak Change)):Option (Bool):=
 ((c0 (awq ah) 0:Option (cP (Unit) (Unit))).bind fun iJ=>match iJ with| .go _=>some (decide (ah.len<=100))| .ret _=>some false)
def avo (ba:(ak Change)):(Int × (ak Int))->Option (dM (Int × (ak Int)) ((ak Int))):=fun⟨i18,i19⟩=>(bif (decide (i18<ba.len))then((bQ ba.l i18).bind fun pd=>(bif ((decide (pd.Cell>=0))&&(decide (pd.Cell<i19.len)))then((bQ i19.l pd.Cell).bind fun auX=>((bQ i19.l pd.Cell).bind fun avh=>((bQ i19.l pd.Cell).bind fun Bf=>((bQ i19.l pd.Cell).bind fun yZ=>some (.next ((bJ (i18+1)),(o9 i19 pd.Cell (bJ (avh+pd.Add)))))))))else some (.next ((bJ (i18+1)),i19))))else some (.out i19))
def awT (ah:(ak Int))(ba:(ak Change)):Option ((ak Int)):=
 ((HD 8 ah).bind fun s1=>((c0 (avo ba) (0,s1):Option ((ak Int))).bind fun auH=>some auH))
def avp (ba:(ak Change)):(Int × (ak Int))->Option (dM (Int × (ak Int)) ((ak Int))):=fun⟨i18,i19⟩=>(bif (decide (i18<ba.len))then((bQ ba.l i18).bind fun pd=>(bif ((decide (pd.Cell>=0))&&(decide (pd.Cell<i19.len)))then((bQ i19.l pd.Cell).bind fun Bh=>((bQ i19.l pd.Cell).bind fun q6=>((bQ ba.l i18).bind fun Bm=>((bQ i19.l pd.Cell).bind fun auX=>((bQ i19.l pd.Cell).bind fun avh=>some (.next ((bJ (i18+1)),(o9 i19 pd.Cell (bJ (q6+Bm.Add))))))))))else some (.next ((bJ (i18+1)),i19))))else some (.out i19))
def awU (ah:(ak Int))(ba:(ak Change)):Option ((ak Int)):=
 ((lG 8 ak.emp ah).bind fun s1=>((c0 (avp ba) (0,s1):Option ((ak Int))).bind fun auH=>some auH))
def Qe (ah:(ak Int))(ba:(ak Int)):(Int)->Option (dM (Int) (cP (Unit) (Unit))):=fun i8=>(bif (decide (i8<ah.len))then((bQ ah.l i8).bind fun hM=>((bQ ba.l i8).bind fun nM=>(bif (hM != nM)then some (.out (.ret ()))else some (.next (bJ (i8+1))))))else some (.out (.go ())))
def Qf (ah:(ak Int))(ba:(ak Int)):Option (Bool):=
 (bif (ah.len != ba.len)then some false else((c0 (Qe ah ba) 0:Option (cP (Unit) (Unit))).bind fun yY=>match yY with| .go _=>some true| .ret _=>some false))
def awV (ah:(ak Int))(ba:(ak Change)):Option (Bool):=
 ((auN).bind fun cb=>(bif cb then((((auO ah).bind fun kK=>(bif kK then((awr ba).bind fun oo=>some (!oo))else some true)):Option (Bool)).bind fun aGa=>(bif aGa then some true else((HD 8 ah).bind fun aGb=>((((awT ah ba).bind fun Nr=>((awU ah ba).bind fun mn=>((Qi Nr mn).bind fun ng=>(bif ng then((Qf ah aGb).bind fun vw=>some vw)else some false)))):Option (Bool)).bind fun aiS=>some aiS))))else some false))
end
end Go.Abs.hk
