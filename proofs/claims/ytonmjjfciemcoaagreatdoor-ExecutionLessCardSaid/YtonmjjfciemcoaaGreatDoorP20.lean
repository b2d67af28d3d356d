/- Texts of this claim, joined and written short by a program. -/
import Derived.Test.YtonmjjfciemcoaaGreatDoorP19
import Derived.Test.YtonmjjfciemcoaaGreatDoorP00
set_option linter.unusedVariables false
set_option linter.unusedSimpArgs false
set_option linter.unusedSectionVars false
set_option maxHeartbeats 2000000
namespace Go.Abs.bz
open Go Go.Abs
noncomputable section
def asv (ai:(ae gM))(aL:(gM->Option Bool)):(Int)->Option (di (Int) (cz (Unit) (Int))):=fun cQ=>(bif (decide (cQ<ai.len))then((bE ai.l cQ).bind fun fT=>((aL fT).bind fun hq=>(bif hq then some (.out (.ret cQ))else some (.next (aM (cQ+1))))))else some (.out (.go ())))
def aeF (ai:(ae gM))(aL:(gM->Option Bool)):Option (Int):=
 ((cd (asv ai aL) 0:Option (cz (Unit) (Int))).bind fun gV=>match gV with| .go _=>some (-1)| .ret pJ=>some pJ)
def Hf (ai:(ae gM))(aL:(gM->Option Bool)):Option (Bool):=
 ((aeF ai aL).bind fun cq=>some (decide (cq>=0)))
def yK (ai:Int):Option (Bool):=
 some ((decide (ai>=97))&&(decide (ai<=122)))
def yL (ai:Int):Option (Bool):=
 some ((decide (ai>=48))&&(decide (ai<=57)))
def LW (ai:dn)(aL:dn):Option (Bool):=
 (((bif (decide ((ai.length:Int)>=(aL.length:Int)))then((sK ai 0 (aL.length:Int)).bind fun hQ=>some (hQ==aL))else some false):Option (Bool)).bind fun iP=>some iP)
def Hg (ai:dn)(aL:dn):Option (Bool):=
 ((LW ai aL).bind fun cq=>some cq)
def Hh (ai:dn):(Int)->Option (di (Int) (cz (Unit) (Unit))):=fun cQ=>(bif (decide (cQ<(ae.mk [[61,61],[33,61],[60,61],[62,61],[46,46]]).len))then((bE (ae.mk [[61,61],[33,61],[60,61],[62,61],[46,46]]).l cQ).bind fun fT=>((Hg ai fT).bind fun hq=>(bif hq then some (.out (.ret ()))else some (.next (aM (cQ+1))))))else some (.out (.go ())))
def Bd (ai:dn):Option (Int):=
 ((cd (Hh ai) 0:Option (cz (Unit) (Unit))).bind fun gV=>match gV with| .go _=>(((bif (ai != [])then((bE ai 0).bind fun asw=>((strings_IndexByte [60,62,61,43,45,42,40,41,123,125,44,58,59] (asw.toNat:Int)).bind fun j9=>some (decide (j9>=0))))else some false):Option (Bool)).bind fun xe=>(bif xe then some 1 else some 0))| .ret _=>some 2)
def D1 (ai:dn):Option (Bool):=
 ((((bE ai 0).bind fun ed=>((yK (ed.toNat:Int)).bind fun hQ=>(bif hQ then some true else((bE ai 0).bind fun gb=>((yL (gb.toNat:Int)).bind fun pK=>(bif pK then some true else((Bd ai).bind fun pL=>some (decide (pL>0))))))))):Option (Bool)).bind fun iP=>some iP)
def Hi (ai:dn)(aL:(Int->Option Bool)):(Int)->Option (di (Int) (Int)):=fun cQ=>(((bif (decide (cQ<(ai.length:Int)))then((bE ai cQ).bind fun hq=>((aL (hq.toNat:Int)).bind fun sN=>some sN))else some false):Option (Bool)).bind fun Ry=>(bif Ry then some (.next (aM (cQ+1)))else some (.out cQ)))
def Be (ai:dn)(aL:(Int->Option Bool)):Option (Int):=
 ((cd (Hi ai aL) 0:Option (Int)).bind fun gV=>some gV)
def Bf (ai:Int):Option (Bool):=
 some ((ai==32)||((ai==9)||((ai==10)||(ai==13))))
def Bg (ai:Int):Option (Bool):=
 some (ai != 10)
def D2 (ai:dn):(Int)->Option (di (Int) (cz (Int) (Int))):=fun cQ=>(bif (decide (cQ<(ai.length:Int)))then((bE ai cQ).bind fun fT=>((Bf (fT.toNat:Int)).bind fun hq=>(bif hq then some (.next (aM (cQ+1)))else((bE ai cQ).bind fun mQ=>(bif ((mQ.toNat:Int)==35)then((sK ai cQ (ai.length:Int)).bind fun eT=>((Be eT Bg).bind fun Hj=>some (.next (aM (cQ+Hj)))))else some (.out (.ret cQ)))))))else some (.out (.go cQ)))
def D3 (ai:dn):Option (Int):=
 ((cd (D2 ai) 0:Option (cz (Int) (Int))).bind fun gV=>match gV with| .go asx=>some asx| .ret asy=>some asy)
def D4 (ai:Int):Option (Bool):=
 ((((yK ai).bind fun ed=>(bif ed then some true else((yL ai).bind fun ll=>(bif ll then some true else some (ai==95))))):Option (Bool)).bind fun iP=>some iP)
def LX (aL:(ae Table)):(Int)->Option (di (Int) (cz (Unit) (Unit))):=fun cQ=>(bif (decide (cQ<aL.len))then((((bE aL.l cQ).bind fun hq=>(bif (decide ((hq.Name.length:Int)>40))then some true else((bE aL.l cQ).bind fun mQ=>some (decide (mQ.ch.len>12))))):Option (Bool)).bind fun Rz=>(bif Rz then some (.out (.ret ()))else some (.next (aM (cQ+1)))))else some (.out (.go ())))
def Hk (ai:(ae Int))(aL:(ae Table)):Option (Bool):=
 ((cd (LX aL) 0:Option (cz (Unit) (Unit))).bind fun gV=>match gV with| .go _=>some ((decide (ai.len<=12))&&(decide (aL.len<=20)))| .ret _=>some false)
def LY (ai:Model):(Int)->Option (di (Int) (cz (Unit) (Unit))):=fun i26=>(bif (decide (i26<ai.ff.len))then((bE ai.ff.l i26).bind fun Hl=>(bif (decide ((Hl.length:Int)>40))then some (.out (.ret ()))else some (.next (aM (i26+1)))))else some (.out (.go ())))
def LZ (ai:Model):(Int)->Option (di (Int) (cz (Unit) (Unit))):=fun i49=>(bif (decide (i49<ai.cN.len))then((bE ai.cN.l i49).bind fun D5=>(bif (decide (D5.Row.dq.len>20))then some (.out (.ret ()))else some (.next (aM (i49+1)))))else some (.out (.go ())))
def L0 (ai:Model):(Int)->Option (di (Int) (cz (Unit) (Unit))):=fun i72=>(bif (decide (i72<ai.Operations.len))then((((bE ai.Operations.l i72).bind fun RA=>(bif (decide ((RA.Name.length:Int)>40))then some true else((bE ai.Operations.l i72).bind fun RB=>some (decide (RB.bH.len>6))))):Option (Bool)).bind fun RC=>(bif RC then some (.out (.ret ()))else some (.next (aM (i72+1)))))else some (.out (.go ())))
def L1 (sO:Action):(Int)->Option (di (Int) (cz (Unit) (Unit))):=fun RD=>(bif (decide (RD<sO.b4.dd.len))then((bE sO.b4.dd.l RD).bind fun asz=>(bif (decide (asz.dq.len>20))then some (.out (.ret ()))else some (.next (aM (RD+1)))))else some (.out (.go ())))
def L2 (ai:Model):(Int)->Option (di (Int) (cz (Unit) (Unit))):=fun L3=>(bif (decide (L3<ai.Actions.len))then((bE ai.Actions.l L3).bind fun sO=>((((bE ai.Actions.l L3).bind fun asA=>(bif (decide (asA.gN.len>6))then some true else(bif (decide (sO.b4.Delta.len>20))then some true else(bif (decide (sO.b4.dd.len>10))then some true else some (decide (sO.b4.hg.len>40)))))):Option (Bool)).bind fun asB=>(bif asB then some (.out (.ret ()))else((cd (L1 sO) 0:Option (cz (Unit) (Unit))).bind fun asC=>match asC with| .go _=>some (.next (aM (L3+1)))| .ret _=>some (.out (.ret ()))))))else some (.out (.go ())))
def D6 (ai:Model):Option (Bool):=
 (((bif (decide (ai.bH.len>8))then some true else(bif (decide (ai.Tables.len>6))then some true else(bif (decide (ai.ff.len>20))then some true else(bif (decide (ai.cN.len>60))then some true else(bif (decide (ai.Operations.len>8))then some true else(bif (decide (ai.Actions.len>30))then some true else(bif (decide (ai.cf.len>12))then some true else((Hk ai.bH ai.Tables).bind fun fT=>some (!fT))))))))):Option (Bool)).bind fun oi=>(bif oi then some false else((cd (LY ai) 0:Option (cz (Unit) (Unit))).bind fun xe=>match xe with| .go _=>((cd (LZ ai) 0:Option (cz (Unit) (Unit))).bind fun asD=>match asD with| .go _=>((cd (L0 ai) 0:Option (cz (Unit) (Unit))).bind fun RE=>match RE with| .go _=>((cd (L2 ai) 0:Option (cz (Unit) (Unit))).bind fun asE=>match asE with| .go _=>some true| .ret _=>some false)| .ret _=>some false)| .ret _=>some false)| .ret _=>some false)))
def L4 (ai:(ae Int)):(Int)->Option (di (Int) (cz (Unit) (Unit))):=fun cQ=>(bif (decide (cQ<ai.len))then((((bE ai.l cQ).bind fun hq=>(bif (decide (hq<(-1000000)))then some true else((bE ai.l cQ).bind fun mQ=>some (decide (mQ>1000000))))):Option (Bool)).bind fun Rz=>(bif Rz then some (.out (.ret ()))else some (.next (aM (cQ+1)))))else some (.out (.go ())))
def D7 (ai:(ae Int)):Option (Bool):=
 ((cd (L4 ai) 0:Option (cz (Unit) (Unit))).bind fun gV=>match gV with| .go _=>some (decide (ai.len<=128))| .ret _=>some false)
def asF (ai:(ae Int))(aL:(Int->Option Bool)):(Int)->Option (di (Int) (cz (Unit) (Int))):=fun cQ=>(bif (decide (cQ<ai.len))then((bE ai.l cQ).bind fun fT=>((aL fT).bind fun hq=>(bif hq then some (.out (.ret cQ))else some (.next (aM (cQ+1))))))else some (.out (.go ())))
def RF (ai:(ae Int))(aL:(Int->Option Bool)):Option (Int):=
 ((cd (asF ai aL) 0:Option (cz (Unit) (Int))).bind fun gV=>match gV with| .go _=>some (-1)| .ret pJ=>some pJ)
def ui (ai:(ae Int))(aL:(Int->Option Bool)):Option (Bool):=
 ((RF ai aL).bind fun cq=>some (decide (cq>=0)))
def L5 (ln:(ae Int))(ai:Int):Option (Bool):=
 some ((decide (ai<0))||(decide (ai>=ln.len)))
def Hm (ai:(ae Int))(aL:(ae Int)):Option (Bool):=
 (((bif (decide (aL.len<=3))then((ui aL (fun z0=>L5 ai z0)).bind fun yM=>some (!yM))else some false):Option (Bool)).bind fun oi=>some oi)
def Hn (ai:Int)(aL:Int)(ej:Int):Option (Bool):=
 some ((decide (ai>=aL))&&(decide (ai<=ej)))
def L6 (ai:Int):Option (Bool):=
 ((Hn ai 1 6).bind fun cq=>some (!cq))
def Ho (ai:(ae Int)):Option (Bool):=
 ((ui ai L6).bind fun cq=>some (!cq))
def asG (ai:(ae Bool))(aL:Bool):(Int)->Option (di (Int) (cz (Unit) (Int))):=fun cQ=>(bif (decide (cQ<ai.len))then((bE ai.l cQ).bind fun fT=>(bif (aL==fT)then some (.out (.ret cQ))else some (.next (aM (cQ+1)))))else some (.out (.go ())))
def RG (ai:(ae Bool))(aL:Bool):Option (Int):=
 ((cd (asG ai aL) 0:Option (cz (Unit) (Int))).bind fun gV=>match gV with| .go _=>some (-1)| .ret RH=>some RH)
def L7 (ai:(ae Bool))(aL:Bool):Option (Bool):=
 ((RG ai aL).bind fun cq=>some (decide (cq>=0)))
def Bh (ai:(ae Bool)):Option (Bool):=
 ((L7 ai false).bind fun cq=>some (!cq))
def Bi (ai:dn):Option (Bool):=
 (((bif (decide ((ai.length:Int)<=16))then((LU ai).bind fun hQ=>some (hQ==1))else some false):Option (Bool)).bind fun iP=>some iP)
def Hp (ai:Table):Option (Bool):=
 (((((bif (ai.Kind==1)then some (ai.Kind==1)else(bif (ai.Kind==4)then some (ai.Kind==4)else some (ai.Kind==5))):Option (Bool)).bind fun gV=>(bif gV then some (.ret ((decide (ai.Range.jI<=ai.Range.j7))&&((decide (ai.Range.jI>=(-9999)))&&(decide (ai.Range.j7<=9999)))))else some (.go ()))):Option (cz (Unit) (Bool))).bind fun oi=>match oi with| .go _=>some ((ai.Range.jI==0)&&((ai.Range.j7==1)&&true))| .ret asH=>some asH)
def Bj (ai:Table):Option (Bool):=
 some ((ai.Kind==0)||(ai.Kind==1))
def L8 (ai:(ae Int))(aL:(ae Int)):(Int × Int)->Option (di (Int × Int) (Int)):=fun⟨i8,i9⟩=>(bif (decide (i9<aL.len))then((bE aL.l i9).bind fun sN=>((bE ai.l sN).bind fun mQ=>some (.next ((aM (i8*mQ)),(aM (i9+1))))))else some (.out i8))
def uj (ai:(ae Int))(aL:(ae Int)):Option (Int):=
 ((cd (L8 ai aL) (1,0):Option (Int)).bind fun xf=>some xf)
def D8 (ai:(ae Int))(aL:(ae Table)):(Int × Int × Int × (List (dn × Bool)))->Option (di (Int × Int × Int × (List (dn × Bool))) (cz (Int × Int) (Unit))):=fun⟨L9,Ma,i31,i32⟩=>(bif (decide (L9<aL.len))then((bE aL.l L9).bind fun nA=>((Bi nA.Name).bind fun sP=>((Hn nA.Kind 0 5).bind fun vq=>((Hm ai nA.ch).bind fun asI=>((Hp nA).bind fun Bk=>((Bh (ae.mk [sP,(!((jq i32 nA.Name).getD false)),vq,asI,Bk])).bind fun D9=>(bif D9 then((Bj nA).bind fun vr=>(bif vr then(bif (nA.dK != i31)then some (.out (.ret ()))else((uj ai nA.ch).bind fun sQ=>some (.next ((aM (L9+1)),Ma,(aM (i31+sQ)),(mM i32 nA.Name true)))))else(bif (nA.dK != Ma)then some (.out (.ret ()))else((uj ai nA.ch).bind fun yN=>some (.next ((aM (L9+1)),(aM (Ma+yN)),i31,(mM i32 nA.Name true)))))))else some (.out (.ret ())))))))))else some (.out (.go (Ma,i31))))
def Bl (ai:(ae Int))(aL:(ae Table)):Option (Bool):=
 ((Ho ai).bind fun cq=>((Bh (ae.mk [(decide (ai.len<=4)),(decide (aL.len<=12)),cq])).bind fun ed=>(bif ed then((cd (D8 ai aL) (0,0,0,[]):Option (cz (Int × Int) (Unit))).bind fun asJ=>match asJ with| .go (⟨asK,asL⟩)=>some ((decide (asL<=128))&&(decide (asK<=64)))| .ret _=>some false)else some false)))
def Hq (ai:(ae dn)):(Int × (List (dn × Bool)))->Option (di (Int × (List (dn × Bool))) (cz (Unit) (Unit))):=fun⟨i12,Bm⟩=>(bif (decide (i12<ai.len))then((bE ai.l i12).bind fun Hj=>((((Bi Hj).bind fun mR=>(bif mR then some ((jq Bm Hj).getD false)else some true)):Option (Bool)).bind fun RI=>(bif RI then some (.out (.ret ()))else some (.next ((aM (i12+1)),(mM Bm Hj true))))))else some (.out (.go ())))
def Ea (ai:(ae dn)):Option (Bool):=
 ((cd (Hq ai) (0,[]):Option (cz (Unit) (Unit))).bind fun Hr=>match Hr with| .go _=>some true| .ret _=>some false)
def Hs (ai:(ae Int))(aL:(ae Table))(ej:Bool):(Int × (ae Range))->Option (di (Int × (ae Range)) ((ae Range))):=fun⟨Bm,RJ⟩=>(bif (decide (Bm<aL.len))then((bE aL.l Bm).bind fun pM=>((Bj pM).bind fun uk=>(bif (uk==ej)then((uj ai pM.ch).bind fun Hl=>((DY (ae.mk [pM.Range]) Hl).bind fun Bn=>((gz 16 RJ Bn).bind fun asM=>some (.next ((aM (Bm+1)),asM)))))else some (.next ((aM (Bm+1)),RJ)))))else some (.out RJ))
def Eb (ai:(ae Int))(aL:(ae Table))(ej:Bool):Option ((ae Range)):=
 ((Bl ai aL).bind fun cq=>(bif cq then((cd (Hs ai aL ej) (0,.nil):Option ((ae Range))).bind fun Ry=>some Ry)else some ae.nil))
def mS (ai:Int)(aL:Int):Option (Bool):=
 some ((decide (ai>=0))&&(decide (ai<aL)))
def yO (ai:Int)(aL:Int):Option (Bool):=
 some ((decide (ai>=(aM (0-aL))))&&(decide (ai<=aL)))
def Ht (ai:dV)(aL:Row):(Int × Int)->Option (di (Int × Int) (cz (Unit) (Unit))):=fun⟨i16,i17⟩=>(bif (decide (i17<aL.dq.len))then((bE aL.dq.l i17).bind fun pM=>(((bif (decide (pM.Cell<=i16))then some true else(bif (decide (pM.Cell>=ai.strict.len))then some true else(bif (pM.gA==0)then some true else((yO pM.gA 1000).bind fun RL=>some (!RL))))):Option (Bool)).bind fun RM=>(bif RM then some (.out (.ret ()))else some (.next (pM.Cell,(aM (i17+1)))))))else some (.out (.go ())))
def Ec (ai:dV)(aL:Row):Option (Bool):=
 ((cd (Ht ai aL) ((-1),0):Option (cz (Unit) (Unit))).bind fun Bo=>match Bo with| .go _=>((yO aL.qH 1000000000).bind fun asN=>some asN)| .ret _=>some false)
def asO (ai:(ae Table))(aL:(Table->Option Bool)):(Int)->Option (di (Int) (cz (Unit) (Int))):=fun cQ=>(bif (decide (cQ<ai.len))then((bE ai.l cQ).bind fun fT=>((aL fT).bind fun hq=>(bif hq then some (.out (.ret cQ))else some (.next (aM (cQ+1))))))else some (.out (.go ())))
def RN (ai:(ae Table))(aL:(Table->Option Bool)):Option (Int):=
 ((cd (asO ai aL) 0:Option (cz (Unit) (Int))).bind fun gV=>match gV with| .go _=>some (-1)| .ret pJ=>some pJ)
def Mb (ai:(ae Table))(aL:(Table->Option Bool)):Option (Bool):=
 ((RN ai aL).bind fun cq=>some (decide (cq>=0)))
def Hu (ln:Constraint)(Mc:dV)(ai:Table):Option (Bool):=
 (((bif (ai.Kind==0)then(bif (ai.ch.len==2)then((bE ai.ch.l 0).bind fun pL=>((bE ai.ch.l 1).bind fun ka=>(bif (pL==ka)then(bif (ai.dK==ln.dK)then((bE ai.ch.l 0).bind fun um=>((bE Mc.Model.bH.l um).bind fun fT=>some (fT==ln.fS)))else some false)else some false)))else some false)else some false):Option (Bool)).bind fun oi=>some oi)
def Hv (ai:dV)(aL:Constraint):Option (Bool):=
 (((bif (aL.Row.dq.len==0)then(bif (aL.Row.qH==0)then((Mb ai.Model.Tables (fun z0=>Hu aL ai z0)).bind fun um=>some um)else some false)else some false):Option (Bool)).bind fun Hw=>some Hw)
def Hx (ai:(ae Term))(aL:(ae Term)):(Int)->Option (di (Int) (cz (Unit) (Unit))):=fun i8=>(bif (decide (i8<ai.len))then((bE ai.l i8).bind fun hq=>((bE aL.l i8).bind fun sN=>(bif ((hq.Cell==sN.Cell)&&((hq.gA==sN.gA)&&true))then some (.next (aM (i8+1)))else some (.out (.ret ())))))else some (.out (.go ())))
def yP (ai:(ae Term))(aL:(ae Term)):Option (Bool):=
 (bif (ai.len != aL.len)then some false else((cd (Hx ai aL) 0:Option (cz (Unit) (Unit))).bind fun xf=>match xf with| .go _=>some true| .ret _=>some false))
def Hy (ai:Row)(aL:Int)(ej:Int)(vt:Int):Option (Bool):=
 ((((yP ai.dq (ae.mk [(Term.mk aL ej)])).bind fun pK=>(bif pK then some (ai.qH==vt)else some false)):Option (Bool)).bind fun oi=>some oi)
def Hz (ai:dV):(Int)->Option (di (Int) (cz (Unit) (Unit))):=fun i16=>(bif (decide (i16<ai.Model.cN.len))then((bE ai.Model.cN.l i16).bind fun mT=>((((mS mT.Bb ai.Model.ff.len).bind fun uk=>(bif uk then(bif (mT.Kind==0)then(((bif (mT.dK != 0)then some true else(bif (mT.fS != 0)then some true else((Ec ai mT.Row).bind fun ij=>some (!ij)))):Option (Bool)).bind fun asP=>(bif asP then some (.ret ())else some (.go ())))else(((bif (mT.Kind != 1)then some true else((Hv ai mT).bind fun sP=>some (!sP))):Option (Bool)).bind fun asQ=>(bif asQ then some (.ret ())else some (.go ()))))else some (.ret ()))):Option (cz (Unit) (Unit))).bind fun RO=>match RO with| .go _=>(bif (decide ((aM (i16.tdiv 2))<ai.strict.len))then((bE ai.strict.l (aM (i16.tdiv 2))).bind fun yN=>(((bif ((i16.tmod 2)==0)then some ((-1),(aM (0-yN.jI)))else some (1,yN.j7)):Option (Int × Int)).bind fun RP=>match RP with|⟨asR,asS⟩=>(((bif (mT.Kind != 0)then some true else((Hy mT.Row (aM (i16.tdiv 2)) asR asS).bind fun asT=>some (!asT))):Option (Bool)).bind fun asU=>(bif asU then some (.out (.ret ()))else some (.next (aM (i16+1)))))))else some (.next (aM (i16+1))))| .ret _=>some (.out (.ret ()))))else some (.out (.go ())))
def HA (ai:dV):Option (Bool):=
 (bif ((decide (ai.Model.cN.len>512))||(decide (ai.Model.cN.len<(aM (2*ai.strict.len)))))then some false else((cd (Hz ai) 0:Option (cz (Unit) (Unit))).bind fun Bo=>match Bo with| .go _=>some true| .ret _=>some false))
def HB (ln:dV)(ai:Int):Option (Bool):=
 some ((decide (ai<(-1)))||(decide (ai>=ln.Model.bH.len)))
def HC (ai:dV):(Int × (ae dn))->Option (di (Int × (ae dn)) (cz ((ae dn)) (Unit))):=fun⟨RQ,i16⟩=>(bif (decide (RQ<ai.Model.Operations.len))then((bE ai.Model.Operations.l RQ).bind fun HD=>((gz 16 i16 (ae.mk [HD.Name])).bind fun asV=>(((bif (decide (HD.bH.len>3))then some true else((ui HD.bH (fun z0=>HB ai z0)).bind fun asW=>some asW)):Option (Bool)).bind fun asX=>(bif asX then some (.out (.ret ()))else some (.next ((aM (RQ+1)),asV))))))else some (.out (.go i16)))
def HE (ai:dV):Option (Bool):=
 ((cd (HC ai) (0,.nil):Option (cz ((ae dn)) (Unit))).bind fun asY=>match asY with| .go aeG=>(((bif (decide (aeG.len<=8))then((Ea aeG).bind fun RR=>some RR)else some false):Option (Bool)).bind fun RP=>some RP)| .ret _=>some false)
def cmp_isNaN_int (ai:Int):Option (Bool):=
 some (ai != ai)
def cmp_Compare_int (ai:Int)(aL:Int):Option (Int):=
 ((cmp_isNaN_int ai).bind fun cq=>((cmp_isNaN_int aL).bind fun ed=>(bif cq then(bif ed then some 0 else some (-1))else(bif ed then some 1 else(bif (decide (ai<aL))then some (-1)else(bif (decide (ai>aL))then some 1 else some 0))))))
def Ed (ai:(ae Int))(aL:(ae Int)):(Int)->Option (di (Int) (cz (Unit) (Int))):=fun cQ=>(bif (decide (cQ<ai.len))then((bE ai.l cQ).bind fun fT=>(bif (decide (cQ>=aL.len))then some (.out (.ret 1))else((bE aL.l cQ).bind fun sN=>((cmp_Compare_int fT sN).bind fun mQ=>(bif (mQ != 0)then some (.out (.ret mQ))else some (.next (aM (cQ+1))))))))else some (.out (.go ())))
def Ee (ai:(ae Int))(aL:(ae Int)):Option (Int):=
 ((cd (Ed ai aL) 0:Option (cz (Unit) (Int))).bind fun gV=>match gV with| .go _=>(bif (decide (ai.len<aL.len))then some (-1)else some 0)| .ret asZ=>some asZ)
def as0 (ai:(ae Row))(aL:(Row->Option Bool)):(Int)->Option (di (Int) (cz (Unit) (Int))):=fun cQ=>(bif (decide (cQ<ai.len))then((bE ai.l cQ).bind fun fT=>((aL fT).bind fun hq=>(bif hq then some (.out (.ret cQ))else some (.next (aM (cQ+1))))))else some (.out (.go ())))
def RS (ai:(ae Row))(aL:(Row->Option Bool)):Option (Int):=
 ((cd (as0 ai aL) 0:Option (cz (Unit) (Int))).bind fun gV=>match gV with| .go _=>some (-1)| .ret pJ=>some pJ)
def Ef (ai:(ae Row))(aL:(Row->Option Bool)):Option (Bool):=
 ((RS ai aL).bind fun cq=>some (decide (cq>=0)))
def Md (ai:(ae Int))(mT:Table):(Int × Int × (ae Int))->Option (di (Int × Int × (ae Int)) ((ae Int))):=fun⟨i58,i59,i60⟩=>(bif (decide (i59>=0))then((bE mT.ch.l i59).bind fun RR=>((bE ai.l RR).bind fun aeH=>((tZ i58 aeH).bind fun RT=>((G4 i58 aeH).bind fun as1=>((bE i60.l i59).bind fun aeI=>((bE i60.l i59).bind fun yQ=>some (.next (as1,(aM (i59-1)),(pE i60 i59 RT)))))))))else some (.out i60))
def HF (ai:(ae Int))(aL:(ae Table))(ej:Bool)(vt:Int):(Int)->Option (di (Int) (cz (Unit) (Int × (ae Int)))):=fun i16=>(bif (decide (i16<aL.len))then((bE aL.l i16).bind fun mT=>((((Bj mT).bind fun uk=>(bif (uk==ej)then(bif (decide ((aM (vt-mT.dK))<0))then some true else((uj ai mT.ch).bind fun Bn=>some (decide ((aM (vt-mT.dK))>=Bn))))else some true)):Option (Bool)).bind fun RO=>(bif RO then some (.next (aM (i16+1)))else((A6 8 0 mT.ch.len).bind fun HG=>((cd (Md ai mT) ((aM (vt-mT.dK)),(aM (HG.len-1)),HG):Option ((ae Int))).bind fun RU=>some (.out (.ret (i16,RU))))))))else some (.out (.go ())))
def HH (ai:(ae Int))(aL:(ae Table))(ej:Bool)(vt:Int):Option (Int × (ae Int) × Bool):=
 ((((Bl ai aL).bind fun ed=>(bif ed then some (decide (vt<0))else some true)):Option (Bool)).bind fun iP=>(bif iP then some (0,ae.nil,false)else((cd (HF ai aL ej vt) 0:Option (cz (Unit) (Int × (ae Int)))).bind fun Bo=>match Bo with| .go _=>some (0,ae.nil,false)| .ret (⟨as2,as3⟩)=>some (as2,as3,true))))
def HI (ai:dV)(aL:mN):Option (Bool):=
 ((HH ai.Model.bH ai.Model.Tables false aL.Cell).bind fun ka=>(bif ka.2.2 then((bE ai.Model.Tables.l ka.1).bind fun HJ=>(((bif (HJ.Kind==2)then some (HJ.Kind==2)else some (HJ.Kind==3)):Option (Bool)).bind fun RV=>(bif RV then some (bif (aL.Kind==0)then(aL.Value==0)else((aL.Kind==1)&&(aL.Value==0)))else some ((aL.Kind==2)&&((decide (aL.Value>=HJ.Range.jI))&&(decide (aL.Value<=HJ.Range.j7)))))))else some false))
def HK (ln:dV)(ai:Row):Option (Bool):=
 ((Ec ln ai).bind fun gb=>some (!gb))
def HL (ai:dV)(aL:b4):(Int × Int)->Option (di (Int × Int) (cz (Unit) (Unit))):=fun⟨i16,i17⟩=>(bif (decide (i17<aL.Delta.len))then((bE aL.Delta.l i17).bind fun pM=>(((bif (decide (pM.Cell<=i16))then some true else(bif (decide (pM.Cell>=ai.strict.len))then some true else(bif (pM.Add==0)then some true else((yO pM.Add 1000000000).bind fun RL=>some (!RL))))):Option (Bool)).bind fun RM=>(bif RM then some (.out (.ret ()))else some (.next (pM.Cell,(aM (i17+1)))))))else some (.out (.go ())))
def HM (ai:dV)(aL:b4):(Int × Int)->Option (di (Int × Int) (cz (Unit) (Unit))):=fun⟨as4,i58⟩=>(bif (decide (i58<aL.hg.len))then((bE aL.hg.l i58).bind fun RW=>(((bif (decide (RW.Cell<=as4))then some true else((HI ai RW).bind fun aeI=>some (!aeI))):Option (Bool)).bind fun RE=>(bif RE then some (.out (.ret ()))else some (.next (RW.Cell,(aM (i58+1)))))))else some (.out (.go ())))
def HN (ai:dV)(aL:b4):Option (Bool):=
 ((cd (HL ai aL) ((-1),0):Option (cz (Unit) (Unit))).bind fun Bo=>match Bo with| .go _=>((cd (HM ai aL) ((-1),0):Option (cz (Unit) (Unit))).bind fun RX=>match RX with| .go _=>(((bif (decide (aL.dd.len<=8))then(bif (decide (aL.hg.len<=32))then((Ef aL.dd (fun z0=>HK ai z0)).bind fun aeJ=>some (!aeJ))else some false)else some false):Option (Bool)).bind fun RY=>some RY)| .ret _=>some false)| .ret _=>some false)
def Me (ai:dV)(eT:Action)(Mf:eu):(Int)->Option (di (Int) (cz (Unit) (Unit))):=fun Mg=>(bif (decide (Mg<Mf.bH.len))then((bE Mf.bH.l Mg).bind fun Bk=>((bE eT.gN.l Mg).bind fun D9=>(((bif (decide (Bk<0))then((yO D9 9999).bind fun as5=>(bif as5 then(bif (decide (Bk>=0))then((bE ai.Model.bH.l Bk).bind fun D5=>((mS D9 D5).bind fun sQ=>some (!sQ)))else some false)else some true))else(bif (decide (Bk>=0))then((bE ai.Model.bH.l Bk).bind fun HO=>((mS D9 HO).bind fun as6=>some (!as6)))else some false)):Option (Bool)).bind fun HP=>(bif HP then some (.out (.ret ()))else some (.next (aM (Mg+1)))))))else some (.out (.go ())))
def HQ (ai:dV):(Int)->Option (di (Int) (cz (Unit) (Unit))):=fun i12=>(bif (decide (i12<ai.Model.Actions.len))then((bE ai.Model.Actions.l i12).bind fun eT=>((((mS eT.eu ai.Model.Operations.len).bind fun uo=>(bif uo then((bE ai.Model.Operations.l eT.eu).bind fun j9=>some (eT.gN.len != j9.bH.len))else some true)):Option (Bool)).bind fun xe=>(bif xe then some (.out (.ret ()))else((bE ai.Model.Operations.l eT.eu).bind fun Mf=>((cd (Me ai eT Mf) 0:Option (cz (Unit) (Unit))).bind fun as7=>match as7 with| .go _=>(((bif (decide (i12>0))then((bE ai.Model.Actions.l (aM (i12-1))).bind fun yQ=>(((bif (decide (yQ.eu>eT.eu))then some true else(bif (yQ.eu==eT.eu)then((Ee yQ.gN eT.gN).bind fun RZ=>some (decide (RZ>=0)))else some false)):Option (Bool)).bind fun R0=>(bif R0 then some (.ret ())else some (.go ()))))else some (.go ())):Option (cz (Unit) (Unit))).bind fun as8=>match as8 with| .go _=>((HN ai eT.b4).bind fun Bp=>(bif Bp then some (.next (aM (i12+1)))else some (.out (.ret ()))))| .ret _=>some (.out (.ret ())))| .ret _=>some (.out (.ret ())))))))else some (.out (.go ())))
def HR (ai:dV):Option (Bool):=
 (bif (decide (ai.Model.Actions.len>256))then some false else((cd (HQ ai) 0:Option (cz (Unit) (Unit))).bind fun Hr=>match Hr with| .go _=>some true| .ret _=>some false))
def HS (ai:Model):Option (Bool):=
 ((((Bl ai.bH ai.Tables).bind fun pK=>(bif pK then(bif (decide (ai.ff.len>24))then some true else((Ea ai.ff).bind fun ka=>some (!ka)))else some true)):Option (Bool)).bind fun oi=>(bif oi then some false else((Eb ai.bH ai.Tables true).bind fun mQ=>((((HA (dV.mk ai mQ)).bind fun as9=>(bif as9 then((HE (dV.mk ai mQ)).bind fun uo=>(bif uo then((HR (dV.mk ai mQ)).bind fun j9=>(bif j9 then((Rw (dV.mk ai mQ)).bind fun uk=>some uk)else some false))else some false))else some false)):Option (Bool)).bind fun ata=>some ata))))
def Mh (ai:(ae Int))(aL:(ae Table))(ej:Bool):Option (Int):=
 ((Eb ai aL ej).bind fun cq=>some cq.len)
def Mi (ai:Model)(aL:(ae Int)):Option (Bool):=
 ((((HS ai).bind fun pK=>(bif pK then((Mh ai.bH ai.Tables true).bind fun pL=>some (aL.len==pL))else some false)):Option (Bool)).bind fun oi=>some oi)
def atb (ai:(ae Constraint))(aL:(Constraint->Option Bool)):(Int)->Option (di (Int) (cz (Unit) (Int))):=fun cQ=>(bif (decide (cQ<ai.len))then((bE ai.l cQ).bind fun fT=>((aL fT).bind fun hq=>(bif hq then some (.out (.ret cQ))else some (.next (aM (cQ+1))))))else some (.out (.go ())))
def R1 (ai:(ae Constraint))(aL:(Constraint->Option Bool)):Option (Int):=
 ((cd (atb ai aL) 0:Option (cz (Unit) (Int))).bind fun gV=>match gV with| .go _=>some (-1)| .ret pJ=>some pJ)
def Mj (ai:(ae Constraint))(aL:(Constraint->Option Bool)):Option (Bool):=
 ((R1 ai aL).bind fun cq=>some (decide (cq>=0)))
def Eg (ai:Constraint)(aL:Int):Option (Bool):=
 some ((ai.Kind==1)&&((decide (ai.fS>=1))&&((decide (ai.fS<=6))&&((decide (ai.dK>=0))&&(decide (ai.dK<=(aM (aL-(aM (ai.fS*ai.fS))))))))))
def Eh (ln:(ae Int))(Mc:Constraint)(ai:Int)(aL:Int):Option (Bool):=
 ((bE ln.l (aM ((aM (Mc.dK+(aM (ai*Mc.fS))))+aL))).bind fun cq=>some (decide (cq>=1)))
def atc (ai:(ae Int))(aL:Int):(Int)->Option (di (Int) (cz (Unit) (Int))):=fun cQ=>(bif (decide (cQ<ai.len))then((bE ai.l cQ).bind fun fT=>(bif (aL==fT)then some (.out (.ret cQ))else some (.next (aM (cQ+1)))))else some (.out (.go ())))
def R2 (ai:(ae Int))(aL:Int):Option (Int):=
 ((cd (atc ai aL) 0:Option (cz (Unit) (Int))).bind fun gV=>match gV with| .go _=>some (-1)| .ret RH=>some RH)
def HT (ai:(ae Int))(aL:Int):Option (Bool):=
 ((R2 ai aL).bind fun cq=>some (decide (cq>=0)))
def Mk (ai:Constraint):(Int × (ae (ae Int)))->Option (di (Int × (ae (ae Int))) ((ae (ae Int)))):=fun⟨i21,aeK⟩=>(bif (decide (i21<ai.fS))then((gz 24 aeK (ae.mk [(ae.mk [i21])])).bind fun atd=>some (.next ((aM (i21+1)),atd)))else some (.out aeK))
def HU (ai:Constraint)(aL:(ae Int))(xg:(ae Int))(mU:Int):(Int × (ae (ae Int)))->Option (di (Int × (ae (ae Int))) ((ae (ae Int)))):=fun⟨Ei,R3⟩=>(bif (decide (Ei<ai.fS))then((((Eh aL ai mU Ei).bind fun ate=>(bif ate then((HT xg Ei).bind fun atf=>some (!atf))else some false)):Option (Bool)).bind fun atg=>(bif atg then((pI 8 xg).bind fun ath=>((gz 8 ath (ae.mk [Ei])).bind fun ati=>((gz 24 R3 (ae.mk [ati])).bind fun atj=>some (.next ((aM (Ei+1)),atj)))))else some (.next ((aM (Ei+1)),R3))))else some (.out R3))
def HV (ai:Constraint)(aL:(ae Int))(Ej:(ae (ae Int))):(Int × (ae (ae Int)))->Option (di (Int × (ae (ae Int))) (cz ((ae (ae Int))) ((ae Int)))):=fun⟨i82,aeL⟩=>(bif (decide (i82<Ej.len))then((bE Ej.l i82).bind fun aeJ=>((bE Ej.l i82).bind fun xg=>((bE xg.l (aM (xg.len-1))).bind fun mU=>((bE xg.l 0).bind fun atk=>((Eh aL ai mU atk).bind fun atl=>(bif atl then some (.out (.ret xg))else((bE xg.l 0).bind fun Bp=>((cd (HU ai aL xg mU) ((aM (Bp+1)),aeL):Option ((ae (ae Int)))).bind fun R4=>some (.next ((aM (i82+1)),R4))))))))))else some (.out (.go aeL)))
def Ek (ai:Constraint)(aL:(ae Int)):((ae (ae Int)))->Option (di ((ae (ae Int))) (cz (Unit) ((ae Int)))):=fun Ej=>(bif (decide (Ej.len>0))then((cd (HV ai aL Ej) (0,.nil):Option (cz ((ae (ae Int))) ((ae Int)))).bind fun atm=>match atm with| .go atn=>some (.next atn)| .ret ato=>some (.out (.ret ato)))else some (.out (.go ())))
def HW (ai:Constraint)(aL:(ae Int)):Option ((ae Int)):=
 ((Eg ai aL.len).bind fun ka=>(bif ka then((cd (Mk ai) (0,.nil):Option ((ae (ae Int)))).bind fun RI=>((cd (Ek ai aL) RI:Option (cz (Unit) ((ae Int)))).bind fun atp=>match atp with| .go _=>some ae.nil| .ret atq=>some atq))else some ae.nil))
def HX (ai:Int)(aL:Int)(ej:Int):Option (Bool):=
 some ((decide ((aM (ai+(aL/2^32)))<(ej/2^32)))||(((aM (ai+(aL/2^32)))==(ej/2^32))&&(decide ((aM ((BitVec.ofInt (IntKind.i64).bits aL &&& BitVec.ofInt (IntKind.i64).bits 4294967295).toNat))<=(aM ((BitVec.ofInt (IntKind.i64).bits ej &&& BitVec.ofInt (IntKind.i64).bits 4294967295).toNat))))))
def yR (ai:Constraint)(aL:(ae Int)):(Int × Int × Int)->Option (di (Int × Int × Int) (cz (Int × Int) (Unit))):=fun⟨i23,i24,R5⟩=>(bif (decide (R5<ai.Row.dq.len))then((bE ai.Row.dq.l R5).bind fun El=>(bif ((decide (El.Cell<0))||(decide (El.Cell>=aL.len)))then some (.out (.ret ()))else((bE aL.l El.Cell).bind fun atr=>((bE aL.l El.Cell).bind fun R6=>some (.next ((aM (i23+(aM (El.gA*(aM (atr.tdiv 4294967296)))))),(aM (i24+(aM (El.gA*(R6.tmod 4294967296))))),(aM (R5+1))))))))else some (.out (.go (i23,i24))))
def js (ai:Constraint)(aL:(ae Int)):Option (Bool):=
 (bif (ai.Kind==1)then((((Eg ai aL.len).bind fun yM=>(bif yM then((HW ai aL).bind fun ka=>some (ka.len==0))else some false)):Option (Bool)).bind fun gV=>some gV)else((cd (yR ai aL) (0,0,0):Option (cz (Int × Int) (Unit))).bind fun ats=>match ats with| .go (⟨att,atu⟩)=>(((bif (ai.Kind==0)then((HX att atu ai.Row.qH).bind fun HO=>some HO)else some false):Option (Bool)).bind fun RX=>some RX)| .ret _=>some false))
def HY (ln:(ae Int))(ai:Constraint):Option (Bool):=
 ((js ai ln).bind fun gb=>some (!gb))
def qK (ai:Model)(aL:(ae Int)):Option (Bool):=
 ((((Mi ai aL).bind fun Bq=>(bif Bq then((Mj ai.cN (fun z0=>HY aL z0)).bind fun um=>some (!um))else some false)):Option (Bool)).bind fun Hw=>some Hw)
def atv (ai:(ae Change))(aL:(Change->Option Bool)):(Int)->Option (di (Int) (cz (Unit) (Int))):=fun cQ=>(bif (decide (cQ<ai.len))then((bE ai.l cQ).bind fun fT=>((aL fT).bind fun hq=>(bif hq then some (.out (.ret cQ))else some (.next (aM (cQ+1))))))else some (.out (.go ())))
def R7 (ai:(ae Change))(aL:(Change->Option Bool)):Option (Int):=
 ((cd (atv ai aL) 0:Option (cz (Unit) (Int))).bind fun gV=>match gV with| .go _=>some (-1)| .ret pJ=>some pJ)
def Ml (ai:(ae Change))(aL:(Change->Option Bool)):Option (Bool):=
 ((R7 ai aL).bind fun cq=>some (decide (cq>=0)))
def Em (ai:Int):Option (Bool):=
 some ((decide (ai>=(-1000000000)))&&(decide (ai<=1000000000)))
def En (ln:Int)(ai:Change):Option (Bool):=
 (((bif (decide (ai.Cell<0))then some true else(bif (decide (ai.Cell>=ln))then some true else((Em ai.Add).bind fun pL=>some (!pL)))):Option (Bool)).bind fun oi=>some oi)
def atw (ai:(ae Term))(aL:(Term->Option Bool)):(Int)->Option (di (Int) (cz (Unit) (Int))):=fun cQ=>(bif (decide (cQ<ai.len))then((bE ai.l cQ).bind fun fT=>((aL fT).bind fun hq=>(bif hq then some (.out (.ret cQ))else some (.next (aM (cQ+1))))))else some (.out (.go ())))
def R8 (ai:(ae Term))(aL:(Term->Option Bool)):Option (Int):=
 ((cd (atw ai aL) 0:Option (cz (Unit) (Int))).bind fun gV=>match gV with| .go _=>some (-1)| .ret pJ=>some pJ)
def Mm (ai:(ae Term))(aL:(Term->Option Bool)):Option (Bool):=
 ((R8 ai aL).bind fun cq=>some (decide (cq>=0)))
def Eo (ln:Int)(ai:Term):Option (Bool):=
 (((bif (decide (ai.Cell<0))then some true else(bif (decide (ai.Cell>=ln))then some true else((Em ai.gA).bind fun pL=>some (!pL)))):Option (Bool)).bind fun oi=>some oi)
def HZ (ai:Row)(aL:Int):Option (Bool):=
 ((Mm ai.dq (fun z0=>Eo aL z0)).bind fun ka=>some (!ka))
def H3 (ln:Int)(ai:Row):Option (Bool):=
 ((HZ ai ln).bind fun gb=>some (!gb))
def H4 (ai:b4)(aL:Int):Option (Bool):=
 ((((Ml ai.Delta (fun z0=>En aL z0)).bind fun Bq=>(bif Bq then some false else((Ef ai.dd (fun z0=>H3 aL z0)).bind fun um=>some (!um)))):Option (Bool)).bind fun Hw=>some Hw)
def H5 (aL:(ae Change)):(Int × (ae Int))->Option (di (Int × (ae Int)) ((ae Int))):=fun⟨Mn,rC⟩=>(bif (decide (Mn<aL.len))then((bE aL.l Mn).bind fun j9=>(bif ((decide (j9.Cell>=0))&&(decide (j9.Cell<rC.len)))then((bE rC.l j9.Cell).bind fun aD8=>((bE rC.l j9.Cell).bind fun R6=>((bE rC.l j9.Cell).bind fun sP=>((bE rC.l j9.Cell).bind fun D9=>some (.next ((aM (Mn+1)),(pE rC j9.Cell (aM (R6+j9.Add)))))))))else some (.next ((aM (Mn+1)),rC))))else some (.out rC))
def rD (ai:(ae Int))(aL:(ae Change)):Option ((ae Int)):=
 ((pI 8 ai).bind fun s1=>((cd (H5 aL) (0,s1):Option ((ae Int))).bind fun atx=>some atx))
def sR (aL:b4)(ej:(ae Int)):(Int)->Option (di (Int) (cz (Unit) (Int))):=fun rC=>(bif (decide (rC<aL.dd.len))then((bE aL.dd.l rC).bind fun HD=>((js (Constraint.mk 0 0 HD 0 0) ej).bind fun Hl=>(bif Hl then some (.next (aM (rC+1)))else some (.out (.ret rC)))))else some (.out (.go ())))
def pN (ai:Model)(sP:(ae Int)):(Int)->Option (di (Int) (cz (Unit) (Int))):=fun Mo=>(bif (decide (Mo<ai.cN.len))then((bE ai.cN.l Mo).bind fun HO=>((js HO sP).bind fun aty=>(bif aty then some (.next (aM (Mo+1)))else some (.out (.ret Mo)))))else some (.out (.go ())))
def oY (ai:Model)(aL:b4)(ej:(ae Int)):Option (gU):=
 ((cd (sR aL ej) 0:Option (cz (Unit) (Int))).bind fun RV=>match RV with| .go _=>((rD ej aL.Delta).bind fun sP=>((cd (pN ai sP) 0:Option (cz (Unit) (Int))).bind fun atz=>match atz with| .go _=>some (gU.mk 0 0)| .ret R9=>some (gU.mk 2 R9)))| .ret atA=>some (gU.mk 1 atA))
def H6 (ai:Model)(aL:b4)(ej:(ae Int)):Option (gU × Int):=
 ((qK ai ej).bind fun fT=>(bif fT then((H4 aL ej.len).bind fun sN=>(bif sN then((oY ai aL ej).bind fun Sa=>some (Sa,0))else some ((gU.mk 0 0),2)))else some ((gU.mk 0 0),1)))
def pO (ai:Model)(aL:b4)(ej:(ae Int)):Option (Bool):=
 ((H6 ai aL ej).bind fun ka=>some ((ka.2==0)&&(ka.1.Kind==0)))
def Br (ln:Model)(ai:Int):Option (Bool):=
 some ((decide (ai<0))||(decide (ai>=ln.Actions.len)))
def yS (ai:Model)(aL:Int)(ej:(ae Int)):Option ((ae Int) × gU):=
 ((bE ai.Actions.l aL).bind fun ka=>((oY ai ka.b4 ej).bind fun mQ=>(bif (mQ.Kind != 0)then((pI 8 ej).bind fun atB=>some (atB,mQ))else((rD ej ka.b4.Delta).bind fun Bn=>some (Bn,mQ)))))
def Bs (ai:Model)(ej:(ae Int)):((ae Int) × Int × (ae gU))->Option (di ((ae Int) × Int × (ae gU)) ((ae Int) × (ae gU))):=fun⟨aeM,i44,aeN⟩=>(bif (decide (i44<ej.len))then((bE ej.l i44).bind fun H7=>((yS ai H7 aeM).bind fun D5=>((gz 16 aeN (ae.mk [D5.2])).bind fun atC=>some (.next (D5.1,(aM (i44+1)),atC)))))else some (.out (aeM,aeN)))
def xh (ai:Model)(aL:(ae Int))(ej:(ae Int)):Option ((ae Int) × (ae gU) × Int):=
 ((qK ai aL).bind fun gb=>(bif gb then((ui ej (fun z0=>Br ai z0)).bind fun yM=>(bif yM then some (ae.nil,ae.nil,7)else((pI 8 aL).bind fun aeO=>(bif (decide (0<ej.len))then((bE ej.l 0).bind fun Sa=>((yS ai Sa aeO).bind fun eT=>((gz 16 ae.nil (ae.mk [eT.2])).bind fun atD=>((cd (Bs ai ej) (eT.1,(aM (0+1)),atD):Option ((ae Int) × (ae gU))).bind fun atE=>match atE with|⟨atF,R9⟩=>some (atF,R9,0)))))else some (aeO,ae.nil,0)))))else some (ae.nil,ae.nil,1)))
def Ep (ai:Model)(aL:Int)(ej:(ae Int)):Option ((ae Int) × gU × Int):=
 ((xh ai ej (ae.mk [aL])).bind fun ka=>(bif (ka.2.2 != 0)then some (ae.nil,(gU.mk 0 0),ka.2.2)else((bE ka.2.1.l 0).bind fun fT=>some (ka.1,fT,0))))
def Mp (ln:Model)(ai:Int):Option (Bool):=
 some ((decide (ai<0))||(decide (ai>=ln.Actions.len)))
def H8 (ai:(ae Int))(aL:(ae Int)):(Int)->Option (di (Int) (cz (Unit) (Unit))):=fun i8=>(bif (decide (i8<ai.len))then((bE ai.l i8).bind fun hq=>((bE aL.l i8).bind fun sN=>(bif (hq != sN)then some (.out (.ret ()))else some (.next (aM (i8+1))))))else some (.out (.go ())))
def pP (ai:(ae Int))(aL:(ae Int)):Option (Bool):=
 (bif (ai.len != aL.len)then some false else((cd (H8 ai aL) 0:Option (cz (Unit) (Unit))).bind fun xf=>match xf with| .go _=>some true| .ret _=>some false))
def H9 (mR:(ae Change)):(Int × (ae Term))->Option (di (Int × (ae Term)) ((ae Term))):=fun⟨i32,i33⟩=>(bif (decide (i32<mR.len))then((bE mR.l i32).bind fun aeP=>((gz 16 i33 (ae.mk [(Term.mk aeP.Cell aeP.Add)])).bind fun atG=>some (.next ((aM (i32+1)),atG))))else some (.out i33))
def Ia (ai:(ae (ae Change))):(Int × (ae Term))->Option (di (Int × (ae Term)) ((ae Term))):=fun⟨Sb,i12⟩=>(bif (decide (Sb<ai.len))then((bE ai.l Sb).bind fun mR=>((cd (H9 mR) (0,i12):Option ((ae Term))).bind fun atH=>some (.next ((aM (Sb+1)),atH))))else some (.out i12))
def Ib (Mq:(ae Term)):(Int × (ae Change))->Option (di (Int × (ae Change)) ((ae Change))):=fun⟨Sc,aeQ⟩=>(bif (decide (Sc<Mq.len))then((bE Mq.l Sc).bind fun sO=>((gz 16 aeQ (ae.mk [(Change.mk sO.Cell sO.gA)])).bind fun atI=>some (.next ((aM (Sc+1)),atI))))else some (.out aeQ))
def yT (ai:(ae (ae Change))):Option ((ae Change)):=
 ((cd (Ia ai) (0,.nil):Option ((ae Term))).bind fun atJ=>((D0 atJ).bind fun Mq=>((cd (Ib Mq) (0,.nil):Option ((ae Change))).bind fun atK=>some atK)))
def Bt (ai:Model)(ej:(ae Int))(mV:(ae Int) × (ae gU) × Int):((ae Int) × Int × (ae (ae Change)))->Option (di ((ae Int) × Int × (ae (ae Change))) (cz ((ae Int) × (ae (ae Change))) (Unit))):=fun⟨sS,i91,Sd⟩=>(bif (decide (i91<ej.len))then((bE ej.l i91).bind fun Bp=>((Ep ai Bp sS).bind fun yU=>((bE ai.Actions.l Bp).bind fun sO=>((pO ai sO.b4 sS).bind fun Se=>(((bif (yU.2.2 != 0)then some true else((bE mV.2.1.l i91).bind fun aeR=>(bif ((yU.2.1.Kind==aeR.Kind)&&((yU.2.1.Index==aeR.Index)&&true))then(bif (Se==(yU.2.1.Kind==0))then((qK ai yU.1).bind fun atL=>(bif atL then(bif Se then some false else((pP yU.1 sS).bind fun atM=>some (!atM)))else some true))else some true)else some true))):Option (Bool)).bind fun R4=>(bif R4 then some (.out (.ret ()))else(bif Se then((bE ai.Actions.l Bp).bind fun atN=>((gz 24 Sd (ae.mk [atN.b4.Delta])).bind fun oZ=>some (.next (yU.1,(aM (i91+1)),oZ))))else some (.next (yU.1,(aM (i91+1)),Sd)))))))))else some (.out (.go (sS,Sd))))
def Mr (ai:Model)(aL:(ae Int))(ej:(ae Int)):Option (Bool):=
 ((DZ).bind fun gb=>(bif gb then((((D6 ai).bind fun pL=>(bif pL then((D7 aL).bind fun Bq=>(bif Bq then(bif (decide (ej.len>20))then some true else((qK ai aL).bind fun fT=>some (!fT)))else some true))else some true)):Option (Bool)).bind fun xf=>(bif xf then some true else((xh ai aL ej).bind fun mV=>((ui ej (fun z0=>Mp ai z0)).bind fun mR=>(bif mR then some ((mV.2.2==7)&&((aM (mV.1.len+mV.2.1.len))==0))else(((bif (mV.2.2 != 0)then some true else(bif (mV.2.1.len != ej.len)then some true else((qK ai mV.1).bind fun uk=>some (!uk)))):Option (Bool)).bind fun atO=>(bif atO then some false else((pI 8 aL).bind fun Ms=>(bif (decide (0<ej.len))then((bE ej.l 0).bind fun sP=>((Ep ai sP Ms).bind fun vq=>((bE ai.Actions.l sP).bind fun vr=>((pO ai vr.b4 Ms).bind fun H7=>(((bif (vq.2.2 != 0)then some true else((bE mV.2.1.l 0).bind fun xi=>(bif ((vq.2.1.Kind==xi.Kind)&&((vq.2.1.Index==xi.Index)&&true))then(bif (H7==(vq.2.1.Kind==0))then((qK ai vq.1).bind fun yN=>(bif yN then(bif H7 then some false else((pP vq.1 Ms).bind fun atP=>some (!atP)))else some true))else some true)else some true))):Option (Bool)).bind fun atQ=>(bif atQ then some false else(bif H7 then((bE ai.Actions.l sP).bind fun RT=>((gz 24 ae.nil (ae.mk [RT.b4.Delta])).bind fun atS=>((cd (Bt ai ej mV) (vq.1,(aM (0+1)),atS):Option (cz ((ae Int) × (ae (ae Change))) (Unit))).bind fun RY=>match RY with| .go (⟨atT,atU⟩)=>((A9 atU).bind fun atV=>((((pP atT mV.1).bind fun atW=>(bif atW then((yT atV).bind fun atX=>((rD aL atX).bind fun atY=>((pP atY mV.1).bind fun atZ=>some atZ)))else some false)):Option (Bool)).bind fun at0=>some at0))| .ret _=>some false)))else((cd (Bt ai ej mV) (vq.1,(aM (0+1)),.nil):Option (cz ((ae Int) × (ae (ae Change))) (Unit))).bind fun at1=>match at1 with| .go (⟨at2,at3⟩)=>((A9 at3).bind fun at4=>((((pP at2 mV.1).bind fun at5=>(bif at5 then((yT at4).bind fun at6=>((rD aL at6).bind fun at7=>((pP at7 mV.1).bind fun aua=>some aua)))else some false)):Option (Bool)).bind fun aub=>some aub))| .ret _=>some false))))))))else((((pP Ms mV.1).bind fun auc=>(bif auc then((yT ae.nil).bind fun aud=>((rD aL aud).bind fun aue=>((pP aue mV.1).bind fun auf=>some auf)))else some false)):Option (Bool)).bind fun aug=>some aug))))))))))else some false))
def Mt (ai:Model)(aL:Int)(ej:Int)(vt:Int)(vu:(ae Int)):Option (Bool):=
 ((DZ).bind fun gb=>(bif gb then((((D6 ai).bind fun pL=>(bif pL then((D7 vu).bind fun Bq=>(bif Bq then((qK ai vu).bind fun um=>(bif um then some (ai.Actions.len==0)else some true))else some true))else some true)):Option (Bool)).bind fun xf=>(bif xf then some true else((tZ (aM aL) ai.Actions.len).bind fun mV=>((bE ai.Actions.l mV).bind fun mR=>((pO ai mR.b4 vu).bind fun j9=>(bif j9 then(((bif (decide (mR.b4.dd.len>0))then((tZ (aM ej) mR.b4.dd.len).bind fun nA=>((pI 32 mR.b4.dd).bind fun Sf=>((Ba Sf nA (aM (nA+1))).bind fun Sg=>some Sg)))else some mR.b4.dd):Option ((ae Row))).bind fun xj=>(((bif (decide (ai.cN.len>(aM (2*vu.len))))then((tZ (aM vt) (aM (ai.cN.len-(aM (2*vu.len))))).bind fun Ic=>((pI 64 ai.cN).bind fun Sh=>((Ba Sh (aM ((aM (2*vu.len))+Ic)) (aM ((aM ((aM (2*vu.len))+Ic))+1))).bind fun Si=>some Si)))else some ai.cN):Option ((ae Constraint))).bind fun xk=>((((pO ai (b4.mk mR.b4.Delta xj mR.b4.hg) vu).bind fun RA=>(bif RA then((pO (Model.mk ai.bH ai.Tables ai.ff xk ai.Operations ai.Actions ai.cf) mR.b4 vu).bind fun RB=>(bif RB then((pO (Model.mk ai.bH ai.Tables ai.ff xk ai.Operations ai.Actions ai.cf) (b4.mk mR.b4.Delta xj mR.b4.hg) vu).bind fun auh=>some auh)else some false))else some false)):Option (Bool)).bind fun RC=>some RC)))else some true))))))else some false))
end
end Go.Abs.bz
namespace Go.Abs
open Go
variable{aa:Nat->Option bU}
inductive hv:List Bool->List Bool->Prop
 |nil:hv [] []
 |cons {a c:Bool} {l r:List Bool} (h:a=true->c=true) (k:hv l r):hv (a::l) (c::r)
theorem hv.get{l r:List Bool}:hv l r->∀{i:Nat},l[i]? =some true->r[i]? =some true
 | .nil,_,h=>by simp at h
 | .cons h k,0,e=>by simp at e;subst e;simp[h rfl]
 | .cons h k,i+1,e=>by simpa using k.get (by simpa using e)
theorem hv.app{l r fk o9:List Bool}:hv l r->hv fk o9->hv (l++fk) (r++o9)
 | .nil,h=>h
 | .cons h k,h'=>.cons h (k.app h')
theorem hv.rev{l r:List Bool}:hv l r->hv l.reverse r.reverse
 | .nil=>.nil
 | .cons h k=>by rw[JZ,JZ];exact k.rev.app (.cons h .nil)
theorem hv.refl:∀l:List Bool,hv l l
 |[]=>.nil
 | _::r=>.cons id (hv.refl r)
theorem hv.take{l r:List Bool}:hv l r->∀n,hv (l.take n) (r.take n)
 | .nil,n=>by simp;exact .nil
 | .cons h k,0=>.nil
 | .cons h k,n+1=>.cons h (k.take n)
theorem hv.len{l r:List Bool}:hv l r->l.length=r.length
 | .nil=>rfl
 | .cons _ k=>by simp[k.len]
theorem hv.no{l r:List Bool}:hv l r->r.all (!·)=true->l.all (!·)=true
 | .nil,_=>rfl
 | .cons (a:=a) (c:=c) h k,e=>by
   simp only[J7,b6]at e⊢;refine⟨?_,k.no e.2⟩;cases a with
   |false=>rfl
   |true=>rw[h rfl]at e;cases e.1
theorem Sj{call:cW}(hc:mE call){ops:List bS}{S:Nat->av}{a7:Nat->Bool}(hs:∀i bd,ops[i]? =some bd->mG call bd (S i) (S (i+1)) (a7 i)){i:Nat}:∀{d:Nat},i+d<=ops.length->(∀x,i<=x->x<i+d->a7 x=false)->(S (i+d)).H=(S i).H
 |0,_,_=>rfl
 |d+1,hd,ag=>by
  have:=(hs (i+d) ops[i+d] (eg (by omega))).still hc (ag (i+d) (by omega) (by omega));exact this.trans (Sj hc hs (d:=d) (by omega) fun x h1 h2=>ag x h1 (by omega))
theorem aui{call:cW}{bd:bS}{S lG:av}{a7:Bool}(h:mG call bd S lG a7)(ag:a7=false):jz call (bd,S,S.H)=true:=by
 unfold jz;rcases h with⟨h0,v,H1,bO,h1,-,h2⟩|⟨h0,-,-⟩
 ·simp only[h0,h1,Rl,fU,kB]
  exact h2.symm.trans ag
 ·simp only[h0]
theorem Sk{call:cW}:∀{ops:List bS} {st:av} {cl:List av},fx call ops st=some cl->cl.length=ops.length+1
 |[],st,cl,h=>by simp only[fx,aB]at h;subst h;rfl
 |o::r,st,cl,h=>by
  simp only[fx]at h;split at h
  ·split at h
   ·obtain⟨t,h1,rfl⟩:=cA.1 h
    simp[Sk h1]
   ·cases h
  ·obtain⟨t,h1,rfl⟩:=cA.1 h
   simp[Sk h1]
  ·cases h
theorem auj{call:cW}:∀{ops:List bS} {st:av} {cl:List av},fx call ops st=some cl->cl[0]? =some st
 |[],st,cl,h=>by simp only[fx,aB]at h;subst h;rfl
 |o::r,st,cl,h=>by
  simp only[fx]at h;split at h
  ·split at h
   ·obtain⟨t,h1,rfl⟩:=cA.1 h;rfl
   ·cases h
  ·obtain⟨t,h1,rfl⟩:=cA.1 h;rfl
  ·cases h
inductive kb (aa:Nat->Option bU) (b:Nat) (ms:cG):List bS->bW->bW->Heap->bW->bW->Heap->List Bool->Prop
 |nil {aq σ:bW} {H:Heap}:kb aa b ms [] aq σ H aq σ H []
 |step {o:bS} {rest:List bS} {aq σ a1 aW:bW} {H H':Heap} {v:V} {wr:List Bool} (hw:gd aq σ o.guard=some true) (h:∀H,Own H ms->cc (b0 aa) (bw aq σ) H H.length o.op=some (v,H,H.length)) (k:kb aa b ms rest (fI aq o.dst v) (fJ σ o.dst v) H a1 aW H' wr):kb aa b ms (o::rest) aq σ H a1 aW H' (false::wr)
 |skip {o:bS} {rest:List bS} {aq σ a1 aW:bW} {H H':Heap} {wr:List Bool} (hw:gd aq σ o.guard=some false) (k:kb aa b ms rest (fI aq o.dst (.aU [])) (fJ σ o.dst (.aU [])) H a1 aW H' wr):kb aa b ms (o::rest) aq σ H a1 aW H' (false::wr)
 |make {o:bS} {rest:List bS} {aq σ a1 aW:bW} {H H1 H':Heap} {bO:Nat} {v:V} {wr:List Bool} (hw:gd aq σ o.guard=some true) (h:cc (b0 aa) (bw aq σ) H H.length o.op=some (v,H1,bO)) (hb:b<=bO) (fO:b<=H1.length) (aw:Own H1 ms) (k:kb aa b ms rest (fI aq o.dst v) (fJ σ o.dst v) H1 a1 aW H' wr):kb aa b ms (o::rest) aq σ H a1 aW H' (true::wr)
theorem iA.auk{b:Nat}{ms:cG}{A:List bS}{aq σ a1 aW:bW}{H:Heap}(h:iA (b0 aa) ms A aq σ a1 aW):kb aa b ms A aq σ H a1 aW H (List.replicate A.length false):=by
 induction h with
 |nil=>exact .nil
 |step hw h k ih=>exact .step hw h ih
 |skip hw k ih=>exact .skip hw ih
theorem kb.append{b:Nat}{ms:cG}{A B:List bS}{aq σ eH cU Mu jG:bW}{H H1 H2:Heap}{w w':List Bool}(h:kb aa b ms A aq σ H eH cU H1 w)(k:kb aa b ms B eH cU H1 Mu jG H2 w'):kb aa b ms (A++B) aq σ H Mu jG H2 (w++w'):=by
 induction h with
 |nil=>exact k
 |step hw h _ ih=>exact .step hw h (ih k)
 |skip hw _ ih=>exact .skip hw (ih k)
 |make hw h b1 e3 aw _ ih=>exact .make hw h b1 e3 aw (ih k)
theorem kb.len{b:Nat}{ms:cG}{A:List bS}{aq σ eH cU:bW}{H H1:Heap}{w:List Bool}(h:kb aa b ms A aq σ H eH cU H1 w):w.length=A.length:=by
 induction h<;>simp_all
theorem kb.own{b:Nat}{ms:cG}{A:List bS}{aq σ eH cU:bW}{H H1:Heap}{w:List Bool}(h:kb aa b ms A aq σ H eH cU H1 w)(aw:Own H ms)(hb:b<=H.length):Own H1 ms/\b<=H1.length:=by
 induction h with
 |nil=>exact⟨aw,hb⟩
 |step hw h _ ih=>exact ih aw hb
 |skip hw _ ih=>exact ih aw hb
 |make hw h b1 e3 lM _ ih=>exact ih lM e3
theorem kb.run{b:Nat}{ms:cG}:∀{A:List bS} {aq σ a1 aW:bW} {H H':Heap} {w:List Bool},kb aa b ms A aq σ H a1 aW H' w->∀{aF au:Env} {low:Nat} {wr:List Bool} (B:List bS),Fits aF aq->Fits au σ->Own H ms->b<=low->b<=H.length->
  ∃ja dt low' w',Fits ja a1/\Fits dt aW/\b<=low'/\b<=H'.length/\Own H' ms/\hv w' w/\c3 (b0 aa) (A++B) ⟨aF,au,H,low,none⟩ wr=c3 (b0 aa) B ⟨ja,dt,H',low',none⟩ (w'.reverse++wr)/\
   ∀cl,fx (b0 aa) (A++B) ⟨aF,au,H,low,none⟩=some cl->∃kt lL,cl=kt++lL/\kt.length=A.length/\fx (b0 aa) B ⟨ja,dt,H',low',none⟩=some lL/\(∀T∈kt,Own T.H ms)/\
    ∀(i:Nat) (o:bS) (T:av),A[i]? =some o->kt[i]? =some T->w[i]? =some false->∀H',Own H' ms->jz (b0 aa) (o,T,H')=true
 |[],aq,σ,_,_,H,_,_,.nil,aF,au,low,wr,B,h1,h2,aw,hb,hl=>⟨aF,au,low,[],h1,h2,hb,hl,aw,.nil,rfl,fun cl h=>⟨[],cl,rfl,rfl,h,(fun _ h=>nomatch h),(fun i o T h=>by simp at h)⟩⟩
 |o::A,aq,σ,a1,aW,H,H',_,.step (v:=v) (wr:=w) hw h k,aF,au,low,wr,B,h1,h2,aw,hb,fO=>by
  obtain⟨ny,lh,af,ak,bK⟩:=w6 h1 h2 H (min low H.length) o.dst v;obtain⟨ja,dt,low',w',f1,f2,f0,f5,f6,f7,f3,f4⟩:=k.run (low:=min low H.length) (wr:=false::wr) B ak bK aw (by omega) fO;have jr:=hw;rw[<-A3 h1 h2]at jr;have hs:=h H aw;rw[<-tY h1 h2]at hs;refine⟨ja,dt,low',false::w',f1,f2,f0,f5,f6,.cons id f7,?_,fun cl ht=> ?_⟩
  ·simp only[mi,c3,jr,hs,lJ]
   rw[af,f3];simp
  ·simp only[mi,fx,jr,hs]at ht
   rw[af]at ht;obtain⟨nU,eh,rfl⟩:=cA.1 ht;obtain⟨kt,lL,rfl,g1,g2,g0,g3⟩:=f4 nU eh;refine⟨_::kt,lL,rfl,by simp[g1],g2,fun T hT=>(dx.1 hT).elim (fun e=>e ▸ aw) (g0 T),fun i p T hp hT hi H' lM=> ?_⟩;cases i with
   |zero=>
    simp only[o8,aB]at hp hT;subst hp;subst hT;have wZ:=h H' lM;rw[<-tY h1 h2]at wZ;simp only[jz,jr,hs,wZ,lJ,vQ,uW,Rl]
   |succ i=>
    simp only[CC]at hp hT hi;exact g3 i p T hp hT hi H' lM
 |o::A,aq,σ,a1,aW,H,H',_,.skip (wr:=w) hw k,aF,au,low,wr,B,h1,h2,aw,hb,fO=>by
  obtain⟨ny,lh,af,ak,bK⟩:=w6 h1 h2 H low o.dst (.aU []);obtain⟨ja,dt,low',w',f1,f2,f0,f5,f6,f7,f3,f4⟩:=k.run (wr:=false::wr) B ak bK aw hb fO;have jr:=hw;rw[<-A3 h1 h2]at jr;refine⟨ja,dt,low',false::w',f1,f2,f0,f5,f6,.cons id f7,?_,fun cl ht=> ?_⟩
  ·simp only[mi,c3,jr]
   rw[af,f3];simp
  ·simp only[mi,fx,jr]at ht
   rw[af]at ht;obtain⟨nU,eh,rfl⟩:=cA.1 ht;obtain⟨kt,lL,rfl,g1,g2,g0,g3⟩:=f4 nU eh;refine⟨_::kt,lL,rfl,by simp[g1],g2,fun T hT=>(dx.1 hT).elim (fun e=>e ▸ aw) (g0 T),fun i p T hp hT hi H' lM=> ?_⟩;cases i with
   |zero=>
    simp only[o8,aB]at hp hT;subst hp;subst hT;simp only[jz,jr]
   |succ i=>
    simp only[CC]at hp hT hi;exact g3 i p T hp hT hi H' lM
 |o::A,aq,σ,a1,aW,H,H',_,.make (H1:=H1) (bO:=bO) (v:=v) (wr:=w) hw h b1 e3 Ie k,aF,au,low,wr,B,h1,h2,aw,hb,fO=>by
  obtain⟨ny,lh,af,ak,bK⟩:=w6 h1 h2 H1 (min low bO) o.dst v;obtain⟨ja,dt,low',w',f1,f2,f0,f5,f6,f7,f3,f4⟩:=k.run (low:=min low bO) (wr:=ew H H1 bO::wr) B ak bK Ie (by omega) e3;have jr:=hw;rw[<-A3 h1 h2]at jr;have hs:=h;rw[<-tY h1 h2]at hs;refine⟨ja,dt,low',ew H H1 bO::w',f1,f2,f0,f5,f6,.cons (fun _=>rfl) f7,?_,fun cl ht=> ?_⟩
  ·simp only[mi,c3,jr,hs]
   rw[af,f3];simp
  ·simp only[mi,fx,jr,hs]at ht
   rw[af]at ht;obtain⟨nU,eh,rfl⟩:=cA.1 ht;obtain⟨kt,lL,rfl,g1,g2,g0,g3⟩:=f4 nU eh;refine⟨_::kt,lL,rfl,by simp[g1],g2,fun T hT=>(dx.1 hT).elim (fun e=>e ▸ aw) (g0 T),fun i p T hp hT hi H' lM=> ?_⟩;cases i with
   |zero=>simp at hi
   |succ i=>
    simp only[CC]at hp hT hi;exact g3 i p T hp hT hi H' lM
def Er (eC:List Nat)(ops:List bS)(w wr:List Bool):Bool:=
 wr.zipIdx.all fun(x,i)=>!x||ops.zipIdx.all fun(o,j)=>!gr o.op||i==j||qc eC i j||(Nat.blt i w.length&&Nat.blt j w.length&&!w.getD j true)
theorem aul{eC:List Nat}{ops:List bS}{w wr mW:List Bool}(h:hv wr mW)(ho:Er eC ops w mW=true):Er eC ops w wr=true:=by
 unfold Er at ho⊢;rw[ev]at ho⊢;rintro⟨x,i⟩ hx;cases x with
 |false=>rfl
 |true=>exact ho (true,i) (jw.2 (h.get (jw.1 hx)))
section
variable{b:Nat}{eH σ cU:bW}{H H1:Heap}{Q:X->bW->Heap->Prop}{ms:cG}
theorem aum{A R ops:List bS}{eC:List Nat}(qw:A++R=ops)(aw:Own H ms)
  (dc:b<=H.length->∃eH cU H1 w,kb aa b ms A n9 σ H eH cU H1 w/\∀w',hv w' w->Op aa b R eH cU H1 w'.reverse (fun aW H' wr=>Er eC ops w wr=true/\Q .normal aW H')):
  fc aa b (.region ops (some eC)) σ H Q:=fun au low h1 h2 ar=>by
 obtain⟨eH,cU,H1,w,hA,ab⟩:=dc ar;obtain⟨ny,lh,cb,w',f1,f2,f0,f5,f6,f7,f3,f4⟩:=hA.run (low:=low) (wr:=[]) R tX h1 aw h2 ar;obtain⟨aun,Sl,Sm,Bu,Bv,Sn,bQ,c6,iX,vv,rE,Ig⟩:=ab w' f7 ny lh cb f1 f2 f0 f5;rw[qw,lR]at f3;rw[qw]at f4;have he:c3 (b0 aa) ops ⟨[],au,H,low,none⟩ []=some (⟨aun,Sl,Sm,Bu,none⟩,Bv):=f3.trans bQ;obtain⟨cl,py⟩:=G9 he;obtain⟨kt,lL,t1,t2,t3,t4,t5⟩:=f4 cl py;have Sp:=hA.len;have auo:=auj t3;obtain⟨S,a7,h0,hn,lW,hs⟩:=vd _ _ _ _ _ he;obtain⟨lG,aD9,-,-,aeS,-⟩:=vd _ _ _ _ _ bQ;rw[List.reverse_reverse]at aeS;have kn:=KV ops S a7 cl hs (by rw[h0];exact py);simp only[List.reverse_nil,jN]at lW
 have hw:∀{i},Bv[i]? =some true↔i<ops.length/\a7 i=true:=fun {i}=>by
  rw[lW,hL];by_cases hi:i<ops.length
  ·rw[Wq hi];simp[hi]
  ·rw[lQ (by simpa using hi)];simp[hi]
 have aeT:∀{i},Bv.getD i false=true↔i<ops.length/\a7 i=true:=fun {i}=>by
  rw[<-hw,kj];cases Bv[i]? with
  |none=>simp
  |some x=>simp
 have aup:∀{i},i<w.length->Bv[i]? =some true->w[i]? =some true:=fun {i} hi h=>by
  rw[aeS,e5 (by rw[f7.len];exact hi)]at h;exact f7.get h
 have ct:∀i,i<ops.length->a7 i=true->∀j o',ops[j]? =some o'->gr o'.op=true->i≠j->qc eC i j=true\/(i<w.length/\j<w.length/\w[j]? =some false):=fun i hi ag j o' hj ht cF=>by
  unfold Er at rE;rw[ev]at rE;have:=rE (true,i) (jw.2 (hw.2 ⟨hi,ag⟩));simp only[hX,uX,ev]at this;have:=this (o',j) (jw.2 hj);simp only[ht,hX,iI,b6,beq_iff_eq,cF,or_false,gq,false_or]at this;refine this.imp id fun⟨⟨q1,q2⟩,cn⟩=> ?_;have q1:=(Nat.blt_eq ..).mp q1;have q2:=(Nat.blt_eq ..).mp q2;refine⟨q1,q2,?_⟩;rw[kj,eg q2]at cn;rw[eg q2];simpa using cn
 have tS:r8 (b0 aa) eC ops Bv ⟨[],au,H,low,none⟩=true:=by
  unfold r8;rw[py];simp only[b6];constructor
  ·unfold J9
   simp only[ev];rintro⟨x,i⟩ hi;cases x with
   |false=>rfl
   |true=>
    simp only[hX,uX,ev];rintro⟨fQ,j⟩ hj;cases fQ with
    |false=>rfl
    |true=>
     have KK:=jw.1 hj;have hi:=hw.1 (jw.1 hi);have hj:=hw.1 KK;by_cases cF:i=j
     ·simp[cF]
     ·have aeU:=eg hj.1
      rcases ct i hi.1 hi.2 j _ aeU ((hs j _ aeU).gr hj.2) cF with q|⟨q1,q2,cn⟩
      ·simp[q]
      ·rw[aup q2 KK]at cn;cases cn
  ·rw[ev]
   intro q bf;unfold Ka at bf;simp only[CH]at bf;obtain⟨⟨o',j⟩,hj,bf⟩:=bf;have hj:=jw.1 hj;simp only at hj bf;split at bf
   ·cases bf
   rename_i vh;simp only[iI,kB,not_or,Ol,Bool.not_eq_true]at vh;obtain⟨ht,iw⟩:=vh;simp only[CH]at bf;obtain⟨⟨CM,k⟩,hk,bf⟩:=bf;have hk:=jw.1 hk;simp only at hk bf;split at bf
   ·cases bf
   rename_i C6;have oJ:j<ops.length:=(fj.1 hj).1
   have tI:k<=ops.length:=by
    have:=(fj.1 hk).1;rw[Sk py]at this;omega
   have aeV:=kn k tI;rw[hk]at aeV;cases aeV;rw[kn j (by omega)]at bf;simp only[zB]at bf;subst bf;simp only[iI,beq_iff_eq,b6,bne_iff_ne,ne_eq,kB,not_or,not_and,Ol]at C6;obtain⟨⟨wI,Gl⟩,Sq⟩:=C6
   have hex:∀i,i<ops.length->a7 i=true->i≠j->qc eC i j=true->(i<j↔i<k):=fun i hi ag cF aeW=>by
    rw[<-decide_eq_decide];by_cases e:decide (i<j)=decide (i<k)
    ·exact e
    ·exact absurd (tc.2 ⟨(true,i),jw.2 (hw.2 ⟨hi,ag⟩),by simp[cF,aeW,e]⟩) Sq
   have aeX:a7 j=false:=by
    cases hx:a7 j with
    |false=>rfl
    |true=>rw[aeT.2 ⟨oJ,hx⟩]at iw;cases iw
   by_cases As:j<w.length/\w[j]? =some false
   ·obtain⟨q1,q2⟩:=As
    have auq:j<A.length:=by omega
    have aEa:k<=A.length:=by
     by_cases vf:k=0
     ·omega
     ·obtain⟨yV,Bw⟩:=aeT.1 (Gl vf)
      rcases gh (k-1) A.length with r|r
      ·omega
      ·rcases ct (k-1) yV Bw j o' hj ht (by omega)with z|⟨z,-⟩
       ·have:=hex (k-1) yV Bw (by omega) z
        omega
       ·omega
    have Rs:Own (S k).H ms:=by
     rw[t1]at hk;rcases gh k A.length with r|r
     ·rw[e5 (by omega)]at hk
      exact t4 _ (gg hk)
     ·obtain rfl:k=A.length:=by omega
      rw[pX (by omega),t2,Ft,auo]at hk;rw[<-te hk];exact f6
    have aeY:=kn j (by omega);rw[<-qw,e5 auq]at hj;rw[t1,e5 (by omega)]at aeY;exact t5 j o' (S j) hj aeY q2 _ Rs
   ·have eP:∀x,x<ops.length->a7 x=true->(x<j↔x<k):=fun x hx Mv=>by
     have tF:x≠j:=fun e=>by rw[e,aeX]at Mv;cases Mv
     rcases ct x hx Mv j o' hj ht tF with q|⟨-,q⟩
     ·exact hex x hx Mv tF q
     ·exact absurd q As
    have hH:(S k).H=(S j).H:=by
     have hc:=Rr aa
     have no:∀x,x<ops.length->(x<j/\k<=x\/x<k/\j<=x)->a7 x=false:=fun x hx aeW=>by
      cases dT:a7 x with
      |false=>rfl
      |true=>have:=eP x hx dT;omega
     rcases Nat.le_total k j with aur|hjk
     ·obtain⟨d,rfl⟩:=oz aur
      exact(Sj hc hs (by omega) fun x yV Bw=>no x (by omega) (by omega)).symm
     ·obtain⟨d,rfl⟩:=oz hjk
      exact Sj hc hs (by omega) fun x yV Bw=>no x (by omega) (by omega)
    rw[hH];exact aui (hs j o' hj) aeX
 exact⟨.normal,Sl,Sm,Bu,Sn,by rw[k2];simp only[he,pb,tS,Bool.true_or,Bool.or_true,if_true,av.fy],c6,iX,vv,Ig⟩
end
end Go.Abs
