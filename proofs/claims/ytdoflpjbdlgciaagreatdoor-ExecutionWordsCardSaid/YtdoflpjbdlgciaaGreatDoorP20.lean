/- Texts of this claim, joined and written short by a program. -/
import Derived.Test.YtdoflpjbdlgciaaGreatDoorP19
import Derived.Test.YtdoflpjbdlgciaaGreatDoorP00
set_option linter.unusedVariables false
set_option linter.unusedSimpArgs false
set_option linter.unusedSectionVars false
set_option maxHeartbeats 2000000
namespace Go.Abs.bZ
open Go Go.Abs
noncomputable section
def aoO (ab:(ak gz))(ax:(gz->Option Bool)):(Int)->Option (cE (Int) (bJ (Unit) (Int))):=fun i7=>(bif (decide (i7<ab.len))then((aP ab.l i7).bind fun gB=>((ax gB).bind fun fE=>(bif fE then some (.out (.ret i7))else some (.next (aN (i7+1))))))else some (.out (.go ())))
def abZ (ab:(ak gz))(ax:(gz->Option Bool)):Option (Int):=
 ((bO (aoO ab ax) 0:Option (bJ (Unit) (Int))).bind fun gT=>match gT with| .go _=>some (-1)| .ret sY=>some sY)
def FD (ab:(ak gz))(ax:(gz->Option Bool)):Option (Bool):=
 ((abZ ab ax).bind fun bt=>some (decide (bt>=0)))
def zK (ab:Int):Option (Bool):=
 some ((decide (ab>=97))&&(decide (ab<=122)))
def zL (ab:Int):Option (Bool):=
 some ((decide (ab>=48))&&(decide (ab<=57)))
def Qn (ab:aW)(ax:aW):Option (Bool):=
 (((bif (decide ((ab.length:Int)>=(ax.length:Int)))then((qa ab 0 (ax.length:Int)).bind fun dp=>some (dp==ax))else some false):Option (Bool)).bind fun gS=>some gS)
def Kk (ab:aW)(ax:aW):Option (Bool):=
 ((Qn ab ax).bind fun bt=>some bt)
def FE (ab:aW):(Int)->Option (cE (Int) (bJ (Unit) (Unit))):=fun i7=>(bif (decide (i7<(ak.mk [[61,61],[33,61],[60,61],[62,61],[46,46]]).len))then((aP (ak.mk [[61,61],[33,61],[60,61],[62,61],[46,46]]).l i7).bind fun gB=>((Kk ab gB).bind fun fE=>(bif fE then some (.out (.ret ()))else some (.next (aN (i7+1))))))else some (.out (.go ())))
def Cv (ab:aW):Option (Int):=
 ((bO (FE ab) 0:Option (bJ (Unit) (Unit))).bind fun gT=>match gT with| .go _=>(((bif (ab != [])then((aP ab 0).bind fun iD=>((strings_IndexByte [60,62,61,43,45,42,40,41,123,125,44,58,59] (iD.toNat:Int)).bind fun oB=>some (decide (oB>=0))))else some false):Option (Bool)).bind fun wu=>(bif wu then some 1 else some 0))| .ret _=>some 2)
def FF (ab:aW):Option (Bool):=
 ((((aP ab 0).bind fun cH=>((zK (cH.toNat:Int)).bind fun dp=>(bif dp then some true else((aP ab 0).bind fun ez=>((zL (ez.toNat:Int)).bind fun nN=>(bif nN then some true else((Cv ab).bind fun zM=>some (decide (zM>0))))))))):Option (Bool)).bind fun gS=>some gS)
def FG (ab:aW)(ax:(Int->Option Bool)):(Int)->Option (cE (Int) (Int)):=fun i7=>(((bif (decide (i7<(ab.length:Int)))then((aP ab i7).bind fun fE=>((ax (fE.toNat:Int)).bind fun mL=>some mL))else some false):Option (Bool)).bind fun wv=>(bif wv then some (.next (aN (i7+1)))else some (.out i7)))
def Cw (ab:aW)(ax:(Int->Option Bool)):Option (Int):=
 ((bO (FG ab ax) 0:Option (Int)).bind fun gT=>some gT)
def Cx (ab:Int):Option (Bool):=
 some ((ab==32)||((ab==9)||((ab==10)||(ab==13))))
def Cy (ab:Int):Option (Bool):=
 some (ab != 10)
def Cz (ab:aW):(Int)->Option (cE (Int) (bJ (Int) (Int))):=fun i7=>(bif (decide (i7<(ab.length:Int)))then((aP ab i7).bind fun gB=>((Cx (gB.toNat:Int)).bind fun fE=>(bif fE then some (.next (aN (i7+1)))else((aP ab i7).bind fun nO=>(bif ((nO.toNat:Int)==35)then((qa ab i7 (ab.length:Int)).bind fun dt=>((Cw dt Cy).bind fun wx=>some (.next (aN (i7+wx)))))else some (.out (.ret i7)))))))else some (.out (.go i7)))
def FH (ab:aW):Option (Int):=
 ((bO (Cz ab) 0:Option (bJ (Int) (Int))).bind fun gT=>match gT with| .go aoP=>some aoP| .ret aoQ=>some aoQ)
def FI (ab:Int):Option (Bool):=
 ((((zK ab).bind fun cH=>(bif cH then some true else((zL ab).bind fun jC=>(bif jC then some true else some (ab==95))))):Option (Bool)).bind fun gS=>some gS)
def Kl (ax:(ak Table)):(Int)->Option (cE (Int) (bJ (Unit) (Unit))):=fun i7=>(bif (decide (i7<ax.len))then((((aP ax.l i7).bind fun fE=>(bif (decide ((fE.Name.length:Int)>40))then some true else((aP ax.l i7).bind fun nO=>some (decide (nO.ba.len>12))))):Option (Bool)).bind fun zN=>(bif zN then some (.out (.ret ()))else some (.next (aN (i7+1)))))else some (.out (.go ())))
def Km (ab:(ak Int))(ax:(ak Table)):Option (Bool):=
 ((bO (Kl ax) 0:Option (bJ (Unit) (Unit))).bind fun gT=>match gT with| .go _=>some ((decide (ab.len<=12))&&(decide (ax.len<=20)))| .ret _=>some false)
def Kn (ab:Model):(Int)->Option (cE (Int) (bJ (Unit) (Unit))):=fun i26=>(bif (decide (i26<ab.dI.len))then((aP ab.dI.l i26).bind fun sZ=>(bif (decide ((sZ.length:Int)>40))then some (.out (.ret ()))else some (.next (aN (i26+1)))))else some (.out (.go ())))
def Ko (ab:Model):(Int)->Option (cE (Int) (bJ (Unit) (Unit))):=fun i49=>(bif (decide (i49<ab.c4.len))then((aP ab.c4.l i49).bind fun Qo=>(bif (decide (Qo.Row.cd.len>20))then some (.out (.ret ()))else some (.next (aN (i49+1)))))else some (.out (.go ())))
def Kp (ab:Model):(Int)->Option (cE (Int) (bJ (Unit) (Unit))):=fun i72=>(bif (decide (i72<ab.Operations.len))then((((aP ab.Operations.l i72).bind fun aoR=>(bif (decide ((aoR.Name.length:Int)>40))then some true else((aP ab.Operations.l i72).bind fun aoS=>some (decide (aoS.aL.len>6))))):Option (Bool)).bind fun aoT=>(bif aoT then some (.out (.ret ()))else some (.next (aN (i72+1)))))else some (.out (.go ())))
def Kq (zO:Action):(Int)->Option (cE (Int) (bJ (Unit) (Unit))):=fun i133=>(bif (decide (i133<zO.c7.de.len))then((aP zO.c7.de.l i133).bind fun aoU=>(bif (decide (aoU.cd.len>20))then some (.out (.ret ()))else some (.next (aN (i133+1)))))else some (.out (.go ())))
def Kr (ab:Model):(Int)->Option (cE (Int) (bJ (Unit) (Unit))):=fun i103=>(bif (decide (i103<ab.Actions.len))then((aP ab.Actions.l i103).bind fun zO=>((((aP ab.Actions.l i103).bind fun mM=>(bif (decide (mM.dR.len>6))then some true else(bif (decide (zO.c7.Delta.len>20))then some true else(bif (decide (zO.c7.de.len>10))then some true else some (decide (zO.c7.eQ.len>40)))))):Option (Bool)).bind fun aoV=>(bif aoV then some (.out (.ret ()))else((bO (Kq zO) 0:Option (bJ (Unit) (Unit))).bind fun aoW=>match aoW with| .go _=>some (.next (aN (i103+1)))| .ret _=>some (.out (.ret ()))))))else some (.out (.go ())))
def Ks (ab:Model):Option (Bool):=
 (((bif (decide (ab.aL.len>8))then some true else(bif (decide (ab.Tables.len>6))then some true else(bif (decide (ab.dI.len>20))then some true else(bif (decide (ab.c4.len>60))then some true else(bif (decide (ab.Operations.len>8))then some true else(bif (decide (ab.Actions.len>30))then some true else(bif (decide (ab.bA.len>12))then some true else((Km ab.aL ab.Tables).bind fun gB=>some (!gB))))))))):Option (Bool)).bind fun pk=>(bif pk then some false else((bO (Kn ab) 0:Option (bJ (Unit) (Unit))).bind fun wu=>match wu with| .go _=>((bO (Ko ab) 0:Option (bJ (Unit) (Unit))).bind fun aoX=>match aoX with| .go _=>((bO (Kp ab) 0:Option (bJ (Unit) (Unit))).bind fun Qp=>match Qp with| .go _=>((bO (Kr ab) 0:Option (bJ (Unit) (Unit))).bind fun aoY=>match aoY with| .go _=>some true| .ret _=>some false)| .ret _=>some false)| .ret _=>some false)| .ret _=>some false)))
def Kt (ab:c7):(Int)->Option (cE (Int) (bJ (Unit) (Unit))):=fun i16=>(bif (decide (i16<ab.de.len))then((((aP ab.de.l i16).bind fun eU=>(bif (decide (eU.cd.len>20))then some true else((aP ab.de.l i16).bind fun kI=>(bif (decide (kI.gA<(-1000000000)))then some true else((aP ab.de.l i16).bind fun iD=>some (decide (iD.gA>1000000000))))))):Option (Bool)).bind fun Qq=>(bif Qq then some (.out (.ret ()))else some (.next (aN (i16+1)))))else some (.out (.go ())))
def Ku (ab:c7):Option (Bool):=
 (bif ((decide (ab.Delta.len>20))||(decide (ab.de.len>8)))then some false else((bO (Kt ab) 0:Option (bJ (Unit) (Unit))).bind fun jj=>match jj with| .go _=>some true| .ret _=>some false))
def aoZ (ab:(ak Bool))(ax:Bool):(Int)->Option (cE (Int) (bJ (Unit) (Int))):=fun i7=>(bif (decide (i7<ab.len))then((aP ab.l i7).bind fun gB=>(bif (ax==gB)then some (.out (.ret i7))else some (.next (aN (i7+1)))))else some (.out (.go ())))
def ab0 (ab:(ak Bool))(ax:Bool):Option (Int):=
 ((bO (aoZ ab ax) 0:Option (bJ (Unit) (Int))).bind fun gT=>match gT with| .go _=>some (-1)| .ret ao0=>some ao0)
def Qr (ab:(ak Bool))(ax:Bool):Option (Bool):=
 ((ab0 ab ax).bind fun bt=>some (decide (bt>=0)))
def CA (ab:(ak Bool)):Option (Bool):=
 ((Qr ab false).bind fun bt=>some (!bt))
def ao1 (ab:(ak Int))(ax:(Int->Option Bool)):(Int)->Option (cE (Int) (bJ (Unit) (Int))):=fun i7=>(bif (decide (i7<ab.len))then((aP ab.l i7).bind fun gB=>((ax gB).bind fun fE=>(bif fE then some (.out (.ret i7))else some (.next (aN (i7+1))))))else some (.out (.go ())))
def ab1 (ab:(ak Int))(ax:(Int->Option Bool)):Option (Int):=
 ((bO (ao1 ab ax) 0:Option (bJ (Unit) (Int))).bind fun gT=>match gT with| .go _=>some (-1)| .ret sY=>some sY)
def FJ (ab:(ak Int))(ax:(Int->Option Bool)):Option (Bool):=
 ((ab1 ab ax).bind fun bt=>some (decide (bt>=0)))
def Kv (ab:Int)(ax:Int)(dZ:Int):Option (Bool):=
 some ((decide (ab>=ax))&&(decide (ab<=dZ)))
def Qs (ab:Int):Option (Bool):=
 ((Kv ab 1 6).bind fun bt=>some (!bt))
def Kw (ab:(ak Int)):Option (Bool):=
 ((FJ ab Qs).bind fun bt=>some (!bt))
def zP (ab:aW):Option (Bool):=
 (((bif (decide ((ab.length:Int)<=16))then((Ki ab).bind fun dp=>some (dp==1))else some false):Option (Bool)).bind fun gS=>some gS)
def Qt (ue:(ak Int))(ab:Int):Option (Bool):=
 some ((decide (ab<0))||(decide (ab>=ue.len)))
def Kx (ab:(ak Int))(ax:(ak Int)):Option (Bool):=
 (((bif (decide (ax.len<=3))then((FJ ax (fun z0=>Qt ab z0)).bind fun qd=>some (!qd))else some false):Option (Bool)).bind fun pk=>some pk)
def Ky (ab:Table):Option (Bool):=
 (((((bif (ab.Kind==1)then some (ab.Kind==1)else(bif (ab.Kind==4)then some (ab.Kind==4)else some (ab.Kind==5))):Option (Bool)).bind fun gT=>(bif gT then some (.ret ((decide (ab.Range.fh<=ab.Range.fi))&&((decide (ab.Range.fh>=(-9999)))&&(decide (ab.Range.fi<=9999)))))else some (.go ()))):Option (bJ (Unit) (Bool))).bind fun pk=>match pk with| .go _=>some ((ab.Range.fh==0)&&((ab.Range.fi==1)&&true))| .ret ao2=>some ao2)
def CB (ab:Table):Option (Bool):=
 some ((ab.Kind==0)||(ab.Kind==1))
def Kz (ab:(ak Int))(ax:(ak Int)):(Int × Int)->Option (cE (Int × Int) (Int)):=fun⟨i8,i9⟩=>(bif (decide (i9<ax.len))then((aP ax.l i9).bind fun mL=>((aP ab.l mL).bind fun nO=>some (.next ((aN (i8*nO)),(aN (i9+1))))))else some (.out i8))
def uf (ab:(ak Int))(ax:(ak Int)):Option (Int):=
 ((bO (Kz ab ax) (1,0):Option (Int)).bind fun wy=>some wy)
def CC (ab:(ak Int))(ax:(ak Table)):(Int × Int × Int × (List (aW × Bool)))->Option (cE (Int × Int × Int × (List (aW × Bool))) (bJ (Int × Int) (Unit))):=fun⟨i29,i30,i31,i32⟩=>(bif (decide (i29<ax.len))then((aP ax.l i29).bind fun l2=>((zP l2.Name).bind fun Qu=>((Kv l2.Kind 0 5).bind fun FK=>((Kx ab l2.ba).bind fun FL=>((Ky l2).bind fun nP=>((CA (ak.mk [Qu,(!((jg i32 l2.Name).getD false)),FK,FL,nP])).bind fun lB=>(bif lB then((CB l2).bind fun oC=>(bif oC then(bif (l2.cF != i31)then some (.out (.ret ()))else((uf ab l2.ba).bind fun oD=>some (.next ((aN (i29+1)),i30,(aN (i31+oD)),(mI i32 l2.Name true)))))else(bif (l2.cF != i30)then some (.out (.ret ()))else((uf ab l2.ba).bind fun CD=>some (.next ((aN (i29+1)),(aN (i30+CD)),i31,(mI i32 l2.Name true)))))))else some (.out (.ret ())))))))))else some (.out (.go (i30,i31))))
def CE (ab:(ak Int))(ax:(ak Table)):Option (Bool):=
 ((Kw ab).bind fun bt=>((CA (ak.mk [(decide (ab.len<=4)),(decide (ax.len<=12)),bt])).bind fun cH=>(bif cH then((bO (CC ab ax) (0,0,0,[]):Option (bJ (Int × Int) (Unit))).bind fun ao3=>match ao3 with| .go (⟨ao4,ao5⟩)=>some ((decide (ao5<=128))&&(decide (ao4<=64)))| .ret _=>some false)else some false)))
def FM (ab:(ak aW)):(Int × (List (aW × Bool)))->Option (cE (Int × (List (aW × Bool))) (bJ (Unit) (Unit))):=fun⟨i12,i13⟩=>(bif (decide (i12<ab.len))then((aP ab.l i12).bind fun wx=>((((zP wx).bind fun s0=>(bif s0 then some ((jg i13 wx).getD false)else some true)):Option (Bool)).bind fun Qv=>(bif Qv then some (.out (.ret ()))else some (.next ((aN (i12+1)),(mI i13 wx true))))))else some (.out (.go ())))
def FN (ab:(ak aW)):Option (Bool):=
 ((bO (FM ab) (0,[]):Option (bJ (Unit) (Unit))).bind fun s3=>match s3 with| .go _=>some true| .ret _=>some false)
def FO (ab:(ak Int))(ax:(ak Table))(dZ:Bool):(Int × (ak Range))->Option (cE (Int × (ak Range)) ((ak Range))):=fun⟨i13,i14⟩=>(bif (decide (i13<ax.len))then((aP ax.l i13).bind fun eU=>((CB eU).bind fun mN=>(bif (mN==dZ)then((uf ab eU.ba).bind fun sZ=>((FA (ak.mk [eU.Range]) sZ).bind fun l3=>((jz 16 i14 l3).bind fun ao6=>some (.next ((aN (i13+1)),ao6)))))else some (.next ((aN (i13+1)),i14)))))else some (.out i14))
def FP (ab:(ak Int))(ax:(ak Table))(dZ:Bool):Option ((ak Range)):=
 ((CE ab ax).bind fun bt=>(bif bt then((bO (FO ab ax dZ) (0,.nil):Option ((ak Range))).bind fun wv=>some wv)else some ak.nil))
def np (ab:Int)(ax:Int):Option (Bool):=
 some ((decide (ab>=0))&&(decide (ab<ax)))
def zQ (ab:Int)(ax:Int):Option (Bool):=
 some ((decide (ab>=(aN (0-ax))))&&(decide (ab<=ax)))
def FQ (ab:eg)(ax:Row):(Int × Int)->Option (cE (Int × Int) (bJ (Unit) (Unit))):=fun⟨i16,i17⟩=>(bif (decide (i17<ax.cd.len))then((aP ax.cd.l i17).bind fun eU=>(((bif (decide (eU.Cell<=i16))then some true else(bif (decide (eU.Cell>=ab.strict.len))then some true else(bif (eU.dB==0)then some true else((zQ eU.dB 1000).bind fun pn=>some (!pn))))):Option (Bool)).bind fun CF=>(bif CF then some (.out (.ret ()))else some (.next (eU.Cell,(aN (i17+1)))))))else some (.out (.go ())))
def FR (ab:eg)(ax:Row):Option (Bool):=
 ((bO (FQ ab ax) ((-1),0):Option (bJ (Unit) (Unit))).bind fun jj=>match jj with| .go _=>((zQ ax.gA 1000000000).bind fun s4=>some s4)| .ret _=>some false)
def ao7 (ab:(ak Table))(ax:(Table->Option Bool)):(Int)->Option (cE (Int) (bJ (Unit) (Int))):=fun i7=>(bif (decide (i7<ab.len))then((aP ab.l i7).bind fun gB=>((ax gB).bind fun fE=>(bif fE then some (.out (.ret i7))else some (.next (aN (i7+1))))))else some (.out (.go ())))
def ab2 (ab:(ak Table))(ax:(Table->Option Bool)):Option (Int):=
 ((bO (ao7 ab ax) 0:Option (bJ (Unit) (Int))).bind fun gT=>match gT with| .go _=>some (-1)| .ret sY=>some sY)
def Qw (ab:(ak Table))(ax:(Table->Option Bool)):Option (Bool):=
 ((ab2 ab ax).bind fun bt=>some (decide (bt>=0)))
def KA (ue:Constraint)(ao8:eg)(ab:Table):Option (Bool):=
 (((bif (ab.Kind==0)then(bif (ab.ba.len==2)then((aP ab.ba.l 0).bind fun zM=>((aP ab.ba.l 1).bind fun ie=>(bif (zM==ie)then(bif (ab.cF==ue.cF)then((aP ab.ba.l 0).bind fun zR=>((aP ao8.Model.aL.l zR).bind fun gB=>some (gB==ue.rX)))else some false)else some false)))else some false)else some false):Option (Bool)).bind fun pk=>some pk)
def KB (ab:eg)(ax:Constraint):Option (Bool):=
 (((bif (ax.Row.cd.len==0)then(bif (ax.Row.gA==0)then((Qw ab.Model.Tables (fun z0=>KA ax ab z0)).bind fun zR=>some zR)else some false)else some false):Option (Bool)).bind fun zS=>some zS)
def KC (ab:(ak Term))(ax:(ak Term)):(Int)->Option (cE (Int) (bJ (Unit) (Unit))):=fun i8=>(bif (decide (i8<ab.len))then((aP ab.l i8).bind fun fE=>((aP ax.l i8).bind fun mL=>(bif ((fE.Cell==mL.Cell)&&((fE.dB==mL.dB)&&true))then some (.next (aN (i8+1)))else some (.out (.ret ())))))else some (.out (.go ())))
def CG (ab:(ak Term))(ax:(ak Term)):Option (Bool):=
 (bif (ab.len != ax.len)then some false else((bO (KC ab ax) 0:Option (bJ (Unit) (Unit))).bind fun wy=>match wy with| .go _=>some true| .ret _=>some false))
def KD (ab:Row)(ax:Int)(dZ:Int)(jD:Int):Option (Bool):=
 ((((CG ab.cd (ak.mk [(Term.mk ax dZ)])).bind fun nN=>(bif nN then some (ab.gA==jD)else some false)):Option (Bool)).bind fun pk=>some pk)
def FT (ab:eg):(Int)->Option (cE (Int) (bJ (Unit) (Unit))):=fun i16=>(bif (decide (i16<ab.Model.c4.len))then((aP ab.Model.c4.l i16).bind fun gZ=>((((np gZ.j3 ab.Model.dI.len).bind fun mN=>(bif mN then(bif (gZ.Kind==0)then(((bif (gZ.cF != 0)then some true else(bif (gZ.rX != 0)then some true else((FR ab gZ.Row).bind fun gC=>some (!gC)))):Option (Bool)).bind fun Qx=>(bif Qx then some (.ret ())else some (.go ())))else(((bif (gZ.Kind != 1)then some true else((KB ab gZ).bind fun Qu=>some (!Qu))):Option (Bool)).bind fun ao9=>(bif ao9 then some (.ret ())else some (.go ()))))else some (.ret ()))):Option (bJ (Unit) (Unit))).bind fun FU=>match FU with| .go _=>(bif (decide ((aN (i16.tdiv 2))<ab.strict.len))then((aP ab.strict.l (aN (i16.tdiv 2))).bind fun CD=>(((bif ((i16.tmod 2)==0)then some ((-1),(aN (0-CD.fh)))else some (1,CD.fi)):Option (Int × Int)).bind fun Qy=>match Qy with|⟨apa,apb⟩=>(((bif (gZ.Kind != 0)then some true else((KD gZ.Row (aN (i16.tdiv 2)) apa apb).bind fun apc=>some (!apc))):Option (Bool)).bind fun apd=>(bif apd then some (.out (.ret ()))else some (.next (aN (i16+1)))))))else some (.next (aN (i16+1))))| .ret _=>some (.out (.ret ()))))else some (.out (.go ())))
def KE (ab:eg):Option (Bool):=
 (bif ((decide (ab.Model.c4.len>512))||(decide (ab.Model.c4.len<(aN (2*ab.strict.len)))))then some false else((bO (FT ab) 0:Option (bJ (Unit) (Unit))).bind fun jj=>match jj with| .go _=>some true| .ret _=>some false))
def KF (ue:eg)(ab:Int):Option (Bool):=
 some ((decide (ab<(-1)))||(decide (ab>=ue.Model.aL.len)))
def FV (ab:eg):(Int × (ak aW))->Option (cE (Int × (ak aW)) (bJ ((ak aW)) (Unit))):=fun⟨i15,i16⟩=>(bif (decide (i15<ab.Model.Operations.len))then((aP ab.Model.Operations.l i15).bind fun kI=>((jz 16 i16 (ak.mk [kI.Name])).bind fun Qz=>(((bif (decide (kI.aL.len>3))then some true else((FJ kI.aL (fun z0=>KF ab z0)).bind fun nQ=>some nQ)):Option (Bool)).bind fun CH=>(bif CH then some (.out (.ret ()))else some (.next ((aN (i15+1)),Qz))))))else some (.out (.go i16)))
def KG (ab:eg):Option (Bool):=
 ((bO (FV ab) (0,.nil):Option (bJ ((ak aW)) (Unit))).bind fun QA=>match QA with| .go ab3=>(((bif (decide (ab3.len<=8))then((FN ab3).bind fun QB=>some QB)else some false):Option (Bool)).bind fun Qy=>some Qy)| .ret _=>some false)
def KH (ab:Int):Option (Bool):=
 some (ab != ab)
def KI (ab:Int)(ax:Int):Option (Int):=
 ((KH ab).bind fun bt=>((KH ax).bind fun cH=>(bif bt then(bif cH then some 0 else some (-1))else(bif cH then some 1 else(bif (decide (ab<ax))then some (-1)else(bif (decide (ab>ax))then some 1 else some 0))))))
def CI (ab:(ak Int))(ax:(ak Int)):(Int)->Option (cE (Int) (bJ (Unit) (Int))):=fun i7=>(bif (decide (i7<ab.len))then((aP ab.l i7).bind fun gB=>(bif (decide (i7>=ax.len))then some (.out (.ret 1))else((aP ax.l i7).bind fun mL=>((KI gB mL).bind fun nO=>(bif (nO != 0)then some (.out (.ret nO))else some (.next (aN (i7+1))))))))else some (.out (.go ())))
def FW (ab:(ak Int))(ax:(ak Int)):Option (Int):=
 ((bO (CI ab ax) 0:Option (bJ (Unit) (Int))).bind fun gT=>match gT with| .go _=>(bif (decide (ab.len<ax.len))then some (-1)else some 0)| .ret ape=>some ape)
def apf (ab:(ak Row))(ax:(Row->Option Bool)):(Int)->Option (cE (Int) (bJ (Unit) (Int))):=fun i7=>(bif (decide (i7<ab.len))then((aP ab.l i7).bind fun gB=>((ax gB).bind fun fE=>(bif fE then some (.out (.ret i7))else some (.next (aN (i7+1))))))else some (.out (.go ())))
def ab4 (ab:(ak Row))(ax:(Row->Option Bool)):Option (Int):=
 ((bO (apf ab ax) 0:Option (bJ (Unit) (Int))).bind fun gT=>match gT with| .go _=>some (-1)| .ret sY=>some sY)
def QC (ab:(ak Row))(ax:(Row->Option Bool)):Option (Bool):=
 ((ab4 ab ax).bind fun bt=>some (decide (bt>=0)))
def KJ (ab:(ak Int))(gZ:Table):(Int × Int × (ak Int))->Option (cE (Int × Int × (ak Int)) ((ak Int))):=fun⟨i58,i59,i60⟩=>(bif (decide (i59>=0))then((aP gZ.ba.l i59).bind fun QB=>((aP ab.l QB).bind fun qX=>((Co i58 qX).bind fun CJ=>((Cn i58 qX).bind fun CK=>((aP i60.l i59).bind fun CL=>((aP i60.l i59).bind fun xQ=>some (.next (CK,(aN (i59-1)),(pf i60 i59 CJ)))))))))else some (.out i60))
def FX (ab:(ak Int))(ax:(ak Table))(dZ:Bool)(jD:Int):(Int)->Option (cE (Int) (bJ (Unit) (Int × (ak Int)))):=fun i16=>(bif (decide (i16<ax.len))then((aP ax.l i16).bind fun gZ=>((((CB gZ).bind fun mN=>(bif (mN==dZ)then(bif (decide ((aN (jD-gZ.cF))<0))then some true else((uf ab gZ.ba).bind fun l3=>some (decide ((aN (jD-gZ.cF))>=l3))))else some true)):Option (Bool)).bind fun FU=>(bif FU then some (.next (aN (i16+1)))else((xN 8 0 gZ.ba.len).bind fun FY=>((bO (KJ ab gZ) ((aN (jD-gZ.cF)),(aN (FY.len-1)),FY):Option ((ak Int))).bind fun QD=>some (.out (.ret (i16,QD))))))))else some (.out (.go ())))
def FZ (ab:(ak Int))(ax:(ak Table))(dZ:Bool)(jD:Int):Option (Int × (ak Int) × Bool):=
 ((((CE ab ax).bind fun cH=>(bif cH then some (decide (jD<0))else some true)):Option (Bool)).bind fun gS=>(bif gS then some (0,ak.nil,false)else((bO (FX ab ax dZ jD) 0:Option (bJ (Unit) (Int × (ak Int)))).bind fun jj=>match jj with| .go _=>some (0,ak.nil,false)| .ret (⟨apg,aph⟩)=>some (apg,aph,true))))
def KK (ab:eg)(ax:ko):Option (Bool):=
 ((FZ ab.Model.aL ab.Model.Tables false ax.Cell).bind fun ie=>(bif ie.2.2 then((aP ab.Model.Tables.l ie.1).bind fun zT=>(((bif (zT.Kind==2)then some (zT.Kind==2)else some (zT.Kind==3)):Option (Bool)).bind fun F0=>(bif F0 then some (bif (ax.Kind==0)then(ax.Value==0)else((ax.Kind==1)&&(ax.Value==0)))else some ((ax.Kind==2)&&((decide (ax.Value>=zT.Range.fh))&&(decide (ax.Value<=zT.Range.fi)))))))else some false))
def KL (ue:eg)(ab:Row):Option (Bool):=
 ((FR ue ab).bind fun ez=>some (!ez))
def F1 (ab:eg)(ax:c7):(Int × Int)->Option (cE (Int × Int) (bJ (Unit) (Unit))):=fun⟨i16,i17⟩=>(bif (decide (i17<ax.Delta.len))then((aP ax.Delta.l i17).bind fun eU=>(((bif (decide (eU.Cell<=i16))then some true else(bif (decide (eU.Cell>=ab.strict.len))then some true else(bif (eU.Add==0)then some true else((zQ eU.Add 1000000000).bind fun pn=>some (!pn))))):Option (Bool)).bind fun CF=>(bif CF then some (.out (.ret ()))else some (.next (eU.Cell,(aN (i17+1)))))))else some (.out (.go ())))
def F2 (ab:eg)(ax:c7):(Int × Int)->Option (cE (Int × Int) (bJ (Unit) (Unit))):=fun⟨i57,i58⟩=>(bif (decide (i58<ax.eQ.len))then((aP ax.eQ.l i58).bind fun QE=>(((bif (decide (QE.Cell<=i57))then some true else((KK ab QE).bind fun CL=>some (!CL))):Option (Bool)).bind fun Qp=>(bif Qp then some (.out (.ret ()))else some (.next (QE.Cell,(aN (i58+1)))))))else some (.out (.go ())))
def KM (ab:eg)(ax:c7):Option (Bool):=
 ((bO (F1 ab ax) ((-1),0):Option (bJ (Unit) (Unit))).bind fun jj=>match jj with| .go _=>((bO (F2 ab ax) ((-1),0):Option (bJ (Unit) (Unit))).bind fun api=>match api with| .go _=>(((bif (decide (ax.de.len<=8))then(bif (decide (ax.eQ.len<=32))then((QC ax.de (fun z0=>KL ab z0)).bind fun QF=>some (!QF))else some false)else some false):Option (Bool)).bind fun apj=>some apj)| .ret _=>some false)| .ret _=>some false)
def KN (ab:eg)(dt:Action)(CM:cV):(Int)->Option (cE (Int) (bJ (Unit) (Unit))):=fun i42=>(bif (decide (i42<CM.aL.len))then((aP CM.aL.l i42).bind fun nP=>((aP dt.dR.l i42).bind fun lB=>(((bif (decide (nP<0))then((zQ lB 9999).bind fun wz=>(bif wz then(bif (decide (nP>=0))then((aP ab.Model.aL.l nP).bind fun Qo=>((np lB Qo).bind fun oD=>some (!oD)))else some false)else some true))else(bif (decide (nP>=0))then((aP ab.Model.aL.l nP).bind fun F3=>((np lB F3).bind fun QG=>some (!QG)))else some false)):Option (Bool)).bind fun zU=>(bif zU then some (.out (.ret ()))else some (.next (aN (i42+1)))))))else some (.out (.go ())))
def F4 (ab:eg):(Int)->Option (cE (Int) (bJ (Unit) (Unit))):=fun i12=>(bif (decide (i12<ab.Model.Actions.len))then((aP ab.Model.Actions.l i12).bind fun dt=>((((np dt.cV ab.Model.Operations.len).bind fun j4=>(bif j4 then((aP ab.Model.Operations.l dt.cV).bind fun oB=>some (dt.dR.len != oB.aL.len))else some true)):Option (Bool)).bind fun wu=>(bif wu then some (.out (.ret ()))else((aP ab.Model.Operations.l dt.cV).bind fun CM=>((bO (KN ab dt CM) 0:Option (bJ (Unit) (Unit))).bind fun apk=>match apk with| .go _=>(((bif (decide (i12>0))then((aP ab.Model.Actions.l (aN (i12-1))).bind fun xQ=>(((bif (decide (xQ.cV>dt.cV))then some true else(bif (xQ.cV==dt.cV)then((FW xQ.dR dt.dR).bind fun F5=>some (decide (F5>=0)))else some false)):Option (Bool)).bind fun QH=>(bif QH then some (.ret ())else some (.go ()))))else some (.go ())):Option (bJ (Unit) (Unit))).bind fun QI=>match QI with| .go _=>((KM ab dt.c7).bind fun F6=>(bif F6 then some (.next (aN (i12+1)))else some (.out (.ret ()))))| .ret _=>some (.out (.ret ())))| .ret _=>some (.out (.ret ())))))))else some (.out (.go ())))
def KO (ab:eg):Option (Bool):=
 (bif (decide (ab.Model.Actions.len>256))then some false else((bO (F4 ab) 0:Option (bJ (Unit) (Unit))).bind fun s3=>match s3 with| .go _=>some true| .ret _=>some false))
def zV (ab:Model):Option (Bool):=
 ((((CE ab.aL ab.Tables).bind fun nN=>(bif nN then(bif (decide (ab.dI.len>24))then some true else((FN ab.dI).bind fun ie=>some (!ie)))else some true)):Option (Bool)).bind fun pk=>(bif pk then some false else((FP ab.aL ab.Tables true).bind fun nO=>((((KE (eg.mk ab nO)).bind fun po=>(bif po then((KG (eg.mk ab nO)).bind fun j4=>(bif j4 then((KO (eg.mk ab nO)).bind fun oB=>(bif oB then((abX (eg.mk ab nO)).bind fun mN=>some mN)else some false))else some false))else some false)):Option (Bool)).bind fun apl=>some apl))))
def apm (ab:(ak Term))(ax:(Term->Option Bool)):(Int)->Option (cE (Int) (bJ (Unit) (Int))):=fun i7=>(bif (decide (i7<ab.len))then((aP ab.l i7).bind fun gB=>((ax gB).bind fun fE=>(bif fE then some (.out (.ret i7))else some (.next (aN (i7+1))))))else some (.out (.go ())))
def ab5 (ab:(ak Term))(ax:(Term->Option Bool)):Option (Int):=
 ((bO (apm ab ax) 0:Option (bJ (Unit) (Int))).bind fun gT=>match gT with| .go _=>some (-1)| .ret sY=>some sY)
def QJ (ab:(ak Term))(ax:(Term->Option Bool)):Option (Bool):=
 ((ab5 ab ax).bind fun bt=>some (decide (bt>=0)))
def KP (ab:Int):Option (Bool):=
 some ((decide (ab>=(-1000000000)))&&(decide (ab<=1000000000)))
def F7 (ue:Int)(ab:Term):Option (Bool):=
 (((bif (decide (ab.Cell<0))then some true else(bif (decide (ab.Cell>=ue))then some true else((KP ab.dB).bind fun zM=>some (!zM)))):Option (Bool)).bind fun pk=>some pk)
def KQ (ab:Row)(ax:Int):Option (Bool):=
 ((QJ ab.cd (fun z0=>F7 ax z0)).bind fun ie=>some (!ie))
def QK (ab:Model)(ax:Bool):Option ((ak Range)):=
 ((zV ab).bind fun ez=>(bif ez then((FP ab.aL ab.Tables ax).bind fun qd=>some qd)else some ak.nil))
def KR (ab:Model):Option ((ak Range)):=
 ((QK ab true).bind fun ez=>some ez)
def QL (bt:Int × (ak Int) × Bool):(Int × (ak aW))->Option (cE (Int × (ak aW)) ((ak aW))):=fun⟨i13,i14⟩=>(bif (decide (i13<bt.2.1.len))then((aP bt.2.1.l i13).bind fun eU=>((strconv_Itoa eU).bind fun po=>((jz 16 i14 (ak.mk [po])).bind fun F8=>some (.next ((aN (i13+1)),F8)))))else some (.out i14))
def QM (ab:(ak Int))(ax:(ak Table))(dZ:Bool)(jD:Int):Option (aW):=
 ((FZ ab ax dZ jD).bind fun bt=>(bif bt.2.2 then((bO (QL bt) (0,.nil):Option ((ak aW))).bind fun wv=>((aP ax.l bt.1).bind fun nP=>((da nP.Name [40]).bind fun lB=>((strings_Join wv [44,32]).bind fun s4=>((da lB s4).bind fun F9=>((da F9 [41]).bind fun wz=>some wz))))))else some []))
def KS (ab:Model)(ax:Int):Option (aW):=
 ((zV ab).bind fun ez=>(bif ez then((QM ab.aL ab.Tables true ax).bind fun qd=>some qd)else some []))
def CN (ab:Model)(ax:Row):(aW × Int)->Option (cE (aW × Int) (aW)):=fun⟨i16,i17⟩=>(bif (decide (i17<ax.cd.len))then((aP ax.cd.l i17).bind fun eU=>(((bif ((decide (i17>0))&&(decide (eU.dB<0)))then((da i16 [32,45,32]).bind fun gC=>some gC)else(bif (decide (i17>0))then((da i16 [32,43,32]).bind fun l2=>some l2)else(bif (decide (eU.dB<0))then((da i16 [45]).bind fun zW=>some zW)else some i16))):Option (aW)).bind fun CF=>(((bif ((max eU.dB (aN (0-eU.dB))) != 1)then((strconv_Itoa (max eU.dB (aN (0-eU.dB)))).bind fun nP=>((da nP [32,42,32]).bind fun lB=>((da CF lB).bind fun s4=>some s4)))else some CF):Option (aW)).bind fun QN=>((KS ab eU.Cell).bind fun oD=>((da QN oD).bind fun oE=>some (.next (oE,(aN (i17+1)))))))))else some (.out i16))
def Ga (ab:Model)(ax:Row):Option (aW):=
 ((bO (CN ab ax) ([],0):Option (aW)).bind fun jj=>(((bif (ax.cd.len==0)then some [48]else some jj):Option (aW)).bind fun apn=>((da apn [32,60,61,32]).bind fun CK=>((strconv_Itoa ax.gA).bind fun CL=>((da CK CL).bind fun QO=>some QO)))))
def Gb (ab:Model)(ax:Constraint)(Gc:aW):(Int)->Option (cE (Int) (bJ (Unit) (aW))):=fun i20=>(bif (decide (i20<ab.Tables.len))then((aP ab.Tables.l i20).bind fun j4=>(bif ((j4.Kind==0)&&((j4.cF==ax.cF)&&(j4.ba.len==2)))then((da Gc [97,99,121,99,108,105,99,32]).bind fun wA=>((da wA j4.Name).bind fun zW=>some (.out (.ret zW))))else some (.next (aN (i20+1)))))else some (.out (.go ())))
def KT (ab:Model)(ax:Constraint):Option (aW):=
 ((aP ab.dI.l ax.j3).bind fun ie=>((da ie [58,32]).bind fun Gc=>(bif (ax.Kind==0)then((Ga ab ax.Row).bind fun zR=>((da Gc zR).bind fun gB=>some gB))else((bO (Gb ab ax Gc) 0:Option (bJ (Unit) (aW))).bind fun QP=>match QP with| .go _=>some Gc| .ret apo=>some apo))))
def KU (ab:Model)(ax:c7)(dZ:rY):Option (aW):=
 ((((zV ab).bind fun fE=>(bif fE then some (decide (dZ.Index<0))else some true)):Option (Bool)).bind fun zN=>(bif zN then some []else(bif ((dZ.Kind==0)&&(dZ.Index==0))then some [101,120,101,99,117,116,101,100]else(((bif (dZ.Kind==1)then(bif (decide (dZ.Index<ax.de.len))then((aP ax.de.l dZ.Index).bind fun mN=>((KR ab).bind fun wB=>((KQ mN wB.len).bind fun sZ=>some sZ)))else some false)else some false):Option (Bool)).bind fun apq=>(bif apq then((aP ax.de.l dZ.Index).bind fun wA=>((Ga ab wA).bind fun zW=>((da [110,101,101,100,115,32] zW).bind fun nQ=>some nQ)))else(bif ((dZ.Kind==2)&&(decide (dZ.Index<ab.c4.len)))then((aP ab.c4.l dZ.Index).bind fun FL=>((KT ab FL).bind fun nP=>((da [118,105,111,108,97,116,101,115,32] nP).bind fun lB=>some lB)))else some []))))))
def QQ (ab:(ak Int)):(Int)->Option (cE (Int) (bJ (Unit) (Unit))):=fun i7=>(bif (decide (i7<ab.len))then((((aP ab.l i7).bind fun fE=>(bif (decide (fE<1))then some true else((aP ab.l i7).bind fun nO=>some (decide (nO>6))))):Option (Bool)).bind fun zN=>(bif zN then some (.out (.ret ()))else some (.next (aN (i7+1)))))else some (.out (.go ())))
def Gd (ab:(ak Int)):Option (Bool):=
 ((bO (QQ ab) 0:Option (bJ (Unit) (Unit))).bind fun gT=>match gT with| .go _=>some true| .ret _=>some false)
def Ge (ab:(ak Int))(ax:(ak Int)):(Int × Int)->Option (cE (Int × Int) (bJ (Int) (Unit))):=fun⟨i17,i18⟩=>(bif (decide (i18<ax.len))then((((aP ax.l i18).bind fun kI=>(bif (decide (kI<0))then some true else((aP ax.l i18).bind fun iD=>some (decide (iD>=ab.len))))):Option (Bool)).bind fun CO=>(bif CO then some (.out (.ret ()))else((aP ax.l i18).bind fun pn=>((aP ab.l pn).bind fun CM=>some (.next ((aN (i17*CM)),(aN (i18+1))))))))else some (.out (.go i17)))
def xR (ab:(ak Int))(ax:(ak Int)):Option (Int):=
 (((bif (decide (ax.len>3))then some true else((Gd ab).bind fun dp=>some (!dp))):Option (Bool)).bind fun gS=>(bif gS then some 0 else((bO (Ge ab ax) (1,0):Option (bJ (Int) (Unit))).bind fun zX=>match zX with| .go QR=>some QR| .ret _=>some 0)))
def Gf (ab:Int):Option (Bool):=
 some ((ab==9)||((ab==10)||((ab==13)||(ab==32))))
def Gg (ab:aW):(Int)->Option (cE (Int) (Int)):=fun i32=>(((bif (decide (i32<(ab.length:Int)))then((aP ab i32).bind fun wA=>some ((wA.toNat:Int) != 10))else some false):Option (Bool)).bind fun QS=>(bif QS then some (.next (aN (i32+1)))else some (.out i32)))
def CP (ab:aW):(Int)->Option (cE (Int) (Int)):=fun i7=>(((bif (decide (i7<(ab.length:Int)))then((aP ab i7).bind fun fE=>((Gf (fE.toNat:Int)).bind fun mL=>(bif mL then some true else((aP ab i7).bind fun kJ=>some ((kJ.toNat:Int)==35)))))else some false):Option (Bool)).bind fun wv=>(bif wv then((aP ab i7).bind fun po=>(bif ((po.toNat:Int)==35)then((bO (Gg ab) i7:Option (Int)).bind fun QT=>some (.next QT))else some (.next (aN (i7+1)))))else some (.out i7)))
def Gh (ab:aW)(ax:Int):Option (Int):=
 ((bO (CP ab) ax:Option (Int)).bind fun gT=>some gT)
def KV (ab:(ak aW))(ax:aW):(Int)->Option (cE (Int) (bJ (Unit) (Unit))):=fun i7=>(bif (decide (i7<ab.len))then((aP ab.l i7).bind fun gB=>(bif (gB==ax)then some (.out (.ret ()))else some (.next (aN (i7+1)))))else some (.out (.go ())))
def Gi (ab:(ak aW))(ax:aW):Option (Bool):=
 ((bO (KV ab ax) 0:Option (bJ (Unit) (Unit))).bind fun gT=>match gT with| .go _=>some false| .ret _=>some true)
def CQ (ab:Int):Option (Bool):=
 some ((decide (ab>=97))&&(decide (ab<=122)))
def zY (ab:Int):Option (Bool):=
 some ((decide (ab>=48))&&(decide (ab<=57)))
def KW  :Option ((ak aW)):=
 some (ak.mk [[115,111,114,116],[114,101,108,97,116,105,111,110],[99,111,117,110,116,101,114],[115,101,116],[114,101,103,105,115,116,101,114],[105,110,118,97,114,105,97,110,116],[111,112,101,114,97,116,105,111,110],[107,101,121],[114,101,102,101,114,101,110,99,101],[116,111],[99,111,117,110,116],[97,99,121,99,108,105,99],[97,108,108],[115,117,109],[105,110],[97,100,100,119,105,110,115],[114,101,109,111,118,101,119,105,110,115],[108,97,115,116],[109,117,108,116,105],[104,105,100,101],[111,114,100,101,114,101,100],[114,101,113,117,105,114,101],[104,111,108,100],[105,110,115,101,114,116],[100,101,108,101,116,101],[97,100,100],[102,114,111,109],[112,117,116],[100,114,111,112],[97,115,115,105,103,110],[102,111,114],[119,104,101,114,101],[97,110,100],[111,114],[110,111,116]])
def KX  :Option ((ak aW)):=
 some (ak.mk [[61,61],[33,61],[60,61],[62,61],[46,46],[60],[62],[61],[43],[45],[42],[40],[41],[123],[125],[44],[58],[59]])
def Gj (ab:aW)(ax:Int)(bt:(ak aW)):(Int)->Option (cE (Int) (bJ (Unit) (Int))):=fun i8=>(bif (decide (i8<bt.len))then((aP bt.l i8).bind fun fE=>(((bif (decide ((aN (ax+(fE.length:Int)))<=(ab.length:Int)))then((qa ab ax (aN (ax+(fE.length:Int)))).bind fun kJ=>((aP bt.l i8).bind fun dt=>some (kJ==dt)))else some false):Option (Bool)).bind fun jj=>(bif jj then some (.out (.ret (fE.length:Int)))else some (.next (aN (i8+1))))))else some (.out (.go ())))
def Gk (ab:aW)(ax:Int):Option (Int):=
 ((KX).bind fun bt=>((bO (Gj ab ax bt) 0:Option (bJ (Unit) (Int))).bind fun wy=>match wy with| .go _=>some 0| .ret apr=>some apr))
def KY (ab:aW):(Int)->Option (cE (Int) (Int)):=fun i10=>(((bif (decide (i10<(ab.length:Int)))then((aP ab i10).bind fun kJ=>((CQ (kJ.toNat:Int)).bind fun dt=>(bif dt then some true else((aP ab i10).bind fun Gl=>((zY (Gl.toNat:Int)).bind fun s0=>(bif s0 then some true else((aP ab i10).bind fun eU=>some ((eU.toNat:Int)==95))))))))else some false):Option (Bool)).bind fun jj=>(bif jj then some (.next (aN (i10+1)))else some (.out i10)))
def KZ (ab:aW):(Int)->Option (cE (Int) (Int)):=fun i50=>(((bif (decide (i50<(ab.length:Int)))then((aP ab i50).bind fun oE=>((zY (oE.toNat:Int)).bind fun F3=>some F3))else some false):Option (Bool)).bind fun aps=>(bif aps then some (.next (aN (i50+1)))else some (.out i50)))
def CR (ab:aW):(Int)->Option (cE (Int) (Int)):=fun i80=>(((bif (decide (i80<(ab.length:Int)))then((aP ab i80).bind fun F5=>((Gf (F5.toNat:Int)).bind fun Gm=>(bif Gm then some false else((aP ab i80).bind fun pq=>(bif ((pq.toNat:Int) != 35)then((aP ab i80).bind fun QF=>((CQ (QF.toNat:Int)).bind fun apt=>(bif apt then some false else((aP ab i80).bind fun apu=>((zY (apu.toNat:Int)).bind fun QU=>(bif QU then some false else((Gk ab i80).bind fun apv=>some (apv==0))))))))else some false)))))else some false):Option (Bool)).bind fun apw=>(bif apw then some (.next (aN (i80+1)))else some (.out i80)))
def K0 (ab:aW)(ax:Int):Option (Int × Int):=
 ((aP ab ax).bind fun bt=>((CQ (bt.toNat:Int)).bind fun cH=>(bif cH then((bO (KY ab) ax:Option (Int)).bind fun zS=>((KW).bind fun gn=>((qa ab ax zS).bind fun l2=>((Gi gn l2).bind fun wA=>(bif wA then some (2,zS)else some (1,zS))))))else((aP ab ax).bind fun nQ=>((zY (nQ.toNat:Int)).bind fun Gn=>(bif Gn then((bO (KZ ab) ax:Option (Int)).bind fun apx=>some (3,apx))else((Gk ab ax).bind fun CK=>(bif (decide (CK>0))then some (4,(aN (ax+CK)))else((bO (CR ab) ax:Option (Int)).bind fun apy=>some (5,apy))))))))))
def zZ (ab:aW):(Int × (ak Token))->Option (cE (Int × (ak Token)) (Int × (ak Token))):=fun⟨i12,i13⟩=>((Gh ab i12).bind fun s0=>(bif (decide (s0<(ab.length:Int)))then((Gh ab i12).bind fun eU=>((K0 ab eU).bind fun po=>((jz 32 i13 (ak.mk [(Token.mk po.1 i12 eU po.2)])).bind fun F8=>some (.next (po.2,F8)))))else some (.out (i12,i13))))
def QV (ab:aW):Option ((ak Token) × Int):=
 (bif (decide ((ab.length:Int)>4096))then some (ak.nil,8)else((bO (zZ ab) (0,.emp):Option (Int × (ak Token))).bind fun s3=>match s3 with|⟨QR,apz⟩=>((jz 32 apz (ak.mk [(Token.mk 0 QR (ab.length:Int) (ab.length:Int))])).bind fun oF=>some (oF,0))))
def K1 (ab:aW):Option (Int):=
 ((QV ab).bind fun bt=>(((bif (bt.2 != 0)then some true else(bif (bt.1.len != 2)then some true else((aP bt.1.l 0).bind fun ez=>(bif (ez.At != 0)then some true else((aP bt.1.l 0).bind fun qd=>some (qd.End != (ab.length:Int))))))):Option (Bool)).bind fun P8=>(bif P8 then some 0 else((aP bt.1.l 0).bind fun fE=>some fE.Kind))))
def nR (ab:aW):Option (Bool):=
 ((((K1 ab).bind fun cH=>(bif (cH==1)then some (decide ((ab.length:Int)<=16))else some false)):Option (Bool)).bind fun gS=>some gS)
def z1 (ab:Int):Option (Bool):=
 some ((ab==0)||(ab==1))
def Gp (ax:(ak Table))(i21:Int)(iD:Table):(Int)->Option (cE (Int) (bJ (Unit) (Unit))):=fun i40=>(bif (decide (i40<i21))then((aP ax.l i40).bind fun FK=>(bif (FK.Name==iD.Name)then some (.out (.ret ()))else some (.next (aN (i40+1)))))else some (.out (.go ())))
def CS (ab:(ak Int))(ax:(ak Table)):(Int × Int × Int)->Option (cE (Int × Int × Int) (bJ (Int × Int) (Unit))):=fun⟨i19,i20,i21⟩=>(bif (decide (i21<ax.len))then((aP ax.l i21).bind fun iD=>((bO (Gp ax i21 iD) 0:Option (bJ (Unit) (Unit))).bind fun CH=>match CH with| .go _=>((xR ab iD.ba).bind fun oE=>((((nR iD.Name).bind fun QG=>(bif QG then(bif (decide (iD.Kind<0))then some true else(bif (decide (iD.Kind>5))then some true else some (oE==0)))else some true)):Option (Bool)).bind fun apA=>(bif apA then some (.out (.ret ()))else(bif ((decide (iD.Range.fh>iD.Range.fi))||((decide (iD.Range.fh<(-9999)))||(decide (iD.Range.fi>9999))))then some (.out (.ret ()))else(bif (bif (iD.Kind==0)then((iD.Range.fh != 0)||(iD.Range.fi != 1))else(bif (iD.Kind==2)then((iD.Range.fh != 0)||(iD.Range.fi != 1))else((iD.Kind==3)&&((iD.Range.fh != 0)||(iD.Range.fi != 1)))))then some (.out (.ret ()))else((z1 iD.Kind).bind fun apB=>(bif apB then(bif (iD.cF != i19)then some (.out (.ret ()))else some (.next ((aN (i19+oE)),i20,(aN (i21+1)))))else(bif (iD.cF != i20)then some (.out (.ret ()))else some (.next (i19,(aN (i20+oE)),(aN (i21+1))))))))))))| .ret _=>some (.out (.ret ()))))else some (.out (.go (i19,i20))))
def CT (ab:(ak Int))(ax:(ak Table)):Option (Bool):=
 (((bif (decide (ab.len>4))then some true else((Gd ab).bind fun dp=>(bif dp then some (decide (ax.len>12))else some true))):Option (Bool)).bind fun gS=>(bif gS then some false else((bO (CS ab ax) (0,0,0):Option (bJ (Int × Int) (Unit))).bind fun F0=>match F0 with| .go (⟨apC,apD⟩)=>some ((decide (apC<=128))&&(decide (apD<=64)))| .ret _=>some false)))
def Gq (ab:(ak aW)):(Int)->Option (cE (Int) (bJ (Unit) (Unit))):=fun i7=>(bif (decide (i7<ab.len))then((((aP ab.l i7).bind fun fE=>((nR fE).bind fun mL=>(bif mL then((qS ab 0 i7).bind fun apE=>((aP ab.l i7).bind fun dt=>((Gi apE dt).bind fun wx=>some wx)))else some true))):Option (Bool)).bind fun zN=>(bif zN then some (.out (.ret ()))else some (.next (aN (i7+1)))))else some (.out (.go ())))
def Gr (ab:(ak aW)):Option (Bool):=
 ((bO (Gq ab) 0:Option (bJ (Unit) (Unit))).bind fun gT=>match gT with| .go _=>some true| .ret _=>some false)
def z6 (ab:(ak Int))(ax:(ak Table))(dZ:Bool)(i13:Int):(Int × (ak Range))->Option (cE (Int × (ak Range)) ((ak Range))):=fun⟨i33,i34⟩=>((((aP ax.l i13).bind fun QW=>((z1 QW.Kind).bind fun QX=>(bif (QX==dZ)then((aP ax.l i13).bind fun FK=>((xR ab FK.ba).bind fun FL=>some (decide (i33<FL))))else some false))):Option (Bool)).bind fun apF=>(bif apF then((aP ax.l i13).bind fun z7=>((jz 16 i34 (ak.mk [z7.Range])).bind fun apG=>some (.next ((aN (i33+1)),apG))))else some (.out i34)))
def K2 (ab:(ak Int))(ax:(ak Table))(dZ:Bool):(Int × (ak Range))->Option (cE (Int × (ak Range)) ((ak Range))):=fun⟨i13,i14⟩=>(bif (decide (i13<ax.len))then((bO (z6 ab ax dZ i13) (0,i14):Option ((ak Range))).bind fun apH=>some (.next ((aN (i13+1)),apH)))else some (.out i14))
def K3 (ab:(ak Int))(ax:(ak Table))(dZ:Bool):Option ((ak Range)):=
 ((CT ab ax).bind fun bt=>(bif bt then((bO (K2 ab ax dZ) (0,.emp):Option ((ak Range))).bind fun wv=>some wv)else some ak.emp))
def z8 (ab:Model):Option ((ak Range)):=
 ((K3 ab.aL ab.Tables true).bind fun ez=>some ez)
def apI (ab:(ak Term))(ax:(ak Term)):(Int)->Option (cE (Int) (bJ (Unit) (Unit))):=fun i8=>(bif (decide (i8<ab.len))then((aP ab.l i8).bind fun fE=>((aP ax.l i8).bind fun mL=>(bif ((fE.Cell==mL.Cell)&&((fE.dB==mL.dB)&&true))then some (.next (aN (i8+1)))else some (.out (.ret ())))))else some (.out (.go ())))
def QY (ab:(ak Term))(ax:(ak Term)):Option (Bool):=
 (bif (ab.len != ax.len)then some false else((bO (apI ab ax) 0:Option (bJ (Unit) (Unit))).bind fun wy=>match wy with| .go _=>some true| .ret _=>some false))
def Gs (ab:Row)(ax:Row):Option (Bool):=
 (((bif (ab.gA==ax.gA)then((QY ab.cd ax.cd).bind fun zT=>some zT)else some false):Option (Bool)).bind fun zS=>some zS)
def wC (ab:Int)(ax:Int):Option (Bool):=
 some ((decide (ab>=(aN (0-ax))))&&(decide (ab<=ax)))
def Gt (ab:Row)(ax:Int):(Int)->Option (cE (Int) (bJ (Unit) (Unit))):=fun i11=>(bif (decide (i11<ab.cd.len))then((aP ab.cd.l i11).bind fun kJ=>(((bif (decide (kJ.Cell<0))then some true else(bif (decide (kJ.Cell>=ax))then some true else(bif (decide (i11>0))then((aP ab.cd.l (aN (i11-1))).bind fun oB=>(bif (decide (oB.Cell>=kJ.Cell))then some true else(bif (kJ.dB==0)then some true else((wC kJ.dB 1000).bind fun wB=>some (!wB)))))else(bif (kJ.dB==0)then some true else((wC kJ.dB 1000).bind fun l3=>some (!l3)))))):Option (Bool)).bind fun CO=>(bif CO then some (.out (.ret ()))else some (.next (aN (i11+1))))))else some (.out (.go ())))
def Gu (ab:Row)(ax:Int):Option (Bool):=
 ((bO (Gt ab ax) 0:Option (bJ (Unit) (Unit))).bind fun apJ=>match apJ with| .go _=>((wC ab.gA 1000000000).bind fun lB=>some lB)| .ret _=>some false)
def K4 (ab:Model)(ax:Constraint):(Int)->Option (cE (Int) (bJ (Unit) (Unit))):=fun i20=>(bif (decide (i20<ab.Tables.len))then((aP ab.Tables.l i20).bind fun j4=>(((bif (j4.Kind==0)then(bif (j4.ba.len==2)then((aP j4.ba.l 0).bind fun gC=>((aP j4.ba.l 1).bind fun gn=>(bif (gC==gn)then(bif (j4.cF==ax.cF)then((aP j4.ba.l 0).bind fun zW=>((aP ab.aL.l zW).bind fun nQ=>some (nQ==ax.rX)))else some false)else some false)))else some false)else some false):Option (Bool)).bind fun Qx=>(bif Qx then some (.out (.ret ()))else some (.next (aN (i20+1))))))else some (.out (.go ())))
def K5 (ab:Model)(ax:Constraint):Option (Bool):=
 (bif ((decide (ax.Row.cd.len>0))||(ax.Row.gA != 0))then some false else((bO (K4 ab ax) 0:Option (bJ (Unit) (Unit))).bind fun QP=>match QP with| .go _=>some false| .ret _=>some true))
def Gv (ab:Model)(ez:(ak Range)):(Int)->Option (cE (Int) (bJ (Unit) (Unit))):=fun i17=>(bif (decide (i17<ez.len))then((aP ez.l i17).bind fun eU=>((aP ez.l i17).bind fun mN=>((((aP ab.c4.l (aN (2*i17))).bind fun l2=>((Gs l2.Row (Row.mk (ak.mk [(Term.mk i17 (-1))]) (aN (0-eU.fh)))).bind fun wA=>(bif wA then((aP ab.c4.l (aN ((aN (2*i17))+1))).bind fun nQ=>((Gs nQ.Row (Row.mk (ak.mk [(Term.mk i17 1)]) mN.fi)).bind fun Gn=>some (!Gn)))else some true))):Option (Bool)).bind fun QS=>(bif QS then some (.out (.ret ()))else some (.next (aN (i17+1)))))))else some (.out (.go ())))
def Gw (ab:Model)(ez:(ak Range)):(Int)->Option (cE (Int) (bJ (Unit) (Unit))):=fun i64=>(bif (decide (i64<ab.c4.len))then((aP ab.c4.l i64).bind fun qX=>(bif ((decide (qX.j3<0))||(decide (qX.j3>=ab.dI.len)))then some (.out (.ret ()))else(((bif (qX.Kind==0)then(bif (qX.cF==0)then(bif (qX.rX==0)then((Gu qX.Row ez.len).bind fun apK=>some apK)else some false)else some false)else some false):Option (Bool)).bind fun apL=>(((bif apL then some false else(bif (decide (i64>=(aN (2*ez.len))))then(bif (qX.Kind==1)then((K5 ab qX).bind fun QU=>some (!QU))else some true)else some true)):Option (Bool)).bind fun apM=>(bif apM then some (.out (.ret ()))else some (.next (aN (i64+1))))))))else some (.out (.go ())))
def K6 (ab:Model):Option (Bool):=
 ((z8 ab).bind fun ez=>(bif ((decide (ab.c4.len<(aN (2*ez.len))))||(decide (ab.c4.len>512)))then some false else((bO (Gv ab ez) 0:Option (bJ (Unit) (Unit))).bind fun zX=>match zX with| .go _=>((bO (Gw ab ez) 0:Option (bJ (Unit) (Unit))).bind fun apN=>match apN with| .go _=>some true| .ret _=>some false)| .ret _=>some false)))
def Gx (ab:(ak Int))(ax:(ak Int)):(Int)->Option (cE (Int) (bJ (Unit) (Bool))):=fun i7=>(bif ((decide (i7<ab.len))&&(decide (i7<ax.len)))then((aP ab.l i7).bind fun kJ=>((aP ax.l i7).bind fun dt=>(bif (kJ != dt)then((aP ab.l i7).bind fun Gl=>((aP ax.l i7).bind fun s0=>some (.out (.ret (decide (Gl<s0))))))else some (.next (aN (i7+1))))))else some (.out (.go ())))
def Gy (ab:(ak Int))(ax:(ak Int)):Option (Bool):=
 ((bO (Gx ab ax) 0:Option (bJ (Unit) (Bool))).bind fun gT=>match gT with| .go _=>some (decide (ab.len<ax.len))| .ret apO=>some apO)
def QZ (ab:(ak Int))(ax:(ak Int)):(Int × Int × (ak Int))->Option (cE (Int × Int × (ak Int)) ((ak Int))):=fun⟨i19,i20,i21⟩=>(bif (decide (i20>=0))then((aP ax.l i20).bind fun mN=>((aP ab.l mN).bind fun wB=>((Co i19 wB).bind fun sZ=>((aP i21.l i20).bind fun l3=>((aP i21.l i20).bind fun gn=>((aP ax.l i20).bind fun Gn=>((aP ab.l Gn).bind fun QW=>((Cn i19 QW).bind fun QX=>some (.next (QX,(aN (i20-1)),(pf i21 i20 sZ)))))))))))else some (.out i21))
def Gz (ab:(ak Int))(ax:(ak Int))(dZ:Int):Option ((ak Int)):=
 ((xN 8 0 ax.len).bind fun s1=>((bO (QZ ab ax) (dZ,(aN (ax.len-1)),s1):Option ((ak Int))).bind fun F0=>some F0))
def GA (ab:(ak Int))(ax:(ak Table))(dZ:Bool)(jD:Int):(Int)->Option (cE (Int) (bJ (Unit) (Int × (ak Int)))):=fun i9=>(bif (decide (i9<ax.len))then((aP ax.l i9).bind fun mL=>((((aP ax.l i9).bind fun kJ=>((z1 kJ.Kind).bind fun dt=>(bif (dt==dZ)then(bif (decide (jD>=0))then(bif (decide ((aN (jD-mL.cF))>=0))then((aP ax.l i9).bind fun gZ=>((xR ab gZ.ba).bind fun eU=>some (decide ((aN (jD-mL.cF))<eU))))else some false)else some false)else some false))):Option (Bool)).bind fun zX=>(bif zX then((aP ax.l i9).bind fun mN=>((Gz ab mN.ba (aN (jD-mL.cF))).bind fun wB=>some (.out (.ret (i9,wB)))))else some (.next (aN (i9+1))))))else some (.out (.go ())))
def GC (ab:(ak Int))(ax:(ak Table))(dZ:Bool)(jD:Int):Option (Int × (ak Int) × Bool):=
 ((CT ab ax).bind fun bt=>(bif bt then((bO (GA ab ax dZ jD) 0:Option (bJ (Unit) (Int × (ak Int)))).bind fun apP=>match apP with| .go _=>some (0,ak.nil,false)| .ret (⟨apQ,apR⟩)=>some (apQ,apR,true))else some (0,ak.nil,false)))
def K7 (ab:Int):Option (Bool):=
 some ((ab==2)||(ab==3))
def GD (ax:c7)(ie:(ak Range)):(Int)->Option (cE (Int) (bJ (Unit) (Unit))):=fun i16=>(bif (decide (i16<ax.Delta.len))then((aP ax.Delta.l i16).bind fun gZ=>(((bif (decide (gZ.Cell<0))then some true else(bif (decide (gZ.Cell>=ie.len))then some true else(bif (decide (i16>0))then((aP ax.Delta.l (aN (i16-1))).bind fun l3=>(bif (decide (l3.Cell>=gZ.Cell))then some true else(bif (gZ.Add==0)then some true else((wC gZ.Add 1000000000).bind fun gC=>some (!gC)))))else(bif (gZ.Add==0)then some true else((wC gZ.Add 1000000000).bind fun l2=>some (!l2)))))):Option (Bool)).bind fun FU=>(bif FU then some (.out (.ret ()))else some (.next (aN (i16+1))))))else some (.out (.go ())))
def K8 (ax:c7)(ie:(ak Range)):(Int)->Option (cE (Int) (bJ (Unit) (Unit))):=fun i60=>(bif (decide (i60<ax.de.len))then((aP ax.de.l i60).bind fun apS=>((Gu apS ie.len).bind fun apT=>(bif apT then some (.next (aN (i60+1)))else some (.out (.ret ())))))else some (.out (.go ())))
def GF (ab:Model)(ax:c7):(Int)->Option (cE (Int) (bJ (Unit) (Unit))):=fun i84=>(bif (decide (i84<ax.eQ.len))then((aP ax.eQ.l i84).bind fun pq=>((GC ab.aL ab.Tables false pq.Cell).bind fun mO=>(((bif mO.2.2 then(bif (decide (i84>0))then((aP ax.eQ.l (aN (i84-1))).bind fun F6=>some (decide (F6.Cell>=pq.Cell)))else some false)else some true):Option (Bool)).bind fun apU=>(bif apU then some (.out (.ret ()))else((aP ab.Tables.l mO.1).bind fun K9=>((((K7 K9.Kind).bind fun apV=>(bif apV then(bif (pq.Kind != 0)then(bif (pq.Kind != 1)then some true else some (pq.Value != 0))else some (pq.Value != 0))else some false)):Option (Bool)).bind fun apW=>(bif apW then some (.out (.ret ()))else((((K7 K9.Kind).bind fun Q0=>(bif Q0 then some false else(bif (pq.Kind != 2)then some true else(bif (decide (pq.Value<K9.Range.fh))then some true else some (decide (pq.Value>K9.Range.fi)))))):Option (Bool)).bind fun apX=>(bif apX then some (.out (.ret ()))else some (.next (aN (i84+1))))))))))))else some (.out (.go ())))
def La (ab:Model)(ax:c7):Option (Bool):=
 ((z8 ab).bind fun ie=>((bO (GD ax ie) 0:Option (bJ (Unit) (Unit))).bind fun jj=>match jj with| .go _=>((bO (K8 ax ie) 0:Option (bJ (Unit) (Unit))).bind fun apY=>match apY with| .go _=>((bO (GF ab ax) 0:Option (bJ (Unit) (Unit))).bind fun apZ=>match apZ with| .go _=>some ((decide (ax.de.len<=8))&&(decide (ax.eQ.len<=32)))| .ret _=>some false)| .ret _=>some false)| .ret _=>some false))
def Lb (ab:Model)(kI:cV):(Int)->Option (cE (Int) (bJ (Unit) (Unit))):=fun i45=>(bif (decide (i45<kI.aL.len))then((((aP kI.aL.l i45).bind fun wz=>(bif (decide (wz<(-1)))then some true else((aP kI.aL.l i45).bind fun z7=>some (decide (z7>=ab.aL.len))))):Option (Bool)).bind fun ap0=>(bif ap0 then some (.out (.ret ()))else some (.next (aN (i45+1)))))else some (.out (.go ())))
def GG (ab:Model):(Int × (ak aW))->Option (cE (Int × (ak aW)) (bJ ((ak aW)) (Unit))):=fun⟨i15,i16⟩=>(bif (decide (i15<ab.Operations.len))then((aP ab.Operations.l i15).bind fun kI=>((jz 16 i16 (ak.mk [kI.Name])).bind fun Qz=>((bO (Lb ab kI) 0:Option (bJ (Unit) (Unit))).bind fun ap1=>match ap1 with| .go _=>(bif (decide (kI.aL.len>3))then some (.out (.ret ()))else some (.next ((aN (i15+1)),Qz)))| .ret _=>some (.out (.ret ())))))else some (.out (.go i16)))
def Lc (ab:Model)(mM:Action):(Int)->Option (cE (Int) (bJ (Unit) (Unit))):=fun i140=>(bif (decide (i140<mM.dR.len))then((aP ab.Operations.l mM.cV).bind fun ap2=>((aP ap2.aL.l i140).bind fun GH=>(((bif (decide (GH<0))then((aP mM.dR.l i140).bind fun ap3=>((wC ap3 9999).bind fun ap4=>(bif ap4 then(bif (decide (GH>=0))then((aP mM.dR.l i140).bind fun ap5=>(bif (decide (ap5<0))then some true else((aP mM.dR.l i140).bind fun ap6=>((aP ab.aL.l GH).bind fun ap7=>some (decide (ap6>=ap7))))))else some false)else some true)))else(bif (decide (GH>=0))then((aP mM.dR.l i140).bind fun ap8=>(bif (decide (ap8<0))then some true else((aP mM.dR.l i140).bind fun ap9=>((aP ab.aL.l GH).bind fun aqa=>some (decide (ap9>=aqa))))))else some false)):Option (Bool)).bind fun aqb=>(bif aqb then some (.out (.ret ()))else some (.next (aN (i140+1)))))))else some (.out (.go ())))
def GI (ab:Model):(Int)->Option (cE (Int) (bJ (Unit) (Unit))):=fun i111=>(bif (decide (i111<ab.Actions.len))then((aP ab.Actions.l i111).bind fun mM=>(((bif (decide (mM.cV<0))then some true else(bif (decide (mM.cV>=ab.Operations.len))then some true else((aP ab.Operations.l mM.cV).bind fun Q0=>some (mM.dR.len != Q0.aL.len)))):Option (Bool)).bind fun aqc=>(bif aqc then some (.out (.ret ()))else((bO (Lc ab mM) 0:Option (bJ (Unit) (Unit))).bind fun aqd=>match aqd with| .go _=>(((bif (decide (i111>0))then((aP ab.Actions.l (aN (i111-1))).bind fun Aa=>(((bif (decide (Aa.cV>mM.cV))then some true else(bif (Aa.cV==mM.cV)then((Gy Aa.dR mM.dR).bind fun Q1=>some (!Q1))else some false)):Option (Bool)).bind fun Q2=>(bif Q2 then some (.ret ())else some (.go ()))))else some (.go ())):Option (bJ (Unit) (Unit))).bind fun aqe=>match aqe with| .go _=>((La ab mM.c7).bind fun aqf=>(bif aqf then some (.next (aN (i111+1)))else some (.out (.ret ()))))| .ret _=>some (.out (.ret ())))| .ret _=>some (.out (.ret ()))))))else some (.out (.go ())))
def Ld (ab:Model):Option (Bool):=
 ((bO (GG ab) (0,.emp):Option (bJ ((ak aW)) (Unit))).bind fun QA=>match QA with| .go aqg=>(((bif (decide (ab.Operations.len>8))then some true else((Gr aqg).bind fun mO=>(bif mO then some (decide (ab.Actions.len>256))else some true))):Option (Bool)).bind fun aqh=>(bif aqh then some false else((bO (GI ab) 0:Option (bJ (Unit) (Unit))).bind fun aqi=>match aqi with| .go _=>some true| .ret _=>some false)))| .ret _=>some false)
def qe (ab:Model)(ax:Int)(dZ:Int)(jD:Int)(Q3:Model->Int->Int->Int->Option (Bool)):(Int)->Option (cE (Int) (bJ (Unit) (Unit))):=fun i12=>(bif ((decide (i12<ab.bA.len))&&(decide (jD>0)))then((((aP ab.bA.l i12).bind fun eU=>(bif (eU.Table==ax)then((aP ab.bA.l i12).bind fun kI=>((Q3 ab kI.cj dZ (aN (jD-1))).bind fun j4=>some j4))else some false)):Option (Bool)).bind fun Qq=>(bif Qq then some (.out (.ret ()))else some (.next (aN (i12+1)))))else some (.out (.go ())))
def qY (Q3:Model->Int->Int->Int->Option (Bool))(ab:Model)(ax:Int)(dZ:Int)(jD:Int):Option (Bool):=
 (bif (ax==dZ)then some true else((bO (qe ab ax dZ jD Q3) 0:Option (bJ (Unit) (Unit))).bind fun s3=>match s3 with| .go _=>some false| .ret _=>some true))
def Le (ab:Model)(ax:Int)(dZ:Int)(jD:Int):Option (Bool):=zH (A:=Model × Int × Int × Int) (fun g p=>qY (fun cu bt cH dp=>g (cu,bt,cH,dp)) p.1 p.2.1 p.2.2.1 p.2.2.2) (ab,ax,dZ,jD)
def Lf (ab:Model):(Int)->Option (cE (Int) (bJ (Unit) (Unit))):=fun i12=>(bif (decide (i12<ab.bA.len))then((aP ab.bA.l i12).bind fun dt=>(bif ((decide (dt.Table<0))||((decide (dt.Table>=ab.Tables.len))||((decide (dt.cj<0))||((decide (dt.cj>=ab.Tables.len))||(dt.Table==dt.cj)))))then some (.out (.ret ()))else((aP ab.Tables.l dt.Table).bind fun l3=>((aP ab.Tables.l dt.cj).bind fun pn=>(((bif (l3.Kind != 0)then some true else(bif (pn.Kind != 0)then some true else(bif (decide (dt.fP<0))then some true else(bif (decide (dt.fP>=l3.ba.len))then some true else(bif (pn.ba.len != 1)then some true else((aP pn.ba.l 0).bind fun oC=>((aP l3.ba.l dt.fP).bind fun z7=>some (oC != z7)))))))):Option (Bool)).bind fun aqj=>(bif aqj then some (.out (.ret ()))else some (.next (aN (i12+1)))))))))else some (.out (.go ())))
def Lg (ab:Model):(Int)->Option (cE (Int) (bJ (Unit) (Unit))):=fun i76=>(bif (decide (i76<ab.bA.len))then((aP ab.bA.l i76).bind fun aqk=>((aP ab.bA.l i76).bind fun aql=>((Le ab aqk.cj aql.Table ab.Tables.len).bind fun aqm=>(bif aqm then some (.out (.ret ()))else some (.next (aN (i76+1)))))))else some (.out (.go ())))
def Lh (ab:Model):Option (Bool):=
 (bif (decide (ab.bA.len>12))then some false else((bO (Lf ab) 0:Option (bJ (Unit) (Unit))).bind fun s3=>match s3 with| .go _=>((bO (Lg ab) 0:Option (bJ (Unit) (Unit))).bind fun QI=>match QI with| .go _=>some true| .ret _=>some false)| .ret _=>some false))
def CU (ab:Model):Option (Bool):=
 ((((CT ab.aL ab.Tables).bind fun nN=>(bif nN then(bif (decide (ab.dI.len>24))then some true else((Gr ab.dI).bind fun ie=>some (!ie)))else some true)):Option (Bool)).bind fun pk=>(bif pk then some false else((((K6 ab).bind fun kJ=>(bif kJ then((Ld ab).bind fun wx=>(bif wx then((Lh ab).bind fun s0=>some s0)else some false))else some false)):Option (Bool)).bind fun zX=>some zX)))
def GJ (ab:Model):Option ((ak Range)):=
 ((CU ab).bind fun ez=>(bif ez then((z8 ab).bind fun qd=>some qd)else some ak.nil))
def Li (ax:c7)(ie:(ak Range)):(Int)->Option (cE (Int) (bJ (Unit) (Unit))):=fun i16=>(bif (decide (i16<ax.Delta.len))then((aP ax.Delta.l i16).bind fun gZ=>(bif ((decide (gZ.Cell<0))||((decide (gZ.Cell>=ie.len))||((decide (gZ.Add<(-1000000000)))||(decide (gZ.Add>1000000000)))))then some (.out (.ret ()))else some (.next (aN (i16+1)))))else some (.out (.go ())))
def Lj (ax:c7)(ie:(ak Range))(i51:Int):(Int)->Option (cE (Int) (bJ (Unit) (Unit))):=fun i63=>((aP ax.de.l i51).bind fun CV=>(bif (decide (i63<CV.cd.len))then((aP ax.de.l i51).bind fun qX=>((aP qX.cd.l i63).bind fun CJ=>(bif ((decide (CJ.Cell<0))||((decide (CJ.Cell>=ie.len))||((decide (CJ.dB<(-1000000000)))||(decide (CJ.dB>1000000000)))))then some (.out (.ret ()))else some (.next (aN (i63+1))))))else some (.out (.go ()))))
def Lk (ax:c7)(ie:(ak Range)):(Int)->Option (cE (Int) (bJ (Unit) (Unit))):=fun i51=>(bif (decide (i51<ax.de.len))then((bO (Lj ax ie i51) 0:Option (bJ (Unit) (Unit))).bind fun aqn=>match aqn with| .go _=>some (.next (aN (i51+1)))| .ret _=>some (.out (.ret ())))else some (.out (.go ())))
def Ll (ab:Model)(ax:c7):Option (Bool):=
 ((GJ ab).bind fun ie=>((bO (Li ax ie) 0:Option (bJ (Unit) (Unit))).bind fun jj=>match jj with| .go _=>((bO (Lk ax ie) 0:Option (bJ (Unit) (Unit))).bind fun zU=>match zU with| .go _=>some true| .ret _=>some false)| .ret _=>some false))
def Q4 (ab:(ak Int)):(aW × Int)->Option (cE (aW × Int) (aW)):=fun⟨i8,i9⟩=>(bif (decide (i9<ab.len))then(((bif (decide (i9>0))then((da i8 [44,32]).bind fun kJ=>some kJ)else some i8):Option (aW)).bind fun jj=>((aP ab.l i9).bind fun eU=>((rZ eU).bind fun po=>((da jj po).bind fun kI=>some (.next (kI,(aN (i9+1))))))))else some (.out i8))
def Lm (ab:(ak Int)):Option (aW):=
 ((bO (Q4 ab) ([],0):Option (aW)).bind fun wy=>some wy)
def Ln (ab:(ak Int))(ax:(ak Table))(dZ:Bool)(jD:Int):Option (aW):=
 ((GC ab ax dZ jD).bind fun bt=>(bif bt.2.2 then((aP ax.l bt.1).bind fun dp=>((da dp.Name [40]).bind fun jC=>((Lm bt.2.1).bind fun ez=>((da jC ez).bind fun nN=>((da nN [41]).bind fun qd=>some qd)))))else some []))
def Lo (ab:Int):Option (aW):=
 (bif (decide (ab<0))then((rZ (aN (0-ab))).bind fun cH=>((da [45] cH).bind fun dp=>some dp))else((rZ ab).bind fun jC=>some jC))
def CW (ab:Model)(ax:Row):(aW × Int)->Option (cE (aW × Int) (aW)):=fun⟨i16,i17⟩=>(bif (decide (i17<ax.cd.len))then((aP ax.cd.l i17).bind fun eU=>(((bif ((decide (i17>0))&&(decide (eU.dB<0)))then((da i16 [32,45,32]).bind fun mN=>some mN)else(bif (decide (i17>0))then((da i16 [32,43,32]).bind fun sZ=>some sZ)else(bif (decide (eU.dB<0))then some [45]else some i16))):Option (aW)).bind fun CO=>(((bif (decide (eU.dB<0))then some (aN (0-eU.dB))else some eU.dB):Option (Int)).bind fun CH=>(((bif (CH != 1)then((rZ CH).bind fun nP=>((da CO nP).bind fun lB=>((da lB [32,42,32]).bind fun s4=>some s4)))else some CO):Option (aW)).bind fun QN=>((aP ax.cd.l i17).bind fun oD=>((Ln ab.aL ab.Tables true oD.Cell).bind fun oE=>((da QN oE).bind fun F3=>some (.next (F3,(aN (i17+1)))))))))))else some (.out i16))
def CX (ab:Model)(ax:Row):Option (aW):=
 ((bO (CW ab ax) ([],0):Option (aW)).bind fun jj=>(((bif (ax.cd.len==0)then some [48]else some jj):Option (aW)).bind fun aqo=>((da aqo [32,60,61,32]).bind fun CL=>((Lo ax.gA).bind fun QO=>((da CL QO).bind fun aqp=>some aqp)))))
def CY (ab:Model)(nQ:Constraint):(aW × Int)->Option (cE (aW × Int) (aW)):=fun⟨i61,i62⟩=>(bif (decide (i62<ab.Tables.len))then((aP ab.Tables.l i62).bind fun CV=>(bif ((CV.Kind==0)&&((CV.ba.len==2)&&(CV.cF==nQ.cF)))then some (.next (CV.Name,(aN (i62+1))))else some (.next (i61,(aN (i62+1))))))else some (.out i61))
def Lp (ab:Model)(ax:c7)(dZ:rY):Option (aW):=
 ((CU ab).bind fun gB=>(bif gB then(bif ((dZ.Kind==0)&&(dZ.Index==0))then some [101,120,101,99,117,116,101,100]else(((bif (dZ.Kind==1)then(bif (decide (dZ.Index>=0))then(bif (decide (dZ.Index<ax.de.len))then((qS ax.de dZ.Index (aN (dZ.Index+1))).bind fun aqq=>((Ll ab (c7.mk ak.nil aqq ak.nil)).bind fun kI=>some kI))else some false)else some false)else some false):Option (Bool)).bind fun Qv=>(bif Qv then((aP ax.de.l dZ.Index).bind fun sZ=>((CX ab sZ).bind fun l3=>((da [110,101,101,100,115,32] l3).bind fun pn=>some pn)))else(bif ((dZ.Kind != 2)||((decide (dZ.Index<0))||(decide (dZ.Index>=ab.c4.len))))then some []else((aP ab.c4.l dZ.Index).bind fun nQ=>(bif (nQ.Kind==0)then((aP ab.dI.l nQ.j3).bind fun lB=>((da [118,105,111,108,97,116,101,115,32] lB).bind fun s4=>((da s4 [58,32]).bind fun F9=>((CX ab nQ.Row).bind fun wz=>((da F9 wz).bind fun oC=>some oC)))))else((bO (CY ab nQ) ([],0):Option (aW)).bind fun Q5=>((aP ab.dI.l nQ.j3).bind fun Gm=>((da [118,105,111,108,97,116,101,115,32] Gm).bind fun Q6=>((da Q6 [58,32,97,99,121,99,108,105,99,32]).bind fun pq=>((da pq Q5).bind fun Q7=>some Q7)))))))))))else some []))
def Lq (ab:Model)(ax:c7)(dZ:rY):Option (Bool):=
 ((Qm).bind fun gB=>(bif gB then((((Ks ab).bind fun nO=>(bif nO then((Ku ax).bind fun dt=>(bif dt then((KU ab ax dZ).bind fun Gl=>((Lp ab ax dZ).bind fun s0=>some (Gl==s0)))else some true))else some true)):Option (Bool)).bind fun jj=>some jj)else some false))
end
end Go.Abs.bZ
