/- Texts of this claim, joined and written short by a program. -/
import Derived.Test.YtgkcikhegodchaaGreatDoorP21
import Derived.Test.YtgkcikhegodchaaGreatDoorP00
set_option linter.unusedVariables false
set_option linter.unusedSimpArgs false
set_option linter.unusedSectionVars false
set_option maxHeartbeats 2000000
namespace Go.Abs.bA
open Go Go.Abs
noncomputable section
def apx (ab:(ae fp))(ax:(fp->Option Bool)):(Int)->Option (cH (Int) (bO (Unit) (Int))):=fun i7=>(bif (decide (i7<ab.len))then((aO ab.l i7).bind fun hM=>((ax hM).bind fun fA=>(bif fA then some (.out (.ret i7))else some (.next (aL (i7+1))))))else some (.out (.go ())))
def acR (ab:(ae fp))(ax:(fp->Option Bool)):Option (Int):=
 ((bW (apx ab ax) 0:Option (bO (Unit) (Int))).bind fun gX=>match gX with| .go _=>some (-1)| .ret uc=>some uc)
def Ge (ab:(ae fp))(ax:(fp->Option Bool)):Option (Bool):=
 ((acR ab ax).bind fun bs=>some (decide (bs>=0)))
def yz (ab:Int):Option (Bool):=
 some ((decide (ab>=97))&&(decide (ab<=122)))
def yA (ab:Int):Option (Bool):=
 some ((decide (ab>=48))&&(decide (ab<=57)))
def K0 (ab:ck)(ax:ck):Option (Bool):=
 (((bif (decide ((ab.length:Int)>=(ax.length:Int)))then((qU ab 0 (ax.length:Int)).bind fun dA=>some (dA==ax))else some false):Option (Bool)).bind fun gI=>some gI)
def Gf (ab:ck)(ax:ck):Option (Bool):=
 ((K0 ab ax).bind fun bs=>some bs)
def Gg (ab:ck):(Int)->Option (cH (Int) (bO (Unit) (Unit))):=fun i7=>(bif (decide (i7<(ae.mk [[61,61],[33,61],[60,61],[62,61],[46,46]]).len))then((aO (ae.mk [[61,61],[33,61],[60,61],[62,61],[46,46]]).l i7).bind fun hM=>((Gf ab hM).bind fun fA=>(bif fA then some (.out (.ret ()))else some (.next (aL (i7+1))))))else some (.out (.go ())))
def AG (ab:ck):Option (Int):=
 ((bW (Gg ab) 0:Option (bO (Unit) (Unit))).bind fun gX=>match gX with| .go _=>(((bif (ab != [])then((aO ab 0).bind fun iR=>((strings_IndexByte [60,62,61,43,45,42,40,41,123,125,44,58,59] (iR.toNat:Int)).bind fun nG=>some (decide (nG>=0))))else some false):Option (Bool)).bind fun w5=>(bif w5 then some 1 else some 0))| .ret _=>some 2)
def Dv (ab:ck):Option (Bool):=
 ((((aO ab 0).bind fun cr=>((yz (cr.toNat:Int)).bind fun dA=>(bif dA then some true else((aO ab 0).bind fun ek=>((yA (ek.toNat:Int)).bind fun nb=>(bif nb then some true else((AG ab).bind fun lA=>some (decide (lA>0))))))))):Option (Bool)).bind fun gI=>some gI)
def Gh (ab:ck)(ax:(Int->Option Bool)):(Int)->Option (cH (Int) (Int)):=fun i7=>(((bif (decide (i7<(ab.length:Int)))then((aO ab i7).bind fun fA=>((ax (fA.toNat:Int)).bind fun k5=>some k5))else some false):Option (Bool)).bind fun AH=>(bif AH then some (.next (aL (i7+1)))else some (.out i7)))
def AJ (ab:ck)(ax:(Int->Option Bool)):Option (Int):=
 ((bW (Gh ab ax) 0:Option (Int)).bind fun gX=>some gX)
def AK (ab:Int):Option (Bool):=
 some ((ab==32)||((ab==9)||((ab==10)||(ab==13))))
def AL (ab:Int):Option (Bool):=
 some (ab != 10)
def Dw (ab:ck):(Int)->Option (cH (Int) (bO (Int) (Int))):=fun i7=>(bif (decide (i7<(ab.length:Int)))then((aO ab i7).bind fun hM=>((AK (hM.toNat:Int)).bind fun fA=>(bif fA then some (.next (aL (i7+1)))else((aO ab i7).bind fun qa=>(bif ((qa.toNat:Int)==35)then((qU ab i7 (ab.length:Int)).bind fun dx=>((AJ dx AL).bind fun mi=>some (.next (aL (i7+mi)))))else some (.out (.ret i7)))))))else some (.out (.go i7)))
def Dx (ab:ck):Option (Int):=
 ((bW (Dw ab) 0:Option (bO (Int) (Int))).bind fun gX=>match gX with| .go apy=>some apy| .ret apz=>some apz)
def Dy (ab:Int):Option (Bool):=
 ((((yz ab).bind fun cr=>(bif cr then some true else((yA ab).bind fun lB=>(bif lB then some true else some (ab==95))))):Option (Bool)).bind fun gI=>some gI)
def AM (ab:Table):Option (Bool):=
 some ((ab.Kind==0)||(ab.Kind==1))
def K1 (ab:(ae Int))(ax:(ae Int)):(Int × Int)->Option (cH (Int × Int) (Int)):=fun⟨i8,i9⟩=>(bif (decide (i9<ax.len))then((aO ax.l i9).bind fun k5=>((aO ab.l k5).bind fun qa=>some (.next ((aL (i8*qa)),(aL (i9+1))))))else some (.out i8))
def ud (ab:(ae Int))(ax:(ae Int)):Option (Int):=
 ((bW (K1 ab ax) (1,0):Option (Int)).bind fun qb=>some qb)
def apA (ab:(ae Bool))(ax:Bool):(Int)->Option (cH (Int) (bO (Unit) (Int))):=fun i7=>(bif (decide (i7<ab.len))then((aO ab.l i7).bind fun hM=>(bif (ax==hM)then some (.out (.ret i7))else some (.next (aL (i7+1)))))else some (.out (.go ())))
def QS (ab:(ae Bool))(ax:Bool):Option (Int):=
 ((bW (apA ab ax) 0:Option (bO (Unit) (Int))).bind fun gX=>match gX with| .go _=>some (-1)| .ret apB=>some apB)
def K2 (ab:(ae Bool))(ax:Bool):Option (Bool):=
 ((QS ab ax).bind fun bs=>some (decide (bs>=0)))
def AO (ab:(ae Bool)):Option (Bool):=
 ((K2 ab false).bind fun bs=>some (!bs))
def apC (ab:(ae Int))(ax:(Int->Option Bool)):(Int)->Option (cH (Int) (bO (Unit) (Int))):=fun i7=>(bif (decide (i7<ab.len))then((aO ab.l i7).bind fun hM=>((ax hM).bind fun fA=>(bif fA then some (.out (.ret i7))else some (.next (aL (i7+1))))))else some (.out (.go ())))
def QT (ab:(ae Int))(ax:(Int->Option Bool)):Option (Int):=
 ((bW (apC ab ax) 0:Option (bO (Unit) (Int))).bind fun gX=>match gX with| .go _=>some (-1)| .ret uc=>some uc)
def Dz (ab:(ae Int))(ax:(Int->Option Bool)):Option (Bool):=
 ((QT ab ax).bind fun bs=>some (decide (bs>=0)))
def Gi (ab:Int)(ax:Int)(eW:Int):Option (Bool):=
 some ((decide (ab>=ax))&&(decide (ab<=eW)))
def K3 (ab:Int):Option (Bool):=
 ((Gi ab 1 6).bind fun bs=>some (!bs))
def Gj (ab:(ae Int)):Option (Bool):=
 ((Dz ab K3).bind fun bs=>some (!bs))
def yB (ab:ck):Option (Bool):=
 (((bif (decide ((ab.length:Int)<=16))then((Gd ab).bind fun dA=>some (dA==1))else some false):Option (Bool)).bind fun gI=>some gI)
def K4 (yC:(ae Int))(ab:Int):Option (Bool):=
 some ((decide (ab<0))||(decide (ab>=yC.len)))
def Gk (ab:(ae Int))(ax:(ae Int)):Option (Bool):=
 (((bif (decide (ax.len<=3))then((Dz ax (fun z0=>K4 ab z0)).bind fun qc=>some (!qc))else some false):Option (Bool)).bind fun oi=>some oi)
def Gl (ab:Table):Option (Bool):=
 (((((bif (ab.Kind==1)then some (ab.Kind==1)else(bif (ab.Kind==4)then some (ab.Kind==4)else some (ab.Kind==5))):Option (Bool)).bind fun gX=>(bif gX then some (.ret ((decide (ab.Range.fq<=ab.Range.fr))&&((decide (ab.Range.fq>=(-9999)))&&(decide (ab.Range.fr<=9999)))))else some (.go ()))):Option (bO (Unit) (Bool))).bind fun oi=>match oi with| .go _=>some ((ab.Range.fq==0)&&((ab.Range.fr==1)&&true))| .ret apD=>some apD)
def DA (ab:(ae Int))(ax:(ae Table)):(Int × Int × Int × (List (ck × Bool)))->Option (cH (Int × Int × Int × (List (ck × Bool))) (bO (Int × Int) (Unit))):=fun⟨i29,i30,i31,i32⟩=>(bif (decide (i29<ax.len))then((aO ax.l i29).bind fun mj=>((yB mj.Name).bind fun QU=>((Gi mj.Kind 0 5).bind fun Gm=>((Gk ab mj.aZ).bind fun QV=>((Gl mj).bind fun AP=>((AO (ae.mk [QU,(!((hI i32 mj.Name).getD false)),Gm,QV,AP])).bind fun AQ=>(bif AQ then((AM mj).bind fun sW=>(bif sW then(bif (mj.cz != i31)then some (.out (.ret ()))else((ud ab mj.aZ).bind fun sX=>some (.next ((aL (i29+1)),i30,(aL (i31+sX)),(ly i32 mj.Name true)))))else(bif (mj.cz != i30)then some (.out (.ret ()))else((ud ab mj.aZ).bind fun DB=>some (.next ((aL (i29+1)),(aL (i30+DB)),i31,(ly i32 mj.Name true)))))))else some (.out (.ret ())))))))))else some (.out (.go (i30,i31))))
def yD (ab:(ae Int))(ax:(ae Table)):Option (Bool):=
 ((Gj ab).bind fun bs=>((AO (ae.mk [(decide (ab.len<=4)),(decide (ax.len<=12)),bs])).bind fun cr=>(bif cr then((bW (DA ab ax) (0,0,0,[]):Option (bO (Int × Int) (Unit))).bind fun apE=>match apE with| .go (⟨apF,apG⟩)=>some ((decide (apG<=128))&&(decide (apF<=64)))| .ret _=>some false)else some false)))
def Gn (ab:(ae ck)):(Int × (List (ck × Bool)))->Option (cH (Int × (List (ck × Bool))) (bO (Unit) (Unit))):=fun⟨i12,i13⟩=>(bif (decide (i12<ab.len))then((aO ab.l i12).bind fun mi=>((((yB mi).bind fun w6=>(bif w6 then some ((hI i13 mi).getD false)else some true)):Option (Bool)).bind fun apH=>(bif apH then some (.out (.ret ()))else some (.next ((aL (i12+1)),(ly i13 mi true))))))else some (.out (.go ())))
def DC (ab:(ae ck)):Option (Bool):=
 ((bW (Gn ab) (0,[]):Option (bO (Unit) (Unit))).bind fun ue=>match ue with| .go _=>some true| .ret _=>some false)
def Gp (ab:(ae Int))(ax:(ae Table))(eW:Bool):(Int × (ae Range))->Option (cH (Int × (ae Range)) ((ae Range))):=fun⟨i13,i14⟩=>(bif (decide (i13<ax.len))then((aO ax.l i13).bind fun jX=>((AM jX).bind fun lX=>(bif (lX==eW)then((ud ab jX.aZ).bind fun Gq=>((Ds (ae.mk [jX.Range]) Gq).bind fun jz=>((hh 16 i14 jz).bind fun apI=>some (.next ((aL (i13+1)),apI)))))else some (.next ((aL (i13+1)),i14)))))else some (.out i14))
def AR (ab:(ae Int))(ax:(ae Table))(eW:Bool):Option ((ae Range)):=
 ((yD ab ax).bind fun bs=>(bif bs then((bW (Gp ab ax eW) (0,.nil):Option ((ae Range))).bind fun AH=>some AH)else some ae.nil))
def nc (ab:Int)(ax:Int):Option (Bool):=
 some ((decide (ab>=0))&&(decide (ab<ax)))
def yE (ab:Int)(ax:Int):Option (Bool):=
 some ((decide (ab>=(aL (0-ax))))&&(decide (ab<=ax)))
def Gr (ab:eh)(ax:Row):(Int × Int)->Option (cH (Int × Int) (bO (Unit) (Unit))):=fun⟨i16,i17⟩=>(bif (decide (i17<ax.da.len))then((aO ax.da.l i17).bind fun jX=>(((bif (decide (jX.Cell<=i16))then some true else(bif (decide (jX.Cell>=ab.strict.len))then some true else(bif (jX.hJ==0)then some true else((yE jX.hJ 1000).bind fun qd=>some (!qd))))):Option (Bool)).bind fun QW=>(bif QW then some (.out (.ret ()))else some (.next (jX.Cell,(aL (i17+1)))))))else some (.out (.go ())))
def DD (ab:eh)(ax:Row):Option (Bool):=
 ((bW (Gr ab ax) ((-1),0):Option (bO (Unit) (Unit))).bind fun rP=>match rP with| .go _=>((yE ax.nF 1000000000).bind fun apJ=>some apJ)| .ret _=>some false)
def apK (ab:(ae Table))(ax:(Table->Option Bool)):(Int)->Option (cH (Int) (bO (Unit) (Int))):=fun i7=>(bif (decide (i7<ab.len))then((aO ab.l i7).bind fun hM=>((ax hM).bind fun fA=>(bif fA then some (.out (.ret i7))else some (.next (aL (i7+1))))))else some (.out (.go ())))
def QX (ab:(ae Table))(ax:(Table->Option Bool)):Option (Int):=
 ((bW (apK ab ax) 0:Option (bO (Unit) (Int))).bind fun gX=>match gX with| .go _=>some (-1)| .ret uc=>some uc)
def K5 (ab:(ae Table))(ax:(Table->Option Bool)):Option (Bool):=
 ((QX ab ax).bind fun bs=>some (decide (bs>=0)))
def Gs (yC:Constraint)(apL:eh)(ab:Table):Option (Bool):=
 (((bif (ab.Kind==0)then(bif (ab.aZ.len==2)then((aO ab.aZ.l 0).bind fun lA=>((aO ab.aZ.l 1).bind fun nd=>(bif (lA==nd)then(bif (ab.cz==yC.cz)then((aO ab.aZ.l 0).bind fun uf=>((aO apL.Model.aA.l uf).bind fun hM=>some (hM==yC.rK)))else some false)else some false)))else some false)else some false):Option (Bool)).bind fun oi=>some oi)
def Gt (ab:eh)(ax:Constraint):Option (Bool):=
 (((bif (ax.Row.da.len==0)then(bif (ax.Row.nF==0)then((K5 ab.Model.Tables (fun z0=>Gs ax ab z0)).bind fun uf=>some uf)else some false)else some false):Option (Bool)).bind fun AU=>some AU)
def K6 (ab:(ae Term))(ax:(ae Term)):(Int)->Option (cH (Int) (bO (Unit) (Unit))):=fun i8=>(bif (decide (i8<ab.len))then((aO ab.l i8).bind fun fA=>((aO ax.l i8).bind fun k5=>(bif ((fA.Cell==k5.Cell)&&((fA.hJ==k5.hJ)&&true))then some (.next (aL (i8+1)))else some (.out (.ret ())))))else some (.out (.go ())))
def AV (ab:(ae Term))(ax:(ae Term)):Option (Bool):=
 (bif (ab.len != ax.len)then some false else((bW (K6 ab ax) 0:Option (bO (Unit) (Unit))).bind fun qb=>match qb with| .go _=>some true| .ret _=>some false))
def Gu (ab:Row)(ax:Int)(eW:Int)(gP:Int):Option (Bool):=
 ((((AV ab.da (ae.mk [(Term.mk ax eW)])).bind fun nb=>(bif nb then some (ab.nF==gP)else some false)):Option (Bool)).bind fun oi=>some oi)
def Gv (ab:eh):(Int)->Option (cH (Int) (bO (Unit) (Unit))):=fun i16=>(bif (decide (i16<ab.Model.di.len))then((aO ab.Model.di.l i16).bind fun iS=>((((nc iS.og ab.Model.eg.len).bind fun lX=>(bif lX then(bif (iS.Kind==0)then(((bif (iS.cz != 0)then some true else(bif (iS.rK != 0)then some true else((DD ab iS.Row).bind fun gK=>some (!gK)))):Option (Bool)).bind fun QY=>(bif QY then some (.ret ())else some (.go ())))else(((bif (iS.Kind != 1)then some true else((Gt ab iS).bind fun QU=>some (!QU))):Option (Bool)).bind fun apM=>(bif apM then some (.ret ())else some (.go ()))))else some (.ret ()))):Option (bO (Unit) (Unit))).bind fun Gw=>match Gw with| .go _=>(bif (decide ((aL (i16.tdiv 2))<ab.strict.len))then((aO ab.strict.l (aL (i16.tdiv 2))).bind fun DB=>(((bif ((i16.tmod 2)==0)then some ((-1),(aL (0-DB.fq)))else some (1,DB.fr)):Option (Int × Int)).bind fun QZ=>match QZ with|⟨apN,apO⟩=>(((bif (iS.Kind != 0)then some true else((Gu iS.Row (aL (i16.tdiv 2)) apN apO).bind fun Q0=>some (!Q0))):Option (Bool)).bind fun apP=>(bif apP then some (.out (.ret ()))else some (.next (aL (i16+1)))))))else some (.next (aL (i16+1))))| .ret _=>some (.out (.ret ()))))else some (.out (.go ())))
def Gx (ab:eh):Option (Bool):=
 (bif ((decide (ab.Model.di.len>512))||(decide (ab.Model.di.len<(aL (2*ab.strict.len)))))then some false else((bW (Gv ab) 0:Option (bO (Unit) (Unit))).bind fun rP=>match rP with| .go _=>some true| .ret _=>some false))
def Gy (yC:eh)(ab:Int):Option (Bool):=
 some ((decide (ab<(-1)))||(decide (ab>=yC.Model.aA.len)))
def Gz (ab:eh):(Int × (ae ck))->Option (cH (Int × (ae ck)) (bO ((ae ck)) (Unit))):=fun⟨i15,i16⟩=>(bif (decide (i15<ab.Model.Operations.len))then((aO ab.Model.Operations.l i15).bind fun qe=>((hh 16 i16 (ae.mk [qe.Name])).bind fun Q1=>(((bif (decide (qe.aA.len>3))then some true else((Dz qe.aA (fun z0=>Gy ab z0)).bind fun w7=>some w7)):Option (Bool)).bind fun Q2=>(bif Q2 then some (.out (.ret ()))else some (.next ((aL (i15+1)),Q1))))))else some (.out (.go i16)))
def GA (ab:eh):Option (Bool):=
 ((bW (Gz ab) (0,.nil):Option (bO ((ae ck)) (Unit))).bind fun Q3=>match Q3 with| .go acS=>(((bif (decide (acS.len<=8))then((DC acS).bind fun Q4=>some Q4)else some false):Option (Bool)).bind fun QZ=>some QZ)| .ret _=>some false)
def cmp_isNaN_int (ab:Int):Option (Bool):=
 some (ab != ab)
def cmp_Compare_int (ab:Int)(ax:Int):Option (Int):=
 ((cmp_isNaN_int ab).bind fun bs=>((cmp_isNaN_int ax).bind fun cr=>(bif bs then(bif cr then some 0 else some (-1))else(bif cr then some 1 else(bif (decide (ab<ax))then some (-1)else(bif (decide (ab>ax))then some 1 else some 0))))))
def DE (ab:(ae Int))(ax:(ae Int)):(Int)->Option (cH (Int) (bO (Unit) (Int))):=fun i7=>(bif (decide (i7<ab.len))then((aO ab.l i7).bind fun hM=>(bif (decide (i7>=ax.len))then some (.out (.ret 1))else((aO ax.l i7).bind fun k5=>((cmp_Compare_int hM k5).bind fun qa=>(bif (qa != 0)then some (.out (.ret qa))else some (.next (aL (i7+1))))))))else some (.out (.go ())))
def DF (ab:(ae Int))(ax:(ae Int)):Option (Int):=
 ((bW (DE ab ax) 0:Option (bO (Unit) (Int))).bind fun gX=>match gX with| .go _=>(bif (decide (ab.len<ax.len))then some (-1)else some 0)| .ret apQ=>some apQ)
def K7 (ab:(ae Int))(iS:Table):(Int × Int × (ae Int))->Option (cH (Int × Int × (ae Int)) ((ae Int))):=fun⟨i58,i59,i60⟩=>(bif (decide (i59>=0))then((aO iS.aZ.l i59).bind fun Q4=>((aO ab.l Q4).bind fun ug=>((Dk i58 ug).bind fun Q5=>((Dj i58 ug).bind fun yF=>((aO i60.l i59).bind fun acT=>((aO i60.l i59).bind fun yG=>some (.next (yF,(aL (i59-1)),(p8 i60 i59 Q5)))))))))else some (.out i60))
def GC (ab:(ae Int))(ax:(ae Table))(eW:Bool)(gP:Int):(Int)->Option (cH (Int) (bO (Unit) (Int × (ae Int)))):=fun i16=>(bif (decide (i16<ax.len))then((aO ax.l i16).bind fun iS=>((((AM iS).bind fun lX=>(bif (lX==eW)then(bif (decide ((aL (gP-iS.cz))<0))then some true else((ud ab iS.aZ).bind fun jz=>some (decide ((aL (gP-iS.cz))>=jz))))else some true)):Option (Bool)).bind fun Gw=>(bif Gw then some (.next (aL (i16+1)))else((yu 8 0 iS.aZ.len).bind fun GD=>((bW (K7 ab iS) ((aL (gP-iS.cz)),(aL (GD.len-1)),GD):Option ((ae Int))).bind fun Q6=>some (.out (.ret (i16,Q6))))))))else some (.out (.go ())))
def ml (ab:(ae Int))(ax:(ae Table))(eW:Bool)(gP:Int):Option (Int × (ae Int) × Bool):=
 ((((yD ab ax).bind fun cr=>(bif cr then some (decide (gP<0))else some true)):Option (Bool)).bind fun gI=>(bif gI then some (0,ae.nil,false)else((bW (GC ab ax eW gP) 0:Option (bO (Unit) (Int × (ae Int)))).bind fun rP=>match rP with| .go _=>some (0,ae.nil,false)| .ret (⟨apR,apS⟩)=>some (apR,apS,true))))
def GF (ab:eh)(ax:kH):Option (Bool):=
 ((ml ab.Model.aA ab.Model.Tables false ax.Cell).bind fun nd=>(bif nd.2.2 then((aO ab.Model.Tables.l nd.1).bind fun w8=>(((bif (w8.Kind==2)then some (w8.Kind==2)else some (w8.Kind==3)):Option (Bool)).bind fun GG=>(bif GG then some (bif (ax.Kind==0)then(ax.Value==0)else((ax.Kind==1)&&(ax.Value==0)))else some ((ax.Kind==2)&&((decide (ax.Value>=w8.Range.fq))&&(decide (ax.Value<=w8.Range.fr)))))))else some false))
def apT (ab:(ae Row))(ax:(Row->Option Bool)):(Int)->Option (cH (Int) (bO (Unit) (Int))):=fun i7=>(bif (decide (i7<ab.len))then((aO ab.l i7).bind fun hM=>((ax hM).bind fun fA=>(bif fA then some (.out (.ret i7))else some (.next (aL (i7+1))))))else some (.out (.go ())))
def Q7 (ab:(ae Row))(ax:(Row->Option Bool)):Option (Int):=
 ((bW (apT ab ax) 0:Option (bO (Unit) (Int))).bind fun gX=>match gX with| .go _=>some (-1)| .ret uc=>some uc)
def K8 (ab:(ae Row))(ax:(Row->Option Bool)):Option (Bool):=
 ((Q7 ab ax).bind fun bs=>some (decide (bs>=0)))
def GH (yC:eh)(ab:Row):Option (Bool):=
 ((DD yC ab).bind fun ek=>some (!ek))
def GI (ab:eh)(ax:dV):(Int × Int)->Option (cH (Int × Int) (bO (Unit) (Unit))):=fun⟨i16,i17⟩=>(bif (decide (i17<ax.Delta.len))then((aO ax.Delta.l i17).bind fun jX=>(((bif (decide (jX.Cell<=i16))then some true else(bif (decide (jX.Cell>=ab.strict.len))then some true else(bif (jX.Add==0)then some true else((yE jX.Add 1000000000).bind fun qd=>some (!qd))))):Option (Bool)).bind fun QW=>(bif QW then some (.out (.ret ()))else some (.next (jX.Cell,(aL (i17+1)))))))else some (.out (.go ())))
def GJ (ab:eh)(ax:dV):(Int × Int)->Option (cH (Int × Int) (bO (Unit) (Unit))):=fun⟨i57,i58⟩=>(bif (decide (i58<ax.e4.len))then((aO ax.e4.l i58).bind fun Q8=>(((bif (decide (Q8.Cell<=i57))then some true else((GF ab Q8).bind fun acT=>some (!acT))):Option (Bool)).bind fun Q9=>(bif Q9 then some (.out (.ret ()))else some (.next (Q8.Cell,(aL (i58+1)))))))else some (.out (.go ())))
def GK (ab:eh)(ax:dV):Option (Bool):=
 ((bW (GI ab ax) ((-1),0):Option (bO (Unit) (Unit))).bind fun rP=>match rP with| .go _=>((bW (GJ ab ax) ((-1),0):Option (bO (Unit) (Unit))).bind fun apU=>match apU with| .go _=>(((bif (decide (ax.fX.len<=8))then(bif (decide (ax.e4.len<=32))then((K8 ax.fX (fun z0=>GH ab z0)).bind fun Ra=>some (!Ra))else some false)else some false):Option (Bool)).bind fun apV=>some apV)| .ret _=>some false)| .ret _=>some false)
def K9 (ab:eh)(dx:Action)(DG:c0):(Int)->Option (cH (Int) (bO (Unit) (Unit))):=fun i42=>(bif (decide (i42<DG.aA.len))then((aO DG.aA.l i42).bind fun AP=>((aO dx.dQ.l i42).bind fun AQ=>(((bif (decide (AP<0))then((yE AQ 9999).bind fun Rb=>(bif Rb then(bif (decide (AP>=0))then((aO ab.Model.aA.l AP).bind fun Rc=>((nc AQ Rc).bind fun sX=>some (!sX)))else some false)else some true))else(bif (decide (AP>=0))then((aO ab.Model.aA.l AP).bind fun Re=>((nc AQ Re).bind fun yH=>some (!yH)))else some false)):Option (Bool)).bind fun GL=>(bif GL then some (.out (.ret ()))else some (.next (aL (i42+1)))))))else some (.out (.go ())))
def GM (ab:eh):(Int)->Option (cH (Int) (bO (Unit) (Unit))):=fun i12=>(bif (decide (i12<ab.Model.Actions.len))then((aO ab.Model.Actions.l i12).bind fun dx=>((((nc dx.c0 ab.Model.Operations.len).bind fun mm=>(bif mm then((aO ab.Model.Operations.l dx.c0).bind fun nG=>some (dx.dQ.len != nG.aA.len))else some true)):Option (Bool)).bind fun w5=>(bif w5 then some (.out (.ret ()))else((aO ab.Model.Operations.l dx.c0).bind fun DG=>((bW (K9 ab dx DG) 0:Option (bO (Unit) (Unit))).bind fun apW=>match apW with| .go _=>(((bif (decide (i12>0))then((aO ab.Model.Actions.l (aL (i12-1))).bind fun yG=>(((bif (decide (yG.c0>dx.c0))then some true else(bif (yG.c0==dx.c0)then((DF yG.dQ dx.dQ).bind fun GN=>some (decide (GN>=0)))else some false)):Option (Bool)).bind fun Rf=>(bif Rf then some (.ret ())else some (.go ()))))else some (.go ())):Option (bO (Unit) (Unit))).bind fun Rg=>match Rg with| .go _=>((GK ab dx.dV).bind fun GO=>(bif GO then some (.next (aL (i12+1)))else some (.out (.ret ()))))| .ret _=>some (.out (.ret ())))| .ret _=>some (.out (.ret ())))))))else some (.out (.go ())))
def GP (ab:eh):Option (Bool):=
 (bif (decide (ab.Model.Actions.len>256))then some false else((bW (GM ab) 0:Option (bO (Unit) (Unit))).bind fun ue=>match ue with| .go _=>some true| .ret _=>some false))
def yI (ab:Model):Option (Bool):=
 ((((yD ab.aA ab.Tables).bind fun nb=>(bif nb then(bif (decide (ab.eg.len>24))then some true else((DC ab.eg).bind fun nd=>some (!nd)))else some true)):Option (Bool)).bind fun oi=>(bif oi then some false else((AR ab.aA ab.Tables true).bind fun qa=>((((Gx (eh.mk ab qa)).bind fun AW=>(bif AW then((GA (eh.mk ab qa)).bind fun mm=>(bif mm then((GP (eh.mk ab qa)).bind fun nG=>(bif nG then((QQ (eh.mk ab qa)).bind fun lX=>some lX)else some false))else some false))else some false)):Option (Bool)).bind fun apX=>some apX))))
def La (ab:(ae Int))(ax:(ae Table))(eW:Bool):Option (Int):=
 ((AR ab ax eW).bind fun bs=>some bs.len)
def AX (ab:Model)(ax:(ae Int)):Option (Bool):=
 ((((yI ab).bind fun nb=>(bif nb then((La ab.aA ab.Tables true).bind fun lA=>some (ax.len==lA))else some false)):Option (Bool)).bind fun oi=>some oi)
def Lb (ab:(ae Int))(gP:(ae Int))(lA:Table):(Int × Int)->Option (cH (Int × Int) (bO (Int) (Unit))):=fun⟨i23,i24⟩=>(bif (decide (i24<gP.len))then((aO gP.l i24).bind fun lX=>(((bif (decide (lX<0))then some true else((aO lA.aZ.l i24).bind fun jz=>((aO ab.l jz).bind fun qd=>some (decide (lX>=qd))))):Option (Bool)).bind fun GQ=>(bif GQ then some (.out (.ret ()))else((aO lA.aZ.l i24).bind fun w7=>((aO ab.l w7).bind fun AY=>some (.next ((aL ((aL (i23*AY))+lX)),(aL (i24+1)))))))))else some (.out (.go i23)))
def qf (ab:(ae Int))(ax:(ae Table))(eW:Int)(gP:(ae Int)):Option (Int × Int):=
 ((yD ab ax).bind fun bs=>(bif bs then(bif ((decide (eW<0))||(decide (eW>=ax.len)))then some (0,7)else((aO ax.l eW).bind fun lA=>(bif (gP.len != lA.aZ.len)then some (0,2)else((bW (Lb ab gP lA) (0,0):Option (bO (Int) (Unit))).bind fun Rh=>match Rh with| .go apY=>some ((aL (lA.cz+apY)),0)| .ret _=>some (0,2)))))else some (0,1)))
def Lc (ax:(ae Table)):(Int)->Option (cH (Int) (bO (Unit) (Unit))):=fun i7=>(bif (decide (i7<ax.len))then((((aO ax.l i7).bind fun fA=>(bif (decide ((fA.Name.length:Int)>40))then some true else((aO ax.l i7).bind fun qa=>some (decide (qa.aZ.len>12))))):Option (Bool)).bind fun AZ=>(bif AZ then some (.out (.ret ()))else some (.next (aL (i7+1)))))else some (.out (.go ())))
def GR (ab:(ae Int))(ax:(ae Table)):Option (Bool):=
 ((bW (Lc ax) 0:Option (bO (Unit) (Unit))).bind fun gX=>match gX with| .go _=>some ((decide (ab.len<=12))&&(decide (ax.len<=20)))| .ret _=>some false)
def Ld (ab:Model):(Int)->Option (cH (Int) (bO (Unit) (Unit))):=fun i26=>(bif (decide (i26<ab.eg.len))then((aO ab.eg.l i26).bind fun Gq=>(bif (decide ((Gq.length:Int)>40))then some (.out (.ret ()))else some (.next (aL (i26+1)))))else some (.out (.go ())))
def Le (ab:Model):(Int)->Option (cH (Int) (bO (Unit) (Unit))):=fun i49=>(bif (decide (i49<ab.di.len))then((aO ab.di.l i49).bind fun Rc=>(bif (decide (Rc.Row.da.len>20))then some (.out (.ret ()))else some (.next (aL (i49+1)))))else some (.out (.go ())))
def Lf (ab:Model):(Int)->Option (cH (Int) (bO (Unit) (Unit))):=fun i72=>(bif (decide (i72<ab.Operations.len))then((((aO ab.Operations.l i72).bind fun apZ=>(bif (decide ((apZ.Name.length:Int)>40))then some true else((aO ab.Operations.l i72).bind fun ap0=>some (decide (ap0.aA.len>6))))):Option (Bool)).bind fun ap1=>(bif ap1 then some (.out (.ret ()))else some (.next (aL (i72+1)))))else some (.out (.go ())))
def Lg (A0:Action):(Int)->Option (cH (Int) (bO (Unit) (Unit))):=fun i133=>(bif (decide (i133<A0.dV.fX.len))then((aO A0.dV.fX.l i133).bind fun ap2=>(bif (decide (ap2.da.len>20))then some (.out (.ret ()))else some (.next (aL (i133+1)))))else some (.out (.go ())))
def Lh (ab:Model):(Int)->Option (cH (Int) (bO (Unit) (Unit))):=fun i103=>(bif (decide (i103<ab.Actions.len))then((aO ab.Actions.l i103).bind fun A0=>((((aO ab.Actions.l i103).bind fun nf=>(bif (decide (nf.dQ.len>6))then some true else(bif (decide (A0.dV.Delta.len>20))then some true else(bif (decide (A0.dV.fX.len>10))then some true else some (decide (A0.dV.e4.len>40)))))):Option (Bool)).bind fun ap3=>(bif ap3 then some (.out (.ret ()))else((bW (Lg A0) 0:Option (bO (Unit) (Unit))).bind fun ap4=>match ap4 with| .go _=>some (.next (aL (i103+1)))| .ret _=>some (.out (.ret ()))))))else some (.out (.go ())))
def DH (ab:Model):Option (Bool):=
 (((bif (decide (ab.aA.len>8))then some true else(bif (decide (ab.Tables.len>6))then some true else(bif (decide (ab.eg.len>20))then some true else(bif (decide (ab.di.len>60))then some true else(bif (decide (ab.Operations.len>8))then some true else(bif (decide (ab.Actions.len>30))then some true else(bif (decide (ab.aW.len>12))then some true else((GR ab.aA ab.Tables).bind fun hM=>some (!hM))))))))):Option (Bool)).bind fun oi=>(bif oi then some false else((bW (Ld ab) 0:Option (bO (Unit) (Unit))).bind fun w5=>match w5 with| .go _=>((bW (Le ab) 0:Option (bO (Unit) (Unit))).bind fun ap5=>match ap5 with| .go _=>((bW (Lf ab) 0:Option (bO (Unit) (Unit))).bind fun Q9=>match Q9 with| .go _=>((bW (Lh ab) 0:Option (bO (Unit) (Unit))).bind fun ap6=>match ap6 with| .go _=>some true| .ret _=>some false)| .ret _=>some false)| .ret _=>some false)| .ret _=>some false)))
def Ri (ab:Model)(ax:Bool):Option ((ae Range)):=
 ((yI ab).bind fun ek=>(bif ek then((AR ab.aA ab.Tables ax).bind fun qc=>some qc)else some ae.nil))
def Li (ab:Model):Option ((ae Range)):=
 ((Ri ab true).bind fun ek=>some ek)
def GS (ab:Model)(mi:(ae Bool))(i27:Int)(jz:Int × (ae Int) × Bool):(Bool × Int)->Option (cH (Bool × Int) (bO (Bool) (Unit))):=fun⟨i52,i53⟩=>(bif (decide (i53<ab.aW.len))then((aO ab.aW.l i53).bind fun yH=>(bif ((yH.Table != jz.1)||(decide (yH.dK>=jz.2.1.len)))then some (.next (i52,(aL (i53+1))))else((aO jz.2.1.l yH.dK).bind fun Q5=>((qf ab.aA ab.Tables yH.bS (ae.mk [Q5])).bind fun yF=>(((bif (yF.2 != 0)then some true else(bif (decide (yF.1>=mi.len))then some true else((aO mi.l i27).bind fun ap7=>(bif ap7 then((aO mi.l yF.1).bind fun Q0=>some (!Q0))else some false)))):Option (Bool)).bind fun ap8=>(bif ap8 then some (.out (.ret ()))else some (.next (false,(aL (i53+1))))))))))else some (.out (.go i52)))
def Lj (ab:Model)(ax:(ae Int))(mi:(ae Bool)):(Int)->Option (cH (Int) (bO (Unit) (Unit))):=fun i27=>(bif (decide (i27<ax.len))then((ml ab.aA ab.Tables true i27).bind fun jz=>(((bif jz.2.2 then((aO mi.l i27).bind fun gK=>(bif gK then((aO ax.l i27).bind fun mj=>some (decide (mj<1)))else some false))else some true):Option (Bool)).bind fun ap9=>(bif ap9 then some (.out (.ret ()))else((bW (GS ab mi i27 jz) (true,0):Option (bO (Bool) (Unit))).bind fun Rj=>match Rj with| .go aqa=>(((bif aqa then((aO mi.l i27).bind fun lY=>((aO ax.l i27).bind fun Rk=>some (!(lY==(decide (Rk>=1))))))else some false):Option (Bool)).bind fun Rl=>(bif Rl then some (.out (.ret ()))else some (.next (aL (i27+1)))))| .ret _=>some (.out (.ret ()))))))else some (.out (.go ())))
def uh (g:Int->Option Bool)(m:Model)(t:Int)(aF:ae Int):(Int × Bool)->Option (cH (Int × Bool) Bool):=fun⟨i,v⟩=>bif decide (i<m.aW.len)then(aO m.aW.l i).bind fun h=>bif v&&h.Table==t then(aO aF.l h.dK).bind fun y=>(qf m.aA m.Tables h.bS (.mk [y])).bind fun p=>(g p.1).bind fun w=>some (.next (aL (i+1),w))else some (.next (aL (i+1),v))else some (.out v)
def k6 (m:Model)(l:ae Int)(g:Int->Option Bool)(c:Int):Option Bool:=(ml m.aA m.Tables true c).bind fun t=>(aO l.l c).bind fun y=>bW (uh g m t.1 t.2.1) (0,decide (y>=1))
def GU (m:Model)(l:ae Int)(c:Int):Option Bool:=rI (k6 m l) c
def A1 (m:Model)(l:ae Int):(Int × ae Bool)->Option (cH (Int × ae Bool) (ae Bool)):=fun⟨i,s⟩=>bif decide (i<l.len)then(GU m l i).bind fun w=>(hh 1 s (.mk [w])).bind fun ar=>some (.next (aL (i+1),ar))else some (.out s)
def vf (m:Model)(l:ae Int):Option (ae Bool):=(AX m l).bind fun b=>bif b then bW (A1 m l) (0,.nil)else some .nil
def Lk (ab:Model)(ax:(ae Int)):Option (Bool):=
 ((Dt).bind fun ek=>(bif ek then((((DH ab).bind fun lA=>(bif lA then((yI ab).bind fun Ll=>(bif Ll then((Li ab).bind fun uf=>some (ax.len != uf.len))else some true))else some true)):Option (Bool)).bind fun qb=>(bif qb then some true else((vf ab ax).bind fun mi=>(bif (mi.len != ax.len)then some false else((bW (Lj ab ax mi) 0:Option (bO (Unit) (Unit))).bind fun aqb=>match aqb with| .go _=>some true| .ret _=>some false)))))else some false))
def Lm (ab:(ae Bool))(ax:(ae Bool)):(Int)->Option (cH (Int) (bO (Unit) (Unit))):=fun i8=>(bif (decide (i8<ab.len))then((aO ab.l i8).bind fun fA=>((aO ax.l i8).bind fun k5=>(bif (fA==k5)then some (.next (aL (i8+1)))else some (.out (.ret ())))))else some (.out (.go ())))
def Ln (ab:(ae Bool))(ax:(ae Bool)):Option (Bool):=
 (bif (ab.len != ax.len)then some false else((bW (Lm ab ax) 0:Option (bO (Unit) (Unit))).bind fun qb=>match qb with| .go _=>some true| .ret _=>some false))
def A2 (ab:Int):Option (Bool):=
 some ((ab==0)||(ab==1))
def Rm (ab:(ae Int)):(Int)->Option (cH (Int) (bO (Unit) (Unit))):=fun i7=>(bif (decide (i7<ab.len))then((((aO ab.l i7).bind fun fA=>(bif (decide (fA<1))then some true else((aO ab.l i7).bind fun qa=>some (decide (qa>6))))):Option (Bool)).bind fun AZ=>(bif AZ then some (.out (.ret ()))else some (.next (aL (i7+1)))))else some (.out (.go ())))
def yJ (ab:(ae Int)):Option (Bool):=
 ((bW (Rm ab) 0:Option (bO (Unit) (Unit))).bind fun gX=>match gX with| .go _=>some true| .ret _=>some false)
def GV (ab:(ae Int))(ax:(ae Int)):(Int × Int)->Option (cH (Int × Int) (bO (Int) (Unit))):=fun⟨i17,i18⟩=>(bif (decide (i18<ax.len))then((((aO ax.l i18).bind fun qe=>(bif (decide (qe<0))then some true else((aO ax.l i18).bind fun iR=>some (decide (iR>=ab.len))))):Option (Bool)).bind fun Rn=>(bif Rn then some (.out (.ret ()))else((aO ax.l i18).bind fun qd=>((aO ab.l qd).bind fun DG=>some (.next ((aL (i17*DG)),(aL (i18+1))))))))else some (.out (.go i17)))
def yK (ab:(ae Int))(ax:(ae Int)):Option (Int):=
 (((bif (decide (ax.len>3))then some true else((yJ ab).bind fun dA=>some (!dA))):Option (Bool)).bind fun gI=>(bif gI then some 0 else((bW (GV ab ax) (1,0):Option (bO (Int) (Unit))).bind fun w9=>match w9 with| .go Ro=>some Ro| .ret _=>some 0)))
def GW (ab:Int):Option (Bool):=
 some ((ab==9)||((ab==10)||((ab==13)||(ab==32))))
def GX (ab:ck):(Int)->Option (cH (Int) (Int)):=fun i32=>(((bif (decide (i32<(ab.length:Int)))then((aO ab i32).bind fun GY=>some ((GY.toNat:Int) != 10))else some false):Option (Bool)).bind fun Rp=>(bif Rp then some (.next (aL (i32+1)))else some (.out i32)))
def DI (ab:ck):(Int)->Option (cH (Int) (Int)):=fun i7=>(((bif (decide (i7<(ab.length:Int)))then((aO ab i7).bind fun fA=>((GW (fA.toNat:Int)).bind fun k5=>(bif k5 then some true else((aO ab i7).bind fun ng=>some ((ng.toNat:Int)==35)))))else some false):Option (Bool)).bind fun AH=>(bif AH then((aO ab i7).bind fun AW=>(bif ((AW.toNat:Int)==35)then((bW (GX ab) i7:Option (Int)).bind fun GQ=>some (.next GQ))else some (.next (aL (i7+1)))))else some (.out i7)))
def GZ (ab:ck)(ax:Int):Option (Int):=
 ((bW (DI ab) ax:Option (Int)).bind fun gX=>some gX)
def Lo (ab:(ae ck))(ax:ck):(Int)->Option (cH (Int) (bO (Unit) (Unit))):=fun i7=>(bif (decide (i7<ab.len))then((aO ab.l i7).bind fun hM=>(bif (hM==ax)then some (.out (.ret ()))else some (.next (aL (i7+1)))))else some (.out (.go ())))
def G0 (ab:(ae ck))(ax:ck):Option (Bool):=
 ((bW (Lo ab ax) 0:Option (bO (Unit) (Unit))).bind fun gX=>match gX with| .go _=>some false| .ret _=>some true)
def DJ (ab:Int):Option (Bool):=
 some ((decide (ab>=97))&&(decide (ab<=122)))
def A3 (ab:Int):Option (Bool):=
 some ((decide (ab>=48))&&(decide (ab<=57)))
def Lp  :Option ((ae ck)):=
 some (ae.mk [[115,111,114,116],[114,101,108,97,116,105,111,110],[99,111,117,110,116,101,114],[115,101,116],[114,101,103,105,115,116,101,114],[105,110,118,97,114,105,97,110,116],[111,112,101,114,97,116,105,111,110],[107,101,121],[114,101,102,101,114,101,110,99,101],[116,111],[99,111,117,110,116],[97,99,121,99,108,105,99],[97,108,108],[115,117,109],[105,110],[97,100,100,119,105,110,115],[114,101,109,111,118,101,119,105,110,115],[108,97,115,116],[109,117,108,116,105],[104,105,100,101],[111,114,100,101,114,101,100],[114,101,113,117,105,114,101],[104,111,108,100],[105,110,115,101,114,116],[100,101,108,101,116,101],[97,100,100],[102,114,111,109],[112,117,116],[100,114,111,112],[97,115,115,105,103,110],[102,111,114],[119,104,101,114,101],[97,110,100],[111,114],[110,111,116]])
def Lq  :Option ((ae ck)):=
 some (ae.mk [[61,61],[33,61],[60,61],[62,61],[46,46],[60],[62],[61],[43],[45],[42],[40],[41],[123],[125],[44],[58],[59]])
def G1 (ab:ck)(ax:Int)(bs:(ae ck)):(Int)->Option (cH (Int) (bO (Unit) (Int))):=fun i8=>(bif (decide (i8<bs.len))then((aO bs.l i8).bind fun fA=>(((bif (decide ((aL (ax+(fA.length:Int)))<=(ab.length:Int)))then((qU ab ax (aL (ax+(fA.length:Int)))).bind fun ng=>((aO bs.l i8).bind fun dx=>some (ng==dx)))else some false):Option (Bool)).bind fun rP=>(bif rP then some (.out (.ret (fA.length:Int)))else some (.next (aL (i8+1))))))else some (.out (.go ())))
def G2 (ab:ck)(ax:Int):Option (Int):=
 ((Lq).bind fun bs=>((bW (G1 ab ax bs) 0:Option (bO (Unit) (Int))).bind fun qb=>match qb with| .go _=>some 0| .ret aqc=>some aqc))
def Lr (ab:ck):(Int)->Option (cH (Int) (Int)):=fun i10=>(((bif (decide (i10<(ab.length:Int)))then((aO ab i10).bind fun ng=>((DJ (ng.toNat:Int)).bind fun dx=>(bif dx then some true else((aO ab i10).bind fun A4=>((A3 (A4.toNat:Int)).bind fun w6=>(bif w6 then some true else((aO ab i10).bind fun jX=>some ((jX.toNat:Int)==95))))))))else some false):Option (Bool)).bind fun rP=>(bif rP then some (.next (aL (i10+1)))else some (.out i10)))
def Ls (ab:ck):(Int)->Option (cH (Int) (Int)):=fun i50=>(((bif (decide (i50<(ab.length:Int)))then((aO ab i50).bind fun sY=>((A3 (sY.toNat:Int)).bind fun Re=>some Re))else some false):Option (Bool)).bind fun aqd=>(bif aqd then some (.next (aL (i50+1)))else some (.out i50)))
def DK (ab:ck):(Int)->Option (cH (Int) (Int)):=fun i80=>(((bif (decide (i80<(ab.length:Int)))then((aO ab i80).bind fun GN=>((GW (GN.toNat:Int)).bind fun aqe=>(bif aqe then some false else((aO ab i80).bind fun ui=>(bif ((ui.toNat:Int) != 35)then((aO ab i80).bind fun Ra=>((DJ (Ra.toNat:Int)).bind fun aqf=>(bif aqf then some false else((aO ab i80).bind fun aqg=>((A3 (aqg.toNat:Int)).bind fun Rq=>(bif Rq then some false else((G2 ab i80).bind fun Rk=>some (Rk==0))))))))else some false)))))else some false):Option (Bool)).bind fun aqh=>(bif aqh then some (.next (aL (i80+1)))else some (.out i80)))
def Lt (ab:ck)(ax:Int):Option (Int × Int):=
 ((aO ab ax).bind fun bs=>((DJ (bs.toNat:Int)).bind fun cr=>(bif cr then((bW (Lr ab) ax:Option (Int)).bind fun AU=>((Lp).bind fun gC=>((qU ab ax AU).bind fun mj=>((G0 gC mj).bind fun GY=>(bif GY then some (2,AU)else some (1,AU))))))else((aO ab ax).bind fun w7=>((A3 (w7.toNat:Int)).bind fun AY=>(bif AY then((bW (Ls ab) ax:Option (Int)).bind fun aqi=>some (3,aqi))else((G2 ab ax).bind fun yF=>(bif (decide (yF>0))then some (4,(aL (ax+yF)))else((bW (DK ab) ax:Option (Int)).bind fun aqj=>some (5,aqj))))))))))
def A5 (ab:ck):(Int × (ae Token))->Option (cH (Int × (ae Token)) (Int × (ae Token))):=fun⟨i12,i13⟩=>((GZ ab i12).bind fun w6=>(bif (decide (w6<(ab.length:Int)))then((GZ ab i12).bind fun jX=>((Lt ab jX).bind fun AW=>((hh 32 i13 (ae.mk [(Token.mk AW.1 i12 jX AW.2)])).bind fun aqk=>some (.next (AW.2,aqk)))))else some (.out (i12,i13))))
def Rr (ab:ck):Option ((ae Token) × Int):=
 (bif (decide ((ab.length:Int)>4096))then some (ae.nil,8)else((bW (A5 ab) (0,.emp):Option (Int × (ae Token))).bind fun ue=>match ue with|⟨Ro,aql⟩=>((hh 32 aql (ae.mk [(Token.mk 0 Ro (ab.length:Int) (ab.length:Int))])).bind fun aqm=>some (aqm,0))))
def Lu (ab:ck):Option (Int):=
 ((Rr ab).bind fun bs=>(((bif (bs.2 != 0)then some true else(bif (bs.1.len != 2)then some true else((aO bs.1.l 0).bind fun ek=>(bif (ek.At != 0)then some true else((aO bs.1.l 0).bind fun qc=>some (qc.End != (ab.length:Int))))))):Option (Bool)).bind fun Qx=>(bif Qx then some 0 else((aO bs.1.l 0).bind fun fA=>some fA.Kind))))
def nH (ab:ck):Option (Bool):=
 ((((Lu ab).bind fun cr=>(bif (cr==1)then some (decide ((ab.length:Int)<=16))else some false)):Option (Bool)).bind fun gI=>some gI)
def G3 (ax:(ae Table))(i21:Int)(iR:Table):(Int)->Option (cH (Int) (bO (Unit) (Unit))):=fun i40=>(bif (decide (i40<i21))then((aO ax.l i40).bind fun Gm=>(bif (Gm.Name==iR.Name)then some (.out (.ret ()))else some (.next (aL (i40+1)))))else some (.out (.go ())))
def DL (ab:(ae Int))(ax:(ae Table)):(Int × Int × Int)->Option (cH (Int × Int × Int) (bO (Int × Int) (Unit))):=fun⟨i19,i20,i21⟩=>(bif (decide (i21<ax.len))then((aO ax.l i21).bind fun iR=>((bW (G3 ax i21 iR) 0:Option (bO (Unit) (Unit))).bind fun Q2=>match Q2 with| .go _=>((yK ab iR.aZ).bind fun sY=>((((nH iR.Name).bind fun yH=>(bif yH then(bif (decide (iR.Kind<0))then some true else(bif (decide (iR.Kind>5))then some true else some (sY==0)))else some true)):Option (Bool)).bind fun aqn=>(bif aqn then some (.out (.ret ()))else(bif ((decide (iR.Range.fq>iR.Range.fr))||((decide (iR.Range.fq<(-9999)))||(decide (iR.Range.fr>9999))))then some (.out (.ret ()))else(bif (bif (iR.Kind==0)then((iR.Range.fq != 0)||(iR.Range.fr != 1))else(bif (iR.Kind==2)then((iR.Range.fq != 0)||(iR.Range.fr != 1))else((iR.Kind==3)&&((iR.Range.fq != 0)||(iR.Range.fr != 1)))))then some (.out (.ret ()))else((A2 iR.Kind).bind fun aqo=>(bif aqo then(bif (iR.cz != i19)then some (.out (.ret ()))else some (.next ((aL (i19+sY)),i20,(aL (i21+1)))))else(bif (iR.cz != i20)then some (.out (.ret ()))else some (.next (i19,(aL (i20+sY)),(aL (i21+1))))))))))))| .ret _=>some (.out (.ret ()))))else some (.out (.go (i19,i20))))
def A6 (ab:(ae Int))(ax:(ae Table)):Option (Bool):=
 (((bif (decide (ab.len>4))then some true else((yJ ab).bind fun dA=>(bif dA then some (decide (ax.len>12))else some true))):Option (Bool)).bind fun gI=>(bif gI then some false else((bW (DL ab ax) (0,0,0):Option (bO (Int × Int) (Unit))).bind fun GG=>match GG with| .go (⟨aqp,aqq⟩)=>some ((decide (aqp<=128))&&(decide (aqq<=64)))| .ret _=>some false)))
def G4 (ab:(ae ck)):(Int)->Option (cH (Int) (bO (Unit) (Unit))):=fun i7=>(bif (decide (i7<ab.len))then((((aO ab.l i7).bind fun fA=>((nH fA).bind fun k5=>(bif k5 then((k3 ab 0 i7).bind fun aqr=>((aO ab.l i7).bind fun dx=>((G0 aqr dx).bind fun mi=>some mi)))else some true))):Option (Bool)).bind fun AZ=>(bif AZ then some (.out (.ret ()))else some (.next (aL (i7+1)))))else some (.out (.go ())))
def G5 (ab:(ae ck)):Option (Bool):=
 ((bW (G4 ab) 0:Option (bO (Unit) (Unit))).bind fun gX=>match gX with| .go _=>some true| .ret _=>some false)
def A7 (ab:(ae Int))(ax:(ae Table))(eW:Bool)(i13:Int):(Int × (ae Range))->Option (cH (Int × (ae Range)) ((ae Range))):=fun⟨i33,i34⟩=>((((aO ax.l i13).bind fun Rs=>((A2 Rs.Kind).bind fun Rt=>(bif (Rt==eW)then((aO ax.l i13).bind fun Gm=>((yK ab Gm.aZ).bind fun QV=>some (decide (i33<QV))))else some false))):Option (Bool)).bind fun aqs=>(bif aqs then((aO ax.l i13).bind fun A8=>((hh 16 i34 (ae.mk [A8.Range])).bind fun aqt=>some (.next ((aL (i33+1)),aqt))))else some (.out i34)))
def Lv (ab:(ae Int))(ax:(ae Table))(eW:Bool):(Int × (ae Range))->Option (cH (Int × (ae Range)) ((ae Range))):=fun⟨i13,i14⟩=>(bif (decide (i13<ax.len))then((bW (A7 ab ax eW i13) (0,i14):Option ((ae Range))).bind fun aqu=>some (.next ((aL (i13+1)),aqu)))else some (.out i14))
def Lw (ab:(ae Int))(ax:(ae Table))(eW:Bool):Option ((ae Range)):=
 ((A6 ab ax).bind fun bs=>(bif bs then((bW (Lv ab ax eW) (0,.emp):Option ((ae Range))).bind fun AH=>some AH)else some ae.emp))
def A9 (ab:Model):Option ((ae Range)):=
 ((Lw ab.aA ab.Tables true).bind fun ek=>some ek)
def aqv (ab:(ae Term))(ax:(ae Term)):(Int)->Option (cH (Int) (bO (Unit) (Unit))):=fun i8=>(bif (decide (i8<ab.len))then((aO ab.l i8).bind fun fA=>((aO ax.l i8).bind fun k5=>(bif ((fA.Cell==k5.Cell)&&((fA.hJ==k5.hJ)&&true))then some (.next (aL (i8+1)))else some (.out (.ret ())))))else some (.out (.go ())))
def Ru (ab:(ae Term))(ax:(ae Term)):Option (Bool):=
 (bif (ab.len != ax.len)then some false else((bW (aqv ab ax) 0:Option (bO (Unit) (Unit))).bind fun qb=>match qb with| .go _=>some true| .ret _=>some false))
def G6 (ab:Row)(ax:Row):Option (Bool):=
 (((bif (ab.nF==ax.nF)then((Ru ab.da ax.da).bind fun w8=>some w8)else some false):Option (Bool)).bind fun AU=>some AU)
def xa (ab:Int)(ax:Int):Option (Bool):=
 some ((decide (ab>=(aL (0-ax))))&&(decide (ab<=ax)))
def G7 (ab:Row)(ax:Int):(Int)->Option (cH (Int) (bO (Unit) (Unit))):=fun i11=>(bif (decide (i11<ab.da.len))then((aO ab.da.l i11).bind fun ng=>(((bif (decide (ng.Cell<0))then some true else(bif (decide (ng.Cell>=ax))then some true else(bif (decide (i11>0))then((aO ab.da.l (aL (i11-1))).bind fun nG=>(bif (decide (nG.Cell>=ng.Cell))then some true else(bif (ng.hJ==0)then some true else((xa ng.hJ 1000).bind fun Ba=>some (!Ba)))))else(bif (ng.hJ==0)then some true else((xa ng.hJ 1000).bind fun jz=>some (!jz)))))):Option (Bool)).bind fun Rn=>(bif Rn then some (.out (.ret ()))else some (.next (aL (i11+1))))))else some (.out (.go ())))
def G8 (ab:Row)(ax:Int):Option (Bool):=
 ((bW (G7 ab ax) 0:Option (bO (Unit) (Unit))).bind fun aqw=>match aqw with| .go _=>((xa ab.nF 1000000000).bind fun AQ=>some AQ)| .ret _=>some false)
def Lx (ab:Model)(ax:Constraint):(Int)->Option (cH (Int) (bO (Unit) (Unit))):=fun i20=>(bif (decide (i20<ab.Tables.len))then((aO ab.Tables.l i20).bind fun mm=>(((bif (mm.Kind==0)then(bif (mm.aZ.len==2)then((aO mm.aZ.l 0).bind fun gK=>((aO mm.aZ.l 1).bind fun gC=>(bif (gK==gC)then(bif (mm.cz==ax.cz)then((aO mm.aZ.l 0).bind fun aqx=>((aO ab.aA.l aqx).bind fun w7=>some (w7==ax.rK)))else some false)else some false)))else some false)else some false):Option (Bool)).bind fun QY=>(bif QY then some (.out (.ret ()))else some (.next (aL (i20+1))))))else some (.out (.go ())))
def Ly (ab:Model)(ax:Constraint):Option (Bool):=
 (bif ((decide (ax.Row.da.len>0))||(ax.Row.nF != 0))then some false else((bW (Lx ab ax) 0:Option (bO (Unit) (Unit))).bind fun aqy=>match aqy with| .go _=>some false| .ret _=>some true))
def G9 (ab:Model)(ek:(ae Range)):(Int)->Option (cH (Int) (bO (Unit) (Unit))):=fun i17=>(bif (decide (i17<ek.len))then((aO ek.l i17).bind fun jX=>((aO ek.l i17).bind fun lX=>((((aO ab.di.l (aL (2*i17))).bind fun mj=>((G6 mj.Row (Row.mk (ae.mk [(Term.mk i17 (-1))]) (aL (0-jX.fq)))).bind fun GY=>(bif GY then((aO ab.di.l (aL ((aL (2*i17))+1))).bind fun w7=>((G6 w7.Row (Row.mk (ae.mk [(Term.mk i17 1)]) lX.fr)).bind fun AY=>some (!AY)))else some true))):Option (Bool)).bind fun Rp=>(bif Rp then some (.out (.ret ()))else some (.next (aL (i17+1)))))))else some (.out (.go ())))
def Ha (ab:Model)(ek:(ae Range)):(Int)->Option (cH (Int) (bO (Unit) (Unit))):=fun i64=>(bif (decide (i64<ab.di.len))then((aO ab.di.l i64).bind fun ug=>(bif ((decide (ug.og<0))||(decide (ug.og>=ab.eg.len)))then some (.out (.ret ()))else(((bif (ug.Kind==0)then(bif (ug.cz==0)then(bif (ug.rK==0)then((G8 ug.Row ek.len).bind fun aqz=>some aqz)else some false)else some false)else some false):Option (Bool)).bind fun aqA=>(((bif aqA then some false else(bif (decide (i64>=(aL (2*ek.len))))then(bif (ug.Kind==1)then((Ly ab ug).bind fun Rq=>some (!Rq))else some true)else some true)):Option (Bool)).bind fun aqB=>(bif aqB then some (.out (.ret ()))else some (.next (aL (i64+1))))))))else some (.out (.go ())))
def Lz (ab:Model):Option (Bool):=
 ((A9 ab).bind fun ek=>(bif ((decide (ab.di.len<(aL (2*ek.len))))||(decide (ab.di.len>512)))then some false else((bW (G9 ab ek) 0:Option (bO (Unit) (Unit))).bind fun w9=>match w9 with| .go _=>((bW (Ha ab ek) 0:Option (bO (Unit) (Unit))).bind fun aqC=>match aqC with| .go _=>some true| .ret _=>some false)| .ret _=>some false)))
def Hb (ab:(ae Int))(ax:(ae Int)):(Int)->Option (cH (Int) (bO (Unit) (Bool))):=fun i7=>(bif ((decide (i7<ab.len))&&(decide (i7<ax.len)))then((aO ab.l i7).bind fun ng=>((aO ax.l i7).bind fun dx=>(bif (ng != dx)then((aO ab.l i7).bind fun A4=>((aO ax.l i7).bind fun w6=>some (.out (.ret (decide (A4<w6))))))else some (.next (aL (i7+1))))))else some (.out (.go ())))
def Hd (ab:(ae Int))(ax:(ae Int)):Option (Bool):=
 ((bW (Hb ab ax) 0:Option (bO (Unit) (Bool))).bind fun gX=>match gX with| .go _=>some (decide (ab.len<ax.len))| .ret aqD=>some aqD)
def Rv (ab:(ae Int))(ax:(ae Int)):(Int × Int × (ae Int))->Option (cH (Int × Int × (ae Int)) ((ae Int))):=fun⟨i19,i20,i21⟩=>(bif (decide (i20>=0))then((aO ax.l i20).bind fun lX=>((aO ab.l lX).bind fun Ba=>((Dk i19 Ba).bind fun Gq=>((aO i21.l i20).bind fun jz=>((aO i21.l i20).bind fun gC=>((aO ax.l i20).bind fun AY=>((aO ab.l AY).bind fun Rs=>((Dj i19 Rs).bind fun Rt=>some (.next (Rt,(aL (i20-1)),(p8 i21 i20 Gq)))))))))))else some (.out i21))
def He (ab:(ae Int))(ax:(ae Int))(eW:Int):Option ((ae Int)):=
 ((yu 8 0 ax.len).bind fun s1=>((bW (Rv ab ax) (eW,(aL (ax.len-1)),s1):Option ((ae Int))).bind fun GG=>some GG))
def Hf (ab:(ae Int))(ax:(ae Table))(eW:Bool)(gP:Int):(Int)->Option (cH (Int) (bO (Unit) (Int × (ae Int)))):=fun i9=>(bif (decide (i9<ax.len))then((aO ax.l i9).bind fun k5=>((((aO ax.l i9).bind fun ng=>((A2 ng.Kind).bind fun dx=>(bif (dx==eW)then(bif (decide (gP>=0))then(bif (decide ((aL (gP-k5.cz))>=0))then((aO ax.l i9).bind fun iS=>((yK ab iS.aZ).bind fun jX=>some (decide ((aL (gP-k5.cz))<jX))))else some false)else some false)else some false))):Option (Bool)).bind fun w9=>(bif w9 then((aO ax.l i9).bind fun lX=>((He ab lX.aZ (aL (gP-k5.cz))).bind fun Ba=>some (.out (.ret (i9,Ba)))))else some (.next (aL (i9+1))))))else some (.out (.go ())))
def Bb (ab:(ae Int))(ax:(ae Table))(eW:Bool)(gP:Int):Option (Int × (ae Int) × Bool):=
 ((A6 ab ax).bind fun bs=>(bif bs then((bW (Hf ab ax eW gP) 0:Option (bO (Unit) (Int × (ae Int)))).bind fun aqE=>match aqE with| .go _=>some (0,ae.nil,false)| .ret (⟨aqF,aqG⟩)=>some (aqF,aqG,true))else some (0,ae.nil,false)))
def LA (ab:Int):Option (Bool):=
 some ((ab==2)||(ab==3))
def Hg (ax:dV)(nd:(ae Range)):(Int)->Option (cH (Int) (bO (Unit) (Unit))):=fun i16=>(bif (decide (i16<ax.Delta.len))then((aO ax.Delta.l i16).bind fun iS=>(((bif (decide (iS.Cell<0))then some true else(bif (decide (iS.Cell>=nd.len))then some true else(bif (decide (i16>0))then((aO ax.Delta.l (aL (i16-1))).bind fun jz=>(bif (decide (jz.Cell>=iS.Cell))then some true else(bif (iS.Add==0)then some true else((xa iS.Add 1000000000).bind fun gK=>some (!gK)))))else(bif (iS.Add==0)then some true else((xa iS.Add 1000000000).bind fun mj=>some (!mj)))))):Option (Bool)).bind fun Gw=>(bif Gw then some (.out (.ret ()))else some (.next (aL (i16+1))))))else some (.out (.go ())))
def LB (ax:dV)(nd:(ae Range)):(Int)->Option (cH (Int) (bO (Unit) (Unit))):=fun i60=>(bif (decide (i60<ax.fX.len))then((aO ax.fX.l i60).bind fun aqH=>((G8 aqH nd.len).bind fun aqI=>(bif aqI then some (.next (aL (i60+1)))else some (.out (.ret ())))))else some (.out (.go ())))
def Hh (ab:Model)(ax:dV):(Int)->Option (cH (Int) (bO (Unit) (Unit))):=fun i84=>(bif (decide (i84<ax.e4.len))then((aO ax.e4.l i84).bind fun ui=>((Bb ab.aA ab.Tables false ui.Cell).bind fun lY=>(((bif lY.2.2 then(bif (decide (i84>0))then((aO ax.e4.l (aL (i84-1))).bind fun GO=>some (decide (GO.Cell>=ui.Cell)))else some false)else some true):Option (Bool)).bind fun aqJ=>(bif aqJ then some (.out (.ret ()))else((aO ab.Tables.l lY.1).bind fun LC=>((((LA LC.Kind).bind fun aqK=>(bif aqK then(bif (ui.Kind != 0)then(bif (ui.Kind != 1)then some true else some (ui.Value != 0))else some (ui.Value != 0))else some false)):Option (Bool)).bind fun aqL=>(bif aqL then some (.out (.ret ()))else((((LA LC.Kind).bind fun Rw=>(bif Rw then some false else(bif (ui.Kind != 2)then some true else(bif (decide (ui.Value<LC.Range.fq))then some true else some (decide (ui.Value>LC.Range.fr)))))):Option (Bool)).bind fun aqM=>(bif aqM then some (.out (.ret ()))else some (.next (aL (i84+1))))))))))))else some (.out (.go ())))
def LD (ab:Model)(ax:dV):Option (Bool):=
 ((A9 ab).bind fun nd=>((bW (Hg ax nd) 0:Option (bO (Unit) (Unit))).bind fun rP=>match rP with| .go _=>((bW (LB ax nd) 0:Option (bO (Unit) (Unit))).bind fun aqN=>match aqN with| .go _=>((bW (Hh ab ax) 0:Option (bO (Unit) (Unit))).bind fun aqO=>match aqO with| .go _=>some ((decide (ax.fX.len<=8))&&(decide (ax.e4.len<=32)))| .ret _=>some false)| .ret _=>some false)| .ret _=>some false))
def LF (ab:Model)(qe:c0):(Int)->Option (cH (Int) (bO (Unit) (Unit))):=fun i45=>(bif (decide (i45<qe.aA.len))then((((aO qe.aA.l i45).bind fun Rb=>(bif (decide (Rb<(-1)))then some true else((aO qe.aA.l i45).bind fun A8=>some (decide (A8>=ab.aA.len))))):Option (Bool)).bind fun Rj=>(bif Rj then some (.out (.ret ()))else some (.next (aL (i45+1)))))else some (.out (.go ())))
def Hi (ab:Model):(Int × (ae ck))->Option (cH (Int × (ae ck)) (bO ((ae ck)) (Unit))):=fun⟨i15,i16⟩=>(bif (decide (i15<ab.Operations.len))then((aO ab.Operations.l i15).bind fun qe=>((hh 16 i16 (ae.mk [qe.Name])).bind fun Q1=>((bW (LF ab qe) 0:Option (bO (Unit) (Unit))).bind fun aqP=>match aqP with| .go _=>(bif (decide (qe.aA.len>3))then some (.out (.ret ()))else some (.next ((aL (i15+1)),Q1)))| .ret _=>some (.out (.ret ())))))else some (.out (.go i16)))
def LG (ab:Model)(nf:Action):(Int)->Option (cH (Int) (bO (Unit) (Unit))):=fun i140=>(bif (decide (i140<nf.dQ.len))then((aO ab.Operations.l nf.c0).bind fun aqQ=>((aO aqQ.aA.l i140).bind fun Hj=>(((bif (decide (Hj<0))then((aO nf.dQ.l i140).bind fun aqR=>((xa aqR 9999).bind fun aqS=>(bif aqS then(bif (decide (Hj>=0))then((aO nf.dQ.l i140).bind fun aqT=>(bif (decide (aqT<0))then some true else((aO nf.dQ.l i140).bind fun aqU=>((aO ab.aA.l Hj).bind fun aqV=>some (decide (aqU>=aqV))))))else some false)else some true)))else(bif (decide (Hj>=0))then((aO nf.dQ.l i140).bind fun aqW=>(bif (decide (aqW<0))then some true else((aO nf.dQ.l i140).bind fun aqX=>((aO ab.aA.l Hj).bind fun aqY=>some (decide (aqX>=aqY))))))else some false)):Option (Bool)).bind fun aqZ=>(bif aqZ then some (.out (.ret ()))else some (.next (aL (i140+1)))))))else some (.out (.go ())))
def Hk (ab:Model):(Int)->Option (cH (Int) (bO (Unit) (Unit))):=fun i111=>(bif (decide (i111<ab.Actions.len))then((aO ab.Actions.l i111).bind fun nf=>(((bif (decide (nf.c0<0))then some true else(bif (decide (nf.c0>=ab.Operations.len))then some true else((aO ab.Operations.l nf.c0).bind fun Rw=>some (nf.dQ.len != Rw.aA.len)))):Option (Bool)).bind fun aq0=>(bif aq0 then some (.out (.ret ()))else((bW (LG ab nf) 0:Option (bO (Unit) (Unit))).bind fun aq1=>match aq1 with| .go _=>(((bif (decide (i111>0))then((aO ab.Actions.l (aL (i111-1))).bind fun Bc=>(((bif (decide (Bc.c0>nf.c0))then some true else(bif (Bc.c0==nf.c0)then((Hd Bc.dQ nf.dQ).bind fun Rx=>some (!Rx))else some false)):Option (Bool)).bind fun Ry=>(bif Ry then some (.ret ())else some (.go ()))))else some (.go ())):Option (bO (Unit) (Unit))).bind fun aq2=>match aq2 with| .go _=>((LD ab nf.dV).bind fun aq3=>(bif aq3 then some (.next (aL (i111+1)))else some (.out (.ret ()))))| .ret _=>some (.out (.ret ())))| .ret _=>some (.out (.ret ()))))))else some (.out (.go ())))
def LH (ab:Model):Option (Bool):=
 ((bW (Hi ab) (0,.emp):Option (bO ((ae ck)) (Unit))).bind fun Q3=>match Q3 with| .go aq4=>(((bif (decide (ab.Operations.len>8))then some true else((G5 aq4).bind fun lY=>(bif lY then some (decide (ab.Actions.len>256))else some true))):Option (Bool)).bind fun Rl=>(bif Rl then some false else((bW (Hk ab) 0:Option (bO (Unit) (Unit))).bind fun aq5=>match aq5 with| .go _=>some true| .ret _=>some false)))| .ret _=>some false)
def qW (ab:Model)(ax:Int)(eW:Int)(gP:Int)(Bd:Model->Int->Int->Int->Option (Bool)):(Int)->Option (cH (Int) (bO (Unit) (Unit))):=fun i12=>(bif ((decide (i12<ab.aW.len))&&(decide (gP>0)))then((((aO ab.aW.l i12).bind fun jX=>(bif (jX.Table==ax)then((aO ab.aW.l i12).bind fun qe=>((Bd ab qe.bS eW (aL (gP-1))).bind fun mm=>some mm))else some false)):Option (Bool)).bind fun Rh=>(bif Rh then some (.out (.ret ()))else some (.next (aL (i12+1)))))else some (.out (.go ())))
def rQ (Bd:Model->Int->Int->Int->Option (Bool))(ab:Model)(ax:Int)(eW:Int)(gP:Int):Option (Bool):=
 (bif (ax==eW)then some true else((bW (qW ab ax eW gP Bd) 0:Option (bO (Unit) (Unit))).bind fun ue=>match ue with| .go _=>some false| .ret _=>some true))
def LI (ab:Model)(ax:Int)(eW:Int)(gP:Int):Option (Bool):=rI (A:=Model × Int × Int × Int) (fun g p=>rQ (fun cb bs cr dA=>g (cb,bs,cr,dA)) p.1 p.2.1 p.2.2.1 p.2.2.2) (ab,ax,eW,gP)
def LJ (ab:Model):(Int)->Option (cH (Int) (bO (Unit) (Unit))):=fun i12=>(bif (decide (i12<ab.aW.len))then((aO ab.aW.l i12).bind fun dx=>(bif ((decide (dx.Table<0))||((decide (dx.Table>=ab.Tables.len))||((decide (dx.bS<0))||((decide (dx.bS>=ab.Tables.len))||(dx.Table==dx.bS)))))then some (.out (.ret ()))else((aO ab.Tables.l dx.Table).bind fun jz=>((aO ab.Tables.l dx.bS).bind fun qd=>(((bif (jz.Kind != 0)then some true else(bif (qd.Kind != 0)then some true else(bif (decide (dx.dK<0))then some true else(bif (decide (dx.dK>=jz.aZ.len))then some true else(bif (qd.aZ.len != 1)then some true else((aO qd.aZ.l 0).bind fun sW=>((aO jz.aZ.l dx.dK).bind fun A8=>some (sW != A8)))))))):Option (Bool)).bind fun aq6=>(bif aq6 then some (.out (.ret ()))else some (.next (aL (i12+1)))))))))else some (.out (.go ())))
def LK (ab:Model):(Int)->Option (cH (Int) (bO (Unit) (Unit))):=fun i76=>(bif (decide (i76<ab.aW.len))then((aO ab.aW.l i76).bind fun aq7=>((aO ab.aW.l i76).bind fun aq8=>((LI ab aq7.bS aq8.Table ab.Tables.len).bind fun aq9=>(bif aq9 then some (.out (.ret ()))else some (.next (aL (i76+1)))))))else some (.out (.go ())))
def LL (ab:Model):Option (Bool):=
 (bif (decide (ab.aW.len>12))then some false else((bW (LJ ab) 0:Option (bO (Unit) (Unit))).bind fun ue=>match ue with| .go _=>((bW (LK ab) 0:Option (bO (Unit) (Unit))).bind fun Rg=>match Rg with| .go _=>some true| .ret _=>some false)| .ret _=>some false))
def DM (ab:Model):Option (Bool):=
 ((((A6 ab.aA ab.Tables).bind fun nb=>(bif nb then(bif (decide (ab.eg.len>24))then some true else((G5 ab.eg).bind fun nd=>some (!nd)))else some true)):Option (Bool)).bind fun oi=>(bif oi then some false else((((Lz ab).bind fun ng=>(bif ng then((LH ab).bind fun mi=>(bif mi then((LL ab).bind fun w6=>some w6)else some false))else some false)):Option (Bool)).bind fun w9=>some w9)))
def Rz (ab:Model):Option ((ae Range)):=
 ((DM ab).bind fun ek=>(bif ek then((A9 ab).bind fun qc=>some qc)else some ae.nil))
def LM (ab:Model)(ax:(ae Int)):Option (Bool):=
 ((((DM ab).bind fun nb=>(bif nb then((Rz ab).bind fun lA=>some (ax.len==lA.len))else some false)):Option (Bool)).bind fun oi=>some oi)
def RA (ab:(ae Int))(ax:(ae Int)):(Int)->Option (cH (Int) (bO (Unit) (Unit))):=fun i8=>(bif (decide (i8<ab.len))then((aO ab.l i8).bind fun fA=>((aO ax.l i8).bind fun k5=>(bif (fA != k5)then some (.out (.ret ()))else some (.next (aL (i8+1))))))else some (.out (.go ())))
def Hl (ab:(ae Int))(ax:(ae Int)):Option (Bool):=
 (bif (ab.len != ax.len)then some false else((bW (RA ab ax) 0:Option (bO (Unit) (Unit))).bind fun qb=>match qb with| .go _=>some true| .ret _=>some false))
def acU (ab:(ae (ae Int)))(ax:(ae Int)):(Int)->Option (cH (Int) (bO (Unit) (Int))):=fun i7=>(bif (decide (i7<ab.len))then((aO ab.l i7).bind fun hM=>((Hl hM ax).bind fun fA=>(bif fA then some (.out (.ret i7))else some (.next (aL (i7+1))))))else some (.out (.go ())))
def LN (ab:(ae (ae Int)))(ax:(ae Int)):Option (Int):=
 ((bW (acU ab ax) 0:Option (bO (Unit) (Int))).bind fun gX=>match gX with| .go _=>some (-1)| .ret uc=>some uc)
def Hm (ab:(ae Int))(ax:(ae Table))(eW:Int)(gP:(ae Int)):Option (Int × Int):=
 ((A6 ab ax).bind fun bs=>(bif bs then(bif ((decide (eW<0))||(decide (eW>=ax.len)))then some (0,7)else((aO ax.l eW).bind fun lA=>((Du ab lA.aZ).bind fun nd=>((LN nd gP).bind fun Ll=>(bif (decide (Ll<0))then some (0,2)else((aO ax.l eW).bind fun uf=>some ((aL (uf.cz+Ll)),0)))))))else some (0,1)))
def DN (ab:Model)(ax:(ae Int))(Bd:Model->(ae Int)->Int->Option (Bool))(qc:Int × (ae Int) × Bool):(Int)->Option (cH (Int) (bO (Unit) (Unit))):=fun i14=>(bif (decide (i14<ab.aW.len))then((aO ab.aW.l i14).bind fun A4=>(bif (A4.Table != qc.1)then some (.next (aL (i14+1)))else((aO qc.2.1.l A4.dK).bind fun nG=>((Hm ab.aA ab.Tables A4.bS (ae.mk [nG])).bind fun ara=>((Bd ab ax ara.1).bind fun lX=>(bif lX then some (.next (aL (i14+1)))else some (.out (.ret ()))))))))else some (.out (.go ())))
def yL (Bd:Model->(ae Int)->Int->Option (Bool))(ab:Model)(ax:(ae Int))(eW:Int):Option (Bool):=
 ((aO ax.l eW).bind fun ek=>(bif (decide (ek<1))then some false else((Bb ab.aA ab.Tables true eW).bind fun qc=>((bW (DN ab ax Bd qc) 0:Option (bO (Unit) (Unit))).bind fun AZ=>match AZ with| .go _=>some true| .ret _=>some false))))
def RB (ab:Model)(ax:(ae Int))(eW:Int):Option (Bool):=rI (A:=Model × (ae Int) × Int) (fun g p=>yL (fun cb bs cr=>g (cb,bs,cr)) p.1 p.2.1 p.2.2) (ab,ax,eW)
def Hn (ab:Model)(ax:(ae Int)):(Int × (ae Bool))->Option (cH (Int × (ae Bool)) ((ae Bool))):=fun⟨i17,i18⟩=>(bif (decide (i17<ax.len))then((RB ab ax i17).bind fun iR=>((hh 1 i18 (ae.mk [iR])).bind fun arb=>some (.next ((aL (i17+1)),arb))))else some (.out i18))
def DP (ab:Model)(ax:(ae Int)):Option ((ae Bool)):=
 ((LM ab ax).bind fun ek=>(bif ek then((bW (Hn ab ax) (0,.emp):Option ((ae Bool))).bind fun w9=>some w9)else some ae.emp))
def LO (ab:Model)(ax:(ae Int)):Option (Bool):=
 ((Dt).bind fun ek=>(bif ek then((((DH ab).bind fun lA=>(bif lA then(bif (decide (ax.len>128))then some true else((vf ab ax).bind fun w8=>((DP ab ax).bind fun uf=>((Ln w8 uf).bind fun hM=>some hM))))else some true)):Option (Bool)).bind fun qb=>some qb)else some false))
end
end Go.Abs.bA
