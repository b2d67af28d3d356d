/- Texts of this claim, joined and written short by a program. -/
import Derived.Test.YtjgngmpmjbkbpaaGreatDoorP26
import Derived.Test.YtjgngmpmjbkbpaaGreatDoorP00
set_option linter.unusedVariables false
set_option linter.unusedSimpArgs false
set_option linter.unusedSectionVars false
set_option maxHeartbeats 2000000
namespace Go.Abs.U
open Go Go.Abs
noncomputable section
def ah5 (ab : (ak fN)) (aB : (fN -> Option Bool)) : (Int) -> Option (cM (Int) (bK (Unit) (Int))) := fun i7 => (bif (decide (i7 < ab.len)) then ((aR ab.l i7).bind fun hG => ((aB hG).bind fun fD => (bif fD then some (.out (.ret i7)) else some (.next (aQ (i7 + 1)))))) else some (.out (.go ())))
def Vy (ab : (ak fN)) (aB : (fN -> Option Bool)) : Option (Int) :=
 ((bU (ah5 ab aB) 0 : Option (bK (Unit) (Int))).bind fun gA => match gA with | .go _ => some (-1) | .ret uI => some uI)
def DX (ab : (ak fN)) (aB : (fN -> Option Bool)) : Option (Bool) :=
 ((Vy ab aB).bind fun bu => some (decide (bu >= 0)))
def yt (ab : Int) : Option (Bool) :=
 some ((decide (ab >= 97)) && (decide (ab <= 122)))
def yu (ab : Int) : Option (Bool) :=
 some ((decide (ab >= 48)) && (decide (ab <= 57)))
def Nk (ab : bQ) (aB : bQ) : Option (Bool) :=
 (((bif (decide ((ab.length : Int) >= (aB.length : Int))) then ((oH ab 0 (aB.length : Int)).bind fun dd => some (dd == aB)) else some false) : Option (Bool)).bind fun gU => some gU)
def H6 (ab : bQ) (aB : bQ) : Option (Bool) :=
 ((Nk ab aB).bind fun bu => some bu)
def DY (ab : bQ) : (Int) -> Option (cM (Int) (bK (Unit) (Unit))) := fun i7 => (bif (decide (i7 < (ak.mk [[61, 61], [33, 61], [60, 61], [62, 61], [46, 46]]).len)) then ((aR (ak.mk [[61, 61], [33, 61], [60, 61], [62, 61], [46, 46]]).l i7).bind fun hG => ((H6 ab hG).bind fun fD => (bif fD then some (.out (.ret ())) else some (.next (aQ (i7 + 1)))))) else some (.out (.go ())))
def AK (ab : bQ) : Option (Int) :=
 ((bU (DY ab) 0 : Option (bK (Unit) (Unit))).bind fun gA => match gA with | .go _ => (((bif (ab != []) then ((aR ab 0).bind fun il => ((strings_IndexByte [60, 62, 61, 43, 45, 42, 40, 41, 123, 125, 44, 58, 59] (il.toNat : Int)).bind fun nh => some (decide (nh >= 0)))) else some false) : Option (Bool)).bind fun uH => (bif uH then some 1 else some 0)) | .ret _ => some 2)
def DZ (ab : bQ) : Option (Bool) :=
 ((((aR ab 0).bind fun cq => ((yt (cq.toNat : Int)).bind fun dd => (bif dd then some true else ((aR ab 0).bind fun eM => ((yu (eM.toNat : Int)).bind fun nV => (bif nV then some true else ((AK ab).bind fun yh => some (decide (yh > 0))))))))) : Option (Bool)).bind fun gU => some gU)
def D0 (ab : bQ) (aB : (Int -> Option Bool)) : (Int) -> Option (cM (Int) (Int)) := fun i7 => (((bif (decide (i7 < (ab.length : Int))) then ((aR ab i7).bind fun fD => ((aB (fD.toNat : Int)).bind fun lG => some lG)) else some false) : Option (Bool)).bind fun yf => (bif yf then some (.next (aQ (i7 + 1))) else some (.out i7)))
def AL (ab : bQ) (aB : (Int -> Option Bool)) : Option (Int) :=
 ((bU (D0 ab aB) 0 : Option (Int)).bind fun gA => some gA)
def AM (ab : Int) : Option (Bool) :=
 some ((ab == 32) || ((ab == 9) || ((ab == 10) || (ab == 13))))
def AO (ab : Int) : Option (Bool) :=
 some (ab != 10)
def AP (ab : bQ) : (Int) -> Option (cM (Int) (bK (Int) (Int))) := fun i7 => (bif (decide (i7 < (ab.length : Int))) then ((aR ab i7).bind fun hG => ((AM (hG.toNat : Int)).bind fun fD => (bif fD then some (.next (aQ (i7 + 1))) else ((aR ab i7).bind fun nT => (bif ((nT.toNat : Int) == 35) then ((oH ab i7 (ab.length : Int)).bind fun da => ((AL da AO).bind fun uK => some (.next (aQ (i7 + uK))))) else some (.out (.ret i7))))))) else some (.out (.go i7)))
def D1 (ab : bQ) : Option (Int) :=
 ((bU (AP ab) 0 : Option (bK (Int) (Int))).bind fun gA => match gA with | .go ah6 => some ah6 | .ret ah7 => some ah7)
def D2 (ab : Int) : Option (Bool) :=
 ((((yt ab).bind fun cq => (bif cq then some true else ((yu ab).bind fun kc => (bif kc then some true else some (ab == 95))))) : Option (Bool)).bind fun gU => some gU)
def G8 (aB : (ak Table)) : (Int) -> Option (cM (Int) (bK (Unit) (Unit))) := fun i7 => (bif (decide (i7 < aB.len)) then ((((aR aB.l i7).bind fun fD => (bif (decide ((fD.Name.length : Int) > 40)) then some true else ((aR aB.l i7).bind fun nT => some (decide (nT.aX.len > 12))))) : Option (Bool)).bind fun C5 => (bif C5 then some (.out (.ret ())) else some (.next (aQ (i7 + 1))))) else some (.out (.go ())))
def G9 (ab : (ak Int)) (aB : (ak Table)) : Option (Bool) :=
 ((bU (G8 aB) 0 : Option (bK (Unit) (Unit))).bind fun gA => match gA with | .go _ => some ((decide (ab.len <= 12)) && (decide (aB.len <= 20))) | .ret _ => some false)
def Ha (ab : Model) : (Int) -> Option (cM (Int) (bK (Unit) (Unit))) := fun i26 => (bif (decide (i26 < ab.dR.len)) then ((aR ab.dR.l i26).bind fun C6 => (bif (decide ((C6.length : Int) > 40)) then some (.out (.ret ())) else some (.next (aQ (i26 + 1))))) else some (.out (.go ())))
def Hb (ab : Model) : (Int) -> Option (cM (Int) (bK (Unit) (Unit))) := fun i49 => (bif (decide (i49 < ab.c8.len)) then ((aR ab.c8.l i49).bind fun ME => (bif (decide (ME.Row.cY.len > 20)) then some (.out (.ret ())) else some (.next (aQ (i49 + 1))))) else some (.out (.go ())))
def Hd (ab : Model) : (Int) -> Option (cM (Int) (bK (Unit) (Unit))) := fun i72 => (bif (decide (i72 < ab.Operations.len)) then ((((aR ab.Operations.l i72).bind fun agu => (bif (decide ((agu.Name.length : Int) > 40)) then some true else ((aR ab.Operations.l i72).bind fun agv => some (decide (agv.aO.len > 6))))) : Option (Bool)).bind fun agw => (bif agw then some (.out (.ret ())) else some (.next (aQ (i72 + 1))))) else some (.out (.go ())))
def He (yb : Action) : (Int) -> Option (cM (Int) (bK (Unit) (Unit))) := fun i133 => (bif (decide (i133 < yb.dM.fC.len)) then ((aR yb.dM.fC.l i133).bind fun agx => (bif (decide (agx.cY.len > 20)) then some (.out (.ret ())) else some (.next (aQ (i133 + 1))))) else some (.out (.go ())))
def Hf (ab : Model) : (Int) -> Option (cM (Int) (bK (Unit) (Unit))) := fun i103 => (bif (decide (i103 < ab.Actions.len)) then ((aR ab.Actions.l i103).bind fun yb => ((((aR ab.Actions.l i103).bind fun lF => (bif (decide (lF.dz.len > 6)) then some true else (bif (decide (yb.dM.Delta.len > 20)) then some true else (bif (decide (yb.dM.fC.len > 10)) then some true else some (decide (yb.dM.er.len > 40)))))) : Option (Bool)).bind fun agy => (bif agy then some (.out (.ret ())) else ((bU (He yb) 0 : Option (bK (Unit) (Unit))).bind fun agz => match agz with | .go _ => some (.next (aQ (i103 + 1))) | .ret _ => some (.out (.ret ())))))) else some (.out (.go ())))
def Hg (ab : Model) : Option (Bool) :=
 (((bif (decide (ab.aO.len > 8)) then some true else (bif (decide (ab.Tables.len > 6)) then some true else (bif (decide (ab.dR.len > 20)) then some true else (bif (decide (ab.c8.len > 60)) then some true else (bif (decide (ab.Operations.len > 8)) then some true else (bif (decide (ab.Actions.len > 30)) then some true else (bif (decide (ab.bn.len > 12)) then some true else ((G9 ab.aO ab.Tables).bind fun hG => some (!hG))))))))) : Option (Bool)).bind fun pC => (bif pC then some false else ((bU (Ha ab) 0 : Option (bK (Unit) (Unit))).bind fun uH => match uH with | .go _ => ((bU (Hb ab) 0 : Option (bK (Unit) (Unit))).bind fun agA => match agA with | .go _ => ((bU (Hd ab) 0 : Option (bK (Unit) (Unit))).bind fun MF => match MF with | .go _ => ((bU (Hf ab) 0 : Option (bK (Unit) (Unit))).bind fun agB => match agB with | .go _ => some true | .ret _ => some false) | .ret _ => some false) | .ret _ => some false) | .ret _ => some false)))
def HV (ab : (ak Int)) : (Int) -> Option (cM (Int) (bK (Unit) (Unit))) := fun i7 => (bif (decide (i7 < ab.len)) then ((((aR ab.l i7).bind fun fD => (bif (decide (fD < (-1000000))) then some true else ((aR ab.l i7).bind fun nT => some (decide (nT > 1000000))))) : Option (Bool)).bind fun C5 => (bif C5 then some (.out (.ret ())) else some (.next (aQ (i7 + 1))))) else some (.out (.go ())))
def HW (ab : (ak Int)) : Option (Bool) :=
 ((bU (HV ab) 0 : Option (bK (Unit) (Unit))).bind fun gA => match gA with | .go _ => some (decide (ab.len <= 128)) | .ret _ => some false)
def agE (ab : (ak Int)) (aB : (Int -> Option Bool)) : (Int) -> Option (cM (Int) (bK (Unit) (Int))) := fun i7 => (bif (decide (i7 < ab.len)) then ((aR ab.l i7).bind fun hG => ((aB hG).bind fun fD => (bif fD then some (.out (.ret i7)) else some (.next (aQ (i7 + 1)))))) else some (.out (.go ())))
def Vt (ab : (ak Int)) (aB : (Int -> Option Bool)) : Option (Int) :=
 ((bU (agE ab aB) 0 : Option (bK (Unit) (Int))).bind fun gA => match gA with | .go _ => some (-1) | .ret uI => some uI)
def C7 (ab : (ak Int)) (aB : (Int -> Option Bool)) : Option (Bool) :=
 ((Vt ab aB).bind fun bu => some (decide (bu >= 0)))
def MI (as4 : (ak Int)) (ab : Int) : Option (Bool) :=
 some ((decide (ab < 0)) || (decide (ab >= as4.len)))
def Hj (ab : (ak Int)) (aB : (ak Int)) : Option (Bool) :=
 (((bif (decide (aB.len <= 3)) then ((C7 aB (fun z0 => MI ab z0)).bind fun Av => some (!Av)) else some false) : Option (Bool)).bind fun pC => some pC)
def Hh (ab : Int) (aB : Int) (ha : Int) : Option (Bool) :=
 some ((decide (ab >= aB)) && (decide (ab <= ha)))
def MH (ab : Int) : Option (Bool) :=
 ((Hh ab 1 6).bind fun bu => some (!bu))
def Hi (ab : (ak Int)) : Option (Bool) :=
 ((C7 ab MH).bind fun bu => some (!bu))
def agC (ab : (ak Bool)) (aB : Bool) : (Int) -> Option (cM (Int) (bK (Unit) (Int))) := fun i7 => (bif (decide (i7 < ab.len)) then ((aR ab.l i7).bind fun hG => (bif (aB == hG) then some (.out (.ret i7)) else some (.next (aQ (i7 + 1))))) else some (.out (.go ())))
def Vs (ab : (ak Bool)) (aB : Bool) : Option (Int) :=
 ((bU (agC ab aB) 0 : Option (bK (Unit) (Int))).bind fun gA => match gA with | .go _ => some (-1) | .ret agD => some agD)
def MG (ab : (ak Bool)) (aB : Bool) : Option (Bool) :=
 ((Vs ab aB).bind fun bu => some (decide (bu >= 0)))
def Au (ab : (ak Bool)) : Option (Bool) :=
 ((MG ab false).bind fun bu => some (!bu))
def yc (ab : bQ) : Option (Bool) :=
 (((bif (decide ((ab.length : Int) <= 16)) then ((G6 ab).bind fun dd => some (dd == 1)) else some false) : Option (Bool)).bind fun gU => some gU)
def Hk (ab : Table) : Option (Bool) :=
 (((((bif (ab.Kind == 1) then some (ab.Kind == 1) else (bif (ab.Kind == 4) then some (ab.Kind == 4) else some (ab.Kind == 5))) : Option (Bool)).bind fun gA => (bif gA then some (.ret ((decide (ab.Range.eN <= ab.Range.eO)) && ((decide (ab.Range.eN >= (-9999))) && (decide (ab.Range.eO <= 9999))))) else some (.go ()))) : Option (bK (Unit) (Bool))).bind fun pC => match pC with | .go _ => some ((ab.Range.eN == 0) && ((ab.Range.eO == 1) && true)) | .ret agF => some agF)
def Aw (ab : Table) : Option (Bool) :=
 some ((ab.Kind == 0) || (ab.Kind == 1))
def Hl (ab : (ak Int)) (aB : (ak Int)) : (Int × Int) -> Option (cM (Int × Int) (Int)) := fun ⟨i8, i9⟩ => (bif (decide (i9 < aB.len)) then ((aR aB.l i9).bind fun lG => ((aR ab.l lG).bind fun nT => some (.next ((aQ (i8 * nT)), (aQ (i9 + 1)))))) else some (.out i8))
def sP (ab : (ak Int)) (aB : (ak Int)) : Option (Int) :=
 ((bU (Hl ab aB) (1, 0) : Option (Int)).bind fun uJ => some uJ)
def Ax (ab : (ak Int)) (aB : (ak Table)) : (Int × Int × Int × (List (bQ × Bool))) -> Option (cM (Int × Int × Int × (List (bQ × Bool))) (bK (Int × Int) (Unit))) := fun ⟨i29, i30, i31, i32⟩ => (bif (decide (i29 < aB.len)) then ((aR aB.l i29).bind fun l2 => ((yc l2.Name).bind fun MJ => ((Hh l2.Kind 0 5).bind fun C8 => ((Hj ab l2.aX).bind fun MK => ((Hk l2).bind fun yd => ((Au (ak.mk [MJ, (!((ie i32 l2.Name).getD false)), C8, MK, yd])).bind fun ye => (bif ye then ((Aw l2).bind fun qA => (bif qA then (bif (l2.c2 != i31) then some (.out (.ret ())) else ((sP ab l2.aX).bind fun qB => some (.next ((aQ (i29 + 1)), i30, (aQ (i31 + qB)), (lC i32 l2.Name true))))) else (bif (l2.c2 != i30) then some (.out (.ret ())) else ((sP ab l2.aX).bind fun Ay => some (.next ((aQ (i29 + 1)), (aQ (i30 + Ay)), i31, (lC i32 l2.Name true))))))) else some (.out (.ret ()))))))))) else some (.out (.go (i30, i31))))
def Az (ab : (ak Int)) (aB : (ak Table)) : Option (Bool) :=
 ((Hi ab).bind fun bu => ((Au (ak.mk [(decide (ab.len <= 4)), (decide (aB.len <= 12)), bu])).bind fun cq => (bif cq then ((bU (Ax ab aB) (0, 0, 0, []) : Option (bK (Int × Int) (Unit))).bind fun agG => match agG with | .go (⟨agH, agI⟩) => some ((decide (agI <= 128)) && (decide (agH <= 64))) | .ret _ => some false) else some false)))
def C9 (ab : (ak bQ)) : (Int × (List (bQ × Bool))) -> Option (cM (Int × (List (bQ × Bool))) (bK (Unit) (Unit))) := fun ⟨i12, i13⟩ => (bif (decide (i12 < ab.len)) then ((aR ab.l i12).bind fun uK => ((((yc uK).bind fun uL => (bif uL then some ((ie i13 uK).getD false) else some true)) : Option (Bool)).bind fun agJ => (bif agJ then some (.out (.ret ())) else some (.next ((aQ (i12 + 1)), (lC i13 uK true)))))) else some (.out (.go ())))
def Da (ab : (ak bQ)) : Option (Bool) :=
 ((bU (C9 ab) (0, []) : Option (bK (Unit) (Unit))).bind fun rG => match rG with | .go _ => some true | .ret _ => some false)
def Db (ab : (ak Int)) (aB : (ak Table)) (ha : Bool) : (Int × (ak Range)) -> Option (cM (Int × (ak Range)) ((ak Range))) := fun ⟨i13, i14⟩ => (bif (decide (i13 < aB.len)) then ((aR aB.l i13).bind fun iG => ((Aw iG).bind fun nU => (bif (nU == ha) then ((sP ab iG.aX).bind fun C6 => ((C2 (ak.mk [iG.Range]) C6).bind fun l3 => ((rv 16 i14 l3).bind fun agK => some (.next ((aQ (i13 + 1)), agK))))) else some (.next ((aQ (i13 + 1)), i14))))) else some (.out i14))
def Hm (ab : (ak Int)) (aB : (ak Table)) (ha : Bool) : Option ((ak Range)) :=
 ((Az ab aB).bind fun bu => (bif bu then ((bU (Db ab aB ha) (0, .nil) : Option ((ak Range))).bind fun yf => some yf) else some ak.nil))
def l4 (ab : Int) (aB : Int) : Option (Bool) :=
 some ((decide (ab >= 0)) && (decide (ab < aB)))
def yg (ab : Int) (aB : Int) : Option (Bool) :=
 some ((decide (ab >= (aQ (0 - aB)))) && (decide (ab <= aB)))
def Dc (ab : dJ) (aB : Row) : (Int × Int) -> Option (cM (Int × Int) (bK (Unit) (Unit))) := fun ⟨i16, i17⟩ => (bif (decide (i17 < aB.cY.len)) then ((aR aB.cY.l i17).bind fun iG => (((bif (decide (iG.Cell <= i16)) then some true else (bif (decide (iG.Cell >= ab.strict.len)) then some true else (bif (iG.js == 0) then some true else ((yg iG.js 1000).bind fun pD => some (!pD))))) : Option (Bool)).bind fun ML => (bif ML then some (.out (.ret ())) else some (.next (iG.Cell, (aQ (i17 + 1))))))) else some (.out (.go ())))
def Dd (ab : dJ) (aB : Row) : Option (Bool) :=
 ((bU (Dc ab aB) ((-1), 0) : Option (bK (Unit) (Unit))).bind fun pE => match pE with | .go _ => ((yg aB.l1 1000000000).bind fun agL => some agL) | .ret _ => some false)
def agM (ab : (ak Table)) (aB : (Table -> Option Bool)) : (Int) -> Option (cM (Int) (bK (Unit) (Int))) := fun i7 => (bif (decide (i7 < ab.len)) then ((aR ab.l i7).bind fun hG => ((aB hG).bind fun fD => (bif fD then some (.out (.ret i7)) else some (.next (aQ (i7 + 1)))))) else some (.out (.go ())))
def Vu (ab : (ak Table)) (aB : (Table -> Option Bool)) : Option (Int) :=
 ((bU (agM ab aB) 0 : Option (bK (Unit) (Int))).bind fun gA => match gA with | .go _ => some (-1) | .ret uI => some uI)
def MM (ab : (ak Table)) (aB : (Table -> Option Bool)) : Option (Bool) :=
 ((Vu ab aB).bind fun bu => some (decide (bu >= 0)))
def Hn (as4 : Constraint) (agN : dJ) (ab : Table) : Option (Bool) :=
 (((bif (ab.Kind == 0) then (bif (ab.aX.len == 2) then ((aR ab.aX.l 0).bind fun yh => ((aR ab.aX.l 1).bind fun mr => (bif (yh == mr) then (bif (ab.c2 == as4.c2) then ((aR ab.aX.l 0).bind fun De => ((aR agN.Model.aO.l De).bind fun hG => some (hG == as4.qz))) else some false) else some false))) else some false) else some false) : Option (Bool)).bind fun pC => some pC)
def Ho (ab : dJ) (aB : Constraint) : Option (Bool) :=
 (((bif (aB.Row.cY.len == 0) then (bif (aB.Row.l1 == 0) then ((MM ab.Model.Tables (fun z0 => Hn aB ab z0)).bind fun De => some De) else some false) else some false) : Option (Bool)).bind fun yi => some yi)
def Hp (ab : (ak Term)) (aB : (ak Term)) : (Int) -> Option (cM (Int) (bK (Unit) (Unit))) := fun i8 => (bif (decide (i8 < ab.len)) then ((aR ab.l i8).bind fun fD => ((aR aB.l i8).bind fun lG => (bif ((fD.Cell == lG.Cell) && ((fD.js == lG.js) && true)) then some (.next (aQ (i8 + 1))) else some (.out (.ret ()))))) else some (.out (.go ())))
def AA (ab : (ak Term)) (aB : (ak Term)) : Option (Bool) :=
 (bif (ab.len != aB.len) then some false else ((bU (Hp ab aB) 0 : Option (bK (Unit) (Unit))).bind fun uJ => match uJ with | .go _ => some true | .ret _ => some false))
def Hq (ab : Row) (aB : Int) (ha : Int) (kb : Int) : Option (Bool) :=
 ((((AA ab.cY (ak.mk [(Term.mk aB ha)])).bind fun nV => (bif nV then some (ab.l1 == kb) else some false)) : Option (Bool)).bind fun pC => some pC)
def Df (ab : dJ) : (Int) -> Option (cM (Int) (bK (Unit) (Unit))) := fun i16 => (bif (decide (i16 < ab.Model.c8.len)) then ((aR ab.Model.c8.l i16).bind fun hH => ((((l4 hH.mq ab.Model.dR.len).bind fun nU => (bif nU then (bif (hH.Kind == 0) then (((bif (hH.c2 != 0) then some true else (bif (hH.qz != 0) then some true else ((Dd ab hH.Row).bind fun gk => some (!gk)))) : Option (Bool)).bind fun MN => (bif MN then some (.ret ()) else some (.go ()))) else (((bif (hH.Kind != 1) then some true else ((Ho ab hH).bind fun MJ => some (!MJ))) : Option (Bool)).bind fun agO => (bif agO then some (.ret ()) else some (.go ())))) else some (.ret ()))) : Option (bK (Unit) (Unit))).bind fun Dg => match Dg with | .go _ => (bif (decide ((aQ (i16.tdiv 2)) < ab.strict.len)) then ((aR ab.strict.l (aQ (i16.tdiv 2))).bind fun Ay => (((bif ((i16.tmod 2) == 0) then some ((-1), (aQ (0 - Ay.eN))) else some (1, Ay.eO)) : Option (Int × Int)).bind fun MO => match MO with | ⟨agP, agQ⟩ => (((bif (hH.Kind != 0) then some true else ((Hq hH.Row (aQ (i16.tdiv 2)) agP agQ).bind fun agR => some (!agR))) : Option (Bool)).bind fun agS => (bif agS then some (.out (.ret ())) else some (.next (aQ (i16 + 1))))))) else some (.next (aQ (i16 + 1)))) | .ret _ => some (.out (.ret ())))) else some (.out (.go ())))
def Hr (ab : dJ) : Option (Bool) :=
 (bif ((decide (ab.Model.c8.len > 512)) || (decide (ab.Model.c8.len < (aQ (2 * ab.strict.len))))) then some false else ((bU (Df ab) 0 : Option (bK (Unit) (Unit))).bind fun pE => match pE with | .go _ => some true | .ret _ => some false))
def Hs (as4 : dJ) (ab : Int) : Option (Bool) :=
 some ((decide (ab < (-1))) || (decide (ab >= as4.Model.aO.len)))
def Dh (ab : dJ) : (Int × (ak bQ)) -> Option (cM (Int × (ak bQ)) (bK ((ak bQ)) (Unit))) := fun ⟨i15, i16⟩ => (bif (decide (i15 < ab.Model.Operations.len)) then ((aR ab.Model.Operations.l i15).bind fun nW => ((rv 16 i16 (ak.mk [nW.Name])).bind fun MP => (((bif (decide (nW.aO.len > 3)) then some true else ((C7 nW.aO (fun z0 => Hs ab z0)).bind fun yj => some yj)) : Option (Bool)).bind fun MQ => (bif MQ then some (.out (.ret ())) else some (.next ((aQ (i15 + 1)), MP)))))) else some (.out (.go i16)))
def Ht (ab : dJ) : Option (Bool) :=
 ((bU (Dh ab) (0, .nil) : Option (bK ((ak bQ)) (Unit))).bind fun MR => match MR with | .go Vv => (((bif (decide (Vv.len <= 8)) then ((Da Vv).bind fun MS => some MS) else some false) : Option (Bool)).bind fun MO => some MO) | .ret _ => some false)
def Hu (ab : Int) : Option (Bool) :=
 some (ab != ab)
def Hv (ab : Int) (aB : Int) : Option (Int) :=
 ((Hu ab).bind fun bu => ((Hu aB).bind fun cq => (bif bu then (bif cq then some 0 else some (-1)) else (bif cq then some 1 else (bif (decide (ab < aB)) then some (-1) else (bif (decide (ab > aB)) then some 1 else some 0))))))
def AB (ab : (ak Int)) (aB : (ak Int)) : (Int) -> Option (cM (Int) (bK (Unit) (Int))) := fun i7 => (bif (decide (i7 < ab.len)) then ((aR ab.l i7).bind fun hG => (bif (decide (i7 >= aB.len)) then some (.out (.ret 1)) else ((aR aB.l i7).bind fun lG => ((Hv hG lG).bind fun nT => (bif (nT != 0) then some (.out (.ret nT)) else some (.next (aQ (i7 + 1)))))))) else some (.out (.go ())))
def Di (ab : (ak Int)) (aB : (ak Int)) : Option (Int) :=
 ((bU (AB ab aB) 0 : Option (bK (Unit) (Int))).bind fun gA => match gA with | .go _ => (bif (decide (ab.len < aB.len)) then some (-1) else some 0) | .ret agT => some agT)
def agX (ab : (ak Row)) (aB : (Row -> Option Bool)) : (Int) -> Option (cM (Int) (bK (Unit) (Int))) := fun i7 => (bif (decide (i7 < ab.len)) then ((aR ab.l i7).bind fun hG => ((aB hG).bind fun fD => (bif fD then some (.out (.ret i7)) else some (.next (aQ (i7 + 1)))))) else some (.out (.go ())))
def Vx (ab : (ak Row)) (aB : (Row -> Option Bool)) : Option (Int) :=
 ((bU (agX ab aB) 0 : Option (bK (Unit) (Int))).bind fun gA => match gA with | .go _ => some (-1) | .ret uI => some uI)
def MU (ab : (ak Row)) (aB : (Row -> Option Bool)) : Option (Bool) :=
 ((Vx ab aB).bind fun bu => some (decide (bu >= 0)))
def Hw (ab : (ak Int)) (hH : Table) : (Int × Int × (ak Int)) -> Option (cM (Int × Int × (ak Int)) ((ak Int))) := fun ⟨i58, i59, i60⟩ => (bif (decide (i59 >= 0)) then ((aR hH.aX.l i59).bind fun MS => ((aR ab.l MS).bind fun rH => ((Al i58 rH).bind fun agU => ((Ak i58 rH).bind fun Hx => ((aR i60.l i59).bind fun Vw => ((aR i60.l i59).bind fun atd => some (.next (Hx, (aQ (i59 - 1)), (nR i60 i59 agU))))))))) else some (.out i60))
def Dj (ab : (ak Int)) (aB : (ak Table)) (ha : Bool) (kb : Int) : (Int) -> Option (cM (Int) (bK (Unit) (Int × (ak Int)))) := fun i16 => (bif (decide (i16 < aB.len)) then ((aR aB.l i16).bind fun hH => ((((Aw hH).bind fun nU => (bif (nU == ha) then (bif (decide ((aQ (kb - hH.c2)) < 0)) then some true else ((sP ab hH.aX).bind fun l3 => some (decide ((aQ (kb - hH.c2)) >= l3)))) else some true)) : Option (Bool)).bind fun Dg => (bif Dg then some (.next (aQ (i16 + 1))) else ((vZ 8 0 hH.aX.len).bind fun Dk => ((bU (Hw ab hH) ((aQ (kb - hH.c2)), (aQ (Dk.len - 1)), Dk) : Option ((ak Int))).bind fun MT => some (.out (.ret (i16, MT)))))))) else some (.out (.go ())))
def Hy (ab : (ak Int)) (aB : (ak Table)) (ha : Bool) (kb : Int) : Option (Int × (ak Int) × Bool) :=
 ((((Az ab aB).bind fun cq => (bif cq then some (decide (kb < 0)) else some true)) : Option (Bool)).bind fun gU => (bif gU then some (0, ak.nil, false) else ((bU (Dj ab aB ha kb) 0 : Option (bK (Unit) (Int × (ak Int)))).bind fun pE => match pE with | .go _ => some (0, ak.nil, false) | .ret (⟨agV, agW⟩) => some (agV, agW, true))))
def Hz (ab : dJ) (aB : jt) : Option (Bool) :=
 ((Hy ab.Model.aO ab.Model.Tables false aB.Cell).bind fun mr => (bif mr.2.2 then ((aR ab.Model.Tables.l mr.1).bind fun uM => (((bif (uM.Kind == 2) then some (uM.Kind == 2) else some (uM.Kind == 3)) : Option (Bool)).bind fun Dl => (bif Dl then some (bif (aB.Kind == 0) then (aB.Value == 0) else ((aB.Kind == 1) && (aB.Value == 0))) else some ((aB.Kind == 2) && ((decide (aB.Value >= uM.Range.eN)) && (decide (aB.Value <= uM.Range.eO))))))) else some false))
def HA (as4 : dJ) (ab : Row) : Option (Bool) :=
 ((Dd as4 ab).bind fun eM => some (!eM))
def Dm (ab : dJ) (aB : dM) : (Int × Int) -> Option (cM (Int × Int) (bK (Unit) (Unit))) := fun ⟨i16, i17⟩ => (bif (decide (i17 < aB.Delta.len)) then ((aR aB.Delta.l i17).bind fun iG => (((bif (decide (iG.Cell <= i16)) then some true else (bif (decide (iG.Cell >= ab.strict.len)) then some true else (bif (iG.Add == 0) then some true else ((yg iG.Add 1000000000).bind fun pD => some (!pD))))) : Option (Bool)).bind fun ML => (bif ML then some (.out (.ret ())) else some (.next (iG.Cell, (aQ (i17 + 1))))))) else some (.out (.go ())))
def Dn (ab : dJ) (aB : dM) : (Int × Int) -> Option (cM (Int × Int) (bK (Unit) (Unit))) := fun ⟨i57, i58⟩ => (bif (decide (i58 < aB.er.len)) then ((aR aB.er.l i58).bind fun MV => (((bif (decide (MV.Cell <= i57)) then some true else ((Hz ab MV).bind fun Vw => some (!Vw))) : Option (Bool)).bind fun MF => (bif MF then some (.out (.ret ())) else some (.next (MV.Cell, (aQ (i58 + 1))))))) else some (.out (.go ())))
def HB (ab : dJ) (aB : dM) : Option (Bool) :=
 ((bU (Dm ab aB) ((-1), 0) : Option (bK (Unit) (Unit))).bind fun pE => match pE with | .go _ => ((bU (Dn ab aB) ((-1), 0) : Option (bK (Unit) (Unit))).bind fun agY => match agY with | .go _ => (((bif (decide (aB.fC.len <= 8)) then (bif (decide (aB.er.len <= 32)) then ((MU aB.fC (fun z0 => HA ab z0)).bind fun MW => some (!MW)) else some false) else some false) : Option (Bool)).bind fun agZ => some agZ) | .ret _ => some false) | .ret _ => some false)
def HC (ab : dJ) (da : Action) (AD : cG) : (Int) -> Option (cM (Int) (bK (Unit) (Unit))) := fun i42 => (bif (decide (i42 < AD.aO.len)) then ((aR AD.aO.l i42).bind fun yd => ((aR da.dz.l i42).bind fun ye => (((bif (decide (yd < 0)) then ((yg ye 9999).bind fun MX => (bif MX then (bif (decide (yd >= 0)) then ((aR ab.Model.aO.l yd).bind fun ME => ((l4 ye ME).bind fun qB => some (!qB))) else some false) else some true)) else (bif (decide (yd >= 0)) then ((aR ab.Model.aO.l yd).bind fun MY => ((l4 ye MY).bind fun MZ => some (!MZ))) else some false)) : Option (Bool)).bind fun Dp => (bif Dp then some (.out (.ret ())) else some (.next (aQ (i42 + 1))))))) else some (.out (.go ())))
def Dq (ab : dJ) : (Int) -> Option (cM (Int) (bK (Unit) (Unit))) := fun i12 => (bif (decide (i12 < ab.Model.Actions.len)) then ((aR ab.Model.Actions.l i12).bind fun da => ((((l4 da.cG ab.Model.Operations.len).bind fun kX => (bif kX then ((aR ab.Model.Operations.l da.cG).bind fun nh => some (da.dz.len != nh.aO.len)) else some true)) : Option (Bool)).bind fun uH => (bif uH then some (.out (.ret ())) else ((aR ab.Model.Operations.l da.cG).bind fun AD => ((bU (HC ab da AD) 0 : Option (bK (Unit) (Unit))).bind fun ag0 => match ag0 with | .go _ => (((bif (decide (i12 > 0)) then ((aR ab.Model.Actions.l (aQ (i12 - 1))).bind fun atd => (((bif (decide (atd.cG > da.cG)) then some true else (bif (atd.cG == da.cG) then ((Di atd.dz da.dz).bind fun Dr => some (decide (Dr >= 0))) else some false)) : Option (Bool)).bind fun M0 => (bif M0 then some (.ret ()) else some (.go ())))) else some (.go ())) : Option (bK (Unit) (Unit))).bind fun M1 => match M1 with | .go _ => ((HB ab da.dM).bind fun Ds => (bif Ds then some (.next (aQ (i12 + 1))) else some (.out (.ret ())))) | .ret _ => some (.out (.ret ()))) | .ret _ => some (.out (.ret ()))))))) else some (.out (.go ())))
def HD (ab : dJ) : Option (Bool) :=
 (bif (decide (ab.Model.Actions.len > 256)) then some false else ((bU (Dq ab) 0 : Option (bK (Unit) (Unit))).bind fun rG => match rG with | .go _ => some true | .ret _ => some false))
def Dt (ab : Model) : Option (Bool) :=
 ((((Az ab.aO ab.Tables).bind fun nV => (bif nV then (bif (decide (ab.dR.len > 24)) then some true else ((Da ab.dR).bind fun mr => some (!mr))) else some true)) : Option (Bool)).bind fun pC => (bif pC then some false else ((Hm ab.aO ab.Tables true).bind fun nT => ((((Hr (dJ.mk ab nT)).bind fun yk => (bif yk then ((Ht (dJ.mk ab nT)).bind fun kX => (bif kX then ((HD (dJ.mk ab nT)).bind fun nh => (bif nh then ((Vq (dJ.mk ab nT)).bind fun nU => some nU) else some false)) else some false)) else some false)) : Option (Bool)).bind fun ag1 => some ag1))))
def Nj (ab : (ak Int)) (aB : (ak Table)) (ha : Bool) : Option (Int) :=
 ((Hm ab aB ha).bind fun bu => some bu.len)
def OE (ab : Model) (aB : (ak Int)) : Option (Bool) :=
 ((((Dt ab).bind fun nV => (bif nV then ((Nj ab.aO ab.Tables true).bind fun yh => some (aB.len == yh)) else some false)) : Option (Bool)).bind fun pC => some pC)
def aCW (ab : (ak Constraint)) (aB : (Constraint -> Option Bool)) : (Int) -> Option (cM (Int) (bK (Unit) (Int))) := fun i7 => (bif (decide (i7 < ab.len)) then ((aR ab.l i7).bind fun hG => ((aB hG).bind fun fD => (bif fD then some (.out (.ret i7)) else some (.next (aQ (i7 + 1)))))) else some (.out (.go ())))
def ayO (ab : (ak Constraint)) (aB : (Constraint -> Option Bool)) : Option (Int) :=
 ((bU (aCW ab aB) 0 : Option (bK (Unit) (Int))).bind fun gA => match gA with | .go _ => some (-1) | .ret uI => some uI)
def OG (ab : (ak Constraint)) (aB : (Constraint -> Option Bool)) : Option (Bool) :=
 ((ayO ab aB).bind fun bu => some (decide (bu >= 0)))
def DS (ab : Constraint) (aB : Int) : Option (Bool) :=
 some ((ab.Kind == 1) && ((decide (ab.qz >= 1)) && ((decide (ab.qz <= 6)) && ((decide (ab.c2 >= 0)) && (decide (ab.c2 <= (aQ (aB - (aQ (ab.qz * ab.qz))))))))))
def DT (as4 : (ak Int)) (agN : Constraint) (ab : Int) (aB : Int) : Option (Bool) :=
 ((aR as4.l (aQ ((aQ (agN.c2 + (aQ (ab * agN.qz)))) + aB))).bind fun bu => some (decide (bu >= 1)))
def aCX (ab : (ak Int)) (aB : Int) : (Int) -> Option (cM (Int) (bK (Unit) (Int))) := fun i7 => (bif (decide (i7 < ab.len)) then ((aR ab.l i7).bind fun hG => (bif (aB == hG) then some (.out (.ret i7)) else some (.next (aQ (i7 + 1))))) else some (.out (.go ())))
def ayP (ab : (ak Int)) (aB : Int) : Option (Int) :=
 ((bU (aCX ab aB) 0 : Option (bK (Unit) (Int))).bind fun gA => match gA with | .go _ => some (-1) | .ret agD => some agD)
def HX (ab : (ak Int)) (aB : Int) : Option (Bool) :=
 ((ayP ab aB).bind fun bu => some (decide (bu >= 0)))
def HY (ab : Constraint) : (Int × (ak (ak Int))) -> Option (cM (Int × (ak (ak Int))) ((ak (ak Int)))) := fun ⟨i21, i22⟩ => (bif (decide (i21 < ab.qz)) then ((rv 24 i22 (ak.mk [(ak.mk [i21])])).bind fun oT => some (.next ((aQ (i21 + 1)), oT))) else some (.out i22))
def DU (ab : Constraint) (aB : (ak Int)) (yo : (ak Int)) (lI : Int) : (Int × (ak (ak Int))) -> Option (cM (Int × (ak (ak Int))) ((ak (ak Int)))) := fun ⟨i112, i113⟩ => (bif (decide (i112 < ab.qz)) then ((((DT aB ab lI i112).bind fun aCY => (bif aCY then ((HX yo i112).bind fun av9 => some (!av9)) else some false)) : Option (Bool)).bind fun aCZ => (bif aCZ then ((asR 8 yo).bind fun aC0 => ((rv 8 aC0 (ak.mk [i112])).bind fun aC1 => ((rv 24 i113 (ak.mk [aC1])).bind fun aC2 => some (.next ((aQ (i112 + 1)), aC2))))) else some (.next ((aQ (i112 + 1)), i113)))) else some (.out i113))
def DV (ab : Constraint) (aB : (ak Int)) (i63 : (ak (ak Int))) : (Int × (ak (ak Int))) -> Option (cM (Int × (ak (ak Int))) (bK ((ak (ak Int))) ((ak Int)))) := fun ⟨i82, i83⟩ => (bif (decide (i82 < i63.len)) then ((aR i63.l i82).bind fun MW => ((aR i63.l i82).bind fun yo => ((aR yo.l (aQ (yo.len - 1))).bind fun lI => ((aR yo.l 0).bind fun aC3 => ((DT aB ab lI aC3).bind fun aC4 => (bif aC4 then some (.out (.ret yo)) else ((aR yo.l 0).bind fun Ds => ((bU (DU ab aB yo lI) ((aQ (Ds + 1)), i83) : Option ((ak (ak Int)))).bind fun aC5 => some (.next ((aQ (i82 + 1)), aC5)))))))))) else some (.out (.go i83)))
def Dy (ab : Constraint) (aB : (ak Int)) : ((ak (ak Int))) -> Option (cM ((ak (ak Int))) (bK (Unit) ((ak Int)))) := fun i63 => (bif (decide (i63.len > 0)) then ((bU (DV ab aB i63) (0, .nil) : Option (bK ((ak (ak Int))) ((ak Int)))).bind fun aC6 => match aC6 with | .go aC7 => some (.next aC7) | .ret aC8 => some (.out (.ret aC8))) else some (.out (.go ())))
def HZ (ab : Constraint) (aB : (ak Int)) : Option ((ak Int)) :=
 ((DS ab aB.len).bind fun mr => (bif mr then ((bU (HY ab) (0, .nil) : Option ((ak (ak Int)))).bind fun agJ => ((bU (Dy ab aB) agJ : Option (bK (Unit) ((ak Int)))).bind fun aC9 => match aC9 with | .go _ => some ak.nil | .ret aDa => some aDa)) else some ak.nil))
def ayQ (ab : Int) (aB : Int) (ha : Int) : Option (Bool) :=
 some ((decide ((aQ (ab + (aB / 2 ^ 32))) < (ha / 2 ^ 32))) || (((aQ (ab + (aB / 2 ^ 32))) == (ha / 2 ^ 32)) && (decide ((aQ ((BitVec.ofInt (IntKind.i64).bits aB &&& BitVec.ofInt (IntKind.i64).bits 4294967295).toNat)) <= (aQ ((BitVec.ofInt (IntKind.i64).bits ha &&& BitVec.ofInt (IntKind.i64).bits 4294967295).toNat))))))
def H3 (ab : Constraint) (aB : (ak Int)) : (Int × Int × Int) -> Option (cM (Int × Int × Int) (bK (Int × Int) (Unit))) := fun ⟨i23, i24, i25⟩ => (bif (decide (i25 < ab.Row.cY.len)) then ((aR ab.Row.cY.l i25).bind fun Dz => (bif ((decide (Dz.Cell < 0)) || (decide (Dz.Cell >= aB.len))) then some (.out (.ret ())) else ((aR aB.l Dz.Cell).bind fun aDb => ((aR aB.l Dz.Cell).bind fun Nc => some (.next ((aQ (i23 + (aQ (Dz.js * (aQ (aDb.tdiv 4294967296)))))), (aQ (i24 + (aQ (Dz.js * (Nc.tmod 4294967296))))), (aQ (i25 + 1)))))))) else some (.out (.go (i23, i24))))
def AF (ab : Constraint) (aB : (ak Int)) : Option (Bool) :=
 (bif (ab.Kind == 1) then ((((DS ab aB.len).bind fun Av => (bif Av then ((HZ ab aB).bind fun mr => some (mr.len == 0)) else some false)) : Option (Bool)).bind fun gA => some gA) else ((bU (H3 ab aB) (0, 0, 0) : Option (bK (Int × Int) (Unit))).bind fun aDc => match aDc with | .go (⟨aDd, aDe⟩) => (((bif (ab.Kind == 0) then ((ayQ aDd aDe ab.Row.l1).bind fun MY => some MY) else some false) : Option (Bool)).bind fun agY => some agY) | .ret _ => some false))
def H4 (as4 : (ak Int)) (ab : Constraint) : Option (Bool) :=
 ((AF ab as4).bind fun eM => some (!eM))
def DA (ab : Model) (aB : (ak Int)) : Option (Bool) :=
 ((((OE ab aB).bind fun OR => (bif OR then ((OG ab.c8 (fun z0 => H4 aB z0)).bind fun De => some (!De)) else some false)) : Option (Bool)).bind fun yi => some yi)
def O7 (as4 : Model) (ab : Int) : Option (Bool) :=
 some ((decide (ab < 0)) || (decide (ab >= as4.Actions.len)))
def DW (aB : (ak Change)) : (Int × (ak Int)) -> Option (cM (Int × (ak Int)) ((ak Int))) := fun ⟨i18, i19⟩ => (bif (decide (i18 < aB.len)) then ((aR aB.l i18).bind fun nh => (bif ((decide (nh.Cell >= 0)) && (decide (nh.Cell < i19.len))) then ((aR i19.l nh.Cell).bind fun aFq => ((aR i19.l nh.Cell).bind fun Nc => ((aR i19.l nh.Cell).bind fun MJ => ((aR i19.l nh.Cell).bind fun ye => some (.next ((aQ (i18 + 1)), (nR i19 nh.Cell (aQ (Nc + nh.Add))))))))) else some (.next ((aQ (i18 + 1)), i19)))) else some (.out i19))
def EN (ab : (ak Int)) (aB : (ak Change)) : Option ((ak Int)) :=
 ((asR 8 ab).bind fun s1 => ((bU (DW aB) (0, s1) : Option ((ak Int))).bind fun aDf => some aDf))
def H5 (aB : dM) (ha : (ak Int)) : (Int) -> Option (cM (Int) (bK (Unit) (Int))) := fun i19 => (bif (decide (i19 < aB.fC.len)) then ((aR aB.fC.l i19).bind fun nW => ((AF (Constraint.mk 0 0 nW 0 0) ha).bind fun C6 => (bif C6 then some (.next (aQ (i19 + 1))) else some (.out (.ret i19))))) else some (.out (.go ())))
def I9 (ab : Model) (MJ : (ak Int)) : (Int) -> Option (cM (Int) (bK (Unit) (Int))) := fun i52 => (bif (decide (i52 < ab.c8.len)) then ((aR ab.c8.l i52).bind fun MY => ((AF MY MJ).bind fun aDg => (bif aDg then some (.next (aQ (i52 + 1))) else some (.out (.ret i52))))) else some (.out (.go ())))
def Jd (ab : Model) (aB : dM) (ha : (ak Int)) : Option (pk) :=
 ((bU (H5 aB ha) 0 : Option (bK (Unit) (Int))).bind fun Dl => match Dl with | .go _ => ((EN ha aB.Delta).bind fun MJ => ((bU (I9 ab MJ) 0 : Option (bK (Unit) (Int))).bind fun aDh => match aDh with | .go _ => some (pk.mk 0 0) | .ret Pa => some (pk.mk 2 Pa))) | .ret aDi => some (pk.mk 1 aDi))
def Fl (ab : Model) (aB : Int) (ha : (ak Int)) : Option ((ak Int) × pk) :=
 ((aR ab.Actions.l aB).bind fun mr => ((Jd ab mr.dM ha).bind fun nT => (bif (nT.Kind != 0) then ((asR 8 ha).bind fun aDj => some (aDj, nT)) else ((EN ha mr.dM.Delta).bind fun l3 => some (l3, nT)))))
def PC (ab : Model) (ha : (ak Int)) : ((ak Int) × Int × (ak pk)) -> Option (cM ((ak Int) × Int × (ak pk)) ((ak Int) × (ak pk))) := fun ⟨i43, i44, i45⟩ => (bif (decide (i44 < ha.len)) then ((aR ha.l i44).bind fun yq => ((Fl ab yq i43).bind fun ME => ((rv 16 i45 (ak.mk [ME.2])).bind fun aDk => some (.next (ME.1, (aQ (i44 + 1)), aDk))))) else some (.out (i43, i45)))
def HE (ab : Model) (aB : (ak Int)) (ha : (ak Int)) : Option ((ak Int) × (ak pk) × Int) :=
 ((DA ab aB).bind fun eM => (bif eM then ((C7 ha (fun z0 => O7 ab z0)).bind fun Av => (bif Av then some (ak.nil, ak.nil, 7) else ((asR 8 aB).bind fun ayR => (bif (decide (0 < ha.len)) then ((aR ha.l 0).bind fun aDl => ((Fl ab aDl ayR).bind fun da => ((rv 16 ak.nil (ak.mk [da.2])).bind fun aDm => ((bU (PC ab ha) (da.1, (aQ (0 + 1)), aDm) : Option ((ak Int) × (ak pk))).bind fun aDn => match aDn with | ⟨aDo, Pa⟩ => some (aDo, Pa, 0))))) else some (ayR, ak.nil, 0))))) else some (ak.nil, ak.nil, 1)))
def Jf (ab : (ak Int)) (aB : (ak Int)) : (Int) -> Option (cM (Int) (bK (Unit) (Unit))) := fun i8 => (bif (decide (i8 < ab.len)) then ((aR ab.l i8).bind fun fD => ((aR aB.l i8).bind fun lG => (bif (fD != lG) then some (.out (.ret ())) else some (.next (aQ (i8 + 1)))))) else some (.out (.go ())))
def Jh (ab : (ak Int)) (aB : (ak Int)) : Option (Bool) :=
 (bif (ab.len != aB.len) then some false else ((bU (Jf ab aB) 0 : Option (bK (Unit) (Unit))).bind fun uJ => match uJ with | .go _ => some true | .ret _ => some false))
def DB (hH : (ak Int) × (ak pk) × Int) (iG : (ak Int) × (ak pk) × Int) : (Int) -> Option (cM (Int) (bK (Unit) (Unit))) := fun i37 => (bif (decide (i37 < 2)) then ((((aR hH.2.1.l i37).bind fun Nc => (bif (Nc.Kind != 0) then some true else ((aR iG.2.1.l i37).bind fun C8 => some (C8.Kind != 0)))) : Option (Bool)).bind fun agO => (bif agO then some (.out (.ret ())) else some (.next (aQ (i37 + 1))))) else some (.out (.go ())))
def Jj (ab : Model) (aB : Int) (ha : Int) (kb : (ak Int)) : Option (Bool) :=
 ((Ni).bind fun eM => (bif eM then ((((Hg ab).bind fun yh => (bif yh then ((HW kb).bind fun OR => (bif OR then ((DA ab kb).bind fun De => (bif De then some (ab.Actions.len == 0) else some true)) else some true)) else some true)) : Option (Bool)).bind fun uJ => (bif uJ then some true else ((Al (aQ aB) ab.Actions.len).bind fun ayS => ((Al (aQ ha) ab.Actions.len).bind fun uL => ((HE ab kb (ak.mk [ayS, uL])).bind fun hH => ((HE ab kb (ak.mk [uL, ayS])).bind fun iG => (bif ((hH.2.2 != 0) || ((iG.2.2 != 0) || ((hH.2.1.len != 2) || (iG.2.1.len != 2)))) then some false else ((bU (DB hH iG) 0 : Option (bK (Unit) (Unit))).bind fun aDp => match aDp with | .go _ => ((Jh hH.1 iG.1).bind fun aDq => some aDq) | .ret _ => some true)))))))) else some false))
end
end Go.Abs.U
