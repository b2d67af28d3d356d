/- Texts of this claim, joined and written short by a program. -/
import Derived.Test.YtaenhebjdjpdgaaGreatDoorP22
import Derived.Test.YtaenhebjdjpdgaaGreatDoorP00
set_option linter.unusedVariables false
set_option linter.unusedSimpArgs false
set_option linter.unusedSectionVars false
set_option maxHeartbeats 2000000
namespace Go.Abs.b1
open Go Go.Abs
noncomputable section
def G8 (aB : (ak Table)) : (Int) -> Option (cM (Int) (bK (Unit) (Unit))) := fun i7 => (bif (decide (i7 < aB.len)) then ((((aR aB.l i7).bind fun fD => (bif (decide ((fD.Name.length : Int) > 40)) then some true else ((aR aB.l i7).bind fun nT => some (decide (nT.aX.len > 12))))) : Option (Bool)).bind fun C5 => (bif C5 then some (.out (.ret ())) else some (.next (aQ (i7 + 1))))) else some (.out (.go ())))
def G9 (ab : (ak Int)) (aB : (ak Table)) : Option (Bool) :=
 ((bU (G8 aB) 0 : Option (bK (Unit) (Unit))).bind fun gA => match gA with | .go _ => some ((decide (ab.len <= 12)) && (decide (aB.len <= 20))) | .ret _ => some false)
def Ha (ab : Model) : (Int) -> Option (cM (Int) (bK (Unit) (Unit))) := fun i26 => (bif (decide (i26 < ab.dR.len)) then ((aR ab.dR.l i26).bind fun C6 => (bif (decide ((C6.length : Int) > 40)) then some (.out (.ret ())) else some (.next (aQ (i26 + 1))))) else some (.out (.go ())))
def Hb (ab : Model) : (Int) -> Option (cM (Int) (bK (Unit) (Unit))) := fun i49 => (bif (decide (i49 < ab.c8.len)) then ((aR ab.c8.l i49).bind fun ME => (bif (decide (ME.Row.cY.len > 20)) then some (.out (.ret ())) else some (.next (aQ (i49 + 1))))) else some (.out (.go ())))
def Hd (ab : Model) : (Int) -> Option (cM (Int) (bK (Unit) (Unit))) := fun i72 => (bif (decide (i72 < ab.Operations.len)) then ((((aR ab.Operations.l i72).bind fun agu => (bif (decide ((agu.Name.length : Int) > 40)) then some true else ((aR ab.Operations.l i72).bind fun agv => some (decide (agv.aO.len > 6))))) : Option (Bool)).bind fun agw => (bif agw then some (.out (.ret ())) else some (.next (aQ (i72 + 1))))) else some (.out (.go ())))
def He (yb : Action) : (Int) -> Option (cM (Int) (bK (Unit) (Unit))) := fun i133 => (bif (decide (i133 < yb.dM.fC.len)) then ((aR yb.dM.fC.l i133).bind fun agx => (bif (decide (agx.cY.len > 20)) then some (.out (.ret ())) else some (.next (aQ (i133 + 1))))) else some (.out (.go ())))
def Hf (ab : Model) : (Int) -> Option (cM (Int) (bK (Unit) (Unit))) := fun i103 => (bif (decide (i103 < ab.Actions.len)) then ((aR ab.Actions.l i103).bind fun yb => ((((aR ab.Actions.l i103).bind fun lF => (bif (decide (lF.dz.len > 6)) then some true else (bif (decide (yb.dM.Delta.len > 20)) then some true else (bif (decide (yb.dM.fC.len > 10)) then some true else some (decide (yb.dM.er.len > 40)))))) : Option (Bool)).bind fun agy => (bif agy then some (.out (.ret ())) else ((bU (He yb) 0 : Option (bK (Unit) (Unit))).bind fun agz => match agz with | .go _ => some (.next (aQ (i103 + 1))) | .ret _ => some (.out (.ret ())))))) else some (.out (.go ())))
def Hg (ab : Model) : Option (Bool) :=
 (((bif (decide (ab.aO.len > 8)) then some true else (bif (decide (ab.Tables.len > 6)) then some true else (bif (decide (ab.dR.len > 20)) then some true else (bif (decide (ab.c8.len > 60)) then some true else (bif (decide (ab.Operations.len > 8)) then some true else (bif (decide (ab.Actions.len > 30)) then some true else (bif (decide (ab.bn.len > 12)) then some true else ((G9 ab.aO ab.Tables).bind fun hG => some (!hG))))))))) : Option (Bool)).bind fun pC => (bif pC then some false else ((bU (Ha ab) 0 : Option (bK (Unit) (Unit))).bind fun uH => match uH with | .go _ => ((bU (Hb ab) 0 : Option (bK (Unit) (Unit))).bind fun agA => match agA with | .go _ => ((bU (Hd ab) 0 : Option (bK (Unit) (Unit))).bind fun MF => match MF with | .go _ => ((bU (Hf ab) 0 : Option (bK (Unit) (Unit))).bind fun agB => match agB with | .go _ => some true | .ret _ => some false) | .ret _ => some false) | .ret _ => some false) | .ret _ => some false)))
def agC (ab : (ak Bool)) (aB : Bool) : (Int) -> Option (cM (Int) (bK (Unit) (Int))) := fun i7 => (bif (decide (i7 < ab.len)) then ((aR ab.l i7).bind fun hG => (bif (aB == hG) then some (.out (.ret i7)) else some (.next (aQ (i7 + 1))))) else some (.out (.go ())))
def Vs (ab : (ak Bool)) (aB : Bool) : Option (Int) :=
 ((bU (agC ab aB) 0 : Option (bK (Unit) (Int))).bind fun gA => match gA with | .go _ => some (-1) | .ret agD => some agD)
def MG (ab : (ak Bool)) (aB : Bool) : Option (Bool) :=
 ((Vs ab aB).bind fun bu => some (decide (bu >= 0)))
def Au (ab : (ak Bool)) : Option (Bool) :=
 ((MG ab false).bind fun bu => some (!bu))
def agE (ab : (ak Int)) (aB : (Int -> Option Bool)) : (Int) -> Option (cM (Int) (bK (Unit) (Int))) := fun i7 => (bif (decide (i7 < ab.len)) then ((aR ab.l i7).bind fun hG => ((aB hG).bind fun fD => (bif fD then some (.out (.ret i7)) else some (.next (aQ (i7 + 1)))))) else some (.out (.go ())))
def Vt (ab : (ak Int)) (aB : (Int -> Option Bool)) : Option (Int) :=
 ((bU (agE ab aB) 0 : Option (bK (Unit) (Int))).bind fun gA => match gA with | .go _ => some (-1) | .ret uI => some uI)
def C7 (ab : (ak Int)) (aB : (Int -> Option Bool)) : Option (Bool) :=
 ((Vt ab aB).bind fun bu => some (decide (bu >= 0)))
def Hh (ab : Int) (aB : Int) (ha : Int) : Option (Bool) :=
 some ((decide (ab >= aB)) && (decide (ab <= ha)))
def MH (ab : Int) : Option (Bool) :=
 ((Hh ab 1 6).bind fun bu => some (!bu))
def Hi (ab : (ak Int)) : Option (Bool) :=
 ((C7 ab MH).bind fun bu => some (!bu))
def yc (ab : bQ) : Option (Bool) :=
 (((bif (decide ((ab.length : Int) <= 16)) then ((G6 ab).bind fun dd => some (dd == 1)) else some false) : Option (Bool)).bind fun gU => some gU)
def MI (as4 : (ak Int)) (ab : Int) : Option (Bool) :=
 some ((decide (ab < 0)) || (decide (ab >= as4.len)))
def Hj (ab : (ak Int)) (aB : (ak Int)) : Option (Bool) :=
 (((bif (decide (aB.len <= 3)) then ((C7 aB (fun z0 => MI ab z0)).bind fun Av => some (!Av)) else some false) : Option (Bool)).bind fun pC => some pC)
def Hk (ab : Table) : Option (Bool) :=
 (((((bif (ab.Kind == 1) then some (ab.Kind == 1) else (bif (ab.Kind == 4) then some (ab.Kind == 4) else some (ab.Kind == 5))) : Option (Bool)).bind fun gA => (bif gA then some (.ret ((decide (ab.Range.eN <= ab.Range.eO)) && ((decide (ab.Range.eN >= (-9999))) && (decide (ab.Range.eO <= 9999))))) else some (.go ()))) : Option (bK (Unit) (Bool))).bind fun pC => match pC with | .go _ => some ((ab.Range.eN == 0) && ((ab.Range.eO == 1) && true)) | .ret agF => some agF)
def Aw (ab : Table) : Option (Bool) :=
 some ((ab.Kind == 0) || (ab.Kind == 1))
def Hl (ab : (ak Int)) (aB : (ak Int)) : (Int × Int) -> Option (cM (Int × Int) (Int)) := fun ⟨i8, i9⟩ => (bif (decide (i9 < aB.len)) then ((aR aB.l i9).bind fun lG => ((aR ab.l lG).bind fun nT => some (.next ((aQ (i8 * nT)), (aQ (i9 + 1)))))) else some (.out i8))
def sP (ab : (ak Int)) (aB : (ak Int)) : Option (Int) :=
 ((bU (Hl ab aB) (1, 0) : Option (Int)).bind fun uJ => some uJ)
def Ax (ab : (ak Int)) (aB : (ak Table)) : (Int × Int × Int × (List (bQ × Bool))) -> Option (cM (Int × Int × Int × (List (bQ × Bool))) (bK (Int × Int) (Unit))) := fun ⟨i29, i30, i31, i32⟩ => (bif (decide (i29 < aB.len)) then ((aR aB.l i29).bind fun l2 => ((yc l2.Name).bind fun MJ => ((Hh l2.Kind 0 5).bind fun C8 => ((Hj ab l2.aX).bind fun MK => ((Hk l2).bind fun yd => ((Au (ak.mk [MJ, (!((ie i32 l2.Name).getD false)), C8, MK, yd])).bind fun ye => (bif ye then ((Aw l2).bind fun qA => (bif qA then (bif (l2.c2 != i31) then some (.out (.ret ())) else ((sP ab l2.aX).bind fun qB => some (.next ((aQ (i29 + 1)), i30, (aQ (i31 + qB)), (lC i32 l2.Name true))))) else (bif (l2.c2 != i30) then some (.out (.ret ())) else ((sP ab l2.aX).bind fun Ay => some (.next ((aQ (i29 + 1)), (aQ (i30 + Ay)), i31, (lC i32 l2.Name true))))))) else some (.out (.ret ()))))))))) else some (.out (.go (i30, i31))))
def Az (ab : (ak Int)) (aB : (ak Table)) : Option (Bool) :=
 ((Hi ab).bind fun bu => ((Au (ak.mk [(decide (ab.len <= 4)), (decide (aB.len <= 12)), bu])).bind fun cq => (bif cq then ((bU (Ax ab aB) (0, 0, 0, []) : Option (bK (Int × Int) (Unit))).bind fun agG => match agG with | .go (⟨agH, agI⟩) => some ((decide (agI <= 128)) && (decide (agH <= 64))) | .ret _ => some false) else some false)))
def C9 (ab : (ak bQ)) : (Int × (List (bQ × Bool))) -> Option (cM (Int × (List (bQ × Bool))) (bK (Unit) (Unit))) := fun ⟨i12, i13⟩ => (bif (decide (i12 < ab.len)) then ((aR ab.l i12).bind fun uK => ((((yc uK).bind fun uL => (bif uL then some ((ie i13 uK).getD false) else some true)) : Option (Bool)).bind fun agJ => (bif agJ then some (.out (.ret ())) else some (.next ((aQ (i12 + 1)), (lC i13 uK true)))))) else some (.out (.go ())))
def Da (ab : (ak bQ)) : Option (Bool) :=
 ((bU (C9 ab) (0, []) : Option (bK (Unit) (Unit))).bind fun rG => match rG with | .go _ => some true | .ret _ => some false)
def Db (ab : (ak Int)) (aB : (ak Table)) (ha : Bool) : (Int × (ak Range)) -> Option (cM (Int × (ak Range)) ((ak Range))) := fun ⟨i13, i14⟩ => (bif (decide (i13 < aB.len)) then ((aR aB.l i13).bind fun iG => ((Aw iG).bind fun nU => (bif (nU == ha) then ((sP ab iG.aX).bind fun C6 => ((C2 (ak.mk [iG.Range]) C6).bind fun l3 => ((rv 16 i14 l3).bind fun agK => some (.next ((aQ (i13 + 1)), agK))))) else some (.next ((aQ (i13 + 1)), i14))))) else some (.out i14))
def Hm (ab : (ak Int)) (aB : (ak Table)) (ha : Bool) : Option ((ak Range)) :=
 ((Az ab aB).bind fun bu => (bif bu then ((bU (Db ab aB ha) (0, .nil) : Option ((ak Range))).bind fun yf => some yf) else some ak.nil))
def l4 (ab : Int) (aB : Int) : Option (Bool) :=
 some ((decide (ab >= 0)) && (decide (ab < aB)))
def yg (ab : Int) (aB : Int) : Option (Bool) :=
 some ((decide (ab >= (aQ (0 - aB)))) && (decide (ab <= aB)))
def Dc (ab : dJ) (aB : Row) : (Int × Int) -> Option (cM (Int × Int) (bK (Unit) (Unit))) := fun ⟨i16, i17⟩ => (bif (decide (i17 < aB.cY.len)) then ((aR aB.cY.l i17).bind fun iG => (((bif (decide (iG.Cell <= i16)) then some true else (bif (decide (iG.Cell >= ab.strict.len)) then some true else (bif (iG.js == 0) then some true else ((yg iG.js 1000).bind fun pD => some (!pD))))) : Option (Bool)).bind fun ML => (bif ML then some (.out (.ret ())) else some (.next (iG.Cell, (aQ (i17 + 1))))))) else some (.out (.go ())))
def Dd (ab : dJ) (aB : Row) : Option (Bool) :=
 ((bU (Dc ab aB) ((-1), 0) : Option (bK (Unit) (Unit))).bind fun pE => match pE with | .go _ => ((yg aB.l1 1000000000).bind fun agL => some agL) | .ret _ => some false)
def agM (ab : (ak Table)) (aB : (Table -> Option Bool)) : (Int) -> Option (cM (Int) (bK (Unit) (Int))) := fun i7 => (bif (decide (i7 < ab.len)) then ((aR ab.l i7).bind fun hG => ((aB hG).bind fun fD => (bif fD then some (.out (.ret i7)) else some (.next (aQ (i7 + 1)))))) else some (.out (.go ())))
def Vu (ab : (ak Table)) (aB : (Table -> Option Bool)) : Option (Int) :=
 ((bU (agM ab aB) 0 : Option (bK (Unit) (Int))).bind fun gA => match gA with | .go _ => some (-1) | .ret uI => some uI)
def MM (ab : (ak Table)) (aB : (Table -> Option Bool)) : Option (Bool) :=
 ((Vu ab aB).bind fun bu => some (decide (bu >= 0)))
def Hn (as4 : Constraint) (agN : dJ) (ab : Table) : Option (Bool) :=
 (((bif (ab.Kind == 0) then (bif (ab.aX.len == 2) then ((aR ab.aX.l 0).bind fun yh => ((aR ab.aX.l 1).bind fun mr => (bif (yh == mr) then (bif (ab.c2 == as4.c2) then ((aR ab.aX.l 0).bind fun De => ((aR agN.Model.aO.l De).bind fun hG => some (hG == as4.qz))) else some false) else some false))) else some false) else some false) : Option (Bool)).bind fun pC => some pC)
def Ho (ab : dJ) (aB : Constraint) : Option (Bool) :=
 (((bif (aB.Row.cY.len == 0) then (bif (aB.Row.l1 == 0) then ((MM ab.Model.Tables (fun z0 => Hn aB ab z0)).bind fun De => some De) else some false) else some false) : Option (Bool)).bind fun yi => some yi)
def Hp (ab : (ak Term)) (aB : (ak Term)) : (Int) -> Option (cM (Int) (bK (Unit) (Unit))) := fun i8 => (bif (decide (i8 < ab.len)) then ((aR ab.l i8).bind fun fD => ((aR aB.l i8).bind fun lG => (bif ((fD.Cell == lG.Cell) && ((fD.js == lG.js) && true)) then some (.next (aQ (i8 + 1))) else some (.out (.ret ()))))) else some (.out (.go ())))
def AA (ab : (ak Term)) (aB : (ak Term)) : Option (Bool) :=
 (bif (ab.len != aB.len) then some false else ((bU (Hp ab aB) 0 : Option (bK (Unit) (Unit))).bind fun uJ => match uJ with | .go _ => some true | .ret _ => some false))
def Hq (ab : Row) (aB : Int) (ha : Int) (kb : Int) : Option (Bool) :=
 ((((AA ab.cY (ak.mk [(Term.mk aB ha)])).bind fun nV => (bif nV then some (ab.l1 == kb) else some false)) : Option (Bool)).bind fun pC => some pC)
def Df (ab : dJ) : (Int) -> Option (cM (Int) (bK (Unit) (Unit))) := fun i16 => (bif (decide (i16 < ab.Model.c8.len)) then ((aR ab.Model.c8.l i16).bind fun hH => ((((l4 hH.mq ab.Model.dR.len).bind fun nU => (bif nU then (bif (hH.Kind == 0) then (((bif (hH.c2 != 0) then some true else (bif (hH.qz != 0) then some true else ((Dd ab hH.Row).bind fun gk => some (!gk)))) : Option (Bool)).bind fun MN => (bif MN then some (.ret ()) else some (.go ()))) else (((bif (hH.Kind != 1) then some true else ((Ho ab hH).bind fun MJ => some (!MJ))) : Option (Bool)).bind fun agO => (bif agO then some (.ret ()) else some (.go ())))) else some (.ret ()))) : Option (bK (Unit) (Unit))).bind fun Dg => match Dg with | .go _ => (bif (decide ((aQ (i16.tdiv 2)) < ab.strict.len)) then ((aR ab.strict.l (aQ (i16.tdiv 2))).bind fun Ay => (((bif ((i16.tmod 2) == 0) then some ((-1), (aQ (0 - Ay.eN))) else some (1, Ay.eO)) : Option (Int × Int)).bind fun MO => match MO with | ⟨agP, agQ⟩ => (((bif (hH.Kind != 0) then some true else ((Hq hH.Row (aQ (i16.tdiv 2)) agP agQ).bind fun agR => some (!agR))) : Option (Bool)).bind fun agS => (bif agS then some (.out (.ret ())) else some (.next (aQ (i16 + 1))))))) else some (.next (aQ (i16 + 1)))) | .ret _ => some (.out (.ret ())))) else some (.out (.go ())))
def Hr (ab : dJ) : Option (Bool) :=
 (bif ((decide (ab.Model.c8.len > 512)) || (decide (ab.Model.c8.len < (aQ (2 * ab.strict.len))))) then some false else ((bU (Df ab) 0 : Option (bK (Unit) (Unit))).bind fun pE => match pE with | .go _ => some true | .ret _ => some false))
def Hs (as4 : dJ) (ab : Int) : Option (Bool) :=
 some ((decide (ab < (-1))) || (decide (ab >= as4.Model.aO.len)))
def Dh (ab : dJ) : (Int × (ak bQ)) -> Option (cM (Int × (ak bQ)) (bK ((ak bQ)) (Unit))) := fun ⟨i15, i16⟩ => (bif (decide (i15 < ab.Model.Operations.len)) then ((aR ab.Model.Operations.l i15).bind fun nW => ((rv 16 i16 (ak.mk [nW.Name])).bind fun MP => (((bif (decide (nW.aO.len > 3)) then some true else ((C7 nW.aO (fun z0 => Hs ab z0)).bind fun yj => some yj)) : Option (Bool)).bind fun MQ => (bif MQ then some (.out (.ret ())) else some (.next ((aQ (i15 + 1)), MP)))))) else some (.out (.go i16)))
def Ht (ab : dJ) : Option (Bool) :=
 ((bU (Dh ab) (0, .nil) : Option (bK ((ak bQ)) (Unit))).bind fun MR => match MR with | .go Vv => (((bif (decide (Vv.len <= 8)) then ((Da Vv).bind fun MS => some MS) else some false) : Option (Bool)).bind fun MO => some MO) | .ret _ => some false)
def Hu (ab : Int) : Option (Bool) :=
 some (ab != ab)
def Hv (ab : Int) (aB : Int) : Option (Int) :=
 ((Hu ab).bind fun bu => ((Hu aB).bind fun cq => (bif bu then (bif cq then some 0 else some (-1)) else (bif cq then some 1 else (bif (decide (ab < aB)) then some (-1) else (bif (decide (ab > aB)) then some 1 else some 0))))))
def AB (ab : (ak Int)) (aB : (ak Int)) : (Int) -> Option (cM (Int) (bK (Unit) (Int))) := fun i7 => (bif (decide (i7 < ab.len)) then ((aR ab.l i7).bind fun hG => (bif (decide (i7 >= aB.len)) then some (.out (.ret 1)) else ((aR aB.l i7).bind fun lG => ((Hv hG lG).bind fun nT => (bif (nT != 0) then some (.out (.ret nT)) else some (.next (aQ (i7 + 1)))))))) else some (.out (.go ())))
def Di (ab : (ak Int)) (aB : (ak Int)) : Option (Int) :=
 ((bU (AB ab aB) 0 : Option (bK (Unit) (Int))).bind fun gA => match gA with | .go _ => (bif (decide (ab.len < aB.len)) then some (-1) else some 0) | .ret agT => some agT)
def Hw (ab : (ak Int)) (hH : Table) : (Int × Int × (ak Int)) -> Option (cM (Int × Int × (ak Int)) ((ak Int))) := fun ⟨i58, i59, i60⟩ => (bif (decide (i59 >= 0)) then ((aR hH.aX.l i59).bind fun MS => ((aR ab.l MS).bind fun rH => ((Al i58 rH).bind fun agU => ((Ak i58 rH).bind fun Hx => ((aR i60.l i59).bind fun Vw => ((aR i60.l i59).bind fun atd => some (.next (Hx, (aQ (i59 - 1)), (nR i60 i59 agU))))))))) else some (.out i60))
def Dj (ab : (ak Int)) (aB : (ak Table)) (ha : Bool) (kb : Int) : (Int) -> Option (cM (Int) (bK (Unit) (Int × (ak Int)))) := fun i16 => (bif (decide (i16 < aB.len)) then ((aR aB.l i16).bind fun hH => ((((Aw hH).bind fun nU => (bif (nU == ha) then (bif (decide ((aQ (kb - hH.c2)) < 0)) then some true else ((sP ab hH.aX).bind fun l3 => some (decide ((aQ (kb - hH.c2)) >= l3)))) else some true)) : Option (Bool)).bind fun Dg => (bif Dg then some (.next (aQ (i16 + 1))) else ((vZ 8 0 hH.aX.len).bind fun Dk => ((bU (Hw ab hH) ((aQ (kb - hH.c2)), (aQ (Dk.len - 1)), Dk) : Option ((ak Int))).bind fun MT => some (.out (.ret (i16, MT)))))))) else some (.out (.go ())))
def Hy (ab : (ak Int)) (aB : (ak Table)) (ha : Bool) (kb : Int) : Option (Int × (ak Int) × Bool) :=
 ((((Az ab aB).bind fun cq => (bif cq then some (decide (kb < 0)) else some true)) : Option (Bool)).bind fun gU => (bif gU then some (0, ak.nil, false) else ((bU (Dj ab aB ha kb) 0 : Option (bK (Unit) (Int × (ak Int)))).bind fun pE => match pE with | .go _ => some (0, ak.nil, false) | .ret (⟨agV, agW⟩) => some (agV, agW, true))))
def Hz (ab : dJ) (aB : jt) : Option (Bool) :=
 ((Hy ab.Model.aO ab.Model.Tables false aB.Cell).bind fun mr => (bif mr.2.2 then ((aR ab.Model.Tables.l mr.1).bind fun uM => (((bif (uM.Kind == 2) then some (uM.Kind == 2) else some (uM.Kind == 3)) : Option (Bool)).bind fun Dl => (bif Dl then some (bif (aB.Kind == 0) then (aB.Value == 0) else ((aB.Kind == 1) && (aB.Value == 0))) else some ((aB.Kind == 2) && ((decide (aB.Value >= uM.Range.eN)) && (decide (aB.Value <= uM.Range.eO))))))) else some false))
def agX (ab : (ak Row)) (aB : (Row -> Option Bool)) : (Int) -> Option (cM (Int) (bK (Unit) (Int))) := fun i7 => (bif (decide (i7 < ab.len)) then ((aR ab.l i7).bind fun hG => ((aB hG).bind fun fD => (bif fD then some (.out (.ret i7)) else some (.next (aQ (i7 + 1)))))) else some (.out (.go ())))
def Vx (ab : (ak Row)) (aB : (Row -> Option Bool)) : Option (Int) :=
 ((bU (agX ab aB) 0 : Option (bK (Unit) (Int))).bind fun gA => match gA with | .go _ => some (-1) | .ret uI => some uI)
def MU (ab : (ak Row)) (aB : (Row -> Option Bool)) : Option (Bool) :=
 ((Vx ab aB).bind fun bu => some (decide (bu >= 0)))
def HA (as4 : dJ) (ab : Row) : Option (Bool) :=
 ((Dd as4 ab).bind fun eM => some (!eM))
def Dm (ab : dJ) (aB : dM) : (Int × Int) -> Option (cM (Int × Int) (bK (Unit) (Unit))) := fun ⟨i16, i17⟩ => (bif (decide (i17 < aB.Delta.len)) then ((aR aB.Delta.l i17).bind fun iG => (((bif (decide (iG.Cell <= i16)) then some true else (bif (decide (iG.Cell >= ab.strict.len)) then some true else (bif (iG.Add == 0) then some true else ((yg iG.Add 1000000000).bind fun pD => some (!pD))))) : Option (Bool)).bind fun ML => (bif ML then some (.out (.ret ())) else some (.next (iG.Cell, (aQ (i17 + 1))))))) else some (.out (.go ())))
def Dn (ab : dJ) (aB : dM) : (Int × Int) -> Option (cM (Int × Int) (bK (Unit) (Unit))) := fun ⟨i57, i58⟩ => (bif (decide (i58 < aB.er.len)) then ((aR aB.er.l i58).bind fun MV => (((bif (decide (MV.Cell <= i57)) then some true else ((Hz ab MV).bind fun Vw => some (!Vw))) : Option (Bool)).bind fun MF => (bif MF then some (.out (.ret ())) else some (.next (MV.Cell, (aQ (i58 + 1))))))) else some (.out (.go ())))
def HB (ab : dJ) (aB : dM) : Option (Bool) :=
 ((bU (Dm ab aB) ((-1), 0) : Option (bK (Unit) (Unit))).bind fun pE => match pE with | .go _ => ((bU (Dn ab aB) ((-1), 0) : Option (bK (Unit) (Unit))).bind fun agY => match agY with | .go _ => (((bif (decide (aB.fC.len <= 8)) then (bif (decide (aB.er.len <= 32)) then ((MU aB.fC (fun z0 => HA ab z0)).bind fun MW => some (!MW)) else some false) else some false) : Option (Bool)).bind fun agZ => some agZ) | .ret _ => some false) | .ret _ => some false)
def HC (ab : dJ) (da : Action) (AD : cG) : (Int) -> Option (cM (Int) (bK (Unit) (Unit))) := fun i42 => (bif (decide (i42 < AD.aO.len)) then ((aR AD.aO.l i42).bind fun yd => ((aR da.dz.l i42).bind fun ye => (((bif (decide (yd < 0)) then ((yg ye 9999).bind fun MX => (bif MX then (bif (decide (yd >= 0)) then ((aR ab.Model.aO.l yd).bind fun ME => ((l4 ye ME).bind fun qB => some (!qB))) else some false) else some true)) else (bif (decide (yd >= 0)) then ((aR ab.Model.aO.l yd).bind fun MY => ((l4 ye MY).bind fun MZ => some (!MZ))) else some false)) : Option (Bool)).bind fun Dp => (bif Dp then some (.out (.ret ())) else some (.next (aQ (i42 + 1))))))) else some (.out (.go ())))
def Dq (ab : dJ) : (Int) -> Option (cM (Int) (bK (Unit) (Unit))) := fun i12 => (bif (decide (i12 < ab.Model.Actions.len)) then ((aR ab.Model.Actions.l i12).bind fun da => ((((l4 da.cG ab.Model.Operations.len).bind fun kX => (bif kX then ((aR ab.Model.Operations.l da.cG).bind fun nh => some (da.dz.len != nh.aO.len)) else some true)) : Option (Bool)).bind fun uH => (bif uH then some (.out (.ret ())) else ((aR ab.Model.Operations.l da.cG).bind fun AD => ((bU (HC ab da AD) 0 : Option (bK (Unit) (Unit))).bind fun ag0 => match ag0 with | .go _ => (((bif (decide (i12 > 0)) then ((aR ab.Model.Actions.l (aQ (i12 - 1))).bind fun atd => (((bif (decide (atd.cG > da.cG)) then some true else (bif (atd.cG == da.cG) then ((Di atd.dz da.dz).bind fun Dr => some (decide (Dr >= 0))) else some false)) : Option (Bool)).bind fun M0 => (bif M0 then some (.ret ()) else some (.go ())))) else some (.go ())) : Option (bK (Unit) (Unit))).bind fun M1 => match M1 with | .go _ => ((HB ab da.dM).bind fun Ds => (bif Ds then some (.next (aQ (i12 + 1))) else some (.out (.ret ())))) | .ret _ => some (.out (.ret ()))) | .ret _ => some (.out (.ret ()))))))) else some (.out (.go ())))
def HD (ab : dJ) : Option (Bool) :=
 (bif (decide (ab.Model.Actions.len > 256)) then some false else ((bU (Dq ab) 0 : Option (bK (Unit) (Unit))).bind fun rG => match rG with | .go _ => some true | .ret _ => some false))
def Dt (ab : Model) : Option (Bool) :=
 ((((Az ab.aO ab.Tables).bind fun nV => (bif nV then (bif (decide (ab.dR.len > 24)) then some true else ((Da ab.dR).bind fun mr => some (!mr))) else some true)) : Option (Bool)).bind fun pC => (bif pC then some false else ((Hm ab.aO ab.Tables true).bind fun nT => ((((Hr (dJ.mk ab nT)).bind fun yk => (bif yk then ((Ht (dJ.mk ab nT)).bind fun kX => (bif kX then ((HD (dJ.mk ab nT)).bind fun nh => (bif nh then ((Vq (dJ.mk ab nT)).bind fun nU => some nU) else some false)) else some false)) else some false)) : Option (Bool)).bind fun ag1 => some ag1))))
def ah5 (ab : (ak fN)) (aB : (fN -> Option Bool)) : (Int) -> Option (cM (Int) (bK (Unit) (Int))) := fun i7 => (bif (decide (i7 < ab.len)) then ((aR ab.l i7).bind fun hG => ((aB hG).bind fun fD => (bif fD then some (.out (.ret i7)) else some (.next (aQ (i7 + 1)))))) else some (.out (.go ())))
def Vy (ab : (ak fN)) (aB : (fN -> Option Bool)) : Option (Int) :=
 ((bU (ah5 ab aB) 0 : Option (bK (Unit) (Int))).bind fun gA => match gA with | .go _ => some (-1) | .ret uI => some uI)
def DX (ab : (ak fN)) (aB : (fN -> Option Bool)) : Option (Bool) :=
 ((Vy ab aB).bind fun bu => some (decide (bu >= 0)))
def yt (ab : Int) : Option (Bool) :=
 some ((decide (ab >= 97)) && (decide (ab <= 122)))
def yu (ab : Int) : Option (Bool) :=
 some ((decide (ab >= 48)) && (decide (ab <= 57)))
def Nk (ab : bQ) (aB : bQ) : Option (Bool) :=
 (((bif (decide ((ab.length : Int) >= (aB.length : Int))) then ((oH ab 0 (aB.length : Int)).bind fun dd => some (dd == aB)) else some false) : Option (Bool)).bind fun gU => some gU)
def H6 (ab : bQ) (aB : bQ) : Option (Bool) :=
 ((Nk ab aB).bind fun bu => some bu)
def DY (ab : bQ) : (Int) -> Option (cM (Int) (bK (Unit) (Unit))) := fun i7 => (bif (decide (i7 < (ak.mk [[61, 61], [33, 61], [60, 61], [62, 61], [46, 46]]).len)) then ((aR (ak.mk [[61, 61], [33, 61], [60, 61], [62, 61], [46, 46]]).l i7).bind fun hG => ((H6 ab hG).bind fun fD => (bif fD then some (.out (.ret ())) else some (.next (aQ (i7 + 1)))))) else some (.out (.go ())))
def AK (ab : bQ) : Option (Int) :=
 ((bU (DY ab) 0 : Option (bK (Unit) (Unit))).bind fun gA => match gA with | .go _ => (((bif (ab != []) then ((aR ab 0).bind fun il => ((strings_IndexByte [60, 62, 61, 43, 45, 42, 40, 41, 123, 125, 44, 58, 59] (il.toNat : Int)).bind fun nh => some (decide (nh >= 0)))) else some false) : Option (Bool)).bind fun uH => (bif uH then some 1 else some 0)) | .ret _ => some 2)
def DZ (ab : bQ) : Option (Bool) :=
 ((((aR ab 0).bind fun cq => ((yt (cq.toNat : Int)).bind fun dd => (bif dd then some true else ((aR ab 0).bind fun eM => ((yu (eM.toNat : Int)).bind fun nV => (bif nV then some true else ((AK ab).bind fun yh => some (decide (yh > 0))))))))) : Option (Bool)).bind fun gU => some gU)
def D0 (ab : bQ) (aB : (Int -> Option Bool)) : (Int) -> Option (cM (Int) (Int)) := fun i7 => (((bif (decide (i7 < (ab.length : Int))) then ((aR ab i7).bind fun fD => ((aB (fD.toNat : Int)).bind fun lG => some lG)) else some false) : Option (Bool)).bind fun yf => (bif yf then some (.next (aQ (i7 + 1))) else some (.out i7)))
def AL (ab : bQ) (aB : (Int -> Option Bool)) : Option (Int) :=
 ((bU (D0 ab aB) 0 : Option (Int)).bind fun gA => some gA)
def AM (ab : Int) : Option (Bool) :=
 some ((ab == 32) || ((ab == 9) || ((ab == 10) || (ab == 13))))
def AO (ab : Int) : Option (Bool) :=
 some (ab != 10)
def AP (ab : bQ) : (Int) -> Option (cM (Int) (bK (Int) (Int))) := fun i7 => (bif (decide (i7 < (ab.length : Int))) then ((aR ab i7).bind fun hG => ((AM (hG.toNat : Int)).bind fun fD => (bif fD then some (.next (aQ (i7 + 1))) else ((aR ab i7).bind fun nT => (bif ((nT.toNat : Int) == 35) then ((oH ab i7 (ab.length : Int)).bind fun da => ((AL da AO).bind fun uK => some (.next (aQ (i7 + uK))))) else some (.out (.ret i7))))))) else some (.out (.go i7)))
def D1 (ab : bQ) : Option (Int) :=
 ((bU (AP ab) 0 : Option (bK (Int) (Int))).bind fun gA => match gA with | .go ah6 => some ah6 | .ret ah7 => some ah7)
def D2 (ab : Int) : Option (Bool) :=
 ((((yt ab).bind fun cq => (bif cq then some true else ((yu ab).bind fun kc => (bif kc then some true else some (ab == 95))))) : Option (Bool)).bind fun gU => some gU)
def as3 (as4 : Int) (ab : Int) : Option (Int) :=
 ((Al (aQ as4) (max ab 1)).bind fun bu => some bu)
def atp (ab : Model) (aB : Bool) : Option ((ak Range)) :=
 ((Dt ab).bind fun eM => (bif eM then ((Hm ab.aO ab.Tables aB).bind fun Av => some Av) else some ak.nil))
def asM (ab : Model) : Option ((ak Range)) :=
 ((atp ab true).bind fun eM => some eM)
def asV (ab : Model) : Option ((ak Range)) :=
 ((atp ab false).bind fun eM => some eM)
def asW (m : Model) (s : bQ) : Option (Int × Int) := (Dt m).bind fun v => bif v then none else some (0, 1)
def asX (m : Model) (i : Int) : Option bQ := (Dt m).bind fun v => bif v then ((l4 i m.Actions.len).bind fun y => bif y then ((aR m.Actions.l i).bind fun z => none) else some []) else some []
def asY (m : Model) (i : Int) : Option bQ := (Dt m).bind fun v => bif v then none else some []
def atB (ab : Model) (aB : Int) (ha : Int) : Option (Bool) :=
 ((MD).bind fun mr => (bif mr then ((((Hg ab).bind fun De => (bif De then ((Dt ab).bind fun fD => some (!fD)) else some true)) : Option (Bool)).bind fun rG => (bif rG then some true else (bif (((aQ aB).tmod 8) == 0) then ((asR 16 ab.dR).bind fun auG => ((rv 16 auG (ak.mk [[87, 114, 111, 110, 103]])).bind fun atq => ((asW (Model.mk ab.aO ab.Tables atq ab.c8 ab.Operations ab.Actions ab.bn) [111, 40, 41]).bind fun Nc => ((((Dt (Model.mk ab.aO ab.Tables atq ab.c8 ab.Operations ab.Actions ab.bn)).bind fun C8 => (bif C8 then some false else (bif (Nc.2 == 1) then ((asM (Model.mk ab.aO ab.Tables atq ab.c8 ab.Operations ab.Actions ab.bn)).bind fun ye => (bif ye.isNil then (bif (0 == 0) then ((asV (Model.mk ab.aO ab.Tables atq ab.c8 ab.Operations ab.Actions ab.bn)).bind fun atJ => (bif atJ.isNil then ((asX (Model.mk ab.aO ab.Tables atq ab.c8 ab.Operations ab.Actions ab.bn) 0).bind fun MX => (bif (MX == []) then ((asY (Model.mk ab.aO ab.Tables atq ab.c8 ab.Operations ab.Actions ab.bn) 0).bind fun yq => some (yq == [])) else some false)) else none)) else some false) else none)) else some false))) : Option (Bool)).bind fun atK => some atK)))) else (bif ((((aQ aB).tmod 8) == 1) && (decide (ab.c8.len > 0))) then ((asR 64 ab.c8).bind fun ate => ((as3 ha ab.c8.len).bind fun atf => ((aR ate.l atf).bind fun av7 => ((aR ate.l atf).bind fun agu => ((asW (Model.mk ab.aO ab.Tables ab.dR (nR ate atf (Constraint.mk agu.Kind ab.dR.len agu.Row agu.c2 agu.qz)) ab.Operations ab.Actions ab.bn) [111, 40, 41]).bind fun ah3 => ((((Dt (Model.mk ab.aO ab.Tables ab.dR (nR ate atf (Constraint.mk agu.Kind ab.dR.len agu.Row agu.c2 agu.qz)) ab.Operations ab.Actions ab.bn)).bind fun ahq => (bif ahq then some false else (bif (ah3.2 == 1) then ((asM (Model.mk ab.aO ab.Tables ab.dR (nR ate atf (Constraint.mk agu.Kind ab.dR.len agu.Row agu.c2 agu.qz)) ab.Operations ab.Actions ab.bn)).bind fun auH => (bif auH.isNil then (bif (0 == 0) then ((asV (Model.mk ab.aO ab.Tables ab.dR (nR ate atf (Constraint.mk agu.Kind ab.dR.len agu.Row agu.c2 agu.qz)) ab.Operations ab.Actions ab.bn)).bind fun auI => (bif auI.isNil then ((asX (Model.mk ab.aO ab.Tables ab.dR (nR ate atf (Constraint.mk agu.Kind ab.dR.len agu.Row agu.c2 agu.qz)) ab.Operations ab.Actions ab.bn) 0).bind fun MW => (bif (MW == []) then ((asY (Model.mk ab.aO ab.Tables ab.dR (nR ate atf (Constraint.mk agu.Kind ab.dR.len agu.Row agu.c2 agu.qz)) ab.Operations ab.Actions ab.bn) 0).bind fun auJ => some (auJ == [])) else some false)) else none)) else some false) else none)) else some false))) : Option (Bool)).bind fun ag8 => some ag8)))))) else (((bif (((aQ aB).tmod 8) == 2) then ((asM ab).bind fun auK => some (decide (auK.len > 0))) else some false) : Option (Bool)).bind fun auL => (bif auL then ((asR 64 ab.c8).bind fun as5 => ((asM ab).bind fun auM => ((as3 ha (aQ (2 * auM.len))).bind fun as6 => ((aR as5.l as6).bind fun av8 => ((aR as5.l as6).bind fun atr => ((aR as5.l as6).bind fun av9 => ((aR as5.l as6).bind fun asw => ((asW (Model.mk ab.aO ab.Tables ab.dR (nR as5 as6 (Constraint.mk asw.Kind asw.mq (Row.mk asw.Row.cY (aQ (atr.Row.l1 + 1))) asw.c2 asw.qz)) ab.Operations ab.Actions ab.bn) [111, 40, 41]).bind fun auN => ((((Dt (Model.mk ab.aO ab.Tables ab.dR (nR as5 as6 (Constraint.mk asw.Kind asw.mq (Row.mk asw.Row.cY (aQ (atr.Row.l1 + 1))) asw.c2 asw.qz)) ab.Operations ab.Actions ab.bn)).bind fun auO => (bif auO then some false else (bif (auN.2 == 1) then ((asM (Model.mk ab.aO ab.Tables ab.dR (nR as5 as6 (Constraint.mk asw.Kind asw.mq (Row.mk asw.Row.cY (aQ (atr.Row.l1 + 1))) asw.c2 asw.qz)) ab.Operations ab.Actions ab.bn)).bind fun agx => (bif agx.isNil then (bif (0 == 0) then ((asV (Model.mk ab.aO ab.Tables ab.dR (nR as5 as6 (Constraint.mk asw.Kind asw.mq (Row.mk asw.Row.cY (aQ (atr.Row.l1 + 1))) asw.c2 asw.qz)) ab.Operations ab.Actions ab.bn)).bind fun auP => (bif auP.isNil then ((asX (Model.mk ab.aO ab.Tables ab.dR (nR as5 as6 (Constraint.mk asw.Kind asw.mq (Row.mk asw.Row.cY (aQ (atr.Row.l1 + 1))) asw.c2 asw.qz)) ab.Operations ab.Actions ab.bn) 0).bind fun auQ => (bif (auQ == []) then ((asY (Model.mk ab.aO ab.Tables ab.dR (nR as5 as6 (Constraint.mk asw.Kind asw.mq (Row.mk asw.Row.cY (aQ (atr.Row.l1 + 1))) asw.c2 asw.qz)) ab.Operations ab.Actions ab.bn) 0).bind fun auR => some (auR == [])) else some false)) else none)) else some false) else none)) else some false))) : Option (Bool)).bind fun auS => some auS))))))))) else (bif ((((aQ aB).tmod 8) == 3) && (decide (ab.Actions.len > 0))) then ((asR 104 ab.Actions).bind fun auT => ((as3 ha ab.Actions.len).bind fun ahQ => ((aR ab.Actions.l ahQ).bind fun auU => ((rv 104 auT (ak.mk [auU])).bind fun ats => ((asW (Model.mk ab.aO ab.Tables ab.dR ab.c8 ab.Operations ats ab.bn) [111, 40, 41]).bind fun auV => ((((Dt (Model.mk ab.aO ab.Tables ab.dR ab.c8 ab.Operations ats ab.bn)).bind fun auW => (bif auW then some false else (bif (auV.2 == 1) then ((asM (Model.mk ab.aO ab.Tables ab.dR ab.c8 ab.Operations ats ab.bn)).bind fun auX => (bif auX.isNil then (bif (0 == 0) then ((asV (Model.mk ab.aO ab.Tables ab.dR ab.c8 ab.Operations ats ab.bn)).bind fun ys => (bif ys.isNil then ((asX (Model.mk ab.aO ab.Tables ab.dR ab.c8 ab.Operations ats ab.bn) 0).bind fun auY => (bif (auY == []) then ((asY (Model.mk ab.aO ab.Tables ab.dR ab.c8 ab.Operations ats ab.bn) 0).bind fun auZ => some (auZ == [])) else some false)) else none)) else some false) else none)) else some false))) : Option (Bool)).bind fun au0 => some au0)))))) else (bif ((((aQ aB).tmod 8) == 4) && (decide (ab.Actions.len > 0))) then ((asR 104 ab.Actions).bind fun atg => ((as3 ha ab.Actions.len).bind fun ath => ((asM ab).bind fun ahV => ((aR atg.l ath).bind fun awa => ((aR atg.l ath).bind fun asK => ((asW (Model.mk ab.aO ab.Tables ab.dR ab.c8 ab.Operations (nR atg ath (Action.mk asK.cG asK.dz (dM.mk (ak.mk [(Change.mk ahV.len 1)]) asK.dM.fC asK.dM.er))) ab.bn) [111, 40, 41]).bind fun au1 => ((((Dt (Model.mk ab.aO ab.Tables ab.dR ab.c8 ab.Operations (nR atg ath (Action.mk asK.cG asK.dz (dM.mk (ak.mk [(Change.mk ahV.len 1)]) asK.dM.fC asK.dM.er))) ab.bn)).bind fun au2 => (bif au2 then some false else (bif (au1.2 == 1) then ((asM (Model.mk ab.aO ab.Tables ab.dR ab.c8 ab.Operations (nR atg ath (Action.mk asK.cG asK.dz (dM.mk (ak.mk [(Change.mk ahV.len 1)]) asK.dM.fC asK.dM.er))) ab.bn)).bind fun au3 => (bif au3.isNil then (bif (0 == 0) then ((asV (Model.mk ab.aO ab.Tables ab.dR ab.c8 ab.Operations (nR atg ath (Action.mk asK.cG asK.dz (dM.mk (ak.mk [(Change.mk ahV.len 1)]) asK.dM.fC asK.dM.er))) ab.bn)).bind fun au4 => (bif au4.isNil then ((asX (Model.mk ab.aO ab.Tables ab.dR ab.c8 ab.Operations (nR atg ath (Action.mk asK.cG asK.dz (dM.mk (ak.mk [(Change.mk ahV.len 1)]) asK.dM.fC asK.dM.er))) ab.bn) 0).bind fun au5 => (bif (au5 == []) then ((asY (Model.mk ab.aO ab.Tables ab.dR ab.c8 ab.Operations (nR atg ath (Action.mk asK.cG asK.dz (dM.mk (ak.mk [(Change.mk ahV.len 1)]) asK.dM.fC asK.dM.er))) ab.bn) 0).bind fun au6 => some (au6 == [])) else some false)) else none)) else some false) else none)) else some false))) : Option (Bool)).bind fun au7 => some au7))))))) else (bif ((((aQ aB).tmod 8) == 5) && (decide (ab.Actions.len > 0))) then ((asR 104 ab.Actions).bind fun ati => ((as3 ha ab.Actions.len).bind fun atj => ((aR ati.l atj).bind fun awb => ((aR ati.l atj).bind fun asZ => ((asW (Model.mk ab.aO ab.Tables ab.dR ab.c8 ab.Operations (nR ati atj (Action.mk asZ.cG (ak.mk [0, 0, 0, 0]) asZ.dM)) ab.bn) [111, 40, 41]).bind fun au8 => ((((Dt (Model.mk ab.aO ab.Tables ab.dR ab.c8 ab.Operations (nR ati atj (Action.mk asZ.cG (ak.mk [0, 0, 0, 0]) asZ.dM)) ab.bn)).bind fun au9 => (bif au9 then some false else (bif (au8.2 == 1) then ((asM (Model.mk ab.aO ab.Tables ab.dR ab.c8 ab.Operations (nR ati atj (Action.mk asZ.cG (ak.mk [0, 0, 0, 0]) asZ.dM)) ab.bn)).bind fun ava => (bif ava.isNil then (bif (0 == 0) then ((asV (Model.mk ab.aO ab.Tables ab.dR ab.c8 ab.Operations (nR ati atj (Action.mk asZ.cG (ak.mk [0, 0, 0, 0]) asZ.dM)) ab.bn)).bind fun avb => (bif avb.isNil then ((asX (Model.mk ab.aO ab.Tables ab.dR ab.c8 ab.Operations (nR ati atj (Action.mk asZ.cG (ak.mk [0, 0, 0, 0]) asZ.dM)) ab.bn) 0).bind fun avc => (bif (avc == []) then ((asY (Model.mk ab.aO ab.Tables ab.dR ab.c8 ab.Operations (nR ati atj (Action.mk asZ.cG (ak.mk [0, 0, 0, 0]) asZ.dM)) ab.bn) 0).bind fun avd => some (avd == [])) else some false)) else none)) else some false) else none)) else some false))) : Option (Bool)).bind fun ave => some ave)))))) else (bif (((aQ aB).tmod 8) == 6) then ((asR 24 ab.bn).bind fun avf => ((as3 ha ab.Tables.len).bind fun avg => ((as3 ha ab.Tables.len).bind fun avh => ((rv 24 avf (ak.mk [(fN.mk avg 0 avh)])).bind fun att => ((asW (Model.mk ab.aO ab.Tables ab.dR ab.c8 ab.Operations ab.Actions att) [111, 40, 41]).bind fun avi => ((((Dt (Model.mk ab.aO ab.Tables ab.dR ab.c8 ab.Operations ab.Actions att)).bind fun avj => (bif avj then some false else (bif (avi.2 == 1) then ((asM (Model.mk ab.aO ab.Tables ab.dR ab.c8 ab.Operations ab.Actions att)).bind fun avk => (bif avk.isNil then (bif (0 == 0) then ((asV (Model.mk ab.aO ab.Tables ab.dR ab.c8 ab.Operations ab.Actions att)).bind fun avl => (bif avl.isNil then ((asX (Model.mk ab.aO ab.Tables ab.dR ab.c8 ab.Operations ab.Actions att) 0).bind fun avm => (bif (avm == []) then ((asY (Model.mk ab.aO ab.Tables ab.dR ab.c8 ab.Operations ab.Actions att) 0).bind fun avn => some (avn == [])) else some false)) else none)) else some false) else none)) else some false))) : Option (Bool)).bind fun avo => some avo)))))) else (bif ((((aQ aB).tmod 8) == 7) && (decide (ab.Tables.len > 0))) then ((asR 72 ab.Tables).bind fun as7 => ((as3 ha ab.Tables.len).bind fun as8 => ((aR as7.l as8).bind fun awc => ((aR as7.l as8).bind fun atu => ((aR as7.l as8).bind fun awd => ((aR as7.l as8).bind fun asL => ((asW (Model.mk ab.aO (nR as7 as8 (Table.mk asL.Name asL.Kind asL.aX asL.Range (aQ (atu.c2 + 1)))) ab.dR ab.c8 ab.Operations ab.Actions ab.bn) [111, 40, 41]).bind fun avp => ((((Dt (Model.mk ab.aO (nR as7 as8 (Table.mk asL.Name asL.Kind asL.aX asL.Range (aQ (atu.c2 + 1)))) ab.dR ab.c8 ab.Operations ab.Actions ab.bn)).bind fun avq => (bif avq then some false else (bif (avp.2 == 1) then ((asM (Model.mk ab.aO (nR as7 as8 (Table.mk asL.Name asL.Kind asL.aX asL.Range (aQ (atu.c2 + 1)))) ab.dR ab.c8 ab.Operations ab.Actions ab.bn)).bind fun avr => (bif avr.isNil then (bif (0 == 0) then ((asV (Model.mk ab.aO (nR as7 as8 (Table.mk asL.Name asL.Kind asL.aX asL.Range (aQ (atu.c2 + 1)))) ab.dR ab.c8 ab.Operations ab.Actions ab.bn)).bind fun avs => (bif avs.isNil then ((asX (Model.mk ab.aO (nR as7 as8 (Table.mk asL.Name asL.Kind asL.aX asL.Range (aQ (atu.c2 + 1)))) ab.dR ab.c8 ab.Operations ab.Actions ab.bn) 0).bind fun avt => (bif (avt == []) then ((asY (Model.mk ab.aO (nR as7 as8 (Table.mk asL.Name asL.Kind asL.aX asL.Range (aQ (atu.c2 + 1)))) ab.dR ab.c8 ab.Operations ab.Actions ab.bn) 0).bind fun avu => some (avu == [])) else some false)) else none)) else some false) else none)) else some false))) : Option (Bool)).bind fun avv => some avv)))))))) else some true))))))))))) else some false))
end
end Go.Abs.b1
namespace Go.Abs.gB
open Go Go.Abs
inductive aN (ay : Nat -> Type) : Type where
 | int (k : IntKind) (n : Int)
 | cj (b : Bool)
 | bo (i : Nat) (neg : Bool)
 | str (s : bQ)
 | sl (t : Nat) (s : ak (ay t))
 | k (v : V)
 | agg (vs : List (aN ay))
 | ba (vs : List (aN ay))
 | dB (vs : List (aN ay)) (f : Nat)
 | ptr (o off : Nat)
 | row (o : Nat)
 | im (o : Nat) (n : Int) (f : Nat)
 | fn (i : Nat) (caps : List (aN ay))
 | fv (j : Nat)
 | kd
structure hP where
 ay : Nat -> Type
 es : Nat -> Nat
 enc : (t : Nat) -> ay t -> V
 lD : (t : Nat) -> ay t -> Nat -> aN ay
 we : (t : Nat) -> ay t -> List Bool
 iH : (t : Nat) -> aN ay -> List Bool -> Option (ay t)
 a8 : Nat -> Bool
 dq : Nat -> Option Nat
 beq : (t : Nat) -> ay t -> ay t -> Bool
 mp : Nat -> Option (Nat × Nat)
 Vz : ∀ c p, mp c = some p -> ay c = List (ay p.1 × ay p.2)
section
variable (J : hP) (B : List Bool) (ρ : List V) (fs : List V)
mutual
inductive bY : aN J.ay -> V -> Prop
 | int {k : IntKind} {n : Int} : bY (.int k n) (.int k n)
 | cj {b : Bool} : bY (.cj b) (.bool b)
 | bo {i : Nat} {b neg : Bool} (h : B[i]? = some b) : bY (.bo i neg) (.bool (b != neg))
 | str {s : bQ} : bY (.str s) (.str s)
 | sl {t : Nat} {s : ak (J.ay t)} : bY (.sl t s) (bP (J.es t) (J.enc t) s)
 | k {v : V} : bY (.k v) v
 | agg {vs : List (aN J.ay)} {ws : List V} (h : bp vs ws) : bY (.agg vs) (.agg ws)
 | ba {vs : List (aN J.ay)} {ws : List V} (h : bp vs ws) : bY (.ba vs) (.ba ws)
 | dB {vs : List (aN J.ay)} {ws : List V} {f : Nat} (h : bp vs ws) : bY (.dB vs f) (.dB ws f)
 | ptr {o off a : Nat} (h : ρ[o]? = some (.ptr a 0)) : bY (.ptr o off) (.ptr a off)
 | row {o : Nat} {v : V} (h : ρ[o]? = some v) : bY (.row o) v
 | im {o f l es N : Nat} {n : Int} (h : ρ[o]? = some (.cQ l es 0 N N)) : bY (.im o n f) (.gw l es n.toNat f N)
 | fn {i : Nat} {cs : List (aN J.ay)} {ws : List V} (h : bp cs ws) : bY (.fn i cs) (.fn i [] ws)
 | fv {j : Nat} {v : V} (h : fs[j]? = some v) : bY (.fv j) v
 | kd {v : V} : bY .kd v
inductive bp : List (aN J.ay) -> List V -> Prop
 | nil : bp [] []
 | cons {v : aN J.ay} {w : V} {vs : List (aN J.ay)} {ws : List V} (h : bY v w) (r : bp vs ws) : bp (v :: vs) (w :: ws)
end
end
section
variable {J : hP} {B rJ : List Bool} {ρ cS fs : List V}
theorem mw {α : Type} {l fp : List α} (h : l <+: fp) {i : Nat} {a : α} (hi : l[i]? = some a) : fp[i]? = some a := by
 obtain ⟨t, rfl⟩ := h
 rw [hq (fy.1 hi).1]; exact hi
mutual
theorem bY.mono (dC : B <+: rJ) (aM : ρ <+: cS) : ∀ {v : aN J.ay} {w : V}, bY J B ρ fs v w -> bY J rJ cS fs v w
 | _, _, .int => .int
 | _, _, .cj => .cj
 | _, _, .bo h => .bo (mw dC h)
 | _, _, .str => .str
 | _, _, .sl => .sl
 | _, _, .k => .k
 | _, _, .agg h => .agg (bp.mono dC aM h)
 | _, _, .ba h => .ba (bp.mono dC aM h)
 | _, _, .dB h => .dB (bp.mono dC aM h)
 | _, _, .ptr h => .ptr (mw aM h)
 | _, _, .row h => .row (mw aM h)
 | _, _, .im h => .im (mw aM h)
 | _, _, .fn h => .fn (bp.mono dC aM h)
 | _, _, .fv h => .fv h
 | _, _, .kd => .kd
theorem bp.mono (dC : B <+: rJ) (aM : ρ <+: cS) : ∀ {vs : List (aN J.ay)} {ws : List V}, bp J B ρ fs vs ws -> bp J rJ cS fs vs ws
 | _, _, .nil => .nil
 | _, _, .cons h r => .cons (bY.mono dC aM h) (bp.mono dC aM r)
end
mutual
theorem bY.back (dC : B <+: rJ) (aM : ρ <+: cS) : ∀ {v : aN J.ay} {w w' : V}, bY J B ρ fs v w -> bY J rJ cS fs v w' -> bY J B ρ fs v w'
 | _, _, _, .int, .int => .int
 | _, _, _, .cj, .cj => .cj
 | _, _, _, .bo h, .bo h' => by
   have := mw dC h
   rw [h'] at this
   cases this
   exact .bo h
 | _, _, _, .str, .str => .str
 | _, _, _, .sl, .sl => .sl
 | _, _, _, .k, .k => .k
 | _, _, _, .agg h, .agg h' => .agg (bp.back dC aM h h')
 | _, _, _, .ba h, .ba h' => .ba (bp.back dC aM h h')
 | _, _, _, .dB h, .dB h' => .dB (bp.back dC aM h h')
 | _, _, _, .ptr h, .ptr h' => by
   have := mw aM h
   rw [h'] at this
   cases this
   exact .ptr h
 | _, _, _, .row h, .row h' => by
   have := mw aM h
   rw [h'] at this
   cases this
   exact .row h
 | _, _, _, .im h, .im h' => by
   have := mw aM h
   rw [h'] at this
   cases this
   exact .im h
 | _, _, _, .fn h, .fn h' => .fn (bp.back dC aM h h')
 | _, _, _, .fv h, .fv h' => .fv h'
 | _, _, _, .kd, .kd => .kd
theorem bp.back (dC : B <+: rJ) (aM : ρ <+: cS) : ∀ {vs : List (aN J.ay)} {ws fb : List V}, bp J B ρ fs vs ws -> bp J rJ cS fs vs fb -> bp J B ρ fs vs fb
 | _, _, _, .nil, .nil => .nil
 | _, _, _, .cons h r, .cons h' n6 => .cons (bY.back dC aM h h') (bp.back dC aM r n6)
end
theorem bp.length {vs : List (aN J.ay)} {ws : List V} : bp J B ρ fs vs ws -> vs.length = ws.length
 | .nil => rfl
 | .cons _ r => by simp [r.length]
theorem bp.get {vs : List (aN J.ay)} {ws : List V} : bp J B ρ fs vs ws -> ∀ {i : Nat} {v : aN J.ay}, vs[i]? = some v -> ∃ w, ws[i]? = some w /\ bY J B ρ fs v w
 | .nil, _, _, h => by simp at h
 | .cons h r, 0, _, e => by simp at e; subst e; exact ⟨_, rfl, h⟩
 | .cons h r, i + 1, _, e => by
   simp at e
   obtain ⟨w, ah, e2⟩ := r.get e
   exact ⟨w, by simpa using ah, e2⟩
theorem bp.drop {vs : List (aN J.ay)} {ws : List V} : bp J B ρ fs vs ws -> ∀ i, bp J B ρ fs (vs.drop i) (ws.drop i)
 | .nil, i => by cases i <;> exact .nil
 | .cons h r, 0 => .cons h r
 | .cons h r, i + 1 => r.drop i
theorem bp.take {vs : List (aN J.ay)} {ws : List V} : bp J B ρ fs vs ws -> ∀ i, bp J B ρ fs (vs.take i) (ws.take i)
 | .nil, i => by cases i <;> exact .nil
 | .cons h r, 0 => .nil
 | .cons h r, i + 1 => .cons h (r.take i)
theorem bp.set {vs : List (aN J.ay)} {ws : List V} : bp J B ρ fs vs ws -> ∀ (i : Nat) {v : aN J.ay} {w : V}, bY J B ρ fs v w -> bp J B ρ fs (vs.set i v) (ws.set i w)
 | .nil, i, _, _, _ => by cases i <;> exact .nil
 | .cons h r, 0, _, _, h' => .cons h' r
 | .cons h r, i + 1, _, _, h' => .cons h (r.set i h')
theorem bp.app {vs vs' : List (aN J.ay)} {ws fb : List V} : bp J B ρ fs vs ws -> bp J B ρ fs vs' fb -> bp J B ρ fs (vs ++ vs') (ws ++ fb)
 | .nil, h => h
 | .cons h r, h' => .cons h (r.app h')
end
structure gC (J : hP) : Prop where
 lD : ∀ (t : Nat) (x : J.ay t) (B : List Bool) (ρ fs : List V), bY J (B ++ J.we t x) ρ fs (J.lD t x B.length) (J.enc t x)
 iH : ∀ (t : Nat) (v : aN J.ay) (B : List Bool) (ρ fs : List V) (w : V) (x : J.ay t), bY J B ρ fs v w -> J.iH t v B = some x -> w = J.enc t x
 bO : ∀ (t : Nat) (x : J.ay t), bO (J.enc t x) = true
 ok : ∀ (t : Nat) (x : J.ay t), b4 (aG (J.enc t x)) = true
 es : ∀ (t : Nat) (x : J.ay t), (aG (J.enc t x)).length = J.es t
 a8 : ∀ (t : Nat) (x : J.ay t), J.a8 t = true -> flat (J.enc t x) = true
 VA : ∀ (t n : Nat), J.dq t = some n -> ∀ a c : J.ay t, hX n (J.enc t a) (J.enc t c) = some (J.beq t a c)
def bI {α : Type} : List (Nat × α) -> Nat -> Option α
 | [], _ => none
 | (k, a) :: r, t => match Nat.beq k t with
   | true => some a
   | false => bI r t
def nth {α : Type} : List α -> Nat -> Option α
 | [], _ => none
 | a :: _, 0 => some a
 | _ :: r, n + 1 => nth r n
theorem uO {α : Type} : ∀ (l : List α) (n : Nat), nth l n = l[n]?
 | [], _ => by simp [nth]
 | _ :: _, 0 => rfl
 | _ :: r, n + 1 => by simp [nth, uO r n]
theorem gd {α : Type} (k t : Nat) (a : α) (r : List (Nat × α)) : bI ((k, a) :: r) t = if k = t then some a else bI r t := by
 simp only [bI]
 cases hb : Nat.beq k t with
 | true => rw [if_pos (fl hb)]
 | false => rw [if_neg (fun e => by rw [e, zt] at hb; cases hb)]
theorem H7 {α : Type} (l r : List (Nat × α)) (t : Nat) : bI (l ++ r) t = match bI l t with
  | some a => some a
  | none => bI r t := by
 induction l with
 | nil => rfl
 | cons p l ih =>
   obtain ⟨k, a⟩ := p
   rw [oX, gd, gd]
   by_cases e : k = t
   · rw [if_pos e, if_pos e]
   · rw [if_neg e, if_neg e]; exact ih
def mem (t : Nat) : List Nat -> Bool
 | [] => false
 | k :: r => match Nat.beq k t with
   | true => true
   | false => mem t r
theorem mem_iff (t : Nat) : ∀ l : List Nat, mem t l = true ↔ t ∈ l
 | [] => by simp [mem]
 | k :: r => by
   simp only [mem, dS]
   cases hb : Nat.beq k t with
   | true => simp [fl hb]
   | false =>
     have : ¬ t = k := fun e => by rw [e, zt] at hb; cases hb
     simp [this, mem_iff t r]
end Go.Abs.gB
