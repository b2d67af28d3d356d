/- Texts of this claim, joined and written short by a program. -/
import Derived.Test.YtjgngmpmjbkbpaaGreatDoorP26
import Derived.Test.YtjgngmpmjbkbpaaGreatDoorP35
import Derived.Test.YtjgngmpmjbkbpaaGreatDoorP36
import Derived.Test.YtjgngmpmjbkbpaaGreatDoorP25
import Derived.Test.YtjgngmpmjbkbpaaGreatDoorP27
import Derived.Test.YtjgngmpmjbkbpaaGreatDoorP00
set_option linter.unusedVariables false
set_option linter.unusedSimpArgs false
set_option linter.unusedSectionVars false
set_option maxHeartbeats 2000000
namespace Go.Abs.U
open Go Go.Abs
noncomputable section
abbrev jg (j : dJ) : List V := [bP 1 aI j.Model.aO, bP 6 kU j.Model.Tables, bP 1 V.str j.Model.dR, bP 6 rD j.Model.c8, bP 3 rE j.Model.Operations, bP 5 rF j.Model.Actions, bP 3 iF j.Model.bn, bP 2 pA j.strict]
def yU (ab : dJ) : (Int) -> Option (cM (Int) (bK (Unit) (Unit))) := fun i12 => (bif (decide (i12 < ab.Model.bn.len)) then ((aR ab.Model.bn.l i12).bind fun da => ((((l4 da.Table ab.Model.Tables.len).bind fun kX => (bif kX then ((l4 da.bS ab.Model.Tables.len).bind fun nh => (bif nh then some (da.Table == da.bS) else some true)) else some true)) : Option (Bool)).bind fun uH => (bif uH then some (.out (.ret ())) else ((aR ab.Model.Tables.l da.Table).bind fun gk => ((aR ab.Model.Tables.l da.bS).bind fun fI => (((bif (gk.Kind != 0) then some true else (bif (fI.Kind != 0) then some true else ((l4 da.fi gk.aX.len).bind fun qA => (bif qA then (bif (fI.aX.len != 1) then some true else ((aR fI.aX.l 0).bind fun qB => ((aR gk.aX.l da.fi).bind fun qC => some (qB != qC)))) else some true)))) : Option (Bool)).bind fun Dp => (bif Dp then some (.out (.ret ())) else some (.next (aQ (i12 + 1)))))))))) else some (.out (.go ())))
def yV (ab : dJ) : (Int × (List (Int × Bool))) -> Option (cM (Int × (List (Int × Bool))) ((List (Int × Bool)))) := fun ⟨i90, i91⟩ => (bif (decide (i90 < ab.Model.bn.len)) then ((aR ab.Model.bn.l i90).bind fun lI => some (.next ((aQ (i90 + 1)), (lC i91 lI.Table true)))) else some (.out i91))
def I6 (ab : dJ) : Option Bool := bif (decide (ab.Model.bn.len > 12)) then some false else ((bU (yU ab) 0 : Option (bK Unit Unit)).bind fun o => match o with | .go _ => some true | .ret _ => some false)
def wB : cm -> cm | .seq a _ => a | c => c
def kz : cm -> cm | .seq _ a => a | c => c
def hA (k : Nat) : cm := match k with
 | 1 => wB AG.body
 | 2 => wB (kz AG.body)
 | 3 => wB (kz (kz AG.body))
 | 4 => wB (kz (kz (kz AG.body)))
 | 5 => wB (kz (kz (kz (kz AG.body))))
 | 6 => wB (kz (kz (kz (kz (kz AG.body)))))
 | _ => kz (kz (kz (kz (kz (kz AG.body)))))
section
variable {ad : Nat -> Option ca} {b : Nat} {σ : cb} {H H0 : Heap}
theorem aj9 (Oi : IX ad) (ab : dJ) {r : Bool} (h : I6 ab = some r) :
  ft ad b (.seq (hA 1) (.seq (hA 2) (hA 3))) (uE 0 ([.agg (jg ab)] ++ [])) H0 fun x a7 H' => match (generalizing := false) r with
   | false => x = .ret /\ At a7 [2] [.bool false]
   | true => x = .normal /\ ∃ al, b <= al /\ At a7 [1] [.ptr al 0] /\ Own H' [[(al, .cells (jg ab))]] := by
 unfold I6 at h
 refine nS <| Mp (cs := (jg ab)) rfl (Own.nil H0) rfl (by simp [b4]) fun rR al pb Oj => pp (.bool false) <| fZ <| oF <| nS <| pp (.ptr al 0) <| pp (.ptr al 6) <| ph (bP 3 iF ab.Model.bn) (gZ rfl (Oj.get 0 rfl) rfl) <| ph (aI ab.Model.bn.len) (uD rfl _) <| pp (.bool (decide (ab.Model.bn.len > 12))) <| fZ <| ?_
 rcases px h with ⟨iX, h⟩ | ⟨iX, h⟩
 · refine x0 rfl iX <| nS <| pp (.bool false) <| fZ <| xZ <| ?_
   cases h
   exact ⟨rfl, rfl⟩
 · refine x1 rfl iX <| xY <| nS <| pp (.ptr al 0) <| pp (.ptr al 6) <| ph (bP 3 iF ab.Model.bn) (gZ rfl (Oj.get 0 rfl) rfl) <| ph (aI ab.Model.bn.len) (uD rfl _) <| pp (aI 0) <| fZ <| CT <| ?_
   obtain ⟨rG, aka, h⟩ := bind_some h
   refine dj (yU ab) (fun s a7 H' => At a7 [1, 18, 19, 20] [.ptr al 0, bP 3 iF ab.Model.bn, aI ab.Model.bn.len, aI s] /\ Own H' ([(al, .cells (jg ab))] :: [])) (fun o => fun x' a7 H' => match (generalizing := false) o with | .go s => x' = (.exit 0) /\ At a7 [1] [.ptr al 0] /\ Own H' ([(al, .cells (jg ab))] :: []) | .ret s => x' = .ret /\ At a7 [2] [.bool false] /\ Own H' []) aka ⟨rfl, Oj⟩ ?_ ?_
   · rintro i12 dV arZ r aZ iJ
     dsimp only [yU] at iJ
     try dsimp only at aZ
     obtain ⟨akb, Xh⟩ := aZ
     refine ea akb <| nS <| pp (.bool (decide (i12 < ab.Model.bn.len))) <| fZ <| oF <| ?_
     rcases px iJ with ⟨Ok, iJ⟩ | ⟨Ok, iJ⟩
     · refine x0 rfl Ok <| xY <| oF <| CT <| nS <| ?_
       obtain ⟨da, akc, iJ⟩ := bind_some iJ
       refine ph (.dB (aG (iF da)) 0) (x3 rfl rfl akc _) <| pp (.agg [aI da.Table, aI da.fi, aI da.bS]) <| x4 rfl Xh fun ar0 sZ akd ake => x5 (vs := [aI da.Table, aI da.fi, aI da.bS]) (cs' := [aI da.Table, aI da.fi, aI da.bS]) rfl ake 0 rfl akd rfl rfl ⟨rfl, k3 rfl⟩ (by simp [b4]) rfl fun ar1 uW => fZ <| oF <| oF <| ?_
       obtain ⟨uH, pQ, iJ⟩ := bind_some iJ
       refine Mo (fun x' a7 H' => (fun s => x' = .normal /\ At a7 [1, 4, 18, 19, 20, 48] [.ptr al 0, .ptr sZ 0, bP 3 iF ab.Model.bn, aI ab.Model.bn.len, aI i12, .bool s] /\ Own H' ([(sZ, .cells [aI da.Table, aI da.fi, aI da.bS])] :: [(al, .cells (jg ab))] :: [])) uH) ?_ ?_
       · refine sI <| pp (.ptr sZ 0) <| ph (aI da.Table) (gZ rfl (uW.get 0 rfl) rfl) <| pp (.ptr al 0) <| pp (.ptr al 1) <| ph (bP 6 kU ab.Model.Tables) (gZ rfl (uW.get 1 rfl) rfl) <| ph (aI ab.Model.Tables.len) (uD rfl _) <| ?_
         obtain ⟨kX, akf, pQ⟩ := bind_some pQ
         refine ph (.bool kX) (Ao (Oi _ _ _ _ akf) (An (by simp [ct, bO])) rfl rfl) <| pp (.bool (!kX)) <| pp (.bool (!kX)) <| ?_
         rcases px pQ with ⟨lJ, pQ⟩ | ⟨lJ, pQ⟩
         · refine j9 (.ptr sZ 2) (kR lJ) <| ic (v := (aI da.bS)) (ib rfl (kR lJ)) (gZ rfl (uW.get 0 rfl) rfl) <| j9 (.ptr al 0) (kR lJ) <| j9 (.ptr al 1) (kR lJ) <| ic (v := (bP 6 kU ab.Model.Tables)) (ib rfl (kR lJ)) (gZ rfl (uW.get 1 rfl) rfl) <| ic (v := (aI ab.Model.Tables.len)) (ib rfl (kR lJ)) (uD rfl _) <| ?_
           obtain ⟨nh, akg, pQ⟩ := bind_some pQ
           refine ic (v := (.bool nh)) (ib rfl (kR lJ)) (Ao (Oi _ _ _ _ akg) (An (by simp [ct, bO])) rfl rfl) <| j9 (.bool (!nh)) (kR lJ) <| ph (.bool (!nh)) (Am rfl (kR lJ)) <| pp (.bool (!nh)) <| ?_
           rcases px pQ with ⟨pR, pQ⟩ | ⟨pR, pQ⟩
           · refine j9 (.ptr sZ 0) (kR pR) <| ic (v := (aI da.Table)) (ib rfl (kR pR)) (gZ rfl (uW.get 0 rfl) rfl) <| j9 (.ptr sZ 2) (kR pR) <| ic (v := (aI da.bS)) (ib rfl (kR pR)) (gZ rfl (uW.get 0 rfl) rfl) <| j9 (.bool (da.Table == da.bS)) (kR pR) <| ph (.bool (da.Table == da.bS)) (Am rfl (kR pR)) <| fZ <| ?_
             cases pQ
             exact ⟨rfl, rfl, uW⟩
           · refine cc (kS pR) <| cc (kS pR) <| cc (kS pR) <| cc (kS pR) <| cc (kS pR) <| ph (.bool true) (py rfl (kS pR)) <| fZ <| ?_
             cases pQ
             exact ⟨rfl, rfl, uW⟩
         · refine cc (kS lJ) <| cc (kS lJ) <| cc (kS lJ) <| cc (kS lJ) <| cc (kS lJ) <| cc (kS lJ) <| cc (kS lJ) <| cc (kS lJ) <| ph (.bool true) (py rfl (kS lJ)) <| pp (.bool true) <| cc rfl <| cc rfl <| cc rfl <| cc rfl <| cc rfl <| ph (.bool true) (py rfl rfl) <| fZ <| ?_
           cases pQ
           exact ⟨rfl, rfl, uW⟩
       · intro bu dV ar2 oG
         try dsimp only at iJ oG
         obtain ⟨rfl, akh, Ol⟩ := oG
         refine ea akh <| ?_
         rcases px iJ with ⟨Om, iJ⟩ | ⟨Om, iJ⟩
         · refine x0 rfl Om <| nS <| pp (.bool false) <| fZ <| xZ <| ?_
           cases iJ
           exact ⟨nofun, ⟨rfl, rfl, ((Ol.drop 0).drop 0)⟩⟩
         · refine x1 rfl Om <| xY <| oF <| ?_
           obtain ⟨gk, aki, iJ⟩ := bind_some iJ
           obtain ⟨fI, akj, iJ⟩ := bind_some iJ
           refine Vg 14 Ol rfl (.pp (.ptr al 0) <| .pp (.ptr al 1) <| .ph (bP 6 kU ab.Model.Tables) (fun _ uX => (gZ rfl (uX.get 1 rfl) rfl)) <| .pp (.ptr sZ 0) <| .ph (aI da.Table) (fun _ uX => (gZ rfl (uX.get 0 rfl) rfl)) <| .ph (.dB (aG (kU gk)) 0) (fun _ uX => (x3 rfl rfl aki _)) <| .pp (.agg [.str gk.Name, aI gk.Kind, bP 1 aI gk.aX, aI gk.Range.eN, aI gk.Range.eO, aI gk.c2]) <| .pp (.ptr al 0) <| .pp (.ptr al 1) <| .ph (bP 6 kU ab.Model.Tables) (fun _ uX => (gZ rfl (uX.get 1 rfl) rfl)) <| .pp (.ptr sZ 2) <| .ph (aI da.bS) (fun _ uX => (gZ rfl (uX.get 0 rfl) rfl)) <| .ph (.dB (aG (kU fI)) 0) (fun _ uX => (x3 rfl rfl akj _)) <| .pp (.agg [.str fI.Name, aI fI.Kind, bP 1 aI fI.aX, aI fI.Range.eN, aI fI.Range.eO, aI fI.c2]) <| .nil) fun Xi => x4 rfl Ol fun ar3 On Oo akk => x4 rfl akk fun ar4 Oq Ot akl => x5 (vs := [.str gk.Name, aI gk.Kind, bP 1 aI gk.aX, aI gk.Range.eN, aI gk.Range.eO, aI gk.c2]) (cs' := [.str gk.Name, aI gk.Kind, bP 1 aI gk.aX, aI gk.Range.eN, aI gk.Range.eO, aI gk.c2]) rfl akl 1 rfl Oo rfl rfl ⟨rfl, k3 rfl⟩ (by simp [b4]) rfl fun ar5 akm => x5 (vs := [.str fI.Name, aI fI.Kind, bP 1 aI fI.aX, aI fI.Range.eN, aI fI.Range.eO, aI fI.c2]) (cs' := [.str fI.Name, aI fI.Kind, bP 1 aI fI.aX, aI fI.Range.eN, aI fI.Range.eO, aI fI.c2]) rfl akm 0 rfl Ot rfl rfl ⟨rfl, k3 rfl⟩ (by simp [b4]) rfl fun ar6 pS => fZ ⟨rfl, ?_⟩
           replace Ot := c4 Xi Ot
           replace Oo := c4 Xi Oo
           refine oF <| ?_
           obtain ⟨Dp, jS, iJ⟩ := bind_some iJ
           refine Mo (fun x' a7 H' => (fun s => x' = .normal /\ At a7 [1, 18, 19, 20, 98] [.ptr al 0, bP 3 iF ab.Model.bn, aI ab.Model.bn.len, aI i12, .bool s] /\ Own H' ([(al, .cells (jg ab))] :: [])) Dp) ?_ ?_
           · refine UQ <| pp (.ptr On 1) <| ph (aI gk.Kind) (gZ rfl (pS.get 1 rfl) rfl) <| pp (.bool (gk.Kind != 0)) <| pp (.bool (gk.Kind != 0)) <| ?_
             rcases px jS with ⟨uY, jS⟩ | ⟨uY, jS⟩
             · refine cc uY <| cc uY <| cc uY <| ph (.bool true) (py rfl uY) <| pp (.bool true) <| cc rfl <| cc rfl <| cc rfl <| cc rfl <| cc rfl <| cc rfl <| cc rfl <| ph (.bool true) (py rfl rfl) <| pp (.bool true) <| cc rfl <| cc rfl <| cc rfl <| cc rfl <| ph (.bool true) (py rfl rfl) <| pp (.bool true) <| cc rfl <| cc rfl <| cc rfl <| cc rfl <| cc rfl <| cc rfl <| cc rfl <| cc rfl <| cc rfl <| cc rfl <| cc rfl <| ph (.bool true) (py rfl rfl) <| fZ ⟨rfl, ?_⟩
               cases jS
               exact ⟨rfl, rfl, (((pS.drop 0).drop 0).drop 0)⟩
             · refine j9 (.ptr Oq 1) uY <| ic (v := (aI fI.Kind)) (ib rfl uY) (gZ rfl (pS.get 0 rfl) rfl) <| j9 (.bool (fI.Kind != 0)) uY <| ph (.bool (fI.Kind != 0)) (Am rfl uY) <| pp (.bool (fI.Kind != 0)) <| ?_
               rcases px jS with ⟨my, jS⟩ | ⟨my, jS⟩
               · refine cc my <| cc my <| cc my <| cc my <| cc my <| cc my <| cc my <| ph (.bool true) (py rfl my) <| pp (.bool true) <| cc rfl <| cc rfl <| cc rfl <| cc rfl <| ph (.bool true) (py rfl rfl) <| pp (.bool true) <| cc rfl <| cc rfl <| cc rfl <| cc rfl <| cc rfl <| cc rfl <| cc rfl <| cc rfl <| cc rfl <| cc rfl <| cc rfl <| ph (.bool true) (py rfl rfl) <| fZ ⟨rfl, ?_⟩
                 cases jS
                 exact ⟨rfl, rfl, (((pS.drop 0).drop 0).drop 0)⟩
               · refine j9 (.ptr sZ 1) my <| ic (v := (aI da.fi)) (ib rfl my) (gZ rfl (pS.get 2 rfl) rfl) <| j9 (.ptr On 2) my <| ic (v := (bP 1 aI gk.aX)) (ib rfl my) (gZ rfl (pS.get 1 rfl) rfl) <| ic (v := (aI gk.aX.len)) (ib rfl my) (uD rfl _) <| ?_
                 obtain ⟨qA, akn, jS⟩ := bind_some jS
                 refine ic (v := (.bool qA)) (ib rfl my) (Ao (Oi _ _ _ _ akn) (An (by simp [ct, bO])) rfl rfl) <| j9 (.bool (!qA)) my <| ph (.bool (!qA)) (Am rfl my) <| pp (.bool (!qA)) <| ?_
                 rcases px jS with ⟨rS, jS⟩ | ⟨rS, jS⟩
                 · refine j9 (.ptr Oq 2) (kR rS) <| ic (v := (bP 1 aI fI.aX)) (ib rfl (kR rS)) (gZ rfl (pS.get 0 rfl) rfl) <| ic (v := (aI fI.aX.len)) (ib rfl (kR rS)) (uD rfl _) <| j9 (.bool (fI.aX.len != 1)) (kR rS) <| ph (.bool (fI.aX.len != 1)) (Am rfl (kR rS)) <| pp (.bool (fI.aX.len != 1)) <| ?_
                   rcases px jS with ⟨jh, jS⟩ | ⟨jh, jS⟩
                   · refine cc jh <| cc jh <| cc jh <| cc jh <| cc jh <| cc jh <| cc jh <| cc jh <| cc jh <| cc jh <| cc jh <| ph (.bool true) (py rfl jh) <| fZ ⟨rfl, ?_⟩
                     cases jS
                     exact ⟨rfl, rfl, (((pS.drop 0).drop 0).drop 0)⟩
                   · refine j9 (.ptr Oq 2) jh <| ic (v := (bP 1 aI fI.aX)) (ib rfl jh) (gZ rfl (pS.get 0 rfl) rfl) <| ?_
                     obtain ⟨qB, ako, jS⟩ := bind_some jS
                     refine ic (v := (.dB (aG (aI qB)) 0)) (ib rfl jh) (x3 rfl rfl ako _) <| j9 (aI qB) jh <| j9 (.ptr On 2) jh <| ic (v := (bP 1 aI gk.aX)) (ib rfl jh) (gZ rfl (pS.get 1 rfl) rfl) <| j9 (.ptr sZ 1) jh <| ic (v := (aI da.fi)) (ib rfl jh) (gZ rfl (pS.get 2 rfl) rfl) <| ?_
                     obtain ⟨qC, akp, jS⟩ := bind_some jS
                     refine ic (v := (.dB (aG (aI qC)) 0)) (ib rfl jh) (x3 rfl rfl akp _) <| j9 (aI qC) jh <| j9 (.bool (qB != qC)) jh <| ph (.bool (qB != qC)) (Am rfl jh) <| fZ ⟨rfl, ?_⟩
                     cases jS
                     exact ⟨rfl, rfl, (((pS.drop 0).drop 0).drop 0)⟩
                 · refine cc (kS rS) <| cc (kS rS) <| cc (kS rS) <| cc (kS rS) <| ph (.bool true) (py rfl (kS rS)) <| pp (.bool true) <| cc rfl <| cc rfl <| cc rfl <| cc rfl <| cc rfl <| cc rfl <| cc rfl <| cc rfl <| cc rfl <| cc rfl <| cc rfl <| ph (.bool true) (py rfl rfl) <| fZ ⟨rfl, ?_⟩
                   cases jS
                   exact ⟨rfl, rfl, (((pS.drop 0).drop 0).drop 0)⟩
           · intro bu dV ar7 oG
             try dsimp only at iJ oG
             obtain ⟨rfl, akq, Xj⟩ := oG
             refine ea akq <| ?_
             rcases px iJ with ⟨Ou, iJ⟩ | ⟨Ou, iJ⟩
             · refine x0 rfl Ou <| nS <| pp (.bool false) <| fZ <| xZ <| ?_
               cases iJ
               exact ⟨nofun, ⟨rfl, rfl, (Xj.drop 0)⟩⟩
             · refine x1 rfl Ou <| xY <| sI <| pp (aI (aQ (i12 + 1))) <| pp (aI (aQ (i12 + 1))) <| fZ <| ?_
               cases iJ
               exact ⟨rfl, ⟨rfl, Xj⟩⟩
     · refine x1 rfl Ok <| GP <| ?_
       cases iJ
       exact ⟨nofun, ⟨rfl, rfl, Xh⟩⟩
   · intro bu dV ar8 oG
     cases rG with
     | go ar9 =>
       try dsimp only at h oG
       obtain ⟨rfl, akr, aks⟩ := oG
       cases h
       exact ⟨rfl, al, pb, akr, aks⟩
     | ret q =>
       obtain ⟨rfl, akt, aD⟩ := oG
       cases h
       exact ⟨rfl, akt⟩
theorem aku (ab : dJ) {al : Nat} {m : List (Int × Bool)} (akv : At σ [1] [.ptr al 0]) (aD : Own H [[(al, .cells (jg ab))]]) (h : bU (yV ab) (0, []) = some m) :
  ft ad b (.seq (hA 4) (hA 5)) σ H fun x a7 H' => x = .normal /\ ∃ ew l, b <= ew /\ b <= l /\ At a7 [1, 7] [.ptr al 0, .ptr ew 0] /\ Own H' [[(ew, .cells [.map l])], [(l, .map (ga aI V.bool m))], [(al, .cells (jg ab))]] := by
 rw [<- CY akv]
 refine nS <| UW rfl aD fun asa wC Xk akw => x4 rfl akw fun asb EG Xl akx => x5 (vs := [.map wC]) (cs' := [.map wC]) rfl akx 0 rfl Xl rfl rfl ⟨rfl, k3 rfl⟩ (by simp [b4]) rfl fun asc Xm => fZ <| nS <| pp (.ptr al 0) <| pp (.ptr al 6) <| ph (bP 3 iF ab.Model.bn) (gZ rfl (Xm.get 2 rfl) rfl) <| ph (aI ab.Model.bn.len) (uD rfl _) <| pp (aI 0) <| fZ <| CT <| ?_
 refine dj (yV ab) (fun s a7 H' => At a7 [1, 7, 103, 104, 105] [.ptr al 0, .ptr EG 0, bP 3 iF ab.Model.bn, aI ab.Model.bn.len, aI s.1] /\ Own H' ([(EG, .cells [.map wC])] :: [(wC, .map (ga aI V.bool s.2))] :: [(al, .cells (jg ab))] :: [])) (fun o => fun x' a7 H' => x' = (.exit 2) /\ At a7 [1, 7] [.ptr al 0, .ptr EG 0] /\ Own H' ([(EG, .cells [.map wC])] :: [(wC, .map (ga aI V.bool o))] :: [(al, .cells (jg ab))] :: [])) h ⟨rfl, Xm⟩ ?_ ?_
 · rintro ⟨i90, i91⟩ dV asd r aZ wD
   dsimp only [yV] at wD
   try dsimp only at aZ
   obtain ⟨aky, Xn⟩ := aZ
   refine ea aky <| nS <| pp (.bool (decide (i90 < ab.Model.bn.len))) <| fZ <| oF <| ?_
   rcases px wD with ⟨Ov, wD⟩ | ⟨Ov, wD⟩
   · refine x0 rfl Ov <| xY <| oF <| CT <| nS <| ?_
     obtain ⟨lI, akz, wD⟩ := bind_some wD
     refine ph (.dB (aG (iF lI)) 0) (x3 rfl rfl akz _) <| pp (.agg [aI lI.Table, aI lI.fi, aI lI.bS]) <| x4 rfl Xn fun ase akA akB akC => x5 (vs := [aI lI.Table, aI lI.fi, aI lI.bS]) (cs' := [aI lI.Table, aI lI.fi, aI lI.bS]) rfl akC 0 rfl akB rfl rfl ⟨rfl, k3 rfl⟩ (by simp [b4]) rfl fun asf Ow => fZ <| sI <| ph (.map wC) (gZ rfl (Ow.get 1 rfl) rfl) <| pp (.ptr akA 0) <| ph (aI lI.Table) (gZ rfl (Ow.get 0 rfl) rfl) <| Va (gv := aI) (gb := V.bool) (m := i91) (k := lI.Table) (w := true) rfl CW Ow 2 rfl Xk rfl rfl rfl (by simp) fun asg akD => fZ <| sI <| pp (aI (aQ (i90 + 1))) <| pp (aI (aQ (i90 + 1))) <| fZ <| ?_
     cases wD
     exact ⟨rfl, ⟨rfl, (akD.drop 0)⟩⟩
   · refine x1 rfl Ov <| GP <| ?_
     cases wD
     exact ⟨nofun, rfl, rfl, Xn⟩
 · intro bu dV ash oG
   obtain ⟨rfl, akE, akF⟩ := oG
   exact ⟨rfl, EG, wC, Xl, Xk, akE, akF⟩
theorem akG {ew l : Nat} {m : List (Int × Bool)} (j : At σ [7] [.ptr ew 0]) {ms : cW} (aD : Own H ([(ew, .cells [.map l])] :: [(l, .map (ga aI V.bool m))] :: ms)) :
  ft ad b (hA 7) σ H fun x a7 H' => x = .ret /\ At a7 [2] [.bool (decide (m.length = 0))] := by
 rw [<- CY j]
 refine nS <| ph (.map l) (gZ rfl (aD.get 0 rfl) rfl) <| ph (aI (m.length : Int)) (U9 (gv := aI) (gb := V.bool) (aD.get 1 rfl) rfl) <| pp (.bool ((m.length : Int) == 0)) <| pp (.bool ((m.length : Int) == 0)) <| fZ <| xZ <| ?_
 refine ⟨rfl, ?_⟩
 have : ((m.length : Int) == 0) = decide (m.length = 0) := by rw [BA]; simp
 rw [<- this]; rfl
theorem akH (ym : ad 197 = some (.code DC)) {mz ew l : Nat} {t : Int} {m : List (Int × Bool)} {ms : cW} (aD : Own H ([(mz, .cells [aI t])] :: [(ew, .cells [.map l])] :: [(l, .map (ga aI V.bool m))] :: ms)) (h : fN) :
  cK ad (.fn 197 [] [.ptr mz 0, .ptr ew 0]) [.agg [aI h.Table, aI h.fi, aI h.bS]] H = some (.bool ((h.Table == t) && (ie m h.bS).getD false), H, H.length) := by
 refine U6 (caps := [.ptr mz 0, .ptr ew 0]) ym (k3 rfl) rfl ?_ (by simp [bO, ct])
 refine nS <| Mp (cs := [aI h.Table, aI h.fi, aI h.bS]) rfl aD rfl (by simp [b4]) fun rR a3 xG yW => pp (.bool false) <| fZ <| nS <| pp (.ptr a3 0) <| ph (aI h.Table) (gZ rfl (yW.get 0 rfl) rfl) <| ph (aI t) (gZ rfl (yW.get 1 rfl) rfl) <| pp (.bool (h.Table == t)) <| pp (.bool (h.Table == t)) <| ?_
 cases c : h.Table == t with
 | true =>
   refine ic (v := .map l) (ib rfl rfl) (gZ rfl (yW.get 2 rfl) rfl) <| j9 (.ptr a3 2) rfl <| ic (v := aI h.bS) (ib rfl rfl) (gZ rfl (yW.get 0 rfl) rfl) <| ic (v := .bool ((ie m h.bS).getD false)) (ib rfl rfl) (U8 (gv := aI) (gb := V.bool) CW false rfl (yW.get 3 rfl) rfl rfl) <| pp (.bool ((ie m h.bS).getD false)) <| pp (.bool ((ie m h.bS).getD false)) <| fZ <| xZ <| ?_
   exact ⟨.inr rfl, U4 (.tmp rfl .nil) rfl (by simp [bO, ct])⟩
 | false =>
   refine oI rfl <| oI rfl <| oI rfl <| oI rfl <| pp (.bool false) <| pp (.bool false) <| fZ <| xZ <| ?_
   exact ⟨.inr rfl, U4 (.tmp rfl .nil) rfl (by simp [bO, ct])⟩
def np : cm := .region [⟨some (125, false), .fieldAddr 0 (.var 1), none⟩, ⟨some (126, false), .fieldAddr 6 (.tmp 125), none⟩, ⟨some (127, false), .load none (.tmp 126), none⟩, ⟨some (128, false), .r8 197 [] [.var 10, .var 7], none⟩, ⟨some (129, false), .call false (.func 196) [.tmp 127, .tmp 128], none⟩, ⟨some (130, true), .un .not (.tmp 129), none⟩] none
def Vd : List b3 := [⟨some (124, false), .extract (.tmp 123) 0, none⟩, ⟨some (10, true), .alloc [aI 0], none⟩, ⟨none, .store 1 (.var 10) (.tmp 124), none⟩]
def I7 : List b3 := [⟨some (131, false), .load none (.var 7), none⟩, ⟨some (132, false), .load none (.var 10), none⟩]
def aa : e9 := ⟨[⟨some (119, false), .load none (.var 7), none⟩], .tmp 119, 120, (121, false), [⟨some (122, true), .extract (.tmp 121) 0, none⟩], .var 122, 7, (123, false), Vd, .seq np (.cond (.var 130) (.region (I7 ++ [⟨none, .w3 0 (.tmp 131) (.tmp 132), none⟩]) none) .skip)⟩
def kQ : yS := ⟨np, .var 130, I7, .tmp 131, .tmp 132, 0⟩
theorem akI (ym : ad 197 = some (.code DC)) (mV : yQ ad) {ab : dJ} {al mz ew l : Nat} {t : Int} {m : List (Int × Bool)} {q : Bool}
  (aD : Own H [[(mz, .cells [aI t])], [(ew, .cells [.map l])], [(l, .map (ga aI V.bool m))], [(al, .cells (jg ab))]]) {vs : List V} {ts : List Nat} (j : At σ (1 :: 7 :: 10 :: ts) (.ptr al 0 :: .ptr ew 0 :: .ptr mz 0 :: vs))
  (bD : DX ab.Model.bn (fun h => some ((h.Table == t) && (ie m h.bS).getD false)) = some q) :
  ft ad b np σ H fun x a7 H' => x = .normal /\ H' = H /\ a7 = up σ 130 (.bool (!q)) := by
 have akJ : σ 1 = .ptr al 0 := by simpa using (et j).1
 have akK : σ 7 = .ptr ew 0 := by simpa using (et (et j).2).1
 have akL : σ 10 = .ptr mz 0 := by simpa using (et (et (et j).2).2).1
 have bj := mV H _ aD ab.Model.bn _ (.fn 197 [] [.ptr mz 0, .ptr ew 0]) (fun H low => by simp [gl, eg, bO, ct]) (fun H' z0 fx sK aP => by
  cases aP
  exact akH ym sK z0) q bD
 refine sI <| ph (.ptr al 0) ?_ <| ph (.ptr al 6) rfl <| ph (bP 3 iF ab.Model.bn) (gZ rfl (aD.get 3 rfl) rfl) <| ph (.fn 197 [] [.ptr mz 0, .ptr ew 0]) ?_ <| ph (.bool q) (Ao bj (UX (by simp) (UY (fun H low => by simp [gl, eg, bO, ct]) afx)) rfl rfl) <| pp (.bool (!q)) <| fZ ⟨rfl, rfl, rfl⟩
 · rw [nc]; simp only [bX, akJ]
 · rw [Md]
   show some (V.fn 197 [] [σ 10, σ 7], H, H.length) = _
   rw [akL, akK]
end
end
end Go.Abs.U
namespace Go.Abs
open Go
theorem gf {n : Int} (h1 : -9223372036854775808 <= n) (h2 : n <= 9223372036854775807) : aQ n = n := wrap_small h1 (by omega)
theorem c5 {α : Type} (l : List α) (k : Nat) : aR l (k : Int) = l[k]? := by simp [aR]
theorem akM {α : Type} {l : List α} {i : Int} {a : α} (h : 0 <= i) (e : l[i.toNat]? = some a) : aR l i = some a := by simp [aR, h, e]
theorem Ox {α : Type} (l : List α) : aR l 0 = l[0]? := c5 l 0
def jy {α A O : Type} (step : Nat -> A -> α -> Sum A O) (fin : A -> O) : Nat -> A -> List α -> O
 | _, a, [] => fin a
 | k, a, x :: r => match step k a x with
   | .inl bf => jy step fin (k + 1) bf r
   | .inr o => o
theorem Xo {α A S O : Type} {f : S -> Option (cM S O)} (mk : Nat -> A -> S) (step : Nat -> A -> α -> Sum A O) (fin : A -> O) (I : Nat -> A -> Prop) (xs : List α)
  (hs : ∀ k a x, xs[k]? = some x -> I k a -> f (mk k a) = some (match step k a x with | .inl bf => .next (mk (k + 1) bf) | .inr o => .out o) /\ ∀ bf, step k a x = .inl bf -> I (k + 1) bf)
  (he : ∀ a, I xs.length a -> f (mk xs.length a) = some (.out (fin a))) {a : A} (h0 : I 0 a) : bU f (mk 0 a) = some (jy step fin 0 a xs) := by
 have key : ∀ (n k : Nat) (a : A), k + n = xs.length -> I k a -> bU f (mk k a) = some (jy step fin k a (xs.drop k)) := by
  intro n
  induction n with
  | zero =>
    intro k a ai aZ
    have e : k = xs.length := by omega
    subst e
    rw [kt, he a aZ, td (aK _)]; rfl
  | succ n ih =>
    intro k a ai aZ
    have aH : k < xs.length := by omega
    obtain ⟨h1, h2⟩ := hs k a xs[k] (by simp [aH]) aZ
    rw [kt, h1, oU aH]
    simp only [jy]
    cases cp : step k a xs[k] with
    | inl bf => exact ih (k + 1) bf (by omega) (h2 bf cp)
    | inr o => rfl
 have := key xs.length 0 a (by omega) h0
 simpa using this
theorem EH {α A S O : Type} {f : S -> Option (cM S O)} (cl : Nat -> A -> S -> Prop) (step : Nat -> A -> α -> Sum A O) (fin : A -> O) (xs : List α)
  (hs : ∀ k a x s, xs[k]? = some x -> cl k a s -> match step k a x with | .inl bf => ∃ ar, f s = some (.next ar) /\ cl (k + 1) bf ar | .inr o => f s = some (.out o))
  (he : ∀ a s, cl xs.length a s -> f s = some (.out (fin a))) {a : A} {s : S} (h0 : cl 0 a s) : bU f s = some (jy step fin 0 a xs) := by
 have key : ∀ (n k : Nat) (a : A) (s : S), k + n = xs.length -> cl k a s -> bU f s = some (jy step fin k a (xs.drop k)) := by
  intro n
  induction n with
  | zero =>
    intro k a s ai aZ
    have e : k = xs.length := by omega
    subst e
    rw [kt, he a s aZ, td (aK _)]; rfl
  | succ n ih =>
    intro k a s ai aZ
    have aH : k < xs.length := by omega
    have h1 := hs k a xs[k] s (by simp [aH]) aZ
    rw [oU aH]
    simp only [jy]
    cases cp : step k a xs[k] with
    | inl bf =>
      rw [cp] at h1
      obtain ⟨ar, ah, e2⟩ := h1
      rw [kt, ah]
      exact ih (k + 1) bf ar (by omega) e2
    | inr o =>
      rw [cp] at h1
      rw [kt, h1]
 have := key xs.length 0 a s (by omega) h0
 simpa using this
theorem I8 {α S O : Type} {f : S -> Option (cM S O)} (I : Nat -> S -> Prop) (P : O -> Prop) (xs : List α) (hs : ∀ k x s, xs[k]? = some x -> I k s -> ∃ ar, f s = some (.next ar) /\ I (k + 1) ar)
  (he : ∀ s, I xs.length s -> ∃ o, f s = some (.out o) /\ P o) {s : S} (h0 : I 0 s) : ∃ o, bU f s = some o /\ P o := by
 have key : ∀ (n k : Nat) (s : S), k + n = xs.length -> I k s -> ∃ o, bU f s = some o /\ P o := by
  intro n
  induction n with
  | zero =>
    intro k s ai aZ
    have e : k = xs.length := by omega
    subst e
    obtain ⟨o, ah, e2⟩ := he s aZ
    exact ⟨o, by rw [kt, ah], e2⟩
  | succ n ih =>
    intro k s ai aZ
    have aH : k < xs.length := by omega
    obtain ⟨ar, ah, e2⟩ := hs k xs[k] s (by simp [aH]) aZ
    obtain ⟨o, f1, f2⟩ := ih (k + 1) ar (by omega) e2
    exact ⟨o, by rw [kt, ah]; exact f1, f2⟩
 exact key xs.length 0 s (by omega) h0
theorem wE {α S O : Type} {f : S -> Option (cM S O)} (I : Nat -> S -> Prop) (P : O -> Prop) (xs : List α) (hs : ∀ k x s, xs[k]? = some x -> I k s -> (∃ ar, f s = some (.next ar) /\ I (k + 1) ar) \/ (∃ o, f s = some (.out o) /\ P o))
  (he : ∀ s, I xs.length s -> ∃ o, f s = some (.out o) /\ P o) {s : S} (h0 : I 0 s) : ∃ o, bU f s = some o /\ P o := by
 have key : ∀ (n k : Nat) (s : S), k + n = xs.length -> I k s -> ∃ o, bU f s = some o /\ P o := by
  intro n
  induction n with
  | zero =>
    intro k s ai aZ
    have e : k = xs.length := by omega
    subst e
    obtain ⟨o, ah, e2⟩ := he s aZ
    exact ⟨o, by rw [kt, ah], e2⟩
  | succ n ih =>
    intro k s ai aZ
    have aH : k < xs.length := by omega
    rcases hs k xs[k] s (by simp [aH]) aZ with ⟨ar, ah, e2⟩ | ⟨o, ah, e2⟩
    · obtain ⟨o, f1, f2⟩ := ih (k + 1) ar (by omega) e2
      exact ⟨o, by rw [kt, ah]; exact f1, f2⟩
    · exact ⟨o, by rw [kt, ah], e2⟩
 exact key xs.length 0 s (by omega) h0
def allI {α : Type} (ok : Nat -> α -> Bool) (xs : List α) : Bool := xs.zipIdx.all fun p => ok p.2 p.1
theorem EI {α : Type} {ok : Nat -> α -> Bool} {xs : List α} : allI ok xs = true ↔ ∀ k x, xs[k]? = some x -> ok k x = true := by
 unfold allI
 rw [fo]
 constructor
 · intro h k x hx
   exact h (x, k) (ma.2 hx)
 · intro h p hp
   exact h p.2 p.1 (ma.1 hp)
theorem oR {α S : Type} {f : S -> Option (cM S (bK Unit Unit))} (I : Nat -> S -> Prop) (ok : Nat -> α -> Bool) (xs : List α)
  (hs : ∀ k x s, xs[k]? = some x -> I k s -> (∀ j y, j < k -> xs[j]? = some y -> ok j y = true) -> (ok k x = true -> ∃ ar, f s = some (.next ar) /\ I (k + 1) ar) /\ (ok k x = false -> f s = some (.out (.ret ()))))
  (he : ∀ s, I xs.length s -> f s = some (.out (.go ()))) {s : S} (h0 : I 0 s) : bU f s = some (bif allI ok xs then .go () else .ret ()) := by
 obtain ⟨o, ah, e2⟩ := wE (f := f) (fun k s => I k s /\ ∀ j y, j < k -> xs[j]? = some y -> ok j y = true) (fun o => o = bif allI ok xs then .go () else .ret ()) xs (fun k x s hx aZ => by
  obtain ⟨h1, h2⟩ := hs k x s hx aZ.1 aZ.2
  cases bd : ok k x with
  | true =>
    obtain ⟨ar, ah, e2⟩ := h1 bd
    refine .inl ⟨ar, ah, e2, fun j y hj hy => ?_⟩
    by_cases e : j = k
    · subst e; rw [hx] at hy; cases hy; exact bd
    · exact aZ.2 j y (by omega) hy
  | false =>
    refine .inr ⟨.ret (), h2 bd, ?_⟩
    cases ao : allI ok xs with
    | false => rfl
    | true => rw [EI.1 ao k x hx] at bd; cases bd) (fun s aZ => by
  refine ⟨.go (), he s aZ.1, ?_⟩
  have : allI ok xs = true := EI.2 fun k x hx => aZ.2 k x (fy.1 hx).1 hx
  rw [this]; rfl) (s := s) ⟨h0, fun j y hj => by omega⟩
 rw [ah, e2]
def hR {α : Type} (f : α -> Int) (xs : List α) : Nat -> Int
 | 0 => -1
 | k + 1 => ((xs[k]?).map f).getD (-1)
theorem yX {α : Type} (f : α -> Int) {xs : List α} {k : Nat} {x : α} (h : xs[k]? = some x) : hR f xs (k + 1) = f x := by simp [hR, h]
theorem Xp {α A O : Type} {step : Nat -> A -> α -> Sum A O} {fin : A -> O} {g : A -> α -> A} (h : ∀ k a x, step k a x = .inl (g a x)) : ∀ (l : List α) (k : Nat) (a : A), jy step fin k a l = fin (l.foldl g a)
 | [], _, _ => rfl
 | x :: r, k, a => by simp only [jy, h, vi]; exact Xp h r (k + 1) (g a x)
theorem akN {α R : Type} {f : Int -> Option (cM Int (bK Unit Unit))} (xs : List α) (hn : xs.length < 4611686018427387904) (b : Nat -> α -> Bool)
  (hs : ∀ (k : Nat) x, xs[k]? = some x -> f k = some (bif b k x then .out (.ret ()) else .next (aQ (k + 1)))) (he : f (xs.length : Int) = some (.out (.go ()))) :
  bU f 0 = some (bif xs.zipIdx.any (fun p => b p.2 p.1) then .ret () else .go ()) := by
 have h := Xo (f := f) (fun k (_ : Unit) => (k : Int)) (fun k _ x => bif b k x then .inr (.ret ()) else .inl ()) (fun _ => .go ()) (fun _ _ => True) xs (fun k a x hx _ => by
  refine ⟨?_, fun _ _ => trivial⟩
  have aH := (fy.1 hx).1
  rw [hs k x hx]
  cases b k x
  · simp only [cond_false]
    rw [gf (by omega) (by omega)]; rfl
  · rfl) (fun _ _ => he) (a := ()) trivial
 have h2 : ∀ (k : Nat) (l : List α), jy (fun k (_ : Unit) x => bif b k x then (.inr (.ret ()) : Sum Unit (bK Unit Unit)) else .inl ()) (fun _ => .go ()) k () l = bif (l.zipIdx k).any (fun p => b p.2 p.1) then .ret () else .go () := by
  intro k l
  induction l generalizing k with
  | nil => rfl
  | cons x r ih =>
    simp only [jy, List.zipIdx_cons, List.any_cons]
    cases hb : b k x
    · simp only [cond_false, tj]; exact ih (k + 1)
    · simp
 rw [h2] at h
 exact h
theorem akO {α : Type} (b : α -> Bool) (l : List α) (k : Nat) : (l.zipIdx k).any (fun p => b p.1) = l.any b := by
 induction l generalizing k with
 | nil => rfl
 | cons x r ih => simp [List.zipIdx_cons, ih]
theorem mA {α : Type} {f : Int -> Option (cM Int (bK Unit Unit))} (xs : List α) (hn : xs.length < 4611686018427387904) (b : α -> Bool)
  (hs : ∀ (k : Nat) x, xs[k]? = some x -> f k = some (bif b x then .out (.ret ()) else .next (aQ (k + 1)))) (he : f (xs.length : Int) = some (.out (.go ()))) :
  bU f 0 = some (bif xs.any b then .ret () else .go ()) := by
 have := akN (R := Unit) xs hn (fun _ x => b x) hs he
 rw [akO] at this; exact this
theorem akP {α : Type} (xs : ak α) (hn : xs.l.length < 4611686018427387904) {f : α -> Option Bool} {p : α -> Bool} (ae : ∀ x ∈ xs.l, f x = some (p x)) :
  (bU (fun i7 : Int => (bif (decide (i7 < xs.len)) then ((aR xs.l i7).bind fun hG => ((f hG).bind fun fD => (bif fD then some (cM.out (bK.ret i7)) else some (.next (aQ (i7 + 1)))))) else some (.out (.go ())))) 0 : Option (bK Unit Int)) =
    some (match xs.l.findIdx? p with | none => .go () | some i => .ret (i : Int)) := by
 have h := Xo (f := fun i7 : Int => (bif (decide (i7 < xs.len)) then ((aR xs.l i7).bind fun hG => ((f hG).bind fun fD => (bif fD then some (cM.out (bK.ret i7 : bK Unit Int)) else some (.next (aQ (i7 + 1)))))) else some (.out (.go ()))))
  (fun k (_ : Unit) => (k : Int)) (fun k _ x => bif p x then .inr (.ret (k : Int)) else .inl ()) (fun _ => .go ()) (fun _ _ => True) xs.l (fun k a x hx _ => by
    refine ⟨?_, fun _ _ => trivial⟩
    have aH := (fy.1 hx).1
    have hd : decide ((k : Int) < xs.len) = true := by simp [ak.len]; exact aH
    simp only [hd, cond_true, c5, hx, aW, ae x (fm hx)]
    cases p x
    · simp only [cond_false]
      rw [gf (by omega) (by omega)]; rfl
    · rfl) (fun _ _ => by
    have hd : decide ((xs.l.length : Int) < xs.len) = false := by simp [ak.len]
    simp only [hd, cond_false]) (a := ()) trivial
 have h2 : ∀ (k : Nat) (l : List α), jy (fun k (_ : Unit) x => bif p x then (.inr (.ret (k : Int)) : Sum Unit (bK Unit Int)) else .inl ()) (fun _ => .go ()) k () l = match l.findIdx? p with | none => .go () | some i => .ret ((k + i : Nat) : Int) := by
  intro k l
  induction l generalizing k with
  | nil => rfl
  | cons x r ih =>
    simp only [jy, PL]
    cases hb : p x
    · simp only [cond_false, ih (k + 1)]
      cases r.findIdx? p with
      | none => rfl
      | some i => simp; omega
    · simp
 rw [h2] at h
 refine h.trans ?_
 cases xs.l.findIdx? p <;> simp
theorem EJ {α : Type} (xs : ak α) (hn : xs.l.length < 4611686018427387904) {f : α -> Option Bool} {p : α -> Bool} (ae : ∀ x ∈ xs.l, f x = some (p x)) :
  ((((bU (fun i7 : Int => (bif (decide (i7 < xs.len)) then ((aR xs.l i7).bind fun hG => ((f hG).bind fun fD => (bif fD then some (cM.out (bK.ret i7)) else some (.next (aQ (i7 + 1)))))) else some (.out (.go ())))) 0 : Option (bK Unit Int)).bind fun gA => match gA with | .go _ => some (-1) | .ret uI => some uI)).bind fun bu => some (decide (bu >= 0))) = some (xs.l.any p) := by
 rw [akP xs hn ae]
 have : (xs.l.findIdx? p).isSome = xs.l.any p := by
  rw [List.findIdx?_isSome]
 rw [<- this]
 cases xs.l.findIdx? p with
 | none => simp
 | some i => simp
theorem Oy {K W : Type} [BEq K] [LawfulBEq K] (k bs : K) (w : W) : ∀ m : List (K × W), ie (lC m k w) bs = if bs == k then some w else ie m bs
 | [] => by
   simp only [lC, ie, JR, List.find?_nil]
   cases ai : bs == k <;> simp
 | p :: r => by
   have ih := Oy k bs w r
   simp only [ie] at ih
   simp only [lC]
   cases hp : k == p.1
   · simp only [gX, if_false, ie, JR]
     cases bD : bs == p.1
     · simp only [ih]
     · have e : bs = p.1 := by simpa using bD
       have : (bs == k) = false := by
        rw [e]
        cases h : p.1 == k with
        | false => rfl
        | true => have e2 : p.1 = k := by simpa using h
                  rw [e2] at hp; simp at hp
       simp [this]
   · have e : k = p.1 := by simpa using hp
     simp only [if_true, ie, JR, e]
     cases bD : bs == p.1 <;> simp
end Go.Abs
namespace Go.Abs.U
open Go Go.Abs
def bl {α : Type} (l : List α) : Prop := l.length < 4611686018427387904
def kA (l : List Int) : Bool := l.all fun n => decide (n >= 1) && decide (n <= 6)
def jT (n : Nat) (c : List Int) : Bool := decide (c.length <= 3) && c.all fun x => decide (x >= 0) && decide (x < n)
def fO (s : List Int) (x : Int) : Int := (s[x.toNat]?).getD 1
def wid (s c : List Int) : Int := c.foldl (fun a x => a * fO s x) 1
def kB (t : Table) : Bool := (t.Kind == 0) || (t.Kind == 1)
def Bf (t : Table) : Bool := bif (t.Kind == 1) || ((t.Kind == 4) || (t.Kind == 5)) then decide (t.Range.eN <= t.Range.eO) && (decide (t.Range.eN >= -9999) && decide (t.Range.eO <= 9999)) else (t.Range.eN == 0) && (t.Range.eO == 1)
noncomputable def jU (w : bQ) : Bool := (yc w).getD false
theorem dF {α : Type} (x : ak α) : x.len = (x.l.length : Int) := rfl
theorem Xq (w : bQ) : yc w = some (jU w) := by
 unfold jU yc G6
 cases decide ((w.length : Int) <= 16) <;> rfl
theorem Oz (xs : ak Int) (h : bl xs.l) {f : Int -> Option Bool} {p : Int -> Bool} (ae : ∀ x ∈ xs.l, f x = some (p x)) : C7 xs f = some (xs.l.any p) := EJ xs h ae
theorem akQ (xs : ak Bool) (h : bl xs.l) (a : Bool) : MG xs a = some (xs.l.any fun x => a == x) := EJ xs h (f := fun x => some (a == x)) (fun x _ => rfl)
theorem akR (s : ak Int) (h : bl s.l) : Hi s = some (kA s.l) := by
 unfold Hi
 rw [Oz s h (f := MH) (p := fun n => !(decide (n >= 1) && decide (n <= 6))) (fun x _ => rfl)]
 simp [kA, nt]
theorem akS (s c : ak Int) (h : bl c.l) : Hj s c = some (jT s.l.length c.l) := by
 unfold Hj
 rw [Oz c h (f := fun z0 => MI s z0) (p := fun x => (decide (x < 0)) || (decide (x >= s.len))) (fun x _ => rfl)]
 unfold jT
 have e : decide ((c.l.length : Int) <= 3) = decide (c.l.length <= 3) := decide_eq_decide.2 (by omega)
 rw [dF, e]
 cases hc : decide (c.l.length <= 3) with
 | true =>
   simp only [cond_true, aW, dt, nt, aA]
   congr 2
   funext x
   rw [dF]
   by_cases h1 : x < 0 <;> by_cases h2 : x >= (s.l.length : Int) <;> simp_all <;> omega
 | false =>
   simp
theorem Xr (l : List Bool) (h : bl l) : Au (ak.mk l) = some (l.all id) := by
 unfold Au
 rw [akQ (ak.mk l) h]
 simp only [aW, nt, aA, ak.l]
 congr 2
 funext x
 cases x <;> rfl
theorem akT (t : Table) : Hk t = some (Bf t) := by
 unfold Hk Bf
 cases h1 : t.Kind == 1 <;> cases bc : t.Kind == 4 <;> cases h5 : t.Kind == 5 <;> simp
theorem Ja (t : Table) : Aw t = some (kB t) := rfl
theorem yY {s : List Int} {x : Int} (h0 : 0 <= x) (h1 : x < s.length) : aR s x = some (fO s x) := by
 have aH : x.toNat < s.length := by omega
 refine akM h0 ?_
 unfold fO
 simp [aH]
theorem EK {s : List Int} (h : kA s = true) {x : Int} (h0 : 0 <= x) (h1 : x < s.length) : 1 <= fO s x /\ fO s x <= 6 := by
 have aH : x.toNat < s.length := by omega
 unfold fO
 simp only [oV aH, vg]
 have := fo.1 h _ (JQ aH)
 simpa using this
theorem Bg {n : Nat} {c : List Int} (h : jT n c = true) : c.length <= 3 /\ ∀ x ∈ c, 0 <= x /\ x < n := by
 unfold jT at h
 simp only [cd, decide_eq_true_eq, fo] at h
 exact ⟨h.1, fun x hx => h.2 x hx⟩
theorem wF {s c : List Int} (hs : kA s = true) (hc : jT s.length c = true) : 1 <= wid s c /\ wid s c <= 216 := by
 obtain ⟨h1, h2⟩ := Bg hc
 have step : ∀ (a x : Int), 0 <= x /\ x < s.length -> 1 <= a -> ∀ m : Int, a <= m -> 1 <= a * fO s x /\ a * fO s x <= m * 6 := fun a x hx ao m hm => by
  obtain ⟨q1, aS⟩ := EK hs hx.1 hx.2
  constructor
  · exact Int.le_trans (by omega) (M9 ao q1 (by omega) (by omega))
  · exact M9 hm aS (by omega) (by omega)
 unfold wid
 match c, h1, h2 with
 | [], _, _ => simp
 | [x], _, h => have a := step 1 x (h x (by simp)) (by omega) 1 (by omega); simp only [vi, List.foldl_nil]; omega
 | [x, y], _, h =>
   have a := step 1 x (h x (by simp)) (by omega) 1 (by omega)
   have b := step _ y (h y (by simp)) a.1 _ a.2
   simp only [vi, List.foldl_nil]; omega
 | [x, y, z], _, h =>
   have a := step 1 x (h x (by simp)) (by omega) 1 (by omega)
   have b := step _ y (h y (by simp)) a.1 _ a.2
   have d := step _ z (h z (by simp)) b.1 _ b.2
   simp only [vi, List.foldl_nil]; omega
 | _ :: _ :: _ :: _ :: _, h, _ => simp at h
theorem OA (s c : ak Int) (hs : kA s.l = true) (hc : jT s.l.length c.l = true) : sP s c = some (wid s.l c.l) := by
 obtain ⟨h1, h2⟩ := Bg hc
 unfold sP
 have h := EH (f := Hl s c) (fun k (a : Int) st => st = (a, (k : Int)) /\ k <= 3 /\ 1 <= a /\ a <= 6 ^ k) (fun _ a x => .inl (a * fO s.l x)) (fun a => a) c.l (fun k a x st hx aa => by
  obtain ⟨rfl, ai, ao⟩ := aa
  have aH := (fy.1 hx).1
  have ed := h2 x (fm hx)
  obtain ⟨q1, aS⟩ := EK hs ed.1 ed.2
  have hd : decide ((k : Int) < c.len) = true := by simp [dF]; exact aH
  have hb : 1 <= a * fO s.l x /\ a * fO s.l x <= 6 ^ (k + 1) := ⟨Int.le_trans (by omega) (M9 ao.1 q1 (by omega) (by omega)), by
   rw [Int.pow_succ]; exact M9 ao.2 aS (by omega) (by have : (0 : Int) <= 6 ^ k := Int.pow_nonneg (by omega); omega)⟩
  have OB : (6 : Int) ^ (k + 1) <= 1296 := by
   have : k = 0 \/ k = 1 \/ k = 2 \/ k = 3 := by omega
   rcases this with rfl | rfl | rfl | rfl <;> decide
  refine ⟨(a * fO s.l x, ((k + 1 : Nat) : Int)), ?_, rfl, by omega, hb⟩
  simp only [Hl, hd, cond_true, c5, hx, aW, yY ed.1 ed.2]
  rw [gf (by omega) (by omega), gf (by omega) (by omega)]; rfl) (fun a st aa => by
  obtain ⟨rfl, -⟩ := aa
  have hd : decide ((c.l.length : Int) < c.len) = false := by simp [dF]
  simp only [Hl, hd, cond_false]) (a := 1) (s := (1, 0)) ⟨rfl, by omega, by simp⟩
 rw [h, Xp (g := fun a x => a * fO s.l x) (fun _ _ _ => rfl)]; rfl
end Go.Abs.U
namespace Go.Abs.U
open Go Go.Abs
noncomputable section
def lK (s : List Int) (t : Table) : Bool := jU t.Name && ((decide (t.Kind >= 0) && decide (t.Kind <= 5)) && (jT s.length t.aX.l && Bf t))
def l8 (ts : List Table) (k : Nat) (n : bQ) : Bool := (ts.take k).any fun u => u.Name == n
def uZ (s : List Int) (ts : List Table) (k : Nat) (a : Int × Int) (t : Table) : Sum (Int × Int) (Option (Int × Int)) :=
 bif lK s t && !(l8 ts k t.Name) then
  (bif kB t then (bif t.c2 == a.1 then .inl (a.1 + wid s t.aX.l, a.2) else .inr none) else (bif t.c2 == a.2 then .inl (a.1, a.2 + wid s t.aX.l) else .inr none))
 else .inr none
def EL (s : List Int) (ts : List Table) : Option (Int × Int) := jy (uZ s ts) some 0 (0, 0) ts
def ji (s : List Int) (ts : List Table) : Bool := decide (s.length <= 4) && (decide (ts.length <= 12) && (kA s && match EL s ts with
 | some (a, b) => decide (a <= 128) && decide (b <= 64)
 | none => false))
theorem OC {α A O akU : Type} (Jb : O -> akU) {step : Nat -> A -> α -> Sum A O} {fin : A -> O} : ∀ (l : List α) (k : Nat) (a : A), jy (fun k a x => (step k a x).map id Jb) (fun a => Jb (fin a)) k a l = Jb (jy step fin k a l)
 | [], _, _ => rfl
 | x :: r, k, a => by
   simp only [jy]
   cases step k a x with
   | inl bf => exact OC Jb r (k + 1) bf
   | inr o => rfl
theorem akV {ts : List Table} {k : Nat} {t : Table} (h : ts[k]? = some t) (n : bQ) : l8 ts (k + 1) n = (l8 ts k n || t.Name == n) := by
 unfold l8
 rw [wY, h]
 simp
theorem EM {a b : bQ} : (a == b) = (b == a) := by
 cases h : a == b with
 | true => have : a = b := by simpa using h
           subst this; exact h.symm
 | false => cases h' : b == a with
   | false => rfl
   | true => have : b = a := by simpa using h'
             subst this; rw [h] at h'; cases h'
def Jc : Option (Int × Int) -> bK (Int × Int) Unit
 | some a => .go (a.2, a.1)
 | none => .ret ()
theorem akW {s : ak Int} {ts : ak Table} (hs : kA s.l = true) (hl : ts.l.length <= 12) (hc : ∀ t ∈ ts.l, bl t.aX.l) :
  bU (Ax s ts) (0, 0, 0, []) = some (Jc (EL s.l ts.l)) := by
 have h := EH (f := Ax s ts) (fun k (a : Int × Int) st => ∃ m, st = ((k : Int), a.2, a.1, m) /\ (0 <= a.1 /\ a.1 <= 216 * k /\ 0 <= a.2 /\ a.2 <= 216 * k) /\ ∀ n, (ie m n).getD false = l8 ts.l k n)
  (fun k a x => (uZ s.l ts.l k a x).map id Jc) (fun a => Jc (some a)) ts.l (fun k a t st hx aa => by
  obtain ⟨m, rfl, ⟨al, a2, a3, a4⟩, hm⟩ := aa
  have aH := (fy.1 hx).1
  have dn := fm hx
  have hd : decide ((k : Int) < ts.len) = true := by simp [dF]; exact aH
  have eo : ∀ a b c d e : Bool, Au (ak.mk [a, b, c, d, e]) = some (a && (b && (c && (d && e)))) := fun a b c d e => by
   rw [Xr _ (by simp [bl])]; simp
  have mZ : ∀ n, (ie (lC m t.Name true) n).getD false = l8 ts.l (k + 1) n := fun n => by
   rw [Oy, akV hx, <- hm n]
   cases e : n == t.Name with
   | true => rw [EM, e]; simp
   | false => rw [EM (a := t.Name), e]; simp
  have ae : Ax s ts ((k : Int), a.2, a.1, m) = bif lK s.l t && !(l8 ts.l k t.Name) then
    (bif kB t then (bif t.c2 == a.1 then ((sP s t.aX).bind fun qB => some (.next ((aQ (k + 1)), a.2, (aQ (a.1 + qB)), (lC m t.Name true)))) else some (.out (.ret ())))
      else (bif t.c2 == a.2 then ((sP s t.aX).bind fun Ay => some (.next ((aQ (k + 1)), (aQ (a.2 + Ay)), a.1, (lC m t.Name true)))) else some (.out (.ret ()))))
    else some (.out (.ret ())) := by
   simp only [Ax, hd, cond_true, c5, hx, aW, Xq, Hh, akS s t.aX (hc t dn), akT, eo, Ja, hm]
   have e : (jU t.Name && ((!(l8 ts.l k t.Name)) && ((decide (t.Kind >= 0) && decide (t.Kind <= 5)) && (jT s.l.length t.aX.l && Bf t)))) = (lK s.l t && !(l8 ts.l k t.Name)) := by
    unfold lK
    cases jU t.Name <;> cases l8 ts.l k t.Name <;> simp
   rw [e]
   cases lK s.l t && !(l8 ts.l k t.Name) with
   | false => rfl
   | true =>
     cases kB t <;> simp only [cond_true, cond_false, bne]
     · cases t.c2 == a.2 <;> rfl
     · cases t.c2 == a.1 <;> rfl
  rw [ae]
  unfold uZ
  cases bd : lK s.l t && !(l8 ts.l k t.Name) with
  | false => rfl
  | true =>
    have iu : jT s.l.length t.aX.l = true := by
     simp only [cd] at bd
     have := bd.1
     unfold lK at this
     simp only [cd] at this
     exact this.2.2.1
    have hw := wF hs iu
    have ai : (k : Int) <= 12 := by omega
    rw [OA s t.aX hs iu]
    simp only [cond_true, aW]
    cases kB t with
    | true =>
      simp only [cond_true]
      cases t.c2 == a.1 with
      | false => rfl
      | true =>
        simp only [cond_true, Sum.map_inl, id]
        rw [gf (n := (k : Int) + 1) (by omega) (by omega), gf (n := a.1 + wid s.l t.aX.l) (by omega) (by omega)]
        exact ⟨_, rfl, _, rfl, ⟨by omega, by omega, a3, by omega⟩, mZ⟩
    | false =>
      simp only [cond_false]
      cases t.c2 == a.2 with
      | false => rfl
      | true =>
        simp only [cond_true, Sum.map_inl, id]
        rw [gf (n := (k : Int) + 1) (by omega) (by omega), gf (n := a.2 + wid s.l t.aX.l) (by omega) (by omega)]
        exact ⟨_, rfl, _, rfl, ⟨al, by omega, by omega, by omega⟩, mZ⟩) (fun a st aa => by
  obtain ⟨m, rfl, -⟩ := aa
  have hd : decide ((ts.l.length : Int) < ts.len) = false := by simp [dF]
  simp only [Ax, hd, cond_false]; rfl) (a := (0, 0)) (s := (0, 0, 0, [])) ⟨[], rfl, by simp, fun n => rfl⟩
 rw [h, OC Jc (fin := some)]
 rfl
theorem OD (s : ak Int) (ts : ak Table) (h1 : bl s.l) (h2 : bl ts.l) (hc : ∀ t ∈ ts.l, bl t.aX.l) : Az s ts = some (ji s.l ts.l) := by
 unfold Az
 rw [akR s h1]
 simp only [aW]
 rw [Xr _ (by simp [bl])]
 have ah : decide (s.len <= 4) = decide (s.l.length <= 4) := decide_eq_decide.2 (by rw [dF]; omega)
 have e2 : decide (ts.len <= 12) = decide (ts.l.length <= 12) := decide_eq_decide.2 (by rw [dF]; omega)
 simp only [aW, List.all_cons, List.all_nil, id, vk, ah, e2]
 unfold ji
 cases gn : decide (s.l.length <= 4) with
 | false => rfl
 | true =>
   cases ht : decide (ts.l.length <= 12) with
   | false => rfl
   | true =>
     cases hs : kA s.l with
     | false => rfl
     | true =>
       simp only [dt, cond_true]
       rw [akW hs (by simpa using ht) hc]
       simp only [aW]
       cases EL s.l ts.l with
       | none => rfl
       | some a => rfl
end
end Go.Abs.U
namespace Go.Abs.U
open Go Go.Abs
noncomputable section
end
end Go.Abs.U
