/- Texts of this claim, joined and written short by a program. -/
import Derived.Test.YtonmjjfciemcoaaGreatDoorP11
import Derived.Test.YtonmjjfciemcoaaGreatDoorP09
import Derived.Test.YtonmjjfciemcoaaGreatDoorP00
set_option linter.unusedVariables false
set_option linter.unusedSimpArgs false
set_option linter.unusedSectionVars false
set_option maxRecDepth 100000
namespace Go.Abs.bz
open Go Go.Abs Go.Proofs
noncomputable section
variable (g:Nat->Option Obj)
def aab:List V:=[u4]
def aac:V:=.aU [.agg [.list 4 [.agg [J 0,.str [115],J 1,J (-1)],.agg [J 1,.str [114],J 3,J (-1)],.agg [J 4,.str [97],J 5,J 3],.agg [J 2,.str [105],J 7,J (-1)],.agg [J 3,.str [111],J 12,J (-1)],.agg [J 6,.str [112],J 14,J 12],.agg [J 3,.str [107],J 21,J (-1)]],.list 1 [J (-1),J 0,J (-1),J 1,J (-1),J 2,J 0,J 3,J 1,J (-1),J (-1),J (-1),J 4,J (-1),J 5,J 0,J (-1),J (-1),J (-1),J 1,J 5,J 6,J (-1),J (-1),J (-1),J (-1),J (-1),J (-1),J (-1),J (-1),J 1,J (-1),J (-1),J (-1),J (-1),J 1,J (-1),J (-1),J 1,J (-1)]],.aN,J 0]
theorem ao3:bm (Ls g) 200 (.fn 95 [] []) aab []=some (aac,[],0):=by kernel_rfl
def aad:List (List V × V):=[(aab,aac)]
theorem ao4:hC (Ls g) 200 95 aad:=⟨⟨by kernel_rfl,ao3 g⟩,trivial⟩
def Lt:Nat->Option bU:=over (Ls g) 95 (hB aad)
def aae:List V:=[u4,J 33]
def aaf:V:=.aN
theorem ao5:bm (Lt g) 200 (.fn 309 [] []) aae []=some (aaf,[],0):=by kernel_rfl
def aag:List (List V × V):=[(aae,aaf)]
theorem ao6:hC (Lt g) 200 309 aag:=⟨⟨by kernel_rfl,ao5 g⟩,trivial⟩
def Lu:Nat->Option bU:=over (Lt g) 309 (hB aag)
def aah:List V:=[ON,.aN,W7]
def aai:V:=.aU [.agg [J 36,.str [49],J 121,J 122,.aN,J 0,J (-1),J 1,J 1],.aN]
theorem ao7:bm (Lu g) 200 (.fn 415 [] []) aah []=some (aai,[],0):=by kernel_rfl
def aaj:List (List V × V):=[(aah,aai)]
theorem ao8:hC (Lu g) 200 415 aaj:=⟨⟨by kernel_rfl,ao7 g⟩,trivial⟩
def Lv:Nat->Option bU:=over (Lu g) 415 (hB aaj)
def aak:List V:=[u4,.aN,u4]
def aal:V:=.aU [u4,J 0]
theorem ao9:bm (Lv g) 200 (.fn 189 [] []) aak []=some (aal,[],0):=by kernel_rfl
def aam:List (List V × V):=[(aak,aal)]
theorem apa:hC (Lv g) 200 189 aam:=⟨⟨by kernel_rfl,ao9 g⟩,trivial⟩
def fH:Nat->Option bU:=over (Lv g) 189 (hB aam)
def aan:List V:=[WG]
def aao:V:=J 1
theorem apb:bm (fH g) 200 (.fn 94 [] []) aan []=some (aao,[],0):=by kernel_rfl
def aap:List V:=[OD]
def aaq:V:=J 2
theorem apc:bm (fH g) 200 (.fn 94 [] []) aap []=some (aaq,[],0):=by kernel_rfl
def aar:List V:=[WH]
def aas:V:=J 1
theorem apd:bm (fH g) 200 (.fn 94 [] []) aar []=some (aas,[],0):=by kernel_rfl
def aat:List V:=[OE]
def aau:V:=J 2
theorem ape:bm (fH g) 200 (.fn 94 [] []) aat []=some (aau,[],0):=by kernel_rfl
def aav:List V:=[WI]
def aaw:V:=J 3
theorem apf:bm (fH g) 200 (.fn 94 [] []) aav []=some (aaw,[],0):=by kernel_rfl
def aax:List V:=[OG]
def aay:V:=J 4
theorem apg:bm (fH g) 200 (.fn 94 [] []) aax []=some (aay,[],0):=by kernel_rfl
def aaz:List V:=[WJ]
def aaA:V:=J 1
theorem aph:bm (fH g) 200 (.fn 94 [] []) aaz []=some (aaA,[],0):=by kernel_rfl
def aaB:List V:=[WK]
def aaC:V:=J 1
theorem api:bm (fH g) 200 (.fn 94 [] []) aaB []=some (aaC,[],0):=by kernel_rfl
def aaD:List V:=[WL]
def aaE:V:=J 2
theorem apj:bm (fH g) 200 (.fn 94 [] []) aaD []=some (aaE,[],0):=by kernel_rfl
def aaF:List V:=[WM]
def aaG:V:=J 3
theorem apk:bm (fH g) 200 (.fn 94 [] []) aaF []=some (aaG,[],0):=by kernel_rfl
def aaH:List V:=[OH]
def aaI:V:=J 4
theorem apl:bm (fH g) 200 (.fn 94 [] []) aaH []=some (aaI,[],0):=by kernel_rfl
def aaJ:List V:=[WN]
def aaK:V:=J 1
theorem apm:bm (fH g) 200 (.fn 94 [] []) aaJ []=some (aaK,[],0):=by kernel_rfl
def aaL:List V:=[OI]
def aaM:V:=J 2
theorem apn:bm (fH g) 200 (.fn 94 [] []) aaL []=some (aaM,[],0):=by kernel_rfl
def aaN:List V:=[WO]
def aaO:V:=J 3
theorem apo:bm (fH g) 200 (.fn 94 [] []) aaN []=some (aaO,[],0):=by kernel_rfl
def aaP:List V:=[WQ]
def aaQ:V:=J 1
theorem apq:bm (fH g) 200 (.fn 94 [] []) aaP []=some (aaQ,[],0):=by kernel_rfl
def aaR:List V:=[OJ]
def aaS:V:=J 1
theorem apr:bm (fH g) 200 (.fn 94 [] []) aaR []=some (aaS,[],0):=by kernel_rfl
def aaT:List V:=[WR]
def aaU:V:=J 2
theorem aps:bm (fH g) 200 (.fn 94 [] []) aaT []=some (aaU,[],0):=by kernel_rfl
def aaV:List V:=[OK]
def aaW:V:=J 3
theorem apt:bm (fH g) 200 (.fn 94 [] []) aaV []=some (aaW,[],0):=by kernel_rfl
def aaX:List V:=[Kk]
def aaY:V:=J 4
theorem apu:bm (fH g) 200 (.fn 94 [] []) aaX []=some (aaY,[],0):=by kernel_rfl
def aaZ:List V:=[OL]
def aa0:V:=J 5
theorem apv:bm (fH g) 200 (.fn 94 [] []) aaZ []=some (aa0,[],0):=by kernel_rfl
def aa1:List V:=[WS]
def aa2:V:=J 1
theorem apw:bm (fH g) 200 (.fn 94 [] []) aa1 []=some (aa2,[],0):=by kernel_rfl
def aa3:List V:=[WT]
def aa4:V:=J 1
theorem apx:bm (fH g) 200 (.fn 94 [] []) aa3 []=some (aa4,[],0):=by kernel_rfl
def aa5:List V:=[OM]
def aa6:V:=J 1
theorem apy:bm (fH g) 200 (.fn 94 [] []) aa5 []=some (aa6,[],0):=by kernel_rfl
def aa7:List V:=[WU]
def aa8:V:=J 1
theorem apz:bm (fH g) 200 (.fn 94 [] []) aa7 []=some (aa8,[],0):=by kernel_rfl
def aa9:List V:=[WV]
def aba:V:=J 2
theorem apA:bm (fH g) 200 (.fn 94 [] []) aa9 []=some (aba,[],0):=by kernel_rfl
def abb:List V:=[WW]
def abc:V:=J 3
theorem apB:bm (fH g) 200 (.fn 94 [] []) abb []=some (abc,[],0):=by kernel_rfl
def abd:List V:=[WX]
def abe:V:=J 4
theorem apC:bm (fH g) 200 (.fn 94 [] []) abd []=some (abe,[],0):=by kernel_rfl
def abf:List V:=[ON]
def abg:V:=J 1
theorem apD:bm (fH g) 200 (.fn 94 [] []) abf []=some (abg,[],0):=by kernel_rfl
def abh:List V:=[WY]
def abj:V:=J 2
theorem apE:bm (fH g) 200 (.fn 94 [] []) abh []=some (abj,[],0):=by kernel_rfl
def abk:List V:=[WZ]
def abl:V:=J 5
theorem apF:bm (fH g) 200 (.fn 94 [] []) abk []=some (abl,[],0):=by kernel_rfl
def abm:List V:=[W0]
def abn:V:=J 1
theorem apG:bm (fH g) 200 (.fn 94 [] []) abm []=some (abn,[],0):=by kernel_rfl
def abo:List V:=[W1]
def abp:V:=J 2
theorem apH:bm (fH g) 200 (.fn 94 [] []) abo []=some (abp,[],0):=by kernel_rfl
def abq:List V:=[W2]
def abr:V:=J 3
theorem apI:bm (fH g) 200 (.fn 94 [] []) abq []=some (abr,[],0):=by kernel_rfl
def abt:List V:=[W3]
def abu:V:=J 1
theorem apJ:bm (fH g) 200 (.fn 94 [] []) abt []=some (abu,[],0):=by kernel_rfl
def abv:List V:=[W4]
def abw:V:=J 2
theorem apK:bm (fH g) 200 (.fn 94 [] []) abv []=some (abw,[],0):=by kernel_rfl
def abx:List V:=[W5]
def aby:V:=J 3
theorem apL:bm (fH g) 200 (.fn 94 [] []) abx []=some (aby,[],0):=by kernel_rfl
def abz:List V:=[OO]
def abA:V:=J 6
theorem apM:bm (fH g) 200 (.fn 94 [] []) abz []=some (abA,[],0):=by kernel_rfl
def abB:List V:=[W6]
def abC:V:=J 7
theorem apN:bm (fH g) 200 (.fn 94 [] []) abB []=some (abC,[],0):=by kernel_rfl
def abD:List V:=[u4]
def abE:V:=J 8
theorem apO:bm (fH g) 200 (.fn 94 [] []) abD []=some (abE,[],0):=by kernel_rfl
def abF:List (List V × V):=[(aan,aao),(aap,aaq),(aar,aas),(aat,aau),(aav,aaw),(aax,aay),(aaz,aaA),(aaB,aaC),(aaD,aaE),(aaF,aaG),(aaH,aaI),(aaJ,aaK),(aaL,aaM),(aaN,aaO),(aaP,aaQ),(aaR,aaS),(aaT,aaU),(aaV,aaW),(aaX,aaY),(aaZ,aa0),(aa1,aa2),(aa3,aa4),(aa5,aa6),(aa7,aa8),(aa9,aba),(abb,abc),(abd,abe),(abf,abg),(abh,abj),(abk,abl),(abm,abn),(abo,abp),(abq,abr),(abt,abu),(abv,abw),(abx,aby),(abz,abA),(abB,abC),(abD,abE)]
theorem apP:hC (fH g) 200 94 abF:=⟨⟨by kernel_rfl,apb g⟩,⟨⟨by kernel_rfl,apc g⟩,⟨⟨by kernel_rfl,apd g⟩,⟨⟨by kernel_rfl,ape g⟩,⟨⟨by kernel_rfl,apf g⟩,⟨⟨by kernel_rfl,apg g⟩,⟨⟨by kernel_rfl,aph g⟩,⟨⟨by kernel_rfl,api g⟩,⟨⟨by kernel_rfl,apj g⟩,⟨⟨by kernel_rfl,apk g⟩,⟨⟨by kernel_rfl,apl g⟩,⟨⟨by kernel_rfl,apm g⟩,⟨⟨by kernel_rfl,apn g⟩,⟨⟨by kernel_rfl,apo g⟩,⟨⟨by kernel_rfl,apq g⟩,⟨⟨by kernel_rfl,apr g⟩,⟨⟨by kernel_rfl,aps g⟩,⟨⟨by kernel_rfl,apt g⟩,⟨⟨by kernel_rfl,apu g⟩,⟨⟨by kernel_rfl,apv g⟩,⟨⟨by kernel_rfl,apw g⟩,⟨⟨by kernel_rfl,apx g⟩,⟨⟨by kernel_rfl,apy g⟩,⟨⟨by kernel_rfl,apz g⟩,⟨⟨by kernel_rfl,apA g⟩,⟨⟨by kernel_rfl,apB g⟩,⟨⟨by kernel_rfl,apC g⟩,⟨⟨by kernel_rfl,apD g⟩,⟨⟨by kernel_rfl,apE g⟩,⟨⟨by kernel_rfl,apF g⟩,⟨⟨by kernel_rfl,apG g⟩,⟨⟨by kernel_rfl,apH g⟩,⟨⟨by kernel_rfl,apI g⟩,⟨⟨by kernel_rfl,apJ g⟩,⟨⟨by kernel_rfl,apK g⟩,⟨⟨by kernel_rfl,apL g⟩,⟨⟨by kernel_rfl,apM g⟩,⟨⟨by kernel_rfl,apN g⟩,⟨⟨by kernel_rfl,apO g⟩,trivial⟩⟩⟩⟩⟩⟩⟩⟩⟩⟩⟩⟩⟩⟩⟩⟩⟩⟩⟩⟩⟩⟩⟩⟩⟩⟩⟩⟩⟩⟩⟩⟩⟩⟩⟩⟩⟩⟩⟩
def yF:Nat->Option bU:=over (fH g) 94 (hB abF)
end
end Go.Abs.bz
namespace Go.Abs
def abG:Option bU->hY
 |some (.code f)=>f
 | _=>⟨0,.skip,[],false⟩
def w2:bZ->bZ| .seq a _=>a|c=>c
def j4:bZ->bZ| .seq _ a=>a|c=>c
def apQ:bZ->bZ| .block _ (.loop c)=>c|c=>c
def AX:List bZ->bZ->bZ
 |[],c=>c
 |a::r,c=>.seq a (AX r c)
variable{aa:Nat->Option bU}
theorem Q5{n:Nat}{c:bZ}:∀{l:List bZ} {st aQ:av},nu (bm aa n) n l st=some aQ->c4 aa (AX l c) st=c4 aa c aQ
 |[],st,aQ,h=>by cases h;rfl
 |a::r,st,aQ,h=>by
  simp only[nu]at h;split at h
  ·rename_i s hs
   simp only[AX,hM,fW.2 ⟨n,hs⟩];exact Q5 h
  ·cases h
theorem abH{n i:Nat}{X R:bZ}:∀{k:Nat} {st aQ:av},nu (bm aa n) n (List.replicate k X) st=some aQ->c4 aa (.seq (.block i (.loop X)) R) st=c4 aa (.seq (.block i (.loop X)) R) aQ
 |0,st,aQ,h=>by cases h;rfl
 |k+1,st,aQ,h=>by
  simp only[List.replicate,nu]at h;split at h
  ·rename_i s hs
   rw[<-abH h,hM,hM,mo,mo,sa X st,fW.2 ⟨n,hs⟩]
  ·cases h
theorem abI{call:cW}{n:Nat}{m:List bZ}{aQ:av}:∀{l:List bZ} {st:av},nu call n (l++m) st=some aQ->∃s,nu call n l st=some s/\nu call n m s=some aQ
 |[],st,h=>⟨st,rfl,h⟩
 |a::r,st,h=>by
  simp only[mi,nu]at h;split at h
  ·rename_i s hs
   obtain⟨u,h1,h2⟩:=abI h;exact⟨u,by simp only[nu,hs];exact h1,h2⟩
  ·cases h
theorem apR{i b n l:Nat}{fn:hY}{ps:List bZ}{X R:bZ}{ay:List V}{w3:av}{r:V × Heap × Nat}(hc:aa i=some (.code fn))(hb:fn.body=AX ps (.seq (.block b (.loop X)) R))
  (h1:nu (bm aa n) n (ps++List.replicate l X) ⟨[],fl 0 ay,[],0,none⟩=some w3)
  (h2:gF (fun _ _=>Abs.exec (bm aa n) n (.seq (.block b (.loop X)) R) w3) fn ay []=some r):∃n,bm aa n (.fn i [] []) ay []=some r:=by
 rw[<-tp,k3,hc];obtain⟨s,q1,q2⟩:=abI h1;have he:c4 aa fn.body ⟨[],fl 0 ay,[],0,none⟩=c4 aa (.seq (.block b (.loop X)) R) w3:=by rw[hb,Q5 q1,abH q2]
 have ar:=Kg (ex':=fun _ _=>c4 aa (.seq (.block b (.loop X)) R) w3) (fun c st r h=>fW.2 ⟨n,h⟩) h2;show gF (c4 aa) fn ([]++ay++[]) []=_;rw[jN,lR,<-ar];unfold gF;rw[show(([]:Heap).length)=0 from rfl,he]
theorem apS{i n:Nat}{fn:hY}{ps:List bZ}{R:bZ}{ay:List V}{w3:av}{r:V × Heap × Nat}(hc:aa i=some (.code fn))(hb:fn.body=AX ps R)(h1:nu (bm aa n) n ps ⟨[],fl 0 ay,[],0,none⟩=some w3)
  (h2:gF (fun _ _=>Abs.exec (bm aa n) n R w3) fn ay []=some r):∃n,bm aa n (.fn i [] []) ay []=some r:=by
 rw[<-tp,k3,hc];have he:c4 aa fn.body ⟨[],fl 0 ay,[],0,none⟩=c4 aa R w3:=by rw[hb,Q5 h1]
 have ar:=Kg (ex':=fun _ _=>c4 aa R w3) (fun c st r h=>fW.2 ⟨n,h⟩) h2;show gF (c4 aa) fn ([]++ay++[]) []=_;rw[jN,lR,<-ar];unfold gF;rw[show(([]:Heap).length)=0 from rfl,he]
end Go.Abs
