/- Texts of this claim, joined and written short by a program. -/
import Derived.Test.YtdoflpjbdlgciaaGreatDoorP11
import Derived.Test.YtdoflpjbdlgciaaGreatDoorP09
import Derived.Test.YtdoflpjbdlgciaaGreatDoorP00
set_option linter.unusedVariables false
set_option linter.unusedSimpArgs false
set_option linter.unusedSectionVars false
set_option maxRecDepth 100000
namespace Go.Abs.bZ
open Go Go.Abs Go.Proofs
noncomputable section
variable (g:Nat->Option Obj)
def XL:List V:=[tG]
def XM:V:=.bd [.agg [.list 4 [.agg [J 0,.str [115],J 1,J (-1)],.agg [J 1,.str [114],J 3,J (-1)],.agg [J 4,.str [97],J 5,J 3],.agg [J 2,.str [105],J 7,J (-1)],.agg [J 3,.str [111],J 12,J (-1)],.agg [J 6,.str [112],J 14,J 12],.agg [J 3,.str [107],J 21,J (-1)]],.list 1 [J (-1),J 0,J (-1),J 1,J (-1),J 2,J 0,J 3,J 1,J (-1),J (-1),J (-1),J 4,J (-1),J 5,J 0,J (-1),J (-1),J (-1),J 1,J 5,J 6,J (-1),J (-1),J (-1),J (-1),J (-1),J (-1),J (-1),J (-1),J 1,J (-1),J (-1),J (-1),J (-1),J 1,J (-1),J (-1),J 1,J (-1)]],.aY,J 0]
theorem alq:bm (JS g) 200 (.fn 74 [] []) XL []=some (XM,[],0):=by kernel_rfl
def XN:List (List V × V):=[(XL,XM)]
theorem alr:hq (JS g) 200 74 XN:=⟨⟨by kernel_rfl,alq g⟩,trivial⟩
def JT:Nat->Option cb:=over (JS g) 74 (hk XN)
def XO:List V:=[tG,J 33]
def XP:V:=.aY
theorem als:bm (JT g) 200 (.fn 301 [] []) XO []=some (XP,[],0):=by kernel_rfl
def XQ:List (List V × V):=[(XO,XP)]
theorem alu:hq (JT g) 200 301 XQ:=⟨⟨by kernel_rfl,als g⟩,trivial⟩
def JU:Nat->Option cb:=over (JT g) 301 (hk XQ)
def XR:List V:=[Nv,.aY,Uz]
def XS:V:=.bd [.agg [J 36,.str [49],J 121,J 122,.aY,J 0,J (-1),J 1,J 1],.aY]
theorem alv:bm (JU g) 200 (.fn 395 [] []) XR []=some (XS,[],0):=by kernel_rfl
def XT:List (List V × V):=[(XR,XS)]
theorem alw:hq (JU g) 200 395 XT:=⟨⟨by kernel_rfl,alv g⟩,trivial⟩
def JV:Nat->Option cb:=over (JU g) 395 (hk XT)
def XU:List V:=[tG,.aY,tG]
def XV:V:=.bd [tG,J 0]
theorem alx:bm (JV g) 200 (.fn 193 [] []) XU []=some (XV,[],0):=by kernel_rfl
def XW:List (List V × V):=[(XU,XV)]
theorem aly:hq (JV g) 200 193 XW:=⟨⟨by kernel_rfl,alx g⟩,trivial⟩
def fK:Nat->Option cb:=over (JV g) 193 (hk XW)
def XX:List V:=[T9]
def XY:V:=J 1
theorem alz:bm (fK g) 200 (.fn 73 [] []) XX []=some (XY,[],0):=by kernel_rfl
def XZ:List V:=[Nk]
def X0:V:=J 2
theorem alA:bm (fK g) 200 (.fn 73 [] []) XZ []=some (X0,[],0):=by kernel_rfl
def X1:List V:=[Ua]
def X2:V:=J 1
theorem alB:bm (fK g) 200 (.fn 73 [] []) X1 []=some (X2,[],0):=by kernel_rfl
def X3:List V:=[Nl]
def X4:V:=J 2
theorem alC:bm (fK g) 200 (.fn 73 [] []) X3 []=some (X4,[],0):=by kernel_rfl
def X5:List V:=[Ub]
def X6:V:=J 3
theorem alD:bm (fK g) 200 (.fn 73 [] []) X5 []=some (X6,[],0):=by kernel_rfl
def X7:List V:=[Nn]
def X8:V:=J 4
theorem alE:bm (fK g) 200 (.fn 73 [] []) X7 []=some (X8,[],0):=by kernel_rfl
def X9:List V:=[Uc]
def Ya:V:=J 1
theorem alF:bm (fK g) 200 (.fn 73 [] []) X9 []=some (Ya,[],0):=by kernel_rfl
def Yb:List V:=[Ud]
def Yc:V:=J 1
theorem alG:bm (fK g) 200 (.fn 73 [] []) Yb []=some (Yc,[],0):=by kernel_rfl
def Yd:List V:=[Ue]
def Ye:V:=J 2
theorem alH:bm (fK g) 200 (.fn 73 [] []) Yd []=some (Ye,[],0):=by kernel_rfl
def Yf:List V:=[Uf]
def Yg:V:=J 3
theorem alI:bm (fK g) 200 (.fn 73 [] []) Yf []=some (Yg,[],0):=by kernel_rfl
def Yh:List V:=[Np]
def Yi:V:=J 4
theorem alJ:bm (fK g) 200 (.fn 73 [] []) Yh []=some (Yi,[],0):=by kernel_rfl
def Yj:List V:=[Ug]
def Yk:V:=J 1
theorem alK:bm (fK g) 200 (.fn 73 [] []) Yj []=some (Yk,[],0):=by kernel_rfl
def Yl:List V:=[Nq]
def Ym:V:=J 2
theorem alL:bm (fK g) 200 (.fn 73 [] []) Yl []=some (Ym,[],0):=by kernel_rfl
def Yn:List V:=[Uh]
def Yo:V:=J 3
theorem alM:bm (fK g) 200 (.fn 73 [] []) Yn []=some (Yo,[],0):=by kernel_rfl
def Yp:List V:=[Ui]
def Yq:V:=J 1
theorem alN:bm (fK g) 200 (.fn 73 [] []) Yp []=some (Yq,[],0):=by kernel_rfl
def Yr:List V:=[Nr]
def Ys:V:=J 1
theorem alO:bm (fK g) 200 (.fn 73 [] []) Yr []=some (Ys,[],0):=by kernel_rfl
def Yt:List V:=[Uj]
def Yu:V:=J 2
theorem alP:bm (fK g) 200 (.fn 73 [] []) Yt []=some (Yu,[],0):=by kernel_rfl
def Yv:List V:=[Ns]
def Yw:V:=J 3
theorem alQ:bm (fK g) 200 (.fn 73 [] []) Yv []=some (Yw,[],0):=by kernel_rfl
def Yx:List V:=[Iv]
def Yy:V:=J 4
theorem alR:bm (fK g) 200 (.fn 73 [] []) Yx []=some (Yy,[],0):=by kernel_rfl
def Yz:List V:=[Nt]
def YA:V:=J 5
theorem alS:bm (fK g) 200 (.fn 73 [] []) Yz []=some (YA,[],0):=by kernel_rfl
def YB:List V:=[Uk]
def YC:V:=J 1
theorem alT:bm (fK g) 200 (.fn 73 [] []) YB []=some (YC,[],0):=by kernel_rfl
def YD:List V:=[Ul]
def YE:V:=J 1
theorem alU:bm (fK g) 200 (.fn 73 [] []) YD []=some (YE,[],0):=by kernel_rfl
def YF:List V:=[Nu]
def YG:V:=J 1
theorem alV:bm (fK g) 200 (.fn 73 [] []) YF []=some (YG,[],0):=by kernel_rfl
def YH:List V:=[Um]
def YI:V:=J 1
theorem alW:bm (fK g) 200 (.fn 73 [] []) YH []=some (YI,[],0):=by kernel_rfl
def YJ:List V:=[Un]
def YK:V:=J 2
theorem alX:bm (fK g) 200 (.fn 73 [] []) YJ []=some (YK,[],0):=by kernel_rfl
def YL:List V:=[Uo]
def YM:V:=J 3
theorem alY:bm (fK g) 200 (.fn 73 [] []) YL []=some (YM,[],0):=by kernel_rfl
def YN:List V:=[Up]
def YO:V:=J 4
theorem alZ:bm (fK g) 200 (.fn 73 [] []) YN []=some (YO,[],0):=by kernel_rfl
def YP:List V:=[Nv]
def YQ:V:=J 1
theorem al0:bm (fK g) 200 (.fn 73 [] []) YP []=some (YQ,[],0):=by kernel_rfl
def YR:List V:=[Uq]
def YS:V:=J 2
theorem al1:bm (fK g) 200 (.fn 73 [] []) YR []=some (YS,[],0):=by kernel_rfl
def YT:List V:=[Ur]
def YU:V:=J 5
theorem al2:bm (fK g) 200 (.fn 73 [] []) YT []=some (YU,[],0):=by kernel_rfl
def YV:List V:=[Us]
def YW:V:=J 1
theorem al3:bm (fK g) 200 (.fn 73 [] []) YV []=some (YW,[],0):=by kernel_rfl
def YX:List V:=[Ut]
def YY:V:=J 2
theorem al4:bm (fK g) 200 (.fn 73 [] []) YX []=some (YY,[],0):=by kernel_rfl
def YZ:List V:=[Uu]
def Y0:V:=J 3
theorem al5:bm (fK g) 200 (.fn 73 [] []) YZ []=some (Y0,[],0):=by kernel_rfl
def Y1:List V:=[Uv]
def Y2:V:=J 1
theorem al6:bm (fK g) 200 (.fn 73 [] []) Y1 []=some (Y2,[],0):=by kernel_rfl
def Y3:List V:=[Uw]
def Y4:V:=J 2
theorem al7:bm (fK g) 200 (.fn 73 [] []) Y3 []=some (Y4,[],0):=by kernel_rfl
def Y5:List V:=[Ux]
def Y6:V:=J 3
theorem al8:bm (fK g) 200 (.fn 73 [] []) Y5 []=some (Y6,[],0):=by kernel_rfl
def Y7:List V:=[Nw]
def Y8:V:=J 6
theorem al9:bm (fK g) 200 (.fn 73 [] []) Y7 []=some (Y8,[],0):=by kernel_rfl
def Y9:List V:=[Uy]
def Za:V:=J 7
theorem ama:bm (fK g) 200 (.fn 73 [] []) Y9 []=some (Za,[],0):=by kernel_rfl
def Zb:List V:=[tG]
def Zc:V:=J 8
theorem amb:bm (fK g) 200 (.fn 73 [] []) Zb []=some (Zc,[],0):=by kernel_rfl
def Zd:List (List V × V):=[(XX,XY),(XZ,X0),(X1,X2),(X3,X4),(X5,X6),(X7,X8),(X9,Ya),(Yb,Yc),(Yd,Ye),(Yf,Yg),(Yh,Yi),(Yj,Yk),(Yl,Ym),(Yn,Yo),(Yp,Yq),(Yr,Ys),(Yt,Yu),(Yv,Yw),(Yx,Yy),(Yz,YA),(YB,YC),(YD,YE),(YF,YG),(YH,YI),(YJ,YK),(YL,YM),(YN,YO),(YP,YQ),(YR,YS),(YT,YU),(YV,YW),(YX,YY),(YZ,Y0),(Y1,Y2),(Y3,Y4),(Y5,Y6),(Y7,Y8),(Y9,Za),(Zb,Zc)]
theorem amc:hq (fK g) 200 73 Zd:=⟨⟨by kernel_rfl,alz g⟩,⟨⟨by kernel_rfl,alA g⟩,⟨⟨by kernel_rfl,alB g⟩,⟨⟨by kernel_rfl,alC g⟩,⟨⟨by kernel_rfl,alD g⟩,⟨⟨by kernel_rfl,alE g⟩,⟨⟨by kernel_rfl,alF g⟩,⟨⟨by kernel_rfl,alG g⟩,⟨⟨by kernel_rfl,alH g⟩,⟨⟨by kernel_rfl,alI g⟩,⟨⟨by kernel_rfl,alJ g⟩,⟨⟨by kernel_rfl,alK g⟩,⟨⟨by kernel_rfl,alL g⟩,⟨⟨by kernel_rfl,alM g⟩,⟨⟨by kernel_rfl,alN g⟩,⟨⟨by kernel_rfl,alO g⟩,⟨⟨by kernel_rfl,alP g⟩,⟨⟨by kernel_rfl,alQ g⟩,⟨⟨by kernel_rfl,alR g⟩,⟨⟨by kernel_rfl,alS g⟩,⟨⟨by kernel_rfl,alT g⟩,⟨⟨by kernel_rfl,alU g⟩,⟨⟨by kernel_rfl,alV g⟩,⟨⟨by kernel_rfl,alW g⟩,⟨⟨by kernel_rfl,alX g⟩,⟨⟨by kernel_rfl,alY g⟩,⟨⟨by kernel_rfl,alZ g⟩,⟨⟨by kernel_rfl,al0 g⟩,⟨⟨by kernel_rfl,al1 g⟩,⟨⟨by kernel_rfl,al2 g⟩,⟨⟨by kernel_rfl,al3 g⟩,⟨⟨by kernel_rfl,al4 g⟩,⟨⟨by kernel_rfl,al5 g⟩,⟨⟨by kernel_rfl,al6 g⟩,⟨⟨by kernel_rfl,al7 g⟩,⟨⟨by kernel_rfl,al8 g⟩,⟨⟨by kernel_rfl,al9 g⟩,⟨⟨by kernel_rfl,ama g⟩,⟨⟨by kernel_rfl,amb g⟩,trivial⟩⟩⟩⟩⟩⟩⟩⟩⟩⟩⟩⟩⟩⟩⟩⟩⟩⟩⟩⟩⟩⟩⟩⟩⟩⟩⟩⟩⟩⟩⟩⟩⟩⟩⟩⟩⟩⟩⟩
def xJ:Nat->Option cb:=over (fK g) 73 (hk Zd)
end
end Go.Abs.bZ
namespace Go.Abs
def Ze:Option cb->hh
 |some (.code f)=>f
 | _=>⟨0,.skip,[],false⟩
def vV:b8->b8| .seq a _=>a|c=>c
def j2:b8->b8| .seq _ a=>a|c=>c
def amd:b8->b8| .block _ (.loop c)=>c|c=>c
def zv:List b8->b8->b8
 |[],c=>c
 |a::r,c=>.seq a (zv r c)
variable{ad:Nat->Option cb}
theorem PU{n:Nat}{c:b8}:∀{l:List b8} {st aX:au},nh (bm ad n) n l st=some aX->dz ad (zv l c) st=dz ad c aX
 |[],st,aX,h=>by cases h;rfl
 |a::r,st,aX,h=>by
  simp only[nh]at h;split at h
  ·rename_i s hs
   simp only[zv,hR,fV.2 ⟨n,hs⟩];exact PU h
  ·cases h
theorem Zf{n i:Nat}{X R:b8}:∀{k:Nat} {st aX:au},nh (bm ad n) n (List.replicate k X) st=some aX->dz ad (.seq (.block i (.loop X)) R) st=dz ad (.seq (.block i (.loop X)) R) aX
 |0,st,aX,h=>by cases h;rfl
 |k+1,st,aX,h=>by
  simp only[List.replicate,nh]at h;split at h
  ·rename_i s hs
   rw[<-Zf h,hR,hR,mY,mY,ru X st,fV.2 ⟨n,hs⟩]
  ·cases h
theorem Zg{call:c1}{n:Nat}{m:List b8}{aX:au}:∀{l:List b8} {st:au},nh call n (l++m) st=some aX->∃s,nh call n l st=some s/\nh call n m s=some aX
 |[],st,h=>⟨st,rfl,h⟩
 |a::r,st,h=>by
  simp only[ky,nh]at h;split at h
  ·rename_i s hs
   obtain⟨u,h1,h2⟩:=Zg h;exact⟨u,by simp only[nh,hs];exact h1,h2⟩
  ·cases h
theorem ame{i b n l:Nat}{fn:hh}{ps:List b8}{X R:b8}{aU:List V}{vW:au}{r:V × Heap × Nat}(hc:ad i=some (.code fn))(hb:fn.body=zv ps (.seq (.block b (.loop X)) R))
  (h1:nh (bm ad n) n (ps++List.replicate l X) ⟨[],gF 0 aU,[],0,none⟩=some vW)
  (h2:gu (fun _ _=>Abs.exec (bm ad n) n (.seq (.block b (.loop X)) R) vW) fn aU []=some r):∃n,bm ad n (.fn i [] []) aU []=some r:=by
 rw[<-sq,ny,hc];obtain⟨s,q1,aT⟩:=Zg h1;have he:dz ad fn.body ⟨[],gF 0 aU,[],0,none⟩=dz ad (.seq (.block b (.loop X)) R) vW:=by rw[hb,PU q1,Zf aT]
 have av:=Ir (ex':=fun _ _=>dz ad (.seq (.block b (.loop X)) R) vW) (fun c st r h=>fV.2 ⟨n,h⟩) h2;show gu (dz ad) fn ([]++aU++[]) []=_;rw[ke,rk,<-av];unfold gu;rw[show(([]:Heap).length)=0 from rfl,he]
theorem amf{i n:Nat}{fn:hh}{ps:List b8}{R:b8}{aU:List V}{vW:au}{r:V × Heap × Nat}(hc:ad i=some (.code fn))(hb:fn.body=zv ps R)(h1:nh (bm ad n) n ps ⟨[],gF 0 aU,[],0,none⟩=some vW)
  (h2:gu (fun _ _=>Abs.exec (bm ad n) n R vW) fn aU []=some r):∃n,bm ad n (.fn i [] []) aU []=some r:=by
 rw[<-sq,ny,hc];have he:dz ad fn.body ⟨[],gF 0 aU,[],0,none⟩=dz ad R vW:=by rw[hb,PU h1]
 have av:=Ir (ex':=fun _ _=>dz ad R vW) (fun c st r h=>fV.2 ⟨n,h⟩) h2;show gu (dz ad) fn ([]++aU++[]) []=_;rw[ke,rk,<-av];unfold gu;rw[show(([]:Heap).length)=0 from rfl,he]
end Go.Abs
