/- Texts of this claim, joined and written short by a program. -/
import Derived.Test.YtgkcikhegodchaaGreatDoorP28
import Derived.Test.YtgkcikhegodchaaGreatDoorP34
import Derived.Test.YtgkcikhegodchaaGreatDoorP29
import Derived.Test.YtgkcikhegodchaaGreatDoorP30
import Derived.Test.YtgkcikhegodchaaGreatDoorP33
import Derived.Test.YtgkcikhegodchaaGreatDoorP32
import Derived.Test.YtgkcikhegodchaaGreatDoorP00
set_option linter.unusedVariables false
set_option linter.unusedSimpArgs false
set_option linter.unusedSectionVars false
set_option maxHeartbeats 2000000
namespace Go.Abs.bA
open Go Go.Abs
noncomputable section
theorem agW{S O:Type}{f g:S->Option (cH S O)}(h:∀s r,f s=some r->g s=some r){s:S}{o:O}(hl:bW f s=some o):bW g s=some o:=by
 obtain⟨n,hn⟩:=tX.1 hl;refine tX.2 ⟨n,?_⟩;clear hl
 induction n generalizing s with
 |zero=>cases hn
 |succ n ih=>
  simp only[o7]at hn⊢;cases ag:f s with
  |none=>rw[ag]at hn;cases hn
  |some r=>
   rw[ag]at hn;rw[h s r ag];cases r with
   |next ar=>exact ih hn
   |out o'=>exact hn
theorem ayd{m:Model}{t:Int}{aF:ae Int}{g uF:Int->Option Bool}(bb:∀a r,g a=some r->uF a=some r)(s:Int × Bool)(r:cH (Int × Bool) Bool)(h:uh g m t aF s=some r):uh uF m t aF s=some r:=by
 obtain⟨i,v⟩:=s;simp only[uh]at h⊢;cases cT:decide (i<m.aW.len)with
 |false=>rw[cT]at h;exact h
 |true=>
  rw[cT]at h;simp only[cond_true]at h⊢;obtain⟨x,ex,h⟩:=bind_some h;rw[ex];simp only[aS];cases dI:(v&&x.Table==t)with
  |false=>rw[dI]at h;exact h
  |true=>
   rw[dI]at h;simp only[cond_true]at h⊢;obtain⟨y,jr,h⟩:=bind_some h;obtain⟨p,hN,h⟩:=bind_some h;obtain⟨w,IG,h⟩:=bind_some h;rw[jr,aS,hN,aS,bb _ _ IG,aS];exact h
theorem aye{m:Model}{l:ae Int}{g uF:Int->Option Bool}(bb:∀a r,g a=some r->uF a=some r)(c:Int)(r:Bool)(h:k6 m l g c=some r):k6 m l uF c=some r:=by
 unfold k6 at h⊢;obtain⟨x,ex,h⟩:=bind_some h;obtain⟨y,jr,h⟩:=bind_some h;rw[ex,aS,jr,aS];exact agW (ayd bb) h
theorem T5{m:Model}{l:ae Int}:∀(n:Nat) (c:Int) (r:Bool),fS (k6 m l) n c=some r->fS (k6 m l) (n+1) c=some r
 |0,c,r,h=>by cases h
 |n+1,c,r,h=>aye (T5 n) c r h
theorem agX{m:Model}{l:ae Int}{n k:Nat}(hk:n<=k){c:Int}{r:Bool}(h:fS (k6 m l) n c=some r):fS (k6 m l) k c=some r:=by
 induction hk with
 |refl=>exact h
 |step _ ih=>exact T5 _ _ _ ih
theorem agY{m:Model}{l:ae Int}{n k:Nat}{c:Int}{r lh:Bool}(h:fS (k6 m l) n c=some r)(h':fS (k6 m l) k c=some lh):r=lh:=by
 have h1:=agX (sg n k) h;have h2:=agX (q8 n k) h';rw[h1]at h2;exact ra h2
theorem agZ{m:Model}{l:ae Int}{n:Nat}{c:Int}{r:Bool}(h:fS (k6 m l) n c=some r):GU m l c=some r:=QM h fun k lh h'=>agY h' h
theorem ayf (E:List (Int × Bool))(a j:Int)(w:Bool):hI (ly E a w) j=if j=a then some w else hI E j:=by
 rw[MK];by_cases e:j=a<;>simp[e]
abbrev jf (m:Model):List V:=[aV 1 ao m.aA,aV 6 jW m.Tables,aV 1 V.str m.eg,aV 6 rL m.di,aV 3 rM m.Operations,aV 5 rN m.Actions,aV 3 iv m.aW]
abbrev zn (ez pm ps ji:Nat):V:=.fn 32 [] [.ptr ez 0,.ptr pm 0,.ptr ps 0,.ptr ji 0]
abbrev xJ (m:Model)(l:ae Int)(l3 ez pm ps ji:Nat)(E:List (Int × Bool))(ms:cG):cG:=
 [(l3,.map (gr ao V.bool E))]::[(ez,.cells [.map l3])]::[(pm,.cells (jf m))]::[(ps,.cells [aV 1 ao l])]::[(ji,.cells [zn ez pm ps ji])]::ms
def vF (m:Model)(l:ae Int)(E:List (Int × Bool)):Prop:=∀k w,hI E k=some w->∃n,fS (k6 m l) n k=some w
theorem vF.put{m:Model}{l:ae Int}{E:List (Int × Bool)}(h:vF m l E){c:Int}{w:Bool}{n:Nat}(hn:fS (k6 m l) n c=some w):vF m l (ly E c w):=fun k u hk=>by
 rw[ayf]at hk;split at hk
 ·rename_i e
  subst e;cases hk;exact⟨n,hn⟩
 ·exact h k u hk
section
variable{aa:Nat->Option cc}{b:Nat}{aq σ:bY}{H:Heap}{rest:List bU}{wr:List Bool}
theorem ayg{call:c5}{ah:ai->V}{E:List (Int × Bool)}{k:Int}{w:Bool}{a:Nat}{x i:ai}(bb:hI E k=some w)(hm:H[a]? =some (.map (gr ao V.bool E)))(hx:ah x=.map a)(hi:ah i=ao k):ch call ah H H.length (.lookup 0 (.bool false) x i true)=some (.aF [.bool w,.bool true],H,H.length):=by
 have:=QA (call:=call) (gJ:=ao) (gu:=V.bool) (z:=.bool false) yv false rfl hm hx hi;rw[bb]at this;exact this
theorem ayh{call:c5}{ah:ai->V}{E:List (Int × Bool)}{k:Int}{a:Nat}{x i:ai}(bb:hI E k=none)(hm:H[a]? =some (.map (gr ao V.bool E)))(hx:ah x=.map a)(hi:ah i=ao k):ch call ah H H.length (.lookup 0 (.bool false) x i true)=some (.aF [.bool false,.bool false],H,H.length):=by
 have:=QA (call:=call) (gJ:=ao) (gu:=V.bool) (z:=.bool false) yv false rfl hm hx hi;rw[bb]at this;exact this
theorem ag0{d:Option (Nat × Bool)}{g:Option (ai × Bool)}{f:ai}{aX:List ai}{fv v:V}{vs:List V}{H1:Heap}{bL:Nat}{Q:bY->Heap->List Bool->Prop}(hw:gi aq σ g=some true)(hc:b9 aa fv vs H=some (v,H1,bL))(hp:cj vs=true)(al:aX.map (bB aq σ)=vs)(ag:bB aq σ f=fv)
  (hb:b<=bL) (hl:b<=H1.length) (cA:∀H2 mv,(H2=H\/H2=H1)->Op aa b rest (fN aq d v) (fO σ d v) H2 (mv::wr) Q):Op aa b (⟨d,.call false f aX,g⟩::rest) aq σ H wr Q:=by
 by_cases kx:flat v=true/\H.length<=bL
 ·refine jw (o:=⟨d,.call false f aX,g⟩) (mv:=false) (H1:=H) hw (fun cC=>⟨cC,H.length,cC,?_,lv H⟩) (cA H false (.inl rfl))
  simp only[pZ,al,ag,o9 hp,hc];rw[if_pos kx]
 ·refine jw (o:=⟨d,.call false f aX,g⟩) (mv:=eG H H1 (min H.length bL)) (H1:=H1) hw (fun cC=>⟨hl,min H.length bL,by omega,?_,rfl⟩) (cA H1 _ (.inr rfl))
  simp only[pZ,al,ag,o9 hp,hc];rw[if_neg kx]
theorem ag1 (Ng:SN aa)(Nh:SP aa)(c1:aa 32=some (.code Nf))(m:Model)(l:ae Int):∀(n:Nat) (c:Int) (v:Bool),fS (k6 m l) n c=some v->
  ∀(H:Heap) (b l3 ez pm ps ji:Nat) (E:List (Int × Bool)) (ms:cG),b<=l3->b<=H.length->Own H (xJ m l l3 ez pm ps ji E ms)->vF m l E->
  ∃H' low' nN,b9 aa (zn ez pm ps ji) [ao c] H=some (.bool v,H',low')/\b<=low'/\b<=H'.length/\Own H' (xJ m l l3 ez pm ps ji nN ms)/\vF m l nN
 |0,c,v,h=>by cases h
 |n+1,c,v,h=>by
  intro H b l3 ez pm ps ji E ms tR BQ av de;have ih:=ag1 Ng Nh c1 m l n;have hx:k6 m l (fS (k6 m l) n) c=some v:=h
  suffices hex:fj aa b Nf.body (vb 0 ([ao c]++[.ptr ez 0,.ptr pm 0,.ptr ps 0,.ptr ji 0])) H fun x aT H'=>x=.ret/\aT 6=.bool v/\∃nN,vF m l nN/\Own H' (xJ m l l3 ez pm ps ji nN ms) by
   obtain⟨x,dm,H',low',aT,ad,e2,bK,cw,rfl,gp,nN,mZ,Qz⟩:=hex _ H.length (KQ 0 _) BQ BQ
   have bm:b9 aa (zn ez pm ps ji) [ao c] H=finish false H (.bool v) H' low':=by
    rw[pF,c1];simp only[j4,iL];rw[if_pos (j1 rfl),ad]
    have sI:gZ dm H' Nf.results=some [.bool v]:=by
     show gZ dm H' [.tmp 6]=_;simp only[gZ,kU,e2 6,gp]
    simp only[sI];rfl
   have iO:finish false H (.bool v) H' low'=if H.length<=low'/\old H.length (.bool v)=true then some (.bool v,H,H.length)else some (.bool v,H',low'):=rfl
   rw[iO]at bm;by_cases hle:H.length<=low'
   ·rw[if_pos ⟨hle,rfl⟩]at bm
    exact⟨H,H.length,E,bm,BQ,BQ,av,de⟩
   ·rw[if_neg fun q=>hle q.1]at bm
    exact⟨H',low',nN,bm,bK,cw,Qz,mZ⟩
  refine eL <| pp (.bool false) <| cZ <| gW <| eL <| ph (.map l3) (fo rfl (av.get 1 rfl) rfl) <| pp (ao c) <| ?_
  cases bb:hI E c with
  |some w=>
   refine ph (.aF [.bool w,.bool true]) (ayg bb (av.get 0 rfl) rfl rfl) <| pp (.aF [.bool w,.bool true]) <| pp (.bool w) <| pp (.bool true) <| pp (.bool w) <| pp (.bool true) <| cZ <| eL <| pp (.bool true) <| cZ <| p4 rfl rfl <| eL <| pp (.bool w) <| pp (.bool w) <| cZ <| sT <| ?_
   obtain⟨k,hk⟩:=de c w bb;have:w=v:=agY hk h;subst this;exact⟨rfl,rfl,E,de,av⟩
  |none=>
   unfold k6 at hx;obtain⟨t,nX,hx⟩:=bind_some hx;obtain⟨y,jr,hx⟩:=bind_some hx;refine ph (.aF [.bool false,.bool false]) (ayh bb (av.get 0 rfl) rfl rfl) <| pp (.aF [.bool false,.bool false]) <| pp (.bool false) <| pp (.bool false) <| pp (.bool false) <| pp (.bool false) <| cZ <| eL <| pp (.bool false) <| cZ <| nB rfl rfl <| nA <| ?_
   refine eL <| pp (.ptr pm 0) <| ph (aV 1 ao m.aA) (fo rfl (av.get 2 rfl) rfl) <| pp (.ptr pm 1) <| ph (aV 6 jW m.Tables) (fo rfl (av.get 2 rfl) rfl) <| pp (ao c) <| ph (.aF [ao t.1,aV 1 ao t.2.1,.bool t.2.2]) (va (Ng _ _ _ _ _ _ nX) (o9 (by simp[cj,bx])) rfl rfl) <| pp (.aF [ao t.1,aV 1 ao t.2.1,.bool t.2.2]) <| pp (ao t.1) <| pp (aV 1 ao t.2.1) <| pp (.bool t.2.2) <| pp (ao t.1) <| pp (aV 1 ao t.2.1) <| pp (.bool t.2.2) <| cZ <| ?_
   refine eL <| ph (aV 1 ao l) (fo rfl (av.get 3 rfl) rfl) <| pp (ao c) <| ph (.dz (aI (ao y)) 0) (p7 rfl rfl jr _) <| pp (ao y) <| pp (.bool (decide (y>=1))) <| pp (.bool (decide (y>=1))) <| cZ <| ?_
   refine gW <| eL <| pp (.ptr pm 6) <| ph (aV 3 iv m.aW) (fo rfl (av.get 2 rfl) rfl) <| ph (ao m.aW.len) (od rfl _) <| pp (ao 0) <| cZ <| p6 <| ?_
   refine cy (uh (fS (k6 m l) n) m t.1 t.2.1) (fun s aT H'=>At aT [0,1,2,3,4,9,10,41,42,43,12] [ao c,.ptr ez 0,.ptr pm 0,.ptr ps 0,.ptr ji 0,ao t.1,aV 1 ao t.2.1,aV 3 iv m.aW,ao m.aW.len,ao s.1,.bool s.2]/\∃nN,vF m l nN/\Own H' (xJ m l l3 ez pm ps ji nN ms))
    (fun o e1 aT H'=>e1=.exit 0/\At aT [0,1,12] [ao c,.ptr ez 0,.bool o]/\∃nN,vF m l nN/\Own H' (xJ m l l3 ez pm ps ji nN ms)) hx ⟨rfl,E,de,av⟩ ?_ ?_
   ·rintro⟨i,w⟩ cM H1 r ⟨j,sb,pT,rR⟩ hr
    dsimp only[uh]at hr;dsimp only at j;refine du j <| eL <| pp (.bool (decide (i<m.aW.len))) <| cZ <| gW <| ?_
    rcases nD hr with⟨cT,hr⟩|⟨cT,hr⟩
    ·refine p4 rfl cT <| nA <| gW <| p6 <| eL <| ?_
     obtain⟨x,ex,hr⟩:=bind_some hr;refine ph (.dz (aI (iv x)) 0) (p7 rfl rfl ex _) <| pp (.agg [ao x.Table,ao x.dK,ao x.bS]) <| u7 rfl rR fun H2 a nW vz=>u9 (vs:=[ao x.Table,ao x.dK,ao x.bS]) (cs':=[ao x.Table,ao x.dK,ao x.bS]) rfl vz 0 rfl nW rfl rfl ⟨rfl,j1 rfl⟩ (by simp[bM]) rfl fun oq l1=>cZ <| ?_
     cases w with
     |false=>
      have hr:some (cH.next (aL (i+1),false))=some r:=hr;cases hr;refine eL <| pp (.bool false) <| pp (.bool false) <| nE rfl <| nE rfl <| nE rfl <| nE rfl <| ph (.bool false) (wZ rfl rfl) <| cZ <| nB rfl rfl <| nA <| lR <| pp (ao (aL (i+1))) <| pp (ao (aL (i+1))) <| cZ <| ?_
      exact⟨rfl,rfl,sb,pT,l1.drop 0⟩
     |true=>
      rw[dy]at hr;refine eL <| pp (.bool true) <| pp (.bool true) <| iu (.ptr a 0) rfl <| hF (v:=ao x.Table) (h3 rfl rfl) (fo rfl (l1.get 0 rfl) rfl) <| iu (ao t.1) rfl <| iu (.bool (x.Table==t.1)) rfl <| ph (.bool (x.Table==t.1)) (qV rfl rfl) <| cZ <| ?_
      rcases nD hr with⟨dI,hr⟩|⟨dI,hr⟩
      ·obtain⟨qX,ayi,hr⟩:=bind_some hr
       obtain⟨p,hN,hr⟩:=bind_some hr;obtain⟨bQ,ayj,hr⟩:=bind_some hr;cases hr;have u4:b<=oq.length:=c4 nW (pB (qT (l1.get 0 rfl)));obtain⟨DR,avl,ayk,ayl,aym,ayn,xr,ayo⟩:=ih p.1 bQ ayj oq b l3 ez pm ps ji sb ms tR u4 (l1.drop 0) pT;refine p4 rfl dI <| gW <| Qn <| pp (.ptr pm 0) <| ph (aV 1 ao m.aA) (fo rfl (l1.get 3 rfl) rfl) <| pp (.ptr pm 1) <| ph (aV 6 jW m.Tables) (fo rfl (l1.get 3 rfl) rfl) <| pp (.ptr a 2) <| ph (ao x.bS) (fo rfl (l1.get 0 rfl) rfl) <| pp (aV 1 ao t.2.1) <| pp (.ptr a 1) <| ph (ao x.dK) (fo rfl (l1.get 0 rfl) rfl) <| ph (.dz (aI (ao qX)) 0) (p7 rfl rfl ayi _) <| pp (ao qX) <| ph (aV 1 ao (.mk [qX])) (F5 (vs:=[ao qX]) rfl rfl rfl (by simp) (by simp[cj,bx]) (by simp[bM,dY])) <| ph (.aF [ao p.1,ao p.2]) (va (Nh _ _ _ _ _ _ hN) (o9 (by simp[cj,bx])) rfl rfl) <| pp (.aF [ao p.1,ao p.2]) <| pp (ao p.1) <| pp (ao p.2) <| pp (ao p.1) <| pp (ao p.2) <| cZ ⟨rfl,?_⟩
       refine lR <| ph (zn ez pm ps ji) (fo rfl (l1.get 5 rfl) rfl) <| pp (ao p.1) <| ag0 (vs:=[ao p.1]) rfl ayl (by simp[cj,bx]) rfl rfl aym ayn fun ag2 mv ayp=>pp (.bool bQ) <| cZ <| lR <| pp (ao (aL (i+1))) <| pp (ao (aL (i+1))) <| cZ <| ?_
       rcases ayp with rfl|rfl
       ·exact⟨rfl,rfl,sb,pT,l1.drop 0⟩
       ·exact⟨rfl,rfl,ayk,ayo,xr⟩
      ·cases hr
       refine nB rfl dI <| nA <| lR <| pp (ao (aL (i+1))) <| pp (ao (aL (i+1))) <| cZ <| ?_
       exact⟨rfl,rfl,sb,pT,l1.drop 0⟩
    ·refine nB rfl cT <| wX <| ?_
     cases hr;exact⟨nofun,rfl,rfl,sb,pT,rR⟩
   ·rintro bs cM H1 ⟨rfl,j,sb,pT,rR⟩
    refine du j <| eL <| ph (.map l3) (fo rfl (rR.get 1 rfl) rfl) <| pp (ao c) <| pp (.bool v) <| QB (gJ:=ao) (gu:=V.bool) (m:=sb) (k:=c) (w:=v) rfl yv rR 0 rfl tR rfl rfl rfl (by simp[bx]) fun H2 vz=>cZ <| eL <| pp (.bool v) <| pp (.bool v) <| cZ <| sT <| ?_
    exact⟨rfl,rfl,ly sb c v,pT.put h,vz⟩
def ayq (aa:Nat->Option cc):Prop:=∀(H0:Heap) (ab:Model) (ax:ae Int) (r:ae Bool),vf ab ax=some r->b9 aa (.fn 9 [] []) [.agg (jf ab),aV 1 ao ax] H0=some (aV 1 V.bool r,H0,H0.length)
theorem ag3 (ayr:aeC aa)(Ng:SN aa)(Nh:SP aa)(h1:aa 9=some (.code ax7))(c1:aa 32=some (.code Nf)):ayq aa:=by
 intro H m l r h;refine KT (caps:=[]) h1 (j1 rfl) rfl ?_ (by simp[bx,cj]);unfold vf at h;obtain⟨q,eq,h⟩:=bind_some h;refine eL <| F4 (cs:=jf m) rfl (Own.nil H) rfl (by simp[bM]) fun H1 a2 nW rR=>F4 (cs:=[aV 1 ao l]) rfl rR (by cases l<;>rfl) (by simp[bM]) fun H2 a3 u4 vz=>pp .cu <| cZ <| gW <| eL <| ph (.agg (jf m)) (fo rfl (vz.get 1 rfl) rfl) <| ph (aV 1 ao l) (fo rfl (vz.get 0 rfl) rfl) <| ph (.bool q) (va (ayr _ _ _ _ eq) (o9 (by simp[cj,bx])) rfl rfl) <| pp (.bool (!q)) <| cZ <| ?_
 rcases nD h with⟨cT,h⟩|⟨cT,h⟩
 ·refine nB rfl (lS cT) <| nA <| eL <| Qv rfl vz fun oq l3 tR l1=>u7 rfl l1 fun DR ez ays xr=>u9 (vs:=[.map l3]) (cs':=[.map l3]) rfl xr 0 rfl ays rfl rfl ⟨rfl,j1 rfl⟩ (by simp[bM,dY]) rfl fun ag2 Ir=>cZ <| eL <| u7 rfl Ir fun af0 ji TM T6=>cZ <| eL <| pp (zn ez a2 a3 ji) <| u9 (vs:=[zn ez a2 a3 ji]) (cs':=[zn ez a2 a3 ji]) rfl T6 0 rfl TM rfl rfl ⟨rfl,j1 rfl⟩ (by simp[bM,dY]) rfl fun ayt ag4=>cZ <| eL <| pp .cu <| cZ <| gW <| eL <| ph (aV 1 ao l) (fo rfl (ag4.get 3 rfl) rfl) <| ph (ao l.len) (od rfl _) <| pp (ao 0) <| cZ <| p6 <| ?_
  have ayu:Own ayt (xJ m l l3 ez a2 a3 ji [] [[]]):=(ag4.Qq [2,1,4,3,0,5] (by decide))
  refine cy (A1 m l) (fun s aT H'=>∃cn fE nN,e3 H.length 1 V.bool cn s.2 fE/\At aT [6,16,17,7] [.ptr ji 0,ao l.len,ao s.1,cn]/\vF m l nN/\Own H' (xJ m l l3 ez a2 a3 ji nN [fE]))
   (fun o e1 aT H'=>e1=.exit 0/\∃cn fE nN,e3 H.length 1 V.bool cn o fE/\At aT [7] [cn]/\Own H' (xJ m l l3 ez a2 a3 ji nN [fE])) h ⟨_,[],[],.nil,rfl,(fun k w hk=>by cases hk),ayu⟩ ?_ ?_
  ·rintro⟨i,s⟩ cM T7 bI ⟨cn,fE,sb,uT,j,pT,Cd⟩ hr
   dsimp only[A1]at hr;dsimp only at j uT;refine du j <| eL <| pp (.bool (decide (i<l.len))) <| cZ <| gW <| ?_
   rcases nD hr with⟨dI,hr⟩|⟨dI,hr⟩
   ·obtain⟨w,IG,hr⟩:=bind_some hr
    obtain⟨ar,es,hr⟩:=bind_some hr;cases hr;obtain⟨n,hn⟩:=acF IG;have ayv:H.length<=T7.length:=c4 tR (pB (qT (Cd.get 0 rfl)));obtain⟨aBZ,aB0,ayw,CC,ayx,ayy,ayz,Ah⟩:=ag1 Ng Nh c1 m l n i w hn T7 H.length l3 ez a2 a3 ji sb [fE] tR ayv Cd pT;refine p4 rfl dI <| nA <| gW <| p6 <| eL <| pp (ao i) <| pp (ao i) <| cZ <| lR <| pp cn <| ph (zn ez a2 a3 ji) (fo rfl (Cd.get 4 rfl) rfl) <| pp (ao i) <| ag0 (vs:=[ao i]) rfl CC (by simp[cj,bx]) rfl rfl ayx ayy fun ayA mv ayB=> ?_
    obtain⟨Ni,FF,ayC⟩:∃Ni,vF m l Ni/\Own ayA (xJ m l l3 ez a2 a3 ji Ni [fE]):=by
     rcases ayB with rfl|rfl
     ·exact⟨sb,pT,Cd⟩
     ·exact⟨ayw,Ah,ayz⟩
    refine ph (aV 1 V.bool (.mk [w])) (F5 (vs:=[.bool w]) rfl rfl rfl (by simp) (by simp[cj,bx]) (by simp[bM,dY])) <| F6 (f:=V.bool) (s:=s) (y:=.mk [w]) rfl 5 es ayC rfl uT rfl rfl (by simp[bx]) (by simp[bM,dY]) fun aB1 v' m' aB2 o1 ayD=>pp v' <| cZ <| lR <| pp (ao (aL (i+1))) <| pp (ao (aL (i+1))) <| cZ <| ?_
    exact⟨rfl,v',m',Ni,o1,rfl,FF,ayD⟩
   ·refine nB rfl dI <| wX <| ?_
    cases hr;exact⟨nofun,rfl,cn,fE,sb,uT,rfl,Cd⟩
  ·rintro bs cM T7 ⟨rfl,cn,fE,sb,uT,j,Cd⟩
   refine du j <| eL <| pp cn <| pp cn <| cZ <| sT <| ?_
   exact⟨.inr rfl,KS (.tmp rfl .nil) rfl Cd (jV.row 5 rfl uT (by simp[bx]))⟩
 ·refine p4 rfl (lT cT) <| eL <| pp .cu <| cZ <| sT <| ?_
  cases h;exact⟨.inr rfl,Qy (.tmp rfl .nil) rfl (by simp[bx])⟩
end
end
end Go.Abs.bA
namespace Go.Abs.bA
open Go Go.Abs
noncomputable section
def T8 (m:Model)(n:Nat):Prop:=∀c:Nat,c<n->∃t aF,ml m.aA m.Tables true (c:Int)=some (t,aF,true)/\
 ∀h∈m.aW.l,h.Table=t->∃y,∃p:Nat,aO aF.l h.dK=some y/\qf m.aA m.Tables h.bS (.mk [y])=some ((p:Int),0)/\p<n/\∃sc,ml m.aA m.Tables true (p:Int)=some (h.bS,sc,true)
theorem ag5{m:Model}{t:Int}{aF:ae Int}{g:Int->Option Bool}{W:fp->Bool}(hl:m.aW.l.length<=100000)
  (bb:∀h∈m.aW.l,h.Table=t->∃y,∃p:Int × Int,aO aF.l h.dK=some y/\qf m.aA m.Tables h.bS (.mk [y])=some p/\g p.1=some (W h)):
  ∀(d k:Nat) (v:Bool),k+d=m.aW.l.length->bW (uh g m t aF) ((k:Int),v)=some (v&&(m.aW.l.drop k).all fun h=>!(h.Table==t)||W h):=by
 intro d
 induction d with
 |zero=>
  intro k v hk;have h0:m.aW.l.drop k=[]:=uJ (by omega)
  have hd:decide ((k:Int)<m.aW.len)=false:=by
   have:m.aW.len=(m.aW.l.length:Int):=rfl;rw[this];simp;omega
  rw[hG];simp only[uh,hd,cond_false,h0,List.all_nil,sj]
 |succ d ih=>
  intro k v hk;have aG:k<m.aW.l.length:=by omega
  have hd:decide ((k:Int)<m.aW.len)=true:=by
   have:m.aW.len=(m.aW.l.length:Int):=rfl;rw[this];simp;omega
  have hx:m.aW.l[k]? =some m.aW.l[k]:=jD aG;have Ce:aO m.aW.l (k:Int)=some m.aW.l[k]:=by unfold aO;rw[if_pos (by omega),zq,hx]
  have C3:m.aW.l.drop k=m.aW.l[k]::m.aW.l.drop (k+1):=qo aG
  have hw:aL ((k:Int)+1)=((k+1:Nat):Int):=by
   unfold aL;rw[wrap_small]<;>omega
  have dD:m.aW.l[k]∈m.aW.l:=Jg aG;rw[hG];simp only[uh,hd,cond_true,Ce,aS];cases hc:(v&&m.aW.l[k].Table==t)with
  |false=>
   simp only[cond_false];rw[hw,ih (k+1) v (by omega),C3,Ck];cases v with
   |false=>rfl
   |true=>
    rw[dy]at hc;rw[hc];simp
  |true=>
   simp only[cm,beq_iff_eq]at hc;obtain⟨y,p,ad,e2,bK⟩:=bb _ dD hc.2;simp only[cond_true,ad,e2,bK,aS];have ht:(m.aW.l[k].Table==t)=true:=by simpa using hc.2
   rw[hw,ih (k+1) _ (by omega),C3,Ck,hc.1,ht];simp
variable{m:Model}{n:Nat}{l:ae Int}
theorem T9{l:ae Int}{c:Nat}(h:c<l.l.length):aO l.l (c:Int)=some (l.l.getD c 0):=by
 unfold aO;rw[if_pos (by omega),zq,nq,jD h];rfl
theorem ag6 (G:T8 m n)(hn:l.l.length=n)(c7:m.aW.l.length<=100000):∀(k:Nat) (c:Nat) (t:Int) (aF:ae Int),c<n->ml m.aA m.Tables true (c:Int)=some (t,aF,true)->¬IE m.aW.l k t->∃b,fS (k6 m l) k (c:Int)=some b
 |0,c,t,aF,_,_,hw=>absurd trivial hw
 |k+1,c,t,aF,hc,ht,hw=>by
  obtain⟨ed,sc,ad,e2⟩:=G c hc;rw[ht]at ad;cases ad;show ∃b,((ml m.aA m.Tables true (c:Int)).bind fun t=>(aO l.l (c:Int)).bind fun y=>bW (uh (fS (k6 m l) k) m t.1 t.2.1) (0,decide (y>=1)))=some b;rw[ht,aS,T9 (by omega),aS]
  refine⟨_,ag5 (W:=fun h=>match aO aF.l h.dK with
   |some y=>match qf m.aA m.Tables h.bS (.mk [y])with
    |some p=>(fS (k6 m l) k p.1).getD false
    |none=>false
   |none=>false) c7 (fun h hm he=> ?_) m.aW.l.length 0 _ (by omega)⟩
  obtain⟨y,p,f1,f2,f3,AE,f4⟩:=e2 h hm he;obtain⟨b,hb⟩:=ag6 G hn c7 k p h.bS AE f3 f4 fun q=>hw ⟨h,hm,he,q⟩;refine⟨y,_,f1,f2,?_⟩;simp only[f1,f2,hb];rfl
def ib (m:Model)(l:ae Int)(c:Int):Bool:=(GU m l c).getD false
theorem ayE (G:T8 m n)(hn:l.l.length=n)(c7:m.aW.l.length<=100000){N:Nat}(al:sV m.aW.l N=true)(fM:∀h∈m.aW.l,0<=h.Table/\h.Table<N){c:Nat}(hc:c<n):
  GU m l (c:Int)=some (ib m l c)/\∃t aF,ml m.aA m.Tables true (c:Int)=some (t,aF,true)/\ib m l c=(decide (l.l.getD c 0>=1)&&m.aW.l.all fun h=>!(h.Table==t)||match aO aF.l h.dK with
   |some y=>match qf m.aA m.Tables h.bS (.mk [y])with
    |some p=>ib m l p.1
    |none=>false
   |none=>false):=by
 have key:∀c:Nat,c<n->fS (k6 m l) (N+1) (c:Int)=some (ib m l c):=fun c hc=>by
  obtain⟨t,aF,ad,-⟩:=G c hc;obtain⟨b,hb⟩:=ag6 G hn c7 (N+1) c t aF hc ad (agV al fM t);have:=agZ hb;rw[hb];unfold ib;rw[this];rfl
 obtain⟨t,aF,ad,e2⟩:=G c hc;refine⟨agZ (key c hc),t,aF,ad,?_⟩;have h2:((ml m.aA m.Tables true (c:Int)).bind fun t=>(aO l.l (c:Int)).bind fun y=>bW (uh (fS (k6 m l) (N+1)) m t.1 t.2.1) (0,decide (y>=1)))=some (ib m l c):=T5 _ _ _ (key c hc);rw[ad,aS,T9 (by omega),aS]at h2
 rw[show(0:Int)=((0:Nat):Int)from rfl,ag5 (W:=fun h=>match aO aF.l h.dK with
    |some y=>match qf m.aA m.Tables h.bS (.mk [y])with
     |some p=>ib m l p.1
     |none=>false
    |none=>false) c7 (fun h hm he=>by
  obtain⟨y,p,f1,f2,f3,AE,f4⟩:=e2 h hm he;refine⟨y,_,f1,f2,?_⟩;simp only[f1,f2];exact key p f3) m.aW.l.length 0 _ (by omega)]at h2
 exact(ra h2).symm
end
end Go.Abs.bA
namespace Go.Abs.bA
open Go Go.Abs Go.Abs.Lex
noncomputable section
theorem ayF{s:ck}(hl:s.length<4611686018427387904):∀(n k:Nat),k+n=s.length->bW (DK s) (k:Int)=some (((k+mh (s.drop k):Nat)):Int):=by
 intro n
 induction n with
 |zero=>
  intro k hk;have e:DK s (k:Int)=some (.out (k:Int)):=by simp only[DK,ze (show s.length<=k by omega),cond_false,aS]
  rw[hG,e,uJ (by omega)];rfl
 |succ n ih=>
  intro k hk;have aG:k<s.length:=by omega
  have hx:s[k]? =some s[k]:=by simp[aG]
  have nM:s.drop k=s[k]::s.drop (k+1):=qo aG
  have hs:((((sym (s.drop k):Nat):Int))==0)=!decide (0<sym (s.drop k)):=by
   by_cases h:0<sym (s.drop k)
   ·rw[decide_eq_true h];simp;omega
   ·have:sym (s.drop k)=0:=by omega
    rw[this];rfl
  have ag:DK s (k:Int)=bif (ja s[k]||s[k].toNat==35||pe (s.drop k))then some (.out (k:Int))else some (.next (aL ((k:Int)+1))):=by
   simp only[DK,zd aG,cond_true,dc,hx,aS,af3,TH,M3,af4 hl (pB aG),hs,bne];rw[show((s[k].toNat:Int)==35)=(s[k].toNat==35)from pr s[k] 35];have hb:pe (s.drop k)=(na s[k]||jy s[k]||decide (0<sym (s.drop k))):=by rw[nM];rfl
   rw[hb];cases ja s[k]<;>cases s[k].toNat==35<;>cases na s[k]<;>cases jy s[k]<;>cases decide (0<sym (s.drop k))<;>rfl
  rw[hG,ag]
  have hw:mh (s.drop k)=if ja s[k]||s[k].toNat==35||pe (s.drop k)then 0 else mh (s.drop (k+1))+1:=by
   rw[nM];rfl
  rw[hw];cases(ja s[k]||s[k].toNat==35||pe (s.drop k))with
  |true=>rfl
  |false=>
   simp only[cond_false,fV,if_false];rw[eS (by omega),ih (k+1) (by omega)];congr 2;omega
theorem ayG{s:ck}(hl:s.length<4611686018427387904){k:Nat}(hk:k<=s.length):bW (Lr s) (k:Int)=some (((k+h6 mg (s.drop k):Nat)):Int):=
 M4 hl mg (fun k c hx=>by
  have aG:=en hx;simp only[Lr,zd aG,cond_true,dc,hx,aS,TH,M3];rw[show((c.toNat:Int)==95)=(c.toNat==95)from pr c 95];unfold mg;cases na c<;>cases jy c<;>cases c.toNat==95<;>rfl) (fun k hk=>by simp only[Lr,ze hk,cond_false,aS]) (s.length-k) k (by omega)
theorem ayH{s:ck}(hl:s.length<4611686018427387904){k:Nat}(hk:k<=s.length):bW (Ls s) (k:Int)=some (((k+h6 jy (s.drop k):Nat)):Int):=
 M4 hl jy (fun k c hx=>by
  have aG:=en hx;simp only[Ls,zd aG,cond_true,dc,hx,aS,M3];cases jy c<;>rfl) (fun k hk=>by simp only[Ls,ze hk,cond_false,aS]) (s.length-k) k (by omega)
theorem ayI:bk kw:=by unfold bk;rw[QN];omega
theorem ayJ (l:List ck)(x:ck):l.contains x=l.any fun y=>y==x:=by
 induction l with
 |nil=>rfl
 |cons y r ih=>rw[List.contains_cons,ih,List.any_cons,Ic]
theorem ayK{s:ck}(hl:s.length<4611686018427387904){k:Nat}(hk:k<s.length)(hw:ja s[k]=false)(pt:s[k].toNat≠35):
  Lt s (k:Int)=some (((jb (s.drop k):Nat):Int),((k+lz (s.drop k):Nat):Int)):=by
 have hx:s[k]? =some s[k]:=by simp[hk]
 have nM:s.drop k=s[k]::s.drop (k+1):=qo hk;have hlen:(s.drop k).length=s.length-k:=qs;unfold Lt;simp only[dc,hx,aS,TH,M3];have oU:jb (s.drop k)=if na s[k]then(if kw.contains ((s.drop k).take (h6 mg (s.drop k)))then 2 else 1)else if jy s[k]then 3 else if 0<sym (s.drop k)then 4 else 5:=by rw[nM];rfl
 have dP:lz (s.drop k)=if na s[k]then h6 mg (s.drop k)else if jy s[k]then h6 jy (s.drop k)else if 0<sym (s.drop k)then sym (s.drop k)else mh (s.drop (k+1))+1:=by rw[nM];rfl
 rw[oU,dP];cases hc:na s[k]with
 |true=>
  simp only[cond_true,if_true];rw[ayG hl (pB hk)];have hle:=yw mg (s.drop k);simp only[aS,avG];rw[M5 (by omega) (by omega)];have e:(s.take (k+h6 mg (s.drop k))).drop k=(s.drop k).take (h6 mg (s.drop k)):=by rw[List.drop_take];congr 1;omega
  rw[e];simp only[aS];rw[afq (ae.mk kw) _ ayI,ayJ];simp only[aS];show(bif kw.any (fun y=>y==_)then _ else _)=_;cases kw.any (fun y=>y==(s.drop k).take (h6 mg (s.drop k)))<;>rfl
 |false=>
  simp only[cond_false,fV,if_false];cases hd:jy s[k]with
  |true=>
   simp only[cond_true,if_true];rw[ayH hl (pB hk)];rfl
  |false=>
   simp only[cond_false,fV,if_false];rw[af4 hl (pB hk)];simp only[aS];have aB3:=acK (s.drop k);by_cases hs:0<sym (s.drop k)
   ·have d:decide (((sym (s.drop k):Nat):Int)>0)=true:=by simp;exact hs
    rw[d,if_pos hs,if_pos hs];simp only[cond_true];rw[fF (by omega) (by omega)];rfl
   ·have d:decide (((sym (s.drop k):Nat):Int)>0)=false:=by simp;omega
    rw[d,if_neg hs,if_neg hs];simp only[cond_false];rw[ayF hl (s.length-k) k (by omega)]
    have hb:pe (s.drop k)=false:=by
     have:pe (s.drop k)=(na s[k]||jy s[k]||decide (0<sym (s.drop k))):=by rw[nM];rfl
     rw[this,hc,hd,decide_eq_false hs];rfl
    have lr:mh (s.drop k)=mh (s.drop (k+1))+1:=by
     have:mh (s.drop k)=if ja s[k]||s[k].toNat==35||pe (s.drop k)then 0 else mh (s.drop (k+1))+1:=by rw[nM];rfl
     have ayL:(s[k].toNat==35)=false:=by simpa using pt
     rw[this,hw,hb,ayL];rfl
    rw[lr];rfl
theorem ayM{s:ck}{k:Nat}(hk:k<=s.length)(h:dJ s k<s.length):ja s[dJ s k]=false/\s[dJ s k].toNat≠35:=by
 have hd:s.drop (dJ s k)=s[dJ s k]::s.drop (dJ s k+1):=qo h;have e:(s.drop k).drop (hK false (s.drop k))=s.drop (dJ s k):=by rw[uN];rfl
 rw[<-e]at hd;exact TJ false (s.drop k) _ _ hd rfl
theorem ayN{s:ck}{k:Nat}(h:k<s.length):1<=lz (s.drop k):=by
 have hd:s.drop k=s[k]::s.drop (k+1):=qo h;rw[hd];simp only[lz];split
 ·rename_i hc
  rw[AF,if_pos (by simp[mg,hc])];omega
 ·split
  ·rename_i hc;rw[AF,if_pos hc];omega
  ·split<;>omega
theorem ayO{s:ck}(hl:s.length<=4096):∀(n k:Nat) (acc:ae Token),k+n=s.length->acc.l.length<=k+1->
  ∃(e:Int) (y:ae Token) (ts:List Token),bW (A5 s) ((k:Int),acc)=some (e,y)/\y.l=acc.l++ts/\ts.length<=n/\(s.length<=dJ s k->ts=[])/\
   (dJ s k<s.length->∃Ep,ts=⟨((jb (s.drop (dJ s k)):Nat):Int),(k:Int),((dJ s k:Nat):Int),((hL s k:Nat):Int)⟩::Ep/\(s.length<=dJ s (hL s k)->Ep=[])/\(dJ s (hL s k)<s.length->Ep≠[])):=by
 intro n
 induction n using Nat.strongRecOn with
 |ind n ih=>
  intro k acc hk aB4;have iN:=QO (s:=s) (k:=k) (by omega);rw[hG];have Iy:=avC (s:=s) (by omega) (k:=k) (by omega);by_cases aG:dJ s k<s.length
  ·obtain⟨q1,q2⟩:=ayM (by omega) aG
   have ayP:=ayK (s:=s) (by omega) aG q1 q2;have iW:=ayN aG;have oV:=QP (s:=s) (k:=k) (by omega);have hge:k<=dJ s k:=by unfold dJ;omega
   have he:hL s k=dJ s k+lz (s.drop (dJ s k)):=rfl;obtain⟨z,qD,xA⟩:=BT (ni:=32) (x:=acc) (y:=ae.mk [(⟨((jb (s.drop (dJ s k)):Nat):Int),(k:Int),((dJ s k:Nat):Int),((hL s k:Nat):Int)⟩:Token)]) (by omega) (by show acc.l.length+1<=_;omega)
   have ag:A5 s ((k:Int),acc)=some (.next (((hL s k:Nat):Int),z)):=by
    simp only[A5,Iy,aS,zd aG,cond_true,ayP];rw[<-he,qD];rfl
   rw[ag];obtain⟨e,y,ts,ad,e2,bK,cw,dC⟩:=ih (s.length-hL s k) (by omega) (hL s k) z (by omega) (by rw[xA];simp only[hO];show acc.l.length+1<=_;omega);refine⟨e,y,_::ts,ad,by rw[e2,xA,kR];rfl,by simp only[iI];omega,fun h=>by omega,fun _=>⟨ts,rfl,cw,fun h=> ?_⟩⟩;obtain⟨Ep,Nj,-⟩:=dC h;rw[Nj];simp
  ·have ag:A5 s ((k:Int),acc)=some (.out ((k:Int),acc)):=by
    simp only[A5,Iy,aS,ze (show s.length<=dJ s k by omega),cond_false]
   rw[ag];exact⟨_,acc,[],rfl,by simp,by simp,fun _=>rfl,fun h=>absurd h aG⟩
theorem ayQ{s:ck}(hl:s.length<=4096):Lu s=some ((kindOf s:Nat):Int):=by
 unfold Lu Rr;have hd:decide ((s.length:Int)>4096)=false:=by simp;omega
 rw[hd];simp only[cond_false];obtain⟨e,y,ts,ad,e2,bK,cw,dC⟩:=ayO hl s.length 0 .emp (by omega) (by simp[ae.l]);have CY:bW (A5 s) (0,.emp)=some (e,y):=ad;have hy:y.l=ts:=by rw[e2];rfl
 rw[CY];simp only[aS];obtain⟨z,qD,xA⟩:=BT (ni:=32) (x:=y) (y:=ae.mk [(Token.mk 0 e (s.length:Int) (s.length:Int))]) (by omega) (by rw[hy];show ts.length+1<=_;omega);rw[qD];simp only[aS,show((0:Int) != 0)=false from rfl,cond_false];have rn:z.l=ts++[Token.mk 0 e (s.length:Int) (s.length:Int)]:=by rw[xA,hy];rfl
 have hlen:(z.len != 2)=!(z.l.length==2):=by unfold bne;rw[show(z.len==2)=(z.l.length==2)from Ii z 2]
 rw[hlen,rn];have rv:kindOf s=if s=[]\/4096<s.length then 0 else if dJ s 0=0/\hL s 0=s.length then jb s else 0:=rfl
 by_cases aG:dJ s 0<s.length
 ·obtain⟨Ep,Nj,f1,f2⟩:=dC aG
  have bq:¬(s=[]\/4096<s.length):=by
   rintro(h|h)
   ·rw[h]at aG;simp at aG
   ·omega
  rw[rv,if_neg bq];have de:=QP (s:=s) (k:=0) (by omega);by_cases rD:dJ s (hL s 0)<s.length
  ·
   have h1:((ts++[Token.mk 0 e (s.length:Int) (s.length:Int)]).length==2)=false:=by
    have:=f2 rD;rw[Nj];cases Ep with
    |nil=>exact absurd rfl this
    |cons a r=>simp
   rw[h1]
   have ayR:¬(dJ s 0=0/\hL s 0=s.length):=by
    rintro⟨-,h⟩;have:hL s 0<=dJ s (hL s 0):=by show _<=_+_;omega
    omega
   rw[if_neg ayR];rfl
  ·have hn:=f1 (by omega)
   subst hn;subst Nj;have h1:(([(⟨((jb (s.drop (dJ s 0)):Nat):Int),((0:Nat):Int),((dJ s 0:Nat):Int),((hL s 0:Nat):Int)⟩:Token)]++[Token.mk 0 e (s.length:Int) (s.length:Int)]).length==2)=true:=rfl;rw[h1];simp only[fZ,cond_false,l4,j4,S7,nO,aS];by_cases al:dJ s 0=0
   ·by_cases hb:hL s 0=s.length
    ·rw[if_pos ⟨al,hb⟩,al,hb]
     simp
    ·have:((((hL s 0:Nat):Int)) != (s.length:Int))=true:=by simp;omega
     rw[if_neg (fun h=>hb h.2),al,this];rfl
   ·have:((((dJ s 0:Nat):Int)) != 0)=true:=by simp;omega
    rw[if_neg (fun h=>al h.1),this];rfl
 ·have En:=cw (by omega)
  subst En;have h1:(([]++[Token.mk 0 e (s.length:Int) (s.length:Int)]).length==2)=false:=rfl;rw[h1,rv];by_cases hs:s=[]
  ·rw[if_pos (.inl hs)];rfl
  ·have iW:0<s.length:=NC.2 hs
   rw[if_neg (by rintro(h|h);exact hs h;omega),if_neg (by rintro⟨h,-⟩;omega)];rfl
theorem ag7 (w:ck)(h:w.length<=40):nH w=some (kO w):=by
 unfold kO yB nH;rw[ayQ (by omega)];unfold Gd;simp only[aS];cases hk:((kindOf w:Nat):Int)==1<;>cases hl:decide ((w.length:Int)<=16)<;>simp[hk]
theorem ayS{m:Model}(h:tc m=true):yI m=some (ov m)/\DM m=some (ov m):=⟨TF (Ek h),avz (Ek h) ag7⟩
end
end Go.Abs.bA
namespace Go.Abs.bA
open Go Go.Abs
noncomputable section
theorem ayT{s:List Int}{ts:List Table}{k:Nat}{a:Int × Int}{x:Table}{o:Option (Int × Int)}(ca:qn s ts k a x=.inr o):o=none:=by
 unfold qn at ca;cases bu:lF s x&&!(my ts k x.Name)<;>cases hb:gx x<;>cases hc:x.cz==a.1<;>cases hd:x.cz==a.2<;>rw[bu]at ca<;>simp only[hb,hc,hd,cond_true,cond_false]at ca<;>first|(cases ca;rfl)|cases ca
theorem ayU{s:List Int}{ts:List Table}{k:Nat}{a bn:Int × Int}{x:Table}(h:qn s ts k a x=.inl bn):
  lF s x=true/\(gx x=true->x.cz=a.1/\bn.1=a.1+wid s x.aZ.l)/\(gx x=false->bn.1=a.1):=by
 unfold qn at h;cases bu:lF s x&&!(my ts k x.Name)with
 |false=>rw[bu]at h;cases h
 |true=>
  rw[bu]at h;simp only[cm]at bu;cases hb:gx x with
  |true=>
   rw[hb]at h;simp only[cond_true]at h;cases hc:x.cz==a.1 with
   |false=>rw[hc]at h;cases h
   |true=>
    rw[hc]at h;cases h;exact⟨bu.1,fun _=>⟨eq_of_beq hc,rfl⟩,nofun⟩
  |false=>
   rw[hb]at h;simp only[cond_true,cond_false]at h;cases hc:x.cz==a.2 with
   |false=>rw[hc]at h;cases h
   |true=>
    rw[hc]at h;cases h;exact⟨bu.1,nofun,fun _=>rfl⟩
theorem Nk (s:List Int)(t:Table)(ts:List Table)(b:Bool):(eD s (t::ts) b).length=(bif gx t==b then(wid s t.aZ.l).toNat else 0)+(eD s ts b).length:=by
 unfold eD;rw[lH,hO];cases gx t==b<;>simp
theorem ag8{s:List Int}{ts:List Table}(hs:kM s=true):∀(l:List Table) (k:Nat) (a p:Int × Int),j0 (qn s ts) some k a l=some p->
  ∀i t,l[i]? =some t->gx t=true->t.cz=a.1+((eD s (l.take i) true).length:Int)
 |[],_,_,_,_,i,t,h,_=>by simp at h
 |x::r,k,a,p,h,i,t,hi,ht=>by
  simp only[j0]at h;cases ca:qn s ts k a x with
  |inr o=>
   rw[ca]at h;simp only[ayT ca]at h;cases h
  |inl bn=>
   rw[ca]at h;obtain⟨a1,h1,h2⟩:=ayU ca;cases i with
   |zero=>
    simp only[nO,aD]at hi;subst hi;have:=(h1 ht).1;simp[eD,this]
   |succ i=>
    simp only[Ev]at hi;have ih:=ag8 hs r (k+1) bn p h i t hi ht;rw[ih,I6,Nk];have hw:=s6 hs (q3 a1);cases hb:gx x with
    |true=>
     rw[(h1 hb).2,show(true==true)=true from rfl,cond_true];omega
    |false=>
     rw[h2 hb,show(false==true)=false from rfl,cond_false];omega
theorem IH{s:List Int}{ts:List Table}(h:gQ s ts=true){i:Nat}{t:Table}(hi:ts[i]? =some t)(ht:gx t=true):t.cz=((eD s (ts.take i) true).length:Int):=by
 have hs:=(r7 h).2.2.1;unfold gQ at h;simp only[cm,decide_eq_true_eq]at h;obtain⟨-,-,-,a7⟩:=h;split at a7
 ·rename_i a b hr
  have:=ag8 hs ts 0 (0,0) _ hr i t hi ht;simpa using this
 ·cases a7
theorem ag9{s:List Int}:∀(l:List Table) (c:Nat),c<(eD s l true).length->∃i t,l[i]? =some t/\gx t=true/\(eD s (l.take i) true).length<=c/\c<(eD s (l.take i) true).length+(wid s t.aZ.l).toNat
 |[],c,h=>by simp[eD]at h
 |x::r,c,h=>by
  rw[Nk]at h
  have next:∀w,(bif gx x==true then(wid s x.aZ.l).toNat else 0)=w->w<=c->∃i t,(x::r)[i]? =some t/\gx t=true/\(eD s ((x::r).take i) true).length<=c/\c<(eD s ((x::r).take i) true).length+(wid s t.aZ.l).toNat:=fun w hw hc=>by
   rw[hw]at h;obtain⟨i,t,ad,e2,bK,cw⟩:=ag9 (s:=s) r (c-w) (by omega);exact⟨i+1,t,by simpa using ad,e2,by rw[I6,Nk,hw];omega,by rw[I6,Nk,hw];omega⟩
  cases hb:gx x with
  |false=>exact next 0 (by simp[hb]) (cN _)
  |true=>
   by_cases hc:c<(wid s x.aZ.l).toNat
   ·exact⟨0,x,rfl,hb,by simp[eD],by simpa[eD]using hc⟩
   ·exact next (wid s x.aZ.l).toNat (by simp[hb]) (by omega)
theorem aha (s:List Int)(b:Bool)(l:List Table)(k:Nat):∀d,(eD s (l.take k) b).length<=(eD s (l.take (k+d)) b).length
 |0=>aN _
 |d+1=>by
  refine c4 (aha s b l k d) ?_;rw[<-rb];cases h:l[k+d]? with
  |none=>rw[xN,h];simp
  |some t=>rw[Ig s b h,hO];omega
theorem ahb{s:List Int}{l:List Table}{i j:Nat}{t:Table}(cY:j<i)(ht:l[j]? =some t)(hs:gx t=true):(eD s (l.take j) true).length+(wid s t.aZ.l).toNat<=(eD s (l.take i) true).length:=by
 have h:=aha s true l (j+1) (i-(j+1));rw[show j+1+(i-(j+1))=i by omega,Ig s true ht,hO,hs,show(true==true)=true from rfl,cond_true,vI]at h;exact h
structure Cf (m:Model) (c:Nat) (i:Nat) (t:Table):Prop where
 aa:m.Tables.l[i]? =some t
 str:gx t=true
 lo:t.cz<=c
 hi:(c:Int)<t.cz+wid m.aA.l t.aZ.l
variable{m:Model}
theorem ayV (h:gQ m.aA.l m.Tables.l=true){c:Nat}(hc:c<(eD m.aA.l m.Tables.l true).length):∃i t,Cf m c i t:=by
 obtain⟨i,t,ad,e2,bK,cw⟩:=ag9 m.Tables.l c hc;have ag:=IH h ad e2;exact⟨i,t,ad,e2,by omega,by omega⟩
theorem Cf.lt (h:gQ m.aA.l m.Tables.l=true){c i:Nat}{t:Table}(q:Cf m c i t):c<(eD m.aA.l m.Tables.l true).length:=by
 have h1:=ahb (s:=m.aA.l) (en q.aa) q.aa q.str;rw[Ci]at h1;have h2:=IH h q.aa q.str;have:=q.lo;have:=q.hi;omega
theorem ahc (h:gQ m.aA.l m.Tables.l=true){c i:Nat}{t:Table}(q:Cf m c i t):m.Tables.l.findIdx? (kP m.aA.l true (c:Int))=some i:=by
 obtain⟨-,hl,hs,a1⟩:=r7 h;have hb:=IH h q.aa q.str;have Dd:=MR hs true a1 hl i;have hw:=s6 hs (q3 (a1 t (eZ q.aa)));have hR:=q.lo;have pO:=q.hi;refine Ik (fun j y hj hy=> ?_) q.aa ?_
 ·unfold kP
  cases ca:gx y with
  |false=>rfl
  |true=>
   have h1:=IH h hy ca;have h2:=ahb (s:=m.aA.l) hj hy ca;have aB5:=s6 hs (q3 (a1 y (eZ hy)));rw[fF (n:=(c:Int)-y.cz) (by omega) (by omega),show decide ((c:Int)-y.cz<wid m.aA.l y.aZ.l)=false from decide_eq_false (by omega)];simp
 ·unfold kP
  rw[q.str,fF (n:=(c:Int)-t.cz) (by omega) (by omega),show decide ((c:Int)-t.cz>=0)=true from decide_eq_true (by omega),show decide ((c:Int)-t.cz<wid m.aA.l t.aZ.l)=true from decide_eq_true (by omega)];rfl
structure II (m:Model):Prop where
 uD:bk m.aA.l
 tables:bk m.Tables.l
 eu:∀t∈m.Tables.l,bk t.aZ.l
 names:∀t∈m.Tables.l,nH t.Name=some (kO t.Name)
theorem Ua (hb:tc m=true):II m:=by
 have b:=Ek hb;exact⟨by have:=b.uD;unfold bk;omega,by have:=b.tables;unfold bk;omega,fun t ht=>by have:=b.aa t ht;unfold bk;omega,fun t ht=>ag7 _ (by have:=b.aa t ht;omega)⟩
theorem ahd (z:II m)(h:gQ m.aA.l m.Tables.l=true){c i:Nat}{t:Table}(q:Cf m c i t):
  (∃aF,ml m.aA m.Tables true (c:Int)=some ((i:Int),aF,true)/\aF.l=s8 m.aA.l t.aZ.l ((c:Int)-t.cz))/\
  ∃aF,Bb m.aA m.Tables true (c:Int)=some ((i:Int),aF,true)/\aF.l=s8 m.aA.l t.aZ.l ((c:Int)-t.cz):=by
 obtain⟨-,hl,hs,a1⟩:=r7 h;have hw:=s6 hs (q3 (a1 t (eZ q.aa)));have hR:=q.lo;have pO:=q.hi;have ahe:aL ((c:Int)-t.cz)=(c:Int)-t.cz:=fF (by omega) (by omega);constructor
 ·obtain⟨⟨bI,cq,e6⟩,e,hr⟩:=afG m.aA m.Tables true (c:Int) z.uD z.tables z.eu
  obtain⟨p1,p2,p3⟩:=hr.yes i t h (by omega) (ahc h q) q.aa;dsimp only at p1 p2 p3;subst p1 p2;exact⟨cq,e,by rw[p3,ahe]⟩
 ·obtain⟨⟨bI,cq,e6⟩,e,hr⟩:=afH m.aA m.Tables true (c:Int) z.uD z.tables z.eu z.names
  obtain⟨p1,p2,p3⟩:=hr.yes i t h (by omega) (ahc h q) q.aa;dsimp only at p1 p2 p3;subst p1 p2;exact⟨cq,e,by rw[p3,ahe]⟩
theorem ahf{s:List Int}(hs:kM s=true):∀(l:List Int) (k:Int) (j:Nat) (x:Int),l[j]? =some x->(∀x∈l,0<=x/\x<s.length)->∃d,(uA s l k)[j]? =some d/\0<=d/\d<et s x
 |[],_,_,_,h,_=>by simp at h
 |y::r,k,0,x,h,hx=>by
  simp only[nO,aD]at h;subst h;obtain⟨h1,h2⟩:=y4 hs (hx y (by simp)).1 (hx y (by simp)).2;exact⟨k%et s y,rfl,Int.emod_nonneg k (by omega),Int.emod_lt_of_pos k (by omega)⟩
 |y::r,k,j+1,x,h,hx=>by
  obtain⟨d,e,h1⟩:=ahf hs r (k/et s y) j x (by simpa using h) fun z aJ=>hx z (by simp[aJ]);exact⟨d,by simpa[uA]using e,h1⟩
theorem ayW{s:List Int}(hs:kM s=true){eu:List Int}(hc:kN s.length eu=true)(k:Int){j:Nat}{x:Int}(hj:eu[j]? =some x):∃d,(s8 s eu k)[j]? =some d/\0<=d/\d<et s x:=by
 obtain⟨q1,q2⟩:=xw hc;have aG:=en hj;obtain⟨d,e,h⟩:=ahf hs eu.reverse k (eu.length-1-j) x (by rw[List.getElem?_reverse (by omega),show eu.length-1-(eu.length-1-j)=j by omega];exact hj) (fun z aJ=>q2 z (List.mem_reverse.1 aJ));refine⟨d,?_,h⟩;unfold s8;rw[List.getElem?_reverse (by rw[MY,ND];exact aG),MY,ND];exact e
structure ahg (m:Model) (h:fp) (t u:Table) (x:Int):Prop where
 t0:0<=h.Table
 aa:m.Tables.l[h.Table.toNat]? =some t
 wU:0<=h.bS
 h8:m.Tables.l[h.bS.toNat]? =some u
 eO:t.Kind=0
 ayX:u.Kind=0
 fi:0<=h.dK
 iC:t.aZ.l[h.dK.toNat]? =some x
 one:u.aZ.l=[x]
theorem ahh{h:fp}(ho:oh m.Tables.l h=true):∃t u x,ahg m h t u x:=by
 unfold oh at ho;simp only[cm,decide_eq_true_eq]at ho;obtain⟨⟨ak,a2⟩,⟨a3,a4⟩,-,ho⟩:=ho;split at ho
 ·rename_i t u ad e2
  simp only[cm,decide_eq_true_eq,beq_iff_eq]at ho;obtain⟨b1,e8,⟨h7,j9⟩,tr,zi⟩:=ho;obtain⟨x,hx⟩:=List.length_eq_one_iff.1 tr;have aG:h.dK.toNat<t.aZ.l.length:=by omega
  refine⟨t,u,x,ak,ad,a3,e2,b1,e8,h7,?_,hx⟩;rw[hx]at zi;have zi:x=t.aZ.l.getD h.dK.toNat 0:=zi;rw[nq,jD aG]at zi;rw[jD aG,zi];rfl
 ·cases ho
theorem Nl (af:ov m=true):m.aW.l.length<=12/\(∀h∈m.aW.l,oh m.Tables.l h=true)/\sV m.aW.l m.Tables.l.length=true:=by
 unfold ov at af;simp only[cm]at af;have:=af.2.2.2.2.2.2;unfold yx at this;simp only[cm,decide_eq_true_eq,eE]at this;exact this
theorem ayY (z:II m)(h:gQ m.aA.l m.Tables.l=true){c i:Nat}{t0:Table}(q:Cf m c i t0){x:fp}{t u:Table}{k:Int}(hx:ahg m x t u k)(hi:x.Table=(i:Int)):
  t=t0/\∃y,(s8 m.aA.l t.aZ.l ((c:Int)-t.cz))[x.dK.toNat]? =some y/\0<=y/\y<et m.aA.l k/\0<=u.cz/\u.cz<=2592/\Cf m (u.cz+y).toNat x.bS.toNat u/\((u.cz+y).toNat:Int)=u.cz+y:=by
 obtain⟨-,hl,hs,a1⟩:=r7 h
 have ht:t=t0:=by
  have h1:=hx.aa;rw[hi,zq,q.aa]at h1;exact(ra h1).symm
 subst ht;obtain⟨y,e,BJ,pf⟩:=ayW hs (q3 (a1 t (eZ q.aa))) ((c:Int)-t.cz) hx.iC;have ahi:gx u=true:=by unfold gx;rw[hx.ayX];rfl
 have ag:=IH h hx.h8 ahi;have Dd:=MR hs true a1 hl x.bS.toNat
 have hw:wid m.aA.l u.aZ.l=et m.aA.l k:=by
  rw[hx.one];show(1:Int)*et m.aA.l k=_;omega
 exact⟨rfl,y,e,BJ,pf,by omega,by omega,⟨hx.h8,ahi,by omega,by rw[hw];omega⟩,by omega⟩
end
end Go.Abs.bA
namespace Go.Abs.Cg
theorem yy:∀(n:Nat) (l:List Nat),l.Nodup->(∀x∈l,x<n)->l.length<=n
 |0,l,_,h=>by
  cases l with
  |nil=>simp
  |cons x r=>exact absurd (h x (by simp)) (by omega)
 |n+1,l,hn,h=>by
  by_cases hm:n∈l
  ·have h1:=yy n (l.erase n) (hn.erase n) fun x hx=>by
    have dZ:=hn.mem_erase_iff.1 hx;have:=h x dZ.2;have:=dZ.1;omega
   rw[List.length_erase_of_mem hm]at h1;omega
  ·have:=yy n l hn fun x hx=>by
    have:=h x hx;have:x≠n:=fun e=>hm (e ▸ hx);omega
   omega
section
variable (vG:Nat->Nat->Bool)(size:Nat)
def Ub (l:List Nat):List (List Nat):=
 ((List.range' (l.headD 0+1) (size-(l.headD 0+1))).filter fun v=>vG (l.getLastD 0) v&&!l.contains v).map fun v=>l++[v]
def start:List (List Nat):=(List.range size).map fun a=>[a]
structure Path (l:List Nat):Prop where
 ne:l≠[]
 nodup:l.Nodup
 lt:∀x∈l,x<size
 least:∀x∈l,l.headD 0<=x
 along:∀i,i+1<l.length->vG (l.getD i 0) (l.getD (i+1) 0)=true
variable{vG size}
theorem Path.len{l:List Nat}(h:Path vG size l):l.length<=size:=yy size l h.nodup h.lt
theorem ayZ{l:List Nat}(h:l≠[])(v:Nat):(l++[v]).headD 0=l.headD 0:=by
 cases l with
 |nil=>exact absurd rfl h
 |cons x r=>rfl
theorem ay0{l:List Nat}(h:l≠[]):l.getLastD 0=l.getD (l.length-1) 0:=by
 cases l with
 |nil=>exact absurd rfl h
 |cons x r=>
  rw[List.getLastD_eq_getLast?,List.getLast?_eq_getElem?,nq]
theorem Path.next{l fB:List Nat}(h:Path vG size l)(hl:fB∈Ub vG size l):Path vG size fB/\fB.length=l.length+1:=by
 unfold Ub at hl;obtain⟨v,af,rfl⟩:=eA.1 hl;rw[List.mem_filter,List.mem_range'_1,cm,oB]at af;obtain⟨⟨h1,h2⟩,au,a7⟩:=af
 have ay1:v∉l:=fun q=>by
  rw[uK.2 q]at a7;cases a7
 refine⟨⟨by simp,?_,fun x hx=> ?_,fun x hx=> ?_,fun i hi=> ?_⟩,by simp⟩
 ·refine zs.2 ⟨h.nodup,by simp,fun x hx y hy=> ?_⟩
  simp only[dG,th,or_false]at hy;subst hy;exact fun q=>ay1 (q ▸ hx)
 ·rcases kq.1 hx with q|q
  ·exact h.lt x q
  ·simp only[dG,th,or_false]at q
   subst q;omega
 ·rw[ayZ h.ne]
  rcases kq.1 hx with q|q
  ·exact h.least x q
  ·simp only[dG,th,or_false]at q
   subst q;omega
 ·simp only[hO,iI,oD]at hi
  have iW:0<l.length:=by
   cases l with
   |nil=>exact absurd rfl h.ne
   |cons=>simp
  rw[nq,nq,fY (by omega)];by_cases hc:i+1<l.length
  ·rw[fY hc]
   have:=h.along i hc;rw[nq,nq]at this;exact this
  ·have e:i+1=l.length:=by omega
   rw[e,vH (aN _),Nat.sub_self];rw[ay0 h.ne,nq]at au;have e2:i=l.length-1:=by omega
   rw[e2];exact au
end
end Go.Abs.Cg
namespace Go.Abs.bA
open Go Go.Abs Go.Abs.Cg
noncomputable section
def enc (p:List Nat):ae Int:=.mk (p.map fun(a:Nat)=>(a:Int))
structure aB6 (c:Constraint) (st:ae Int) (f n:Nat):Prop where
 ag:c.cz=f
 hn:c.rK=n
 mM:1<=n
 n6:n<=6
 le:f+n*n<=st.l.length
 N:st.l.length<=100000
section
variable{c:Constraint}{st:ae Int}{f n:Nat}
end
end
end Go.Abs.bA
namespace Go.Abs.bA
open Go Go.Abs
noncomputable section
structure aB7 (m:Model):Prop where
 TE:∀c∈m.di.l,bk c.Row.da.l
 aB8:bk m.di.l
 act:∀a∈m.Actions.l,bk a.dV.Delta.l/\bk a.dV.fX.l/\∀r∈a.dV.fX.l,bk r.da.l
end
end Go.Abs.bA
namespace Go.Abs.Cg
section
variable (vG:Nat->Nat->Bool)(size:Nat)
def iter:Nat->List (List Nat)->List (List Nat)
 |0,ps=>ps
 |k+1,ps=>iter k (ps.flatMap (Ub vG size))
variable{vG size}
end
end Go.Abs.Cg
namespace Go.Abs.bA
open Go Go.Abs Go.Abs.Cg
noncomputable section
section
variable{c:Constraint}{st:ae Int}{f n:Nat}
end
end
end Go.Abs.bA
namespace Go.Abs.bA
open Go Go.Abs Go.Abs.Cg
noncomputable section
def pw (st:ae Int)(i:Int):Int:=st.l.getD i.toNat 0
def ahj (st:ae Int)(p:Int × Int)(t:Term):Int × Int:=(aL (p.1+aL (t.hJ*aL ((pw st t.Cell).tdiv 4294967296))),aL (p.2+aL (t.hJ*(pw st t.Cell).tmod 4294967296)))
structure Nn (st:ae Int) (t:Term):Prop where
 f1:-1000000000<=t.hJ
 f2:t.hJ<=1000000000
 v1:-1000000<=pw st t.Cell
 v2:pw st t.Cell<=1000000
theorem Nn.mul{st:ae Int}{t:Term}(h:Nn st t):-1000000000000000<=t.hJ*pw st t.Cell/\t.hJ*pw st t.Cell<=1000000000000000:=by
 obtain⟨h1,h2,au,a7⟩:=h;generalize pw st t.Cell=v at au a7;generalize t.hJ=f at h1 h2
 have:(f*v).natAbs<=1000000000*1000000:=by
  rw[Int.natAbs_mul];exact Nat.mul_le_mul (by omega) (by omega)
 omega
theorem Nn.step{st:ae Int}{t:Term}(h:Nn st t){s:Int}(h1:-4000000000000000000<=s)(h2:s<=4000000000000000000):ahj st (0,s) t=(0,s+t.hJ*pw st t.Cell):=by
 have hm:=h.mul;obtain⟨q1,q2,b3,cS⟩:=h
 have ad:(pw st t.Cell).tdiv 4294967296=0:=by
  rcases Int.lt_or_le (pw st t.Cell) 0 with q|q
  ·have:(pw st t.Cell)=-(-(pw st t.Cell)):=by omega
   rw[this,Int.neg_tdiv,Int.tdiv_eq_zero_of_lt (by omega) (by omega)];rfl
  ·exact Int.tdiv_eq_zero_of_lt q (by omega)
 have e2:(pw st t.Cell).tmod 4294967296=pw st t.Cell:=by
  have:=Int.mul_tdiv_add_tmod (pw st t.Cell) 4294967296;rw[ad]at this;omega
 unfold ahj;simp only[ad,e2];rw[fF (n:=t.hJ*pw st t.Cell) (by omega) (by omega),fF (n:=s+_) (by omega) (by omega)];rw[show aL 0=0 from rfl,Int.mul_zero,show aL 0=0 from rfl];rfl
end
end Go.Abs.bA
namespace Go.Abs.bA
open Go Go.Abs Go.Abs.Cg
noncomputable section
end
end Go.Abs.bA
namespace Go.Abs.bA
open Go Go.Abs
noncomputable section
theorem Np{m:Model}(af:ov m=true):gQ m.aA.l m.Tables.l=true:=by
 cases h:gQ m.aA.l m.Tables.l with
 |true=>rfl
 |false=>unfold ov at af;rw[h]at af;simp at af
end
end Go.Abs.bA
namespace Go.Abs.bA
open Go Go.Abs
noncomputable section
variable{m:Model}
theorem ay2{α:Type}{s:ae α}{x:α}(h:s.l=[x]):s=.mk [x]:=by
 cases s with
 |nil=>cases h
 |emp=>cases h
 |mk l=>exact congrArg ae.mk h
theorem ay3 (z:II m)(h:gQ m.aA.l m.Tables.l=true){h8:Int}{u:Table}{k y:Int}(wU:0<=h8)(hu:m.Tables.l[h8.toNat]? =some u)(hk:u.aZ.l=[k])(BJ:0<=y)(pf:y<et m.aA.l k)(f0:0<=u.cz)(f1:u.cz<=2592):
  qf m.aA m.Tables h8 (.mk [y])=some (u.cz+y,0):=by
 obtain⟨-,-,hs,a1⟩:=r7 h;have aG:=en hu;obtain⟨-,q⟩:=xw (q3 (a1 u (eZ hu)));have rE:=q k (by rw[hk];simp);have hb:=y4 hs rE.1 rE.2;have hc:=ay2 hk;have Ce:aO m.Tables.l h8=some u:=by rw[ta wU];exact hu
 have h1:(decide (h8<0)||decide (h8>=m.Tables.len))=false:=by
  rw[decide_eq_false (by omega),decide_eq_false (by rw[dn];omega)];rfl
 have hl:bW (Lb m.aA (.mk [y]) u) (0,0)=some (.go y):=by
  rw[hG];have eP:decide ((0:Int)<(ae.mk [y]).len)=true:=rfl;have ad:aO (ae.mk [y]).l 0=some y:=rfl;have e2:aO u.aZ.l 0=some k:=by rw[hk];rfl
  have bK:decide (y<0)=false:=decide_eq_false (by omega);have cw:decide (y>=et m.aA.l k)=false:=decide_eq_false (by omega);have dC:aL (aL (0*et m.aA.l k)+y)=y:=by rw[Int.zero_mul,show aL 0=0 from rfl,Int.zero_add,fF (by omega) (by omega)]
  simp only[Lb,eP,ad,e2,bK,cw,dC,cond_true,cond_false,aS,y3 rE.1 rE.2];rw[hG];have gp:decide (aL (0+1)<(ae.mk [y]).len)=false:=rfl;simp only[Lb,gp,cond_false]
 unfold qf;rw[MO m.aA m.Tables z.uD z.tables z.eu,h];simp only[aS,cond_true,h1,cond_false,Ce];have hn:((ae.mk [y]).len != u.aZ.len)=false:=by rw[hc];rfl
 rw[hn];simp only[cond_false,hl,aS];rw[fF (by omega) (by omega)]
theorem ay4 (a b:Int):Hl (.mk [a]) (.mk [b])=some (a==b):=by
 unfold Hl;rw[show((ae.mk [a]).len != (ae.mk [b]).len)=false from rfl];simp only[cond_false];rw[hG];have eP:decide ((0:Int)<(ae.mk [a]).len)=true:=rfl;have ad:aO (ae.mk [a]).l 0=some a:=rfl;have e2:aO (ae.mk [b]).l 0=some b:=rfl;have gp:decide (aL (0+1)<(ae.mk [a]).len)=false:=rfl;simp only[RA,eP,ad,e2,cond_true,aS];by_cases kA:a=b
 ·subst kA
  simp only[bne_self_eq_false,cond_false];rw[hG];simp only[RA,gp,cond_false,aS];simp
 ·have h1:(a != b)=true:=by simp[bne,kA]
  have h2:(a==b)=false:=by simp[kA]
  rw[h1,h2];rfl
theorem ay5 (z:II m)(h:gQ m.aA.l m.Tables.l=true){h8:Int}{u:Table}{k y:Int}(wU:0<=h8)(hu:m.Tables.l[h8.toNat]? =some u)(hk:u.aZ.l=[k])(BJ:0<=y)(pf:y<et m.aA.l k)(f0:0<=u.cz)(f1:u.cz<=2592):
  Hm m.aA m.Tables h8 (.mk [y])=some (u.cz+y,0):=by
 obtain⟨lN,-,hs,a1⟩:=r7 h;have aG:=en hu;obtain⟨-,q⟩:=xw (q3 (a1 u (eZ hu)));have rE:=q k (by rw[hk];simp);have hb:=y4 hs rE.1 rE.2;have Ce:aO m.Tables.l h8=some u:=by rw[ta wU];exact hu
 have h1:(decide (h8<0)||decide (h8>=m.Tables.len))=false:=by
  rw[decide_eq_false (by omega),decide_eq_false (by rw[dn];omega)];rfl
 have Nq:m.aA.l.getD k.toNat 0=et m.aA.l k:=by
  have:k.toNat<m.aA.l.length:=by omega
  unfold et;rw[nq,jD this];rfl
 have ht:Du m.aA u.aZ=some (.mk ((List.range (et m.aA.l k).toNat).map fun(k:Nat)=>ae.mk [(k:Int)])):=by
  unfold Du;rw[hk];simp only[];rw[if_pos ⟨by omega,hs,rE.1,rE.2⟩,Nq]
 have hp:LN (.mk ((List.range (et m.aA.l k).toNat).map fun(k:Nat)=>ae.mk [(k:Int)])) (.mk [y])=some y:=by
  have hl:bW (acU (.mk ((List.range (et m.aA.l k).toNat).map fun(k:Nat)=>ae.mk [(k:Int)])) (.mk [y])) 0=_:=
   afi (.mk ((List.range (et m.aA.l k).toNat).map fun(k:Nat)=>ae.mk [(k:Int)])) (by show(List.map _ _).length<_;rw[gR,Vw];omega) (f:=fun x=>Hl x (.mk [y])) (p:=fun x=>x.l.headD 0==y) (fun x hx=>by
    obtain⟨j,-,rfl⟩:=eA.1 hx;exact ay4 _ _)
  have ry:(ae.mk ((List.range (et m.aA.l k).toNat).map fun(k:Nat)=>ae.mk [(k:Int)])).l.findIdx? (fun x=>x.l.headD 0==y)=some y.toNat:=by
   refine Ik (x:=ae.mk [y]) (fun j w hj hw=> ?_) ?_ (by show((y:Int)==y)=true;simp)
   ·have hw:((List.range (et m.aA.l k).toNat).map fun(k:Nat)=>ae.mk [(k:Int)])[j]? =some w:=hw
    rw[iH,NA (by omega)]at hw;cases hw;show((j:Int)==y)=false;have:(j:Int)≠y:=by omega
    simp[this]
   ·show((List.range (et m.aA.l k).toNat).map fun(k:Nat)=>ae.mk [(k:Int)])[y.toNat]? =_
    rw[iH,NA (by omega),si,Int.toNat_of_nonneg BJ]
  rw[ry]at hl;unfold LN;rw[hl,aS];simp only[];rw[Int.toNat_of_nonneg BJ]
 unfold Hm;rw[MQ m.aA m.Tables z.uD z.tables z.eu z.names,h];simp only[aS,cond_true,h1,cond_false,Ce,ht,hp];rw[decide_eq_false (by omega),cond_false,fF (by omega) (by omega)]
def Er (m:Model)(n:Nat):Prop:=∀c:Nat,c<n->∃t aF sc,ml m.aA m.Tables true (c:Int)=some (t,aF,true)/\Bb m.aA m.Tables true (c:Int)=some (t,sc,true)/\sc.l=aF.l/\
 ∀h∈m.aW.l,h.Table=t->0<=h.dK/\h.dK<aF.l.length/\∃y,∃p:Nat,aO aF.l h.dK=some y/\qf m.aA m.Tables h.bS (.mk [y])=some ((p:Int),0)/\Hm m.aA m.Tables h.bS (.mk [y])=some ((p:Int),0)/\p<n/\∃sc,ml m.aA m.Tables true (p:Int)=some (h.bS,sc,true)
theorem Er.Uc{n:Nat}(G:Er m n):T8 m n:=fun c hc=>by
 obtain⟨t,aF,sc,ad,-,-,e2⟩:=G c hc;refine⟨t,aF,ad,fun h hm ht=> ?_⟩;obtain⟨-,-,y,p,q1,q2,-,b3,cS⟩:=e2 h hm ht;exact⟨y,p,q1,q2,b3,cS⟩
theorem ahk (hb:tc m=true)(af:ov m=true):Er m (eD m.aA.l m.Tables.l true).length:=by
 intro c hc;have z:=Ua hb;have h:=Np af;obtain⟨i,t,q⟩:=ayV h hc;obtain⟨⟨aF,ad,e2⟩,sc,bK,cw⟩:=ahd z h q;refine⟨(i:Int),aF,sc,ad,bK,by rw[cw,e2],fun x hx hi=> ?_⟩;obtain⟨ed,u,k,c7⟩:=ahh ((Nl af).2.1 x hx);obtain⟨nX,y,pf,qX,ahl,ahm,ahn,aho,ahp⟩:=ayY z h q c7 hi;subst nX;rw[<-e2]at pf;have aG:=en pf;have hc0:=c7.fi;refine⟨hc0,by omega,y,(u.cz+y).toNat,?_,?_,?_,aho.lt h,?_⟩
 ·rw[ta c7.fi];exact pf
 ·rw[ahp];exact ay3 z h c7.wU c7.h8 c7.one qX ahl ahm ahn
 ·rw[ahp];exact ay5 z h c7.wU c7.h8 c7.one qX ahl ahm ahn
 ·obtain⟨⟨AE,f1,-⟩,-⟩:=ahd z h aho
  refine⟨AE,?_⟩;rw[f1,Int.toNat_of_nonneg c7.wU]
theorem Ud (af:ov m=true):∀h∈m.aW.l,0<=h.Table/\h.Table<m.Tables.l.length:=fun x hx=>by
 obtain⟨t,u,k,c7⟩:=ahh ((Nl af).2.1 x hx);have:=en c7.aa;have:=c7.t0;exact⟨this,by omega⟩
abbrev Nr:(Model × ae Int × Int->Option Bool)->Model × ae Int × Int->Option Bool:=fun g p=>yL (fun cb bs cr=>g (cb,bs,cr)) p.1 p.2.1 p.2.2
theorem ay6:xI Nr:=by
 intro g uF bb a r h;obtain⟨m,l,c⟩:=a;show yL (fun cb bs cr=>uF (cb,bs,cr)) m l c=some r;have h:yL (fun cb bs cr=>g (cb,bs,cr)) m l c=some r:=h;unfold yL at h⊢;obtain⟨x,ex,h⟩:=bind_some h;rw[ex,aS];cases hd:decide (x<1)with
 |true=>rw[hd]at h;exact h
 |false=>
  rw[hd]at h;simp only[cond_false]at h⊢;obtain⟨t,nX,h⟩:=bind_some h;obtain⟨o,ay7,h⟩:=bind_some h;rw[nX,aS,agW (f:=DN m l (fun cb bs cr=>g (cb,bs,cr)) t) (fun i s hs=> ?_) ay7,aS]
  ·exact h
  ·simp only[DN]at hs⊢
   cases d1:decide (i<m.aW.len)with
   |false=>rw[d1]at hs;exact hs
   |true=>
    rw[d1]at hs;simp only[cond_true]at hs⊢;obtain⟨x,ex,hs⟩:=bind_some hs;rw[ex,aS];cases d2:(x.Table != t.1)with
    |true=>rw[d2]at hs;exact hs
    |false=>
     rw[d2]at hs;simp only[cond_false]at hs⊢;obtain⟨y,jr,hs⟩:=bind_some hs;obtain⟨p,hN,hs⟩:=bind_some hs;obtain⟨w,IG,hs⟩:=bind_some hs;rw[jr,aS,hN,aS,bb _ _ IG,aS];exact hs
variable{n:Nat}{l:ae Int}
def kB (m:Model)(l:ae Int)(aF:ae Int)(h:fp):Bool:=match aO aF.l h.dK with
 |some y=>match qf m.aA m.Tables h.bS (.mk [y])with
  |some p=>ib m l p.1
  |none=>false
 |none=>false
theorem Ue (G:Er m n)(hn:l.l.length=n)(c7:m.aW.l.length<=100000){N:Nat}(al:sV m.aW.l N=true)(fM:∀h∈m.aW.l,0<=h.Table/\h.Table<N){c:Nat}(hc:c<n){t:Int}{aF:ae Int}(e:ml m.aA m.Tables true (c:Int)=some (t,aF,true)):
  GU m l (c:Int)=some (ib m l c)/\ib m l c=(decide (l.l.getD c 0>=1)&&m.aW.l.all fun h=>!(h.Table==t)||kB m l aF h):=by
 obtain⟨h1,ed,sc,ad,e2⟩:=ayE G.Uc hn c7 al fM hc;rw[e]at ad;cases ad;exact⟨h1,e2⟩
theorem ahq (G:Er m n)(hn:l.l.length=n)(c7:m.aW.l.length<=100000){N:Nat}(al:sV m.aW.l N=true)(fM:∀h∈m.aW.l,0<=h.Table/\h.Table<N):
  ∀(k:Nat) (c:Nat) (t:Int) (aF:ae Int),c<n->ml m.aA m.Tables true (c:Int)=some (t,aF,true)->¬IE m.aW.l k t->fS Nr k (m,l,(c:Int))=some (ib m l c)
 |0,c,t,aF,_,_,hw=>absurd trivial hw
 |k+1,c,t,aF,hc,ht,hw=>by
  obtain⟨-,heq⟩:=Ue G hn c7 al fM hc ht;obtain⟨ed,sc,AE,ad,e2,bK,cw⟩:=G c hc;rw[ht]at ad;cases ad;show yL (fun cb bs cr=>fS Nr k (cb,bs,cr)) m l (c:Int)=some (ib m l c);unfold yL;rw[T9 (by omega),aS,heq];by_cases hy:l.l.getD c 0<1
  ·rw[decide_eq_true hy,cond_true,decide_eq_false (by omega)];rfl
  ·rw[decide_eq_false hy,cond_false,decide_eq_true (by omega),e2,aS,dy]
   rw[mw (f:=DN m l (fun cb bs cr=>fS Nr k (cb,bs,cr)) (t,AE,true)) m.aW.l (by omega) (fun h=>(h.Table==t)&&!(kB m l aF h)) (fun j h hx=>by
    have hm:=eZ hx;simp only[DN,fk (en hx),cond_true,dc,hx,aS];by_cases hit:h.Table=t
    ·obtain⟨-,-,y,p,q1,q2,b3,cS,ay8,fw⟩:=cw h hm hit
     have yf:=ahq G hn c7 al fM k p h.bS ay8 cS fw fun q=>hw ⟨h,hm,hit,q⟩;have h1:(h.Table != t)=false:=by simp[bne,hit]
     have h2:(h.Table==t)=true:=by simp[hit]
     have au:kB m l aF h=ib m l p:=by unfold kB;simp only[q1,q2]
     rw[h1,h2,au,cond_false,bK,q1,aS,b3,aS];simp only[yf,aS];cases ib m l (p:Int)<;>rfl
    ·have h1:(h.Table != t)=true:=by simp[bne,hit]
     have h2:(h.Table==t)=false:=by simp[hit]
     rw[h1,h2];rfl) (by simp only[DN,fQ,cond_false])]
   rw[aS]
   have:(m.aW.l.all fun h=>!(h.Table==t)||kB m l aF h)=!(m.aW.l.any fun h=>(h.Table==t)&&!(kB m l aF h)):=by
    rw[List.not_any_eq_all_not];congr 1;funext h;cases h.Table==t<;>cases kB m l aF h<;>rfl
   rw[this];cases m.aW.l.any fun h=>(h.Table==t)&&!(kB m l aF h)<;>rfl
theorem ay9 (G:Er m n)(hn:l.l.length=n)(c7:m.aW.l.length<=100000){N:Nat}(al:sV m.aW.l N=true)(fM:∀h∈m.aW.l,0<=h.Table/\h.Table<N){c:Nat}(hc:c<n):RB m l (c:Int)=some (ib m l c):=by
 obtain⟨t,aF,e,-⟩:=G.Uc c hc;exact ay6.fix (ahq G hn c7 al fM (N+1) c t aF hc e (agV al fM t))
end
end Go.Abs.bA
