/- Texts of this claim, joined and written short by a program. -/
import Derived.Test.YtemakagmboeodaaGreatDoorP17
import Derived.Test.YtemakagmboeodaaGreatDoorP09
import Derived.Test.YtemakagmboeodaaGreatDoorP10
import Derived.Test.YtemakagmboeodaaGreatDoorP08
import Derived.Test.YtemakagmboeodaaGreatDoorP00
set_option linter.unusedVariables false
set_option linter.unusedSimpArgs false
set_option linter.unusedSectionVars false
set_option maxRecDepth 100000
namespace Go.Abs.cb
open Go Go.Abs Go.Proofs
noncomputable section
variable (g:Nat->Option Obj)
theorem abR:Bl.ok (aS (yR g) 200) 200 [xC,J 0,.list 1 [J 1]] (.aR [.agg [Ap,.list 2 [.agg [.list 2 [DP,xD],J (-1)]],.ak],J 0])=true:=by kernel_rfl
end
end Go.Abs.cb
set_option maxRecDepth 100000
namespace Go.Abs.cb
open Go Go.Abs Go.Proofs
noncomputable section
variable (g:Nat->Option Obj)
theorem abS:Bl.iS (aS (yR g) 200) 200 Tryz.f17.ntmps JI:=⟨⟨by kernel_rfl,by kernel_rfl,abQ g⟩,⟨⟨by kernel_rfl,by kernel_rfl,abR g⟩,trivial⟩⟩
def Gk:Nat->Option bQ:=over (yR g) 17 (iR JI)
theorem abT:aS (Gk g) 200 (.fn 4 [] []) [] []=some (.bool true,[],0):=by kernel_rfl
end
end Go.Abs.cb
set_option maxRecDepth 100000
namespace Go.Abs.cb
open Go Go.Abs Go.Proofs
noncomputable section
variable{g:Nat->Option Obj}
theorem abU (abV:∀(G:bw) (H:Heap) (w:World),aQ (C g) id G H w->Lib.TabIs Tryz.prog w "internal/strconv.uint64pow10" .u64 Lib.pow10Tab)(lx:∀(G:bw) (H:Heap) (w:World),aQ (C g) id G H w->Lib.TabIs Tryz.prog w "strings.asciiSpace" .u8 Lib.asciiSpaceTab):da (C g) id (gq g):=by
 refine⟨fun i f h=> ?_,fun i sp h=> ?_,fun i sp h=> ?_⟩
 ·unfold gq at h
  split at h
  ·cases h
  ·split at h
   ·rename_i fn fx
    split at h
    ·rename_i a ha
     cases h;obtain⟨c,-,-,-,-,-,dL⟩:=ys ha;exact⟨fn,fx,by rw[dL];exact ha⟩
    ·cases h
   ·cases h
 ·unfold gq at h
  split at h
  ·rename_i s hs
   cases h;unfold Mh at hs;split at hs<;>first|(cases hs;done)|skip
   ·cases hs;exact Y7
   ·cases hs;exact Y3
   ·cases hs;exact Za
   ·cases hs;exact Y4 lx
   ·cases hs;exact Y2
   ·cases hs;exact Y1 abV
  ·split at h
   ·split at h<;>cases h
   ·cases h
 ·unfold gq at h
  split at h
  ·cases h
  ·split at h
   ·split at h<;>cases h
   ·cases h
def Bx:Option bQ->Bool
 |some (.code _)=>true
 | _=>false
theorem QV{o:Option bQ}(h:Bx o=true):∃f,o=some (.code f):=by
 match o,h with
 |some (.code f),_=>exact⟨f,rfl⟩
theorem mJ{ab:Nat->Option bQ}{n i:Nat}{l:List (List V × V)}(hT:da (C g) id ab)(hc:Bx (ab i)=true)(h:iS ab n i l):da (C g) id (over ab i (iR l)):=by
 obtain⟨f,af⟩:=QV hc;exact yu hT (A7 mixed qF hT af h)
theorem abW (h:da (C g) id (gq g)):da (C g) id (er g):=yu h (iD.A7 mixed qF (wj mixed qF h 200) Tryz.func8 (Zk g) (Zm g))
theorem abX (h:da (C g) id (gq g)):da (C g) id (F9 g):=mJ (abW h) (by kernel_rfl) (ZU g)
theorem abY (h:da (C g) id (gq g)):da (C g) id (mc g):=mJ (abX h) (by kernel_rfl) (ZV g)
theorem abZ (h:da (C g) id (gq g)):da (C g) id (Bm g):=mJ (abY h) (by kernel_rfl) (Z7 g)
theorem ab0 (h:da (C g) id (gq g)):da (C g) id (Bn g):=mJ (abZ h) (by kernel_rfl) (Z9 g)
theorem ab1 (h:da (C g) id (gq g)):da (C g) id (wE g):=mJ (ab0 h) (by kernel_rfl) (aab g)
theorem ab2 (h:da (C g) id (gq g)):da (C g) id (me g):=mJ (ab1 h) (by kernel_rfl) (aaf g)
theorem ab3 (h:da (C g) id (gq g)):da (C g) id (Bo g):=mJ (ab2 h) (by kernel_rfl) (aar g)
theorem ab4 (h:da (C g) id (gq g)):da (C g) id (dJ g):=mJ (ab3 h) (by kernel_rfl) (aat g)
theorem ab5 (h:da (C g) id (gq g)):da (C g) id (r7 g):=mJ (ab4 h) (by kernel_rfl) (abf g)
theorem ab6 (h:da (C g) id (gq g)):da (C g) id (Bq g):=mJ (ab5 h) (by kernel_rfl) (abo g).choose_spec
theorem Gl (h:da (C g) id (gq g)):da (C g) id (pz g):=mJ (ab6 h) (by kernel_rfl) (abq g)
theorem ab7{o:Option bQ}(h:Bx o=true):o=some (.code (uj o)):=by
 match o,h with
 |some (.code f),_=>rfl
theorem ab8 (h:da (C g) id (gq g)):da (C g) id (r9 g):=Qy (Gl h) (abv mixed qF (Gl h) (Gl h) (ab7 (by kernel_rfl)) (abA g))
theorem ab9 (h:da (C g) id (gq g)):da (C g) id (oG g):=mJ (ab8 h) (by kernel_rfl) (abG g).choose_spec
theorem QW (h:da (C g) id (gq g)):da (C g) id (yR g):=mJ (ab9 h) (by kernel_rfl) (abP g)
theorem aca (h:da (C g) id (gq g)):da (C g) id (Gk g):=yu (QW h) (iD.A7 mixed qF (wj mixed qF (QW h) 200) Tryz.func17 (Zl g) (abS g))
theorem acb (h:da (C g) id (gq g)):lv (C g) id 4 (yt [] (.bool true)):=by
 obtain⟨f,af⟩:=QV (show Bx (Gk g 4)=true by kernel_rfl);exact XW mixed qF (aca h) af rfl (abT g)
end
end Go.Abs.cb
namespace Go.Abs
open Go
end Go.Abs
namespace Go.Abs
open Go
variable{C:Ctx}{fid:Nat->Nat}{w w':World}{G G':bw}{H H':Heap}
theorem QX{ab:Nat->Option bQ}{i:Nat}{spec:List V->Option V}(h:ab i=some (.ext spec)){args:List V}(hp:cB args=true){v:V}(ad:spec args=some v)(H:Heap):cp ab (.fn i [] []) args H=some (v,H,H.length):=by
 rw[pd,h];simp[hp,ad]
end Go.Abs
namespace Go.Abs
open Go
variable{C:Ctx}{fid:Nat->Nat}
end Go.Abs
namespace Go.Abs
open Go
abbrev bt:=Nat->V
def up (σ:bt)(t:Nat)(v:V):bt:=fun k=>match Nat.beq k t with
 |true=>v
 |false=>σ k
def pC:bt:=fun _=>.undef
theorem wH (σ:bt)(t:Nat)(v:V):up σ t v t=v:=by simp[up,sO]
theorem wI (σ:bt){t k:Nat}(v:V)(h:k≠t):up σ t v k=σ k:=by
 unfold up;cases hb:Nat.beq k t with
 |true=>exact absurd (dm hb) h
 |false=>rfl
theorem acd{σ:bt}{t:Nat}{v:V}(h:σ t=v):up σ t v=σ:=by
 funext k;by_cases e:k=t
 ·subst e;rw[wH,h]
 ·rw[wI _ _ e]
def ba (aj σ:bt):ah->V
 | .tmp t=>aj t
 | .var t=>σ t
 | .const v=>v
 | .func i=>.fn i [] []
def Fits (e:Env)(σ:bt):Prop:=∀t,cJ e t=σ t
theorem um:Fits [] pC:=fun _=>rfl
theorem qK{aH ax:Env}{aj σ:bt}(ht:Fits aH aj)(hs:Fits ax σ):ah.ag aH ax=ba aj σ:=by
 funext x;cases x with
 |tmp t=>exact ht t
 |var t=>exact hs t
 |const v=>rfl
 |func i=>rfl
theorem ace{ax:Env}{σ:bt}(h:Fits ax σ)(t:Nat)(v:V):Fits (dq ax t v) (up σ t v):=fun k=>by
 rw[Bj];by_cases e:k=t
 ·rw[if_pos e,e,wH]
 ·rw[if_neg e,wI _ _ e];exact h k
theorem QY{aH:Env}{aj:bt}(h:Fits aH aj)(t:Nat)(v:V):Fits ((t,v)::aH) (up aj t v):=fun k=>by
 by_cases e:k=t
 ·subst e;simp[cJ,wH]
 ·rw[wI _ _ e];simp[cJ,jn e];exact h k
section
variable (ab:Nat->Option bQ)(b:Nat)
def e6 (c:bP)(σ:bt)(H:Heap)(Q:X->bt->Heap->Prop):Prop:=
 ∀ax low,Fits ax σ->b<=low->b<=H.length->∃x dQ H' low' bn,dt ab c ⟨[],ax,H,low,none⟩=some (x,⟨[],dQ,H',low',none⟩)/\Fits dQ bn/\b<=low'/\b<=H'.length/\Q x bn H'
def Op (ops:List bl)(aj σ:bt)(H:Heap)(wr:List Bool)(Q:bt->Heap->List Bool->Prop):Prop:=
 ∀aH ax low,Fits aH aj->Fits ax σ->b<=low->b<=H.length->∃gL dQ H' low' ep bn,cX (cp ab) ops ⟨aH,ax,H,low,none⟩ wr=some (⟨gL,dQ,H',low',none⟩,ep)/\Fits dQ bn/\b<=low'/\b<=H'.length/\Q bn H' ep
end
section
variable{ab:Nat->Option bQ}{b:Nat}{aj σ:bt}{H:Heap}{Q:X->bt->Heap->Prop}
theorem e6.mono{c:bP}{QZ:X->bt->Heap->Prop}(h:e6 ab b c σ H Q)(k:∀x bn H',Q x bn H'->QZ x bn H'):e6 ab b c σ H QZ:=fun ax low h1 h2 aq=>by
 obtain⟨x,dQ,H',low',bn,ae,ai,bz,cn,dG⟩:=h ax low h1 h2 aq;exact⟨x,dQ,H',low',bn,ae,ai,bz,cn,k _ _ _ dG⟩
theorem acf (h:Q .normal σ H):e6 ab b .skip σ H Q:=fun ax low h1 h2 aq=>⟨_,_,_,_,σ,s5 _,h1,h2,aq,h⟩
theorem acg (h:Q .ret σ H):e6 ab b .ret σ H Q:=fun ax low h1 h2 aq=>⟨_,_,_,_,σ,vj _,h1,h2,aq,h⟩
theorem ach{i:Nat}(h:Q (.exit i) σ H):e6 ab b (.exit i) σ H Q:=fun ax low h1 h2 aq=>⟨_,_,_,_,σ,Dp _ _,h1,h2,aq,h⟩
def andThen (ab:Nat->Option bQ)(b:Nat)(c:bP)(Q:X->bt->Heap->Prop):X->bt->Heap->Prop
 | .normal,σ,H=>e6 ab b c σ H Q
 |x,σ,H=>Q x σ H
theorem Gm{a c:bP}(h:e6 ab b a σ H (andThen ab b c Q)):e6 ab b (.seq a c) σ H Q:=fun ax low h1 h2 aq=>by
 obtain⟨x,dQ,H',low',bn,ae,ai,bz,cn,dG⟩:=h ax low h1 h2 aq;rw[kI,ae];cases x with
 |normal=>exact dG dQ low' ai bz cn
 |exit i=>exact⟨_,_,_,_,bn,rfl,ai,bz,cn,dG⟩
 |ret=>exact⟨_,_,_,_,bn,rfl,ai,bz,cn,dG⟩
theorem aci{x:ah}{t e:bP}{β:Bool}(hx:ba pC σ x=.bool β)(oH:β=true)(h:e6 ab b t σ H Q):e6 ab b (.cond x t e) σ H Q:=fun ax low h1 h2 aq=>by
 obtain⟨fA,dQ,H',low',bn,ae,ai⟩:=h ax low h1 h2 aq;refine⟨fA,dQ,H',low',bn,?_,ai⟩;rw[qa,qK um h1,hx,oH];exact ae
theorem acj{x:ah}{t e:bP}{β:Bool}(hx:ba pC σ x=.bool β)(oH:β=false)(h:e6 ab b e σ H Q):e6 ab b (.cond x t e) σ H Q:=fun ax low h1 h2 aq=>by
 obtain⟨fA,dQ,H',low',bn,ae,ai⟩:=h ax low h1 h2 aq;refine⟨fA,dQ,H',low',bn,?_,ai⟩;rw[qa,qK um h1,hx,oH];exact ae
def wJ (id:Nat):X->X
 | .exit j=>match Nat.beq j id with
   |true=>.normal
   |false=>.exit j
 |x=>x
theorem ack{id:Nat}{c:bP}(h:e6 ab b c σ H (fun x=>Q (wJ id x))):e6 ab b (.block id c) σ H Q:=fun ax low h1 h2 aq=>by
 obtain⟨x,dQ,H',low',bn,ae,ai,bz,cn,dG⟩:=h ax low h1 h2 aq;refine⟨wJ id x,dQ,H',low',bn,?_,ai,bz,cn,dG⟩;rw[s6,ae];cases x with
 |normal=>rfl
 |exit j=>
  simp only[wJ];cases hb:Nat.beq j id with
  |true=>rw[if_pos (dm hb)]
  |false=>rw[if_neg (fun e=>by rw[e,sO]at hb;cases hb)]
 |ret=>rfl
theorem acm{ops:List bl}(h:Op ab b ops pC σ H [] (fun bn H' _=>Q .normal bn H')):e6 ab b (.region ops none) σ H Q:=fun ax low h1 h2 aq=>by
 obtain⟨gL,dQ,H',low',ep,bn,ae,ai,bz,cn,dG⟩:=h [] ax low um h1 h2 aq;exact⟨.normal,dQ,H',low',bn,by rw[od];simp only[ae,au.eu],ai,bz,cn,dG⟩
theorem acn{ops:List bl}{dw:List Nat}(h:Op ab b ops pC σ H [] (fun bn H' wr=>p7 dw ops wr=true/\Q .normal bn H')):e6 ab b (.region ops (some dw)) σ H Q:=fun ax low h1 h2 aq=>by
 obtain⟨gL,dQ,H',low',ep,bn,ae,ai,bz,cn,dG,gW⟩:=h [] ax low um h1 h2 aq;exact⟨.normal,dQ,H',low',bn,by rw[od];simp only[ae,dG,Bool.true_or,if_true,au.eu],ai,bz,cn,gW⟩
end
section
variable{ab:Nat->Option bQ}{b:Nat}{aj σ:bt}{H:Heap}{wr:List Bool}{Q:bt->Heap->List Bool->Prop}{rest:List bl}
theorem aco (h:Q σ H wr.reverse):Op ab b [] aj σ H wr Q:=fun aH ax low h1 h2 aq bf=>⟨_,_,_,_,_,σ,rfl,h2,aq,bf,h⟩
def fq (aj:bt):Option (Nat × Bool)->V->bt
 |some (t,false),v=>up aj t v
 | _,_=>aj
def fr (σ:bt):Option (Nat × Bool)->V->bt
 |some (t,true),v=>up σ t v
 | _,_=>σ
theorem uo{aH ax:Env}(ht:Fits aH aj)(hs:Fits ax σ)(H:Heap)(low:Nat)(d:Option (Nat × Bool))(v:V):
  ∃gL dQ,au.put ⟨aH,ax,H,low,none⟩ d v=⟨gL,dQ,H,low,none⟩/\Fits gL (fq aj d v)/\Fits dQ (fr σ d v):=by
 match d with
 |none=>exact⟨_,_,rfl,ht,hs⟩
 |some (t,true)=>exact⟨_,_,rfl,ht,ace hs t v⟩
 |some (t,false)=>exact⟨_,_,rfl,QY ht t v,hs⟩
def eF (aj σ:bt):Option (ah × Bool)->Option Bool
 |none=>some true
 |some (t,w)=>match ba aj σ t with
  | .bool c=>some (c==w)
  | .aR []=>some false
  | _=>none
theorem uq{aH ax:Env}(ht:Fits aH aj)(hs:Fits ax σ):∀g:Option (ah × Bool),hU aH ax g=eF aj σ g
 |none=>rfl
 |some (t,w)=>by unfold hU eF;rw[qK ht hs];rfl
theorem Bz{t:ah}{β w:Bool}(h:ba aj σ t=.bool β)(oH:β=w):eF aj σ (some (t,w))=some true:=by
 subst oH;simp[eF,h]
theorem BA{t:ah}{β:Bool}(h:ba aj σ t=.bool β)(oH:β=false):eF aj σ (some (t,true))=some false:=by
 subst oH;simp[eF,h]
theorem BB{t:ah}{β:Bool}(h:ba aj σ t=.bool β)(oH:β=true):eF aj σ (some (t,false))=some false:=by
 subst oH;simp[eF,h]
theorem Q0{t:ah}{w:Bool}(h:ba aj σ t=.aR []):eF aj σ (some (t,w))=some false:=by
 simp[eF,h]
theorem gM{o:bl}{v:V}{H1:Heap}{mv:Bool}(hw:eF aj σ o.guard=some true)
  (h:b<=H.length->b<=H1.length/\∃bm,b<=bm/\bK (cp ab) (ba aj σ) H H.length o.op=some (v,H1,bm)/\ec H H1 bm=mv)
  (k:Op ab b rest (fq aj o.dst v) (fr σ o.dst v) H1 (mv::wr) Q):Op ab b (o::rest) aj σ H wr Q:=fun aH ax low h1 h2 aq bf=>by
 obtain⟨hb,bm,av,a2,a3⟩:=h bf;simp only[cX];rw[uq h1 h2,hw,qK h1 h2];simp only[];rw[a2];simp only[];obtain⟨kW,kX,ae,ai,bz⟩:=uo h1 h2 H1 (min low bm) o.dst v;rw[ae,a3];exact k kW kX _ ai bz (by omega) hb
theorem Gn{o:bl}(hw:eF aj σ o.guard=some false)(k:Op ab b rest (fq aj o.dst (.aR [])) (fr σ o.dst (.aR [])) H (false::wr) Q):Op ab b (o::rest) aj σ H wr Q:=fun aH ax low h1 h2 aq bf=>by
 simp only[cX];rw[uq h1 h2,hw];simp only[];obtain⟨kW,kX,ae,ai,bz⟩:=uo h1 h2 H low o.dst (.aR []);rw[ae];exact k kW kX _ ai bz aq bf
theorem BC{d:Option (Nat × Bool)}{op:b8}{g:Option (ah × Bool)}{v:V}(hw:eF aj σ g=some true)(h:bK (cp ab) (ba aj σ) H H.length op=some (v,H,H.length))
  (k:Op ab b rest (fq aj d v) (fr σ d v) H (false::wr) Q):Op ab b (⟨d,op,g⟩::rest) aj σ H wr Q:=
 gM (o:=⟨d,op,g⟩) hw (fun hb=>⟨hb,H.length,hb,h,r5 H⟩) k
abbrev bV:=List (List (Nat × bd))
def Own (H:Heap)(ms:bV):Prop:=(∀m∈ms,∀p∈m,H[p.1]? =some p.2)/\(ms.map (·.map Prod.fst)).Pairwise (fun x y=>∀a∈x,a∉y)
theorem Own.nil (H:Heap):Own H []:=⟨by simp,by simp⟩
theorem Own.get{ms:bV}(h:Own H ms)(k:Nat){a:Nat}{o:bd}(hk:ms[k]? =some [(a,o)]):H[a]? =some o:=
 h.1 _ (ml hk) (a,o) (by simp)
theorem oI{H:Heap}{a:Nat}{o:bd}(h:H[a]? =some o):a<H.length:=by
 rcases fF a H.length with q|q
 ·exact q
 ·rw[k6 q]at h;cases h
theorem Own.lt{ms:bV}(h:Own H ms){m:List (Nat × bd)}(hm:m∈ms){p:Nat × bd}(hp:p∈m):p.1<H.length:=oI (h.1 m hm p hp)
theorem Own.keys{ms:bV}(h:Own H ms){x:List Nat}(hx:x∈ms.map (·.map Prod.fst)){a:Nat}(ha:a∈x):a<H.length:=by
 obtain⟨m,hm,rfl⟩:=dn.1 hx;obtain⟨p,hp,rfl⟩:=dn.1 ha;exact h.lt hm hp
theorem Own.grow{ms:bV}(h:Own H ms)(o:bd):Own (H++[o]) ([(H.length,o)]::ms):=by
 refine⟨fun m hm p hp=> ?_,?_⟩
 ·rcases cY.1 hm with rfl|hm
  ·simp at hp;subst hp;simp
  ·rw[ft (h.lt hm hp)];exact h.1 m hm p hp
 ·rw[cW,o0]
  refine⟨fun y hy a ha acp=> ?_,h.2⟩;have:=h.keys hy acp;simp at ha;omega
theorem Own.BD{ms:bV}(h:Own H ms){i j:Nat}{m m':List (Nat × bd)}(hi:ms[i]? =some m)(hj:ms[j]? =some m')(b9:i≠j){p q:Nat × bd}(hp:p∈m)(a8:q∈m'):p.1≠q.1:=by
 have key:∀{i j:Nat} {m m':List (Nat × bd)},ms[i]? =some m->ms[j]? =some m'->i<j->∀{p q:Nat × bd},p∈m->q∈m'->p.1≠q.1:=by
  intro i j m m' hi hj b9 p q hp a8 e;obtain⟨pj,hi⟩:=fu.1 hi;obtain⟨Gp,hj⟩:=fu.1 hj;have:=IH.1 h.2 i j (by simpa using pj) (by simpa using Gp) b9;simp only[List.getElem_map]at this;refine this p.1 (by rw[hi];exact mm hp) ?_;rw[hj,e];exact mm a8
 rcases Nat.lt_or_gt_of_ne b9 with q1|q1
 ·exact key hi hj q1 hp a8
 ·exact fun e=>key hj hi q1 a8 hp e.symm
theorem acq{ms:bV}{k:Nat}{m m':List (Nat × bd)}(hk:ms[k]? =some m)(hm:m'.map Prod.fst=m.map Prod.fst):(ms.set k m').map (·.map Prod.fst)=ms.map (·.map Prod.fst):=by
 rw[List.map_set,hm];apply lP;intro i;by_cases e:k=i
 ·subst e
  have:=(fu.1 hk).1;rw[mi (by simpa using this),iM,hk];rfl
 ·rw[iL e]
theorem Own.put{ms:bV}(h:Own H ms)(k:Nat){a:Nat}{o cC:bd}(hk:ms[k]? =some [(a,o)]):Own (H.set a cC) (ms.set k [(a,cC)]):=by
 refine⟨fun m hm p hp=> ?_,by rw[acq (m':=[(a,cC)]) hk rfl];exact h.2⟩;obtain⟨i,hi⟩:=oY.1 hm;by_cases e:k=i
 ·subst e
  rw[mi (fu.1 hk).1]at hi;cases hi;simp at hp;subst hp;rw[mi (oI (h.get k hk))]
 ·rw[iL e]at hi
  have:=h.BD hk hi e (p:=(a,o)) (by simp) hp;rw[iL this];exact h.1 m (ml hi) p hp
theorem Own.fill{ms:bV}(h:Own H ms)(k:Nat){o:bd}(hk:ms[k]? =some []):Own (H++[o]) (ms.set k [(H.length,o)]):=by
 refine⟨fun m hm p hp=> ?_,?_⟩
 ·obtain⟨i,hi⟩:=oY.1 hm
  by_cases e:k=i
  ·subst e
   rw[mi (fu.1 hk).1]at hi;cases hi;simp at hp;subst hp;simp
  ·rw[iL e]at hi
   have gI:=ml hi;rw[ft (h.lt gI hp)];exact h.1 m gI p hp
 ·have:=h.2
  rw[IH]at this⊢;intro i j hi hj b9 a ha ff;simp only[eA,List.length_set]at hi hj;simp only[List.getElem_map,List.getElem_set]at ha ff;have hb:∀{i:Nat} (hi:i<ms.length) {a:Nat},a∈(ms[i]).map Prod.fst->a<H.length:=fun hi a ha=>h.keys (mm (List.getElem_mem hi)) ha;by_cases ae:k=i
  ·have ai:k≠j:=by omega
   rw[if_pos ae]at ha;rw[if_neg ai]at ff;have:=hb hj ff;simp at ha;omega
  ·by_cases ai:k=j
   ·rw[if_neg ae]at ha;rw[if_pos ai]at ff
    have:=hb hi ha;simp at ff;omega
   ·rw[if_neg ae]at ha;rw[if_neg ai]at ff
    exact this i j (by simpa using hi) (by simpa using hj) b9 a (by simpa using ha) (by simpa using ff)
theorem Own.drop{ms:bV}(h:Own H ms)(k:Nat):Own H (ms.eraseIdx k):=by
 have hs:=List.eraseIdx_sublist ms k;exact⟨fun m hm=>h.1 m (hs.subset hm),h.2.sublist (hs.map _)⟩
theorem Gq{α:Type}{x a:α}:∀{l:List α} {k:Nat},x∈l.insertIdx k a->x=a\/x∈l
 |l,0,h=>by simpa using h
 |[],k+1,h=>by simp at h
 |b::l,k+1,h=>by
  rw[List.insertIdx_succ_cons]at h;rcases cY.1 h with rfl|h
  ·exact .inr (by simp)
  ·rcases Gq h with rfl|h
   ·exact .inl rfl
   ·exact .inr (ie _ h)
theorem Own.ins{ms:bV}(h:Own H ms)(k:Nat):Own H (ms.insertIdx k []):=by
 refine⟨fun m hm p hp=> ?_,?_⟩
 ·rcases Gq hm with rfl|hm
  ·cases hp
  ·exact h.1 m hm p hp
 ·have:∀(ms:List (List Nat)) (k:Nat),ms.Pairwise (fun x y=>∀a∈x,a∉y)->(ms.insertIdx k []).Pairwise (fun x y=>∀a∈x,a∉y):=by
   intro ms
   induction ms with
   |nil=>intro k _;cases k<;>simp
   |cons m ms ih=>
    intro k hp;cases k with
    |zero=>simp only[List.insertIdx_zero,o0];exact⟨by simp,o0.1 hp⟩
    |succ k=>
     rw[List.insertIdx_succ_cons,o0];obtain⟨h1,h2⟩:=o0.1 hp;refine⟨fun y hy=> ?_,ih k h2⟩;rcases Gq hy with rfl|hy
     ·simp
     ·exact h1 y hy
  have h2:=this _ k h.2
  have e:(ms.insertIdx k []).map (·.map Prod.fst)=(ms.map (·.map Prod.fst)).insertIdx k []:=by
   clear h2 this h
   induction ms generalizing k with
   |nil=>cases k<;>simp
   |cons m ms ih=>cases k<;>simp[*]
  rw[e];exact h2
theorem Own.Q1{ms:bV}(h:Own H ms)(dN:List Nat)(hk:dN.Nodup):Own H (dN.map fun k=>ms.getD k []):=by
 refine⟨fun m hm p hp=> ?_,?_⟩
 ·obtain⟨k,-,rfl⟩:=dn.1 hm
  simp only[u4]at hp;cases hx:ms[k]? with
  |none=>rw[hx]at hp;cases hp
  |some m=>rw[hx]at hp;exact h.1 m (ml hx) p hp
 ·rw[jm,C7]
  refine List.Pairwise.imp ?_ hk;intro i j b9 a ha ff;simp only[Function.comp,u4]at ha ff;cases hi:ms[i]? with
  |none=>rw[hi]at ha;cases ha
  |some m=>cases hj:ms[j]? with
   |none=>rw[hj]at ff;cases ff
   |some m'=>
    rw[hi]at ha;rw[hj]at ff;obtain⟨p,hp,rfl⟩:=dn.1 ha;obtain⟨q,a8,e⟩:=dn.1 ff;exact h.BD hi hj b9 hp a8 e.symm
end
end Go.Abs
namespace Go.Abs
open Go
inductive al (α:Type) where
 |nil
 |emp
 |mk (l:List α)
 deriving Inhabited
def al.l{α:Type}:al α->List α
 | .mk l=>l
 | _=>[]
def al.len{α:Type}(x:al α):Int:=(x.l.length:Int)
def b4{α:Type}(es:Nat)(f:α->V):al α->V
 | .nil=>.ak
 | .emp=>.emp
 | .mk l=>.list es (l.map f)
abbrev ck (n:Int):Int:=IntKind.i64.wrap n
abbrev iF (n:Int):V:=.int .i64 n
def dx{α:Type}(l:List α)(i:Int):Option α:=if 0<=i then l[i.toNat]? else none
inductive hf (S O:Type) where
 |next (s:S)
 |out (o:O)
inductive oJ (S R:Type) where
 |go (s:S)
 |ret (r:R)
def nN{S O:Type}(f:S->Option (hf S O)):Nat->S->Option O
 |0,_=>none
 |n+1,s=>match f s with
  |some (.next ao)=>nN f n ao
  |some (.out o)=>some o
  |none=>none
theorem Gr{S O:Type}{f:S->Option (hf S O)}:∀{n m:Nat} {s:S} {o:O},n<=m->nN f n s=some o->nN f m s=some o
 |0,_,_,_,_,h=>by cases h
 |n+1,0,_,_,hm,h=>by omega
 |n+1,m+1,s,o,hm,h=>by
  simp only[nN]at h⊢;split at h
  ·exact Gr (by omega) h
  ·exact h
  ·cases h
open Classical in
noncomputable def c0{S O:Type}(f:S->Option (hf S O))(s:S):Option O:=
 if h:∃n o,nN f n s=some o then some h.choose_spec.choose else none
theorem ur{S O:Type}{f:S->Option (hf S O)}{s:S}{o:O}:c0 f s=some o↔∃n,nN f n s=some o:=by
 unfold c0;constructor
 ·intro h
  split at h
  ·rename_i hx
   cases h;exact⟨_,hx.choose_spec.choose_spec⟩
  ·cases h
 ·rintro⟨n,hn⟩
  have hx:∃n o,nN f n s=some o:=⟨n,o,hn⟩;rw[dif_pos hx];have h1:=Gr (pX n hx.choose) hn;have h2:=Gr (o2 n hx.choose) hx.choose_spec.choose_spec;rw[h1]at h2;exact h2.symm
theorem fK{S O:Type}(f:S->Option (hf S O))(s:S):c0 f s=match f s with
  |some (.next ao)=>c0 f ao
  |some (.out o)=>some o
  |none=>none:=by
 cases af:f s with
 |none=>
  simp only[];cases h:c0 f s with
  |none=>rfl
  |some o=>
   obtain⟨n,hn⟩:=ur.1 h;cases n with
   |zero=>cases hn
   |succ n=>simp[nN,af]at hn
 |some r=>cases r with
  |out o=>exact ur.2 ⟨1,by simp[nN,af]⟩
  |next ao=>
   simp only[];cases h:c0 f ao with
   |some o=>
    obtain⟨n,hn⟩:=ur.1 h;exact ur.2 ⟨n+1,by simp[nN,af,hn]⟩
   |none=>
    cases h':c0 f s with
    |none=>rfl
    |some o=>
     obtain⟨n,hn⟩:=ur.1 h';cases n with
     |zero=>cases hn
     |succ n=>
      simp only[nN,af]at hn;rw[ur.2 ⟨n,hn⟩]at h;cases h
section
variable{ab:Nat->Option bQ}{b:Nat}{aj σ:bt}{H:Heap}
theorem acr{S O:Type}{c:bP}(f:S->Option (hf S O))(I:S->bt->Heap->Prop)(P:O->X->bt->Heap->Prop)
  (round:∀s σ H r,I s σ H->f s=some r->e6 ab b c σ H fun x bn H'=>match r with
    | .next ao=>x=.normal/\I ao bn H'
    | .out o=>x≠ .normal/\P o x bn H') {s:S} {o:O} (h:c0 f s=some o) (ch:I s σ H):e6 ab b (.loop c) σ H (P o):=by
 obtain⟨n,hn⟩:=ur.1 h;clear h
 induction n generalizing s σ H with
 |zero=>cases hn
 |succ n ih=>
  intro ax low h1 h2 aq;simp only[nN]at hn;cases af:f s with
  |none=>rw[af]at hn;cases hn
  |some r=>
   rw[af]at hn;obtain⟨x,dQ,H',low',bn,ae,ai,bz,cn,dG⟩:=round s σ H r ch af ax low h1 h2 aq;rw[vk,ae];cases r with
   |next ao=>
    obtain⟨rfl,FR⟩:=dG;exact ih FR hn dQ low' ai bz cn
   |out cC=>
    cases hn;obtain⟨hx,acs⟩:=dG;refine⟨x,dQ,H',low',bn,?_,ai,bz,cn,acs⟩;cases x<;>first|rfl|exact absurd rfl hx
theorem bind_some{α β:Type}{a:Option α}{f:α->Option β}{r:β}(h:a.bind f=some r):∃x,a=some x/\f x=some r:=sE.1 h
theorem Q2{α:Type}{c:Bool}{p q:Option α}{r:α}(h:(bif c then p else q)=some r):(c=true/\p=some r)\/(c=false/\q=some r):=by
 cases c
 ·exact .inr ⟨rfl,h⟩
 ·exact .inl ⟨rfl,h⟩
variable{α:Type}{es:Nat}{f:α->V}{ag:ah->V}
theorem acu{call:cj}{x:ah}{s:al α}(h:ag x=b4 es f s)(low:Nat):bK call ag H low (.len 1 x)=some (iF s.len,H,low):=by
 show step ag H low (.len 1 x)=_;cases s<;>simp[step,h,b4,al.len,al.l]
theorem acv{call:cj}{x i:ah}{s:al α}{n:Int}{a:α}{k:IntKind}(h:ag x=b4 es f s)(hi:ag i=.int k n)(hx:dx s.l n=some a)(low:Nat):bK call ag H low (.indexAddr es x i)=some (.dp (aL (f a)) 0,H,low):=by
 show step ag H low (.indexAddr es x i)=_;unfold dx at hx;split at hx
 ·rename_i hn
  cases s<;>simp_all [step,b4,al.l,k8]
 ·cases hx
end
end Go.Abs
namespace Go.Abs
open Go
abbrev mK:=List UInt8
@[simp] theorem BF {α : Type} (es : Nat) (f : α -> V) (s : al α) : bS (b4 es f s) = true := by cases s <;> rfl
@[simp] theorem aiE (k : IntKind) (n : Int) : bS (.int k n) = true := rfl
@[simp] theorem aiF (b : Bool) : bS (.bool b) = true := rfl
@[simp] theorem aiG (b : List UInt8) : bS (.str b) = true := rfl
@[simp] theorem aiH (k : IntKind) (n : Int) : aL (.int k n) = [.int k n] := rfl
@[simp] theorem aiI (b : Bool) : aL (.bool b) = [.bool b] := rfl
@[simp] theorem aiJ (b : List UInt8) : aL (.str b) = [.str b] := rfl
@[simp] theorem acw {α : Type} (es : Nat) (f : α -> V) (s : al α) : e1 (b4 es f s) = true := by cases s <;> rfl
@[simp] theorem aiK (k : IntKind) (n : Int) : e1 (.int k n) = true := rfl
@[simp] theorem aiL (b : Bool) : e1 (.bool b) = true := rfl
@[simp] theorem aiM (b : List UInt8) : e1 (.str b) = true := rfl
@[simp] theorem aiN : e1 .ak = true := rfl
@[simp] theorem aiO : e1 .emp = true := rfl
@[simp] theorem aiP : e1 .gy = true := rfl
@[simp] theorem aiQ : e1 .gP = true := rfl
@[simp] theorem aiR : e1 .ik = true := rfl
@[simp] theorem aiS : e1 .hQ = true := rfl
@[simp] theorem aiT (a o : Nat) : e1 (.ptr a o) = true := rfl
@[simp] theorem aiU (a : Nat) : e1 (.map a) = true := rfl
@[simp] theorem aiV (a : Nat) (x y : List V) : e1 (.fn a x y) = true := rfl
@[simp] theorem aiW (a : Nat) (x : List V) : e1 (.list a x) = true := rfl
@[simp] theorem Q3 {α : Type} (es : Nat) (f : α -> V) (s : al α) : aL (b4 es f s) = [b4 es f s] := by cases s <;> rfl
def Q4 (a b:Int):Option Int:=if b=0 then none else some (ck (a.tdiv b))
def Q5 (a b:Int):Option Int:=if b=0 then none else some (a.tmod b)
def Q6 (a b:mK):Option mK:=if a.length+b.length<=2^40 then some (a++b)else none
inductive dz (b es:Nat):V->al V->List (Nat × bd)->Prop
 |nil:dz b es .ak .nil []
 |emp:dz b es .emp .emp []
 |row (l:Nat) (ds:List V) (h:ds≠[]) (hb:b<=l):dz b es (.aN l es 0 ds.length ds.length) (.mk ds) [(l,.row es ds false)]
def al.map{α β:Type}(f:α->β):al α->al β
 | .nil=>.nil
 | .emp=>.emp
 | .mk l=>.mk (l.map f)
abbrev dS{α:Type}(b es:Nat)(f:α->V)(v:V)(s:al α)(m:List (Nat × bd)):Prop:=dz b es v (s.map f) m
theorem Q7{α:Type}(es:Nat)(f:α->V)(s:al α):b4 es f s=b4 es id (s.map f):=by cases s<;>simp[b4,al.map]
def et{α:Type}(bytes:Nat)(s y:al α):Option (al α):=
 if y.l=[]then some s else if(s.l.length+y.l.length)*(bytes+1)<=2^40 then some (.mk (s.l++y.l))else none
def eT{α:Type}(s:al α)(a c:Int):Option (al α):=match s with
 | .nil=>if a=0/\c=0 then some .nil else none
 | .emp=>if a=0/\c=0 then some .emp else none
 | .mk l=>if 0<=a/\a<=c/\c<=l.length then some (.mk ((l.take c.toNat).drop a.toNat))else none
def wK (s:mK)(a c:Int):Option mK:=if 0<=a/\a<=c/\c<=s.length then some ((s.take c.toNat).drop a.toNat)else none
def al.isNil{α:Type}:al α->Bool
 | .nil=>true
 | _=>false
def sa{K W:Type}[BEq K](m:List (K × W))(k:K):Option W:=(m.find? fun p=>k==p.1).map (·.2)
def wL{K W:Type}[BEq K]:List (K × W)->K->W->List (K × W)
 |[],k,w=>[(k,w)]
 |p::r,k,w=>if k==p.1 then(k,w)::r else p::wL r k w
def Gs{α:Type}(bytes:Nat)(z:α)(n:Int):Option (al α):=if 0<=n/\n*(bytes+1)<=2^40 then some (if n=0 then .emp else .mk (List.replicate n.toNat z))else none
def mf{α:Type}(s:al α)(i:Int)(e:α):al α:=.mk (s.l.set i.toNat e)
mutual
theorem Gt{n:Nat}:∀{v:V},bS v=true->old n v=true
 | .bool _,_| .int _ _,_| .str _,_| .ak,_| .emp,_| .gy,_| .hQ,_| .ik,_| .gP,_| .list _ _,_=>rfl
 | .agg vs,h=>by simp only[bS]at h;simp only[old];exact wM h
 | .aR vs,h=>by simp only[bS]at h;simp only[old];exact wM h
 | .fn i a b,h=>by simp only[bS,cH]at h;simp only[old,cH];exact⟨wM h.1,wM h.2⟩
 | .iface t v,h=>by simp only[bS]at h;simp only[old];exact Gt h
 | .ptr ..,h| .fm ..,h| .dp ..,h| .aN ..,h| .map ..,h| .yield ..,h| .undef,h=>by simp[bS]at h
theorem wM{n:Nat}:∀{vs:List V},cB vs=true->olds n vs=true
 |[],_=>rfl
 |v::vs,h=>by
  simp only[cB,cH]at h;simp only[olds,cH];exact⟨Gt h.1,wM h.2⟩
end
section
variable{ab:Nat->Option bQ}{b:Nat}{aj σ:bt}{H:Heap}{wr:List Bool}{rest:List bl}{call:cj}{ag:ah->V}
theorem acx{c:bP}{Q:X->bt->Heap->Prop}(P:X->bt->Heap->Prop)(h:e6 ab b c σ H P)(k:∀x bn H',P x bn H'->Q x bn H'):e6 ab b c σ H Q:=h.mono k
theorem acy{x i:ah}{s:mK}{k:IntKind}{n:Int}{c:UInt8}(h:ag x=.str s)(hi:ag i=.int k n)(hx:dx s n=some c)(low:Nat):bK call ag H low (.sS x i)=some (.int .u8 c.toNat,H,low):=by
 show step ag H low (.sS x i)=_;unfold dx at hx;split at hx
 ·rename_i hn
  simp_all [step,k8]
 ·cases hx
theorem acz{z:List V}{parts:List (Nat × Nat × ah)}{cs:List V}(h:o6 z (parts.map fun p=>(p.1,p.2.1,ag p.2.2))=some cs):bK call ag H H.length (.build z parts)=some (.agg cs,H,H.length):=by
 show step ag H H.length (.build z parts)=_;simp only[step,h];rfl
theorem uu:∀{vs:List V} {low:Nat},cB vs=true->eL H low vs=some (vs,H,low)
 |[],_,_=>rfl
 |v::r,low,h=>by
  simp only[cB,cH]at h;simp only[eL,hR,ea,h.1,if_true,uu h.2]
theorem acA{d:Option (Nat × Bool)}{g:Option (ah × Bool)}{z:List V}{Q:bt->Heap->List Bool->Prop}{ms:bV}(hw:eF aj σ g=some true)(hO:Own H ms)
  (k:∀H' a,b<=a->Own H' ([(a,.cells z)]::ms)->Op ab b rest (fq aj d (.ptr a 0)) (fr σ d (.ptr a 0)) H' (true::wr) Q):Op ab b (⟨d,.alloc z,g⟩::rest) aj σ H wr Q:=by
 intro aH ax low h1 h2 aq bf;exact gM (o:=⟨d,.alloc z,g⟩) (mv:=true) hw (fun hb=>⟨by simp;omega,H.length,hb,Mm z,by simp[ec]⟩) (k _ _ bf (hO.grow _)) aH ax low h1 h2 aq bf
theorem acB{d:Option (Nat × Bool)}{g:Option (ah × Bool)}{x:ah}{cs:List V}{Q:bt->Heap->List Bool->Prop}{ms:bV}(hw:eF aj σ g=some true)(hO:Own H ms)(hx:aL (ba aj σ x)=cs)(hc:b7 cs=true)
  (k:∀H' a,b<=a->Own H' ([(a,.cells cs)]::ms)->Op ab b rest (fq aj d (.ptr a 0)) (fr σ d (.ptr a 0)) H' (true::wr) Q):Op ab b (⟨d,.box x,g⟩::rest) aj σ H wr Q:=by
 intro aH ax low h1 h2 aq bf;exact gM (o:=⟨d,.box x,g⟩) (mv:=true) hw (fun hb=>⟨by simp;omega,H.length,hb,by simp only[];rw[Mn,hx,if_pos hc],by simp[ec]⟩) (k _ _ bf (hO.grow _)) aH ax low h1 h2 aq bf
theorem acC{d:Option (Nat × Bool)}{g:Option (ah × Bool)}{Q:bt->Heap->List Bool->Prop}{ms:bV}(hw:eF aj σ g=some true)(hO:Own H ms)
  (k:∀H' a,b<=a->Own H' ([(a,.map [])]::ms)->Op ab b rest (fq aj d (.map a)) (fr σ d (.map a)) H' (true::wr) Q):Op ab b (⟨d,.mkMap,g⟩::rest) aj σ H wr Q:=by
 intro aH ax low h1 h2 aq bf;exact gM (o:=⟨d,.mkMap,g⟩) (mv:=true) hw (fun hb=>⟨by simp;omega,H.length,hb,Mo,by simp[ec]⟩) (k _ _ bf (hO.grow _)) aH ax low h1 h2 aq bf
theorem acD{d:Option (Nat × Bool)}{g:Option (ah × Bool)}{n o a:Nat}{x y:ah}{cs vs ey:List V}{Q:bt->Heap->List Bool->Prop}{ms:bV}(hw:eF aj σ g=some true)(hO:Own H ms)(k:Nat)
  (hk:ms[k]? =some [(a,.cells cs)]) (hb:b<=a) (hx:ba aj σ x=.ptr a o) (hy:aL (ba aj σ y)=vs) (hn:vs.length=n/\o+n<=cs.length) (hc:b7 vs=true) (hs:setCells cs o vs=ey)
  (bE:∀H',Own H' (ms.set k [(a,.cells ey)])->Op ab b rest (fq aj d .undef) (fr σ d .undef) H' (true::wr) Q):Op ab b (⟨d,.store n x y,g⟩::rest) aj σ H wr Q:=by
 have aT:=hO.get k hk;have aY:=oI aT;refine gM (o:=⟨d,.store n x y,g⟩) (mv:=true) (H1:=H.set a (.cells ey)) hw (fun bN=>⟨by simpa using bN,a,hb,?_,by simp[ec,aY]⟩) (bE _ (hO.put k hk));simp only[F6,hx,p6,aT,hy];rw[if_pos ⟨hn.1,by omega,hc⟩];subst hs;simp[sM aY]
theorem Q8{f:ah}{aC:List ah}{fv v:V}{vs:List V}(hc:call fv vs H=some (v,H,H.length))(aP:eL H H.length vs=some (vs,H,H.length))(ha:aC.map ag=vs)(af:ag f=fv):bK call ag H H.length (.call false f aC)=some (v,H,H.length):=by
 subst ha;subst af;rw[Bh,aP];simp[hc]
theorem acE{low:Nat}{v:V}{vs:List V}(h:bS v=true)(r:eL H low vs=some (vs,H,low)):eL H low (v::vs)=some (v::vs,H,low):=by
 simp only[eL,hR,ea,h,if_true,r]
theorem acF{low:Nat}{v:V}{vs:List V}(h:∀H low,hR H low v=some (v,H,low))(r:eL H low vs=some (vs,H,low)):eL H low (v::vs)=some (v::vs,H,low):=by
 simp only[eL,h,r]
theorem Gu{es:Nat}{z:V}:∀(vs pre:List V),(∀v∈vs,(aL v).length=es/\b7 (aL v)=true)->lT es (pre++List.replicate vs.length z) ((List.range' pre.length vs.length).zip vs)=some (pre++vs)
 |[],pre,_=>by simp[lT]
 |v::vs,pre,h=>by
  have ad:=h v (by simp);simp only[iN,sK,zS,lT];rw[if_pos ⟨ad.1,by simp,ad.2⟩]
  have e:(pre++List.replicate (vs.length+1) z).set pre.length v=(pre++[v])++List.replicate vs.length z:=by
   rw[List.replicate_succ];simp
  rw[e];have:=Gu (es:=es) (z:=z) vs (pre++[v]) (fun u hu=>h u (by simp[hu]));simp only[fO,iN,n3,dK]at this;rw[this];simp
theorem acG{es n:Nat}{z vs:List V}{parts:List (Nat × ah)}(ad:(parts.map fun p=>ag p.2)=vs)(hi:parts.map Prod.fst=List.range' 0 vs.length)(hn:vs.length=n)(h0:(n=0)=False)(hp:cB vs=true)(hc:∀v∈vs,(aL v).length=es/\b7 (aL v)=true):
  bK call ag H H.length (.lit es z n parts true)=some (.list es vs,H,H.length):=by
 have aP:(parts.zip vs).map (fun(p,v)=>(p.1,v))=(List.range' 0 vs.length).zip vs:=by
  rw[<-hi];clear hi hp hc hn;subst ad
  induction parts with
  |nil=>rfl
  |cons p ps ih=>simp[ih]
 have af:=Gu (es:=es) (z:=jo z) vs [] hc;simp only[ij,n3]at af;rw[Bi];simp only[step,ad,uu hp];rw[aP,<-hn,af];simp only[hp,if_true,hn,h0,if_false]
theorem acH{es:Nat}{z:List V}{x:V}(h:x=V.emp):bK call ag H H.length (.lit es z 0 [] true)=some (x,H,H.length):=by
 rw[Bi,h];simp[step,eL,lT,cB]
def qL (ag:ah->V)(x:Option ah)(Dg a:Int):Prop:=(x=none/\a=Dg)\/∃o,x=some o/\ag o=iF a
theorem qL.eq{x:Option ah}{d a:Int}(h:qL ag x d a){n:Nat}(hd:d=n)(ha:0<=a):eM ag n x=some a.toNat:=by
 rcases h with⟨rfl,rfl⟩|⟨o,rfl,e⟩
 ·subst hd;rfl
 ·simp[eM,e,k8,ha]
theorem BG{α:Type}{es:Nat}{f:α->V}{s ao:al α}{x:ah}{cS hi:Option ah}{a c:Int}(hs:eT s a c=some ao)(ha:qL ag cS 0 a)(hc:qL ag hi s.len c)(h:ag x=b4 es f s):bK call ag H H.length (.pZ es x cS hi none)=some (b4 es f ao,H,H.length):=by
 rw[yK];cases s with
 |nil=>
  simp only[eT]at hs;split at hs
  ·rename_i q;obtain⟨rfl,rfl⟩:=q;cases hs
   simp only[step,h,b4];rw[ha.eq (n:=0) rfl (va _),hc.eq (n:=0) rfl (va _)];rfl
  ·cases hs
 |emp=>
  simp only[eT]at hs;split at hs
  ·rename_i q;obtain⟨rfl,rfl⟩:=q;cases hs
   simp only[step,h,b4];rw[ha.eq (n:=0) rfl (va _),hc.eq (n:=0) rfl (va _)];rfl
  ·cases hs
 |mk l=>
  simp only[eT]at hs;split at hs
  ·rename_i q;obtain⟨q1,q2,dk⟩:=q;cases hs
   have ae:=ha.eq (n:=0) rfl q1;have ai:=hc.eq (n:=(l.map f).length) (by simp[al.len,al.l]) (by omega);simp only[step,h,b4,ae,ai];rw[if_pos ⟨by omega,by simp;omega,trivial⟩];simp
  ·cases hs
theorem BH{s ao:mK}{x:ah}{cS hi:Option ah}{a c:Int}(hs:wK s a c=some ao)(ha:qL ag cS 0 a)(hc:qL ag hi (s.length:Int) c)(h:ag x=.str s):bK call ag H H.length (.rf x cS hi)=some (.str ao,H,H.length):=by
 show step ag H H.length (.rf x cS hi)=_;unfold wK at hs;split at hs
 ·rename_i q;obtain⟨q1,q2,dk⟩:=q;cases hs
  simp only[step,h,ha.eq (n:=0) rfl q1,hc.eq (n:=s.length) rfl (by omega)];rw[if_pos ⟨by omega,by omega⟩]
 ·cases hs
theorem dz.cells{b es:Nat}{v:V}{s:al V}{m:List (Nat × bd)}(h:dz b es v s m):aL v=[v]:=by cases h<;>rfl
theorem dz.e1{b es:Nat}{v:V}{s:al V}{m:List (Nat × bd)}(h:dz b es v s m):Abs.e1 v=true:=by cases h<;>rfl
theorem qM{α:Type}(es:Nat)(f:α->V)(s:al α):elems H es (b4 es f s)=some (s.l.map f):=by cases s<;>simp[elems,b4,al.l]
theorem oK{α:Type}{f:α->V}(h:∀a,bS (f a)=true):∀l:List α,cB (l.map f)=true
 |[]=>rfl
 |a::l=>by simp[cB,h a,oK h l]
theorem qN{α:Type}{f:α->V}(h:∀a,b7 (aL (f a))=true):∀l:List α,b7 ((l.map f).flatMap aL)=true
 |[]=>rfl
 |a::l=>by
  have app:∀x y:List V,b7 (x++y)=(b7 x&&b7 y):=fun x y=>by
   induction x with
   |nil=>simp[b7]
   |cons c x ih=>simp[b7,ih,zY]
  simp[app,h a,qN h l]
theorem Q9{α:Type}{es bytes:Nat}{f:α->V}{s y ao:al α}{d:Option (Nat × Bool)}{g:Option (ah × Bool)}{cQ ez:ah}{cR:V}{m:List (Nat × bd)}{Q:bt->Heap->List Bool->Prop}{ms:bV}(hw:eF aj σ g=some true)(k:Nat)
  (hs:et bytes s y=some ao) (hO:Own H ms) (hk:ms[k]? =some m) (hr:dS b es f cR s m) (ha:ba aj σ cQ=cR) (hb:ba aj σ ez=b4 es f y) (hp:∀a,bS (f a)=true) (hc:∀a,b7 (aL (f a))=true)
  (bE:∀H' v' m' mv,dS b es f v' ao m'->Own H' (ms.set k m')->Op ab b rest (fq aj d v') (fr σ d v') H' (mv::wr) Q):Op ab b (⟨d,.append es bytes cQ ez,g⟩::rest) aj σ H wr Q:=by
 intro aH ax low h1 h2 aq bf
 have kT:ms.set k m=ms:=by
  apply lP;intro i;by_cases e:k=i
  ·subst e;rw[mi (fu.1 hk).1,hk]
  ·rw[iL e]
 have hfz:eL H H.length (y.l.map f)=some (y.l.map f,H,H.length):=uu (oK hp _);have mL:=qN hc y.l;unfold et at hs;by_cases hy:y.l=[]
 ·rw[if_pos hy]at hs
  cases hs;refine gM (o:=⟨d,.append es bytes cQ ez,g⟩) (mv:=false) (v:=cR) (H1:=H) hw (fun bN=>⟨bN,H.length,bN,?_,r5 H⟩) (bE H cR m false hr (by rw[kT];exact hO)) aH ax low h1 h2 aq bf;rw[kx];simp only[step,hb,qM];rw[hfz,hy];simp only[hP,Db,if_true,ha];have cE:dz b es cR (s.map f) m:=hr;generalize kY:s.map f=e7 at cE;cases cE with
  |nil=>rfl
  |emp=>rfl
  |row l ds h fp=>simp[hO.get k hk]
 ·rw[if_neg hy]at hs
  split at hs
  ·rename_i dB
   cases hs
   have bb:(y.l.map f).isEmpty=false:=by cases qO:y.l with
    |nil=>exact absurd qO hy
    |cons=>rfl
   have lz:(b7 ((y.l.map f).flatMap aL)=false)=False:=by rw[mL];simp
   have cE:dz b es cR (s.map f) m:=hr;generalize kY:s.map f=e7 at cE;cases cE with
   |nil=>
    have ed:s.l=[]:=by cases s<;>simp_all [al.map,al.l]
    have kz:(y.l.map f).length*(bytes+1)<=2^40:=by simpa[ed]using dB
    refine gM (o:=⟨d,.append es bytes cQ ez,g⟩) (mv:=true) (v:=.aN H.length es 0 (y.l.map f).length (y.l.map f).length) (H1:=H++[.row es (y.l.map f) false]) hw
     (fun bN=>⟨by simp;omega,H.length,bN,?_,by simp[ec]⟩) (bE _ _ [(H.length,.row es (y.l.map f) false)] true ?_ (hO.fill k hk)) aH ax low h1 h2 aq bf
    ·rw[kx]
     simp only[step,hb,qM];rw[hfz];simp only[bb,ga,if_false,lz,ha,kz,if_true]
    ·simp only[ed,ij,al.map]
     exact .row _ _ (by simpa using hy) bf
   |emp=>
    have ed:s.l=[]:=by cases s<;>simp_all [al.map,al.l]
    have kz:(y.l.map f).length*(bytes+1)<=2^40:=by simpa[ed]using dB
    refine gM (o:=⟨d,.append es bytes cQ ez,g⟩) (mv:=true) (v:=.aN H.length es 0 (y.l.map f).length (y.l.map f).length) (H1:=H++[.row es (y.l.map f) false]) hw
     (fun bN=>⟨by simp;omega,H.length,bN,?_,by simp[ec]⟩) (bE _ _ [(H.length,.row es (y.l.map f) false)] true ?_ (hO.fill k hk)) aH ax low h1 h2 aq bf
    ·rw[kx]
     simp only[step,hb,qM];rw[hfz];simp only[bb,ga,if_false,lz,ha,kz,if_true]
    ·simp only[ed,ij,al.map]
     exact .row _ _ (by simpa using hy) bf
   |row l ds hd fp=>
    have ed:s.l.map f=ds:=by cases s<;>simp_all [al.map,al.l]
    have hlen:s.l.length=ds.length:=by rw[<-ed,eA]
    have aT:=hO.get k hk;have aY:=oI aT
    refine gM (o:=⟨d,.append es bytes cQ ez,g⟩) (mv:=true) (v:=.aN l es 0 (ds++y.l.map f).length (ds++y.l.map f).length) (H1:=H.set l (.row es (ds++y.l.map f) false)) hw
     (fun bN=>⟨by simpa using bN,l,fp,?_,by simp[ec,aY]⟩) (bE _ _ [(l,.row es (ds++y.l.map f) false)] true ?_ (hO.put k hk)) aH ax low h1 h2 aq bf
    ·rw[kx]
     simp only[step,hb,qM];rw[hfz];simp only[bb,ga,if_false,lz,ha,aT,fO];rw[if_pos ⟨trivial,trivial,trivial,trivial,trivial,by rw[hlen]at dB;simpa using dB⟩,o3 (sM aY)]
     done
    ·show dz b es _ (.mk ((s.l++y.l).map f)) _
     rw[hM,ed];exact .row _ _ (by simp[hd]) fp
  ·cases hs
def sb:Nat->List V->bt
 | _,[]=>pC
 |i,v::r=>up (sb (i+1) r) i v
theorem Ra:∀(i:Nat) (vs:List V),Fits (fo i vs) (sb i vs)
 | _,[]=>um
 |i,v::r=>QY (Ra (i+1) r) i v
inductive pD (σ:bt) (H:Heap):List ki->List V->Prop
 |nil:pD σ H [] []
 |tmp {t:Nat} {v:V} {rs:List ki} {vs:List V} (h:σ t=v) (r:pD σ H rs vs):pD σ H (.tmp t::rs) (v::vs)
 |cell {a l o:Nat} {sh:Option Nat} {cs:List V} {v:V} {rs:List ki} {vs:List V} (h:σ a=.ptr l o) (aT:H[l]? =some (.cells cs)) (hr:kF cs o sh=some v) (r:pD σ H rs vs):pD σ H (.cell a sh::rs) (v::vs)
theorem pD.eq{ax:Env}(af:Fits ax σ):∀{rs:List ki} {vs:List V},pD σ H rs vs->hY ax H rs=some vs
 | _,_,.nil=>rfl
 | _,_,.tmp h r=>by simp only[hY,nd,r.eq af,af _,h]
 | _,_,.cell h aT hr r=>by simp only[hY,nd,af _,h,na,aT,hr,r.eq af]
@[simp] theorem aiX {α : Type} {es : Nat} {f : α -> V} {s : al α} {l n : Nat} : bS (.aN l es 0 n n) = false := rfl
def jf (b n:Nat)(ms:bV)(v v':V)(fb:bV):Prop:=∀H low,Own H ms->b<=low->∃H' low',ea n H low v=some (v',H',low')/\Own H' fb/\b<=low'
def lA (b n:Nat)(ms:bV)(vs vs':List V)(fb:bV):Prop:=∀H low,Own H ms->b<=low->∃H' low',il (ea n) H low vs=some (vs',H',low')/\Own H' fb/\b<=low'
theorem jf.plain{n:Nat}{ms:bV}{v:V}(h:bS v=true):jf b n ms v v ms:=fun H low hO hb=>⟨H,low,by cases n<;>simp[ea,h],hO,hb⟩
theorem lA.nil{n:Nat}{ms:bV}:lA b n ms [] [] ms:=fun H low hO hb=>⟨H,low,rfl,hO,hb⟩
theorem lA.cons{n:Nat}{ms Rb Rc:bV}{v v':V}{vs vs':List V}(h:jf b n ms v v' Rb)(r:lA b n Rb vs vs' Rc):lA b n ms (v::vs) (v'::vs') Rc:=fun H low hO hb=>by
 obtain⟨H1,bm,ae,jS,b1⟩:=h H low hO hb;obtain⟨cT,eH,ai,acI,fB⟩:=r H1 bm jS b1;exact⟨cT,eH,by simp only[il,ae,ai],acI,fB⟩
theorem jf.aR{n:Nat}{ms fb:bV}{vs vs':List V}(h:lA b n ms vs vs' fb)(hp:cB vs=false):jf b (n+1) ms (.aR vs) (.aR vs') fb:=fun H low hO hb=>by
 obtain⟨H1,bm,ae,jS,b1⟩:=h H low hO hb;exact⟨H1,bm,by simp only[ea,bS,hp,ga,if_false,ae],jS,b1⟩
theorem jf.agg{n:Nat}{ms fb:bV}{vs vs':List V}(h:lA b n ms vs vs' fb)(hp:cB vs=false):jf b (n+1) ms (.agg vs) (.agg vs') fb:=fun H low hO hb=>by
 obtain⟨H1,bm,ae,jS,b1⟩:=h H low hO hb;exact⟨H1,bm,by simp only[ea,bS,hp,ga,if_false,ae],jS,b1⟩
def jy (m:List (Nat × bd)):List (Nat × bd):=m.map fun p=>(p.1,match p.2 with| .row es ds _=>.row es ds true|o=>o)
theorem jf.row{α:Type}{n es:Nat}{f:α->V}{s:al α}{v:V}{m:List (Nat × bd)}{ms:bV}(k:Nat)(hk:ms[k]? =some m)(hr:dS b es f v s m)(hp:∀a,bS (f a)=true):jf b (n+1) ms v (b4 es f s) (ms.set k (jy m)):=fun H low hO hb=>by
 have kT:∀m',m'=m->ms.set k m'=ms:=fun m' hm=>by
  apply lP;intro i;by_cases e:k=i
  ·subst e;rw[mi (fu.1 hk).1,hk,hm]
  ·rw[iL e]
 rw[Q7];have cE:dz b es v (s.map f) m:=hr;generalize kY:s.map f=e7 at cE;clear hr;cases cE with
 |nil=>exact⟨H,low,rfl,by rw[kT (jy []) rfl];exact hO,hb⟩
 |emp=>exact⟨H,low,rfl,by rw[kT (jy []) rfl];exact hO,hb⟩
 |row l ds h fp=>
  have nn:cB ds=true:=by
   cases s<;>simp[al.map]at kY;rw[<-kY];exact oK hp _
  refine⟨H.set l (.row es ds true),min low l,?_,hO.put k hk,by omega⟩;simp[ea,bS,hO.get k hk,nn,b4]
def one:List V->V
 |[x]=>x
 |us=>.aR us
def Gv (rs:List ki)(σ:bt)(H:Heap)(b:Nat)(v:V):Prop:=
 ∃(us:List V) (u:V) (ms fb:bV),pD σ H rs us/\one us=u/\Own H ms/\jf b 16 ms u v fb
theorem Re{rs:List ki}{us:List V}{u v:V}{ms fb:bV}(h:pD σ H rs us)(he:one us=u)(hO:Own H ms)(hp:jf b 16 ms u v fb):Gv rs σ H b v:=
 ⟨us,u,ms,fb,h,he,hO,hp⟩
theorem acJ{i:Nat}{f:gR}{args caps:List V}{v:V}(cy:ab i=some (.code f))(hl:(args++caps).length<=f.sU)(dL:f.fresh=false)
  (h:e6 ab H.length f.body (sb 0 (args++caps)) H fun x bn H'=>(x=.normal\/x=.ret)/\Gv f.results bn H' H.length v) (hp:bS v=true):
  cp ab (.fn i [] caps) args H=some (v,H,H.length):=by
 obtain⟨x,dQ,H',low',bn,ae,ai,bz,cn,dG,us,u,ms,fb,gW,oL,acK,qj⟩:=h _ H.length (Ra 0 _) (aI _) (aI _);obtain⟨cT,eH,cc,-,eY⟩:=qj H' low' acK bz;have cO:=gW.eq ai;have hold:old H.length v=true:=Gt hp
 have gY:∀w,w=u->finish f.fresh H w H' low'=some (v,H,H.length):=fun w hw=>by
  subst hw;rw[dL];unfold finish;split
  ·simp_all
  ·simp only[hR,cc,eY,hold,and_self,if_true]
 rw[pd,cy];simp only[ij,fP];rw[if_pos hl,ae];rcases dG with rfl|rfl
 ·simp only[cO]
  match us,oL with
  |[w],hu=>exact gY w hu
  |[],hu=>exact gY _ hu
  |a::b::r,hu=>exact gY _ hu
 ·simp only[cO]
  match us,oL with
  |[w],hu=>exact gY w hu
  |[],hu=>exact gY _ hu
  |a::b::r,hu=>exact gY _ hu
end
end Go.Abs
namespace Go.Abs
open Go
section
variable{ab:Nat->Option bQ}{b:Nat}{aj σ:bt}{H:Heap}{wr:List Bool}{rest:List bl}{call:cj}{ag:ah->V}
def mg{K W:Type}(fL:K->V)(fD:W->V)(m:List (K × W)):List (V × V):=m.map fun p=>(fL p.1,fD p.2)
theorem acL (a c:Int):gS 0 (iF a) (iF c)=some (a==c):=by simp[gS]
theorem acM (a c:mK):gS 1 (.str a) (.str c)=some (a==c):=rfl
theorem BI{K W:Type}[BEq K]{fL:K->V}{fD:W->V}{kind:Nat}(heq:∀a c,gS kind (fL a) (fL c)=some (a==c))(k:K):∀m:List (K × W),iP kind (fL k) (mg fL fD m)=some ((sa m k).map fD)
 |[]=>rfl
 |p::r=>by
  have ih:=BI (fD:=fD) heq k r;simp only[mg,sa]at ih⊢;simp only[cW,iP,heq,List.find?_cons];cases k==p.1<;>simp[ih]
theorem Rf{K W:Type}[BEq K]{fL:K->V}{fD:W->V}{kind:Nat}(heq:∀a c,gS kind (fL a) (fL c)=some (a==c))(k:K)(w:W):∀m:List (K × W),kH kind (fL k) (fD w) (mg fL fD m)=mg fL fD (wL m k w)
 |[]=>rfl
 |p::r=>by
  have ih:=Rf (fD:=fD) heq k w r;simp only[mg]at ih⊢;simp only[cW,kH,heq,wL];cases k==p.1<;>simp[ih]
theorem acN{K W:Type}[BEq K]{fL:K->V}{fD:W->V}{kind a:Nat}{m:List (K × W)}{k:K}{z:V}{x i:ah}(heq:∀a c,gS kind (fL a) (fL c)=some (a==c))(z0:W)(aP:z=fD z0)(aT:H[a]? =some (.map (mg fL fD m)))(hx:ag x=.map a)(hi:ag i=fL k):
  bK call ag H H.length (.lookup kind z x i false)=some (fD ((sa m k).getD z0),H,H.length):=by
 rw[F8];simp only[step,hx,aT,hi,BI heq];cases sa m k<;>simp[aP]
theorem acO{K W:Type}[BEq K]{fL:K->V}{fD:W->V}{kind a:Nat}{m:List (K × W)}{k:K}{z:V}{x i:ah}(heq:∀a c,gS kind (fL a) (fL c)=some (a==c))(z0:W)(aP:z=fD z0)(aT:H[a]? =some (.map (mg fL fD m)))(hx:ag x=.map a)(hi:ag i=fL k):
  bK call ag H H.length (.lookup kind z x i true)=some (.aR [fD ((sa m k).getD z0),.bool (sa m k).isSome],H,H.length):=by
 rw[F8];simp only[step,hx,aT,hi,BI heq];cases sa m k<;>simp[aP]
theorem acP{K W:Type}{fL:K->V}{fD:W->V}{a:Nat}{m:List (K × W)}{x:ah}(aT:H[a]? =some (.map (mg fL fD m)))(hx:ag x=.map a):bK call ag H H.length (.len 2 x)=some (iF (m.length:Int),H,H.length):=by
 show step ag H H.length (.len 2 x)=_;simp[step,hx,aT,mg]
theorem acQ{K W:Type}[BEq K]{fL:K->V}{fD:W->V}{kind a:Nat}{m:List (K × W)}{k:K}{w:W}{d:Option (Nat × Bool)}{g:Option (ah × Bool)}{x i y:ah}{Q:bt->Heap->List Bool->Prop}{ms:bV}(hw:eF aj σ g=some true)
  (heq:∀a c,gS kind (fL a) (fL c)=some (a==c)) (hO:Own H ms) (j:Nat) (hk:ms[j]? =some [(a,.map (mg fL fD m))]) (hb:b<=a) (hx:ba aj σ x=.map a) (hi:ba aj σ i=fL k) (hy:ba aj σ y=fD w) (hp:bS (fD w)=true)
  (bE:∀H',Own H' (ms.set j [(a,.map (mg fL fD (wL m k w)))])->Op ab b rest (fq aj d .undef) (fr σ d .undef) H' (true::wr) Q):Op ab b (⟨d,.mZ kind x i y,g⟩::rest) aj σ H wr Q:=by
 have aT:=hO.get j hk;have aY:=oI aT;have hu:p5 (fD w)=false:=by cases ad:fD w<;>simp_all [p5,bS]
 refine gM (o:=⟨d,.mZ kind x i y,g⟩) (mv:=true) (H1:=H.set a (.map (mg fL fD (wL m k w)))) hw (fun bN=>⟨by simpa using bN,a,hb,?_,by simp[ec,aY]⟩) (bE _ (hO.put j hk));simp only[Mr,step,hy];have af:hR H H.length (fD w)=some (fD w,H,H.length):=by simp[hR,ea,hp]
 simp only[af,hu,hx,aT,hi,BI heq,Rf heq];simp[o3 (sM aY)]
theorem dz.elems{α:Type}{es:Nat}{f:α->V}{s:al α}{v:V}{m:List (Nat × bd)}{ms:bV}(hO:Own H ms)(k:Nat)(hk:ms[k]? =some m)(hr:dS b es f v s m):elems H es v=some (s.l.map f):=by
 have cE:dz b es v (s.map f) m:=hr;generalize kY:s.map f=e7 at cE;clear hr;cases cE with
 |nil=>cases s<;>simp_all [al.map,al.l,Abs.elems]
 |emp=>cases s<;>simp_all [al.map,al.l,Abs.elems]
 |row l ds h hb=>
  have:s.l.map f=ds:=by cases s<;>simp_all [al.map,al.l]
  simp[Abs.elems,hO.get k hk,this]
theorem acR{α:Type}{es:Nat}{f:α->V}{s:al α}{v:V}{m:List (Nat × bd)}{ms:bV}{x:ah}(hO:Own H ms)(k:Nat)(hk:ms[k]? =some m)(hr:dS b es f v s m)(hx:ag x=v):bK call ag H H.length (.len 1 x)=some (iF s.len,H,H.length):=by
 have cE:dz b es v (s.map f) m:=hr;generalize kY:s.map f=e7 at cE;clear hr;show step ag H H.length (.len 1 x)=_;cases cE with
 |nil=>cases s<;>simp_all [al.map,al.len,al.l,step]
 |emp=>cases s<;>simp_all [al.map,al.len,al.l,step]
 |row l ds h hb=>
  have:s.l.map f=ds:=by cases s<;>simp_all [al.map,al.l]
  subst this;simp[step,hx,hO.get k hk,al.len]
theorem acS{α:Type}{es bytes:Nat}{f:α->V}{z:List V}{e:α}{n:Int}{s:al α}{bI Rg:IntKind}{d:Option (Nat × Bool)}{g:Option (ah × Bool)}{x y:ah}{Q:bt->Heap->List Bool->Prop}{ms:bV}(hw:eF aj σ g=some true)
  (hs:Gs bytes e n=some s) (hO:Own H ms) (aP:jo z=f e) (hx:ba aj σ x=.int bI n) (hy:ba aj σ y=.int Rg n)
  (bE:∀H' v' m' mv,dS b es f v' s m'->Own H' (m'::ms)->Op ab b rest (fq aj d v') (fr σ d v') H' (mv::wr) Q):Op ab b (⟨d,.mkSlice es z bytes x y,g⟩::rest) aj σ H wr Q:=by
 intro aH ax low h1 h2 aq bf;unfold Gs at hs;split at hs
 ·rename_i hc
  cases hs;by_cases h0:n=0
  ·subst h0
   refine gM (o:=⟨d,.mkSlice es z bytes x y,g⟩) (mv:=false) (v:=.emp) (H1:=H) hw (fun bN=>⟨bN,H.length,bN,?_,r5 H⟩) (bE H .emp [] false ?_ (hO.ins 0)) aH ax low h1 h2 aq bf
   ·rw[Mq];simp[step,hx,hy]
   ·exact .emp
  ·refine gM (o:=⟨d,.mkSlice es z bytes x y,g⟩) (mv:=true) (v:=.aN H.length es 0 n.toNat n.toNat) (H1:=H++[.row es (List.replicate n.toNat (f e)) false]) hw
    (fun bN=>⟨by simp;omega,H.length,bN,?_,by simp[ec]⟩) (bE _ _ [(H.length,.row es (List.replicate n.toNat (f e)) false)] true ?_ (hO.grow _)) aH ax low h1 h2 aq bf
   ·rw[Mq];simp only[step,hx,hy,aP]
    rw[if_pos ⟨trivial,hc.1,hc.2⟩,if_neg h0]
   ·rw[if_neg h0]
    have:dz b es (.aN H.length es 0 (List.replicate n.toNat (f e)).length (List.replicate n.toNat (f e)).length) (.mk (List.replicate n.toNat (f e))) [(H.length,.row es (List.replicate n.toNat (f e)) false)]:=.row _ _ (by simp;omega) bf;simpa[dS,al.map]using this
 ·cases hs
theorem dz.at{α:Type}{es:Nat}{f:α->V}{s:al α}{v:V}{m:List (Nat × bd)}{l N:Nat}(hr:dS b es f v s m)(ad:v=.aN l es 0 N N):m=[(l,.row es (s.l.map f) false)]/\N=(s.l.map f).length/\b<=l/\s.map f=.mk (s.l.map f):=by
 have cE:dz b es v (s.map f) m:=hr;generalize kY:s.map f=e7 at cE;clear hr;cases cE with
 |nil=>cases ad
 |emp=>cases ad
 |row l ds h hb=>
  have:s.l.map f=ds:=by cases s<;>simp_all [al.map,al.l]
  cases ad;exact⟨by rw[this],by rw[this],hb,by rw[this]⟩
theorem acT{α:Type}{es l N off:Nat}{f:α->V}{s:al α}{n:Int}{e:α}{v u:V}{m:List (Nat × bd)}{ms:bV}{sh:Option Nat}{x:ah}(k:Nat)(he:dx s.l n=some e)(hO:Own H ms)(hk:ms[k]? =some m)(hr:dS b es f v s m)(ad:v=.aN l es 0 N N)(hu:kF (aL (f e)) off sh=some u)(hx:ag x=.fm l es n.toNat off N):
  bK call ag H H.length (.load sh x)=some (u,H,H.length):=by
 obtain⟨rfl,rfl,-,-⟩:=hr.at ad;rw[Be,hx];unfold dx at he;split at he
 ·simp[na,hO.get k hk,he,hu]
 ·cases he
theorem acU{α:Type}{es l N off b5:Nat}{f:α->V}{s:al α}{n:Int}{e e':α}{v:V}{m:List (Nat × bd)}{vs:List V}{d:Option (Nat × Bool)}{g:Option (ah × Bool)}{x y:ah}{Q:bt->Heap->List Bool->Prop}{ms:bV}(hw:eF aj σ g=some true)(k:Nat)
  (he:dx s.l n=some e) (hO:Own H ms) (hk:ms[k]? =some m) (hr:dS b es f v s m) (ad:v=.aN l es 0 N N) (hx:ba aj σ x=.fm l es n.toNat off N) (hy:aL (ba aj σ y)=vs) (hn:vs.length=b5) (hp:kG vs=true) (ja:rj (f e) off vs=some (f e'))
  (bE:∀H' m',dS b es f v (mf s n e') m'->Own H' (ms.set k m')->Op ab b rest (fq aj d .undef) (fr σ d .undef) H' (true::wr) Q):Op ab b (⟨d,.store b5 x y,g⟩::rest) aj σ H wr Q:=by
 obtain⟨rfl,rfl,hb,dX⟩:=hr.at ad;have aT:=hO.get k hk;have aY:=oI aT;unfold dx at he;split at he
 ·rename_i j8
  have hi:n.toNat<s.l.length:=(fu.1 he).1;have kT:(s.l.map f).set n.toNat (f e')=(mf s n e').l.map f:=by simp[mf,al.l,List.map_set]
  have bb:(mf s n e').l.map f≠[]:=by
   have hlen:((mf s n e').l.map f).length=s.l.length:=by simp[mf,al.l]
   intro h0;rw[h0]at hlen;simp at hlen;omega
  refine gM (o:=⟨d,.store b5 x y,g⟩) (mv:=true) (H1:=H.set l (.row es ((mf s n e').l.map f) false)) hw (fun bN=>⟨by simpa using bN,l,hb,?_,by simp[ec,aY]⟩) (bE _ _ ?_ (hO.put k hk))
  ·simp only[F6,hx,p6,aT,hy]
   rw[if_pos ⟨trivial,trivial,hn,hp⟩];simp[he,ja,kT,o3 (sM aY)]
  ·have:=dz.row (b:=b) (es:=es) l ((mf s n e').l.map f) bb hb
   rw[ad];have hl:((mf s n e').l.map f).length=(s.l.map f).length:=by simp[mf,al.l]
   rw[hl]at this;exact this
 ·cases he
theorem Gw:∀{vs:List V} {H:Heap} {low:Nat},eL H low vs=il (ea 16) H low vs
 |[],_,_=>rfl
 |v::vs,H,low=>by
  simp only[eL,il,hR];cases ea 16 H low v with
  |none=>rfl
  |some r=>simp only[Gw]
theorem Rh{d:Option (Nat × Bool)}{g:Option (ah × Bool)}{f:ah}{aC:List ah}{fv v:V}{vs vs':List V}{Q:bt->Heap->List Bool->Prop}{ms fb:bV}(hw:eF aj σ g=some true)(hO:Own H ms)(aP:lA b 16 ms vs vs' fb)
  (hc:∀H',cp ab fv vs' H'=some (v,H',H'.length)) (hB:flat v=true) (ha:aC.map (ba aj σ)=vs) (af:ba aj σ f=fv)
  (bE:Op ab b rest (fq aj d v) (fr σ d v) H (false::wr) Q):Op ab b (⟨d,.call false f aC,g⟩::rest) aj σ H wr Q:=by
 intro aH ax low h1 h2 aq bf;obtain⟨H1,bm,ae,jS,b1⟩:=aP H H.length hO bf;refine BC (v:=v) hw ?_ bE aH ax low h1 h2 aq bf;subst ha;subst af;rw[Bh,Gw,ae];simp[hc,hB]
theorem acV{d:Option (Nat × Bool)}{g:Option (ah × Bool)}{f:ah}{aC:List ah}{fv v:V}{vs vs':List V}{Q:bt->Heap->List Bool->Prop}{ms fb:bV}(hw:eF aj σ g=some true)(hO:Own H ms)(aP:lA b 16 ms vs vs' fb)(hlen:∀H low r,il (ea 16) H low vs=some r->r.2.1.length=H.length)
  (hc:∀H',cp ab fv vs' H'=some (v,H',H'.length)) (hB:flat v=false) (ha:aC.map (ba aj σ)=vs) (af:ba aj σ f=fv)
  (bE:∀H' mv,Own H' fb->Op ab b rest (fq aj d v) (fr σ d v) H' (mv::wr) Q):Op ab b (⟨d,.call false f aC,g⟩::rest) aj σ H wr Q:=by
 intro aH ax low h1 h2 aq bf;obtain⟨H1,bm,ae,jS,b1⟩:=aP H H.length hO bf;have hl:=hlen _ _ _ ae;refine gM (o:=⟨d,.call false f aC,g⟩) (v:=v) (H1:=H1) (mv:=ec H H1 (min bm H1.length)) hw (fun hb=>⟨by simp only at hl;omega,min bm H1.length,by simp only at hl;omega,?_,rfl⟩) (bE H1 _ jS) aH ax low h1 h2 aq bf;subst ha;subst af;simp only[];rw[Bh,Gw,ae];simp[hc,hB]
end
end Go.Abs
namespace Go.Abs
open Go
@[simp] theorem aiY (l : List V) : aL (.agg l) = l := rfl
@[simp] theorem aiZ : aL .ak = [.ak] := rfl
@[simp] theorem ai0 : aL .emp = [.emp] := rfl
@[simp] theorem ai1 (e : Nat) (l : List V) : aL (.list e l) = [.list e l] := rfl
@[simp] theorem ai2 (e l : Nat) : aL (.ptr e l) = [.ptr e l] := rfl
@[simp] theorem ai3 (e : Nat) : aL (.map e) = [.map e] := rfl
@[simp] theorem ai4 : aL .gy = [.gy] := rfl
abbrev At (σ:bt)(bc:List Nat)(vs:List V):Prop:=bc.map σ=vs
def BJ:bt->List Nat->List V->bt
 |σ,t::bc,v::vs=>BJ (up σ t v) bc vs
 |σ,_,_=>σ
theorem Ri:∀{bc:List Nat} {vs:List V} {σ:bt},At σ bc vs->BJ σ bc vs=σ
 |[],[],_,_=>rfl
 |[],_::_,_,h=>by cases h
 | _::_,[],_,h=>by cases h
 |t::bc,v::vs,σ,h=>by
  simp only[At,cW,Dd]at h;simp only[BJ,acd h.1];exact Ri h.2
section
variable{ab:Nat->Option bQ}{b:Nat}{aj σ:bt}{H:Heap}{wr:List Bool}{rest:List bl}{call:cj}{ag:ah->V}{d:Option (Nat × Bool)}{op:b8}{t:ah}{β w:Bool}
theorem dh{c:bP}{Q:X->bt->Heap->Prop}{bc:List Nat}{vs:List V}(h:At σ bc vs)(k:e6 ab b c (BJ σ bc vs) H Q):e6 ab b c σ H Q:=by rw[Ri h]at k;exact k
variable{Q:bt->Heap->List Bool->Prop}
theorem pE (c:β=false)(k:Op ab b rest (fq aj d (.aR [])) (fr σ d (.aR [])) H (false::wr) Q)(ht:ba aj σ t=.bool β:=by exact rfl):Op ab b (⟨d,op,some (t,true)⟩::rest) aj σ H wr Q:=Gn (BA ht c) k
theorem qP (c:β=true)(k:Op ab b rest (fq aj d (.aR [])) (fr σ d (.aR [])) H (false::wr) Q)(ht:ba aj σ t=.bool β:=by exact rfl):Op ab b (⟨d,op,some (t,false)⟩::rest) aj σ H wr Q:=Gn (BB ht c) k
end
theorem yS:∀{vs:List V} {n:Nat} {H:Heap} {low:Nat},cB vs=true->il (ea n) H low vs=some (vs,H,low)
 |[],_,_,_,_=>rfl
 |v::r,n,H,low,h=>by
  simp only[cB,cH]at h;have h1:ea n H low v=some (v,H,low):=by cases n<;>simp[ea,h.1]
  simp only[il,h1,yS h.2]
section
variable{ab:Nat->Option bQ}{b:Nat}{σ:bt}{H:Heap}
theorem jz{S O:Type}{c:bP}{Q:X->bt->Heap->Prop}(f:S->Option (hf S O))(I:S->bt->Heap->Prop)(P:O->X->bt->Heap->Prop){s:S}{o:O}(h:c0 f s=some o)(ch:I s σ H)
 (round:∀s σ H r,I s σ H->f s=some r->e6 ab b c σ H fun x bn H'=>match r with
   | .next ao=>x=.normal/\I ao bn H'
   | .out o=>x≠ .normal/\P o x bn H') (k:∀x bn H',P o x bn H'->Q x bn H'):e6 ab b (.loop c) σ H Q:=acx (P o) (acr f I P round h ch) k
end
end Go.Abs
