/- Texts of this claim, joined and written short by a program. -/
import Derived.Test.YteocalfeoefeoaaGreatDoorP10
import Derived.Test.YteocalfeoefeoaaGreatDoorP08
import Derived.Test.YteocalfeoefeoaaGreatDoorP00
set_option linter.unusedVariables false
set_option linter.unusedSimpArgs false
set_option linter.unusedSectionVars false
namespace Go.Abs
open Go
end Go.Abs
namespace Go.Abs
open Go
variable{C:Ctx}{fid:Nat->Nat}{w w':World}{G G':bX}{H H':Heap}
theorem Dy{aa:Nat->Option bY}{i:Nat}{spec:List V->Option V}(h:aa i=some (.ext spec)){args:List V}(hp:bW args=true){v:V}(ad:spec args=some v)(H:Heap):bZ aa (.fn i [] []) args H=some (v,H,H.length):=by
 rw[mE,h];simp[hp,ad]
end Go.Abs
namespace Go.Abs
open Go
variable{C:Ctx}{fid:Nat->Nat}
end Go.Abs
namespace Go.Abs
open Go
abbrev bV:=Nat->V
def up (σ:bV)(t:Nat)(v:V):bV:=fun k=>match Nat.beq k t with
 |true=>v
 |false=>σ k
def mL:bV:=fun _=>.undef
theorem ve (σ:bV)(t:Nat)(v:V):up σ t v t=v:=by simp[up,zX]
theorem iU (σ:bV){t k:Nat}(v:V)(h:k≠t):up σ t v k=σ k:=by
 unfold up;cases hb:Nat.beq k t with
 |true=>exact absurd (e8 hb) h
 |false=>rfl
theorem ahj{σ:bV}{t:Nat}{v:V}(h:σ t=v):up σ t v=σ:=by
 funext k;by_cases e:k=t
 ·subst e;rw[ve,h]
 ·rw[iU _ _ e]
def bN (aw σ:bV):ag->V
 | .tmp t=>aw t
 | .var t=>σ t
 | .const v=>v
 | .func i=>.fn i [] []
def Fits (e:Env)(σ:bV):Prop:=∀t,bk e t=σ t
theorem sb:Fits [] mL:=fun _=>rfl
theorem vf{aG av:Env}{aw σ:bV}(ht:Fits aG aw)(hs:Fits av σ):ag.ae aG av=bN aw σ:=by
 funext x;cases x with
 |tmp t=>exact ht t
 |var t=>exact hs t
 |const v=>rfl
 |func i=>rfl
theorem VO{av:Env}{σ:bV}(h:Fits av σ)(t:Nat)(v:V):Fits (ec av t v) (up σ t v):=fun k=>by
 rw[fB];by_cases e:k=t
 ·rw[if_pos e,e,ve]
 ·rw[if_neg e,iU _ _ e];exact h k
theorem VP{aG:Env}{aw:bV}(h:Fits aG aw)(t:Nat)(v:V):Fits ((t,v)::aG) (up aw t v):=fun k=>by
 by_cases e:k=t
 ·subst e;simp[bk,ve]
 ·rw[iU _ _ e];simp[bk,kp e];exact h k
section
variable (aa:Nat->Option bY)(b:Nat)
def eS (c:cj)(σ:bV)(H:Heap)(Q:X->bV->Heap->Prop):Prop:=
 ∀av low,Fits av σ->b<=low->b<=H.length->∃x dD H' low' aN,dx aa c ⟨[],av,H,low,none⟩=some (x,⟨[],dD,H',low',none⟩)/\Fits dD aN/\b<=low'/\b<=H'.length/\Q x aN H'
def Op (ops:List bO)(aw σ:bV)(H:Heap)(wr:List Bool)(Q:bV->Heap->List Bool->Prop):Prop:=
 ∀aG av low,Fits aG aw->Fits av σ->b<=low->b<=H.length->∃mM dD H' low' e6 aN,cQ (bZ aa) ops ⟨aG,av,H,low,none⟩ wr=some (⟨mM,dD,H',low',none⟩,e6)/\Fits dD aN/\b<=low'/\b<=H'.length/\Q aN H' e6
end
section
variable{aa:Nat->Option bY}{b:Nat}{aw σ:bV}{H:Heap}{Q:X->bV->Heap->Prop}
theorem eS.mono{c:cj}{VQ:X->bV->Heap->Prop}(h:eS aa b c σ H Q)(k:∀x aN H',Q x aN H'->VQ x aN H'):eS aa b c σ H VQ:=fun av low h1 h2 ar=>by
 obtain⟨x,dD,H',low',aN,af,e2,bT,cF,ej⟩:=h av low h1 h2 ar;exact⟨x,dD,H',low',aN,af,e2,bT,cF,k _ _ _ ej⟩
theorem qV (h:Q .normal σ H):eS aa b .skip σ H Q:=fun av low h1 h2 ar=>⟨_,_,_,_,σ,jC _,h1,h2,ar,h⟩
theorem ti (h:Q .ret σ H):eS aa b .ret σ H Q:=fun av low h1 h2 ar=>⟨_,_,_,_,σ,jD _,h1,h2,ar,h⟩
theorem Dz{i:Nat}(h:Q (.exit i) σ H):eS aa b (.exit i) σ H Q:=fun av low h1 h2 ar=>⟨_,_,_,_,σ,lf _ _,h1,h2,ar,h⟩
def andThen (aa:Nat->Option bY)(b:Nat)(c:cj)(Q:X->bV->Heap->Prop):X->bV->Heap->Prop
 | .normal,σ,H=>eS aa b c σ H Q
 |x,σ,H=>Q x σ H
theorem kc{a c:cj}(h:eS aa b a σ H (andThen aa b c Q)):eS aa b (.seq a c) σ H Q:=fun av low h1 h2 ar=>by
 obtain⟨x,dD,H',low',aN,af,e2,bT,cF,ej⟩:=h av low h1 h2 ar;rw[gn,af];cases x with
 |normal=>exact ej dD low' e2 bT cF
 |exit i=>exact⟨_,_,_,_,aN,rfl,e2,bT,cF,ej⟩
 |ret=>exact⟨_,_,_,_,aN,rfl,e2,bT,cF,ej⟩
theorem qW{x:ag}{t e:cj}{β:Bool}(hx:bN mL σ x=.bool β)(oi:β=true)(h:eS aa b t σ H Q):eS aa b (.cond x t e) σ H Q:=fun av low h1 h2 ar=>by
 obtain⟨eI,dD,H',low',aN,af,e2⟩:=h av low h1 h2 ar;refine⟨eI,dD,H',low',aN,?_,e2⟩;rw[iO,vf sb h1,hx,oi];exact af
theorem qX{x:ag}{t e:cj}{β:Bool}(hx:bN mL σ x=.bool β)(oi:β=false)(h:eS aa b e σ H Q):eS aa b (.cond x t e) σ H Q:=fun av low h1 h2 ar=>by
 obtain⟨eI,dD,H',low',aN,af,e2⟩:=h av low h1 h2 ar;refine⟨eI,dD,H',low',aN,?_,e2⟩;rw[iO,vf sb h1,hx,oi];exact af
def AZ (id:Nat):X->X
 | .exit j=>match Nat.beq j id with
   |true=>.normal
   |false=>.exit j
 |x=>x
theorem yF{id:Nat}{c:cj}(h:eS aa b c σ H (fun x=>Q (AZ id x))):eS aa b (.block id c) σ H Q:=fun av low h1 h2 ar=>by
 obtain⟨x,dD,H',low',aN,af,e2,bT,cF,ej⟩:=h av low h1 h2 ar;refine⟨AZ id x,dD,H',low',aN,?_,e2,bT,cF,ej⟩;rw[jY,af];cases x with
 |normal=>rfl
 |exit j=>
  simp only[AZ];cases hb:Nat.beq j id with
  |true=>rw[if_pos (e8 hb)]
  |false=>rw[if_neg (fun e=>by rw[e,zX]at hb;cases hb)]
 |ret=>rfl
theorem o6{ops:List bO}(h:Op aa b ops mL σ H [] (fun aN H' _=>Q .normal aN H')):eS aa b (.region ops none) σ H Q:=fun av low h1 h2 ar=>by
 obtain⟨mM,dD,H',low',e6,aN,af,e2,bT,cF,ej⟩:=h [] av low sb h1 h2 ar;exact⟨.normal,dD,H',low',aN,by rw[h6];simp only[af,aq.fp],e2,bT,cF,ej⟩
theorem MN{ops:List bO}{dE:List Nat}(h:Op aa b ops mL σ H [] (fun aN H' wr=>nX dE ops wr=true/\Q .normal aN H')):eS aa b (.region ops (some dE)) σ H Q:=fun av low h1 h2 ar=>by
 obtain⟨mM,dD,H',low',e6,aN,af,e2,bT,cF,ej,j2⟩:=h [] av low sb h1 h2 ar;exact⟨.normal,dD,H',low',aN,by rw[h6];simp only[af,ej,Ir,if_true,aq.fp],e2,bT,cF,j2⟩
end
section
variable{aa:Nat->Option bY}{b:Nat}{aw σ:bV}{H:Heap}{wr:List Bool}{Q:bV->Heap->List Bool->Prop}{rest:List bO}
theorem dV (h:Q σ H wr.reverse):Op aa b [] aw σ H wr Q:=fun aG av low h1 h2 ar aQ=>⟨_,_,_,_,_,σ,rfl,h2,ar,aQ,h⟩
def fV (aw:bV):Option (Nat × Bool)->V->bV
 |some (t,false),v=>up aw t v
 | _,_=>aw
def fW (σ:bV):Option (Nat × Bool)->V->bV
 |some (t,true),v=>up σ t v
 | _,_=>σ
theorem yG{aG av:Env}(ht:Fits aG aw)(hs:Fits av σ)(H:Heap)(low:Nat)(d:Option (Nat × Bool))(v:V):
  ∃mM dD,aq.put ⟨aG,av,H,low,none⟩ d v=⟨mM,dD,H,low,none⟩/\Fits mM (fV aw d v)/\Fits dD (fW σ d v):=by
 match d with
 |none=>exact⟨_,_,rfl,ht,hs⟩
 |some (t,true)=>exact⟨_,_,rfl,ht,VO hs t v⟩
 |some (t,false)=>exact⟨_,_,rfl,VP ht t v,hs⟩
def gJ (aw σ:bV):Option (ag × Bool)->Option Bool
 |none=>some true
 |some (t,w)=>match bN aw σ t with
  | .bool c=>some (c==w)
  | .aU []=>some false
  | _=>none
theorem DA{aG av:Env}(ht:Fits aG aw)(hs:Fits av σ):∀g:Option (ag × Bool),e3 aG av g=gJ aw σ g
 |none=>rfl
 |some (t,w)=>by unfold e3 gJ;rw[vf ht hs];rfl
theorem hJ{t:ag}{β w:Bool}(h:bN aw σ t=.bool β)(oi:β=w):gJ aw σ (some (t,w))=some true:=by
 subst oi;simp[gJ,h]
theorem Ht{t:ag}{β:Bool}(h:bN aw σ t=.bool β)(oi:β=false):gJ aw σ (some (t,true))=some false:=by
 subst oi;simp[gJ,h]
theorem Hu{t:ag}{β:Bool}(h:bN aw σ t=.bool β)(oi:β=true):gJ aw σ (some (t,false))=some false:=by
 subst oi;simp[gJ,h]
theorem VR{t:ag}{w:Bool}(h:bN aw σ t=.aU []):gJ aw σ (some (t,w))=some false:=by
 simp[gJ,h]
theorem nI{o:bO}{v:V}{H1:Heap}{mv:Bool}(hw:gJ aw σ o.guard=some true)
  (h:b<=H.length->b<=H1.length/\∃bI,b<=bI/\b2 (bZ aa) (bN aw σ) H H.length o.op=some (v,H1,bI)/\eG H H1 bI=mv)
  (k:Op aa b rest (fV aw o.dst v) (fW σ o.dst v) H1 (mv::wr) Q):Op aa b (o::rest) aw σ H wr Q:=fun aG av low h1 h2 ar aQ=>by
 obtain⟨hb,bI,ai,a2,a3⟩:=h aQ;simp only[cQ];rw[DA h1 h2,hw,vf h1 h2];simp only[];rw[a2];simp only[];obtain⟨nJ,lC,af,e2,bT⟩:=yG h1 h2 H1 (min low bI) o.dst v;rw[af,a3];exact k nJ lC _ e2 bT (by omega) hb
theorem MO{o:bO}(hw:gJ aw σ o.guard=some false)(k:Op aa b rest (fV aw o.dst (.aU [])) (fW σ o.dst (.aU [])) H (false::wr) Q):Op aa b (o::rest) aw σ H wr Q:=fun aG av low h1 h2 ar aQ=>by
 simp only[cQ];rw[DA h1 h2,hw];simp only[];obtain⟨nJ,lC,af,e2,bT⟩:=yG h1 h2 H low o.dst (.aU []);rw[af];exact k nJ lC _ e2 bT ar aQ
theorem ha{d:Option (Nat × Bool)}{op:cH}{g:Option (ag × Bool)}{v:V}(hw:gJ aw σ g=some true)(h:b2 (bZ aa) (bN aw σ) H H.length op=some (v,H,H.length))
  (k:Op aa b rest (fV aw d v) (fW σ d v) H (false::wr) Q):Op aa b (⟨d,op,g⟩::rest) aw σ H wr Q:=
 nI (o:=⟨d,op,g⟩) hw (fun hb=>⟨hb,H.length,hb,h,iT H⟩) k
abbrev cN:=List (List (Nat × cc))
def Own (H:Heap)(ms:cN):Prop:=(∀m∈ms,∀p∈m,H[p.1]? =some p.2)/\(ms.map (·.map Prod.fst)).Pairwise (fun x y=>∀a∈x,a∉y)
theorem Own.nil (H:Heap):Own H []:=⟨by simp,by simp⟩
theorem Own.get{ms:cN}(h:Own H ms)(k:Nat){a:Nat}{o:cc}(hk:ms[k]? =some [(a,o)]):H[a]? =some o:=
 h.1 _ (hz hk) (a,o) (by simp)
theorem wT{H:Heap}{a:Nat}{o:cc}(h:H[a]? =some o):a<H.length:=by
 rcases fX a H.length with q|q
 ·exact q
 ·rw[lb q]at h;cases h
theorem Own.lt{ms:cN}(h:Own H ms){m:List (Nat × cc)}(hm:m∈ms){p:Nat × cc}(hp:p∈m):p.1<H.length:=wT (h.1 m hm p hp)
theorem Own.keys{ms:cN}(h:Own H ms){x:List Nat}(hx:x∈ms.map (·.map Prod.fst)){a:Nat}(ao:a∈x):a<H.length:=by
 obtain⟨m,hm,rfl⟩:=ey.1 hx;obtain⟨p,hp,rfl⟩:=ey.1 ao;exact h.lt hm hp
theorem Own.grow{ms:cN}(h:Own H ms)(o:cc):Own (H++[o]) ([(H.length,o)]::ms):=by
 refine⟨fun m hm p hp=> ?_,?_⟩
 ·rcases dA.1 hm with rfl|hm
  ·simp at hp;subst hp;simp
  ·rw[gE (h.lt hm hp)];exact h.1 m hm p hp
 ·rw[eo,FK]
  refine⟨fun y hy a ao ahk=> ?_,h.2⟩;have:=h.keys hy ahk;simp at ao;omega
theorem Own.Hv{ms:cN}(h:Own H ms){i j:Nat}{m m':List (Nat × cc)}(hi:ms[i]? =some m)(hj:ms[j]? =some m')(cK:i≠j){p q:Nat × cc}(hp:p∈m)(bc:q∈m'):p.1≠q.1:=by
 have key:∀{i j:Nat} {m m':List (Nat × cc)},ms[i]? =some m->ms[j]? =some m'->i<j->∀{p q:Nat × cc},p∈m->q∈m'->p.1≠q.1:=by
  intro i j m m' hi hj cK p q hp bc e;obtain⟨s3,hi⟩:=pY.1 hi;obtain⟨ahl,hj⟩:=pY.1 hj;have:=QD.1 h.2 i j (by simpa using s3) (by simpa using ahl) cK;simp only[FP]at this;refine this p.1 (by rw[hi];exact sL hp) ?_;rw[hj,e];exact sL bc
 rcases Nat.lt_or_gt_of_ne cK with q1|q1
 ·exact key hi hj q1 hp bc
 ·exact fun e=>key hj hi q1 bc hp e.symm
theorem ahm{ms:cN}{k:Nat}{m m':List (Nat × cc)}(hk:ms[k]? =some m)(hm:m'.map Prod.fst=m.map Prod.fst):(ms.set k m').map (·.map Prod.fst)=ms.map (·.map Prod.fst):=by
 rw[List.map_set,hm];apply wg;intro i;by_cases e:k=i
 ·subst e
  have:=(pY.1 hk).1;rw[nU (by simpa using this),jy,hk];rfl
 ·rw[gm e]
theorem Own.put{ms:cN}(h:Own H ms)(k:Nat){a:Nat}{o o':cc}(hk:ms[k]? =some [(a,o)]):Own (H.set a o') (ms.set k [(a,o')]):=by
 refine⟨fun m hm p hp=> ?_,by rw[ahm (m':=[(a,o')]) hk rfl];exact h.2⟩;obtain⟨i,hi⟩:=ns.1 hm;by_cases e:k=i
 ·subst e
  rw[nU (pY.1 hk).1]at hi;cases hi;simp at hp;subst hp;rw[nU (wT (h.get k hk))]
 ·rw[gm e]at hi
  have:=h.Hv hk hi e (p:=(a,o)) (by simp) hp;rw[gm this];exact h.1 m (hz hi) p hp
theorem Own.fill{ms:cN}(h:Own H ms)(k:Nat){o:cc}(hk:ms[k]? =some []):Own (H++[o]) (ms.set k [(H.length,o)]):=by
 refine⟨fun m hm p hp=> ?_,?_⟩
 ·obtain⟨i,hi⟩:=ns.1 hm
  by_cases e:k=i
  ·subst e
   rw[nU (pY.1 hk).1]at hi;cases hi;simp at hp;subst hp;simp
  ·rw[gm e]at hi
   have mY:=hz hi;rw[gE (h.lt mY hp)];exact h.1 m mY p hp
 ·have:=h.2
  rw[QD]at this⊢;intro i j hi hj cK a ao gv;simp only[oG,zT]at hi hj;simp only[FP,List.getElem_set]at ao gv;have hb:∀{i:Nat} (hi:i<ms.length) {a:Nat},a∈(ms[i]).map Prod.fst->a<H.length:=fun hi a ao=>h.keys (sL (Kp hi)) ao;by_cases af:k=i
  ·have e2:k≠j:=by omega
   rw[if_pos af]at ao;rw[if_neg e2]at gv;have:=hb hj gv;simp at ao;omega
  ·by_cases e2:k=j
   ·rw[if_neg af]at ao;rw[if_pos e2]at gv
    have:=hb hi ao;simp at gv;omega
   ·rw[if_neg af]at ao;rw[if_neg e2]at gv
    exact this i j (by simpa using hi) (by simpa using hj) cK a (by simpa using ao) (by simpa using gv)
theorem Own.drop{ms:cN}(h:Own H ms)(k:Nat):Own H (ms.eraseIdx k):=by
 have hs:=List.eraseIdx_sublist ms k;exact⟨fun m hm=>h.1 m (hs.subset hm),h.2.sublist (hs.map _)⟩
theorem MP{α:Type}{x a:α}:∀{l:List α} {k:Nat},x∈l.insertIdx k a->x=a\/x∈l
 |l,0,h=>by simpa using h
 |[],k+1,h=>by simp at h
 |b::l,k+1,h=>by
  rw[List.insertIdx_succ_cons]at h;rcases dA.1 h with rfl|h
  ·exact .inr (by simp)
  ·rcases MP h with rfl|h
   ·exact .inl rfl
   ·exact .inr (kQ _ h)
theorem Own.ins{ms:cN}(h:Own H ms)(k:Nat):Own H (ms.insertIdx k []):=by
 refine⟨fun m hm p hp=> ?_,?_⟩
 ·rcases MP hm with rfl|hm
  ·cases hp
  ·exact h.1 m hm p hp
 ·have:∀(ms:List (List Nat)) (k:Nat),ms.Pairwise (fun x y=>∀a∈x,a∉y)->(ms.insertIdx k []).Pairwise (fun x y=>∀a∈x,a∉y):=by
   intro ms
   induction ms with
   |nil=>intro k _;cases k<;>simp
   |cons m ms ih=>
    intro k hp;cases k with
    |zero=>simp only[List.insertIdx_zero,FK];exact⟨by simp,FK.1 hp⟩
    |succ k=>
     rw[List.insertIdx_succ_cons,FK];obtain⟨h1,h2⟩:=FK.1 hp;refine⟨fun y hy=> ?_,ih k h2⟩;rcases MP hy with rfl|hy
     ·simp
     ·exact h1 y hy
  have h2:=this _ k h.2
  have e:(ms.insertIdx k []).map (·.map Prod.fst)=(ms.map (·.map Prod.fst)).insertIdx k []:=by
   clear h2 this h
   induction ms generalizing k with
   |nil=>cases k<;>simp
   |cons m ms ih=>cases k<;>simp[*]
  rw[e];exact h2
theorem Own.VS{ms:cN}(h:Own H ms)(ks:List Nat)(hk:ks.Nodup):Own H (ks.map fun k=>ms.getD k []):=by
 refine⟨fun m hm p hp=> ?_,?_⟩
 ·obtain⟨k,-,rfl⟩:=ey.1 hm
  simp only[tY]at hp;cases hx:ms[k]? with
  |none=>rw[hx]at hp;cases hp
  |some m=>rw[hx]at hp;exact h.1 m (hz hx) p hp
 ·rw[rB,List.pairwise_map]
  refine List.Pairwise.imp ?_ hk;intro i j cK a ao gv;simp only[Function.comp,tY]at ao gv;cases hi:ms[i]? with
  |none=>rw[hi]at ao;cases ao
  |some m=>cases hj:ms[j]? with
   |none=>rw[hj]at gv;cases gv
   |some m'=>
    rw[hi]at ao;rw[hj]at gv;obtain⟨p,hp,rfl⟩:=ey.1 ao;obtain⟨q,bc,e⟩:=ey.1 gv;exact h.Hv hi hj cK hp bc e.symm
end
end Go.Abs
namespace Go.Abs
open Go
inductive ak (α:Type) where
 |nil
 |emp
 |mk (l:List α)
 deriving Inhabited
def ak.l{α:Type}:ak α->List α
 | .mk l=>l
 | _=>[]
def ak.len{α:Type}(x:ak α):Int:=(x.l.length:Int)
def bg{α:Type}(es:Nat)(f:α->V):ak α->V
 | .nil=>.cp
 | .emp=>.emp
 | .mk l=>.list es (l.map f)
abbrev bJ (n:Int):Int:=IntKind.i64.wrap n
abbrev aD (n:Int):V:=.int .i64 n
def bQ{α:Type}(l:List α)(i:Int):Option α:=if 0<=i then l[i.toNat]? else none
inductive dM (S O:Type) where
 |next (s:S)
 |out (o:O)
inductive cP (S R:Type) where
 |go (s:S)
 |ret (r:R)
def qY{S O:Type}(f:S->Option (dM S O)):Nat->S->Option O
 |0,_=>none
 |n+1,s=>match f s with
  |some (.next al)=>qY f n al
  |some (.out o)=>some o
  |none=>none
theorem MQ{S O:Type}{f:S->Option (dM S O)}:∀{n m:Nat} {s:S} {o:O},n<=m->qY f n s=some o->qY f m s=some o
 |0,_,_,_,_,h=>by cases h
 |n+1,0,_,_,hm,h=>by omega
 |n+1,m+1,s,o,hm,h=>by
  simp only[qY]at h⊢;split at h
  ·exact MQ (by omega) h
  ·exact h
  ·cases h
open Classical in
noncomputable def c0{S O:Type}(f:S->Option (dM S O))(s:S):Option O:=
 if h:∃n o,qY f n s=some o then some h.choose_spec.choose else none
theorem yH{S O:Type}{f:S->Option (dM S O)}{s:S}{o:O}:c0 f s=some o↔∃n,qY f n s=some o:=by
 unfold c0;constructor
 ·intro h
  split at h
  ·rename_i hx
   cases h;exact⟨_,hx.choose_spec.choose_spec⟩
  ·cases h
 ·rintro⟨n,hn⟩
  have hx:∃n o,qY f n s=some o:=⟨n,o,hn⟩;rw[dif_pos hx];have h1:=MQ (sQ n hx.choose) hn;have h2:=MQ (rv n hx.choose) hx.choose_spec.choose_spec;rw[h1]at h2;exact h2.symm
theorem k4{S O:Type}(f:S->Option (dM S O))(s:S):c0 f s=match f s with
  |some (.next al)=>c0 f al
  |some (.out o)=>some o
  |none=>none:=by
 cases ab:f s with
 |none=>
  simp only[];cases h:c0 f s with
  |none=>rfl
  |some o=>
   obtain⟨n,hn⟩:=yH.1 h;cases n with
   |zero=>cases hn
   |succ n=>simp[qY,ab]at hn
 |some r=>cases r with
  |out o=>exact yH.2 ⟨1,by simp[qY,ab]⟩
  |next al=>
   simp only[];cases h:c0 f al with
   |some o=>
    obtain⟨n,hn⟩:=yH.1 h;exact yH.2 ⟨n+1,by simp[qY,ab,hn]⟩
   |none=>
    cases h':c0 f s with
    |none=>rfl
    |some o=>
     obtain⟨n,hn⟩:=yH.1 h';cases n with
     |zero=>cases hn
     |succ n=>
      simp only[qY,ab]at hn;rw[yH.2 ⟨n,hn⟩]at h;cases h
section
variable{aa:Nat->Option bY}{b:Nat}{aw σ:bV}{H:Heap}
theorem ahn{S O:Type}{c:cj}(f:S->Option (dM S O))(I:S->bV->Heap->Prop)(P:O->X->bV->Heap->Prop)
  (round:∀s σ H r,I s σ H->f s=some r->eS aa b c σ H fun x aN H'=>match r with
    | .next al=>x=.normal/\I al aN H'
    | .out o=>x≠ .normal/\P o x aN H') {s:S} {o:O} (h:c0 f s=some o) (aW:I s σ H):eS aa b (.loop c) σ H (P o):=by
 obtain⟨n,hn⟩:=yH.1 h;clear h
 induction n generalizing s σ H with
 |zero=>cases hn
 |succ n ih=>
  intro av low h1 h2 ar;simp only[qY]at hn;cases ab:f s with
  |none=>rw[ab]at hn;cases hn
  |some r=>
   rw[ab]at hn;obtain⟨x,dD,H',low',aN,af,e2,bT,cF,ej⟩:=round s σ H r aW ab av low h1 h2 ar;rw[py,af];cases r with
   |next al=>
    obtain⟨rfl,yt⟩:=ej;exact ih yt hn dD low' e2 bT cF
   |out o'=>
    cases hn;obtain⟨hx,gr⟩:=ej;refine⟨x,dD,H',low',aN,?_,e2,bT,cF,gr⟩;cases x<;>first|rfl|exact absurd rfl hx
theorem bind_some{α β:Type}{a:Option α}{f:α->Option β}{r:β}(h:a.bind f=some r):∃x,a=some x/\f x=some r:=dZ.1 h
theorem lD{α:Type}{c:Bool}{p q:Option α}{r:α}(h:(bif c then p else q)=some r):(c=true/\p=some r)\/(c=false/\q=some r):=by
 cases c
 ·exact .inr ⟨rfl,h⟩
 ·exact .inl ⟨rfl,h⟩
variable{α:Type}{es:Nat}{f:α->V}{ae:ag->V}
theorem qZ{call:cU}{x:ag}{s:ak α}(h:ae x=bg es f s)(low:Nat):b2 call ae H low (.len 1 x)=some (aD s.len,H,low):=by
 show step ae H low (.len 1 x)=_;cases s<;>simp[step,h,bg,ak.len,ak.l]
theorem sc{call:cU}{x i:ag}{s:ak α}{n:Int}{a:α}{k:IntKind}(h:ae x=bg es f s)(hi:ae i=.int k n)(hx:bQ s.l n=some a)(low:Nat):b2 call ae H low (.indexAddr es x i)=some (.dn (aE (f a)) 0,H,low):=by
 show step ae H low (.indexAddr es x i)=_;unfold bQ at hx;split at hx
 ·rename_i hn
  cases s<;>simp_all [step,bg,ak.l,kr]
 ·cases hx
end
end Go.Abs
namespace Go.Abs
open Go
abbrev bH:=List UInt8
theorem lE{b:Bool}(h:b=true):(!b)=false:=by rw[h];rfl
theorem lF{b:Bool}(h:b=false):(!b)=true:=by rw[h];rfl
@[simp] theorem o7 {α : Type} (es : Nat) (f : α -> V) (s : ak α) : bs (bg es f s) = true := by cases s <;> rfl
@[simp] theorem ata (k : IntKind) (n : Int) : bs (.int k n) = true := rfl
@[simp] theorem atb (b : Bool) : bs (.bool b) = true := rfl
@[simp] theorem atc (b : List UInt8) : bs (.str b) = true := rfl
@[simp] theorem MR (k : IntKind) (n : Int) : aE (.int k n) = [.int k n] := rfl
@[simp] theorem atd (b : Bool) : aE (.bool b) = [.bool b] := rfl
@[simp] theorem ate (b : List UInt8) : aE (.str b) = [.str b] := rfl
@[simp] theorem aho {α : Type} (es : Nat) (f : α -> V) (s : ak α) : ed (bg es f s) = true := by cases s <;> rfl
@[simp] theorem atf (k : IntKind) (n : Int) : ed (.int k n) = true := rfl
@[simp] theorem atg (b : Bool) : ed (.bool b) = true := rfl
@[simp] theorem ath (b : List UInt8) : ed (.str b) = true := rfl
@[simp] theorem ati : ed .cp = true := rfl
@[simp] theorem atj : ed .emp = true := rfl
@[simp] theorem atk : ed .jb = true := rfl
@[simp] theorem atl : ed .ig = true := rfl
@[simp] theorem atm : ed .jV = true := rfl
@[simp] theorem atn : ed .iw = true := rfl
@[simp] theorem ato (a o : Nat) : ed (.ptr a o) = true := rfl
@[simp] theorem atp (a : Nat) : ed (.map a) = true := rfl
@[simp] theorem atq (a : Nat) (x y : List V) : ed (.fn a x y) = true := rfl
@[simp] theorem atr (a : Nat) (x : List V) : ed (.list a x) = true := rfl
@[simp] theorem VT {α : Type} (es : Nat) (f : α -> V) (s : ak α) : aE (bg es f s) = [bg es f s] := by cases s <;> rfl
def DB (a b:Int):Option Int:=if b=0 then none else some (bJ (a.tdiv b))
def DC (a b:Int):Option Int:=if b=0 then none else some (a.tmod b)
def vg (a b:bH):Option bH:=if a.length+b.length<=2^40 then some (a++b)else none
inductive jr (b es:Nat):V->ak V->List (Nat × cc)->Prop
 |nil:jr b es .cp .nil []
 |emp:jr b es .emp .emp []
 |row (l:Nat) (ds:List V) (h:ds≠[]) (hb:b<=l):jr b es (.cz l es 0 ds.length ds.length) (.mk ds) [(l,.row es ds false)]
def ak.map{α β:Type}(f:α->β):ak α->ak β
 | .nil=>.nil
 | .emp=>.emp
 | .mk l=>.mk (l.map f)
abbrev hf{α:Type}(b es:Nat)(f:α->V)(v:V)(s:ak α)(m:List (Nat × cc)):Prop:=jr b es v (s.map f) m
theorem ahp{α:Type}(es:Nat)(f:α->V)(s:ak α):bg es f s=bg es id (s.map f):=by cases s<;>simp[bg,ak.map]
def lG{α:Type}(bytes:Nat)(s y:ak α):Option (ak α):=
 if y.l=[]then some s else if(s.l.length+y.l.length)*(bytes+1)<=2^40 then some (.mk (s.l++y.l))else none
def o8{α:Type}(s:ak α)(a c:Int):Option (ak α):=match s with
 | .nil=>if a=0/\c=0 then some .nil else none
 | .emp=>if a=0/\c=0 then some .emp else none
 | .mk l=>if 0<=a/\a<=c/\c<=l.length then some (.mk ((l.take c.toNat).drop a.toNat))else none
def q0 (s:bH)(a c:Int):Option bH:=if 0<=a/\a<=c/\c<=s.length then some ((s.take c.toNat).drop a.toNat)else none
def ak.isNil{α:Type}:ak α->Bool
 | .nil=>true
 | _=>false
def iH{K W:Type}[BEq K](m:List (K × W))(k:K):Option W:=(m.find? fun p=>k==p.1).map (·.2)
def mg{K W:Type}[BEq K]:List (K × W)->K->W->List (K × W)
 |[],k,w=>[(k,w)]
 |p::r,k,w=>if k==p.1 then(k,w)::r else p::mg r k w
def yI{α:Type}(bytes:Nat)(z:α)(n:Int):Option (ak α):=if 0<=n/\n*(bytes+1)<=2^40 then some (if n=0 then .emp else .mk (List.replicate n.toNat z))else none
def o9{α:Type}(s:ak α)(i:Int)(e:α):ak α:=.mk (s.l.set i.toNat e)
mutual
theorem MS{n:Nat}:∀{v:V},bs v=true->old n v=true
 | .bool _,_| .int _ _,_| .str _,_| .cp,_| .emp,_| .jb,_| .iw,_| .jV,_| .ig,_| .list _ _,_=>rfl
 | .agg vs,h=>by simp only[bs]at h;simp only[old];exact A0 h
 | .aU vs,h=>by simp only[bs]at h;simp only[old];exact A0 h
 | .fn i a b,h=>by simp only[bs,b8]at h;simp only[old,b8];exact⟨A0 h.1,A0 h.2⟩
 | .iface t v,h=>by simp only[bs]at h;simp only[old];exact MS h
 | .ptr ..,h| .gF ..,h| .dn ..,h| .cz ..,h| .map ..,h| .yield ..,h| .undef,h=>by simp[bs]at h
theorem A0{n:Nat}:∀{vs:List V},bW vs=true->ez n vs=true
 |[],_=>rfl
 |v::vs,h=>by
  simp only[bW,b8]at h;simp only[ez,b8];exact⟨MS h.1,A0 h.2⟩
end
section
variable{aa:Nat->Option bY}{b:Nat}{aw σ:bV}{H:Heap}{wr:List Bool}{rest:List bO}{call:cU}{ae:ag->V}
theorem wU{c:cj}{Q:X->bV->Heap->Prop}(P:X->bV->Heap->Prop)(h:eS aa b c σ H P)(k:∀x aN H',P x aN H'->Q x aN H'):eS aa b c σ H Q:=h.mono k
theorem nK{c a d:ag}{β:Bool}(h:ae c=.bool β)(oi:β=true):b2 call ae H H.length (.pick c a d)=some (ae a,H,H.length):=by rw[kG,h,oi];rfl
theorem vh{c a d:ag}{β:Bool}(h:ae c=.bool β)(oi:β=false):b2 call ae H H.length (.pick c a d)=some (ae d,H,H.length):=by rw[kG,h,oi];rfl
theorem hK{x:ag}{sh:Option Nat}{a o:Nat}{cs:List V}{v:V}(h:ae x=.ptr a o)(bj:H[a]? =some (.cells cs))(hr:fY cs o sh=some v):b2 call ae H H.length (.load sh x)=some (v,H,H.length):=by
 rw[jK,h];simp[gN,bj,hr]
theorem ahq{x i:ag}{s:bH}{k:IntKind}{n:Int}{c:UInt8}(h:ae x=.str s)(hi:ae i=.int k n)(hx:bQ s n=some c)(low:Nat):b2 call ae H low (.qw x i)=some (.int .u8 c.toNat,H,low):=by
 show step ae H low (.qw x i)=_;unfold bQ at hx;split at hx
 ·rename_i hn
  simp_all [step,kr]
 ·cases hx
theorem ahr{z:List V}{parts:List (Nat × Nat × ag)}{cs:List V}(h:uj z (parts.map fun p=>(p.1,p.2.1,ae p.2.2))=some cs):b2 call ae H H.length (.build z parts)=some (.agg cs,H,H.length):=by
 show step ae H H.length (.build z parts)=_;simp only[step,h];rfl
theorem tj:∀{vs:List V} {low:Nat},bW vs=true->dX H low vs=some (vs,H,low)
 |[],_,_=>rfl
 |v::r,low,h=>by
  simp only[bW,b8]at h;simp only[dX,eP,dF,h.1,if_true,tj h.2]
theorem yJ{d:Option (Nat × Bool)}{g:Option (ag × Bool)}{z:List V}{Q:bV->Heap->List Bool->Prop}{ms:cN}(hw:gJ aw σ g=some true)(aA:Own H ms)
  (k:∀H' a,b<=a->Own H' ([(a,.cells z)]::ms)->Op aa b rest (fV aw d (.ptr a 0)) (fW σ d (.ptr a 0)) H' (true::wr) Q):Op aa b (⟨d,.alloc z,g⟩::rest) aw σ H wr Q:=by
 intro aG av low h1 h2 ar aQ;exact nI (o:=⟨d,.alloc z,g⟩) (mv:=true) hw (fun hb=>⟨by simp;omega,H.length,hb,mc z,by simp[eG]⟩) (k _ _ aQ (aA.grow _)) aG av low h1 h2 ar aQ
theorem MT{d:Option (Nat × Bool)}{g:Option (ag × Bool)}{x:ag}{cs:List V}{Q:bV->Heap->List Bool->Prop}{ms:cN}(hw:gJ aw σ g=some true)(aA:Own H ms)(hx:aE (bN aw σ x)=cs)(hc:bS cs=true)
  (k:∀H' a,b<=a->Own H' ([(a,.cells cs)]::ms)->Op aa b rest (fV aw d (.ptr a 0)) (fW σ d (.ptr a 0)) H' (true::wr) Q):Op aa b (⟨d,.box x,g⟩::rest) aw σ H wr Q:=by
 intro aG av low h1 h2 ar aQ;exact nI (o:=⟨d,.box x,g⟩) (mv:=true) hw (fun hb=>⟨by simp;omega,H.length,hb,by simp only[];rw[nH,hx,if_pos hc],by simp[eG]⟩) (k _ _ aQ (aA.grow _)) aG av low h1 h2 ar aQ
theorem VU{d:Option (Nat × Bool)}{g:Option (ag × Bool)}{Q:bV->Heap->List Bool->Prop}{ms:cN}(hw:gJ aw σ g=some true)(aA:Own H ms)
  (k:∀H' a,b<=a->Own H' ([(a,.map [])]::ms)->Op aa b rest (fV aw d (.map a)) (fW σ d (.map a)) H' (true::wr) Q):Op aa b (⟨d,.mkMap,g⟩::rest) aw σ H wr Q:=by
 intro aG av low h1 h2 ar aQ;exact nI (o:=⟨d,.mkMap,g⟩) (mv:=true) hw (fun hb=>⟨by simp;omega,H.length,hb,TX,by simp[eG]⟩) (k _ _ aQ (aA.grow _)) aG av low h1 h2 ar aQ
theorem yK{d:Option (Nat × Bool)}{g:Option (ag × Bool)}{n o a:Nat}{x y:ag}{cs vs cs':List V}{Q:bV->Heap->List Bool->Prop}{ms:cN}(hw:gJ aw σ g=some true)(aA:Own H ms)(k:Nat)
  (hk:ms[k]? =some [(a,.cells cs)]) (hb:b<=a) (hx:bN aw σ x=.ptr a o) (hy:aE (bN aw σ y)=vs) (hn:vs.length=n/\o+n<=cs.length) (hc:bS vs=true) (hs:setCells cs o vs=cs')
  (cA:∀H',Own H' (ms.set k [(a,.cells cs')])->Op aa b rest (fV aw d .undef) (fW σ d .undef) H' (true::wr) Q):Op aa b (⟨d,.store n x y,g⟩::rest) aw σ H wr Q:=by
 have bj:=aA.get k hk;have aX:=wT bj;refine nI (o:=⟨d,.store n x y,g⟩) (mv:=true) (H1:=H.set a (.cells cs')) hw (fun cY=>⟨by simpa using cY,a,hb,?_,by simp[eG,aX]⟩) (cA _ (aA.put k hk));simp only[jL,hx,hD,bj,hy];rw[if_pos ⟨hn.1,by omega,hc⟩];subst hs;simp[xI aX]
theorem wV{f:ag}{aO:List ag}{fv v:V}{vs:List V}(hc:call fv vs H=some (v,H,H.length))(aT:dX H H.length vs=some (vs,H,H.length))(ao:aO.map ae=vs)(ab:ae f=fv):b2 call ae H H.length (.call false f aO)=some (v,H,H.length):=by
 subst ao;subst ab;rw[k3,aT];simp[hc]
theorem ahs{low:Nat}:dX H low []=some ([],H,low):=rfl
theorem VV{low:Nat}{v:V}{vs:List V}(h:bs v=true)(r:dX H low vs=some (vs,H,low)):dX H low (v::vs)=some (v::vs,H,low):=by
 simp only[dX,eP,dF,h,if_true,r]
theorem VW{low:Nat}{v:V}{vs:List V}(h:∀H low,eP H low v=some (v,H,low))(r:dX H low vs=some (vs,H,low)):dX H low (v::vs)=some (v::vs,H,low):=by
 simp only[dX,h,r]
theorem MU{es:Nat}{z:V}:∀(vs pre:List V),(∀v∈vs,(aE v).length=es/\bS (aE v)=true)->oK es (pre++List.replicate vs.length z) ((List.range' pre.length vs.length).zip vs)=some (pre++vs)
 |[],pre,_=>by simp[oK]
 |v::vs,pre,h=>by
  have ad:=h v (by simp);simp only[ev,ub,zQ,oK];rw[if_pos ⟨ad.1,by simp,ad.2⟩]
  have e:(pre++List.replicate (vs.length+1) z).set pre.length v=(pre++[v])++List.replicate vs.length z:=by
   rw[Ca];simp
  rw[e];have:=MU (es:=es) (z:=z) vs (pre++[v]) (fun u hu=>h u (by simp[hu]));simp only[gM,ev,ja,eO]at this;rw[this];simp
theorem VX{es n:Nat}{z vs:List V}{parts:List (Nat × ag)}(ad:(parts.map fun p=>ae p.2)=vs)(hi:parts.map Prod.fst=List.range' 0 vs.length)(hn:vs.length=n)(h0:(n=0)=False)(hp:bW vs=true)(hc:∀v∈vs,(aE v).length=es/\bS (aE v)=true):
  b2 call ae H H.length (.lit es z n parts true)=some (.list es vs,H,H.length):=by
 have aT:(parts.zip vs).map (fun(p,v)=>(p.1,v))=(List.range' 0 vs.length).zip vs:=by
  rw[<-hi];clear hi hp hc hn;subst ad
  induction parts with
  |nil=>rfl
  |cons p ps ih=>simp[ih]
 have ab:=MU (es:=es) (z:=kT z) vs [] hc;simp only[jB,ja]at ab;rw[Dv];simp only[step,ad,tj hp];rw[aT,<-hn,ab];simp only[hp,if_true,hn,h0,if_false]
theorem aht{es:Nat}{z:List V}{x:V}(h:x=V.emp):b2 call ae H H.length (.lit es z 0 [] true)=some (x,H,H.length):=by
 rw[Dv,h];simp[step,dX,oK,bW]
def yL (ae:ag->V)(x:Option ag)(Kt a:Int):Prop:=(x=none/\a=Kt)\/∃o,x=some o/\ae o=aD a
theorem yL.eq{x:Option ag}{d a:Int}(h:yL ae x d a){n:Nat}(hd:d=n)(ao:0<=a):eF ae n x=some a.toNat:=by
 rcases h with⟨rfl,rfl⟩|⟨o,rfl,e⟩
 ·subst hd;rfl
 ·simp[eF,e,kr,ao]
theorem yM{α:Type}{es:Nat}{f:α->V}{s al:ak α}{x:ag}{lo hi:Option ag}{a c:Int}(hs:o8 s a c=some al)(ao:yL ae lo 0 a)(hc:yL ae hi s.len c)(h:ae x=bg es f s):b2 call ae H H.length (.pw es x lo hi none)=some (bg es f al,H,H.length):=by
 rw[TY];cases s with
 |nil=>
  simp only[o8]at hs;split at hs
  ·rename_i q;obtain⟨rfl,rfl⟩:=q;cases hs
   simp only[step,h,bg];rw[ao.eq (n:=0) rfl (NL _),hc.eq (n:=0) rfl (NL _)];rfl
  ·cases hs
 |emp=>
  simp only[o8]at hs;split at hs
  ·rename_i q;obtain⟨rfl,rfl⟩:=q;cases hs
   simp only[step,h,bg];rw[ao.eq (n:=0) rfl (NL _),hc.eq (n:=0) rfl (NL _)];rfl
  ·cases hs
 |mk l=>
  simp only[o8]at hs;split at hs
  ·rename_i q;obtain⟨q1,aS,b1⟩:=q;cases hs
   have af:=ao.eq (n:=0) rfl q1;have e2:=hc.eq (n:=(l.map f).length) (by simp[ak.len,ak.l]) (by omega);simp only[step,h,bg,af,e2];rw[if_pos ⟨by omega,by simp;omega,trivial⟩];simp
  ·cases hs
theorem Hw{s al:bH}{x:ag}{lo hi:Option ag}{a c:Int}(hs:q0 s a c=some al)(ao:yL ae lo 0 a)(hc:yL ae hi (s.length:Int) c)(h:ae x=.str s):b2 call ae H H.length (.oI x lo hi)=some (.str al,H,H.length):=by
 show step ae H H.length (.oI x lo hi)=_;unfold q0 at hs;split at hs
 ·rename_i q;obtain⟨q1,aS,b1⟩:=q;cases hs
  simp only[step,h,ao.eq (n:=0) rfl q1,hc.eq (n:=s.length) rfl (by omega)];rw[if_pos ⟨by omega,by omega⟩]
 ·cases hs
theorem jr.cells{b es:Nat}{v:V}{s:ak V}{m:List (Nat × cc)}(h:jr b es v s m):aE v=[v]:=by cases h<;>rfl
theorem jr.ed{b es:Nat}{v:V}{s:ak V}{m:List (Nat × cc)}(h:jr b es v s m):Abs.ed v=true:=by cases h<;>rfl
theorem wW{α:Type}(es:Nat)(f:α->V)(s:ak α):elems H es (bg es f s)=some (s.l.map f):=by cases s<;>simp[elems,bg,ak.l]
theorem A1{α:Type}{f:α->V}(h:∀a,bs (f a)=true):∀l:List α,bW (l.map f)=true
 |[]=>rfl
 |a::l=>by simp[bW,h a,A1 h l]
theorem Hx{α:Type}{f:α->V}(h:∀a,bS (aE (f a))=true):∀l:List α,bS ((l.map f).flatMap aE)=true
 |[]=>rfl
 |a::l=>by
  have app:∀x y:List V,bS (x++y)=(bS x&&bS y):=fun x y=>by
   induction x with
   |nil=>simp[bS]
   |cons c x ih=>simp[bS,ih,Cf]
  simp[app,h a,Hx h l]
theorem VY{α:Type}{es bytes:Nat}{f:α->V}{s y al:ak α}{d:Option (Nat × Bool)}{g:Option (ag × Bool)}{iV lj:ag}{ek:V}{m:List (Nat × cc)}{Q:bV->Heap->List Bool->Prop}{ms:cN}(hw:gJ aw σ g=some true)(k:Nat)
  (hs:lG bytes s y=some al) (aA:Own H ms) (hk:ms[k]? =some m) (hr:hf b es f ek s m) (ao:bN aw σ iV=ek) (hb:bN aw σ lj=bg es f y) (hp:∀a,bs (f a)=true) (hc:∀a,bS (aE (f a))=true)
  (cA:∀H' v' m' mv,hf b es f v' al m'->Own H' (ms.set k m')->Op aa b rest (fV aw d v') (fW σ d v') H' (mv::wr) Q):Op aa b (⟨d,.append es bytes iV lj,g⟩::rest) aw σ H wr Q:=by
 intro aG av low h1 h2 ar aQ
 have tc:ms.set k m=ms:=by
  apply wg;intro i;by_cases e:k=i
  ·subst e;rw[nU (pY.1 hk).1,hk]
  ·rw[gm e]
 have hfz:dX H H.length (y.l.map f)=some (y.l.map f,H,H.length):=tj (A1 hp _);have yN:=Hx hc y.l;unfold lG at hs;by_cases hy:y.l=[]
 ·rw[if_pos hy]at hs
  cases hs;refine nI (o:=⟨d,.append es bytes iV lj,g⟩) (mv:=false) (v:=ek) (H1:=H) hw (fun cY=>⟨cY,H.length,cY,?_,iT H⟩) (cA H ek m false hr (by rw[tc];exact aA)) aG av low h1 h2 ar aQ;rw[th];simp only[step,hb,wW];rw[hfz,hy];simp only[mT,List.isEmpty_nil,if_true,ao];have gu:jr b es ek (s.map f) m:=hr;generalize vi:s.map f=k5 at gu;cases gu with
  |nil=>rfl
  |emp=>rfl
  |row l ds h j1=>simp[aA.get k hk]
 ·rw[if_neg hy]at hs
  split at hs
  ·rename_i e4
   cases hs
   have bf:(y.l.map f).isEmpty=false:=by cases MV:y.l with
    |nil=>exact absurd MV hy
    |cons=>rfl
   have yO:(bS ((y.l.map f).flatMap aE)=false)=False:=by rw[yN];simp
   have gu:jr b es ek (s.map f) m:=hr;generalize vi:s.map f=k5 at gu;cases gu with
   |nil=>
    have gY:s.l=[]:=by cases s<;>simp_all [ak.map,ak.l]
    have yP:(y.l.map f).length*(bytes+1)<=2^40:=by simpa[gY]using e4
    refine nI (o:=⟨d,.append es bytes iV lj,g⟩) (mv:=true) (v:=.cz H.length es 0 (y.l.map f).length (y.l.map f).length) (H1:=H++[.row es (y.l.map f) false]) hw
     (fun cY=>⟨by simp;omega,H.length,cY,?_,by simp[eG]⟩) (cA _ _ [(H.length,.row es (y.l.map f) false)] true ?_ (aA.fill k hk)) aG av low h1 h2 ar aQ
    ·rw[th]
     simp only[step,hb,wW];rw[hfz];simp only[bf,hY,if_false,yO,ao,yP,if_true]
    ·simp only[gY,jB,ak.map]
     exact .row _ _ (by simpa using hy) aQ
   |emp=>
    have gY:s.l=[]:=by cases s<;>simp_all [ak.map,ak.l]
    have yP:(y.l.map f).length*(bytes+1)<=2^40:=by simpa[gY]using e4
    refine nI (o:=⟨d,.append es bytes iV lj,g⟩) (mv:=true) (v:=.cz H.length es 0 (y.l.map f).length (y.l.map f).length) (H1:=H++[.row es (y.l.map f) false]) hw
     (fun cY=>⟨by simp;omega,H.length,cY,?_,by simp[eG]⟩) (cA _ _ [(H.length,.row es (y.l.map f) false)] true ?_ (aA.fill k hk)) aG av low h1 h2 ar aQ
    ·rw[th]
     simp only[step,hb,wW];rw[hfz];simp only[bf,hY,if_false,yO,ao,yP,if_true]
    ·simp only[gY,jB,ak.map]
     exact .row _ _ (by simpa using hy) aQ
   |row l ds hd j1=>
    have gY:s.l.map f=ds:=by cases s<;>simp_all [ak.map,ak.l]
    have hlen:s.l.length=ds.length:=by rw[<-gY,oG]
    have bj:=aA.get k hk;have aX:=wT bj
    refine nI (o:=⟨d,.append es bytes iV lj,g⟩) (mv:=true) (v:=.cz l es 0 (ds++y.l.map f).length (ds++y.l.map f).length) (H1:=H.set l (.row es (ds++y.l.map f) false)) hw
     (fun cY=>⟨by simpa using cY,l,j1,?_,by simp[eG,aX]⟩) (cA _ _ [(l,.row es (ds++y.l.map f) false)] true ?_ (aA.put k hk)) aG av low h1 h2 ar aQ
    ·rw[th]
     simp only[step,hb,wW];rw[hfz];simp only[bf,hY,if_false,yO,ao,bj,gM];rw[if_pos ⟨trivial,trivial,trivial,trivial,trivial,by rw[hlen]at e4;simpa using e4⟩,uc (xI aX)]
     done
    ·show jr b es _ (.mk ((s.l++y.l).map f)) _
     rw[nW,gY];exact .row _ _ (by simp[hd]) j1
  ·cases hs
def vj:Nat->List V->bV
 | _,[]=>mL
 |i,v::r=>up (vj (i+1) r) i v
theorem MW:∀(i:Nat) (vs:List V),Fits (fQ i vs) (vj i vs)
 | _,[]=>sb
 |i,v::r=>VP (MW (i+1) r) i v
inductive sd (σ:bV) (H:Heap):List mB->List V->Prop
 |nil:sd σ H [] []
 |tmp {t:Nat} {v:V} {rs:List mB} {vs:List V} (h:σ t=v) (r:sd σ H rs vs):sd σ H (.tmp t::rs) (v::vs)
 |cell {a l o:Nat} {sh:Option Nat} {cs:List V} {v:V} {rs:List mB} {vs:List V} (h:σ a=.ptr l o) (bj:H[l]? =some (.cells cs)) (hr:fY cs o sh=some v) (r:sd σ H rs vs):sd σ H (.cell a sh::rs) (v::vs)
theorem sd.eq{av:Env}(ab:Fits av σ):∀{rs:List mB} {vs:List V},sd σ H rs vs->fy av H rs=some vs
 | _,_,.nil=>rfl
 | _,_,.tmp h r=>by simp only[fy,hE,r.eq ab,ab _,h]
 | _,_,.cell h bj hr r=>by simp only[fy,hE,ab _,h,gN,bj,hr,r.eq ab]
@[simp] theorem ats {α : Type} {es : Nat} {f : α -> V} {s : ak α} {l n : Nat} : bs (.cz l es 0 n n) = false := rfl
def mh (b n:Nat)(ms:cN)(v v':V)(fO:cN):Prop:=∀H low,Own H ms->b<=low->∃H' low',dF n H low v=some (v',H',low')/\Own H' fO/\b<=low'
def nL (b n:Nat)(ms:cN)(vs vs':List V)(fO:cN):Prop:=∀H low,Own H ms->b<=low->∃H' low',kq (dF n) H low vs=some (vs',H',low')/\Own H' fO/\b<=low'
theorem mh.plain{n:Nat}{ms:cN}{v:V}(h:bs v=true):mh b n ms v v ms:=fun H low aA hb=>⟨H,low,by cases n<;>simp[dF,h],aA,hb⟩
theorem nL.nil{n:Nat}{ms:cN}:nL b n ms [] [] ms:=fun H low aA hb=>⟨H,low,rfl,aA,hb⟩
theorem nL.cons{n:Nat}{ms VZ V0:cN}{v v':V}{vs vs':List V}(h:mh b n ms v v' VZ)(r:nL b n VZ vs vs' V0):nL b n ms (v::vs) (v'::vs') V0:=fun H low aA hb=>by
 obtain⟨H1,bI,af,hg,dm⟩:=h H low aA hb;obtain⟨H2,c5,e2,ahu,gy⟩:=r H1 bI hg dm;exact⟨H2,c5,by simp only[kq,af,e2],ahu,gy⟩
theorem mh.aU{n:Nat}{ms fO:cN}{vs vs':List V}(h:nL b n ms vs vs' fO)(hp:bW vs=false):mh b (n+1) ms (.aU vs) (.aU vs') fO:=fun H low aA hb=>by
 obtain⟨H1,bI,af,hg,dm⟩:=h H low aA hb;exact⟨H1,bI,by simp only[dF,bs,hp,hY,if_false,af],hg,dm⟩
theorem mh.agg{n:Nat}{ms fO:cN}{vs vs':List V}(h:nL b n ms vs vs' fO)(hp:bW vs=false):mh b (n+1) ms (.agg vs) (.agg vs') fO:=fun H low aA hb=>by
 obtain⟨H1,bI,af,hg,dm⟩:=h H low aA hb;exact⟨H1,bI,by simp only[dF,bs,hp,hY,if_false,af],hg,dm⟩
def pP (m:List (Nat × cc)):List (Nat × cc):=m.map fun p=>(p.1,match p.2 with| .row es ds _=>.row es ds true|o=>o)
theorem mh.row{α:Type}{n es:Nat}{f:α->V}{s:ak α}{v:V}{m:List (Nat × cc)}{ms:cN}(k:Nat)(hk:ms[k]? =some m)(hr:hf b es f v s m)(hp:∀a,bs (f a)=true):mh b (n+1) ms v (bg es f s) (ms.set k (pP m)):=fun H low aA hb=>by
 have tc:∀m',m'=m->ms.set k m'=ms:=fun m' hm=>by
  apply wg;intro i;by_cases e:k=i
  ·subst e;rw[nU (pY.1 hk).1,hk,hm]
  ·rw[gm e]
 rw[ahp];have gu:jr b es v (s.map f) m:=hr;generalize vi:s.map f=k5 at gu;clear hr;cases gu with
 |nil=>exact⟨H,low,rfl,by rw[tc (pP []) rfl];exact aA,hb⟩
 |emp=>exact⟨H,low,rfl,by rw[tc (pP []) rfl];exact aA,hb⟩
 |row l ds h j1=>
  have sX:bW ds=true:=by
   cases s<;>simp[ak.map]at vi;rw[<-vi];exact A1 hp _
  refine⟨H.set l (.row es ds true),min low l,?_,aA.put k hk,by omega⟩;simp[dF,bs,aA.get k hk,sX,bg]
def one:List V->V
 |[x]=>x
 |us=>.aU us
def Hy (rs:List mB)(σ:bV)(H:Heap)(b:Nat)(v:V):Prop:=
 ∃(us:List V) (u:V) (ms fO:cN),sd σ H rs us/\one us=u/\Own H ms/\mh b 16 ms u v fO
theorem MX{rs:List mB}{us:List V}{v:V}(h:sd σ H rs us)(he:one us=v)(hp:bs v=true):Hy rs σ H b v:=
 ⟨us,v,[],[],h,he,.nil H,.plain hp⟩
theorem MY{rs:List mB}{us:List V}{u v:V}{ms fO:cN}(h:sd σ H rs us)(he:one us=u)(aA:Own H ms)(hp:mh b 16 ms u v fO):Hy rs σ H b v:=
 ⟨us,u,ms,fO,h,he,aA,hp⟩
theorem MZ{i:Nat}{f:h3}{args caps:List V}{v:V}(cZ:aa i=some (.code f))(hl:(args++caps).length<=f.xM)(er:f.fresh=false)
  (h:eS aa H.length f.body (vj 0 (args++caps)) H fun x aN H'=>(x=.normal\/x=.ret)/\Hy f.results aN H' H.length v) (hp:bs v=true):
  bZ aa (.fn i [] caps) args H=some (v,H,H.length):=by
 obtain⟨x,dD,H',low',aN,af,e2,bT,cF,ej,us,u,ms,fO,j2,wX,ahv,uD⟩:=h _ H.length (MW 0 _) (aK _) (aK _);obtain⟨H2,c5,b9,-,eD⟩:=uD H' low' ahv bT;have cS:=j2.eq e2;have hold:old H.length v=true:=MS hp
 have iF:∀w,w=u->finish f.fresh H w H' low'=some (v,H,H.length):=fun w hw=>by
  subst hw;rw[er];unfold finish;split
  ·simp_all
  ·simp only[eP,b9,eD,hold,and_self,if_true]
 rw[mE,cZ];simp only[jB,fZ];rw[if_pos hl,af];rcases ej with rfl|rfl
 ·simp only[cS]
  match us,wX with
  |[w],hu=>exact iF w hu
  |[],hu=>exact iF _ hu
  |a::b::r,hu=>exact iF _ hu
 ·simp only[cS]
  match us,wX with
  |[w],hu=>exact iF w hu
  |[],hu=>exact iF _ hu
  |a::b::r,hu=>exact iF _ hu
end
end Go.Abs
namespace Go.Abs
open Go
section
variable{aa:Nat->Option bY}{b:Nat}{aw σ:bV}{H:Heap}{wr:List Bool}{rest:List bO}{call:cU}{ae:ag->V}
def gi{K W:Type}(gA:K->V)(gj:W->V)(m:List (K × W)):List (V × V):=m.map fun p=>(gA p.1,gj p.2)
theorem DD (a c:Int):ix 0 (aD a) (aD c)=some (a==c):=by simp[ix]
theorem ahw (a c:bH):ix 1 (.str a) (.str c)=some (a==c):=rfl
theorem DE{K W:Type}[BEq K]{gA:K->V}{gj:W->V}{kind:Nat}(heq:∀a c,ix kind (gA a) (gA c)=some (a==c))(k:K):∀m:List (K × W),h4 kind (gA k) (gi gA gj m)=some ((iH m k).map gj)
 |[]=>rfl
 |p::r=>by
  have ih:=DE (gj:=gj) heq k r;simp only[gi,iH]at ih⊢;simp only[eo,h4,heq,Kr];cases k==p.1<;>simp[ih]
theorem V1{K W:Type}[BEq K]{gA:K->V}{gj:W->V}{kind:Nat}(heq:∀a c,ix kind (gA a) (gA c)=some (a==c))(k:K)(w:W):∀m:List (K × W),ld kind (gA k) (gj w) (gi gA gj m)=gi gA gj (mg m k w)
 |[]=>rfl
 |p::r=>by
  have ih:=V1 (gj:=gj) heq k w r;simp only[gi]at ih⊢;simp only[eo,ld,heq,mg];cases k==p.1<;>simp[ih]
theorem V2{K W:Type}[BEq K]{gA:K->V}{gj:W->V}{kind a:Nat}{m:List (K × W)}{k:K}{z:V}{x i:ag}(heq:∀a c,ix kind (gA a) (gA c)=some (a==c))(z0:W)(aT:z=gj z0)(bj:H[a]? =some (.map (gi gA gj m)))(hx:ae x=.map a)(hi:ae i=gA k):
  b2 call ae H H.length (.lookup kind z x i false)=some (gj ((iH m k).getD z0),H,H.length):=by
 rw[Hd];simp only[step,hx,bj,hi,DE heq];cases iH m k<;>simp[aT]
theorem ahx{K W:Type}[BEq K]{gA:K->V}{gj:W->V}{kind a:Nat}{m:List (K × W)}{k:K}{z:V}{x i:ag}(heq:∀a c,ix kind (gA a) (gA c)=some (a==c))(z0:W)(aT:z=gj z0)(bj:H[a]? =some (.map (gi gA gj m)))(hx:ae x=.map a)(hi:ae i=gA k):
  b2 call ae H H.length (.lookup kind z x i true)=some (.aU [gj ((iH m k).getD z0),.bool (iH m k).isSome],H,H.length):=by
 rw[Hd];simp only[step,hx,bj,hi,DE heq];cases iH m k<;>simp[aT]
theorem V3{K W:Type}{gA:K->V}{gj:W->V}{a:Nat}{m:List (K × W)}{x:ag}(bj:H[a]? =some (.map (gi gA gj m)))(hx:ae x=.map a):b2 call ae H H.length (.len 2 x)=some (aD (m.length:Int),H,H.length):=by
 show step ae H H.length (.len 2 x)=_;simp[step,hx,bj,gi]
theorem V4{K W:Type}[BEq K]{gA:K->V}{gj:W->V}{kind a:Nat}{m:List (K × W)}{k:K}{w:W}{d:Option (Nat × Bool)}{g:Option (ag × Bool)}{x i y:ag}{Q:bV->Heap->List Bool->Prop}{ms:cN}(hw:gJ aw σ g=some true)
  (heq:∀a c,ix kind (gA a) (gA c)=some (a==c)) (aA:Own H ms) (j:Nat) (hk:ms[j]? =some [(a,.map (gi gA gj m))]) (hb:b<=a) (hx:bN aw σ x=.map a) (hi:bN aw σ i=gA k) (hy:bN aw σ y=gj w) (hp:bs (gj w)=true)
  (cA:∀H',Own H' (ms.set j [(a,.map (gi gA gj (mg m k w)))])->Op aa b rest (fV aw d .undef) (fW σ d .undef) H' (true::wr) Q):Op aa b (⟨d,.px kind x i y,g⟩::rest) aw σ H wr Q:=by
 have bj:=aA.get j hk;have aX:=wT bj;have hu:ui (gj w)=false:=by cases ad:gj w<;>simp_all [ui,bs]
 refine nI (o:=⟨d,.px kind x i y,g⟩) (mv:=true) (H1:=H.set a (.map (gi gA gj (mg m k w)))) hw (fun cY=>⟨by simpa using cY,a,hb,?_,by simp[eG,aX]⟩) (cA _ (aA.put j hk));simp only[TZ,step,hy];have ab:eP H H.length (gj w)=some (gj w,H,H.length):=by simp[eP,dF,hp]
 simp only[ab,hu,hx,bj,hi,DE heq,V1 heq];simp[uc (xI aX)]
theorem jr.elems{α:Type}{es:Nat}{f:α->V}{s:ak α}{v:V}{m:List (Nat × cc)}{ms:cN}(aA:Own H ms)(k:Nat)(hk:ms[k]? =some m)(hr:hf b es f v s m):elems H es v=some (s.l.map f):=by
 have gu:jr b es v (s.map f) m:=hr;generalize vi:s.map f=k5 at gu;clear hr;cases gu with
 |nil=>cases s<;>simp_all [ak.map,ak.l,Abs.elems]
 |emp=>cases s<;>simp_all [ak.map,ak.l,Abs.elems]
 |row l ds h hb=>
  have:s.l.map f=ds:=by cases s<;>simp_all [ak.map,ak.l]
  simp[Abs.elems,aA.get k hk,this]
theorem V5{α:Type}{es:Nat}{f:α->V}{s:ak α}{v:V}{m:List (Nat × cc)}{ms:cN}{x:ag}(aA:Own H ms)(k:Nat)(hk:ms[k]? =some m)(hr:hf b es f v s m)(hx:ae x=v):b2 call ae H H.length (.len 1 x)=some (aD s.len,H,H.length):=by
 have gu:jr b es v (s.map f) m:=hr;generalize vi:s.map f=k5 at gu;clear hr;show step ae H H.length (.len 1 x)=_;cases gu with
 |nil=>cases s<;>simp_all [ak.map,ak.len,ak.l,step]
 |emp=>cases s<;>simp_all [ak.map,ak.len,ak.l,step]
 |row l ds h hb=>
  have:s.l.map f=ds:=by cases s<;>simp_all [ak.map,ak.l]
  subst this;simp[step,hx,aA.get k hk,ak.len]
theorem ahy{α:Type}{es bytes:Nat}{f:α->V}{z:List V}{e:α}{n:Int}{s:ak α}{bK V6:IntKind}{d:Option (Nat × Bool)}{g:Option (ag × Bool)}{x y:ag}{Q:bV->Heap->List Bool->Prop}{ms:cN}(hw:gJ aw σ g=some true)
  (hs:yI bytes e n=some s) (aA:Own H ms) (aT:kT z=f e) (hx:bN aw σ x=.int bK n) (hy:bN aw σ y=.int V6 n)
  (cA:∀H' v' m' mv,hf b es f v' s m'->Own H' (m'::ms)->Op aa b rest (fV aw d v') (fW σ d v') H' (mv::wr) Q):Op aa b (⟨d,.mkSlice es z bytes x y,g⟩::rest) aw σ H wr Q:=by
 intro aG av low h1 h2 ar aQ;unfold yI at hs;split at hs
 ·rename_i hc
  cases hs;by_cases h0:n=0
  ·subst h0
   refine nI (o:=⟨d,.mkSlice es z bytes x y,g⟩) (mv:=false) (v:=.emp) (H1:=H) hw (fun cY=>⟨cY,H.length,cY,?_,iT H⟩) (cA H .emp [] false ?_ (aA.ins 0)) aG av low h1 h2 ar aQ
   ·rw[MH];simp[step,hx,hy]
   ·exact .emp
  ·refine nI (o:=⟨d,.mkSlice es z bytes x y,g⟩) (mv:=true) (v:=.cz H.length es 0 n.toNat n.toNat) (H1:=H++[.row es (List.replicate n.toNat (f e)) false]) hw
    (fun cY=>⟨by simp;omega,H.length,cY,?_,by simp[eG]⟩) (cA _ _ [(H.length,.row es (List.replicate n.toNat (f e)) false)] true ?_ (aA.grow _)) aG av low h1 h2 ar aQ
   ·rw[MH];simp only[step,hx,hy,aT]
    rw[if_pos ⟨trivial,hc.1,hc.2⟩,if_neg h0]
   ·rw[if_neg h0]
    have:jr b es (.cz H.length es 0 (List.replicate n.toNat (f e)).length (List.replicate n.toNat (f e)).length) (.mk (List.replicate n.toNat (f e))) [(H.length,.row es (List.replicate n.toNat (f e)) false)]:=.row _ _ (by simp;omega) aQ;simpa[hf,ak.map]using this
 ·cases hs
theorem jr.at{α:Type}{es:Nat}{f:α->V}{s:ak α}{v:V}{m:List (Nat × cc)}{l N:Nat}(hr:hf b es f v s m)(ad:v=.cz l es 0 N N):m=[(l,.row es (s.l.map f) false)]/\N=(s.l.map f).length/\b<=l/\s.map f=.mk (s.l.map f):=by
 have gu:jr b es v (s.map f) m:=hr;generalize vi:s.map f=k5 at gu;clear hr;cases gu with
 |nil=>cases ad
 |emp=>cases ad
 |row l ds h hb=>
  have:s.l.map f=ds:=by cases s<;>simp_all [ak.map,ak.l]
  cases ad;exact⟨by rw[this],by rw[this],hb,by rw[this]⟩
theorem ahz{α:Type}{es l N off:Nat}{f:α->V}{s:ak α}{n:Int}{e:α}{v u:V}{m:List (Nat × cc)}{ms:cN}{sh:Option Nat}{x:ag}(k:Nat)(he:bQ s.l n=some e)(aA:Own H ms)(hk:ms[k]? =some m)(hr:hf b es f v s m)(ad:v=.cz l es 0 N N)(hu:fY (aE (f e)) off sh=some u)(hx:ae x=.gF l es n.toNat off N):
  b2 call ae H H.length (.load sh x)=some (u,H,H.length):=by
 obtain⟨rfl,rfl,-,-⟩:=hr.at ad;rw[jK,hx];unfold bQ at he;split at he
 ·simp[gN,aA.get k hk,he,hu]
 ·cases he
theorem ahA{α:Type}{es l N off cJ:Nat}{f:α->V}{s:ak α}{n:Int}{e e':α}{v:V}{m:List (Nat × cc)}{vs:List V}{d:Option (Nat × Bool)}{g:Option (ag × Bool)}{x y:ag}{Q:bV->Heap->List Bool->Prop}{ms:cN}(hw:gJ aw σ g=some true)(k:Nat)
  (he:bQ s.l n=some e) (aA:Own H ms) (hk:ms[k]? =some m) (hr:hf b es f v s m) (ad:v=.cz l es 0 N N) (hx:bN aw σ x=.gF l es n.toNat off N) (hy:aE (bN aw σ y)=vs) (hn:vs.length=cJ) (hp:lQ vs=true) (l6:wi (f e) off vs=some (f e'))
  (cA:∀H' m',hf b es f v (o9 s n e') m'->Own H' (ms.set k m')->Op aa b rest (fV aw d .undef) (fW σ d .undef) H' (true::wr) Q):Op aa b (⟨d,.store cJ x y,g⟩::rest) aw σ H wr Q:=by
 obtain⟨rfl,rfl,hb,eE⟩:=hr.at ad;have bj:=aA.get k hk;have aX:=wT bj;unfold bQ at he;split at he
 ·rename_i nx
  have hi:n.toNat<s.l.length:=(pY.1 he).1;have tc:(s.l.map f).set n.toNat (f e')=(o9 s n e').l.map f:=by simp[o9,ak.l,List.map_set]
  have bf:(o9 s n e').l.map f≠[]:=by
   have hlen:((o9 s n e').l.map f).length=s.l.length:=by simp[o9,ak.l]
   intro h0;rw[h0]at hlen;simp at hlen;omega
  refine nI (o:=⟨d,.store cJ x y,g⟩) (mv:=true) (H1:=H.set l (.row es ((o9 s n e').l.map f) false)) hw (fun cY=>⟨by simpa using cY,l,hb,?_,by simp[eG,aX]⟩) (cA _ _ ?_ (aA.put k hk))
  ·simp only[jL,hx,hD,bj,hy]
   rw[if_pos ⟨trivial,trivial,hn,hp⟩];simp[he,l6,tc,uc (xI aX)]
  ·have:=jr.row (b:=b) (es:=es) l ((o9 s n e').l.map f) bf hb
   rw[ad];have hl:((o9 s n e').l.map f).length=(s.l.map f).length:=by simp[o9,ak.l]
   rw[hl]at this;exact this
 ·cases he
theorem M0:∀{vs:List V} {H:Heap} {low:Nat},dX H low vs=kq (dF 16) H low vs
 |[],_,_=>rfl
 |v::vs,H,low=>by
  simp only[dX,kq,eP];cases dF 16 H low v with
  |none=>rfl
  |some r=>simp only[M0]
theorem V7{d:Option (Nat × Bool)}{g:Option (ag × Bool)}{f:ag}{aO:List ag}{fv v:V}{vs vs':List V}{Q:bV->Heap->List Bool->Prop}{ms fO:cN}(hw:gJ aw σ g=some true)(aA:Own H ms)(aT:nL b 16 ms vs vs' fO)
  (hc:∀H',bZ aa fv vs' H'=some (v,H',H'.length)) (kA:flat v=true) (ao:aO.map (bN aw σ)=vs) (ab:bN aw σ f=fv)
  (cA:Op aa b rest (fV aw d v) (fW σ d v) H (false::wr) Q):Op aa b (⟨d,.call false f aO,g⟩::rest) aw σ H wr Q:=by
 intro aG av low h1 h2 ar aQ;obtain⟨H1,bI,af,hg,dm⟩:=aT H H.length aA aQ;refine ha (v:=v) hw ?_ cA aG av low h1 h2 ar aQ;subst ao;subst ab;rw[k3,M0,af];simp[hc,kA]
theorem ahB{d:Option (Nat × Bool)}{g:Option (ag × Bool)}{f:ag}{aO:List ag}{fv v:V}{vs vs':List V}{Q:bV->Heap->List Bool->Prop}{ms fO:cN}(hw:gJ aw σ g=some true)(aA:Own H ms)(aT:nL b 16 ms vs vs' fO)(hlen:∀H low r,kq (dF 16) H low vs=some r->r.2.1.length=H.length)
  (hc:∀H',bZ aa fv vs' H'=some (v,H',H'.length)) (kA:flat v=false) (ao:aO.map (bN aw σ)=vs) (ab:bN aw σ f=fv)
  (cA:∀H' mv,Own H' fO->Op aa b rest (fV aw d v) (fW σ d v) H' (mv::wr) Q):Op aa b (⟨d,.call false f aO,g⟩::rest) aw σ H wr Q:=by
 intro aG av low h1 h2 ar aQ;obtain⟨H1,bI,af,hg,dm⟩:=aT H H.length aA aQ;have hl:=hlen _ _ _ af;refine nI (o:=⟨d,.call false f aO,g⟩) (v:=v) (H1:=H1) (mv:=eG H H1 (min bI H1.length)) hw (fun hb=>⟨by simp only at hl;omega,min bI H1.length,by simp only at hl;omega,?_,rfl⟩) (cA H1 _ hg) aG av low h1 h2 ar aQ;subst ao;subst ab;simp only[];rw[k3,M0,af];simp[hc,kA]
end
end Go.Abs
namespace Go.Abs
open Go
@[simp] theorem att (l : List V) : aE (.agg l) = l := rfl
@[simp] theorem atu : aE .cp = [.cp] := rfl
@[simp] theorem atv : aE .emp = [.emp] := rfl
@[simp] theorem atw (e : Nat) (l : List V) : aE (.list e l) = [.list e l] := rfl
@[simp] theorem atx (e l : Nat) : aE (.ptr e l) = [.ptr e l] := rfl
@[simp] theorem aty (e : Nat) : aE (.map e) = [.map e] := rfl
@[simp] theorem atz : aE .jb = [.jb] := rfl
abbrev At (σ:bV)(ts:List Nat)(vs:List V):Prop:=ts.map σ=vs
def Hz:bV->List Nat->List V->bV
 |σ,t::ts,v::vs=>Hz (up σ t v) ts vs
 |σ,_,_=>σ
theorem wY:∀{ts:List Nat} {vs:List V} {σ:bV},At σ ts vs->Hz σ ts vs=σ
 |[],[],_,_=>rfl
 |[],_::_,_,h=>by cases h
 | _::_,[],_,h=>by cases h
 |t::ts,v::vs,σ,h=>by
  simp only[At,eo,Ce]at h;simp only[Hz,ahj h.1];exact wY h.2
section
variable{aa:Nat->Option bY}{b:Nat}{aw σ:bV}{H:Heap}{wr:List Bool}{rest:List bO}{call:cU}{ae:ag->V}{d:Option (Nat × Bool)}{op:cH}{t:ag}{β w:Bool}
theorem dv{c:cj}{Q:X->bV->Heap->Prop}{ts:List Nat}{vs:List V}(h:At σ ts vs)(k:eS aa b c (Hz σ ts vs) H Q):eS aa b c σ H Q:=by rw[wY h]at k;exact k
theorem iW{ops:List bO}{c:cj}{Q:X->bV->Heap->Prop}(h:Op aa b ops mL σ H [] (fun aN H' _=>eS aa b c aN H' Q)):eS aa b (.seq (.region ops none) c) σ H Q:=kc (o6 h)
variable{Q:bV->Heap->List Bool->Prop}
theorem pp (v:V)(k:Op aa b rest (fV aw d v) (fW σ d v) H (false::wr) Q)(h:b2 (bZ aa) (bN aw σ) H H.length op=some (v,H,H.length):=by exact rfl):Op aa b (⟨d,op,none⟩::rest) aw σ H wr Q:=ha rfl h k
theorem ph (v:V)(h:b2 (bZ aa) (bN aw σ) H H.length op=some (v,H,H.length))(k:Op aa b rest (fV aw d v) (fW σ d v) H (false::wr) Q):Op aa b (⟨d,op,none⟩::rest) aw σ H wr Q:=ha rfl h k
theorem h9 (v:V)(c:β=w)(k:Op aa b rest (fV aw d v) (fW σ d v) H (false::wr) Q)(h:b2 (bZ aa) (bN aw σ) H H.length op=some (v,H,H.length):=by exact rfl)(ht:bN aw σ t=.bool β:=by exact rfl):Op aa b (⟨d,op,some (t,w)⟩::rest) aw σ H wr Q:=ha (hJ ht c) h k
theorem mi (c:β=false)(k:Op aa b rest (fV aw d (.aU [])) (fW σ d (.aU [])) H (false::wr) Q)(ht:bN aw σ t=.bool β:=by exact rfl):Op aa b (⟨d,op,some (t,true)⟩::rest) aw σ H wr Q:=MO (Ht ht c) k
theorem ca (c:β=true)(k:Op aa b rest (fV aw d (.aU [])) (fW σ d (.aU [])) H (false::wr) Q)(ht:bN aw σ t=.bool β:=by exact rfl):Op aa b (⟨d,op,some (t,false)⟩::rest) aw σ H wr Q:=MO (Hu ht c) k
end
theorem A2:∀{vs:List V} {n:Nat} {H:Heap} {low:Nat},bW vs=true->kq (dF n) H low vs=some (vs,H,low)
 |[],_,_,_,_=>rfl
 |v::r,n,H,low,h=>by
  simp only[bW,b8]at h;have h1:dF n H low v=some (v,H,low):=by cases n<;>simp[dF,h.1]
  simp only[kq,h1,A2 h.2]
theorem mh.aql{b n:Nat}{ms fO:cN}{vs vs':List V}(h:nL b n ms vs vs' fO):mh b (n+1) ms (.aU vs) (.aU vs') fO:=by
 cases hp:bW vs with
 |false=>exact .aU h hp
 |true=>
  intro H low aA hb;obtain⟨H1,bI,af,hg,dm⟩:=h H low aA hb;rw[A2 hp]at af;cases af;exact⟨H,low,by simp[dF,bs,hp],hg,dm⟩
section
variable{aa:Nat->Option bY}{b:Nat}{σ:bV}{H:Heap}
theorem fe{S O:Type}{c:cj}{Q:X->bV->Heap->Prop}(f:S->Option (dM S O))(I:S->bV->Heap->Prop)(P:O->X->bV->Heap->Prop){s:S}{o:O}(h:c0 f s=some o)(aW:I s σ H)
 (round:∀s σ H r,I s σ H->f s=some r->eS aa b c σ H fun x aN H'=>match r with
   | .next al=>x=.normal/\I al aN H'
   | .out o=>x≠ .normal/\P o x aN H') (k:∀x aN H',P o x aN H'->Q x aN H'):eS aa b (.loop c) σ H Q:=wU (P o) (ahn f I P round h aW) k
end
end Go.Abs
