/- Texts of this claim, joined and written short by a program. -/
import Derived.Test.YtdoflpjbdlgciaaGreatDoorP10
import Derived.Test.YtdoflpjbdlgciaaGreatDoorP08
import Derived.Test.YtdoflpjbdlgciaaGreatDoorP00
set_option linter.unusedVariables false
set_option linter.unusedSimpArgs false
set_option linter.unusedSectionVars false
namespace Go.Abs
open Go
end Go.Abs
namespace Go.Abs
open Go
variable{C:Ctx}{fid:Nat->Nat}{w w':World}{G G':cc}{H H':Heap}
theorem Fo{ad:Nat->Option cb}{i:Nat}{spec:List V->Option V}(h:ad i=some (.ext spec)){args:List V}(hp:cx args=true){v:V}(af:spec args=some v)(H:Heap):cl ad (.fn i [] []) args H=some (v,H,H.length):=by
 rw[ny,h];simp[hp,af]
end Go.Abs
namespace Go.Abs
open Go
variable{C:Ctx}{fid:Nat->Nat}
end Go.Abs
namespace Go.Abs
open Go
abbrev bY:=Nat->V
def up (σ:bY)(t:Nat)(v:V):bY:=fun k=>match Nat.beq k t with
 |true=>v
 |false=>σ k
def nK:bY:=fun _=>.undef
theorem vY (σ:bY)(t:Nat)(v:V):up σ t v t=v:=by simp[up,Bk]
theorem jx (σ:bY){t k:Nat}(v:V)(h:k≠t):up σ t v k=σ k:=by
 unfold up;cases hb:Nat.beq k t with
 |true=>exact absurd (e8 hb) h
 |false=>rfl
theorem anE{σ:bY}{t:Nat}{v:V}(h:σ t=v):up σ t v=σ:=by
 funext k;by_cases e:k=t
 ·subst e;rw[vY,h]
 ·rw[jx _ _ e]
def bV (aq σ:bY):aj->V
 | .tmp t=>aq t
 | .var t=>σ t
 | .const v=>v
 | .func i=>.fn i [] []
def Fits (e:Env)(σ:bY):Prop:=∀t,bR e t=σ t
theorem sR:Fits [] nK:=fun _=>rfl
theorem sS{aG aw:Env}{aq σ:bY}(ht:Fits aG aq)(hs:Fits aw σ):aj.ai aG aw=bV aq σ:=by
 funext x;cases x with
 |tmp t=>exact ht t
 |var t=>exact hs t
 |const v=>rfl
 |func i=>rfl
theorem abn{aw:Env}{σ:bY}(h:Fits aw σ)(t:Nat)(v:V):Fits (fN aw t v) (up σ t v):=fun k=>by
 rw[gy];by_cases e:k=t
 ·rw[if_pos e,e,vY]
 ·rw[if_neg e,jx _ _ e];exact h k
theorem abo{aG:Env}{aq:bY}(h:Fits aG aq)(t:Nat)(v:V):Fits ((t,v)::aG) (up aq t v):=fun k=>by
 by_cases e:k=t
 ·subst e;simp[bR,vY]
 ·rw[jx _ _ e];simp[bR,lj e];exact h k
section
variable (ad:Nat->Option cb)(b:Nat)
def fg (c:b8)(σ:bY)(H:Heap)(Q:X->bY->Heap->Prop):Prop:=
 ∀aw low,Fits aw σ->b<=low->b<=H.length->∃x dv H' low' aV,dz ad c ⟨[],aw,H,low,none⟩=some (x,⟨[],dv,H',low',none⟩)/\Fits dv aV/\b<=low'/\b<=H'.length/\Q x aV H'
def Op (ops:List bP)(aq σ:bY)(H:Heap)(wr:List Bool)(Q:bY->Heap->List Bool->Prop):Prop:=
 ∀aG aw low,Fits aG aq->Fits aw σ->b<=low->b<=H.length->∃iM dv H' low' fD aV,c5 (cl ad) ops ⟨aG,aw,H,low,none⟩ wr=some (⟨iM,dv,H',low',none⟩,fD)/\Fits dv aV/\b<=low'/\b<=H'.length/\Q aV H' fD
end
section
variable{ad:Nat->Option cb}{b:Nat}{aq σ:bY}{H:Heap}{Q:X->bY->Heap->Prop}
theorem fg.mono{c:b8}{abp:X->bY->Heap->Prop}(h:fg ad b c σ H Q)(k:∀x aV H',Q x aV H'->abp x aV H'):fg ad b c σ H abp:=fun aw low h1 h2 av=>by
 obtain⟨x,dv,H',low',aV,ag,e2,bI,cz,dF⟩:=h aw low h1 h2 av;exact⟨x,dv,H',low',aV,ag,e2,bI,cz,k _ _ _ dF⟩
theorem zw (h:Q .normal σ H):fg ad b .skip σ H Q:=fun aw low h1 h2 av=>⟨_,_,_,_,σ,nw _,h1,h2,av,h⟩
theorem zx (h:Q .ret σ H):fg ad b .ret σ H Q:=fun aw low h1 h2 av=>⟨_,_,_,_,σ,nx _,h1,h2,av,h⟩
theorem J5{i:Nat}(h:Q (.exit i) σ H):fg ad b (.exit i) σ H Q:=fun aw low h1 h2 av=>⟨_,_,_,_,σ,qy _ _,h1,h2,av,h⟩
def andThen (ad:Nat->Option cb)(b:Nat)(c:b8)(Q:X->bY->Heap->Prop):X->bY->Heap->Prop
 | .normal,σ,H=>fg ad b c σ H Q
 |x,σ,H=>Q x σ H
theorem p8{a c:b8}(h:fg ad b a σ H (andThen ad b c Q)):fg ad b (.seq a c) σ H Q:=fun aw low h1 h2 av=>by
 obtain⟨x,dv,H',low',aV,ag,e2,bI,cz,dF⟩:=h aw low h1 h2 av;rw[hR,ag];cases x with
 |normal=>exact dF dv low' e2 bI cz
 |exit i=>exact⟨_,_,_,_,aV,rfl,e2,bI,cz,dF⟩
 |ret=>exact⟨_,_,_,_,aV,rfl,e2,bI,cz,dF⟩
theorem zy{x:aj}{t e:b8}{β:Bool}(hx:bV nK σ x=.bool β)(pb:β=true)(h:fg ad b t σ H Q):fg ad b (.cond x t e) σ H Q:=fun aw low h1 h2 av=>by
 obtain⟨gx,dv,H',low',aV,ag,e2⟩:=h aw low h1 h2 av;refine⟨gx,dv,H',low',aV,?_,e2⟩;rw[mi,sS sR h1,hx,pb];exact ag
theorem zz{x:aj}{t e:b8}{β:Bool}(hx:bV nK σ x=.bool β)(pb:β=false)(h:fg ad b e σ H Q):fg ad b (.cond x t e) σ H Q:=fun aw low h1 h2 av=>by
 obtain⟨gx,dv,H',low',aV,ag,e2⟩:=h aw low h1 h2 av;refine⟨gx,dv,H',low',aV,?_,e2⟩;rw[mi,sS sR h1,hx,pb];exact ag
def Cm (id:Nat):X->X
 | .exit j=>match Nat.beq j id with
   |true=>.normal
   |false=>.exit j
 |x=>x
theorem Fp{id:Nat}{c:b8}(h:fg ad b c σ H (fun x=>Q (Cm id x))):fg ad b (.block id c) σ H Q:=fun aw low h1 h2 av=>by
 obtain⟨x,dv,H',low',aV,ag,e2,bI,cz,dF⟩:=h aw low h1 h2 av;refine⟨Cm id x,dv,H',low',aV,?_,e2,bI,cz,dF⟩;rw[mY,ag];cases x with
 |normal=>rfl
 |exit j=>
  simp only[Cm];cases hb:Nat.beq j id with
  |true=>rw[if_pos (e8 hb)]
  |false=>rw[if_neg (fun e=>by rw[e,Bk]at hb;cases hb)]
 |ret=>rfl
theorem tZ{ops:List bP}(h:Op ad b ops nK σ H [] (fun aV H' _=>Q .normal aV H')):fg ad b (.region ops none) σ H Q:=fun aw low h1 h2 av=>by
 obtain⟨iM,dv,H',low',fD,aV,ag,e2,bI,cz,dF⟩:=h [] aw low sR h1 h2 av;exact⟨.normal,dv,H',low',aV,by rw[kW];simp only[ag,au.fT],e2,bI,cz,dF⟩
theorem abq{ops:List bP}{eB:List Nat}(h:Op ad b ops nK σ H [] (fun aV H' wr=>rp eB ops wr=true/\Q .normal aV H')):fg ad b (.region ops (some eB)) σ H Q:=fun aw low h1 h2 av=>by
 obtain⟨iM,dv,H',low',fD,aV,ag,e2,bI,cz,dF,hz⟩:=h [] aw low sR h1 h2 av;exact⟨.normal,dv,H',low',aV,by rw[kW];simp only[ag,dF,Ie,if_true,au.fT],e2,bI,cz,hz⟩
end
section
variable{ad:Nat->Option cb}{b:Nat}{aq σ:bY}{H:Heap}{wr:List Bool}{Q:bY->Heap->List Bool->Prop}{rest:List bP}
theorem gJ (h:Q σ H wr.reverse):Op ad b [] aq σ H wr Q:=fun aG aw low h1 h2 av bc=>⟨_,_,_,_,_,σ,rfl,h2,av,bc,h⟩
def gl (aq:bY):Option (Nat × Bool)->V->bY
 |some (t,false),v=>up aq t v
 | _,_=>aq
def gm (σ:bY):Option (Nat × Bool)->V->bY
 |some (t,true),v=>up σ t v
 | _,_=>σ
theorem vZ{aG aw:Env}(ht:Fits aG aq)(hs:Fits aw σ)(H:Heap)(low:Nat)(d:Option (Nat × Bool))(v:V):
  ∃iM dv,au.put ⟨aG,aw,H,low,none⟩ d v=⟨iM,dv,H,low,none⟩/\Fits iM (gl aq d v)/\Fits dv (gm σ d v):=by
 match d with
 |none=>exact⟨_,_,rfl,ht,hs⟩
 |some (t,true)=>exact⟨_,_,rfl,ht,abn hs t v⟩
 |some (t,false)=>exact⟨_,_,rfl,abo ht t v,hs⟩
def gQ (aq σ:bY):Option (aj × Bool)->Option Bool
 |none=>some true
 |some (t,w)=>match bV aq σ t with
  | .bool c=>some (c==w)
  | .bd []=>some false
  | _=>none
theorem zA{aG aw:Env}(ht:Fits aG aq)(hs:Fits aw σ):∀g:Option (aj × Bool),gE aG aw g=gQ aq σ g
 |none=>rfl
 |some (t,w)=>by unfold gE gQ;rw[sS ht hs];rfl
theorem jf{t:aj}{β w:Bool}(h:bV aq σ t=.bool β)(pb:β=w):gQ aq σ (some (t,w))=some true:=by
 subst pb;simp[gQ,h]
theorem J6{t:aj}{β:Bool}(h:bV aq σ t=.bool β)(pb:β=false):gQ aq σ (some (t,true))=some false:=by
 subst pb;simp[gQ,h]
theorem J7{t:aj}{β:Bool}(h:bV aq σ t=.bool β)(pb:β=true):gQ aq σ (some (t,false))=some false:=by
 subst pb;simp[gQ,h]
theorem abr{t:aj}{w:Bool}(h:bV aq σ t=.bd []):gQ aq σ (some (t,w))=some false:=by
 simp[gQ,h]
theorem oy{o:bP}{v:V}{H1:Heap}{mv:Bool}(hw:gQ aq σ o.guard=some true)
  (h:b<=H.length->b<=H1.length/\∃bS,b<=bS/\cf (cl ad) (bV aq σ) H H.length o.op=some (v,H1,bS)/\fm H H1 bS=mv)
  (k:Op ad b rest (gl aq o.dst v) (gm σ o.dst v) H1 (mv::wr) Q):Op ad b (o::rest) aq σ H wr Q:=fun aG aw low h1 h2 av bc=>by
 obtain⟨hb,bS,al,a2,a3⟩:=h bc;simp only[c5];rw[zA h1 h2,hw,sS h1 h2];simp only[];rw[a2];simp only[];obtain⟨nn,k8,ag,e2,bI⟩:=vZ h1 h2 H1 (min low bS) o.dst v;rw[ag,a3];exact k nn k8 _ e2 bI (by omega) hb
theorem PZ{o:bP}(hw:gQ aq σ o.guard=some false)(k:Op ad b rest (gl aq o.dst (.bd [])) (gm σ o.dst (.bd [])) H (false::wr) Q):Op ad b (o::rest) aq σ H wr Q:=fun aG aw low h1 h2 av bc=>by
 simp only[c5];rw[zA h1 h2,hw];simp only[];obtain⟨nn,k8,ag,e2,bI⟩:=vZ h1 h2 H low o.dst (.bd []);rw[ag];exact k nn k8 _ e2 bI av bc
theorem iN{d:Option (Nat × Bool)}{op:cS}{g:Option (aj × Bool)}{v:V}(hw:gQ aq σ g=some true)(h:cf (cl ad) (bV aq σ) H H.length op=some (v,H,H.length))
  (k:Op ad b rest (gl aq d v) (gm σ d v) H (false::wr) Q):Op ad b (⟨d,op,g⟩::rest) aq σ H wr Q:=
 oy (o:=⟨d,op,g⟩) hw (fun hb=>⟨hb,H.length,hb,h,lx H⟩) k
abbrev cO:=List (List (Nat × cD))
def Own (H:Heap)(ms:cO):Prop:=(∀m∈ms,∀p∈m,H[p.1]? =some p.2)/\(ms.map (·.map Prod.fst)).Pairwise (fun x y=>∀a∈x,a∉y)
theorem Own.nil (H:Heap):Own H []:=⟨by simp,by simp⟩
theorem Own.get{ms:cO}(h:Own H ms)(k:Nat){a:Nat}{o:cD}(ah:ms[k]? =some [(a,o)]):H[a]? =some o:=
 h.1 _ (e0 ah) (a,o) (by simp)
theorem xM{H:Heap}{a:Nat}{o:cD}(h:H[a]? =some o):a<H.length:=by
 rcases gq a H.length with q|q
 ·exact q
 ·rw[nt q]at h;cases h
theorem Own.lt{ms:cO}(h:Own H ms){m:List (Nat × cD)}(hm:m∈ms){p:Nat × cD}(hp:p∈m):p.1<H.length:=xM (h.1 m hm p hp)
theorem Own.keys{ms:cO}(h:Own H ms){x:List Nat}(hx:x∈ms.map (·.map Prod.fst)){a:Nat}(ao:a∈x):a<H.length:=by
 obtain⟨m,hm,rfl⟩:=eM.1 hx;obtain⟨p,hp,rfl⟩:=eM.1 ao;exact h.lt hm hp
theorem Own.grow{ms:cO}(h:Own H ms)(o:cD):Own (H++[o]) ([(H.length,o)]::ms):=by
 refine⟨fun m hm p hp=> ?_,?_⟩
 ·rcases dL.1 hm with rfl|hm
  ·simp at hp;subst hp;simp
  ·rw[gM (h.lt hm hp)];exact h.1 m hm p hp
 ·rw[eG,HZ]
  refine⟨fun y hy a ao anF=> ?_,h.2⟩;have:=h.keys hy anF;simp at ao;omega
theorem Own.J8{ms:cO}(h:Own H ms){i j:Nat}{m m':List (Nat × cD)}(hi:ms[i]? =some m)(hj:ms[j]? =some m')(cW:i≠j){p q:Nat × cD}(hp:p∈m)(bj:q∈m'):p.1≠q.1:=by
 have key:∀{i j:Nat} {m m':List (Nat × cD)},ms[i]? =some m->ms[j]? =some m'->i<j->∀{p q:Nat × cD},p∈m->q∈m'->p.1≠q.1:=by
  intro i j m m' hi hj cW p q hp bj e;obtain⟨tM,hi⟩:=fF.1 hi;obtain⟨anG,hj⟩:=fF.1 hj;have:=TI.1 h.2 i j (by simpa using tM) (by simpa using anG) cW;simp only[H7]at this;refine this p.1 (by rw[hi];exact sa hp) ?_;rw[hj,e];exact sa bj
 rcases Nat.lt_or_gt_of_ne cW with q1|q1
 ·exact key hi hj q1 hp bj
 ·exact fun e=>key hj hi q1 bj hp e.symm
theorem anH{ms:cO}{k:Nat}{m m':List (Nat × cD)}(ah:ms[k]? =some m)(hm:m'.map Prod.fst=m.map Prod.fst):(ms.set k m').map (·.map Prod.fst)=ms.map (·.map Prod.fst):=by
 rw[List.map_set,hm];apply yp;intro i;by_cases e:k=i
 ·subst e
  have:=(fF.1 ah).1;rw[tu (by simpa using this),kR,ah];rfl
 ·rw[lG e]
theorem Own.put{ms:cO}(h:Own H ms)(k:Nat){a:Nat}{o o':cD}(ah:ms[k]? =some [(a,o)]):Own (H.set a o') (ms.set k [(a,o')]):=by
 refine⟨fun m hm p hp=> ?_,by rw[anH (m':=[(a,o')]) ah rfl];exact h.2⟩;obtain⟨i,hi⟩:=oN.1 hm;by_cases e:k=i
 ·subst e
  rw[tu (fF.1 ah).1]at hi;cases hi;simp at hp;subst hp;rw[tu (xM (h.get k ah))]
 ·rw[lG e]at hi
  have:=h.J8 ah hi e (p:=(a,o)) (by simp) hp;rw[lG this];exact h.1 m (e0 hi) p hp
theorem Own.fill{ms:cO}(h:Own H ms)(k:Nat){o:cD}(ah:ms[k]? =some []):Own (H++[o]) (ms.set k [(H.length,o)]):=by
 refine⟨fun m hm p hp=> ?_,?_⟩
 ·obtain⟨i,hi⟩:=oN.1 hm
  by_cases e:k=i
  ·subst e
   rw[tu (fF.1 ah).1]at hi;cases hi;simp at hp;subst hp;simp
  ·rw[lG e]at hi
   have lO:=e0 hi;rw[gM (h.lt lO hp)];exact h.1 m lO p hp
 ·have:=h.2
  rw[TI]at this⊢;intro i j hi hj cW a ao gU;simp only[jn,yt]at hi hj;simp only[H7,List.getElem_set]at ao gU;have hb:∀{i:Nat} (hi:i<ms.length) {a:Nat},a∈(ms[i]).map Prod.fst->a<H.length:=fun hi a ao=>h.keys (sa (w9 hi)) ao;by_cases ag:k=i
  ·have e2:k≠j:=by omega
   rw[if_pos ag]at ao;rw[if_neg e2]at gU;have:=hb hj gU;simp at ao;omega
  ·by_cases e2:k=j
   ·rw[if_neg ag]at ao;rw[if_pos e2]at gU
    have:=hb hi ao;simp at gU;omega
   ·rw[if_neg ag]at ao;rw[if_neg e2]at gU
    exact this i j (by simpa using hi) (by simpa using hj) cW a (by simpa using ao) (by simpa using gU)
theorem Own.drop{ms:cO}(h:Own H ms)(k:Nat):Own H (ms.eraseIdx k):=by
 have hs:=List.eraseIdx_sublist ms k;exact⟨fun m hm=>h.1 m (hs.subset hm),h.2.sublist (hs.map _)⟩
theorem P0{α:Type}{x a:α}:∀{l:List α} {k:Nat},x∈l.insertIdx k a->x=a\/x∈l
 |l,0,h=>by simpa using h
 |[],k+1,h=>by simp at h
 |b::l,k+1,h=>by
  rw[List.insertIdx_succ_cons]at h;rcases dL.1 h with rfl|h
  ·exact .inr (by simp)
  ·rcases P0 h with rfl|h
   ·exact .inl rfl
   ·exact .inr (lg _ h)
theorem Own.ins{ms:cO}(h:Own H ms)(k:Nat):Own H (ms.insertIdx k []):=by
 refine⟨fun m hm p hp=> ?_,?_⟩
 ·rcases P0 hm with rfl|hm
  ·cases hp
  ·exact h.1 m hm p hp
 ·have:∀(ms:List (List Nat)) (k:Nat),ms.Pairwise (fun x y=>∀a∈x,a∉y)->(ms.insertIdx k []).Pairwise (fun x y=>∀a∈x,a∉y):=by
   intro ms
   induction ms with
   |nil=>intro k _;cases k<;>simp
   |cons m ms ih=>
    intro k hp;cases k with
    |zero=>simp only[List.insertIdx_zero,HZ];exact⟨by simp,HZ.1 hp⟩
    |succ k=>
     rw[List.insertIdx_succ_cons,HZ];obtain⟨h1,h2⟩:=HZ.1 hp;refine⟨fun y hy=> ?_,ih k h2⟩;rcases P0 hy with rfl|hy
     ·simp
     ·exact h1 y hy
  have h2:=this _ k h.2
  have e:(ms.insertIdx k []).map (·.map Prod.fst)=(ms.map (·.map Prod.fst)).insertIdx k []:=by
   clear h2 this h
   induction ms generalizing k with
   |nil=>cases k<;>simp
   |cons m ms ih=>cases k<;>simp[*]
  rw[e];exact h2
theorem Own.abt{ms:cO}(h:Own H ms)(ks:List Nat)(ah:ks.Nodup):Own H (ks.map fun k=>ms.getD k []):=by
 refine⟨fun m hm p hp=> ?_,?_⟩
 ·obtain⟨k,-,rfl⟩:=eM.1 hm
  simp only[yn]at hp;cases hx:ms[k]? with
  |none=>rw[hx]at hp;cases hp
  |some m=>rw[hx]at hp;exact h.1 m (e0 hx) p hp
 ·rw[sf,List.pairwise_map]
  refine List.Pairwise.imp ?_ ah;intro i j cW a ao gU;simp only[Function.comp,yn]at ao gU;cases hi:ms[i]? with
  |none=>rw[hi]at ao;cases ao
  |some m=>cases hj:ms[j]? with
   |none=>rw[hj]at gU;cases gU
   |some m'=>
    rw[hi]at ao;rw[hj]at gU;obtain⟨p,hp,rfl⟩:=eM.1 ao;obtain⟨q,bj,e⟩:=eM.1 gU;exact h.J8 hi hj cW hp bj e.symm
end
end Go.Abs
namespace Go.Abs
open Go
inductive ak (α:Type) where
 |nil
 |emp
 |mk (l:List α)
 deriving Inhabited
def ak.l{α:Type}:ak α->List α
 | .mk l=>l
 | _=>[]
def ak.len{α:Type}(x:ak α):Int:=(x.l.length:Int)
def bU{α:Type}(es:Nat)(f:α->V):ak α->V
 | .nil=>.aY
 | .emp=>.emp
 | .mk l=>.list es (l.map f)
abbrev aN (n:Int):Int:=IntKind.i64.wrap n
abbrev aQ (n:Int):V:=.int .i64 n
def aP{α:Type}(l:List α)(i:Int):Option α:=if 0<=i then l[i.toNat]? else none
inductive cE (S O:Type) where
 |next (s:S)
 |out (o:O)
inductive bJ (S R:Type) where
 |go (s:S)
 |ret (r:R)
def pd{S O:Type}(f:S->Option (cE S O)):Nat->S->Option O
 |0,_=>none
 |n+1,s=>match f s with
  |some (.next ar)=>pd f n ar
  |some (.out o)=>some o
  |none=>none
theorem P1{S O:Type}{f:S->Option (cE S O)}:∀{n m:Nat} {s:S} {o:O},n<=m->pd f n s=some o->pd f m s=some o
 |0,_,_,_,_,h=>by cases h
 |n+1,0,_,_,hm,h=>by omega
 |n+1,m+1,s,o,hm,h=>by
  simp only[pd]at h⊢;split at h
  ·exact P1 (by omega) h
  ·exact h
  ·cases h
open Classical in
noncomputable def bO{S O:Type}(f:S->Option (cE S O))(s:S):Option O:=
 if h:∃n o,pd f n s=some o then some h.choose_spec.choose else none
theorem v7{S O:Type}{f:S->Option (cE S O)}{s:S}{o:O}:bO f s=some o↔∃n,pd f n s=some o:=by
 unfold bO;constructor
 ·intro h
  split at h
  ·rename_i hx
   cases h;exact⟨_,hx.choose_spec.choose_spec⟩
  ·cases h
 ·rintro⟨n,hn⟩
  have hx:∃n o,pd f n s=some o:=⟨n,o,hn⟩;rw[dif_pos hx];have h1:=P1 (tx n hx.choose) hn;have h2:=P1 (sc n hx.choose) hx.choose_spec.choose_spec;rw[h1]at h2;exact h2.symm
theorem hD{S O:Type}(f:S->Option (cE S O))(s:S):bO f s=match f s with
  |some (.next ar)=>bO f ar
  |some (.out o)=>some o
  |none=>none:=by
 cases ae:f s with
 |none=>
  simp only[];cases h:bO f s with
  |none=>rfl
  |some o=>
   obtain⟨n,hn⟩:=v7.1 h;cases n with
   |zero=>cases hn
   |succ n=>simp[pd,ae]at hn
 |some r=>cases r with
  |out o=>exact v7.2 ⟨1,by simp[pd,ae]⟩
  |next ar=>
   simp only[];cases h:bO f ar with
   |some o=>
    obtain⟨n,hn⟩:=v7.1 h;exact v7.2 ⟨n+1,by simp[pd,ae,hn]⟩
   |none=>
    cases h':bO f s with
    |none=>rfl
    |some o=>
     obtain⟨n,hn⟩:=v7.1 h';cases n with
     |zero=>cases hn
     |succ n=>
      simp only[pd,ae]at hn;rw[v7.2 ⟨n,hn⟩]at h;cases h
section
variable{ad:Nat->Option cb}{b:Nat}{aq σ:bY}{H:Heap}
theorem anI{S O:Type}{c:b8}(f:S->Option (cE S O))(I:S->bY->Heap->Prop)(P:O->X->bY->Heap->Prop)
  (round:∀s σ H r,I s σ H->f s=some r->fg ad b c σ H fun x aV H'=>match r with
    | .next ar=>x=.normal/\I ar aV H'
    | .out o=>x≠ .normal/\P o x aV H') {s:S} {o:O} (h:bO f s=some o) (a7:I s σ H):fg ad b (.loop c) σ H (P o):=by
 obtain⟨n,hn⟩:=v7.1 h;clear h
 induction n generalizing s σ H with
 |zero=>cases hn
 |succ n ih=>
  intro aw low h1 h2 av;simp only[pd]at hn;cases ae:f s with
  |none=>rw[ae]at hn;cases hn
  |some r=>
   rw[ae]at hn;obtain⟨x,dv,H',low',aV,ag,e2,bI,cz,dF⟩:=round s σ H r a7 ae aw low h1 h2 av;rw[ru,ag];cases r with
   |next ar=>
    obtain⟨rfl,zj⟩:=dF;exact ih zj hn dv low' e2 bI cz
   |out o'=>
    cases hn;obtain⟨hx,p9⟩:=dF;refine⟨x,dv,H',low',aV,?_,e2,bI,cz,p9⟩;cases x<;>first|rfl|exact absurd rfl hx
theorem bind_some{α β:Type}{a:Option α}{f:α->Option β}{r:β}(h:a.bind f=some r):∃x,a=some x/\f x=some r:=dT.1 h
theorem qR{α:Type}{c:Bool}{p q:Option α}{r:α}(h:(bif c then p else q)=some r):(c=true/\p=some r)\/(c=false/\q=some r):=by
 cases c
 ·exact .inr ⟨rfl,h⟩
 ·exact .inl ⟨rfl,h⟩
variable{α:Type}{es:Nat}{f:α->V}{ai:aj->V}
theorem v8{call:c1}{x:aj}{s:ak α}(h:ai x=bU es f s)(low:Nat):cf call ai H low (.len 1 x)=some (aQ s.len,H,low):=by
 show step ai H low (.len 1 x)=_;cases s<;>simp[step,h,bU,ak.len,ak.l]
theorem zB{call:c1}{x i:aj}{s:ak α}{n:Int}{a:α}{k:IntKind}(h:ai x=bU es f s)(hi:ai i=.int k n)(hx:aP s.l n=some a)(low:Nat):cf call ai H low (.indexAddr es x i)=some (.dW (aF (f a)) 0,H,low):=by
 show step ai H low (.indexAddr es x i)=_;unfold aP at hx;split at hx
 ·rename_i hn
  cases s<;>simp_all [step,bU,ak.l,kU]
 ·cases hx
end
end Go.Abs
namespace Go.Abs
open Go
abbrev aW:=List UInt8
theorem lX{b:Bool}(h:b=true):(!b)=false:=by rw[h];rfl
theorem lY{b:Bool}(h:b=false):(!b)=true:=by rw[h];rfl
@[simp] theorem pe {α : Type} (es : Nat) (f : α -> V) (s : ak α) : bQ (bU es f s) = true := by cases s <;> rfl
@[simp] theorem aA4 (k : IntKind) (n : Int) : bQ (.int k n) = true := rfl
@[simp] theorem aA5 (b : Bool) : bQ (.bool b) = true := rfl
@[simp] theorem aA6 (b : List UInt8) : bQ (.str b) = true := rfl
@[simp] theorem P2 (k : IntKind) (n : Int) : aF (.int k n) = [.int k n] := rfl
@[simp] theorem aA7 (b : Bool) : aF (.bool b) = [.bool b] := rfl
@[simp] theorem aA8 (b : List UInt8) : aF (.str b) = [.str b] := rfl
@[simp] theorem anJ {α : Type} (es : Nat) (f : α -> V) (s : ak α) : eH (bU es f s) = true := by cases s <;> rfl
@[simp] theorem aA9 (k : IntKind) (n : Int) : eH (.int k n) = true := rfl
@[simp] theorem aBa (b : Bool) : eH (.bool b) = true := rfl
@[simp] theorem aBb (b : List UInt8) : eH (.str b) = true := rfl
@[simp] theorem aBc : eH .aY = true := rfl
@[simp] theorem aBd : eH .emp = true := rfl
@[simp] theorem aBe : eH .iY = true := rfl
@[simp] theorem aBf : eH .jL = true := rfl
@[simp] theorem aBg : eH .kA = true := rfl
@[simp] theorem aBh : eH .h7 = true := rfl
@[simp] theorem aBi (a o : Nat) : eH (.ptr a o) = true := rfl
@[simp] theorem aBj (a : Nat) : eH (.map a) = true := rfl
@[simp] theorem aBk (a : Nat) (x y : List V) : eH (.fn a x y) = true := rfl
@[simp] theorem aBl (a : Nat) (x : List V) : eH (.list a x) = true := rfl
@[simp] theorem abu {α : Type} (es : Nat) (f : α -> V) (s : ak α) : aF (bU es f s) = [bU es f s] := by cases s <;> rfl
def Cn (a b:Int):Option Int:=if b=0 then none else some (aN (a.tdiv b))
def Co (a b:Int):Option Int:=if b=0 then none else some (a.tmod b)
def da (a b:aW):Option aW:=if a.length+b.length<=2^40 then some (a++b)else none
inductive jy (b es:Nat):V->ak V->List (Nat × cD)->Prop
 |nil:jy b es .aY .nil []
 |emp:jy b es .emp .emp []
 |row (l:Nat) (ds:List V) (h:ds≠[]) (hb:b<=l):jy b es (.b7 l es 0 ds.length ds.length) (.mk ds) [(l,.row es ds false)]
def ak.map{α β:Type}(f:α->β):ak α->ak β
 | .nil=>.nil
 | .emp=>.emp
 | .mk l=>.mk (l.map f)
abbrev iO{α:Type}(b es:Nat)(f:α->V)(v:V)(s:ak α)(m:List (Nat × cD)):Prop:=jy b es v (s.map f) m
theorem anK{α:Type}(es:Nat)(f:α->V)(s:ak α):bU es f s=bU es id (s.map f):=by cases s<;>simp[bU,ak.map]
def jz{α:Type}(bytes:Nat)(s y:ak α):Option (ak α):=
 if y.l=[]then some s else if(s.l.length+y.l.length)*(bytes+1)<=2^40 then some (.mk (s.l++y.l))else none
def qS{α:Type}(s:ak α)(a c:Int):Option (ak α):=match s with
 | .nil=>if a=0/\c=0 then some .nil else none
 | .emp=>if a=0/\c=0 then some .emp else none
 | .mk l=>if 0<=a/\a<=c/\c<=l.length then some (.mk ((l.take c.toNat).drop a.toNat))else none
def qa (s:aW)(a c:Int):Option aW:=if 0<=a/\a<=c/\c<=s.length then some ((s.take c.toNat).drop a.toNat)else none
def ak.isNil{α:Type}:ak α->Bool
 | .nil=>true
 | _=>false
def jg{K W:Type}[BEq K](m:List (K × W))(k:K):Option W:=(m.find? fun p=>k==p.1).map (·.2)
def mI{K W:Type}[BEq K]:List (K × W)->K->W->List (K × W)
 |[],k,w=>[(k,w)]
 |p::r,k,w=>if k==p.1 then(k,w)::r else p::mI r k w
def xN{α:Type}(bytes:Nat)(z:α)(n:Int):Option (ak α):=if 0<=n/\n*(bytes+1)<=2^40 then some (if n=0 then .emp else .mk (List.replicate n.toNat z))else none
def pf{α:Type}(s:ak α)(i:Int)(e:α):ak α:=.mk (s.l.set i.toNat e)
mutual
theorem P3{n:Nat}:∀{v:V},bQ v=true->old n v=true
 | .bool _,_| .int _ _,_| .str _,_| .aY,_| .emp,_| .iY,_| .h7,_| .kA,_| .jL,_| .list _ _,_=>rfl
 | .agg vs,h=>by simp only[bQ]at h;simp only[old];exact Cp h
 | .bd vs,h=>by simp only[bQ]at h;simp only[old];exact Cp h
 | .fn i a b,h=>by simp only[bQ,ca]at h;simp only[old,ca];exact⟨Cp h.1,Cp h.2⟩
 | .iface t v,h=>by simp only[bQ]at h;simp only[old];exact P3 h
 | .ptr ..,h| .hg ..,h| .dW ..,h| .b7 ..,h| .map ..,h| .yield ..,h| .undef,h=>by simp[bQ]at h
theorem Cp{n:Nat}:∀{vs:List V},cx vs=true->olds n vs=true
 |[],_=>rfl
 |v::vs,h=>by
  simp only[cx,ca]at h;simp only[olds,ca];exact⟨P3 h.1,Cp h.2⟩
end
section
variable{ad:Nat->Option cb}{b:Nat}{aq σ:bY}{H:Heap}{wr:List Bool}{rest:List bP}{call:c1}{ai:aj->V}
theorem P4{c:b8}{Q:X->bY->Heap->Prop}(P:X->bY->Heap->Prop)(h:fg ad b c σ H P)(k:∀x aV H',P x aV H'->Q x aV H'):fg ad b c σ H Q:=h.mono k
theorem qT{c a d:aj}{β:Bool}(h:ai c=.bool β)(pb:β=true):cf call ai H H.length (.pick c a d)=some (ai a,H,H.length):=by rw[o8,h,pb];rfl
theorem Cq{c a d:aj}{β:Bool}(h:ai c=.bool β)(pb:β=false):cf call ai H H.length (.pick c a d)=some (ai d,H,H.length):=by rw[o8,h,pb];rfl
theorem ib{x:aj}{sh:Option Nat}{a o:Nat}{cs:List V}{v:V}(h:ai x=.ptr a o)(bx:H[a]? =some (.cells cs))(hr:iq cs o sh=some v):cf call ai H H.length (.load sh x)=some (v,H,H.length):=by
 rw[nJ,h];simp[jN,bx,hr]
theorem anL{x i:aj}{s:aW}{k:IntKind}{n:Int}{c:UInt8}(h:ai x=.str s)(hi:ai i=.int k n)(hx:aP s n=some c)(low:Nat):cf call ai H low (.rn x i)=some (.int .u8 c.toNat,H,low):=by
 show step ai H low (.rn x i)=_;unfold aP at hx;split at hx
 ·rename_i hn
  simp_all [step,kU]
 ·cases hx
theorem anM{z:List V}{parts:List (Nat × Nat × aj)}{cs:List V}(h:u4 z (parts.map fun p=>(p.1,p.2.1,ai p.2.2))=some cs):cf call ai H H.length (.build z parts)=some (.agg cs,H,H.length):=by
 show step ai H H.length (.build z parts)=_;simp only[step,h];rfl
theorem xO:∀{vs:List V} {low:Nat},cx vs=true->e4 H low vs=some (vs,H,low)
 |[],_,_=>rfl
 |v::r,low,h=>by
  simp only[cx,ca]at h;simp only[e4,fR,ei,h.1,if_true,xO h.2]
theorem zC{d:Option (Nat × Bool)}{g:Option (aj × Bool)}{z:List V}{Q:bY->Heap->List Bool->Prop}{ms:cO}(hw:gQ aq σ g=some true)(aB:Own H ms)
  (k:∀H' a,b<=a->Own H' ([(a,.cells z)]::ms)->Op ad b rest (gl aq d (.ptr a 0)) (gm σ d (.ptr a 0)) H' (true::wr) Q):Op ad b (⟨d,.alloc z,g⟩::rest) aq σ H wr Q:=by
 intro aG aw low h1 h2 av bc;exact oy (o:=⟨d,.alloc z,g⟩) (mv:=true) hw (fun hb=>⟨by simp;omega,H.length,hb,rU z,by simp[fm]⟩) (k _ _ bc (aB.grow _)) aG aw low h1 h2 av bc
theorem P5{d:Option (Nat × Bool)}{g:Option (aj × Bool)}{x:aj}{cs:List V}{Q:bY->Heap->List Bool->Prop}{ms:cO}(hw:gQ aq σ g=some true)(aB:Own H ms)(hx:aF (bV aq σ x)=cs)(hc:bX cs=true)
  (k:∀H' a,b<=a->Own H' ([(a,.cells cs)]::ms)->Op ad b rest (gl aq d (.ptr a 0)) (gm σ d (.ptr a 0)) H' (true::wr) Q):Op ad b (⟨d,.box x,g⟩::rest) aq σ H wr Q:=by
 intro aG aw low h1 h2 av bc;exact oy (o:=⟨d,.box x,g⟩) (mv:=true) hw (fun hb=>⟨by simp;omega,H.length,hb,by simp only[];rw[vT,hx,if_pos hc],by simp[fm]⟩) (k _ _ bc (aB.grow _)) aG aw low h1 h2 av bc
theorem abv{d:Option (Nat × Bool)}{g:Option (aj × Bool)}{Q:bY->Heap->List Bool->Prop}{ms:cO}(hw:gQ aq σ g=some true)(aB:Own H ms)
  (k:∀H' a,b<=a->Own H' ([(a,.map [])]::ms)->Op ad b rest (gl aq d (.map a)) (gm σ d (.map a)) H' (true::wr) Q):Op ad b (⟨d,.mkMap,g⟩::rest) aq σ H wr Q:=by
 intro aG aw low h1 h2 av bc;exact oy (o:=⟨d,.mkMap,g⟩) (mv:=true) hw (fun hb=>⟨by simp;omega,H.length,hb,W9,by simp[fm]⟩) (k _ _ bc (aB.grow _)) aG aw low h1 h2 av bc
theorem zD{d:Option (Nat × Bool)}{g:Option (aj × Bool)}{n o a:Nat}{x y:aj}{cs vs cs':List V}{Q:bY->Heap->List Bool->Prop}{ms:cO}(hw:gQ aq σ g=some true)(aB:Own H ms)(k:Nat)
  (ah:ms[k]? =some [(a,.cells cs)]) (hb:b<=a) (hx:bV aq σ x=.ptr a o) (hy:aF (bV aq σ y)=vs) (hn:vs.length=n/\o+n<=cs.length) (hc:bX vs=true) (hs:setCells cs o vs=cs')
  (cT:∀H',Own H' (ms.set k [(a,.cells cs')])->Op ad b rest (gl aq d .undef) (gm σ d .undef) H' (true::wr) Q):Op ad b (⟨d,.store n x y,g⟩::rest) aq σ H wr Q:=by
 have bx:=aB.get k ah;have aH:=xM bx;refine oy (o:=⟨d,.store n x y,g⟩) (mv:=true) (H1:=H.set a (.cells cs')) hw (fun c6=>⟨by simpa using c6,a,hb,?_,by simp[fm,aH]⟩) (cT _ (aB.put k ah));simp only[mH,hx,jO,bx,hy];rw[if_pos ⟨hn.1,by omega,hc⟩];subst hs;simp[se aH]
theorem Cr{f:aj}{aU:List aj}{fv v:V}{vs:List V}(hc:call fv vs H=some (v,H,H.length))(aI:e4 H H.length vs=some (vs,H,H.length))(ao:aU.map ai=vs)(ae:ai f=fv):cf call ai H H.length (.call false f aU)=some (v,H,H.length):=by
 subst ao;subst ae;rw[p6,aI];simp[hc]
theorem anN{low:Nat}:e4 H low []=some ([],H,low):=rfl
theorem abw{low:Nat}{v:V}{vs:List V}(h:bQ v=true)(r:e4 H low vs=some (vs,H,low)):e4 H low (v::vs)=some (v::vs,H,low):=by
 simp only[e4,fR,ei,h,if_true,r]
theorem abx{low:Nat}{v:V}{vs:List V}(h:∀H low,fR H low v=some (v,H,low))(r:e4 H low vs=some (vs,H,low)):e4 H low (v::vs)=some (v::vs,H,low):=by
 simp only[e4,h,r]
theorem P6{es:Nat}{z:V}:∀(vs pre:List V),(∀v∈vs,(aF v).length=es/\bX (aF v)=true)->qw es (pre++List.replicate vs.length z) ((List.range' pre.length vs.length).zip vs)=some (pre++vs)
 |[],pre,_=>by simp[qw]
 |v::vs,pre,h=>by
  have af:=h v (by simp);simp only[dE,uZ,DI,qw];rw[if_pos ⟨af.1,by simp,af.2⟩]
  have e:(pre++List.replicate (vs.length+1) z).set pre.length v=(pre++[v])++List.replicate vs.length z:=by
   rw[DG];simp
  rw[e];have:=P6 (es:=es) (z:=z) vs (pre++[v]) (fun u hu=>h u (by simp[hu]));simp only[e1,dE,eF,er]at this;rw[this];simp
theorem anO{es n:Nat}{z vs:List V}{parts:List (Nat × aj)}(af:(parts.map fun p=>ai p.2)=vs)(hi:parts.map Prod.fst=List.range' 0 vs.length)(hn:vs.length=n)(h0:(n=0)=False)(hp:cx vs=true)(hc:∀v∈vs,(aF v).length=es/\bX (aF v)=true):
  cf call ai H H.length (.lit es z n parts true)=some (.list es vs,H,H.length):=by
 have aI:(parts.zip vs).map (fun(p,v)=>(p.1,v))=(List.range' 0 vs.length).zip vs:=by
  rw[<-hi];clear hi hp hc hn;subst af
  induction parts with
  |nil=>rfl
  |cons p ps ih=>simp[ih]
 have ae:=P6 (es:=es) (z:=lJ z) vs [] hc;simp only[ke,eF]at ae;rw[JP];simp only[step,af,xO hp];rw[aI,<-hn,ae];simp only[hp,if_true,hn,h0,if_false]
theorem anP{es:Nat}{z:List V}{x:V}(h:x=V.emp):cf call ai H H.length (.lit es z 0 [] true)=some (x,H,H.length):=by
 rw[JP,h];simp[step,e4,qw,cx]
def zE (ai:aj->V)(x:Option aj)(Nc a:Int):Prop:=(x=none/\a=Nc)\/∃o,x=some o/\ai o=aQ a
theorem zE.eq{x:Option aj}{d a:Int}(h:zE ai x d a){n:Nat}(hd:d=n)(ao:0<=a):e5 ai n x=some a.toNat:=by
 rcases h with⟨rfl,rfl⟩|⟨o,rfl,e⟩
 ·subst hd;rfl
 ·simp[e5,e,kU,ao]
theorem J9{α:Type}{es:Nat}{f:α->V}{s ar:ak α}{x:aj}{lo hi:Option aj}{a c:Int}(hs:qS s a c=some ar)(ao:zE ai lo 0 a)(hc:zE ai hi s.len c)(h:ai x=bU es f s):cf call ai H H.length (.tC es x lo hi none)=some (bU es f ar,H,H.length):=by
 rw[Xa];cases s with
 |nil=>
  simp only[qS]at hs;split at hs
  ·rename_i q;obtain⟨rfl,rfl⟩:=q;cases hs
   simp only[step,h,bU];rw[ao.eq (n:=0) rfl (Int.le_refl _),hc.eq (n:=0) rfl (Int.le_refl _)];rfl
  ·cases hs
 |emp=>
  simp only[qS]at hs;split at hs
  ·rename_i q;obtain⟨rfl,rfl⟩:=q;cases hs
   simp only[step,h,bU];rw[ao.eq (n:=0) rfl (Int.le_refl _),hc.eq (n:=0) rfl (Int.le_refl _)];rfl
  ·cases hs
 |mk l=>
  simp only[qS]at hs;split at hs
  ·rename_i q;obtain⟨q1,aT,b3⟩:=q;cases hs
   have ag:=ao.eq (n:=0) rfl q1;have e2:=hc.eq (n:=(l.map f).length) (by simp[ak.len,ak.l]) (by omega);simp only[step,h,bU,ag,e2];rw[if_pos ⟨by omega,by simp;omega,trivial⟩];simp
  ·cases hs
theorem Ka{s ar:aW}{x:aj}{lo hi:Option aj}{a c:Int}(hs:qa s a c=some ar)(ao:zE ai lo 0 a)(hc:zE ai hi (s.length:Int) c)(h:ai x=.str s):cf call ai H H.length (.qs x lo hi)=some (.str ar,H,H.length):=by
 show step ai H H.length (.qs x lo hi)=_;unfold qa at hs;split at hs
 ·rename_i q;obtain⟨q1,aT,b3⟩:=q;cases hs
  simp only[step,h,ao.eq (n:=0) rfl q1,hc.eq (n:=s.length) rfl (by omega)];rw[if_pos ⟨by omega,by omega⟩]
 ·cases hs
theorem jy.cells{b es:Nat}{v:V}{s:ak V}{m:List (Nat × cD)}(h:jy b es v s m):aF v=[v]:=by cases h<;>rfl
theorem jy.eH{b es:Nat}{v:V}{s:ak V}{m:List (Nat × cD)}(h:jy b es v s m):Abs.eH v=true:=by cases h<;>rfl
theorem wc{α:Type}(es:Nat)(f:α->V)(s:ak α):elems H es (bU es f s)=some (s.l.map f):=by cases s<;>simp[elems,bU,ak.l]
theorem zF{α:Type}{f:α->V}(h:∀a,bQ (f a)=true):∀l:List α,cx (l.map f)=true
 |[]=>rfl
 |a::l=>by simp[cx,h a,zF h l]
theorem Fq{α:Type}{f:α->V}(h:∀a,bX (aF (f a))=true):∀l:List α,bX ((l.map f).flatMap aF)=true
 |[]=>rfl
 |a::l=>by
  have app:∀x y:List V,bX (x++y)=(bX x&&bX y):=fun x y=>by
   induction x with
   |nil=>simp[bX]
   |cons c x ih=>simp[bX,ih,DK]
  simp[app,h a,Fq h l]
theorem aby{α:Type}{es bytes:Nat}{f:α->V}{s y ar:ak α}{d:Option (Nat × Bool)}{g:Option (aj × Bool)}{iC ki:aj}{eN:V}{m:List (Nat × cD)}{Q:bY->Heap->List Bool->Prop}{ms:cO}(hw:gQ aq σ g=some true)(k:Nat)
  (hs:jz bytes s y=some ar) (aB:Own H ms) (ah:ms[k]? =some m) (hr:iO b es f eN s m) (ao:bV aq σ iC=eN) (hb:bV aq σ ki=bU es f y) (hp:∀a,bQ (f a)=true) (hc:∀a,bX (aF (f a))=true)
  (cT:∀H' v' m' mv,iO b es f v' ar m'->Own H' (ms.set k m')->Op ad b rest (gl aq d v') (gm σ d v') H' (mv::wr) Q):Op ad b (⟨d,.append es bytes iC ki,g⟩::rest) aq σ H wr Q:=by
 intro aG aw low h1 h2 av bc
 have rP:ms.set k m=ms:=by
  apply yp;intro i;by_cases e:k=i
  ·subst e;rw[tu (fF.1 ah).1,ah]
  ·rw[lG e]
 have hfz:e4 H H.length (y.l.map f)=some (y.l.map f,H,H.length):=xO (zF hp _);have we:=Fq hc y.l;unfold jz at hs;by_cases hy:y.l=[]
 ·rw[if_pos hy]at hs
  cases hs;refine oy (o:=⟨d,.append es bytes iC ki,g⟩) (mv:=false) (v:=eN) (H1:=H) hw (fun c6=>⟨c6,H.length,c6,?_,lx H⟩) (cT H eN m false hr (by rw[rP];exact aB)) aG aw low h1 h2 av bc;rw[xH];simp only[step,hb,wc];rw[hfz,hy];simp only[me,List.isEmpty_nil,if_true,ao];have fH:jy b es eN (s.map f) m:=hr;generalize wg:s.map f=lz at fH;cases fH with
  |nil=>rfl
  |emp=>rfl
  |row l ds h kg=>simp[aB.get k ah]
 ·rw[if_neg hy]at hs
  split at hs
  ·rename_i fb
   cases hs
   have bu:(y.l.map f).isEmpty=false:=by cases Fs:y.l with
    |nil=>exact absurd Fs hy
    |cons=>rfl
   have zG:(bX ((y.l.map f).flatMap aF)=false)=False:=by rw[we];simp
   have fH:jy b es eN (s.map f) m:=hr;generalize wg:s.map f=lz at fH;cases fH with
   |nil=>
    have gh:s.l=[]:=by cases s<;>simp_all [ak.map,ak.l]
    have wh:(y.l.map f).length*(bytes+1)<=2^40:=by simpa[gh]using fb
    refine oy (o:=⟨d,.append es bytes iC ki,g⟩) (mv:=true) (v:=.b7 H.length es 0 (y.l.map f).length (y.l.map f).length) (H1:=H++[.row es (y.l.map f) false]) hw
     (fun c6=>⟨by simp;omega,H.length,c6,?_,by simp[fm]⟩) (cT _ _ [(H.length,.row es (y.l.map f) false)] true ?_ (aB.fill k ah)) aG aw low h1 h2 av bc
    ·rw[xH]
     simp only[step,hb,wc];rw[hfz];simp only[bu,gN,if_false,zG,ao,wh,if_true]
    ·simp only[gh,ke,ak.map]
     exact .row _ _ (by simpa using hy) bc
   |emp=>
    have gh:s.l=[]:=by cases s<;>simp_all [ak.map,ak.l]
    have wh:(y.l.map f).length*(bytes+1)<=2^40:=by simpa[gh]using fb
    refine oy (o:=⟨d,.append es bytes iC ki,g⟩) (mv:=true) (v:=.b7 H.length es 0 (y.l.map f).length (y.l.map f).length) (H1:=H++[.row es (y.l.map f) false]) hw
     (fun c6=>⟨by simp;omega,H.length,c6,?_,by simp[fm]⟩) (cT _ _ [(H.length,.row es (y.l.map f) false)] true ?_ (aB.fill k ah)) aG aw low h1 h2 av bc
    ·rw[xH]
     simp only[step,hb,wc];rw[hfz];simp only[bu,gN,if_false,zG,ao,wh,if_true]
    ·simp only[gh,ke,ak.map]
     exact .row _ _ (by simpa using hy) bc
   |row l ds hd kg=>
    have gh:s.l.map f=ds:=by cases s<;>simp_all [ak.map,ak.l]
    have hlen:s.l.length=ds.length:=by rw[<-gh,jn]
    have bx:=aB.get k ah;have aH:=xM bx
    refine oy (o:=⟨d,.append es bytes iC ki,g⟩) (mv:=true) (v:=.b7 l es 0 (ds++y.l.map f).length (ds++y.l.map f).length) (H1:=H.set l (.row es (ds++y.l.map f) false)) hw
     (fun c6=>⟨by simpa using c6,l,kg,?_,by simp[fm,aH]⟩) (cT _ _ [(l,.row es (ds++y.l.map f) false)] true ?_ (aB.put k ah)) aG aw low h1 h2 av bc
    ·rw[xH]
     simp only[step,hb,wc];rw[hfz];simp only[bu,gN,if_false,zG,ao,bx,e1];rw[if_pos ⟨trivial,trivial,trivial,trivial,trivial,by rw[hlen]at fb;simpa using fb⟩,tw (se aH)]
     done
    ·show jy b es _ (.mk ((s.l++y.l).map f)) _
     rw[lh,gh];exact .row _ _ (by simp[hd]) kg
  ·cases hs
def wi:Nat->List V->bY
 | _,[]=>nK
 |i,v::r=>up (wi (i+1) r) i v
theorem P7:∀(i:Nat) (vs:List V),Fits (gF i vs) (wi i vs)
 | _,[]=>sR
 |i,v::r=>abo (P7 (i+1) r) i v
inductive sT (σ:bY) (H:Heap):List mV->List V->Prop
 |nil:sT σ H [] []
 |tmp {t:Nat} {v:V} {rs:List mV} {vs:List V} (h:σ t=v) (r:sT σ H rs vs):sT σ H (.tmp t::rs) (v::vs)
 |cell {a l o:Nat} {sh:Option Nat} {cs:List V} {v:V} {rs:List mV} {vs:List V} (h:σ a=.ptr l o) (bx:H[l]? =some (.cells cs)) (hr:iq cs o sh=some v) (r:sT σ H rs vs):sT σ H (.cell a sh::rs) (v::vs)
theorem sT.eq{aw:Env}(ae:Fits aw σ):∀{rs:List mV} {vs:List V},sT σ H rs vs->hK aw H rs=some vs
 | _,_,.nil=>rfl
 | _,_,.tmp h r=>by simp only[hK,kC,r.eq ae,ae _,h]
 | _,_,.cell h bx hr r=>by simp only[hK,kC,ae _,h,jN,bx,hr,r.eq ae]
@[simp] theorem aBm {α : Type} {es : Nat} {f : α -> V} {s : ak α} {l n : Nat} : bQ (.b7 l es 0 n n) = false := rfl
def nL (b n:Nat)(ms:cO)(v v':V)(gR:cO):Prop:=∀H low,Own H ms->b<=low->∃H' low',ei n H low v=some (v',H',low')/\Own H' gR/\b<=low'
def pg (b n:Nat)(ms:cO)(vs vs':List V)(gR:cO):Prop:=∀H low,Own H ms->b<=low->∃H' low',kT (ei n) H low vs=some (vs',H',low')/\Own H' gR/\b<=low'
theorem nL.plain{n:Nat}{ms:cO}{v:V}(h:bQ v=true):nL b n ms v v ms:=fun H low aB hb=>⟨H,low,by cases n<;>simp[ei,h],aB,hb⟩
theorem pg.nil{n:Nat}{ms:cO}:pg b n ms [] [] ms:=fun H low aB hb=>⟨H,low,rfl,aB,hb⟩
theorem pg.cons{n:Nat}{ms abz abA:cO}{v v':V}{vs vs':List V}(h:nL b n ms v v' abz)(r:pg b n abz vs vs' abA):pg b n ms (v::vs) (v'::vs') abA:=fun H low aB hb=>by
 obtain⟨H1,bS,ag,gS,dQ⟩:=h H low aB hb;obtain⟨H2,dM,e2,P8,fY⟩:=r H1 bS gS dQ;exact⟨H2,dM,by simp only[kT,ag,e2],P8,fY⟩
theorem nL.bd{n:Nat}{ms gR:cO}{vs vs':List V}(h:pg b n ms vs vs' gR)(hp:cx vs=false):nL b (n+1) ms (.bd vs) (.bd vs') gR:=fun H low aB hb=>by
 obtain⟨H1,bS,ag,gS,dQ⟩:=h H low aB hb;exact⟨H1,bS,by simp only[ei,bQ,hp,gN,if_false,ag],gS,dQ⟩
theorem nL.agg{n:Nat}{ms gR:cO}{vs vs':List V}(h:pg b n ms vs vs' gR)(hp:cx vs=false):nL b (n+1) ms (.agg vs) (.agg vs') gR:=fun H low aB hb=>by
 obtain⟨H1,bS,ag,gS,dQ⟩:=h H low aB hb;exact⟨H1,bS,by simp only[ei,bQ,hp,gN,if_false,ag],gS,dQ⟩
def qU (m:List (Nat × cD)):List (Nat × cD):=m.map fun p=>(p.1,match p.2 with| .row es ds _=>.row es ds true|o=>o)
theorem nL.row{α:Type}{n es:Nat}{f:α->V}{s:ak α}{v:V}{m:List (Nat × cD)}{ms:cO}(k:Nat)(ah:ms[k]? =some m)(hr:iO b es f v s m)(hp:∀a,bQ (f a)=true):nL b (n+1) ms v (bU es f s) (ms.set k (qU m)):=fun H low aB hb=>by
 have rP:∀m',m'=m->ms.set k m'=ms:=fun m' hm=>by
  apply yp;intro i;by_cases e:k=i
  ·subst e;rw[tu (fF.1 ah).1,ah,hm]
  ·rw[lG e]
 rw[anK];have fH:jy b es v (s.map f) m:=hr;generalize wg:s.map f=lz at fH;clear hr;cases fH with
 |nil=>exact⟨H,low,rfl,by rw[rP (qU []) rfl];exact aB,hb⟩
 |emp=>exact⟨H,low,rfl,by rw[rP (qU []) rfl];exact aB,hb⟩
 |row l ds h kg=>
  have tH:cx ds=true:=by
   cases s<;>simp[ak.map]at wg;rw[<-wg];exact zF hp _
  refine⟨H.set l (.row es ds true),min low l,?_,aB.put k ah,by omega⟩;simp[ei,bQ,aB.get k ah,tH,bU]
def one:List V->V
 |[x]=>x
 |us=>.bd us
def Kb (rs:List mV)(σ:bY)(H:Heap)(b:Nat)(v:V):Prop:=
 ∃(us:List V) (u:V) (ms gR:cO),sT σ H rs us/\one us=u/\Own H ms/\nL b 16 ms u v gR
theorem abB{rs:List mV}{us:List V}{v:V}(h:sT σ H rs us)(he:one us=v)(hp:bQ v=true):Kb rs σ H b v:=
 ⟨us,v,[],[],h,he,.nil H,.plain hp⟩
theorem abC{rs:List mV}{us:List V}{u v:V}{ms gR:cO}(h:sT σ H rs us)(he:one us=u)(aB:Own H ms)(hp:nL b 16 ms u v gR):Kb rs σ H b v:=
 ⟨us,u,ms,gR,h,he,aB,hp⟩
theorem abD{i:Nat}{f:hh}{args caps:List V}{v:V}(dm:ad i=some (.code f))(hl:(args++caps).length<=f.xf)(eP:f.fresh=false)
  (h:fg ad H.length f.body (wi 0 (args++caps)) H fun x aV H'=>(x=.normal\/x=.ret)/\Kb f.results aV H' H.length v) (hp:bQ v=true):
  cl ad (.fn i [] caps) args H=some (v,H,H.length):=by
 obtain⟨x,dv,H',low',aV,ag,e2,bI,cz,dF,us,u,ms,gR,hz,nM,anQ,vk⟩:=h _ H.length (P7 0 _) (aM _) (aM _);obtain⟨H2,dM,cw,-,ff⟩:=vk H' low' anQ bI;have c3:=hz.eq e2;have hold:old H.length v=true:=P3 hp
 have je:∀w,w=u->finish f.fresh H w H' low'=some (v,H,H.length):=fun w hw=>by
  subst hw;rw[eP];unfold finish;split
  ·simp_all
  ·simp only[fR,cw,ff,hold,and_self,if_true]
 rw[ny,dm];simp only[ke,gu];rw[if_pos hl,ag];rcases dF with rfl|rfl
 ·simp only[c3]
  match us,nM with
  |[w],hu=>exact je w hu
  |[],hu=>exact je _ hu
  |a::b::r,hu=>exact je _ hu
 ·simp only[c3]
  match us,nM with
  |[w],hu=>exact je w hu
  |[],hu=>exact je _ hu
  |a::b::r,hu=>exact je _ hu
end
end Go.Abs
namespace Go.Abs
open Go
section
variable{ad:Nat->Option cb}{b:Nat}{aq σ:bY}{H:Heap}{wr:List Bool}{rest:List bP}{call:c1}{ai:aj->V}
def gK{K W:Type}(gY:K->V)(gL:W->V)(m:List (K × W)):List (V × V):=m.map fun p=>(gY p.1,gL p.2)
theorem Ft (a c:Int):iZ 0 (aQ a) (aQ c)=some (a==c):=by simp[iZ]
theorem anR (a c:aW):iZ 1 (.str a) (.str c)=some (a==c):=rfl
theorem Fu{K W:Type}[BEq K]{gY:K->V}{gL:W->V}{kind:Nat}(heq:∀a c,iZ kind (gY a) (gY c)=some (a==c))(k:K):∀m:List (K × W),iu kind (gY k) (gK gY gL m)=some ((jg m k).map gL)
 |[]=>rfl
 |p::r=>by
  have ih:=Fu (gL:=gL) heq k r;simp only[gK,jg]at ih⊢;simp only[eG,iu,heq,M8];cases k==p.1<;>simp[ih]
theorem abE{K W:Type}[BEq K]{gY:K->V}{gL:W->V}{kind:Nat}(heq:∀a c,iZ kind (gY a) (gY c)=some (a==c))(k:K)(w:W):∀m:List (K × W),lI kind (gY k) (gL w) (gK gY gL m)=gK gY gL (mI m k w)
 |[]=>rfl
 |p::r=>by
  have ih:=abE (gL:=gL) heq k w r;simp only[gK]at ih⊢;simp only[eG,lI,heq,mI];cases k==p.1<;>simp[ih]
theorem abF{K W:Type}[BEq K]{gY:K->V}{gL:W->V}{kind a:Nat}{m:List (K × W)}{k:K}{z:V}{x i:aj}(heq:∀a c,iZ kind (gY a) (gY c)=some (a==c))(z0:W)(aI:z=gL z0)(bx:H[a]? =some (.map (gK gY gL m)))(hx:ai x=.map a)(hi:ai i=gY k):
  cf call ai H H.length (.lookup kind z x i false)=some (gL ((jg m k).getD z0),H,H.length):=by
 rw[JQ];simp only[step,hx,bx,hi,Fu heq];cases jg m k<;>simp[aI]
theorem anS{K W:Type}[BEq K]{gY:K->V}{gL:W->V}{kind a:Nat}{m:List (K × W)}{k:K}{z:V}{x i:aj}(heq:∀a c,iZ kind (gY a) (gY c)=some (a==c))(z0:W)(aI:z=gL z0)(bx:H[a]? =some (.map (gK gY gL m)))(hx:ai x=.map a)(hi:ai i=gY k):
  cf call ai H H.length (.lookup kind z x i true)=some (.bd [gL ((jg m k).getD z0),.bool (jg m k).isSome],H,H.length):=by
 rw[JQ];simp only[step,hx,bx,hi,Fu heq];cases jg m k<;>simp[aI]
theorem abG{K W:Type}{gY:K->V}{gL:W->V}{a:Nat}{m:List (K × W)}{x:aj}(bx:H[a]? =some (.map (gK gY gL m)))(hx:ai x=.map a):cf call ai H H.length (.len 2 x)=some (aQ (m.length:Int),H,H.length):=by
 show step ai H H.length (.len 2 x)=_;simp[step,hx,bx,gK]
theorem abH{K W:Type}[BEq K]{gY:K->V}{gL:W->V}{kind a:Nat}{m:List (K × W)}{k:K}{w:W}{d:Option (Nat × Bool)}{g:Option (aj × Bool)}{x i y:aj}{Q:bY->Heap->List Bool->Prop}{ms:cO}(hw:gQ aq σ g=some true)
  (heq:∀a c,iZ kind (gY a) (gY c)=some (a==c)) (aB:Own H ms) (j:Nat) (ah:ms[j]? =some [(a,.map (gK gY gL m))]) (hb:b<=a) (hx:bV aq σ x=.map a) (hi:bV aq σ i=gY k) (hy:bV aq σ y=gL w) (hp:bQ (gL w)=true)
  (cT:∀H',Own H' (ms.set j [(a,.map (gK gY gL (mI m k w)))])->Op ad b rest (gl aq d .undef) (gm σ d .undef) H' (true::wr) Q):Op ad b (⟨d,.qt kind x i y,g⟩::rest) aq σ H wr Q:=by
 have bx:=aB.get j ah;have aH:=xM bx;have hu:u3 (gL w)=false:=by cases af:gL w<;>simp_all [u3,bQ]
 refine oy (o:=⟨d,.qt kind x i y,g⟩) (mv:=true) (H1:=H.set a (.map (gK gY gL (mI m k w)))) hw (fun c6=>⟨by simpa using c6,a,hb,?_,by simp[fm,aH]⟩) (cT _ (aB.put j ah));simp only[Xb,step,hy];have ae:fR H H.length (gL w)=some (gL w,H,H.length):=by simp[fR,ei,hp]
 simp only[ae,hu,hx,bx,hi,Fu heq,abE heq];simp[tw (se aH)]
theorem jy.elems{α:Type}{es:Nat}{f:α->V}{s:ak α}{v:V}{m:List (Nat × cD)}{ms:cO}(aB:Own H ms)(k:Nat)(ah:ms[k]? =some m)(hr:iO b es f v s m):elems H es v=some (s.l.map f):=by
 have fH:jy b es v (s.map f) m:=hr;generalize wg:s.map f=lz at fH;clear hr;cases fH with
 |nil=>cases s<;>simp_all [ak.map,ak.l,Abs.elems]
 |emp=>cases s<;>simp_all [ak.map,ak.l,Abs.elems]
 |row l ds h hb=>
  have:s.l.map f=ds:=by cases s<;>simp_all [ak.map,ak.l]
  simp[Abs.elems,aB.get k ah,this]
theorem anT{α:Type}{es:Nat}{f:α->V}{s:ak α}{v:V}{m:List (Nat × cD)}{ms:cO}{x:aj}(aB:Own H ms)(k:Nat)(ah:ms[k]? =some m)(hr:iO b es f v s m)(hx:ai x=v):cf call ai H H.length (.len 1 x)=some (aQ s.len,H,H.length):=by
 have fH:jy b es v (s.map f) m:=hr;generalize wg:s.map f=lz at fH;clear hr;show step ai H H.length (.len 1 x)=_;cases fH with
 |nil=>cases s<;>simp_all [ak.map,ak.len,ak.l,step]
 |emp=>cases s<;>simp_all [ak.map,ak.len,ak.l,step]
 |row l ds h hb=>
  have:s.l.map f=ds:=by cases s<;>simp_all [ak.map,ak.l]
  subst this;simp[step,hx,aB.get k ah,ak.len]
theorem anU{α:Type}{es bytes:Nat}{f:α->V}{z:List V}{e:α}{n:Int}{s:ak α}{b1 abI:IntKind}{d:Option (Nat × Bool)}{g:Option (aj × Bool)}{x y:aj}{Q:bY->Heap->List Bool->Prop}{ms:cO}(hw:gQ aq σ g=some true)
  (hs:xN bytes e n=some s) (aB:Own H ms) (aI:lJ z=f e) (hx:bV aq σ x=.int b1 n) (hy:bV aq σ y=.int abI n)
  (cT:∀H' v' m' mv,iO b es f v' s m'->Own H' (m'::ms)->Op ad b rest (gl aq d v') (gm σ d v') H' (mv::wr) Q):Op ad b (⟨d,.mkSlice es z bytes x y,g⟩::rest) aq σ H wr Q:=by
 intro aG aw low h1 h2 av bc;unfold xN at hs;split at hs
 ·rename_i hc
  cases hs;by_cases h0:n=0
  ·subst h0
   refine oy (o:=⟨d,.mkSlice es z bytes x y,g⟩) (mv:=false) (v:=.emp) (H1:=H) hw (fun c6=>⟨c6,H.length,c6,?_,lx H⟩) (cT H .emp [] false ?_ (aB.ins 0)) aG aw low h1 h2 av bc
   ·rw[PQ];simp[step,hx,hy]
   ·exact .emp
  ·refine oy (o:=⟨d,.mkSlice es z bytes x y,g⟩) (mv:=true) (v:=.b7 H.length es 0 n.toNat n.toNat) (H1:=H++[.row es (List.replicate n.toNat (f e)) false]) hw
    (fun c6=>⟨by simp;omega,H.length,c6,?_,by simp[fm]⟩) (cT _ _ [(H.length,.row es (List.replicate n.toNat (f e)) false)] true ?_ (aB.grow _)) aG aw low h1 h2 av bc
   ·rw[PQ];simp only[step,hx,hy,aI]
    rw[if_pos ⟨trivial,hc.1,hc.2⟩,if_neg h0]
   ·rw[if_neg h0]
    have:jy b es (.b7 H.length es 0 (List.replicate n.toNat (f e)).length (List.replicate n.toNat (f e)).length) (.mk (List.replicate n.toNat (f e))) [(H.length,.row es (List.replicate n.toNat (f e)) false)]:=.row _ _ (by simp;omega) bc;simpa[iO,ak.map]using this
 ·cases hs
theorem jy.at{α:Type}{es:Nat}{f:α->V}{s:ak α}{v:V}{m:List (Nat × cD)}{l N:Nat}(hr:iO b es f v s m)(af:v=.b7 l es 0 N N):m=[(l,.row es (s.l.map f) false)]/\N=(s.l.map f).length/\b<=l/\s.map f=.mk (s.l.map f):=by
 have fH:jy b es v (s.map f) m:=hr;generalize wg:s.map f=lz at fH;clear hr;cases fH with
 |nil=>cases af
 |emp=>cases af
 |row l ds h hb=>
  have:s.l.map f=ds:=by cases s<;>simp_all [ak.map,ak.l]
  cases af;exact⟨by rw[this],by rw[this],hb,by rw[this]⟩
theorem anV{α:Type}{es l N off:Nat}{f:α->V}{s:ak α}{n:Int}{e:α}{v u:V}{m:List (Nat × cD)}{ms:cO}{sh:Option Nat}{x:aj}(k:Nat)(he:aP s.l n=some e)(aB:Own H ms)(ah:ms[k]? =some m)(hr:iO b es f v s m)(af:v=.b7 l es 0 N N)(hu:iq (aF (f e)) off sh=some u)(hx:ai x=.hg l es n.toNat off N):
  cf call ai H H.length (.load sh x)=some (u,H,H.length):=by
 obtain⟨rfl,rfl,-,-⟩:=hr.at af;rw[nJ,hx];unfold aP at he;split at he
 ·simp[jN,aB.get k ah,he,hu]
 ·cases he
theorem anW{α:Type}{es l N off cQ:Nat}{f:α->V}{s:ak α}{n:Int}{e e':α}{v:V}{m:List (Nat × cD)}{vs:List V}{d:Option (Nat × Bool)}{g:Option (aj × Bool)}{x y:aj}{Q:bY->Heap->List Bool->Prop}{ms:cO}(hw:gQ aq σ g=some true)(k:Nat)
  (he:aP s.l n=some e) (aB:Own H ms) (ah:ms[k]? =some m) (hr:iO b es f v s m) (af:v=.b7 l es 0 N N) (hx:bV aq σ x=.hg l es n.toNat off N) (hy:aF (bV aq σ y)=vs) (hn:vs.length=cQ) (hp:mf vs=true) (mB:xg (f e) off vs=some (f e'))
  (cT:∀H' m',iO b es f v (pf s n e') m'->Own H' (ms.set k m')->Op ad b rest (gl aq d .undef) (gm σ d .undef) H' (true::wr) Q):Op ad b (⟨d,.store cQ x y,g⟩::rest) aq σ H wr Q:=by
 obtain⟨rfl,rfl,hb,eT⟩:=hr.at af;have bx:=aB.get k ah;have aH:=xM bx;unfold aP at he;split at he
 ·rename_i oa
  have hi:n.toNat<s.l.length:=(fF.1 he).1;have rP:(s.l.map f).set n.toNat (f e')=(pf s n e').l.map f:=by simp[pf,ak.l,List.map_set]
  have bu:(pf s n e').l.map f≠[]:=by
   have hlen:((pf s n e').l.map f).length=s.l.length:=by simp[pf,ak.l]
   intro h0;rw[h0]at hlen;simp at hlen;omega
  refine oy (o:=⟨d,.store cQ x y,g⟩) (mv:=true) (H1:=H.set l (.row es ((pf s n e').l.map f) false)) hw (fun c6=>⟨by simpa using c6,l,hb,?_,by simp[fm,aH]⟩) (cT _ _ ?_ (aB.put k ah))
  ·simp only[mH,hx,jO,bx,hy]
   rw[if_pos ⟨trivial,trivial,hn,hp⟩];simp[he,mB,rP,tw (se aH)]
  ·have:=jy.row (b:=b) (es:=es) l ((pf s n e').l.map f) bu hb
   rw[af];have hl:((pf s n e').l.map f).length=(s.l.map f).length:=by simp[pf,ak.l]
   rw[hl]at this;exact this
 ·cases he
theorem P9:∀{vs:List V} {H:Heap} {low:Nat},e4 H low vs=kT (ei 16) H low vs
 |[],_,_=>rfl
 |v::vs,H,low=>by
  simp only[e4,kT,fR];cases ei 16 H low v with
  |none=>rfl
  |some r=>simp only[P9]
theorem abJ{d:Option (Nat × Bool)}{g:Option (aj × Bool)}{f:aj}{aU:List aj}{fv v:V}{vs vs':List V}{Q:bY->Heap->List Bool->Prop}{ms gR:cO}(hw:gQ aq σ g=some true)(aB:Own H ms)(aI:pg b 16 ms vs vs' gR)
  (hc:∀H',cl ad fv vs' H'=some (v,H',H'.length)) (ll:flat v=true) (ao:aU.map (bV aq σ)=vs) (ae:bV aq σ f=fv)
  (cT:Op ad b rest (gl aq d v) (gm σ d v) H (false::wr) Q):Op ad b (⟨d,.call false f aU,g⟩::rest) aq σ H wr Q:=by
 intro aG aw low h1 h2 av bc;obtain⟨H1,bS,ag,gS,dQ⟩:=aI H H.length aB bc;refine iN (v:=v) hw ?_ cT aG aw low h1 h2 av bc;subst ao;subst ae;rw[p6,P9,ag];simp[hc,ll]
theorem anX{d:Option (Nat × Bool)}{g:Option (aj × Bool)}{f:aj}{aU:List aj}{fv v:V}{vs vs':List V}{Q:bY->Heap->List Bool->Prop}{ms gR:cO}(hw:gQ aq σ g=some true)(aB:Own H ms)(aI:pg b 16 ms vs vs' gR)(hlen:∀H low r,kT (ei 16) H low vs=some r->r.2.1.length=H.length)
  (hc:∀H',cl ad fv vs' H'=some (v,H',H'.length)) (ll:flat v=false) (ao:aU.map (bV aq σ)=vs) (ae:bV aq σ f=fv)
  (cT:∀H' mv,Own H' gR->Op ad b rest (gl aq d v) (gm σ d v) H' (mv::wr) Q):Op ad b (⟨d,.call false f aU,g⟩::rest) aq σ H wr Q:=by
 intro aG aw low h1 h2 av bc;obtain⟨H1,bS,ag,gS,dQ⟩:=aI H H.length aB bc;have hl:=hlen _ _ _ ag;refine oy (o:=⟨d,.call false f aU,g⟩) (v:=v) (H1:=H1) (mv:=fm H H1 (min bS H1.length)) hw (fun hb=>⟨by simp only at hl;omega,min bS H1.length,by simp only at hl;omega,?_,rfl⟩) (cT H1 _ gS) aG aw low h1 h2 av bc;subst ao;subst ae;simp only[];rw[p6,P9,ag];simp[hc,ll]
end
end Go.Abs
namespace Go.Abs
open Go
@[simp] theorem aBn (l : List V) : aF (.agg l) = l := rfl
@[simp] theorem aBo : aF .aY = [.aY] := rfl
@[simp] theorem aBp : aF .emp = [.emp] := rfl
@[simp] theorem aBq (e : Nat) (l : List V) : aF (.list e l) = [.list e l] := rfl
@[simp] theorem aBr (e l : Nat) : aF (.ptr e l) = [.ptr e l] := rfl
@[simp] theorem aBs (e : Nat) : aF (.map e) = [.map e] := rfl
@[simp] theorem aBt : aF .iY = [.iY] := rfl
abbrev At (σ:bY)(ts:List Nat)(vs:List V):Prop:=ts.map σ=vs
def Kc:bY->List Nat->List V->bY
 |σ,t::ts,v::vs=>Kc (up σ t v) ts vs
 |σ,_,_=>σ
theorem Fv:∀{ts:List Nat} {vs:List V} {σ:bY},At σ ts vs->Kc σ ts vs=σ
 |[],[],_,_=>rfl
 |[],_::_,_,h=>by cases h
 | _::_,[],_,h=>by cases h
 |t::ts,v::vs,σ,h=>by
  simp only[At,eG,xa]at h;simp only[Kc,anE h.1];exact Fv h.2
section
variable{ad:Nat->Option cb}{b:Nat}{aq σ:bY}{H:Heap}{wr:List Bool}{rest:List bP}{call:c1}{ai:aj->V}{d:Option (Nat × Bool)}{op:cS}{t:aj}{β w:Bool}
theorem ed{c:b8}{Q:X->bY->Heap->Prop}{ts:List Nat}{vs:List V}(h:At σ ts vs)(k:fg ad b c (Kc σ ts vs) H Q):fg ad b c σ H Q:=by rw[Fv h]at k;exact k
theorem pj{ops:List bP}{c:b8}{Q:X->bY->Heap->Prop}(h:Op ad b ops nK σ H [] (fun aV H' _=>fg ad b c aV H' Q)):fg ad b (.seq (.region ops none) c) σ H Q:=p8 (tZ h)
variable{Q:bY->Heap->List Bool->Prop}
theorem pp (v:V)(k:Op ad b rest (gl aq d v) (gm σ d v) H (false::wr) Q)(h:cf (cl ad) (bV aq σ) H H.length op=some (v,H,H.length):=by exact rfl):Op ad b (⟨d,op,none⟩::rest) aq σ H wr Q:=iN rfl h k
theorem ph (v:V)(h:cf (cl ad) (bV aq σ) H H.length op=some (v,H,H.length))(k:Op ad b rest (gl aq d v) (gm σ d v) H (false::wr) Q):Op ad b (⟨d,op,none⟩::rest) aq σ H wr Q:=iN rfl h k
theorem k9 (v:V)(c:β=w)(k:Op ad b rest (gl aq d v) (gm σ d v) H (false::wr) Q)(h:cf (cl ad) (bV aq σ) H H.length op=some (v,H,H.length):=by exact rfl)(ht:bV aq σ t=.bool β:=by exact rfl):Op ad b (⟨d,op,some (t,w)⟩::rest) aq σ H wr Q:=iN (jf ht c) h k
theorem qb (c:β=false)(k:Op ad b rest (gl aq d (.bd [])) (gm σ d (.bd [])) H (false::wr) Q)(ht:bV aq σ t=.bool β:=by exact rfl):Op ad b (⟨d,op,some (t,true)⟩::rest) aq σ H wr Q:=PZ (J6 ht c) k
theorem cB (c:β=true)(k:Op ad b rest (gl aq d (.bd [])) (gm σ d (.bd [])) H (false::wr) Q)(ht:bV aq σ t=.bool β:=by exact rfl):Op ad b (⟨d,op,some (t,false)⟩::rest) aq σ H wr Q:=PZ (J7 ht c) k
end
theorem Fw:∀{vs:List V} {n:Nat} {H:Heap} {low:Nat},cx vs=true->kT (ei n) H low vs=some (vs,H,low)
 |[],_,_,_,_=>rfl
 |v::r,n,H,low,h=>by
  simp only[cx,ca]at h;have h1:ei n H low v=some (v,H,low):=by cases n<;>simp[ei,h.1]
  simp only[kT,h1,Fw h.2]
section
variable{ad:Nat->Option cb}{b:Nat}{σ:bY}{H:Heap}
theorem c8{S O:Type}{c:b8}{Q:X->bY->Heap->Prop}(f:S->Option (cE S O))(I:S->bY->Heap->Prop)(P:O->X->bY->Heap->Prop){s:S}{o:O}(h:bO f s=some o)(a7:I s σ H)
 (round:∀s σ H r,I s σ H->f s=some r->fg ad b c σ H fun x aV H'=>match r with
   | .next ar=>x=.normal/\I ar aV H'
   | .out o=>x≠ .normal/\P o x aV H') (k:∀x aV H',P o x aV H'->Q x aV H'):fg ad b (.loop c) σ H Q:=P4 (P o) (anI f I P round h a7) k
end
end Go.Abs
