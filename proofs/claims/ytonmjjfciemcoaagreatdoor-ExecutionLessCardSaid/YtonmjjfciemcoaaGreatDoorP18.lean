/- Texts of this claim, joined and written short by a program. -/
import Derived.Test.YtonmjjfciemcoaaGreatDoorP10
import Derived.Test.YtonmjjfciemcoaaGreatDoorP08
import Derived.Test.YtonmjjfciemcoaaGreatDoorP00
set_option linter.unusedVariables false
set_option linter.unusedSimpArgs false
set_option linter.unusedSectionVars false
namespace Go.Abs
open Go
end Go.Abs
namespace Go.Abs
open Go
variable{C:Ctx}{fid:Nat->Nat}{w w':World}{G G':bX}{H H':Heap}
theorem AY{aa:Nat->Option bU}{i:Nat}{spec:List V->Option V}(h:aa i=some (.ext spec)){args:List V}(hp:cj args=true){v:V}(ad:spec args=some v)(H:Heap):b0 aa (.fn i [] []) args H=some (v,H,H.length):=by
 rw[k3,h];simp[hp,ad]
end Go.Abs
namespace Go.Abs
open Go
variable{C:Ctx}{fid:Nat->Nat}
end Go.Abs
namespace Go.Abs
open Go
abbrev bW:=Nat->V
def up (σ:bW)(t:Nat)(v:V):bW:=fun k=>match Nat.beq k t with
 |true=>v
 |false=>σ k
def n9:bW:=fun _=>.undef
theorem w5 (σ:bW)(t:Nat)(v:V):up σ t v t=v:=by simp[up,zM]
theorem jF (σ:bW){t k:Nat}(v:V)(h:k≠t):up σ t v k=σ k:=by
 unfold up;cases hb:Nat.beq k t with
 |true=>exact absurd (eE hb) h
 |false=>rfl
theorem arh{σ:bW}{t:Nat}{v:V}(h:σ t=v):up σ t v=σ:=by
 funext k;by_cases e:k=t
 ·subst e;rw[w5,h]
 ·rw[jF _ _ e]
def bw (aq σ:bW):aj->V
 | .tmp t=>aq t
 | .var t=>σ t
 | .const v=>v
 | .func i=>.fn i [] []
def Fits (e:Env)(σ:bW):Prop:=∀t,bG e t=σ t
theorem tX:Fits [] n9:=fun _=>rfl
theorem tY{aF au:Env}{aq σ:bW}(ht:Fits aF aq)(hs:Fits au σ):aj.ah aF au=bw aq σ:=by
 funext x;cases x with
 |tmp t=>exact ht t
 |var t=>exact hs t
 |const v=>rfl
 |func i=>rfl
theorem adW{au:Env}{σ:bW}(h:Fits au σ)(t:Nat)(v:V):Fits (dD au t v) (up σ t v):=fun k=>by
 rw[gn];by_cases e:k=t
 ·rw[if_pos e,e,w5]
 ·rw[if_neg e,jF _ _ e];exact h k
theorem adX{aF:Env}{aq:bW}(h:Fits aF aq)(t:Nat)(v:V):Fits ((t,v)::aF) (up aq t v):=fun k=>by
 by_cases e:k=t
 ·subst e;simp[bG,w5]
 ·rw[jF _ _ e];simp[bG,ly e];exact h k
section
variable (aa:Nat->Option bU)(b:Nat)
def fc (c:bZ)(σ:bW)(H:Heap)(Q:X->bW->Heap->Prop):Prop:=
 ∀au low,Fits au σ->b<=low->b<=H.length->∃x dt H' low' aW,c4 aa c ⟨[],au,H,low,none⟩=some (x,⟨[],dt,H',low',none⟩)/\Fits dt aW/\b<=low'/\b<=H'.length/\Q x aW H'
def Op (ops:List bS)(aq σ:bW)(H:Heap)(wr:List Bool)(Q:bW->Heap->List Bool->Prop):Prop:=
 ∀aF au low,Fits aF aq->Fits au σ->b<=low->b<=H.length->∃ja dt H' low' fq aW,c3 (b0 aa) ops ⟨aF,au,H,low,none⟩ wr=some (⟨ja,dt,H',low',none⟩,fq)/\Fits dt aW/\b<=low'/\b<=H'.length/\Q aW H' fq
end
section
variable{aa:Nat->Option bU}{b:Nat}{aq σ:bW}{H:Heap}{Q:X->bW->Heap->Prop}
theorem fc.mono{c:bZ}{adY:X->bW->Heap->Prop}(h:fc aa b c σ H Q)(k:∀x aW H',Q x aW H'->adY x aW H'):fc aa b c σ H adY:=fun au low h1 h2 ar=>by
 obtain⟨x,dt,H',low',aW,af,ak,bK,cL,dF⟩:=h au low h1 h2 ar;exact⟨x,dt,H',low',aW,af,ak,bK,cL,k _ _ _ dF⟩
theorem AZ (h:Q .normal σ H):fc aa b .skip σ H Q:=fun au low h1 h2 ar=>⟨_,_,_,_,σ,nO _,h1,h2,ar,h⟩
theorem A0 (h:Q .ret σ H):fc aa b .ret σ H Q:=fun au low h1 h2 ar=>⟨_,_,_,_,σ,nP _,h1,h2,ar,h⟩
theorem LG{i:Nat}(h:Q (.exit i) σ H):fc aa b (.exit i) σ H Q:=fun au low h1 h2 ar=>⟨_,_,_,_,σ,q3 _ _,h1,h2,ar,h⟩
def andThen (aa:Nat->Option bU)(b:Nat)(c:bZ)(Q:X->bW->Heap->Prop):X->bW->Heap->Prop
 | .normal,σ,H=>fc aa b c σ H Q
 |x,σ,H=>Q x σ H
theorem qF{a c:bZ}(h:fc aa b a σ H (andThen aa b c Q)):fc aa b (.seq a c) σ H Q:=fun au low h1 h2 ar=>by
 obtain⟨x,dt,H',low',aW,af,ak,bK,cL,dF⟩:=h au low h1 h2 ar;rw[hM,af];cases x with
 |normal=>exact dF dt low' ak bK cL
 |exit i=>exact⟨_,_,_,_,aW,rfl,ak,bK,cL,dF⟩
 |ret=>exact⟨_,_,_,_,aW,rfl,ak,bK,cL,dF⟩
theorem A1{x:aj}{t e:bZ}{β:Bool}(hx:bw n9 σ x=.bool β)(pD:β=true)(h:fc aa b t σ H Q):fc aa b (.cond x t e) σ H Q:=fun au low h1 h2 ar=>by
 obtain⟨fQ,dt,H',low',aW,af,ak⟩:=h au low h1 h2 ar;refine⟨fQ,dt,H',low',aW,?_,ak⟩;rw[mn,tY tX h1,hx,pD];exact af
theorem A2{x:aj}{t e:bZ}{β:Bool}(hx:bw n9 σ x=.bool β)(pD:β=false)(h:fc aa b e σ H Q):fc aa b (.cond x t e) σ H Q:=fun au low h1 h2 ar=>by
 obtain⟨fQ,dt,H',low',aW,af,ak⟩:=h au low h1 h2 ar;refine⟨fQ,dt,H',low',aW,?_,ak⟩;rw[mn,tY tX h1,hx,pD];exact af
def DP (id:Nat):X->X
 | .exit j=>match Nat.beq j id with
   |true=>.normal
   |false=>.exit j
 |x=>x
theorem G2{id:Nat}{c:bZ}(h:fc aa b c σ H (fun x=>Q (DP id x))):fc aa b (.block id c) σ H Q:=fun au low h1 h2 ar=>by
 obtain⟨x,dt,H',low',aW,af,ak,bK,cL,dF⟩:=h au low h1 h2 ar;refine⟨DP id x,dt,H',low',aW,?_,ak,bK,cL,dF⟩;rw[mo,af];cases x with
 |normal=>rfl
 |exit j=>
  simp only[DP];cases hb:Nat.beq j id with
  |true=>rw[if_pos (eE hb)]
  |false=>rw[if_neg (fun e=>by rw[e,zM]at hb;cases hb)]
 |ret=>rfl
theorem vj{ops:List bS}(h:Op aa b ops n9 σ H [] (fun aW H' _=>Q .normal aW H')):fc aa b (.region ops none) σ H Q:=fun au low h1 h2 ar=>by
 obtain⟨ja,dt,H',low',fq,aW,af,ak,bK,cL,dF⟩:=h [] au low tX h1 h2 ar;exact⟨.normal,dt,H',low',aW,by rw[k2];simp only[af,av.fy],ak,bK,cL,dF⟩
theorem adZ{ops:List bS}{eC:List Nat}(h:Op aa b ops n9 σ H [] (fun aW H' wr=>r7 eC ops wr=true/\Q .normal aW H')):fc aa b (.region ops (some eC)) σ H Q:=fun au low h1 h2 ar=>by
 obtain⟨ja,dt,H',low',fq,aW,af,ak,bK,cL,dF,hE⟩:=h [] au low tX h1 h2 ar;exact⟨.normal,dt,H',low',aW,by rw[k2];simp only[af,dF,Bool.true_or,if_true,av.fy],ak,bK,cL,hE⟩
end
section
variable{aa:Nat->Option bU}{b:Nat}{aq σ:bW}{H:Heap}{wr:List Bool}{Q:bW->Heap->List Bool->Prop}{rest:List bS}
theorem gJ (h:Q σ H wr.reverse):Op aa b [] aq σ H wr Q:=fun aF au low h1 h2 ar aS=>⟨_,_,_,_,_,σ,rfl,h2,ar,aS,h⟩
def fI (aq:bW):Option (Nat × Bool)->V->bW
 |some (t,false),v=>up aq t v
 | _,_=>aq
def fJ (σ:bW):Option (Nat × Bool)->V->bW
 |some (t,true),v=>up σ t v
 | _,_=>σ
theorem w6{aF au:Env}(ht:Fits aF aq)(hs:Fits au σ)(H:Heap)(low:Nat)(d:Option (Nat × Bool))(v:V):
  ∃ja dt,av.put ⟨aF,au,H,low,none⟩ d v=⟨ja,dt,H,low,none⟩/\Fits ja (fI aq d v)/\Fits dt (fJ σ d v):=by
 match d with
 |none=>exact⟨_,_,rfl,ht,hs⟩
 |some (t,true)=>exact⟨_,_,rfl,ht,adW hs t v⟩
 |some (t,false)=>exact⟨_,_,rfl,adX ht t v,hs⟩
def gd (aq σ:bW):Option (aj × Bool)->Option Bool
 |none=>some true
 |some (t,w)=>match bw aq σ t with
  | .bool c=>some (c==w)
  | .aU []=>some false
  | _=>none
theorem A3{aF au:Env}(ht:Fits aF aq)(hs:Fits au σ):∀g:Option (aj × Bool),gE aF au g=gd aq σ g
 |none=>rfl
 |some (t,w)=>by unfold gE gd;rw[tY ht hs];rfl
theorem jo{t:aj}{β w:Bool}(h:bw aq σ t=.bool β)(pD:β=w):gd aq σ (some (t,w))=some true:=by
 subst pD;simp[gd,h]
theorem LH{t:aj}{β:Bool}(h:bw aq σ t=.bool β)(pD:β=false):gd aq σ (some (t,true))=some false:=by
 subst pD;simp[gd,h]
theorem LI{t:aj}{β:Bool}(h:bw aq σ t=.bool β)(pD:β=true):gd aq σ (some (t,false))=some false:=by
 subst pD;simp[gd,h]
theorem ad0{t:aj}{w:Bool}(h:bw aq σ t=.aU []):gd aq σ (some (t,w))=some false:=by
 simp[gd,h]
theorem j5{o:bS}{v:V}{H1:Heap}{mv:Bool}(hw:gd aq σ o.guard=some true)
  (h:b<=H.length->b<=H1.length/\∃bO,b<=bO/\cc (b0 aa) (bw aq σ) H H.length o.op=some (v,H1,bO)/\ew H H1 bO=mv)
  (k:Op aa b rest (fI aq o.dst v) (fJ σ o.dst v) H1 (mv::wr) Q):Op aa b (o::rest) aq σ H wr Q:=fun aF au low h1 h2 ar aS=>by
 obtain⟨hb,bO,al,a2,a3⟩:=h aS;simp only[c3];rw[A3 h1 h2,hw,tY h1 h2];simp only[];rw[a2];simp only[];obtain⟨ny,lh,af,ak,bK⟩:=w6 h1 h2 H1 (min low bO) o.dst v;rw[af,a3];exact k ny lh _ ak bK (by omega) hb
theorem Ra{o:bS}(hw:gd aq σ o.guard=some false)(k:Op aa b rest (fI aq o.dst (.aU [])) (fJ σ o.dst (.aU [])) H (false::wr) Q):Op aa b (o::rest) aq σ H wr Q:=fun aF au low h1 h2 ar aS=>by
 simp only[c3];rw[A3 h1 h2,hw];simp only[];obtain⟨ny,lh,af,ak,bK⟩:=w6 h1 h2 H low o.dst (.aU []);rw[af];exact k ny lh _ ak bK ar aS
theorem jb{d:Option (Nat × Bool)}{op:cV}{g:Option (aj × Bool)}{v:V}(hw:gd aq σ g=some true)(h:cc (b0 aa) (bw aq σ) H H.length op=some (v,H,H.length))
  (k:Op aa b rest (fI aq d v) (fJ σ d v) H (false::wr) Q):Op aa b (⟨d,op,g⟩::rest) aq σ H wr Q:=
 j5 (o:=⟨d,op,g⟩) hw (fun hb=>⟨hb,H.length,hb,h,lJ H⟩) k
abbrev cG:=List (List (Nat × b5))
def Own (H:Heap)(ms:cG):Prop:=(∀m∈ms,∀p∈m,H[p.1]? =some p.2)/\(ms.map (·.map Prod.fst)).Pairwise (fun x y=>∀a∈x,a∉y)
theorem Own.nil (H:Heap):Own H []:=⟨by simp,by simp⟩
theorem Own.get{ms:cG}(h:Own H ms)(k:Nat){a:Nat}{o:b5}(hk:ms[k]? =some [(a,o)]):H[a]? =some o:=
 h.1 _ (gg hk) (a,o) (by simp)
theorem sI{H:Heap}{a:Nat}{o:b5}(h:H[a]? =some o):a<H.length:=by
 rcases gh a H.length with q|q
 ·exact q
 ·rw[lQ q]at h;cases h
theorem Own.lt{ms:cG}(h:Own H ms){m:List (Nat × b5)}(hm:m∈ms){p:Nat × b5}(hp:p∈m):p.1<H.length:=sI (h.1 m hm p hp)
theorem Own.keys{ms:cG}(h:Own H ms){x:List Nat}(hx:x∈ms.map (·.map Prod.fst)){a:Nat}(ha:a∈x):a<H.length:=by
 obtain⟨m,hm,rfl⟩:=dZ.1 hx;obtain⟨p,hp,rfl⟩:=dZ.1 ha;exact h.lt hm hp
theorem Own.grow{ms:cG}(h:Own H ms)(o:b5):Own (H++[o]) ([(H.length,o)]::ms):=by
 refine⟨fun m hm p hp=> ?_,?_⟩
 ·rcases dx.1 hm with rfl|hm
  ·simp at hp;subst hp;simp
  ·rw[e5 (h.lt hm hp)];exact h.1 m hm p hp
 ·rw[dv,JY]
  refine⟨fun y hy a ha ari=> ?_,h.2⟩;have:=h.keys hy ari;simp at ha;omega
theorem Own.LJ{ms:cG}(h:Own H ms){i j:Nat}{m m':List (Nat × b5)}(hi:ms[i]? =some m)(hj:ms[j]? =some m')(cF:i≠j){p q:Nat × b5}(hp:p∈m)(bf:q∈m'):p.1≠q.1:=by
 have key:∀{i j:Nat} {m m':List (Nat × b5)},ms[i]? =some m->ms[j]? =some m'->i<j->∀{p q:Nat × b5},p∈m->q∈m'->p.1≠q.1:=by
  intro i j m m' hi hj cF p q hp bf e;obtain⟨qo,hi⟩:=fj.1 hi;obtain⟨G3,hj⟩:=fj.1 hj;have:=Oc.1 h.2 i j (by simpa using qo) (by simpa using G3) cF;simp only[J3]at this;refine this p.1 (by rw[hi];exact r2 hp) ?_;rw[hj,e];exact r2 bf
 rcases Nat.lt_or_gt_of_ne cF with q1|q1
 ·exact key hi hj q1 hp bf
 ·exact fun e=>key hj hi q1 bf hp e.symm
theorem arj{ms:cG}{k:Nat}{m m':List (Nat × b5)}(hk:ms[k]? =some m)(hm:m'.map Prod.fst=m.map Prod.fst):(ms.set k m').map (·.map Prod.fst)=ms.map (·.map Prod.fst):=by
 rw[List.map_set,hm];apply oA;intro i;by_cases e:k=i
 ·subst e
  have:=(fj.1 hk).1;rw[nI (by simpa using this),hL,hk];rfl
 ·rw[jx e]
theorem Own.put{ms:cG}(h:Own H ms)(k:Nat){a:Nat}{o o':b5}(hk:ms[k]? =some [(a,o)]):Own (H.set a o') (ms.set k [(a,o')]):=by
 refine⟨fun m hm p hp=> ?_,by rw[arj (m':=[(a,o')]) hk rfl];exact h.2⟩;obtain⟨i,hi⟩:=pY.1 hm;by_cases e:k=i
 ·subst e
  rw[nI (fj.1 hk).1]at hi;cases hi;simp at hp;subst hp;rw[nI (sI (h.get k hk))]
 ·rw[jx e]at hi
  have:=h.LJ hk hi e (p:=(a,o)) (by simp) hp;rw[jx this];exact h.1 m (gg hi) p hp
theorem Own.fill{ms:cG}(h:Own H ms)(k:Nat){o:b5}(hk:ms[k]? =some []):Own (H++[o]) (ms.set k [(H.length,o)]):=by
 refine⟨fun m hm p hp=> ?_,?_⟩
 ·obtain⟨i,hi⟩:=pY.1 hm
  by_cases e:k=i
  ·subst e
   rw[nI (fj.1 hk).1]at hi;cases hi;simp at hp;subst hp;simp
  ·rw[jx e]at hi
   have h7:=gg hi;rw[e5 (h.lt h7 hp)];exact h.1 m h7 p hp
 ·have:=h.2
  rw[Oc]at this⊢;intro i j hi hj cF a ha gQ;simp only[eL,x7]at hi hj;simp only[J3,List.getElem_set]at ha gQ;have hb:∀{i:Nat} (hi:i<ms.length) {a:Nat},a∈(ms[i]).map Prod.fst->a<H.length:=fun hi a ha=>h.keys (r2 (vP hi)) ha;by_cases af:k=i
  ·have ak:k≠j:=by omega
   rw[if_pos af]at ha;rw[if_neg ak]at gQ;have:=hb hj gQ;simp at ha;omega
  ·by_cases ak:k=j
   ·rw[if_neg af]at ha;rw[if_pos ak]at gQ
    have:=hb hi ha;simp at gQ;omega
   ·rw[if_neg af]at ha;rw[if_neg ak]at gQ
    exact this i j (by simpa using hi) (by simpa using hj) cF a (by simpa using ha) (by simpa using gQ)
theorem Own.drop{ms:cG}(h:Own H ms)(k:Nat):Own H (ms.eraseIdx k):=by
 have hs:=List.eraseIdx_sublist ms k;exact⟨fun m hm=>h.1 m (hs.subset hm),h.2.sublist (hs.map _)⟩
theorem Rb{α:Type}{x a:α}:∀{l:List α} {k:Nat},x∈l.insertIdx k a->x=a\/x∈l
 |l,0,h=>by simpa using h
 |[],k+1,h=>by simp at h
 |b::l,k+1,h=>by
  rw[List.insertIdx_succ_cons]at h;rcases dx.1 h with rfl|h
  ·exact .inr (by simp)
  ·rcases Rb h with rfl|h
   ·exact .inl rfl
   ·exact .inr (kW _ h)
theorem Own.ins{ms:cG}(h:Own H ms)(k:Nat):Own H (ms.insertIdx k []):=by
 refine⟨fun m hm p hp=> ?_,?_⟩
 ·rcases Rb hm with rfl|hm
  ·cases hp
  ·exact h.1 m hm p hp
 ·have:∀(ms:List (List Nat)) (k:Nat),ms.Pairwise (fun x y=>∀a∈x,a∉y)->(ms.insertIdx k []).Pairwise (fun x y=>∀a∈x,a∉y):=by
   intro ms
   induction ms with
   |nil=>intro k _;cases k<;>simp
   |cons m ms ih=>
    intro k hp;cases k with
    |zero=>simp only[List.insertIdx_zero,JY];exact⟨by simp,JY.1 hp⟩
    |succ k=>
     rw[List.insertIdx_succ_cons,JY];obtain⟨h1,h2⟩:=JY.1 hp;refine⟨fun y hy=> ?_,ih k h2⟩;rcases Rb hy with rfl|hy
     ·simp
     ·exact h1 y hy
  have h2:=this _ k h.2
  have e:(ms.insertIdx k []).map (·.map Prod.fst)=(ms.map (·.map Prod.fst)).insertIdx k []:=by
   clear h2 this h
   induction ms generalizing k with
   |nil=>cases k<;>simp
   |cons m ms ih=>cases k<;>simp[*]
  rw[e];exact h2
theorem Own.ad1{ms:cG}(h:Own H ms)(ks:List Nat)(hk:ks.Nodup):Own H (ks.map fun k=>ms.getD k []):=by
 refine⟨fun m hm p hp=> ?_,?_⟩
 ·obtain⟨k,-,rfl⟩:=dZ.1 hm
  simp only[kj]at hp;cases hx:ms[k]? with
  |none=>rw[hx]at hp;cases hp
  |some m=>rw[hx]at hp;exact h.1 m (gg hx) p hp
 ·rw[kX,List.pairwise_map]
  refine List.Pairwise.imp ?_ hk;intro i j cF a ha gQ;simp only[Function.comp,kj]at ha gQ;cases hi:ms[i]? with
  |none=>rw[hi]at ha;cases ha
  |some m=>cases hj:ms[j]? with
   |none=>rw[hj]at gQ;cases gQ
   |some m'=>
    rw[hi]at ha;rw[hj]at gQ;obtain⟨p,hp,rfl⟩:=dZ.1 ha;obtain⟨q,bf,e⟩:=dZ.1 gQ;exact h.LJ hi hj cF hp bf e.symm
end
end Go.Abs
namespace Go.Abs
open Go
inductive ae (α:Type) where
 |nil
 |emp
 |mk (l:List α)
 deriving Inhabited
def ae.l{α:Type}:ae α->List α
 | .mk l=>l
 | _=>[]
def ae.len{α:Type}(x:ae α):Int:=(x.l.length:Int)
def bn{α:Type}(es:Nat)(f:α->V):ae α->V
 | .nil=>.aN
 | .emp=>.emp
 | .mk l=>.list es (l.map f)
abbrev aM (n:Int):Int:=IntKind.i64.wrap n
abbrev aI (n:Int):V:=.int .i64 n
def bE{α:Type}(l:List α)(i:Int):Option α:=if 0<=i then l[i.toNat]? else none
inductive di (S O:Type) where
 |next (s:S)
 |out (o:O)
inductive cz (S R:Type) where
 |go (s:S)
 |ret (r:R)
def sJ{S O:Type}(f:S->Option (di S O)):Nat->S->Option O
 |0,_=>none
 |n+1,s=>match f s with
  |some (.next ao)=>sJ f n ao
  |some (.out o)=>some o
  |none=>none
theorem Rc{S O:Type}{f:S->Option (di S O)}:∀{n m:Nat} {s:S} {o:O},n<=m->sJ f n s=some o->sJ f m s=some o
 |0,_,_,_,_,h=>by cases h
 |n+1,0,_,_,hm,h=>by omega
 |n+1,m+1,s,o,hm,h=>by
  simp only[sJ]at h⊢;split at h
  ·exact Rc (by omega) h
  ·exact h
  ·cases h
open Classical in
noncomputable def cd{S O:Type}(f:S->Option (di S O))(s:S):Option O:=
 if h:∃n o,sJ f n s=some o then some h.choose_spec.choose else none
theorem A4{S O:Type}{f:S->Option (di S O)}{s:S}{o:O}:cd f s=some o↔∃n,sJ f n s=some o:=by
 unfold cd;constructor
 ·intro h
  split at h
  ·rename_i hx
   cases h;exact⟨_,hx.choose_spec.choose_spec⟩
  ·cases h
 ·rintro⟨n,hn⟩
  have hx:∃n o,sJ f n s=some o:=⟨n,o,hn⟩;rw[dif_pos hx];have h1:=Rc (uV n hx.choose) hn;have h2:=Rc (tb n hx.choose) hx.choose_spec.choose_spec;rw[h1]at h2;exact h2.symm
theorem fp{S O:Type}(f:S->Option (di S O))(s:S):cd f s=match f s with
  |some (.next ao)=>cd f ao
  |some (.out o)=>some o
  |none=>none:=by
 cases ag:f s with
 |none=>
  simp only[];cases h:cd f s with
  |none=>rfl
  |some o=>
   obtain⟨n,hn⟩:=A4.1 h;cases n with
   |zero=>cases hn
   |succ n=>simp[sJ,ag]at hn
 |some r=>cases r with
  |out o=>exact A4.2 ⟨1,by simp[sJ,ag]⟩
  |next ao=>
   simp only[];cases h:cd f ao with
   |some o=>
    obtain⟨n,hn⟩:=A4.1 h;exact A4.2 ⟨n+1,by simp[sJ,ag,hn]⟩
   |none=>
    cases h':cd f s with
    |none=>rfl
    |some o=>
     obtain⟨n,hn⟩:=A4.1 h';cases n with
     |zero=>cases hn
     |succ n=>
      simp only[sJ,ag]at hn;rw[A4.2 ⟨n,hn⟩]at h;cases h
section
variable{aa:Nat->Option bU}{b:Nat}{aq σ:bW}{H:Heap}
theorem ark{S O:Type}{c:bZ}(f:S->Option (di S O))(I:S->bW->Heap->Prop)(P:O->X->bW->Heap->Prop)
  (round:∀s σ H r,I s σ H->f s=some r->fc aa b c σ H fun x aW H'=>match r with
    | .next ao=>x=.normal/\I ao aW H'
    | .out o=>x≠ .normal/\P o x aW H') {s:S} {o:O} (h:cd f s=some o) (bq:I s σ H):fc aa b (.loop c) σ H (P o):=by
 obtain⟨n,hn⟩:=A4.1 h;clear h
 induction n generalizing s σ H with
 |zero=>cases hn
 |succ n ih=>
  intro au low h1 h2 ar;simp only[sJ]at hn;cases ag:f s with
  |none=>rw[ag]at hn;cases hn
  |some r=>
   rw[ag]at hn;obtain⟨x,dt,H',low',aW,af,ak,bK,cL,dF⟩:=round s σ H r bq ag au low h1 h2 ar;rw[sa,af];cases r with
   |next ao=>
    obtain⟨rfl,AG⟩:=dF;exact ih AG hn dt low' ak bK cL
   |out o'=>
    cases hn;obtain⟨hx,oa⟩:=dF;refine⟨x,dt,H',low',aW,?_,ak,bK,cL,oa⟩;cases x<;>first|rfl|exact absurd rfl hx
theorem bind_some{α β:Type}{a:Option α}{f:α->Option β}{r:β}(h:a.bind f=some r):∃x,a=some x/\f x=some r:=ek.1 h
theorem ru{α:Type}{c:Bool}{p q:Option α}{r:α}(h:(bif c then p else q)=some r):(c=true/\p=some r)\/(c=false/\q=some r):=by
 cases c
 ·exact .inr ⟨rfl,h⟩
 ·exact .inl ⟨rfl,h⟩
variable{α:Type}{es:Nat}{f:α->V}{ah:aj->V}
theorem w7{call:cW}{x:aj}{s:ae α}(h:ah x=bn es f s)(low:Nat):cc call ah H low (.len 1 x)=some (aI s.len,H,low):=by
 show step ah H low (.len 1 x)=_;cases s<;>simp[step,h,bn,ae.len,ae.l]
theorem A5{call:cW}{x i:aj}{s:ae α}{n:Int}{a:α}{k:IntKind}(h:ah x=bn es f s)(hi:ah i=.int k n)(hx:bE s.l n=some a)(low:Nat):cc call ah H low (.indexAddr es x i)=some (.dO (aC (f a)) 0,H,low):=by
 show step ah H low (.indexAddr es x i)=_;unfold bE at hx;split at hx
 ·rename_i hn
  cases s<;>simp_all [step,bn,ae.l,kE]
 ·cases hx
end
end Go.Abs
namespace Go.Abs
open Go
abbrev dn:=List UInt8
theorem l4{b:Bool}(h:b=true):(!b)=false:=by rw[h];rfl
theorem l5{b:Bool}(h:b=false):(!b)=true:=by rw[h];rfl
@[simp] theorem ob {α : Type} (es : Nat) (f : α -> V) (s : ae α) : bI (bn es f s) = true := by cases s <;> rfl
@[simp] theorem aDH (k : IntKind) (n : Int) : bI (.int k n) = true := rfl
@[simp] theorem aDI (b : Bool) : bI (.bool b) = true := rfl
@[simp] theorem aDJ (b : List UInt8) : bI (.str b) = true := rfl
@[simp] theorem Re (k : IntKind) (n : Int) : aC (.int k n) = [.int k n] := rfl
@[simp] theorem aDK (b : Bool) : aC (.bool b) = [.bool b] := rfl
@[simp] theorem aDL (b : List UInt8) : aC (.str b) = [.str b] := rfl
@[simp] theorem arl {α : Type} (es : Nat) (f : α -> V) (s : ae α) : eF (bn es f s) = true := by cases s <;> rfl
@[simp] theorem aDM (k : IntKind) (n : Int) : eF (.int k n) = true := rfl
@[simp] theorem aDN (b : Bool) : eF (.bool b) = true := rfl
@[simp] theorem aDO (b : List UInt8) : eF (.str b) = true := rfl
@[simp] theorem aDP : eF .aN = true := rfl
@[simp] theorem aDQ : eF .emp = true := rfl
@[simp] theorem aDR : eF .ji = true := rfl
@[simp] theorem aDS : eF .jO = true := rfl
@[simp] theorem aDT : eF .kC = true := rfl
@[simp] theorem aDU : eF .iu = true := rfl
@[simp] theorem aDV (a o : Nat) : eF (.ptr a o) = true := rfl
@[simp] theorem aDW (a : Nat) : eF (.map a) = true := rfl
@[simp] theorem aDX (a : Nat) (x y : List V) : eF (.fn a x y) = true := rfl
@[simp] theorem aDY (a : Nat) (x : List V) : eF (.list a x) = true := rfl
@[simp] theorem ad2 {α : Type} (es : Nat) (f : α -> V) (s : ae α) : aC (bn es f s) = [bn es f s] := by cases s <;> rfl
def G4 (a b:Int):Option Int:=if b=0 then none else some (aM (a.tdiv b))
def tZ (a b:Int):Option Int:=if b=0 then none else some (a.tmod b)
def ad3 (a b:dn):Option dn:=if a.length+b.length<=2^40 then some (a++b)else none
inductive fe (b es:Nat):V->ae V->List (Nat × b5)->Prop
 |nil:fe b es .aN .nil []
 |emp:fe b es .emp .emp []
 |row (l:Nat) (ds:List V) (h:ds≠[]) (hb:b<=l):fe b es (.bJ l es 0 ds.length ds.length) (.mk ds) [(l,.row es ds false)]
def ae.map{α β:Type}(f:α->β):ae α->ae β
 | .nil=>.nil
 | .emp=>.emp
 | .mk l=>.mk (l.map f)
abbrev fE{α:Type}(b es:Nat)(f:α->V)(v:V)(s:ae α)(m:List (Nat × b5)):Prop:=fe b es v (s.map f) m
theorem ad4{α:Type}(es:Nat)(f:α->V)(s:ae α):bn es f s=bn es id (s.map f):=by cases s<;>simp[bn,ae.map]
def gz{α:Type}(bytes:Nat)(s y:ae α):Option (ae α):=
 if y.l=[]then some s else if(s.l.length+y.l.length)*(bytes+1)<=2^40 then some (.mk (s.l++y.l))else none
def l6{α:Type}(s:ae α)(a c:Int):Option (ae α):=match s with
 | .nil=>if a=0/\c=0 then some .nil else none
 | .emp=>if a=0/\c=0 then some .emp else none
 | .mk l=>if 0<=a/\a<=c/\c<=l.length then some (.mk ((l.take c.toNat).drop a.toNat))else none
def sK (s:dn)(a c:Int):Option dn:=if 0<=a/\a<=c/\c<=s.length then some ((s.take c.toNat).drop a.toNat)else none
def ae.isNil{α:Type}:ae α->Bool
 | .nil=>true
 | _=>false
def jq{K W:Type}[BEq K](m:List (K × W))(k:K):Option W:=(m.find? fun p=>k==p.1).map (·.2)
def mM{K W:Type}[BEq K]:List (K × W)->K->W->List (K × W)
 |[],k,w=>[(k,w)]
 |p::r,k,w=>if k==p.1 then(k,w)::r else p::mM r k w
def A6{α:Type}(bytes:Nat)(z:α)(n:Int):Option (ae α):=if 0<=n/\n*(bytes+1)<=2^40 then some (if n=0 then .emp else .mk (List.replicate n.toNat z))else none
def pE{α:Type}(s:ae α)(i:Int)(e:α):ae α:=.mk (s.l.set i.toNat e)
mutual
theorem Rf{n:Nat}:∀{v:V},bI v=true->old n v=true
 | .bool _,_| .int _ _,_| .str _,_| .aN,_| .emp,_| .ji,_| .iu,_| .kC,_| .jO,_| .list _ _,_=>rfl
 | .agg vs,h=>by simp only[bI]at h;simp only[old];exact DQ h
 | .aU vs,h=>by simp only[bI]at h;simp only[old];exact DQ h
 | .fn i a b,h=>by simp only[bI,b6]at h;simp only[old,b6];exact⟨DQ h.1,DQ h.2⟩
 | .iface t v,h=>by simp only[bI]at h;simp only[old];exact Rf h
 | .ptr ..,h| .hz ..,h| .dO ..,h| .bJ ..,h| .map ..,h| .yield ..,h| .undef,h=>by simp[bI]at h
theorem DQ{n:Nat}:∀{vs:List V},cj vs=true->olds n vs=true
 |[],_=>rfl
 |v::vs,h=>by
  simp only[cj,b6]at h;simp only[olds,b6];exact⟨Rf h.1,DQ h.2⟩
end
section
variable{aa:Nat->Option bU}{b:Nat}{aq σ:bW}{H:Heap}{wr:List Bool}{rest:List bS}{call:cW}{ah:aj->V}
theorem Rg{c:bZ}{Q:X->bW->Heap->Prop}(P:X->bW->Heap->Prop)(h:fc aa b c σ H P)(k:∀x aW H',P x aW H'->Q x aW H'):fc aa b c σ H Q:=h.mono k
theorem rv{c a d:aj}{β:Bool}(h:ah c=.bool β)(pD:β=true):cc call ah H H.length (.pick c a d)=some (ah a,H,H.length):=by rw[pC,h,pD];rfl
theorem DR{c a d:aj}{β:Bool}(h:ah c=.bool β)(pD:β=false):cc call ah H H.length (.pick c a d)=some (ah d,H,H.length):=by rw[pC,h,pD];rfl
theorem iz{x:aj}{sh:Option Nat}{a o:Nat}{cs:List V}{v:V}(h:ah x=.ptr a o)(ba:H[a]? =some (.cells cs))(hr:iJ cs o sh=some v):cc call ah H H.length (.load sh x)=some (v,H,H.length):=by
 rw[n2,h];simp[jQ,ba,hr]
theorem arn{x i:aj}{s:dn}{k:IntKind}{n:Int}{c:UInt8}(h:ah x=.str s)(hi:ah i=.int k n)(hx:bE s n=some c)(low:Nat):cc call ah H low (.r6 x i)=some (.int .u8 c.toNat,H,low):=by
 show step ah H low (.r6 x i)=_;unfold bE at hx;split at hx
 ·rename_i hn
  simp_all [step,kE]
 ·cases hx
theorem aro{z:List V}{parts:List (Nat × Nat × aj)}{cs:List V}(h:tk z (parts.map fun p=>(p.1,p.2.1,ah p.2.2))=some cs):cc call ah H H.length (.build z parts)=some (.agg cs,H,H.length):=by
 show step ah H H.length (.build z parts)=_;simp only[step,h];rfl
theorem vk:∀{vs:List V} {low:Nat},cj vs=true->e0 H low vs=some (vs,H,low)
 |[],_,_=>rfl
 |v::r,low,h=>by
  simp only[cj,b6]at h;simp only[e0,fF,dR,h.1,if_true,vk h.2]
theorem A7{d:Option (Nat × Bool)}{g:Option (aj × Bool)}{z:List V}{Q:bW->Heap->List Bool->Prop}{ms:cG}(hw:gd aq σ g=some true)(aw:Own H ms)
  (k:∀H' a,b<=a->Own H' ([(a,.cells z)]::ms)->Op aa b rest (fI aq d (.ptr a 0)) (fJ σ d (.ptr a 0)) H' (true::wr) Q):Op aa b (⟨d,.alloc z,g⟩::rest) aq σ H wr Q:=by
 intro aF au low h1 h2 ar aS;exact j5 (o:=⟨d,.alloc z,g⟩) (mv:=true) hw (fun hb=>⟨by simp;omega,H.length,hb,sE z,by simp[ew]⟩) (k _ _ aS (aw.grow _)) aF au low h1 h2 ar aS
theorem Rh{d:Option (Nat × Bool)}{g:Option (aj × Bool)}{x:aj}{cs:List V}{Q:bW->Heap->List Bool->Prop}{ms:cG}(hw:gd aq σ g=some true)(aw:Own H ms)(hx:aC (bw aq σ x)=cs)(hc:bL cs=true)
  (k:∀H' a,b<=a->Own H' ([(a,.cells cs)]::ms)->Op aa b rest (fI aq d (.ptr a 0)) (fJ σ d (.ptr a 0)) H' (true::wr) Q):Op aa b (⟨d,.box x,g⟩::rest) aq σ H wr Q:=by
 intro aF au low h1 h2 ar aS;exact j5 (o:=⟨d,.box x,g⟩) (mv:=true) hw (fun hb=>⟨by simp;omega,H.length,hb,by simp only[];rw[w1,hx,if_pos hc],by simp[ew]⟩) (k _ _ aS (aw.grow _)) aF au low h1 h2 ar aS
theorem ad5{d:Option (Nat × Bool)}{g:Option (aj × Bool)}{Q:bW->Heap->List Bool->Prop}{ms:cG}(hw:gd aq σ g=some true)(aw:Own H ms)
  (k:∀H' a,b<=a->Own H' ([(a,.map [])]::ms)->Op aa b rest (fI aq d (.map a)) (fJ σ d (.map a)) H' (true::wr) Q):Op aa b (⟨d,.mkMap,g⟩::rest) aq σ H wr Q:=by
 intro aF au low h1 h2 ar aS;exact j5 (o:=⟨d,.mkMap,g⟩) (mv:=true) hw (fun hb=>⟨by simp;omega,H.length,hb,Q0,by simp[ew]⟩) (k _ _ aS (aw.grow _)) aF au low h1 h2 ar aS
theorem A8{d:Option (Nat × Bool)}{g:Option (aj × Bool)}{n o a:Nat}{x y:aj}{cs vs cs':List V}{Q:bW->Heap->List Bool->Prop}{ms:cG}(hw:gd aq σ g=some true)(aw:Own H ms)(k:Nat)
  (hk:ms[k]? =some [(a,.cells cs)]) (hb:b<=a) (hx:bw aq σ x=.ptr a o) (hy:aC (bw aq σ y)=vs) (hn:vs.length=n/\o+n<=cs.length) (hc:bL vs=true) (hs:setCells cs o vs=cs')
  (cr:∀H',Own H' (ms.set k [(a,.cells cs')])->Op aa b rest (fI aq d .undef) (fJ σ d .undef) H' (true::wr) Q):Op aa b (⟨d,.store n x y,g⟩::rest) aq σ H wr Q:=by
 have ba:=aw.get k hk;have aT:=sI ba;refine j5 (o:=⟨d,.store n x y,g⟩) (mv:=true) (H1:=H.set a (.cells cs')) hw (fun cy=>⟨by simpa using cy,a,hb,?_,by simp[ew,aT]⟩) (cr _ (aw.put k hk));simp only[l3,hx,jy,ba,hy];rw[if_pos ⟨hn.1,by omega,hc⟩];subst hs;simp[vR aT]
theorem DS{f:aj}{ay:List aj}{fv v:V}{vs:List V}(hc:call fv vs H=some (v,H,H.length))(aR:e0 H H.length vs=some (vs,H,H.length))(ha:ay.map ah=vs)(ag:ah f=fv):cc call ah H H.length (.call false f ay)=some (v,H,H.length):=by
 subst ha;subst ag;rw[qC,aR];simp[hc]
theorem arp{low:Nat}:e0 H low []=some ([],H,low):=rfl
theorem ad6{low:Nat}{v:V}{vs:List V}(h:bI v=true)(r:e0 H low vs=some (vs,H,low)):e0 H low (v::vs)=some (v::vs,H,low):=by
 simp only[e0,fF,dR,h,if_true,r]
theorem ad7{low:Nat}{v:V}{vs:List V}(h:∀H low,fF H low v=some (v,H,low))(r:e0 H low vs=some (vs,H,low)):e0 H low (v::vs)=some (v::vs,H,low):=by
 simp only[e0,h,r]
theorem Ri{es:Nat}{z:V}:∀(vs pre:List V),(∀v∈vs,(aC v).length=es/\bL (aC v)=true)->qb es (pre++List.replicate vs.length z) ((List.range' pre.length vs.length).zip vs)=some (pre++vs)
 |[],pre,_=>by simp[qb]
 |v::vs,pre,h=>by
  have ad:=h v (by simp);simp only[gD,td,Fo,qb];rw[if_pos ⟨ad.1,by simp,ad.2⟩]
  have e:(pre++List.replicate (vs.length+1) z).set pre.length v=(pre++[v])++List.replicate vs.length z:=by
   rw[zz];simp
  rw[e];have:=Ri (es:=es) (z:=z) vs (pre++[v]) (fun u hu=>h u (by simp[hu]));simp only[eZ,gD,nL,dA]at this;rw[this];simp
theorem arq{es n:Nat}{z vs:List V}{parts:List (Nat × aj)}(ad:(parts.map fun p=>ah p.2)=vs)(hi:parts.map Prod.fst=List.range' 0 vs.length)(hn:vs.length=n)(h0:(n=0)=False)(hp:cj vs=true)(hc:∀v∈vs,(aC v).length=es/\bL (aC v)=true):
  cc call ah H H.length (.lit es z n parts true)=some (.list es vs,H,H.length):=by
 have aR:(parts.zip vs).map (fun(p,v)=>(p.1,v))=(List.range' 0 vs.length).zip vs:=by
  rw[<-hi];clear hi hp hc hn;subst ad
  induction parts with
  |nil=>rfl
  |cons p ps ih=>simp[ih]
 have ag:=Ri (es:=es) (z:=lz z) vs [] hc;simp only[jN,nL]at ag;rw[Lq];simp only[step,ad,vk hp];rw[aR,<-hn,ag];simp only[hp,if_true,hn,h0,if_false]
theorem ars{es:Nat}{z:List V}{x:V}(h:x=V.emp):cc call ah H H.length (.lit es z 0 [] true)=some (x,H,H.length):=by
 rw[Lq,h];simp[step,e0,qb,cj]
def w8 (ah:aj->V)(x:Option aj)(Ow a:Int):Prop:=(x=none/\a=Ow)\/∃o,x=some o/\ah o=aI a
theorem w8.eq{x:Option aj}{d a:Int}(h:w8 ah x d a){n:Nat}(hd:d=n)(ha:0<=a):fa ah n x=some a.toNat:=by
 rcases h with⟨rfl,rfl⟩|⟨o,rfl,e⟩
 ·subst hd;rfl
 ·simp[fa,e,kE,ha]
theorem LK{α:Type}{es:Nat}{f:α->V}{s ao:ae α}{x:aj}{lo hi:Option aj}{a c:Int}(hs:l6 s a c=some ao)(ha:w8 ah lo 0 a)(hc:w8 ah hi s.len c)(h:ah x=bn es f s):cc call ah H H.length (.ti es x lo hi none)=some (bn es f ao,H,H.length):=by
 rw[DL];cases s with
 |nil=>
  simp only[l6]at hs;split at hs
  ·rename_i q;obtain⟨rfl,rfl⟩:=q;cases hs
   simp only[step,h,bn];rw[ha.eq (n:=0) rfl (zN _),hc.eq (n:=0) rfl (zN _)];rfl
  ·cases hs
 |emp=>
  simp only[l6]at hs;split at hs
  ·rename_i q;obtain⟨rfl,rfl⟩:=q;cases hs
   simp only[step,h,bn];rw[ha.eq (n:=0) rfl (zN _),hc.eq (n:=0) rfl (zN _)];rfl
  ·cases hs
 |mk l=>
  simp only[l6]at hs;split at hs
  ·rename_i q;obtain⟨q1,q2,cn⟩:=q;cases hs
   have af:=ha.eq (n:=0) rfl q1;have ak:=hc.eq (n:=(l.map f).length) (by simp[ae.len,ae.l]) (by omega);simp only[step,h,bn,af,ak];rw[if_pos ⟨by omega,by simp;omega,trivial⟩];simp
  ·cases hs
theorem LL{s ao:dn}{x:aj}{lo hi:Option aj}{a c:Int}(hs:sK s a c=some ao)(ha:w8 ah lo 0 a)(hc:w8 ah hi (s.length:Int) c)(h:ah x=.str s):cc call ah H H.length (.qX x lo hi)=some (.str ao,H,H.length):=by
 show step ah H H.length (.qX x lo hi)=_;unfold sK at hs;split at hs
 ·rename_i q;obtain⟨q1,q2,cn⟩:=q;cases hs
  simp only[step,h,ha.eq (n:=0) rfl q1,hc.eq (n:=s.length) rfl (by omega)];rw[if_pos ⟨by omega,by omega⟩]
 ·cases hs
theorem fe.cells{b es:Nat}{v:V}{s:ae V}{m:List (Nat × b5)}(h:fe b es v s m):aC v=[v]:=by cases h<;>rfl
theorem fe.eF{b es:Nat}{v:V}{s:ae V}{m:List (Nat × b5)}(h:fe b es v s m):Abs.eF v=true:=by cases h<;>rfl
theorem w9{α:Type}(es:Nat)(f:α->V)(s:ae α):elems H es (bn es f s)=some (s.l.map f):=by cases s<;>simp[elems,bn,ae.l]
theorem ua{α:Type}{f:α->V}(h:∀a,bI (f a)=true):∀l:List α,cj (l.map f)=true
 |[]=>rfl
 |a::l=>by simp[cj,h a,ua h l]
theorem xa{α:Type}{f:α->V}(h:∀a,bL (aC (f a))=true):∀l:List α,bL ((l.map f).flatMap aC)=true
 |[]=>rfl
 |a::l=>by
  have app:∀x y:List V,bL (x++y)=(bL x&&bL y):=fun x y=>by
   induction x with
   |nil=>simp[bL]
   |cons c x ih=>simp[bL,ih,zI]
  simp[app,h a,xa h l]
theorem ad8{α:Type}{es bytes:Nat}{f:α->V}{s y ao:ae α}{d:Option (Nat × Bool)}{g:Option (aj × Bool)}{dB fP:aj}{dC:V}{m:List (Nat × b5)}{Q:bW->Heap->List Bool->Prop}{ms:cG}(hw:gd aq σ g=some true)(k:Nat)
  (hs:gz bytes s y=some ao) (aw:Own H ms) (hk:ms[k]? =some m) (hr:fE b es f dC s m) (ha:bw aq σ dB=dC) (hb:bw aq σ fP=bn es f y) (hp:∀a,bI (f a)=true) (hc:∀a,bL (aC (f a))=true)
  (cr:∀H' v' m' mv,fE b es f v' ao m'->Own H' (ms.set k m')->Op aa b rest (fI aq d v') (fJ σ d v') H' (mv::wr) Q):Op aa b (⟨d,.append es bytes dB fP,g⟩::rest) aq σ H wr Q:=by
 intro aF au low h1 h2 ar aS
 have oR:ms.set k m=ms:=by
  apply oA;intro i;by_cases e:k=i
  ·subst e;rw[nI (fj.1 hk).1,hk]
  ·rw[jx e]
 have hfz:e0 H H.length (y.l.map f)=some (y.l.map f,H,H.length):=vk (ua hp _);have ry:=xa hc y.l;unfold gz at hs;by_cases hy:y.l=[]
 ·rw[if_pos hy]at hs
  cases hs;refine j5 (o:=⟨d,.append es bytes dB fP,g⟩) (mv:=false) (v:=dC) (H1:=H) hw (fun cy=>⟨cy,H.length,cy,?_,lJ H⟩) (cr H dC m false hr (by rw[oR];exact aw)) aF au low h1 h2 ar aS;rw[n4];simp only[step,hb,w9];rw[hfz,hy];simp only[iT,Oq,if_true,ha];have dj:fe b es dC (s.map f) m:=hr;generalize oW:s.map f=hS at dj;cases dj with
  |nil=>rfl
  |emp=>rfl
  |row l ds h hD=>simp[aw.get k hk]
 ·rw[if_neg hy]at hs
  split at hs
  ·rename_i ea
   cases hs
   have bg:(y.l.map f).isEmpty=false:=by cases vl:y.l with
    |nil=>exact absurd vl hy
    |cons=>rfl
   have pF:(bL ((y.l.map f).flatMap aC)=false)=False:=by rw[ry];simp
   have dj:fe b es dC (s.map f) m:=hr;generalize oW:s.map f=hS at dj;cases dj with
   |nil=>
    have ec:s.l=[]:=by cases s<;>simp_all [ae.map,ae.l]
    have oc:(y.l.map f).length*(bytes+1)<=2^40:=by simpa[ec]using ea
    refine j5 (o:=⟨d,.append es bytes dB fP,g⟩) (mv:=true) (v:=.bJ H.length es 0 (y.l.map f).length (y.l.map f).length) (H1:=H++[.row es (y.l.map f) false]) hw
     (fun cy=>⟨by simp;omega,H.length,cy,?_,by simp[ew]⟩) (cr _ _ [(H.length,.row es (y.l.map f) false)] true ?_ (aw.fill k hk)) aF au low h1 h2 ar aS
    ·rw[n4]
     simp only[step,hb,w9];rw[hfz];simp only[bg,gq,if_false,pF,ha,oc,if_true]
    ·simp only[ec,jN,ae.map]
     exact .row _ _ (by simpa using hy) aS
   |emp=>
    have ec:s.l=[]:=by cases s<;>simp_all [ae.map,ae.l]
    have oc:(y.l.map f).length*(bytes+1)<=2^40:=by simpa[ec]using ea
    refine j5 (o:=⟨d,.append es bytes dB fP,g⟩) (mv:=true) (v:=.bJ H.length es 0 (y.l.map f).length (y.l.map f).length) (H1:=H++[.row es (y.l.map f) false]) hw
     (fun cy=>⟨by simp;omega,H.length,cy,?_,by simp[ew]⟩) (cr _ _ [(H.length,.row es (y.l.map f) false)] true ?_ (aw.fill k hk)) aF au low h1 h2 ar aS
    ·rw[n4]
     simp only[step,hb,w9];rw[hfz];simp only[bg,gq,if_false,pF,ha,oc,if_true]
    ·simp only[ec,jN,ae.map]
     exact .row _ _ (by simpa using hy) aS
   |row l ds hd hD=>
    have ec:s.l.map f=ds:=by cases s<;>simp_all [ae.map,ae.l]
    have hlen:s.l.length=ds.length:=by rw[<-ec,eL]
    have ba:=aw.get k hk;have aT:=sI ba
    refine j5 (o:=⟨d,.append es bytes dB fP,g⟩) (mv:=true) (v:=.bJ l es 0 (ds++y.l.map f).length (ds++y.l.map f).length) (H1:=H.set l (.row es (ds++y.l.map f) false)) hw
     (fun cy=>⟨by simpa using cy,l,hD,?_,by simp[ew,aT]⟩) (cr _ _ [(l,.row es (ds++y.l.map f) false)] true ?_ (aw.put k hk)) aF au low h1 h2 ar aS
    ·rw[n4]
     simp only[step,hb,w9];rw[hfz];simp only[bg,gq,if_false,pF,ha,ba,eZ];rw[if_pos ⟨trivial,trivial,trivial,trivial,trivial,by rw[hlen]at ea;simpa using ea⟩,uU (vR aT)]
     done
    ·show fe b es _ (.mk ((s.l++y.l).map f)) _
     rw[kk,ec];exact .row _ _ (by simp[hd]) hD
  ·cases hs
def xb:Nat->List V->bW
 | _,[]=>n9
 |i,v::r=>up (xb (i+1) r) i v
theorem Rj:∀(i:Nat) (vs:List V),Fits (fl i vs) (xb i vs)
 | _,[]=>tX
 |i,v::r=>adX (Rj (i+1) r) i v
inductive ub (σ:bW) (H:Heap):List nd->List V->Prop
 |nil:ub σ H [] []
 |tmp {t:Nat} {v:V} {rs:List nd} {vs:List V} (h:σ t=v) (r:ub σ H rs vs):ub σ H (.tmp t::rs) (v::vs)
 |cell {a l o:Nat} {sh:Option Nat} {cs:List V} {v:V} {rs:List nd} {vs:List V} (h:σ a=.ptr l o) (ba:H[l]? =some (.cells cs)) (hr:iJ cs o sh=some v) (r:ub σ H rs vs):ub σ H (.cell a sh::rs) (v::vs)
theorem ub.eq{au:Env}(ag:Fits au σ):∀{rs:List nd} {vs:List V},ub σ H rs vs->gP au H rs=some vs
 | _,_,.nil=>rfl
 | _,_,.tmp h r=>by simp only[gP,kl,r.eq ag,ag _,h]
 | _,_,.cell h ba hr r=>by simp only[gP,kl,ag _,h,jQ,ba,hr,r.eq ag]
@[simp] theorem aDZ {α : Type} {es : Nat} {f : α -> V} {s : ae α} {l n : Nat} : bI (.bJ l es 0 n n) = false := rfl
def lK (b n:Nat)(ms:cG)(v v':V)(gT:cG):Prop:=∀H low,Own H ms->b<=low->∃H' low',dR n H low v=some (v',H',low')/\Own H' gT/\b<=low'
def pG (b n:Nat)(ms:cG)(vs vs':List V)(gT:cG):Prop:=∀H low,Own H ms->b<=low->∃H' low',kY (dR n) H low vs=some (vs',H',low')/\Own H' gT/\b<=low'
theorem lK.plain{n:Nat}{ms:cG}{v:V}(h:bI v=true):lK b n ms v v ms:=fun H low aw hb=>⟨H,low,by cases n<;>simp[dR,h],aw,hb⟩
theorem pG.nil{n:Nat}{ms:cG}:pG b n ms [] [] ms:=fun H low aw hb=>⟨H,low,rfl,aw,hb⟩
theorem pG.cons{n:Nat}{ms ad9 aea:cG}{v v':V}{vs vs':List V}(h:lK b n ms v v' ad9)(r:pG b n ad9 vs vs' aea):pG b n ms (v::vs) (v'::vs') aea:=fun H low aw hb=>by
 obtain⟨H1,bO,af,iP,b1⟩:=h H low aw hb;obtain⟨H2,dH,ak,art,e3⟩:=r H1 bO iP b1;exact⟨H2,dH,by simp only[kY,af,ak],art,e3⟩
theorem lK.aU{n:Nat}{ms gT:cG}{vs vs':List V}(h:pG b n ms vs vs' gT)(hp:cj vs=false):lK b (n+1) ms (.aU vs) (.aU vs') gT:=fun H low aw hb=>by
 obtain⟨H1,bO,af,iP,b1⟩:=h H low aw hb;exact⟨H1,bO,by simp only[dR,bI,hp,gq,if_false,af],iP,b1⟩
theorem lK.agg{n:Nat}{ms gT:cG}{vs vs':List V}(h:pG b n ms vs vs' gT)(hp:cj vs=false):lK b (n+1) ms (.agg vs) (.agg vs') gT:=fun H low aw hb=>by
 obtain⟨H1,bO,af,iP,b1⟩:=h H low aw hb;exact⟨H1,bO,by simp only[dR,bI,hp,gq,if_false,af],iP,b1⟩
def l7 (m:List (Nat × b5)):List (Nat × b5):=m.map fun p=>(p.1,match p.2 with| .row es ds _=>.row es ds true|o=>o)
theorem lK.row{α:Type}{n es:Nat}{f:α->V}{s:ae α}{v:V}{m:List (Nat × b5)}{ms:cG}(k:Nat)(hk:ms[k]? =some m)(hr:fE b es f v s m)(hp:∀a,bI (f a)=true):lK b (n+1) ms v (bn es f s) (ms.set k (l7 m)):=fun H low aw hb=>by
 have oR:∀m',m'=m->ms.set k m'=ms:=fun m' hm=>by
  apply oA;intro i;by_cases e:k=i
  ·subst e;rw[nI (fj.1 hk).1,hk,hm]
  ·rw[jx e]
 rw[ad4];have dj:fe b es v (s.map f) m:=hr;generalize oW:s.map f=hS at dj;clear hr;cases dj with
 |nil=>exact⟨H,low,rfl,by rw[oR (l7 []) rfl];exact aw,hb⟩
 |emp=>exact⟨H,low,rfl,by rw[oR (l7 []) rfl];exact aw,hb⟩
 |row l ds h hD=>
  have sd:cj ds=true:=by
   cases s<;>simp[ae.map]at oW;rw[<-oW];exact ua hp _
  refine⟨H.set l (.row es ds true),min low l,?_,aw.put k hk,by omega⟩;simp[dR,bI,aw.get k hk,sd,bn]
def one:List V->V
 |[x]=>x
 |us=>.aU us
def LM (rs:List nd)(σ:bW)(H:Heap)(b:Nat)(v:V):Prop:=
 ∃(us:List V) (u:V) (ms gT:cG),ub σ H rs us/\one us=u/\Own H ms/\lK b 16 ms u v gT
theorem aeb{rs:List nd}{us:List V}{v:V}(h:ub σ H rs us)(he:one us=v)(hp:bI v=true):LM rs σ H b v:=
 ⟨us,v,[],[],h,he,.nil H,.plain hp⟩
theorem aec{rs:List nd}{us:List V}{u v:V}{ms gT:cG}(h:ub σ H rs us)(he:one us=u)(aw:Own H ms)(hp:lK b 16 ms u v gT):LM rs σ H b v:=
 ⟨us,u,ms,gT,h,he,aw,hp⟩
theorem aed{i:Nat}{f:hY}{args caps:List V}{v:V}(cH:aa i=some (.code f))(hl:(args++caps).length<=f.zR)(eQ:f.fresh=false)
  (h:fc aa H.length f.body (xb 0 (args++caps)) H fun x aW H'=>(x=.normal\/x=.ret)/\LM f.results aW H' H.length v) (hp:bI v=true):
  b0 aa (.fn i [] caps) args H=some (v,H,H.length):=by
 obtain⟨x,dt,H',low',aW,af,ak,bK,cL,dF,us,u,ms,gT,hE,od,aru,wk⟩:=h _ H.length (Rj 0 _) (aH _) (aH _);obtain⟨H2,dH,ca,-,ez⟩:=wk H' low' aru bK;have c2:=hE.eq ak;have hold:old H.length v=true:=Rf hp
 have ig:∀w,w=u->finish f.fresh H w H' low'=some (v,H,H.length):=fun w hw=>by
  subst hw;rw[eQ];unfold finish;split
  ·simp_all
  ·simp only[fF,ca,ez,hold,and_self,if_true]
 rw[k3,cH];simp only[jN,gF];rw[if_pos hl,af];rcases dF with rfl|rfl
 ·simp only[c2]
  match us,od with
  |[w],hu=>exact ig w hu
  |[],hu=>exact ig _ hu
  |a::b::r,hu=>exact ig _ hu
 ·simp only[c2]
  match us,od with
  |[w],hu=>exact ig w hu
  |[],hu=>exact ig _ hu
  |a::b::r,hu=>exact ig _ hu
end
end Go.Abs
namespace Go.Abs
open Go
section
variable{aa:Nat->Option bU}{b:Nat}{aq σ:bW}{H:Heap}{wr:List Bool}{rest:List bS}{call:cW}{ah:aj->V}
def gK{K W:Type}(hf:K->V)(gL:W->V)(m:List (K × W)):List (V × V):=m.map fun p=>(hf p.1,gL p.2)
theorem G5 (a c:Int):iK 0 (aI a) (aI c)=some (a==c):=by simp[iK]
theorem arv (a c:dn):iK 1 (.str a) (.str c)=some (a==c):=rfl
theorem G6{K W:Type}[BEq K]{hf:K->V}{gL:W->V}{kind:Nat}(heq:∀a c,iK kind (hf a) (hf c)=some (a==c))(k:K):∀m:List (K × W),hZ kind (hf k) (gK hf gL m)=some ((jq m k).map gL)
 |[]=>rfl
 |p::r=>by
  have ih:=G6 (gL:=gL) heq k r;simp only[gK,jq]at ih⊢;simp only[dv,hZ,heq,J6];cases k==p.1<;>simp[ih]
theorem aee{K W:Type}[BEq K]{hf:K->V}{gL:W->V}{kind:Nat}(heq:∀a c,iK kind (hf a) (hf c)=some (a==c))(k:K)(w:W):∀m:List (K × W),kZ kind (hf k) (gL w) (gK hf gL m)=gK hf gL (mM m k w)
 |[]=>rfl
 |p::r=>by
  have ih:=aee (gL:=gL) heq k w r;simp only[gK]at ih⊢;simp only[dv,kZ,heq,mM];cases k==p.1<;>simp[ih]
theorem aef{K W:Type}[BEq K]{hf:K->V}{gL:W->V}{kind a:Nat}{m:List (K × W)}{k:K}{z:V}{x i:aj}(heq:∀a c,iK kind (hf a) (hf c)=some (a==c))(z0:W)(aR:z=gL z0)(ba:H[a]? =some (.map (gK hf gL m)))(hx:ah x=.map a)(hi:ah i=hf k):
  cc call ah H H.length (.lookup kind z x i false)=some (gL ((jq m k).getD z0),H,H.length):=by
 rw[GX];simp only[step,hx,ba,hi,G6 heq];cases jq m k<;>simp[aR]
theorem arw{K W:Type}[BEq K]{hf:K->V}{gL:W->V}{kind a:Nat}{m:List (K × W)}{k:K}{z:V}{x i:aj}(heq:∀a c,iK kind (hf a) (hf c)=some (a==c))(z0:W)(aR:z=gL z0)(ba:H[a]? =some (.map (gK hf gL m)))(hx:ah x=.map a)(hi:ah i=hf k):
  cc call ah H H.length (.lookup kind z x i true)=some (.aU [gL ((jq m k).getD z0),.bool (jq m k).isSome],H,H.length):=by
 rw[GX];simp only[step,hx,ba,hi,G6 heq];cases jq m k<;>simp[aR]
theorem aeg{K W:Type}{hf:K->V}{gL:W->V}{a:Nat}{m:List (K × W)}{x:aj}(ba:H[a]? =some (.map (gK hf gL m)))(hx:ah x=.map a):cc call ah H H.length (.len 2 x)=some (aI (m.length:Int),H,H.length):=by
 show step ah H H.length (.len 2 x)=_;simp[step,hx,ba,gK]
theorem aeh{K W:Type}[BEq K]{hf:K->V}{gL:W->V}{kind a:Nat}{m:List (K × W)}{k:K}{w:W}{d:Option (Nat × Bool)}{g:Option (aj × Bool)}{x i y:aj}{Q:bW->Heap->List Bool->Prop}{ms:cG}(hw:gd aq σ g=some true)
  (heq:∀a c,iK kind (hf a) (hf c)=some (a==c)) (aw:Own H ms) (j:Nat) (hk:ms[j]? =some [(a,.map (gK hf gL m))]) (hb:b<=a) (hx:bw aq σ x=.map a) (hi:bw aq σ i=hf k) (hy:bw aq σ y=gL w) (hp:bI (gL w)=true)
  (cr:∀H',Own H' (ms.set j [(a,.map (gK hf gL (mM m k w)))])->Op aa b rest (fI aq d .undef) (fJ σ d .undef) H' (true::wr) Q):Op aa b (⟨d,.p8 kind x i y,g⟩::rest) aq σ H wr Q:=by
 have ba:=aw.get j hk;have aT:=sI ba;have hu:u0 (gL w)=false:=by cases ad:gL w<;>simp_all [u0,bI]
 refine j5 (o:=⟨d,.p8 kind x i y,g⟩) (mv:=true) (H1:=H.set a (.map (gK hf gL (mM m k w)))) hw (fun cy=>⟨by simpa using cy,a,hb,?_,by simp[ew,aT]⟩) (cr _ (aw.put j hk));simp only[Q2,step,hy];have ag:fF H H.length (gL w)=some (gL w,H,H.length):=by simp[fF,dR,hp]
 simp only[ag,hu,hx,ba,hi,G6 heq,aee heq];simp[uU (vR aT)]
theorem fe.elems{α:Type}{es:Nat}{f:α->V}{s:ae α}{v:V}{m:List (Nat × b5)}{ms:cG}(aw:Own H ms)(k:Nat)(hk:ms[k]? =some m)(hr:fE b es f v s m):elems H es v=some (s.l.map f):=by
 have dj:fe b es v (s.map f) m:=hr;generalize oW:s.map f=hS at dj;clear hr;cases dj with
 |nil=>cases s<;>simp_all [ae.map,ae.l,Abs.elems]
 |emp=>cases s<;>simp_all [ae.map,ae.l,Abs.elems]
 |row l ds h hb=>
  have:s.l.map f=ds:=by cases s<;>simp_all [ae.map,ae.l]
  simp[Abs.elems,aw.get k hk,this]
theorem arx{α:Type}{es:Nat}{f:α->V}{s:ae α}{v:V}{m:List (Nat × b5)}{ms:cG}{x:aj}(aw:Own H ms)(k:Nat)(hk:ms[k]? =some m)(hr:fE b es f v s m)(hx:ah x=v):cc call ah H H.length (.len 1 x)=some (aI s.len,H,H.length):=by
 have dj:fe b es v (s.map f) m:=hr;generalize oW:s.map f=hS at dj;clear hr;show step ah H H.length (.len 1 x)=_;cases dj with
 |nil=>cases s<;>simp_all [ae.map,ae.len,ae.l,step]
 |emp=>cases s<;>simp_all [ae.map,ae.len,ae.l,step]
 |row l ds h hb=>
  have:s.l.map f=ds:=by cases s<;>simp_all [ae.map,ae.l]
  subst this;simp[step,hx,aw.get k hk,ae.len]
theorem ary{α:Type}{es bytes:Nat}{f:α->V}{z:List V}{e:α}{n:Int}{s:ae α}{bY aei:IntKind}{d:Option (Nat × Bool)}{g:Option (aj × Bool)}{x y:aj}{Q:bW->Heap->List Bool->Prop}{ms:cG}(hw:gd aq σ g=some true)
  (hs:A6 bytes e n=some s) (aw:Own H ms) (aR:lz z=f e) (hx:bw aq σ x=.int bY n) (hy:bw aq σ y=.int aei n)
  (cr:∀H' v' m' mv,fE b es f v' s m'->Own H' (m'::ms)->Op aa b rest (fI aq d v') (fJ σ d v') H' (mv::wr) Q):Op aa b (⟨d,.mkSlice es z bytes x y,g⟩::rest) aq σ H wr Q:=by
 intro aF au low h1 h2 ar aS;unfold A6 at hs;split at hs
 ·rename_i hc
  cases hs;by_cases h0:n=0
  ·subst h0
   refine j5 (o:=⟨d,.mkSlice es z bytes x y,g⟩) (mv:=false) (v:=.emp) (H1:=H) hw (fun cy=>⟨cy,H.length,cy,?_,lJ H⟩) (cr H .emp [] false ?_ (aw.ins 0)) aF au low h1 h2 ar aS
   ·rw[Q1];simp[step,hx,hy]
   ·exact .emp
  ·refine j5 (o:=⟨d,.mkSlice es z bytes x y,g⟩) (mv:=true) (v:=.bJ H.length es 0 n.toNat n.toNat) (H1:=H++[.row es (List.replicate n.toNat (f e)) false]) hw
    (fun cy=>⟨by simp;omega,H.length,cy,?_,by simp[ew]⟩) (cr _ _ [(H.length,.row es (List.replicate n.toNat (f e)) false)] true ?_ (aw.grow _)) aF au low h1 h2 ar aS
   ·rw[Q1];simp only[step,hx,hy,aR]
    rw[if_pos ⟨trivial,hc.1,hc.2⟩,if_neg h0]
   ·rw[if_neg h0]
    have:fe b es (.bJ H.length es 0 (List.replicate n.toNat (f e)).length (List.replicate n.toNat (f e)).length) (.mk (List.replicate n.toNat (f e))) [(H.length,.row es (List.replicate n.toNat (f e)) false)]:=.row _ _ (by simp;omega) aS;simpa[fE,ae.map]using this
 ·cases hs
theorem fe.at{α:Type}{es:Nat}{f:α->V}{s:ae α}{v:V}{m:List (Nat × b5)}{l N:Nat}(hr:fE b es f v s m)(ad:v=.bJ l es 0 N N):m=[(l,.row es (s.l.map f) false)]/\N=(s.l.map f).length/\b<=l/\s.map f=.mk (s.l.map f):=by
 have dj:fe b es v (s.map f) m:=hr;generalize oW:s.map f=hS at dj;clear hr;cases dj with
 |nil=>cases ad
 |emp=>cases ad
 |row l ds h hb=>
  have:s.l.map f=ds:=by cases s<;>simp_all [ae.map,ae.l]
  cases ad;exact⟨by rw[this],by rw[this],hb,by rw[this]⟩
theorem arz{α:Type}{es l N off:Nat}{f:α->V}{s:ae α}{n:Int}{e:α}{v u:V}{m:List (Nat × b5)}{ms:cG}{sh:Option Nat}{x:aj}(k:Nat)(he:bE s.l n=some e)(aw:Own H ms)(hk:ms[k]? =some m)(hr:fE b es f v s m)(ad:v=.bJ l es 0 N N)(hu:iJ (aC (f e)) off sh=some u)(hx:ah x=.hz l es n.toNat off N):
  cc call ah H H.length (.load sh x)=some (u,H,H.length):=by
 obtain⟨rfl,rfl,-,-⟩:=hr.at ad;rw[n2,hx];unfold bE at he;split at he
 ·simp[jQ,aw.get k hk,he,hu]
 ·cases he
theorem arA{α:Type}{es l N off cR:Nat}{f:α->V}{s:ae α}{n:Int}{e e':α}{v:V}{m:List (Nat × b5)}{vs:List V}{d:Option (Nat × Bool)}{g:Option (aj × Bool)}{x y:aj}{Q:bW->Heap->List Bool->Prop}{ms:cG}(hw:gd aq σ g=some true)(k:Nat)
  (he:bE s.l n=some e) (aw:Own H ms) (hk:ms[k]? =some m) (hr:fE b es f v s m) (ad:v=.bJ l es 0 N N) (hx:bw aq σ x=.hz l es n.toNat off N) (hy:aC (bw aq σ y)=vs) (hn:vs.length=cR) (hp:mj vs=true) (lH:yb (f e) off vs=some (f e'))
  (cr:∀H' m',fE b es f v (pE s n e') m'->Own H' (ms.set k m')->Op aa b rest (fI aq d .undef) (fJ σ d .undef) H' (true::wr) Q):Op aa b (⟨d,.store cR x y,g⟩::rest) aq σ H wr Q:=by
 obtain⟨rfl,rfl,hb,eX⟩:=hr.at ad;have ba:=aw.get k hk;have aT:=sI ba;unfold bE at he;split at he
 ·rename_i nn
  have hi:n.toNat<s.l.length:=(fj.1 he).1;have oR:(s.l.map f).set n.toNat (f e')=(pE s n e').l.map f:=by simp[pE,ae.l,List.map_set]
  have bg:(pE s n e').l.map f≠[]:=by
   have hlen:((pE s n e').l.map f).length=s.l.length:=by simp[pE,ae.l]
   intro h0;rw[h0]at hlen;simp at hlen;omega
  refine j5 (o:=⟨d,.store cR x y,g⟩) (mv:=true) (H1:=H.set l (.row es ((pE s n e').l.map f) false)) hw (fun cy=>⟨by simpa using cy,l,hb,?_,by simp[ew,aT]⟩) (cr _ _ ?_ (aw.put k hk))
  ·simp only[l3,hx,jy,ba,hy]
   rw[if_pos ⟨trivial,trivial,hn,hp⟩];simp[he,lH,oR,uU (vR aT)]
  ·have:=fe.row (b:=b) (es:=es) l ((pE s n e').l.map f) bg hb
   rw[ad];have hl:((pE s n e').l.map f).length=(s.l.map f).length:=by simp[pE,ae.l]
   rw[hl]at this;exact this
 ·cases he
theorem Rk:∀{vs:List V} {H:Heap} {low:Nat},e0 H low vs=kY (dR 16) H low vs
 |[],_,_=>rfl
 |v::vs,H,low=>by
  simp only[e0,kY,fF];cases dR 16 H low v with
  |none=>rfl
  |some r=>simp only[Rk]
theorem aej{d:Option (Nat × Bool)}{g:Option (aj × Bool)}{f:aj}{ay:List aj}{fv v:V}{vs vs':List V}{Q:bW->Heap->List Bool->Prop}{ms gT:cG}(hw:gd aq σ g=some true)(aw:Own H ms)(aR:pG b 16 ms vs vs' gT)
  (hc:∀H',b0 aa fv vs' H'=some (v,H',H'.length)) (km:flat v=true) (ha:ay.map (bw aq σ)=vs) (ag:bw aq σ f=fv)
  (cr:Op aa b rest (fI aq d v) (fJ σ d v) H (false::wr) Q):Op aa b (⟨d,.call false f ay,g⟩::rest) aq σ H wr Q:=by
 intro aF au low h1 h2 ar aS;obtain⟨H1,bO,af,iP,b1⟩:=aR H H.length aw aS;refine jb (v:=v) hw ?_ cr aF au low h1 h2 ar aS;subst ha;subst ag;rw[qC,Rk,af];simp[hc,km]
theorem arB{d:Option (Nat × Bool)}{g:Option (aj × Bool)}{f:aj}{ay:List aj}{fv v:V}{vs vs':List V}{Q:bW->Heap->List Bool->Prop}{ms gT:cG}(hw:gd aq σ g=some true)(aw:Own H ms)(aR:pG b 16 ms vs vs' gT)(hlen:∀H low r,kY (dR 16) H low vs=some r->r.2.1.length=H.length)
  (hc:∀H',b0 aa fv vs' H'=some (v,H',H'.length)) (km:flat v=false) (ha:ay.map (bw aq σ)=vs) (ag:bw aq σ f=fv)
  (cr:∀H' mv,Own H' gT->Op aa b rest (fI aq d v) (fJ σ d v) H' (mv::wr) Q):Op aa b (⟨d,.call false f ay,g⟩::rest) aq σ H wr Q:=by
 intro aF au low h1 h2 ar aS;obtain⟨H1,bO,af,iP,b1⟩:=aR H H.length aw aS;have hl:=hlen _ _ _ af;refine j5 (o:=⟨d,.call false f ay,g⟩) (v:=v) (H1:=H1) (mv:=ew H H1 (min bO H1.length)) hw (fun hb=>⟨by simp only at hl;omega,min bO H1.length,by simp only at hl;omega,?_,rfl⟩) (cr H1 _ iP) aF au low h1 h2 ar aS;subst ha;subst ag;simp only[];rw[qC,Rk,af];simp[hc,km]
end
end Go.Abs
namespace Go.Abs
open Go
@[simp] theorem aD0 (l : List V) : aC (.agg l) = l := rfl
@[simp] theorem aD1 : aC .aN = [.aN] := rfl
@[simp] theorem aD2 : aC .emp = [.emp] := rfl
@[simp] theorem aD3 (e : Nat) (l : List V) : aC (.list e l) = [.list e l] := rfl
@[simp] theorem aD4 (e l : Nat) : aC (.ptr e l) = [.ptr e l] := rfl
@[simp] theorem aD5 (e : Nat) : aC (.map e) = [.map e] := rfl
@[simp] theorem aD6 : aC .ji = [.ji] := rfl
abbrev At (σ:bW)(ts:List Nat)(vs:List V):Prop:=ts.map σ=vs
def LN:bW->List Nat->List V->bW
 |σ,t::ts,v::vs=>LN (up σ t v) ts vs
 |σ,_,_=>σ
theorem G7:∀{ts:List Nat} {vs:List V} {σ:bW},At σ ts vs->LN σ ts vs=σ
 |[],[],_,_=>rfl
 |[],_::_,_,h=>by cases h
 | _::_,[],_,h=>by cases h
 |t::ts,v::vs,σ,h=>by
  simp only[At,dv,x6]at h;simp only[LN,arh h.1];exact G7 h.2
section
variable{aa:Nat->Option bU}{b:Nat}{aq σ:bW}{H:Heap}{wr:List Bool}{rest:List bS}{call:cW}{ah:aj->V}{d:Option (Nat × Bool)}{op:cV}{t:aj}{β w:Bool}
theorem dQ{c:bZ}{Q:X->bW->Heap->Prop}{ts:List Nat}{vs:List V}(h:At σ ts vs)(k:fc aa b c (LN σ ts vs) H Q):fc aa b c σ H Q:=by rw[G7 h]at k;exact k
theorem pH{ops:List bS}{c:bZ}{Q:X->bW->Heap->Prop}(h:Op aa b ops n9 σ H [] (fun aW H' _=>fc aa b c aW H' Q)):fc aa b (.seq (.region ops none) c) σ H Q:=qF (vj h)
variable{Q:bW->Heap->List Bool->Prop}
theorem pp (v:V)(k:Op aa b rest (fI aq d v) (fJ σ d v) H (false::wr) Q)(h:cc (b0 aa) (bw aq σ) H H.length op=some (v,H,H.length):=by exact rfl):Op aa b (⟨d,op,none⟩::rest) aq σ H wr Q:=jb rfl h k
theorem ph (v:V)(h:cc (b0 aa) (bw aq σ) H H.length op=some (v,H,H.length))(k:Op aa b rest (fI aq d v) (fJ σ d v) H (false::wr) Q):Op aa b (⟨d,op,none⟩::rest) aq σ H wr Q:=jb rfl h k
theorem lj (v:V)(c:β=w)(k:Op aa b rest (fI aq d v) (fJ σ d v) H (false::wr) Q)(h:cc (b0 aa) (bw aq σ) H H.length op=some (v,H,H.length):=by exact rfl)(ht:bw aq σ t=.bool β:=by exact rfl):Op aa b (⟨d,op,some (t,w)⟩::rest) aq σ H wr Q:=jb (jo ht c) h k
theorem qG (c:β=false)(k:Op aa b rest (fI aq d (.aU [])) (fJ σ d (.aU [])) H (false::wr) Q)(ht:bw aq σ t=.bool β:=by exact rfl):Op aa b (⟨d,op,some (t,true)⟩::rest) aq σ H wr Q:=Ra (LH ht c) k
theorem cC (c:β=true)(k:Op aa b rest (fI aq d (.aU [])) (fJ σ d (.aU [])) H (false::wr) Q)(ht:bw aq σ t=.bool β:=by exact rfl):Op aa b (⟨d,op,some (t,false)⟩::rest) aq σ H wr Q:=Ra (LI ht c) k
end
theorem G8:∀{vs:List V} {n:Nat} {H:Heap} {low:Nat},cj vs=true->kY (dR n) H low vs=some (vs,H,low)
 |[],_,_,_,_=>rfl
 |v::r,n,H,low,h=>by
  simp only[cj,b6]at h;have h1:dR n H low v=some (v,H,low):=by cases n<;>simp[dR,h.1]
  simp only[kY,h1,G8 h.2]
section
variable{aa:Nat->Option bU}{b:Nat}{σ:bW}{H:Heap}
theorem cM{S O:Type}{c:bZ}{Q:X->bW->Heap->Prop}(f:S->Option (di S O))(I:S->bW->Heap->Prop)(P:O->X->bW->Heap->Prop){s:S}{o:O}(h:cd f s=some o)(bq:I s σ H)
 (round:∀s σ H r,I s σ H->f s=some r->fc aa b c σ H fun x aW H'=>match r with
   | .next ao=>x=.normal/\I ao aW H'
   | .out o=>x≠ .normal/\P o x aW H') (k:∀x aW H',P o x aW H'->Q x aW H'):fc aa b (.loop c) σ H Q:=Rg (P o) (ark f I P round h bq) k
end
end Go.Abs
