/- Texts of this claim, joined and written short by a program. -/
import Derived.Test.YtgkcikhegodchaaGreatDoorP21
import Derived.Test.YtgkcikhegodchaaGreatDoorP20
import Derived.Test.YtgkcikhegodchaaGreatDoorP00
set_option linter.unusedVariables false
set_option linter.unusedSimpArgs false
set_option linter.unusedSectionVars false
namespace Go.Abs
open Go
variable{aa:Nat->Option cc}
structure RC (aa:Nat->Option cc) (i es:Nat):Prop where
 nil:∀H,b9 aa (.fn i [] []) [.cu] H=some (.aF [],H,H.length)
 emp:∀H,b9 aa (.fn i [] []) [.emp] H=some (.aF [],H,H.length)
 row:∀(H:Heap) (l:Nat) (ds:List V),H[l]? =some (.row es ds false)->bM (ds.flatMap aI)=true->ds.length<=1099511627776->b9 aa (.fn i [] []) [.cB l es 0 ds.length ds.length] H=some (.aF [],H.set l (.row es ds.reverse false),min H.length l)
structure acV (aa:Nat->Option cc) (i es:Nat):Prop where
 row:∀(H:Heap) (l:Nat) (ds:List V) (a c:Nat),H[l]? =some (.row es ds false)->cj ds=true->bM (ds.flatMap aI)=true->ds.length<=1099511627776->a<=c->c<=ds.length->
  ∃Cn,b9 aa (.fn i [] []) [.cB l es 0 ds.length ds.length,.int .i64 a,.int .i64 c] H=some (.list es (ds.take a++ds.drop c),H.set l (.row es Cn true),min H.length l)
def acW{α:Type}:ae α->Option (ae α)
 | .nil=>some .nil
 | .emp=>some .emp
 | .mk l=>if l.length<=1099511627776 then some (.mk l.reverse)else none
def acX{α:Type}(s:ae α)(a c:Int):Option (ae α):=match s with
 | .mk l=>if 0<=a/\a<=c/\c<=l.length/\l.length<=1099511627776 then some (.mk (l.take a.toNat++l.drop c.toNat))else none
 | _=>none
section
variable{b:Nat}{aq σ:bY}{H:Heap}{wr:List Bool}{rest:List bU}
theorem acY{α:Type}{l:List α}{k:Nat}{a:α}(h:l[k]? =some a):l.set k a=l:=by
 apply q7;intro i;by_cases e:k=i
 ·subst e;rw[oA (eY.1 h).1,h]
 ·rw[jE e]
theorem arc{α:Type}{i es:Nat}{f:α->V}{s y:ae α}{v:V}{m:List (Nat × cf)}{d:Option (Nat × Bool)}{g:Option (ai × Bool)}{k4 x:ai}{Q:bY->Heap->List Bool->Prop}{ms:cG}(hw:gi aq σ g=some true)
  (c1:RC aa i es) (k:Nat) (hs:acW s=some y) (av:Own H ms) (hk:ms[k]? =some m) (hr:e3 b es f v s m) (ag:bB aq σ k4=.fn i [] []) (hx:bB aq σ x=v) (hc:∀a,bM (aI (f a))=true)
  (cA:∀H' m' mv,e3 b es f v y m'->Own H' (ms.set k m')->Op aa b rest (fN aq d (.aF [])) (fO σ d (.aF [])) H' (mv::wr) Q):Op aa b (⟨d,.call true k4 [x],g⟩::rest) aq σ H wr Q:=by
 cases s with
 |nil=>
  cases hs;have dd:fm b es v .nil m:=hr;cases dd;refine jw (o:=⟨d,.call true k4 [x],g⟩) (v:=.aF []) (H1:=H) (mv:=eG H H (min H.length H.length)) hw (fun hb=>⟨hb,_,by omega,?_,rfl⟩) (cA H [] _ .nil (by rw[acY hk];exact av));rw[oa];simp only[dX,jF,ag,hx,c1.nil]
 |emp=>
  cases hs;have dd:fm b es v .emp m:=hr;cases dd;refine jw (o:=⟨d,.call true k4 [x],g⟩) (v:=.aF []) (H1:=H) (mv:=eG H H (min H.length H.length)) hw (fun hb=>⟨hb,_,by omega,?_,rfl⟩) (cA H [] _ .emp (by rw[acY hk];exact av));rw[oa];simp only[dX,jF,ag,hx,c1.emp]
 |mk l=>
  have dd:fm b es v (.mk (l.map f)) m:=hr;have hs:(if l.length<=1099511627776 then some (ae.mk l.reverse)else none)=some y:=hs;split at hs
  ·rename_i hle
   cases hs;cases dd with
   |row a _ h hb=>
    have bb:=av.get k hk;have aG:=qT bb;refine jw (o:=⟨d,.call true k4 [x],g⟩) (v:=.aF []) (H1:=H.set a (.row es (l.map f).reverse false)) (mv:=true) hw (fun cC=>⟨by simpa using cC,min H.length (min H.length a),by omega,?_,?_⟩) (cA _ _ _ ?_ (av.put k hk))
    ·rw[oa]
     simp only[dX,jF,ag,hx,c1.row H a _ bb (w2 hc l) (by simpa using hle)]
    ·simp only[eG,j2,decide_eq_true_eq]
     exact .inl (by omega)
    ·have:=fm.row (b:=b) (es:=es) a (l.map f).reverse (by simpa using h) hb
     rw[ND]at this;show fm b es _ (.mk (l.reverse.map f)) _;rw[List.map_reverse];exact this
  ·cases hs
theorem acZ{α:Type}{es bytes:Nat}{f:α->V}{s y ar:ae α}{d:Option (Nat × Bool)}{g:Option (ai × Bool)}{dE fW:ai}{cn:V}{m:List (Nat × cf)}{Q:bY->Heap->List Bool->Prop}{ms:cG}(hw:gi aq σ g=some true)(k:Nat)
  (hs:hh bytes s y=some ar) (av:Own H ms) (hk:ms[k]? =some m) (hr:e3 b es f cn s m) (al:bB aq σ dE=cn) (hb:elems H es (bB aq σ fW)=some (y.l.map f)) (hp:∀a,bx (f a)=true) (hc:∀a,bM (aI (f a))=true)
  (cA:∀H' v' m' mv,e3 b es f v' ar m'->Own H' (ms.set k m')->Op aa b rest (fN aq d v') (fO σ d v') H' (mv::wr) Q):Op aa b (⟨d,.append es bytes dE fW,g⟩::rest) aq σ H wr Q:=by
 intro aM ay low h1 h2 au a7
 have mb:ms.set k m=ms:=by
  apply q7;intro i;by_cases e:k=i
  ·subst e;rw[oA (eY.1 hk).1,hk]
  ·rw[jE e]
 have hfz:fb H H.length (y.l.map f)=some (y.l.map f,H,H.length):=o9 (tY hp _);have rH:=w2 hc y.l;unfold hh at hs;by_cases hy:y.l=[]
 ·rw[if_pos hy]at hs
  cases hs;refine jw (o:=⟨d,.append es bytes dE fW,g⟩) (mv:=false) (v:=cn) (H1:=H) hw (fun cC=>⟨cC,H.length,cC,?_,lv H⟩) (cA H cn m false hr (by rw[mb];exact av)) aM ay low h1 h2 au a7;rw[o5];simp only[step,hb];rw[hfz,hy];simp only[jF,NM,if_true,al];have dd:fm b es cn (s.map f) m:=hr;generalize pb:s.map f=h4 at dd;cases dd with
  |nil=>rfl
  |emp=>rfl
  |row l ds h hC=>simp[av.get k hk]
 ·rw[if_neg hy]at hs
  split at hs
  ·rename_i ev
   cases hs
   have bq:(y.l.map f).isEmpty=false:=by cases w3:y.l with
    |nil=>exact absurd w3 hy
    |cons=>rfl
   have p9:(bM ((y.l.map f).flatMap aI)=false)=False:=by rw[rH];simp
   have dd:fm b es cn (s.map f) m:=hr;generalize pb:s.map f=h4 at dd;cases dd with
   |nil=>
    have ew:s.l=[]:=by cases s<;>simp_all [ae.map,ae.l]
    have oe:(y.l.map f).length*(bytes+1)<=2^40:=by simpa[ew]using ev
    refine jw (o:=⟨d,.append es bytes dE fW,g⟩) (mv:=true) (v:=.cB H.length es 0 (y.l.map f).length (y.l.map f).length) (H1:=H++[.row es (y.l.map f) false]) hw
     (fun cC=>⟨by simp;omega,H.length,cC,?_,by simp[eG]⟩) (cA _ _ [(H.length,.row es (y.l.map f) false)] true ?_ (av.fill k hk)) aM ay low h1 h2 au a7
    ·rw[o5]
     simp only[step,hb];rw[hfz];simp only[bq,fV,if_false,p9,al,oe,if_true]
    ·simp only[ew,j4,ae.map]
     exact .row _ _ (by simpa using hy) a7
   |emp=>
    have ew:s.l=[]:=by cases s<;>simp_all [ae.map,ae.l]
    have oe:(y.l.map f).length*(bytes+1)<=2^40:=by simpa[ew]using ev
    refine jw (o:=⟨d,.append es bytes dE fW,g⟩) (mv:=true) (v:=.cB H.length es 0 (y.l.map f).length (y.l.map f).length) (H1:=H++[.row es (y.l.map f) false]) hw
     (fun cC=>⟨by simp;omega,H.length,cC,?_,by simp[eG]⟩) (cA _ _ [(H.length,.row es (y.l.map f) false)] true ?_ (av.fill k hk)) aM ay low h1 h2 au a7
    ·rw[o5]
     simp only[step,hb];rw[hfz];simp only[bq,fV,if_false,p9,al,oe,if_true]
    ·simp only[ew,j4,ae.map]
     exact .row _ _ (by simpa using hy) a7
   |row l ds hd hC=>
    have ew:s.l.map f=ds:=by cases s<;>simp_all [ae.map,ae.l]
    have hlen:s.l.length=ds.length:=by rw[<-ew,gR]
    have bb:=av.get k hk;have aG:=qT bb
    refine jw (o:=⟨d,.append es bytes dE fW,g⟩) (mv:=true) (v:=.cB l es 0 (ds++y.l.map f).length (ds++y.l.map f).length) (H1:=H.set l (.row es (ds++y.l.map f) false)) hw
     (fun cC=>⟨by simpa using cC,l,hC,?_,by simp[eG,aG]⟩) (cA _ _ [(l,.row es (ds++y.l.map f) false)] true ?_ (av.put k hk)) aM ay low h1 h2 au a7
    ·rw[o5]
     simp only[step,hb];rw[hfz];simp only[bq,fV,if_false,p9,al,bb,hO];rw[if_pos ⟨trivial,trivial,trivial,trivial,trivial,by rw[hlen]at ev;simpa using ev⟩,sf (pB aG)]
     done
    ·show fm b es _ (.mk ((s.l++y.l).map f)) _
     rw[kS,ew];exact .row _ _ (by simp[hd]) hC
  ·cases hs
theorem ard{i es:Nat}{d:Option (Nat × Bool)}{g:Option (ai × Bool)}{k4 x:ai}{Q:bY->Heap->List Bool->Prop}(hw:gi aq σ g=some true)
  (c1:RC aa i es) (ag:bB aq σ k4=.fn i [] []) (hx:bB aq σ x=.cu)
  (cA:∀mv,Op aa b rest (fN aq d (.aF [])) (fO σ d (.aF [])) H (mv::wr) Q):Op aa b (⟨d,.call true k4 [x],g⟩::rest) aq σ H wr Q:=by
 refine jw (o:=⟨d,.call true k4 [x],g⟩) (v:=.aF []) (H1:=H) (mv:=eG H H (min H.length H.length)) hw (fun hb=>⟨hb,_,by omega,?_,rfl⟩) (cA _);rw[oa];simp only[dX,jF,ag,hx,c1.nil]
theorem arf{α:Type}{i es:Nat}{f:α->V}{s y:ae α}{v:V}{a c:Int}{m:List (Nat × cf)}{d:Option (Nat × Bool)}{g:Option (ai × Bool)}{k4 x dE lL:ai}{Q:bY->Heap->List Bool->Prop}{ms:cG}(hw:gi aq σ g=some true)
  (c1:acV aa i es) (k:Nat) (hs:acX s a c=some y) (av:Own H ms) (hk:ms[k]? =some m) (hr:e3 b es f v s m) (ag:bB aq σ k4=.fn i [] []) (hx:bB aq σ x=v) (mn:bB aq σ dE=.int .i64 a) (RD:bB aq σ lL=.int .i64 c) (hp:∀a,bx (f a)=true) (tu:∀a,bM (aI (f a))=true)
  (cA:∀H' m' mv,Own H' (ms.set k m')->Op aa b rest (fN aq d (aV es f y)) (fO σ d (aV es f y)) H' (mv::wr) Q):Op aa b (⟨d,.call true k4 [x,dE,lL],g⟩::rest) aq σ H wr Q:=by
 cases s with
 |nil=>cases hs
 |emp=>cases hs
 |mk l=>
  have dd:fm b es v (.mk (l.map f)) m:=hr;have hs:(if 0<=a/\a<=c/\c<=l.length/\l.length<=1099511627776 then some (ae.mk (l.take a.toNat++l.drop c.toNat))else none)=some y:=hs;split at hs
  ·rename_i hc
   obtain⟨h0,h1,h2,au⟩:=hc;obtain⟨n,rfl⟩:=Eu h0;obtain⟨q,rfl⟩:=Eu (Int.le_trans h0 h1);cases hs;cases dd with
   |row a _ h hb=>
    have bb:=av.get k hk;have aG:=qT bb;obtain⟨Cn,e⟩:=c1.row H a _ n q bb (tY hp l) (w2 tu l) (by simpa using au) (by omega) (by rw[gR];omega);rw[<-List.map_take,<-List.map_drop,<-kS]at e;refine jw (o:=⟨d,.call true k4 [x,dE,lL],g⟩) (H1:=H.set a (.row es Cn true)) (mv:=true) hw (fun cC=>⟨by simpa using cC,min H.length (min H.length a),by omega,?_,?_⟩) (cA _ _ _ (av.put k hk))
    ·rw[oa]
     simp only[dX,jF,ag,hx,mn,RD,e];rfl
    ·simp only[eG,j2,decide_eq_true_eq]
     exact .inl (by omega)
  ·cases hs
end
end Go.Abs
namespace Go.Abs
open Go
variable{aa:Nat->Option cc}
inductive hq:List Bool->List Bool->Prop
 |nil:hq [] []
 |cons {a c:Bool} {l r:List Bool} (h:a=true->c=true) (k:hq l r):hq (a::l) (c::r)
theorem hq.get{l r:List Bool}:hq l r->∀{i:Nat},l[i]? =some true->r[i]? =some true
 | .nil,_,h=>by simp at h
 | .cons h k,0,e=>by simp at e;subst e;simp[h rfl]
 | .cons h k,i+1,e=>by simpa using k.get (by simpa using e)
theorem hq.app{l r fB lh:List Bool}:hq l r->hq fB lh->hq (l++fB) (r++lh)
 | .nil,h=>h
 | .cons h k,h'=>.cons h (k.app h')
theorem hq.rev{l r:List Bool}:hq l r->hq l.reverse r.reverse
 | .nil=>.nil
 | .cons h k=>by rw[List.reverse_cons,List.reverse_cons];exact k.rev.app (.cons h .nil)
theorem hq.refl:∀l:List Bool,hq l l
 |[]=>.nil
 | _::r=>.cons id (hq.refl r)
theorem hq.take{l r:List Bool}:hq l r->∀n,hq (l.take n) (r.take n)
 | .nil,n=>by simp;exact .nil
 | .cons h k,0=>.nil
 | .cons h k,n+1=>.cons h (k.take n)
theorem hq.len{l r:List Bool}:hq l r->l.length=r.length
 | .nil=>rfl
 | .cons _ k=>by simp[k.len]
theorem hq.no{l r:List Bool}:hq l r->r.all (!·)=true->l.all (!·)=true
 | .nil,_=>rfl
 | .cons (a:=a) (c:=c) h k,e=>by
   simp only[Ck,cm]at e⊢;refine⟨?_,k.no e.2⟩;cases a with
   |false=>rfl
   |true=>rw[h rfl]at e;cases e.1
theorem RE{call:c5}(hc:mN call){ops:List bU}{S:Nat->aw}{bc:Nat->Bool}(hs:∀i bh,ops[i]? =some bh->mP call bh (S i) (S (i+1)) (bc i)){i:Nat}:∀{d:Nat},i+d<=ops.length->(∀x,i<=x->x<i+d->bc x=false)->(S (i+d)).H=(S i).H
 |0,_,_=>rfl
 |d+1,hd,ag=>by
  have:=(hs (i+d) ops[i+d] (jD (by omega))).still hc (ag (i+d) (by omega) (by omega));exact this.trans (RE hc hs (d:=d) (by omega) fun x h1 h2=>ag x h1 (by omega))
theorem arh{call:c5}{bh:bU}{S lP:aw}{bc:Bool}(h:mP call bh S lP bc)(ag:bc=false):jH call (bh,S,S.H)=true:=by
 unfold jH;rcases h with⟨h0,v,H1,bL,h1,-,h2⟩|⟨h0,-,-⟩
 ·simp only[h0,h1,QD,dy,oB]
  exact h2.symm.trans ag
 ·simp only[h0]
theorem RF{call:c5}:∀{ops:List bU} {st:aw} {cv:List aw},fH call ops st=some cv->cv.length=ops.length+1
 |[],st,cv,h=>by simp only[fH,aD]at h;subst h;rfl
 |o::r,st,cv,h=>by
  simp only[fH]at h;split at h
  ·split at h
   ·obtain⟨t,h1,rfl⟩:=cD.1 h
    simp[RF h1]
   ·cases h
  ·obtain⟨t,h1,rfl⟩:=cD.1 h
   simp[RF h1]
  ·cases h
theorem ari{call:c5}:∀{ops:List bU} {st:aw} {cv:List aw},fH call ops st=some cv->cv[0]? =some st
 |[],st,cv,h=>by simp only[fH,aD]at h;subst h;rfl
 |o::r,st,cv,h=>by
  simp only[fH]at h;split at h
  ·split at h
   ·obtain⟨t,h1,rfl⟩:=cD.1 h;rfl
   ·cases h
  ·obtain⟨t,h1,rfl⟩:=cD.1 h;rfl
  ·cases h
inductive kj (aa:Nat->Option cc) (b:Nat) (ms:cG):List bU->bY->bY->Heap->bY->bY->Heap->List Bool->Prop
 |nil {aq σ:bY} {H:Heap}:kj aa b ms [] aq σ H aq σ H []
 |step {o:bU} {rest:List bU} {aq σ a8 aT:bY} {H H':Heap} {v:V} {wr:List Bool} (hw:gi aq σ o.guard=some true) (h:∀H,Own H ms->ch (b9 aa) (bB aq σ) H H.length o.op=some (v,H,H.length)) (k:kj aa b ms rest (fN aq o.dst v) (fO σ o.dst v) H a8 aT H' wr):kj aa b ms (o::rest) aq σ H a8 aT H' (false::wr)
 |skip {o:bU} {rest:List bU} {aq σ a8 aT:bY} {H H':Heap} {wr:List Bool} (hw:gi aq σ o.guard=some false) (k:kj aa b ms rest (fN aq o.dst (.aF [])) (fO σ o.dst (.aF [])) H a8 aT H' wr):kj aa b ms (o::rest) aq σ H a8 aT H' (false::wr)
 |make {o:bU} {rest:List bU} {aq σ a8 aT:bY} {H H1 H':Heap} {bL:Nat} {v:V} {wr:List Bool} (hw:gi aq σ o.guard=some true) (h:ch (b9 aa) (bB aq σ) H H.length o.op=some (v,H1,bL)) (hb:b<=bL) (hB:b<=H1.length) (av:Own H1 ms) (k:kj aa b ms rest (fN aq o.dst v) (fO σ o.dst v) H1 a8 aT H' wr):kj aa b ms (o::rest) aq σ H a8 aT H' (true::wr)
theorem iB.fE{b:Nat}{ms:cG}{A:List bU}{aq σ a8 aT:bY}{H:Heap}(h:iB (b9 aa) ms A aq σ a8 aT):kj aa b ms A aq σ H a8 aT H (List.replicate A.length false):=by
 induction h with
 |nil=>exact .nil
 |step hw h k ih=>exact .step hw h ih
 |skip hw k ih=>exact .skip hw ih
theorem kj.append{b:Nat}{ms:cG}{A B:List bU}{aq σ eT cM LP iZ:bY}{H H1 H2:Heap}{w w':List Bool}(h:kj aa b ms A aq σ H eT cM H1 w)(k:kj aa b ms B eT cM H1 LP iZ H2 w'):kj aa b ms (A++B) aq σ H LP iZ H2 (w++w'):=by
 induction h with
 |nil=>exact k
 |step hw h _ ih=>exact .step hw h (ih k)
 |skip hw _ ih=>exact .skip hw (ih k)
 |make hw h b1 e8 av _ ih=>exact .make hw h b1 e8 av (ih k)
theorem kj.len{b:Nat}{ms:cG}{A:List bU}{aq σ eT cM:bY}{H H1:Heap}{w:List Bool}(h:kj aa b ms A aq σ H eT cM H1 w):w.length=A.length:=by
 induction h<;>simp_all
theorem kj.own{b:Nat}{ms:cG}{A:List bU}{aq σ eT cM:bY}{H H1:Heap}{w:List Bool}(h:kj aa b ms A aq σ H eT cM H1 w)(av:Own H ms)(hb:b<=H.length):Own H1 ms/\b<=H1.length:=by
 induction h with
 |nil=>exact⟨av,hb⟩
 |step hw h _ ih=>exact ih av hb
 |skip hw _ ih=>exact ih av hb
 |make hw h b1 e8 lW _ ih=>exact ih lW e8
theorem kj.run{b:Nat}{ms:cG}:∀{A:List bU} {aq σ a8 aT:bY} {H H':Heap} {w:List Bool},kj aa b ms A aq σ H a8 aT H' w->∀{aM ay:Env} {low:Nat} {wr:List Bool} (B:List bU),Fits aM aq->Fits ay σ->Own H ms->b<=low->b<=H.length->
  ∃iY dm low' w',Fits iY a8/\Fits dm aT/\b<=low'/\b<=H'.length/\Own H' ms/\hq w' w/\c8 (b9 aa) (A++B) ⟨aM,ay,H,low,none⟩ wr=c8 (b9 aa) B ⟨iY,dm,H',low',none⟩ (w'.reverse++wr)/\
   ∀cv,fH (b9 aa) (A++B) ⟨aM,ay,H,low,none⟩=some cv->∃kG lV,cv=kG++lV/\kG.length=A.length/\fH (b9 aa) B ⟨iY,dm,H',low',none⟩=some lV/\(∀T∈kG,Own T.H ms)/\
    ∀(i:Nat) (o:bU) (T:aw),A[i]? =some o->kG[i]? =some T->w[i]? =some false->∀H',Own H' ms->jH (b9 aa) (o,T,H')=true
 |[],aq,σ,_,_,H,_,_,.nil,aM,ay,low,wr,B,h1,h2,av,hb,hl=>⟨aM,ay,low,[],h1,h2,hb,hl,av,.nil,rfl,fun cv h=>⟨[],cv,rfl,rfl,h,(fun _ h=>nomatch h),(fun i o T h=>by simp at h)⟩⟩
 |o::A,aq,σ,a8,aT,H,H',_,.step (v:=v) (wr:=w) hw h k,aM,ay,low,wr,B,h1,h2,av,hb,hB=>by
  obtain⟨nC,lx,ad,e2,bK⟩:=wY h1 h2 H (min low H.length) o.dst v;obtain⟨iY,dm,low',w',f1,f2,f0,f5,f6,f7,f3,f4⟩:=k.run (low:=min low H.length) (wr:=false::wr) B e2 bK av (by omega) hB;have jx:=hw;rw[<-AD h1 h2]at jx;have hs:=h H av;rw[<-tW h1 h2]at hs;refine⟨iY,dm,low',false::w',f1,f2,f0,f5,f6,.cons id f7,?_,fun cv ht=> ?_⟩
  ·simp only[l4,c8,jx,hs,lv]
   rw[ad,f3];simp
  ·simp only[l4,fH,jx,hs]at ht
   rw[ad]at ht;obtain⟨nZ,ey,rfl⟩:=cD.1 ht;obtain⟨kG,lV,rfl,g1,g2,g0,g3⟩:=f4 nZ ey;refine⟨_::kG,lV,rfl,by simp[g1],g2,fun T hT=>(dG.1 hT).elim (fun e=>e ▸ av) (g0 T),fun i p T hp hT hi H' lW=> ?_⟩;cases i with
   |zero=>
    simp only[nO,aD]at hp hT;subst hp;subst hT;have Az:=h H' lW;rw[<-tW h1 h2]at Az;simp only[jH,jx,hs,Az,lv,pA,sj,QD]
   |succ i=>
    simp only[Ev]at hp hT hi;exact g3 i p T hp hT hi H' lW
 |o::A,aq,σ,a8,aT,H,H',_,.skip (wr:=w) hw k,aM,ay,low,wr,B,h1,h2,av,hb,hB=>by
  obtain⟨nC,lx,ad,e2,bK⟩:=wY h1 h2 H low o.dst (.aF []);obtain⟨iY,dm,low',w',f1,f2,f0,f5,f6,f7,f3,f4⟩:=k.run (wr:=false::wr) B e2 bK av hb hB;have jx:=hw;rw[<-AD h1 h2]at jx;refine⟨iY,dm,low',false::w',f1,f2,f0,f5,f6,.cons id f7,?_,fun cv ht=> ?_⟩
  ·simp only[l4,c8,jx]
   rw[ad,f3];simp
  ·simp only[l4,fH,jx]at ht
   rw[ad]at ht;obtain⟨nZ,ey,rfl⟩:=cD.1 ht;obtain⟨kG,lV,rfl,g1,g2,g0,g3⟩:=f4 nZ ey;refine⟨_::kG,lV,rfl,by simp[g1],g2,fun T hT=>(dG.1 hT).elim (fun e=>e ▸ av) (g0 T),fun i p T hp hT hi H' lW=> ?_⟩;cases i with
   |zero=>
    simp only[nO,aD]at hp hT;subst hp;subst hT;simp only[jH,jx]
   |succ i=>
    simp only[Ev]at hp hT hi;exact g3 i p T hp hT hi H' lW
 |o::A,aq,σ,a8,aT,H,H',_,.make (H1:=H1) (bL:=bL) (v:=v) (wr:=w) hw h b1 e8 rR k,aM,ay,low,wr,B,h1,h2,av,hb,hB=>by
  obtain⟨nC,lx,ad,e2,bK⟩:=wY h1 h2 H1 (min low bL) o.dst v;obtain⟨iY,dm,low',w',f1,f2,f0,f5,f6,f7,f3,f4⟩:=k.run (low:=min low bL) (wr:=eG H H1 bL::wr) B e2 bK rR (by omega) e8;have jx:=hw;rw[<-AD h1 h2]at jx;have hs:=h;rw[<-tW h1 h2]at hs;refine⟨iY,dm,low',eG H H1 bL::w',f1,f2,f0,f5,f6,.cons (fun _=>rfl) f7,?_,fun cv ht=> ?_⟩
  ·simp only[l4,c8,jx,hs]
   rw[ad,f3];simp
  ·simp only[l4,fH,jx,hs]at ht
   rw[ad]at ht;obtain⟨nZ,ey,rfl⟩:=cD.1 ht;obtain⟨kG,lV,rfl,g1,g2,g0,g3⟩:=f4 nZ ey;refine⟨_::kG,lV,rfl,by simp[g1],g2,fun T hT=>(dG.1 hT).elim (fun e=>e ▸ av) (g0 T),fun i p T hp hT hi H' lW=> ?_⟩;cases i with
   |zero=>simp at hi
   |succ i=>
    simp only[Ev]at hp hT hi;exact g3 i p T hp hT hi H' lW
def DQ (eK:List Nat)(ops:List bU)(w wr:List Bool):Bool:=
 wr.zipIdx.all fun(x,i)=>!x||ops.zipIdx.all fun(o,j)=>!gE o.op||i==j||qv eK i j||(Nat.blt i w.length&&Nat.blt j w.length&&!w.getD j true)
theorem arj{eK:List Nat}{ops:List bU}{w wr nh:List Bool}(h:hq wr nh)(ho:DQ eK ops w nh=true):DQ eK ops w wr=true:=by
 unfold DQ at ho⊢;rw[eE]at ho⊢;rintro⟨x,i⟩ hx;cases x with
 |false=>rfl
 |true=>exact ho (true,i) (jC.2 (h.get (jC.1 hx)))
section
variable{b:Nat}{eT σ cM:bY}{H H1:Heap}{Q:X->bY->Heap->Prop}{ms:cG}
theorem ark{A R ops:List bU}{eK:List Nat}(qL:A++R=ops)(av:Own H ms)
  (dM:b<=H.length->∃eT cM H1 w,kj aa b ms A oc σ H eT cM H1 w/\∀w',hq w' w->Op aa b R eT cM H1 w'.reverse (fun aT H' wr=>DQ eK ops w wr=true/\Q .normal aT H')):
  fj aa b (.region ops (some eK)) σ H Q:=fun ay low h1 h2 au=>by
 obtain⟨eT,cM,H1,w,hA,U⟩:=dM au;obtain⟨nC,lx,b6,w',f1,f2,f0,f5,f6,f7,f3,f4⟩:=hA.run (low:=low) (wr:=[]) R tV h1 av h2 au;obtain⟨arl,RG,DR,Be,Bf,RH,b4,dq,jK,Bg,vg,arn⟩:=U w' f7 nC lx b6 f1 f2 f0 f5;rw[qL,qt]at f3;rw[qL]at f4;have he:c8 (b9 aa) ops ⟨[],ay,H,low,none⟩ []=some (⟨arl,RG,DR,Be,none⟩,Bf):=f3.trans b4;obtain⟨cv,pW⟩:=F9 he;obtain⟨kG,lV,t1,t2,t3,t4,t5⟩:=f4 cv pW;have RI:=hA.len;have aro:=ari t3;obtain⟨S,bc,h0,hn,lr,hs⟩:=u1 _ _ _ _ _ he;obtain⟨lP,aBc,-,-,ac0,-⟩:=u1 _ _ _ _ _ b4;rw[List.reverse_reverse]at ac0;have oK:=JT ops S bc cv hs (by rw[h0];exact pW);simp only[List.reverse_nil,j4]at lr
 have hw:∀{i},Bf[i]? =some true↔i<ops.length/\bc i=true:=fun {i}=>by
  rw[lr,iH];by_cases hi:i<ops.length
  ·rw[NA hi];simp[hi]
  ·rw[nP (by simpa using hi)];simp[hi]
 have ac1:∀{i},Bf.getD i false=true↔i<ops.length/\bc i=true:=fun {i}=>by
  rw[<-hw,nq];cases Bf[i]? with
  |none=>simp
  |some x=>simp
 have arp:∀{i},i<w.length->Bf[i]? =some true->w[i]? =some true:=fun {i} hi h=>by
  rw[ac0,fY (by rw[f7.len];exact hi)]at h;exact f7.get h
 have ca:∀i,i<ops.length->bc i=true->∀j o',ops[j]? =some o'->gE o'.op=true->i≠j->qv eK i j=true\/(i<w.length/\j<w.length/\w[j]? =some false):=fun i hi ag j o' hj ht cY=>by
  unfold DQ at vg;rw[eE]at vg;have:=vg (true,i) (jC.2 (hw.2 ⟨hi,ag⟩));simp only[fZ,tj,eE]at this;have:=this (o',j) (jC.2 hj);simp only[ht,fZ,j2,cm,beq_iff_eq,cY,or_false,fV,false_or]at this;refine this.imp id fun⟨⟨q1,q2⟩,b3⟩=> ?_;have q1:=(Nat.blt_eq ..).mp q1;have q2:=(Nat.blt_eq ..).mp q2;refine⟨q1,q2,?_⟩;rw[nq,jD q2]at b3;rw[jD q2];simpa using b3
 have tP:ss (b9 aa) eK ops Bf ⟨[],ay,H,low,none⟩=true:=by
  unfold ss;rw[pW];simp only[cm];constructor
  ·unfold Jm
   simp only[eE];rintro⟨x,i⟩ hi;cases x with
   |false=>rfl
   |true=>
    simp only[fZ,tj,eE];rintro⟨e1,j⟩ hj;cases e1 with
    |false=>rfl
    |true=>
     have JI:=jC.1 hj;have hi:=hw.1 (jC.1 hi);have hj:=hw.1 JI;by_cases cY:i=j
     ·simp[cY]
     ·have ac2:=jD hj.1
      rcases ca i hi.1 hi.2 j _ ac2 ((hs j _ ac2).gE hj.2) cY with q|⟨q1,q2,b3⟩
      ·simp[q]
      ·rw[arp q2 JI]at b3;cases b3
  ·rw[eE]
   intro q bu;unfold Jn at bu;simp only[Jd]at bu;obtain⟨⟨o',j⟩,hj,bu⟩:=bu;have hj:=jC.1 hj;simp only at hj bu;split at bu
   ·cases bu
   rename_i C9;simp only[j2,oB,not_or,NJ,Bool.not_eq_true]at C9;obtain⟨ht,iz⟩:=C9;simp only[Jd]at bu;obtain⟨⟨Co,k⟩,hk,bu⟩:=bu;have hk:=jC.1 hk;simp only at hk bu;split at bu
   ·cases bu
   rename_i CC;have oN:j<ops.length:=(eY.1 hj).1
   have tG:k<=ops.length:=by
    have:=(eY.1 hk).1;rw[RF pW]at this;omega
   have ac3:=oK k tG;rw[hk]at ac3;cases ac3;rw[oK j (by omega)]at bu;simp only[I8]at bu;subst bu;simp only[j2,beq_iff_eq,cm,bne_iff_ne,ne_eq,oB,not_or,not_and,NJ]at CC;obtain⟨⟨wC,Fm⟩,RJ⟩:=CC
   have hex:∀i,i<ops.length->bc i=true->i≠j->qv eK i j=true->(i<j↔i<k):=fun i hi ag cY ac4=>by
    rw[<-decide_eq_decide];by_cases e:decide (i<j)=decide (i<k)
    ·exact e
    ·exact absurd (uL.2 ⟨(true,i),jC.2 (hw.2 ⟨hi,ag⟩),by simp[cY,ac4,e]⟩) RJ
   have ac5:bc j=false:=by
    cases hx:bc j with
    |false=>rfl
    |true=>rw[ac1.2 ⟨oN,hx⟩]at iz;cases iz
   by_cases Ae:j<w.length/\w[j]? =some false
   ·obtain⟨q1,q2⟩:=Ae
    have arq:j<A.length:=by omega
    have aBd:k<=A.length:=by
     by_cases rv:k=0
     ·omega
     ·obtain⟨pf,qX⟩:=ac1.1 (Fm rv)
      rcases gD (k-1) A.length with r|r
      ·omega
      ·rcases ca (k-1) pf qX j o' hj ht (by omega)with z|⟨z,-⟩
       ·have:=hex (k-1) pf qX (by omega) z
        omega
       ·omega
    have QK:Own (S k).H ms:=by
     rw[t1]at hk;rcases gD k A.length with r|r
     ·rw[fY (by omega)]at hk
      exact t4 _ (eZ hk)
     ·obtain rfl:k=A.length:=by omega
      rw[vH (by omega),t2,Nat.sub_self,aro]at hk;rw[<-ra hk];exact f6
    have ac6:=oK j (by omega);rw[<-qL,fY arq]at hj;rw[t1,fY (by omega)]at ac6;exact t5 j o' (S j) hj ac6 q2 _ QK
   ·have eC:∀x,x<ops.length->bc x=true->(x<j↔x<k):=fun x hx LQ=>by
     have tD:x≠j:=fun e=>by rw[e,ac5]at LQ;cases LQ
     rcases ca x hx LQ j o' hj ht tD with q|⟨-,q⟩
     ·exact hex x hx LQ tD q
     ·exact absurd q Ae
    have hH:(S k).H=(S j).H:=by
     have hc:=QJ aa
     have no:∀x,x<ops.length->(x<j/\k<=x\/x<k/\j<=x)->bc x=false:=fun x hx ac4=>by
      cases dZ:bc x with
      |false=>rfl
      |true=>have:=eC x hx dZ;omega
     rcases Nat.le_total k j with ars|hjk
     ·obtain⟨d,rfl⟩:=oz ars
      exact(RE hc hs (by omega) fun x pf qX=>no x (by omega) (by omega)).symm
     ·obtain⟨d,rfl⟩:=oz hjk
      exact RE hc hs (by omega) fun x pf qX=>no x (by omega) (by omega)
    rw[hH];exact arh (hs j o' hj) ac5
 exact⟨.normal,RG,DR,Be,RH,by rw[lJ];simp only[he,pD,tP,Bool.true_or,Bool.or_true,if_true,aw.gb],dq,jK,Bg,arn⟩
end
end Go.Abs
namespace Go.Abs
variable{aa:Nat->Option cc}
theorem ac7{α:Type}{es bytes b:Nat}{f:α->V}{s y ar:ae α}{dE fW:ai}{cn:V}{m:List (Nat × cf)}{ms:cG}{H:Heap}{ah:ai->V}(cC:b<=H.length)(k:Nat)
  (hs:hh bytes s y=some ar) (av:Own H ms) (hk:ms[k]? =some m) (hr:e3 b es f cn s m) (al:ah dE=cn) (hb:ah fW=aV es f y) (hp:∀a,bx (f a)=true) (hc:∀a,bM (aI (f a))=true):
  ∃v' H1 bL m',b<=bL/\b<=H1.length/\ch (b9 aa) ah H H.length (.append es bytes dE fW)=some (v',H1,bL)/\e3 b es f v' ar m'/\Own H1 (ms.set k m'):=by
 have mb:ms.set k m=ms:=by
  apply q7;intro i;by_cases e:k=i
  ·subst e;rw[oA (eY.1 hk).1,hk]
  ·rw[jE e]
 have hfz:fb H H.length (y.l.map f)=some (y.l.map f,H,H.length):=o9 (tY hp _);have rH:=w2 hc y.l;unfold hh at hs;by_cases hy:y.l=[]
 ·rw[if_pos hy]at hs
  cases hs;refine⟨cn,H,H.length,m,cC,cC,?_,hr,by rw[mb];exact av⟩;rw[o5];simp only[step,hb,w1];rw[hfz,hy];simp only[jF,NM,if_true,al];have dd:fm b es cn (s.map f) m:=hr;generalize pb:s.map f=h4 at dd;cases dd with
  |nil=>rfl
  |emp=>rfl
  |row l ds h hC=>simp[av.get k hk]
 ·rw[if_neg hy]at hs
  split at hs
  ·rename_i ev
   cases hs
   have bq:(y.l.map f).isEmpty=false:=by cases w3:y.l with
    |nil=>exact absurd w3 hy
    |cons=>rfl
   have p9:(bM ((y.l.map f).flatMap aI)=false)=False:=by rw[rH];simp
   have dd:fm b es cn (s.map f) m:=hr;generalize pb:s.map f=h4 at dd;cases dd with
   |nil=>
    have ew:s.l=[]:=by cases s<;>simp_all [ae.map,ae.l]
    have oe:(y.l.map f).length*(bytes+1)<=2^40:=by simpa[ew]using ev
    refine⟨.cB H.length es 0 (y.l.map f).length (y.l.map f).length,H++[.row es (y.l.map f) false],H.length,[(H.length,.row es (y.l.map f) false)],cC,by simp;omega,?_,?_,av.fill k hk⟩
    ·rw[o5]
     simp only[step,hb,w1];rw[hfz];simp only[bq,fV,if_false,p9,al,oe,if_true]
    ·simp only[ew,j4,ae.map]
     exact .row _ _ (by simpa using hy) cC
   |emp=>
    have ew:s.l=[]:=by cases s<;>simp_all [ae.map,ae.l]
    have oe:(y.l.map f).length*(bytes+1)<=2^40:=by simpa[ew]using ev
    refine⟨.cB H.length es 0 (y.l.map f).length (y.l.map f).length,H++[.row es (y.l.map f) false],H.length,[(H.length,.row es (y.l.map f) false)],cC,by simp;omega,?_,?_,av.fill k hk⟩
    ·rw[o5]
     simp only[step,hb,w1];rw[hfz];simp only[bq,fV,if_false,p9,al,oe,if_true]
    ·simp only[ew,j4,ae.map]
     exact .row _ _ (by simpa using hy) cC
   |row l ds hd hC=>
    have ew:s.l.map f=ds:=by cases s<;>simp_all [ae.map,ae.l]
    have hlen:s.l.length=ds.length:=by rw[<-ew,gR]
    have bb:=av.get k hk;have aG:=qT bb;refine⟨.cB l es 0 (ds++y.l.map f).length (ds++y.l.map f).length,H.set l (.row es (ds++y.l.map f) false),l,[(l,.row es (ds++y.l.map f) false)],hC,by simpa using cC,?_,?_,av.put k hk⟩
    ·rw[o5]
     simp only[step,hb,w1];rw[hfz];simp only[bq,fV,if_false,p9,al,bb,hO];rw[if_pos ⟨trivial,trivial,trivial,trivial,trivial,by rw[hlen]at ev;simpa using ev⟩,sf (pB aG)]
     done
    ·show fm b es _ (.mk ((s.l++y.l).map f)) _
     rw[kS,ew];exact .row _ _ (by simp[hd]) hC
  ·cases hs
theorem art{α:Type}{es bytes b:Nat}{f:α->V}{s y ar:ae α}{dE fW:ai}{cn:V}{m:List (Nat × cf)}{ms:cG}{H:Heap}{ah:ai->V}(cC:b<=H.length)(k:Nat)
  (hs:hh bytes s y=some ar) (av:Own H ms) (hk:ms[k]? =some m) (hr:e3 b es f cn s m) (al:ah dE=cn) (hb:elems H es (ah fW)=some (y.l.map f)) (hp:∀a,bx (f a)=true) (hc:∀a,bM (aI (f a))=true):
  ∃v' H1 bL m',b<=bL/\b<=H1.length/\ch (b9 aa) ah H H.length (.append es bytes dE fW)=some (v',H1,bL)/\e3 b es f v' ar m'/\Own H1 (ms.set k m'):=by
 have mb:ms.set k m=ms:=by
  apply q7;intro i;by_cases e:k=i
  ·subst e;rw[oA (eY.1 hk).1,hk]
  ·rw[jE e]
 have hfz:fb H H.length (y.l.map f)=some (y.l.map f,H,H.length):=o9 (tY hp _);have rH:=w2 hc y.l;unfold hh at hs;by_cases hy:y.l=[]
 ·rw[if_pos hy]at hs
  cases hs;refine⟨cn,H,H.length,m,cC,cC,?_,hr,by rw[mb];exact av⟩;rw[o5];simp only[step,hb];rw[hfz,hy];simp only[jF,NM,if_true,al];have dd:fm b es cn (s.map f) m:=hr;generalize pb:s.map f=h4 at dd;cases dd with
  |nil=>rfl
  |emp=>rfl
  |row l ds h hC=>simp[av.get k hk]
 ·rw[if_neg hy]at hs
  split at hs
  ·rename_i ev
   cases hs
   have bq:(y.l.map f).isEmpty=false:=by cases w3:y.l with
    |nil=>exact absurd w3 hy
    |cons=>rfl
   have p9:(bM ((y.l.map f).flatMap aI)=false)=False:=by rw[rH];simp
   have dd:fm b es cn (s.map f) m:=hr;generalize pb:s.map f=h4 at dd;cases dd with
   |nil=>
    have ew:s.l=[]:=by cases s<;>simp_all [ae.map,ae.l]
    have oe:(y.l.map f).length*(bytes+1)<=2^40:=by simpa[ew]using ev
    refine⟨.cB H.length es 0 (y.l.map f).length (y.l.map f).length,H++[.row es (y.l.map f) false],H.length,[(H.length,.row es (y.l.map f) false)],cC,by simp;omega,?_,?_,av.fill k hk⟩
    ·rw[o5]
     simp only[step,hb];rw[hfz];simp only[bq,fV,if_false,p9,al,oe,if_true]
    ·simp only[ew,j4,ae.map]
     exact .row _ _ (by simpa using hy) cC
   |emp=>
    have ew:s.l=[]:=by cases s<;>simp_all [ae.map,ae.l]
    have oe:(y.l.map f).length*(bytes+1)<=2^40:=by simpa[ew]using ev
    refine⟨.cB H.length es 0 (y.l.map f).length (y.l.map f).length,H++[.row es (y.l.map f) false],H.length,[(H.length,.row es (y.l.map f) false)],cC,by simp;omega,?_,?_,av.fill k hk⟩
    ·rw[o5]
     simp only[step,hb];rw[hfz];simp only[bq,fV,if_false,p9,al,oe,if_true]
    ·simp only[ew,j4,ae.map]
     exact .row _ _ (by simpa using hy) cC
   |row l ds hd hC=>
    have ew:s.l.map f=ds:=by cases s<;>simp_all [ae.map,ae.l]
    have hlen:s.l.length=ds.length:=by rw[<-ew,gR]
    have bb:=av.get k hk;have aG:=qT bb;refine⟨.cB l es 0 (ds++y.l.map f).length (ds++y.l.map f).length,H.set l (.row es (ds++y.l.map f) false),l,[(l,.row es (ds++y.l.map f) false)],hC,by simpa using cC,?_,?_,av.put k hk⟩
    ·rw[o5]
     simp only[step,hb];rw[hfz];simp only[bq,fV,if_false,p9,al,bb,hO];rw[if_pos ⟨trivial,trivial,trivial,trivial,trivial,by rw[hlen]at ev;simpa using ev⟩,sf (pB aG)]
     done
    ·show fm b es _ (.mk ((s.l++y.l).map f)) _
     rw[kS,ew];exact .row _ _ (by simp[hd]) hC
  ·cases hs
theorem ac8{α:Type}{es bytes:Nat}{f:α->V}{s y z:ae α}{dE fW:ai}{call:c5}{ah:ai->V}{H:Heap}{low:Nat}(hs:hh bytes s y=some z)(he:s=.nil\/s=.emp)(al:ah dE=aV es f s)(hb:ah fW=aV es f y)(hp:∀a,bx (f a)=true)(hc:∀a,bM (aI (f a))=true):
  ch call ah H low (.xS es bytes dE fW)=some (aV es f z,H,low):=by
 show step ah H low (.xS es bytes dE fW)=_;have hfz:cj (y.l.map f)=true:=tY hp _;have rH:=w2 hc y.l;simp only[step,hb,w1,hfz];unfold hh at hs;by_cases hy:y.l=[]
 ·rw[if_pos hy]at hs
  cases hs;rw[al,hy];rcases he with rfl|rfl<;>simp[aV]
 ·rw[if_neg hy]at hs
  split at hs
  ·rename_i ev
   cases hs
   have bq:(y.l.map f).isEmpty=false:=by cases w3:y.l with
    |nil=>exact absurd w3 hy
    |cons=>rfl
   have ew:s.l=[]:=by rcases he with rfl|rfl<;>rfl
   have oe:(y.l.map f).length*(bytes+1)<=2^40:=by simpa[ew]using ev
   rw[al];rcases he with rfl|rfl<;>simp only[aV,bq,rH,oe,fV,if_false,and_self,if_true,Bool.true_eq_false,ew,j4]
  ·cases hs
end Go.Abs
namespace Go.Abs.hv
open Go Go.Abs
inductive aR (az:Nat->Type):Type where
 |int (k:IntKind) (n:Int)
 |b2 (b:Bool)
 |bo (i:Nat) (neg:Bool)
 |str (s:ck)
 |sl (t:Nat) (s:ae (az t))
 |k (v:V)
 |agg (vs:List (aR az))
 |aF (vs:List (aR az))
 |dz (vs:List (aR az)) (f:Nat)
 |ptr (o off:Nat)
 |row (o:Nat)
 |hN (o:Nat) (n:Int) (f:Nat)
 |lC (o:Nat) (a b:Int)
 |fn (i:Nat) (caps:List (aR az))
 |fv (j:Nat)
 |lD
structure iT where
 az:Nat->Type
 es:Nat->Nat
 enc:(t:Nat)->az t->V
 h4:(t:Nat)->az t->Nat->aR az
 yM:(t:Nat)->az t->List Bool
 iC:(t:Nat)->aR az->List Bool->Option (az t)
 bc:Nat->Bool
 cA:Nat->Option Nat
 beq:(t:Nat)->az t->az t->Bool
 mp:Nat->Option (Nat × Nat)
 ac9:∀c p,mp c=some p->az c=List (az p.1 × az p.2)
section
variable (J:iT)(B:List Bool)(ρ:List V)(fs:List V)
inductive Bh:V->Nat->Nat->V->Prop
 |row (l es N a b:Nat) (h:a<b):Bh (.cB l es 0 N N) a b (.cB l es a (b-a) N)
 |ada (l es N a:Nat):Bh (.cB l es 0 N N) a a (.list es [])
 |nil:Bh .cu 0 0 .cu
 |emp:Bh .emp 0 0 .emp
mutual
inductive b8:aR J.az->V->Prop
 |int {k:IntKind} {n:Int}:b8 (.int k n) (.int k n)
 |b2 {b:Bool}:b8 (.b2 b) (.bool b)
 |bo {i:Nat} {b neg:Bool} (h:B[i]? =some b):b8 (.bo i neg) (.bool (b != neg))
 |str {s:ck}:b8 (.str s) (.str s)
 |sl {t:Nat} {s:ae (J.az t)}:b8 (.sl t s) (aV (J.es t) (J.enc t) s)
 |k {v:V}:b8 (.k v) v
 |agg {vs:List (aR J.az)} {ws:List V} (h:bG vs ws):b8 (.agg vs) (.agg ws)
 |aF {vs:List (aR J.az)} {ws:List V} (h:bG vs ws):b8 (.aF vs) (.aF ws)
 |dz {vs:List (aR J.az)} {ws:List V} {f:Nat} (h:bG vs ws):b8 (.dz vs f) (.dz ws f)
 |ptr {o off a:Nat} (h:ρ[o]? =some (.ptr a 0)):b8 (.ptr o off) (.ptr a off)
 |row {o:Nat} {v:V} (h:ρ[o]? =some v):b8 (.row o) v
 |hN {o f l es N:Nat} {n:Int} (h:ρ[o]? =some (.cB l es 0 N N)):b8 (.hN o n f) (.hz l es n.toNat f N)
 |lC {o:Nat} {a b:Int} {v w:V} (h:ρ[o]? =some v) (hw:Bh v a.toNat b.toNat w):b8 (.lC o a b) w
 |fn {i:Nat} {cs:List (aR J.az)} {ws:List V} (h:bG cs ws):b8 (.fn i cs) (.fn i [] ws)
 |fv {j:Nat} {v:V} (h:fs[j]? =some v):b8 (.fv j) v
 |lD {v:V}:b8 .lD v
inductive bG:List (aR J.az)->List V->Prop
 |nil:bG [] []
 |cons {v:aR J.az} {w:V} {vs:List (aR J.az)} {ws:List V} (h:b8 v w) (r:bG vs ws):bG (v::vs) (w::ws)
end
end
section
variable{J:iT}{B uj:List Bool}{ρ cR fs:List V}
theorem lZ{α:Type}{l fB:List α}(h:l <+: fB){i:Nat}{a:α}(hi:l[i]? =some a):fB[i]? =some a:=by
 obtain⟨t,rfl⟩:=h;rw[fY (eY.1 hi).1];exact hi
mutual
theorem b8.mono (dM:B <+: uj)(aU:ρ <+: cR):∀{v:aR J.az} {w:V},b8 J B ρ fs v w->b8 J uj cR fs v w
 | _,_,.int=>.int
 | _,_,.b2=>.b2
 | _,_,.bo h=>.bo (lZ dM h)
 | _,_,.str=>.str
 | _,_,.sl=>.sl
 | _,_,.k=>.k
 | _,_,.agg h=>.agg (bG.mono dM aU h)
 | _,_,.aF h=>.aF (bG.mono dM aU h)
 | _,_,.dz h=>.dz (bG.mono dM aU h)
 | _,_,.ptr h=>.ptr (lZ aU h)
 | _,_,.row h=>.row (lZ aU h)
 | _,_,.hN h=>.hN (lZ aU h)
 | _,_,.lC h q=>.lC (lZ aU h) q
 | _,_,.fn h=>.fn (bG.mono dM aU h)
 | _,_,.fv h=>.fv h
 | _,_,.lD=>.lD
theorem bG.mono (dM:B <+: uj)(aU:ρ <+: cR):∀{vs:List (aR J.az)} {ws:List V},bG J B ρ fs vs ws->bG J uj cR fs vs ws
 | _,_,.nil=>.nil
 | _,_,.cons h r=>.cons (b8.mono dM aU h) (bG.mono dM aU r)
end
mutual
theorem b8.back (dM:B <+: uj)(aU:ρ <+: cR):∀{v:aR J.az} {w w':V},b8 J B ρ fs v w->b8 J uj cR fs v w'->b8 J B ρ fs v w'
 | _,_,_,.int,.int=>.int
 | _,_,_,.b2,.b2=>.b2
 | _,_,_,.bo h,.bo h'=>by
   have:=lZ dM h;rw[h']at this;cases this;exact .bo h
 | _,_,_,.str,.str=>.str
 | _,_,_,.sl,.sl=>.sl
 | _,_,_,.k,.k=>.k
 | _,_,_,.agg h,.agg h'=>.agg (bG.back dM aU h h')
 | _,_,_,.aF h,.aF h'=>.aF (bG.back dM aU h h')
 | _,_,_,.dz h,.dz h'=>.dz (bG.back dM aU h h')
 | _,_,_,.ptr h,.ptr h'=>by
   have:=lZ aU h;rw[h']at this;cases this;exact .ptr h
 | _,_,_,.row h,.row h'=>by
   have:=lZ aU h;rw[h']at this;cases this;exact .row h
 | _,_,_,.hN h,.hN h'=>by
   have:=lZ aU h;rw[h']at this;cases this;exact .hN h
 | _,_,_,.lC h _,.lC h' q=>by
   have:=lZ aU h;rw[h']at this;cases this;exact .lC h q
 | _,_,_,.fn h,.fn h'=>.fn (bG.back dM aU h h')
 | _,_,_,.fv h,.fv h'=>.fv h'
 | _,_,_,.lD,.lD=>.lD
theorem bG.back (dM:B <+: uj)(aU:ρ <+: cR):∀{vs:List (aR J.az)} {ws eX:List V},bG J B ρ fs vs ws->bG J uj cR fs vs eX->bG J B ρ fs vs eX
 | _,_,_,.nil,.nil=>.nil
 | _,_,_,.cons h r,.cons h' lh=>.cons (b8.back dM aU h h') (bG.back dM aU r lh)
end
theorem bG.length{vs:List (aR J.az)}{ws:List V}:bG J B ρ fs vs ws->vs.length=ws.length
 | .nil=>rfl
 | .cons _ r=>by simp[r.length]
theorem bG.get{vs:List (aR J.az)}{ws:List V}:bG J B ρ fs vs ws->∀{i:Nat} {v:aR J.az},vs[i]? =some v->∃w,ws[i]? =some w/\b8 J B ρ fs v w
 | .nil,_,_,h=>by simp at h
 | .cons h r,0,_,e=>by simp at e;subst e;exact⟨_,rfl,h⟩
 | .cons h r,i+1,_,e=>by
   simp at e;obtain⟨w,ad,e2⟩:=r.get e;exact⟨w,by simpa using ad,e2⟩
theorem bG.drop{vs:List (aR J.az)}{ws:List V}:bG J B ρ fs vs ws->∀i,bG J B ρ fs (vs.drop i) (ws.drop i)
 | .nil,i=>by cases i<;>exact .nil
 | .cons h r,0=>.cons h r
 | .cons h r,i+1=>r.drop i
theorem bG.take{vs:List (aR J.az)}{ws:List V}:bG J B ρ fs vs ws->∀i,bG J B ρ fs (vs.take i) (ws.take i)
 | .nil,i=>by cases i<;>exact .nil
 | .cons h r,0=>.nil
 | .cons h r,i+1=>.cons h (r.take i)
theorem bG.set{vs:List (aR J.az)}{ws:List V}:bG J B ρ fs vs ws->∀(i:Nat) {v:aR J.az} {w:V},b8 J B ρ fs v w->bG J B ρ fs (vs.set i v) (ws.set i w)
 | .nil,i,_,_,_=>by cases i<;>exact .nil
 | .cons h r,0,_,_,h'=>.cons h' r
 | .cons h r,i+1,_,_,h'=>.cons h (r.set i h')
theorem bG.app{vs vs':List (aR J.az)}{ws eX:List V}:bG J B ρ fs vs ws->bG J B ρ fs vs' eX->bG J B ρ fs (vs++vs') (ws++eX)
 | .nil,h=>h
 | .cons h r,h'=>.cons h (r.app h')
end
structure gv (J:iT):Prop where
 h4:∀(t:Nat) (x:J.az t) (B:List Bool) (ρ fs:List V),b8 J (B++J.yM t x) ρ fs (J.h4 t x B.length) (J.enc t x)
 iC:∀(t:Nat) (v:aR J.az) (B:List Bool) (ρ fs:List V) (w:V) (x:J.az t),b8 J B ρ fs v w->J.iC t v B=some x->w=J.enc t x
 bx:∀(t:Nat) (x:J.az t),bx (J.enc t x)=true
 ok:∀(t:Nat) (x:J.az t),bM (aI (J.enc t x))=true
 es:∀(t:Nat) (x:J.az t),(aI (J.enc t x)).length=J.es t
 bc:∀(t:Nat) (x:J.az t),J.bc t=true->flat (J.enc t x)=true
 adb:∀(t n:Nat),J.cA t=some n->∀a c:J.az t,jl n (J.enc t a) (J.enc t c)=some (J.beq t a c)
def bt{α:Type}:List (Nat × α)->Nat->Option α
 |[],_=>none
 |(k,a)::r,t=>match Nat.beq k t with
  |true=>some a
  |false=>bt r t
def nth{α:Type}:List α->Nat->Option α
 |[],_=>none
 |a::_,0=>some a
 | _::r,n+1=>nth r n
theorem xb{α:Type}:∀(l:List α) (n:Nat),nth l n=l[n]?
 |[],_=>by simp[nth]
 | _::_,0=>rfl
 | _::r,n+1=>by simp[nth,xb r n]
theorem gk{α:Type}(k t:Nat)(a:α)(r:List (Nat × α)):bt ((k,a)::r) t=if k=t then some a else bt r t:=by
 simp only[bt];cases hb:Nat.beq k t with
 |true=>rw[if_pos (eU hb)]
 |false=>rw[if_neg (fun e=>by rw[e,Cl]at hb;cases hb)]
theorem DS{α:Type}(l r:List (Nat × α))(t:Nat):bt (l++r) t=match bt l t with
  |some a=>some a
  |none=>bt r t:=by
 induction l with
 |nil=>rfl
 |cons p l ih=>
  obtain⟨k,a⟩:=p;rw[l4,gk,gk];by_cases e:k=t
  ·rw[if_pos e,if_pos e]
  ·rw[if_neg e,if_neg e];exact ih
def mem (t:Nat):List Nat->Bool
 |[]=>false
 |k::r=>match Nat.beq k t with
  |true=>true
  |false=>mem t r
theorem mem_iff (t:Nat):∀l:List Nat,mem t l=true↔t∈l
 |[]=>by simp[mem]
 |k::r=>by
  simp only[mem,dG];cases hb:Nat.beq k t with
  |true=>simp[eU hb]
  |false=>
   have:¬t=k:=fun e=>by rw[e,Cl]at hb;cases hb
   simp[this,mem_iff t r]
end Go.Abs.hv
namespace Go.Abs.hv
open Go Go.Abs
inductive cp (J:iT) where
 |cells (w:Bool) (cs:List (aR J.az))
 |row (t:Nat) (s:ae (J.az t))
 |fz (t:Nat) (s:ae (J.az t))
 |mp (k w:Nat) (m:List (J.az k × J.az w))
structure bE (J:iT) where
 vs:List (Nat × aR J.az)
 mem:List (Nat × cp J)
 aE:Nat
 aQ:List Bool
 du:List (Nat × Bool)
 dR:List Nat
 cL:List (Nat × Nat)
section
variable{J:iT}
class aP (A:Type) where
 bad:A
 br:Nat->Bool->A->A->A
 cJ:{α:Type}->Option α->(α->A)->A
instance{R:Type}:aP (Option R):=⟨none,fun _ c x y=>bif c then x else y,fun o f=>o.bind f⟩
inductive qg (A:Type) where
 |leaf (a:A)
 |br (i:Nat) (c:Bool) (t e:qg A)
 |bad
instance{R:Type}:aP (qg R):=⟨.bad,.br,fun _ _=>.bad⟩
mutual
def Ho:V->aR J.az
 | .bool b=>.b2 b
 | .int k n=>.int k n
 | .str s=>.str s
 | .agg vs=>.agg (DT vs)
 |v=>.k v
def DT:List V->List (aR J.az)
 |[]=>[]
 |v::r=>Ho v::DT r
end
def sZ:aR J.az->Option (List (aR J.az))
 | .agg vs=>some vs
 | .lD| .fv _| .aF _| .row _| .hN .. | .lC .. =>none
 | .k v=>match v with
   | .agg _=>none
   |v=>some [.k v]
 |v=>some [v]
def LR:aR J.az->Bool
 | .int .. | .b2 _| .bo .. | .str _| .sl .. | .ptr .. | .fn .. =>true
 | .k v=>dY v
 | _=>false
def Hp:List (aR J.az)->Bool
 |[]=>true
 |v::r=>match LR v with
  |true=>Hp r
  |false=>false
abbrev k7 (J:iT):=List (Nat × aR J.az)
def ah (aq:k7 J)(s:bE J):ai->Option (aR J.az)
 | .tmp t=>bt aq t
 | .var t=>bt s.vs t
 | .const v=>some (Ho v)
 | .func i=>some (.fn i [])
def xc (aq:k7 J)(s:bE J):List ai->Option (List (aR J.az))
 |[]=>some []
 |x::r=>match ah aq s x with
  |some v=>match xc aq s r with
   |some l=>some (v::l)
   |none=>none
  |none=>none
def split{A:Type}[aP A](s:bE J)(v:aR J.az)(nE cI:bE J->A):A:=match v with
 | .b2 true=>nE s
 | .b2 false=>cI s
 | .bo i neg=>match bt s.du i with
   |some b=>match b,neg with
    |true,false=>nE s
    |false,true=>nE s
    | _,_=>cI s
   |none=>match nth s.aQ i with
    |none=>aP.bad
    |some c=>match neg with
     |false=>aP.br i c (nE {s with du:=(i,true)::s.du}) (cI {s with du:=(i,false)::s.du})
     |true=>aP.br i c (cI {s with du:=(i,true)::s.du}) (nE {s with du:=(i,false)::s.du})
 | _=>aP.bad
def yN (s:bE J):aR J.az->Option Bool
 | .b2 b=>some b
 | .bo i neg=>match nth s.aQ i with
   |some c=>match neg with
    |false=>some c
    |true=>some (!c)
   |none=>none
 | _=>none
def name{A:Type}[aP A](s:bE J)(c:Bool)(neg:Bool)(k:aR J.az->bE J->A):A:=k (.bo s.aQ.length neg) {s with aQ:=s.aQ++[c]}
def elem{A:Type}[aP A](t:Nat)(x:J.az t)(s:bE J)(k:aR J.az->bE J->A):A:=k (J.h4 t x s.aQ.length) {s with aQ:=s.aQ++J.yM t x}
def cut (cs:List (aR J.az))(off:Nat):Option Nat->Option (aR J.az)
 |none=>nth cs off
 |some n=>match Nat.ble (off+n) cs.length with
  |true=>some (.agg ((cs.drop off).take n))
  |false=>none
def vh (cs:List (aR J.az))(o:Nat):List (aR J.az)->List (aR J.az)
 |[]=>cs
 |x::xs=>vh (cs.set o x) (o+1) xs
def bin{A:Type}[aP A](s:bE J)(op:BinOp)(k:aR J.az->bE J->A)(x y:aR J.az):A:=match x,y with
 | .int b5 a,.int Hq c=>match decide (b5=Hq)with
   |false=>aP.bad
   |true=>match op with
    | .add=>k (.int b5 (b5.wrap (a+c))) s
    | .sub=>k (.int b5 (b5.wrap (a-c))) s
    | .mul=>k (.int b5 (b5.wrap (a*c))) s
    | .eql=>name s (a==c) false k
    | .neq=>name s (a != c) false k
    | .lss=>name s (decide (a<c)) false k
    | .leq=>name s (decide (a<=c)) false k
    | .gtr=>name s (decide (a>c)) false k
    | .geq=>name s (decide (a>=c)) false k
    | .and=>k (.int b5 (b5.wrap ((BitVec.ofInt b5.bits a &&& BitVec.ofInt b5.bits c).toNat))) s
    | .quo=>match b5 with
      | .i64=>aP.cJ (Dj a c) fun q=>k (.int .i64 q) s
      | _=>aP.bad
    | .rem=>match b5 with
      | .i64=>aP.cJ (Dk a c) fun q=>k (.int .i64 q) s
      | _=>aP.bad
    | _=>aP.bad
 | .str a,.str c=>match op with
   | .add=>aP.cJ (aco a c) fun q=>k (.str q) s
   | .eql=>name s (a==c) false k
   | .neq=>name s (a != c) false k
   | _=>aP.bad
 | _,_=>aP.bad
def RL{A:Type}[aP A](s:bE J)(op:BinOp)(k:aR J.az->bE J->A)(x:aR J.az)(rS:IntKind)(c:Int):A:=match x with
 | .int b5 a=>match op with
   | .shl=>match decide (0<=c/\c.toNat<=b5.bits)with
     |true=>k (.int b5 (b5.wrap (a*2^c.toNat))) s
     |false=>aP.bad
   | .shr=>match decide (0<=c/\c.toNat<=b5.bits)with
     |true=>k (.int b5 (a/2^c.toNat)) s
     |false=>aP.bad
   | .quo=>match decide (b5=rS/\0<c)with
     |true=>k (.int b5 (b5.wrap (a.tdiv c))) s
     |false=>aP.bad
   | .rem=>match decide (b5=rS/\0<c)with
     |true=>k (.int b5 (a.tmod c)) s
     |false=>aP.bad
   |op=>bin s op k x (.int rS c)
 | _=>bin s op k x (.int rS c)
def vi (s:bE J):List Nat->List (aR J.az)->List (aR J.az)->Option Bool
 |[],[],[]=>some true
 |n::ks,x::xs,y::cQ=>match vi s ks xs cQ with
  |none=>none
  |some e=>match n,x,y with
   |0,.int k a,.int bJ c=>match decide (k=bJ)with
    |true=>some ((a==c)&&e)
    |false=>none
   |1,.str a,.str c=>some ((a==c)&&e)
   |2,x,y=>match yN s x,yN s y with
    |some a,some c=>some ((a==c)&&e)
    | _,_=>none
   | _,_,_=>none
 | _,_,_=>none
def LS (z:List (aR J.az))(aq:k7 J)(s:bE J):List (Nat × Nat × ai)->Option (List (aR J.az))
 |[]=>some z
 |(off,n,x)::r=>match ah aq s x with
  |none=>none
  |some v=>match sZ v with
   |none=>none
   |some cs=>match Nat.beq cs.length n,Nat.ble (off+n) z.length,Hp cs with
    |true,true,true=>LS (vh z off cs) aq s r
    | _,_,_=>none
def LU:Nat->List (Nat × ai)->Bool
 | _,[]=>true
 |n,p::r=>match Nat.beq p.1 n with
  |true=>LU (n+1) r
  |false=>false
def LV (t:Nat)(B:List Bool):List (aR J.az)->Option (List (J.az t))
 |[]=>some []
 |v::r=>match J.iC t v B with
  |none=>none
  |some x=>match LV t B r with
   |none=>none
   |some l=>some (x::l)
def eM{az:Nat->Type}(t:Nat):aR az->Option (ae (az t))
 | .sl ed s=>if h:ed=t then some (h ▸ s)else none
 | .k .cu=>some .nil
 | .k .emp=>some .emp
 | _=>none
def ade (z:List V):aR J.az:=match z with
 |[v]=>Ho v
 |z=>.agg (DT z)
def LW (k w:Nat)(m:List (J.az k × J.az w))(x:J.az k):Option (J.az w):=@hI _ _ ⟨J.beq k⟩ m x
def aru (k w:Nat)(m:List (J.az k × J.az w))(x:J.az k)(y:J.az w):List (J.az k × J.az w):=@ly _ _ ⟨J.beq k⟩ m x y
def kindOf (k:Nat)(n:Nat):Bool:=match J.cA k with
 |some m=>Nat.beq m n
 |none=>false
def s0:aR J.az->Option (aR J.az)
 | .k .cu=>some (.k .cu)
 | .k .emp=>some (.k .emp)
 | .sl _ .nil=>some (.k .cu)
 | .sl _ .emp=>some (.k .emp)
 | _=>none
def Hr{A:Type}[aP A](aq:k7 J)(s:bE J)(ty:Option Nat)(k:aR J.az->bE J->A):cX->A
 | .mv x=>match ah aq s x with
   |some v=>k v s
   |none=>aP.bad
 | .pick c a b=>match ah aq s c with
   |some c=>split s c (fun s=>match ah aq s a with|some v=>k v s|none=>aP.bad) (fun s=>match ah aq s b with|some v=>k v s|none=>aP.bad)
   |none=>aP.bad
 | .build z parts=>match LS (DT z) aq s parts with
   |some cs=>k (.agg cs) s
   |none=>aP.bad
 | .lit es z len parts jG=>match ty,jG with
   |some t,true=>match xc aq s (parts.map Prod.snd)with
    |none=>aP.bad
    |some vs=>match LV t s.aQ vs,LU 0 parts,Nat.beq vs.length len,Nat.beq (J.es t) es with
     |some l,true,true,true=>match l with
      |[]=>k (.sl t .emp) s
      |l=>k (.sl t (.mk l)) s
     | _,_,_,_=>aP.bad
   | _,_=>aP.bad
 | .load sh x=>match ah aq s x with
   |some (.dz cs f)=>match cut cs f sh with
    |some v=>k v s
    |none=>aP.bad
   |some (.ptr o f)=>match bt s.mem o with
    |some (.cells _ cs)=>match cut cs f sh with
     |some v=>k v s
     |none=>aP.bad
    | _=>aP.bad
   |some (.hN o n f)=>match bt s.mem o with
    |some (.row t a)=>aP.cJ (aO a.l n) fun e=>elem t e s fun v s=>match sZ v with
     |some cs=>match cut cs f sh with
      |some v=>k v s
      |none=>aP.bad
     |none=>aP.bad
    | _=>aP.bad
   | _=>aP.bad
 | .nilCheck x=>match ah aq s x with
   |some (.ptr o f)=>k (.ptr o f) s
   |some (.dz cs f)=>k (.dz cs f) s
   |some (.fn i cs)=>k (.fn i cs) s
   |some (.hN o n f)=>k (.hN o n f) s
   | _=>aP.bad
 | .bin op x (.const (.int rS c))=>match ah aq s x with
   |some v=>RL s op k v rS c
   |none=>aP.bad
 | .bin op x y=>match ah aq s x,ah aq s y with
   |some v,some w=>bin s op k v w
   | _,_=>aP.bad
 | .zz neg ks x y=>match ah aq s x,ah aq s y with
   |some (.agg a),some (.agg c)=>match vi s ks a c with
    |some e=>name s e neg k
    |none=>aP.bad
   | _,_=>aP.bad
 | .sk kind neg x y=>match ah aq s x,ah aq s y with
   |some v,some w=>match kind,v,w with
    |1,.sl _ a,.k .cu=>name s a.isNil neg k
    |4,v,w=>match yN s v,yN s w with
     |some a,some c=>name s (a==c) neg k
     | _,_=>aP.bad
    | _,_,_=>aP.bad
   | _,_=>aP.bad
 | .un op x=>match op,ah aq s x with
   | .not,some (.b2 b)=>k (.b2 (!b)) s
   | .not,some (.bo i neg)=>k (.bo i (!neg)) s
   | .neg,some (.int b5 n)=>k (.int b5 (b5.wrap (0-n))) s
   | _,_=>aP.bad
 | .conv b5 x=>match ah aq s x with
   |some (.int _ n)=>k (.int b5 (b5.wrap n)) s
   | _=>aP.bad
 | .vM mx x y=>match ah aq s x,ah aq s y with
   |some (.int b5 a),some (.int Hq c)=>match decide (b5=Hq)with
    |true=>match mx with
     |true=>k (.int b5 (max a c)) s
     |false=>k (.int b5 (min a c)) s
    |false=>aP.bad
   | _,_=>aP.bad
 | .tk i [] cs=>match xc aq s cs with
   |some vs=>k (.fn i vs) s
   |none=>aP.bad
 | .fieldAddr off x=>match ah aq s x with
   |some (.ptr o f)=>k (.ptr o (f+off)) s
   |some (.dz cs f)=>k (.dz cs (f+off)) s
   |some (.hN o n f)=>k (.hN o n (f+off)) s
   | _=>aP.bad
 | .field off sh x=>match ah aq s x with
   |some (.agg cs)=>match cut cs off sh with
    |some v=>k v s
    |none=>aP.bad
   | _=>aP.bad
 | .extract x i=>match ah aq s x with
   |some (.aF vs)=>match nth vs i with
    |some v=>k v s
    |none=>aP.bad
   | _=>aP.bad
 | .len kind x=>match kind,ah aq s x with
   |0,some (.str a)=>k (.int .i64 (a.length:Int)) s
   |1,some (.sl _ a)=>k (.int .i64 a.len) s
   |1,some (.row o)=>match bt s.mem o with
    |some (.row _ a)=>k (.int .i64 a.len) s
    | _=>aP.bad
   |2,some (.row o)=>match bt s.mem o with
    |some (.mp _ _ m)=>k (.int .i64 (m.length:Int)) s
    | _=>aP.bad
   |1,some (.k .cu)=>k (.int .i64 0) s
   |1,some (.k .emp)=>k (.int .i64 0) s
   | _,_=>aP.bad
 | .indexAddr es x i=>match ah aq s x,ah aq s i with
   |some (.sl t a),some (.int _ n)=>match Nat.beq (J.es t) es with
    |true=>aP.cJ (aO a.l n) fun e=>elem t e s fun v s=>match sZ v with
     |some cs=>k (.dz cs 0) s
     |none=>aP.bad
    |false=>aP.bad
   |some (.row o),some (.int _ n)=>match bt s.mem o with
    |some (.row t a)=>match Nat.beq (J.es t) es with
     |true=>aP.cJ (aO a.l n) fun _=>k (.hN o n 0) s
     |false=>aP.bad
    | _=>aP.bad
   | _,_=>aP.bad
 | .sn x i=>match ah aq s x,ah aq s i with
   |some (.str a),some (.int _ n)=>aP.cJ (aO a n) fun c=>k (.int .u8 (c.toNat:Int)) s
   | _,_=>aP.bad
 | .rf x lo hi=>match ah aq s x with
   |some (.str a)=>match lo.map (ah aq s),hi.map (ah aq s)with
    |none,none=>aP.cJ (qU a 0 (a.length:Int)) fun q=>k (.str q) s
    |some (some (.int .i64 n)),none=>aP.cJ (qU a n (a.length:Int)) fun q=>k (.str q) s
    |none,some (some (.int .i64 m))=>aP.cJ (qU a 0 m) fun q=>k (.str q) s
    |some (some (.int .i64 n)),some (some (.int .i64 m))=>aP.cJ (qU a n m) fun q=>k (.str q) s
    | _,_=>aP.bad
   | _=>aP.bad
 | .lookup kind z x i ok=>match ah aq s x,ah aq s i with
   |some (.row o),some v=>match bt s.mem o with
    |some (.mp eO kk m)=>match J.iC eO v s.aQ,J.iC kk (Ho z) s.aQ,kindOf (J:=J) eO kind with
     |some x,some z,true=>match ok with
      |false=>elem kk ((LW eO kk m x).getD z) s k
      |true=>elem kk ((LW eO kk m x).getD z) s fun v s=>name s (LW eO kk m x).isSome false fun b s=>k (.aF [v,b]) s
     | _,_,_=>aP.bad
    | _=>aP.bad
   | _,_=>aP.bad
 | .tl es x lo hi none=>match ah aq s x with
   |some (.row o)=>match bt s.mem o with
    |some (.row t a)=>match Nat.beq (J.es t) es with
     |true=>match lo.map (ah aq s),hi.map (ah aq s)with
      |some (some (.int .i64 n)),none=>aP.cJ (k3 a n a.len) fun _=>k (.lC o n a.len) s
      |none,some (some (.int .i64 m))=>aP.cJ (k3 a 0 m) fun _=>k (.lC o 0 m) s
      | _,_=>aP.bad
     |false=>aP.bad
    | _=>aP.bad
   |some (.sl t a)=>match Nat.beq (J.es t) es with
    |true=>match lo.map (ah aq s),hi.map (ah aq s)with
     |none,none=>aP.cJ (k3 a 0 a.len) fun q=>k (.sl t q) s
     |some (some (.int .i64 n)),none=>aP.cJ (k3 a n a.len) fun q=>k (.sl t q) s
     |none,some (some (.int .i64 m))=>aP.cJ (k3 a 0 m) fun q=>k (.sl t q) s
     |some (some (.int .i64 n)),some (some (.int .i64 m))=>aP.cJ (k3 a n m) fun q=>k (.sl t q) s
     | _,_=>aP.bad
    |false=>aP.bad
   | _=>aP.bad
 | .xS es bytes a b=>match ah aq s a,ah aq s b with
   |some x,some (.sl t y)=>match Nat.beq (J.es t) es,s0 x with
    |true,some (.k .cu)=>aP.cJ (hh bytes .nil y) fun z=>k (.sl t z) s
    |true,some (.k .emp)=>aP.cJ (hh bytes .emp y) fun z=>k (.sl t z) s
    | _,_=>aP.bad
   | _,_=>aP.bad
 | _=>aP.bad
end
end Go.Abs.hv
