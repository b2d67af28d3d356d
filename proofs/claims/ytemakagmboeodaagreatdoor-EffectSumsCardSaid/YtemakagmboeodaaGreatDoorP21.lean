/- Texts of this claim, joined and written short by a program. -/
import Derived.Test.YtemakagmboeodaaGreatDoorP20
import Derived.Test.YtemakagmboeodaaGreatDoorP00
set_option linter.unusedVariables false
set_option linter.unusedSimpArgs false
set_option linter.unusedSectionVars false
namespace Go.Abs.fM
open Go Go.Abs
section
variable{U:fW}{b:Nat}{F:bV}{fs:List V}{s ao:a1 U}{σ aM:bt}{H:Heap}{G:Nat->List (Nat × bd)}{ρ:List V}{aj:h6 U}{call:cj}{A:Type}[aF A]{S:A->Prop}
def zc (U:fW)(ρ fs:List V)(s:a1 U)(S:A->Prop)(k:aD U.ar->a1 U->A)(st:Heap->Option (V × Heap × Nat))(ms:bV):Prop:=
 ∃v ao w,S (k v ao)/\gN s ao/\bp U ao.aB ρ fs v w/\∀H,Own H ms->st H=some (w,H,H.length)
theorem done{v:aD U.ar}{w:V}{k:aD U.ar->a1 U->A}{st:Heap->Option (V × Heap × Nat)}{ms:bV}(h:S (k v s))(ad:bp U s.aB ρ fs v w)(e:∀H,Own H ms->st H=some (w,H,H.length)):zc U ρ fs s S k st ms:=⟨v,s,w,h,.rfl,ad,e⟩
theorem oO{c neg:Bool}{k:aD U.ar->a1 U->A}{st:Heap->Option (V × Heap × Nat)}{ms:bV}(h:S (name s c neg k))(e:∀H,Own H ms->st H=some (.bool (c != neg),H,H.length)):zc U ρ fs s S k st ms:=by
 obtain⟨v,ao,h1,h2,aq⟩:=R1 (ρ:=ρ) (fs:=fs) h;exact⟨v,ao,_,h1,h2,aq,e⟩
theorem Hd{ms:bV}(aw:jB S){op:BinOp}{x y:aD U.ar}{qZ He:V}{k:aD U.ar->a1 U->A}(h:S (bin s op k x y))(hx:bp U s.aB ρ fs x qZ)(hy:bp U s.aB ρ fs y He):
  zc U ρ fs s S k (fun H=>(gl op qZ He).map fun v=>(v,H,H.length)) ms:=by
 unfold bin at h;split at h
 ·rename_i bI a yX c
  cases hx;cases hy;split at h
  ·exact absurd h aw.bad
  ·rename_i hk
   have hk:=of_decide_eq_true hk;subst hk;have bb:¬(bI≠bI):=fun q=>q rfl;split at h
   ·exact done h .int (fun H hO=>by simp[gl])
   ·exact done h .int (fun H hO=>by simp[gl])
   ·exact done h .int (fun H hO=>by simp[gl])
   ·exact oO h (fun H hO=>by simp[gl])
   ·exact oO h (fun H hO=>by simp[gl])
   ·exact oO h (fun H hO=>by simp[gl])
   ·exact oO h (fun H hO=>by simp[gl])
   ·exact oO h (fun H hO=>by simp[gl])
   ·exact oO h (fun H hO=>by simp[gl])
   ·exact done h .int (fun H hO=>by simp[gl])
   ·split at h
    ·obtain⟨q,e,h⟩:=aw.bL h
     refine done h .int fun H hO=> ?_;unfold Q4 at e;split at e
     ·cases e
     ·rename_i hc;cases e;simp[gl,hc]
    ·exact absurd h aw.bad
   ·split at h
    ·obtain⟨q,e,h⟩:=aw.bL h
     refine done h .int fun H hO=> ?_;unfold Q5 at e;split at e
     ·cases e
     ·rename_i hc;cases e;simp[gl,hc]
    ·exact absurd h aw.bad
   ·exact absurd h aw.bad
 ·rename_i a c
  cases hx;cases hy;split at h
  ·obtain⟨q,e,h⟩:=aw.bL h
   refine done h .str fun H hO=> ?_;unfold Q6 at e;split at e
   ·rename_i hc;cases e;simp only[gl,hc,if_true];rfl
   ·cases e
  ·exact oO h (fun H hO=>by simp[gl])
  ·exact oO h (fun H hO=>by simp[gl])
  ·exact absurd h aw.bad
 ·exact absurd h aw.bad
theorem adP{ms:bV}(aw:jB S){op:BinOp}{x:aD U.ar}{qZ:V}{mM:IntKind}{c:Int}{k:aD U.ar->a1 U->A}(h:S (GO s op k x mM c))(hx:bp U s.aB ρ fs x qZ):
  zc U ρ fs s S k (fun H=>(gl op qZ (.int mM c)).map fun v=>(v,H,H.length)) ms:=by
 unfold GO at h;split at h
 ·rename_i bI a
  cases hx;split at h
  ·split at h
   ·rename_i e
    exact done h .int (fun H hO=>by simp only[gl];rw[if_pos (of_decide_eq_true e)];rfl)
   ·exact absurd h aw.bad
  ·split at h
   ·rename_i e
    exact done h .int (fun H hO=>by simp only[gl];rw[if_pos (of_decide_eq_true e)];rfl)
   ·exact absurd h aw.bad
  ·split at h
   ·rename_i e
    obtain⟨rfl,h0⟩:=of_decide_eq_true e;have:¬c=0:=by omega
    exact done h .int (fun H hO=>by simp[gl,this])
   ·exact absurd h aw.bad
  ·split at h
   ·rename_i e
    obtain⟨rfl,h0⟩:=of_decide_eq_true e;have:¬c=0:=by omega
    exact done h .int (fun H hO=>by simp[gl,this])
   ·exact absurd h aw.bad
  ·exact Hd aw h .int .int
 ·exact Hd aw h hx .int
theorem R2:∀{dN:List Nat} {xs bX:List (aD U.ar)} {vs ws:List V} {e:Bool},pG s dN xs bX=some e->bT U s.aB ρ fs xs vs->bT U s.aB ρ fs bX ws->hS dN vs ws=some e
 |[],_,_,_,_,_,h,.nil,.nil=>by simp only[pG]at h;cases h;rfl
 |[],_,_,_,_,_,h,.cons _ _,.nil=>by simp[pG]at h
 |[],_,_,_,_,_,h,.nil,.cons _ _=>by simp[pG]at h
 |[],_,_,_,_,_,h,.cons _ _,.cons _ _=>by simp[pG]at h
 | _::_,_,_,_,_,_,h,.nil,_=>by simp[pG]at h
 | _::_,_,_,_,_,_,h,.cons _ _,.nil=>by simp[pG]at h
 |n::dN,_,_,_,_,_,h,.cons hx rx,.cons hy adQ=>by
  simp only[pG]at h;split at h
  ·cases h
  ·rename_i e he
   have ih:=R2 he rx adQ;simp only[hS];split at h
   ·cases hx;cases hy
    split at h
    ·rename_i hk
     have hk:=of_decide_eq_true hk;subst hk;cases h;simp[gS,ih]
    ·cases h
   ·cases hx;cases hy
    cases h;simp[gS,ih]
   ·split at h
    ·rename_i a c ha hc
     cases h;rw[wW ha hx,wW hc hy];simp[gS,ih]
    ·cases h
   ·cases h
theorem R3 (R:bB U b F fs s σ H G ρ)(bk:∀t v,aX aj t=some v->bp U s.aB ρ fs v (aM t)):∀{ps:List (Nat × Nat × ah)} {z cs:List (aD U.ar)} {Hf:List V},BQ z aj s ps=some cs->bT U s.aB ρ fs z Hf->
  ∃ws,o6 Hf (ps.map fun p=>(p.1,p.2.1,ba aM σ p.2.2))=some ws/\bT U s.aB ρ fs cs ws
 |[],_,_,_,h,aP=>by cases h;exact⟨_,rfl,aP⟩
 |(off,n,x)::r,z,cs,Hf,h,aP=>by
  simp only[BQ]at h;split at h
  ·cases h
  ·rename_i v ad
   split at h
   ·cases h
   ·rename_i l hl
    split at h
    ·rename_i ae ai bz
     have hw:=uD hl (cf R bk ad);obtain⟨ws,h1,h2⟩:=R3 R bk h (Cc hw off aP);refine⟨ws,?_,h2⟩;simp only[cW,o6];rw[if_pos ⟨by rw[<-hw.length];exact dm ae,by rw[<-aP.length];exact mj ai,Hb bz hw⟩];exact h1
    ·cases h
theorem R4 (aK:eJ U){t:Nat}{B:List Bool}:∀{vs:List (aD U.ar)} {ws:List V} {l:List (U.ar t)},BS t B vs=some l->bT U B ρ fs vs ws->ws=l.map (U.enc t)
 | _,_,_,h,.nil=>by cases h;rfl
 | _,_,_,h,.cons ad r=>by
   simp only[BS]at h;split at h
   ·cases h
   ·rename_i x e
    split at h
    ·cases h
    ·rename_i l ai
     cases h;rw[aK.gu _ _ _ _ _ _ _ ad e,R4 aK ai r];rfl
theorem R5:∀{n:Nat} {ps:List (Nat × ah)},BR n ps=true->ps.map Prod.fst=List.range' n ps.length
 | _,[],_=>rfl
 |n,p::r,h=>by
  simp only[BR]at h;split at h
  ·rename_i e
   simp only[cW,iN,sK,dm e,R5 h]
  ·cases h
theorem R6{α:Type}{b es:Nat}{f:α->V}{y q:al α}{v:V}{m:List (Nat × bd)}{ms:bV}{ag:ah->V}{call:cj}{x:ah}{cS hi:Option ah}{a c:Int}(k:Nat)(hk:ms[k]? =some m)(hr:dS b es f v y m)(hs:eT y a c=some q)(ha:qL ag cS 0 a)(hc:qL ag hi y.len c)(h:ag x=v):
  ∃w,uv v a.toNat c.toNat w/\∀H,Own H ms->bK call ag H H.length (.pZ es x cS hi none)=some (w,H,H.length):=by
 have cE:dz b es v (y.map f) m:=hr;cases y with
 |nil=>
  simp only[eT]at hs;split at hs
  ·rename_i q;obtain⟨rfl,rfl⟩:=q
   cases cE;refine⟨.ak,.nil,fun H hO=> ?_⟩;rw[yK];simp only[step,h];rw[ha.eq (n:=0) rfl (va _),hc.eq (n:=0) rfl (va _)];rfl
  ·cases hs
 |emp=>
  simp only[eT]at hs;split at hs
  ·rename_i q;obtain⟨rfl,rfl⟩:=q
   cases cE;refine⟨.emp,.emp,fun H hO=> ?_⟩;rw[yK];simp only[step,h];rw[ha.eq (n:=0) rfl (va _),hc.eq (n:=0) rfl (va _)];rfl
  ·cases hs
 |mk l=>
  simp only[eT]at hs;split at hs
  ·rename_i q;obtain⟨q1,q2,dk⟩:=q
   have uc:dz b es v (.mk (l.map f)) m:=cE;cases uc with
   |row p _ bb hb=>
    have ae:=ha.eq (n:=0) rfl q1;have ai:=hc.eq (n:=(l.map f).length) (by simp[al.len,al.l]) (by omega);have hle:a.toNat<=c.toNat/\c.toNat<=(l.map f).length:=⟨by omega,by simp;omega⟩;by_cases aY:a.toNat<c.toNat
    ·refine⟨_,.row p es _ _ _ aY,fun H hO=> ?_⟩
     have aT:=hO.get k hk;rw[yK];simp only[step,h,ae,ai,aT];rw[if_pos ⟨hle.1,hle.2,trivial⟩,if_pos ⟨trivial,trivial⟩,if_pos aY,dK]
    ·have he:a.toNat=c.toNat:=by omega
     rw[he];refine⟨_,.RE p es _ _,fun H hO=> ?_⟩;have aT:=hO.get k hk;rw[yK];simp only[step,h,ae,ai,aT];rw[if_pos ⟨hle.1,hle.2,trivial⟩,if_pos ⟨trivial,trivial⟩,if_neg aY]
  ·cases hs
theorem adR{α:Type}{b es:Nat}{f:α->V}{y:al α}{v:V}{m:List (Nat × bd)}{ms:bV}{H:Heap}(k:Nat)(hk:ms[k]? =some m)(hO:Own H ms)(hr:dS b es f v y m):Go.Abs.elems H es v=some (y.l.map f):=by
 have cE:dz b es v (y.map f) m:=hr;cases y with
 |nil=>cases cE;rfl
 |emp=>cases cE;rfl
 |mk l=>
  have uc:dz b es v (.mk (l.map f)) m:=cE;cases uc with
  |row p _ bb hb=>
   have aT:=hO.get k hk;simp only[Go.Abs.elems,aT];rw[if_pos ⟨trivial,trivial,trivial,by omega⟩,o4,List.take_length];rfl
theorem R7{α:Type}{b es:Nat}{f:α->V}{y q:al α}{v w:V}{m:List (Nat × bd)}{ms:bV}{H:Heap}{a c:Int}(k:Nat)(hk:ms[k]? =some m)(hO:Own H ms)(hr:dS b es f v y m)(hs:eT y a c=some q)(ad:uv v a.toNat c.toNat w):Go.Abs.elems H es w=some (q.l.map f):=by
 have cE:dz b es v (y.map f) m:=hr;cases y with
 |nil=>
  simp only[eT]at hs;split at hs
  ·rename_i q;obtain⟨rfl,rfl⟩:=q
   cases hs;cases cE;cases ad;rfl
  ·cases hs
 |emp=>
  simp only[eT]at hs;split at hs
  ·rename_i q;obtain⟨rfl,rfl⟩:=q
   cases hs;cases cE;cases ad;rfl
  ·cases hs
 |mk l=>
  simp only[eT]at hs;split at hs
  ·rename_i q;obtain⟨q1,q2,dk⟩:=q
   cases hs;have uc:dz b es v (.mk (l.map f)) m:=cE;have hle:c.toNat<=(l.map f).length:=by simp;omega
   cases uc with
   |row p _ bb hb=>
    have aT:=hO.get k hk;show _=some (((l.take c.toNat).drop a.toNat).map f);rw[List.map_drop,List.map_take];generalize a.toNat=bg at ad;generalize c.toNat=c' at ad hle;cases ad with
    |row _ _ _ _ _ aY=>
     simp only[Go.Abs.elems,aT];rw[if_pos ⟨trivial,trivial,trivial,by omega⟩,List.drop_take]
    |RE=>
     simp only[Go.Abs.elems,if_true];rw[CW (by simp;omega)]
  ·cases hs
theorem jC{e:ah->V}{x:Option ah}{o:Option (Option (aD U.ar))}{d n:Int}(hx:x.map (ag aj s)=o)(R:bB U b F fs s σ H G ρ)(bk:∀t v,aX aj t=some v->bp U s.aB ρ fs v (aM t))(ho:(o=none/\n=d)\/o=some (some (.int .i64 n))):qL (ba aM σ) x d n:=by
 rcases ho with⟨rfl,rfl⟩|rfl
 ·cases x
  ·exact .inl ⟨rfl,rfl⟩
  ·cases hx
 ·cases x
  ·cases hx
  ·rename_i o
   refine .inr ⟨o,rfl,?_⟩;simp only[lR,ay]at hx;have:=cf R bk hx;generalize ba aM σ o=w at this;cases this;rfl
theorem _root_.Go.Abs.dz.aN{α:Type}{es:Nat}{f:α->V}{x:al α}{e:α}{n:Int}{v:V}{m:List (Nat × bd)}(hr:dS b es f v x m)(h:dx x.l n=some e):∃l N,v=.aN l es 0 N N:=by
 unfold dS at hr;cases x with
 |mk l=>
  cases hr with
  |row q ds hd hb=>exact⟨_,_,rfl⟩
 | _=>
   unfold dx at h;split at h<;>simp[al.l]at h
theorem _root_.Go.Abs.dz.R8{s:al V}{l es e N:Nat}{m:List (Nat × bd)}(hr:dz b e (.aN l es 0 N N) s m):es=e:=by cases hr;rfl
theorem adS{α:Type}{es l N k:Nat}{f:α->V}{x:al α}{n:Int}{bI:IntKind}{e:α}{m:List (Nat × bd)}{ms:bV}{ag:ah->V}{a i:ah}(he:dx x.l n=some e)(hO:Own H ms)(hk:ms[k]? =some m)(hr:dS b es f (.aN l es 0 N N) x m)(hx:ag a=.aN l es 0 N N)(hi:ag i=.int bI n):
  bK call ag H H.length (.indexAddr es a i)=some (.fm l es n.toNat 0 N,H,H.length):=by
 obtain⟨rfl,rfl,-,-⟩:=hr.at rfl;unfold dx at he;split at he
 ·rename_i hn
  have aY:=(fu.1 he).1;show step ag H H.length (.indexAddr es a i)=_;simp only[step,hi,k8,hn,if_true,hx,hO.get k hk];rw[if_pos ⟨trivial,trivial,trivial,by simpa using aY,by simp⟩];simp
 ·cases he
theorem Hg (aK:eJ U){k n:Nat}(h:kindOf (U:=U) k n=true)(a c:U.ar k):gS n (U.enc k a) (U.enc k c)=some (@BEq.beq _ ⟨U.beq k⟩ a c):=by
 unfold kindOf at h;split at h
 ·rename_i m e;rw[dm h]at e;exact aK.RF k n e a c
 ·cases h
set_option maxHeartbeats 1000000 in
theorem si{B:List Bool}{v:aD U.ar}{w c:V}(h:nQ v=some (.k c))(ad:bp U B ρ fs v w):w=c:=by
 unfold nQ at h;split at h<;>first|(cases h;cases ad;rfl)|cases h
theorem Hh (aK:eJ U)(aw:jB S)(R:bB U b F fs s σ H G ρ)(bk:∀t v,aX aj t=some v->bp U s.aB ρ fs v (aM t)){ty:Option Nat}{op:b8}{k:aD U.ar->a1 U->A}(h:S (yY aj s ty k op)):
  zc U ρ fs s S k (fun H=>bK call (ba aM σ) H H.length op) (cK s G F):=by
 unfold yY at h;split at h
 case h_1 x=>
  split at h
  ·rename_i v ad;exact done h (cf R bk ad) fun _ _=>rfl
  ·exact absurd h aw.bad
 case h_2 c a d=>
  split at h
  ·rename_i v ad
   obtain⟨β,ao,ae,ai,bz,cn⟩:=wV aw h R.dh (cf R bk ad);have kR:=R.eg ai;have R9:∀t v,aX aj t=some v->bp U ao.aB ρ fs v (aM t):=fun t v q=>by rw[bz];exact bk t v q
   rcases cn with⟨rfl,h⟩|⟨rfl,h⟩
   ·split at h
    ·rename_i v ad;exact⟨_,ao,_,h,ai,cf kR R9 ad,fun H hO=>by simp only[F5,ae];rfl⟩
    ·exact absurd h aw.bad
   ·split at h
    ·rename_i v ad;exact⟨_,ao,_,h,ai,cf kR R9 ad,fun H hO=>by simp only[F5,ae];rfl⟩
    ·exact absurd h aw.bad
  ·exact absurd h aw.bad
 case h_3 z ps=>
  split at h
  ·rename_i cs hc
   obtain⟨ws,h1,h2⟩:=R3 R bk hc (za z);exact done h (.agg h2) (fun H hO=>acz h1)
  ·exact absurd h aw.bad
 case h_4 es z len ps gQ=>
  split at h
  ·rename_i t
   split at h
   ·exact absurd h aw.bad
   ·rename_i vs cO
    split at h
    ·rename_i l ae ai bz cn
     have kv:=pL R bk cO;have hl:=R4 aK ae kv;have hlen:vs.length=len:=dm bz;have dT:U.es t=es:=dm cn;have Ce:(ps.map fun p=>ba aM σ p.2)=l.map (U.enc t):=by rw[<-hl,jm];rfl
     have uF:(l.map (U.enc t)).length=len:=by rw[<-hl,<-kv.length];exact hlen
     have oe:ps.length=len:=by rw[<-uF,<-Ce,eA]
     split at h
     ·refine done h .sl fun H hO=> ?_
      have:len=0:=by rw[<-uF];rfl
      subst this;cases ps
      ·exact acH rfl
      ·cases oe
     ·rename_i bb
      refine done h .sl fun H hO=> ?_;rw[show b4 (U.es t) (U.enc t) (.mk l)=.list es (l.map (U.enc t)) by rw[<-dT];rfl];refine acG Ce (by rw[uF,<-oe];exact R5 ai) uF ?_ (oK (aK.bS t) l) ?_
      ·refine eq_false fun q=> ?_
       rw[q]at uF;rw[eA]at uF;exact bb (List.eq_nil_of_length_eq_zero uF)
      ·intro v ad
       obtain⟨x,-,rfl⟩:=dn.1 ad;exact⟨by rw[aK.es,dT],aK.ok t x⟩
    ·exact absurd h aw.bad
  ·exact absurd h aw.bad
 case h_5 sh x=>
  split at h
  ·rename_i cs f hx
   split at h
   ·rename_i v hc
    have ad:=cf R bk hx;generalize hw:ba aM σ x=w at ad;cases ad with
    |dp ad=>
     obtain⟨u,h1,h2⟩:=zb hc ad;exact done h h2 (fun H hO=>by rw[Be,hw];simp[na,h1])
   ·exact absurd h aw.bad
  ·rename_i o f hx
   split at h
   ·rename_i wr cs hm
    split at h
    ·rename_i v hc
     have ad:=cf R bk hx;generalize hw:ba aM σ x=w at ad;cases ad with
     |ptr ho=>
      obtain⟨a,ws,q1,q2,dk,fC,-⟩:=R.cells hm;rw[q1]at ho;cases ho;obtain⟨u,h1,h2⟩:=zb hc fC;exact done h h2 (fun H hO=>by rw[Be,hw];simp[na,dk H hO,h1])
    ·exact absurd h aw.bad
   ·exact absurd h aw.bad
  ·rename_i o n f hx
   split at h
   ·rename_i t a hm
    obtain⟨e,he,h⟩:=aw.bL h;obtain⟨v,ao,h1,h2,aq⟩:=uE (ρ:=ρ) (fs:=fs) aK h;split at h1
    ·rename_i cs hc
     split at h1
     ·rename_i u hu
      have ad:=cf R bk hx;generalize hw:ba aM σ x=w at ad;cases ad with
      |gC ho=>
       obtain⟨v0,q1,q2⟩:=R.mem o _ hm;obtain⟨k,hk,-⟩:=R.at hm;rw[q1]at ho;cases ho;have:=q2.R8;subst this;obtain⟨u',gf,iu⟩:=zb hu (uD hc aq);exact⟨_,ao,_,h1,h2,iu,fun H hO=>acT k he hO hk q2 rfl gf hw⟩
     ·exact absurd h1 aw.bad
    ·exact absurd h1 aw.bad
   ·exact absurd h aw.bad
  ·exact absurd h aw.bad
 case h_6 x=>
  split at h
  ·rename_i o f hx
   have ad:=cf R bk hx;generalize hw:ba aM σ x=w at ad;cases ad with
   |ptr ho=>exact done h (.ptr ho) (fun H hO=>by simp[bK,step,hw])
  ·rename_i o f hx
   have ad:=cf R bk hx;generalize hw:ba aM σ x=w at ad;cases ad with
   |dp ho=>exact done h (.dp ho) (fun H hO=>by simp[bK,step,hw])
  ·rename_i o f hx
   have ad:=cf R bk hx;generalize hw:ba aM σ x=w at ad;cases ad with
   |fn ho=>exact done h (.fn ho) (fun H hO=>by simp[bK,step,hw])
  ·rename_i o n f hx
   have ad:=cf R bk hx;generalize hw:ba aM σ x=w at ad;cases ad with
   |gC ho=>exact done h (.gC ho) (fun H hO=>by simp[bK,step,hw])
  ·exact absurd h aw.bad
 case h_7 op x mM c=>
  split at h
  ·rename_i v ad
   simp only[yJ];exact adP aw h (cf R bk ad)
  ·exact absurd h aw.bad
 case h_8 op x y _=>
  split at h
  ·rename_i v w ad hw
   simp only[yJ];exact Hd aw h (cf R bk ad) (cf R bk hw)
  ·exact absurd h aw.bad
 case h_9 neg dN x y=>
  split at h
  ·rename_i a c ha hc
   split at h
   ·rename_i e he
    have cR:=cf R bk ha;have iI:=cf R bk hc;generalize dY:ba aM σ x=wa at cR;generalize ke:ba aM σ y=uG at iI;cases cR with
    |agg cR=>cases iI with
     |agg iI=>
      refine oO h fun H hO=> ?_;simp only[bK,step,dY,ke,R2 he cR iI];cases neg<;>simp
   ·exact absurd h aw.bad
  ·exact absurd h aw.bad
 case h_10 kind neg x y=>
  split at h
  ·rename_i v w ad hw
   have cR:=cf R bk ad;have iI:=cf R bk hw;generalize dY:ba aM σ x=wa at cR;generalize ke:ba aM σ y=uG at iI;split at h
   ·rename_i t a
    cases cR;cases iI;refine oO h fun H hO=> ?_;rw[F7,dY,ke];cases a<;>cases neg<;>rfl
   ·split at h
    ·rename_i a c ha hc
     refine oO h fun H hO=> ?_;rw[F7,dY,ke,wW ha cR,wW hc iI];cases neg<;>simp[mq]
    ·exact absurd h aw.bad
   ·exact absurd h aw.bad
  ·exact absurd h aw.bad
 case h_11 op x=>
  split at h
  ·rename_i c hx
   have ad:=cf R bk hx;generalize hw:ba aM σ x=w at ad;cases ad;exact done h .eS (fun H hO=>by rw[Bf,hw];rfl)
  ·rename_i i neg hx
   have ad:=cf R bk hx;generalize hw:ba aM σ x=w at ad;cases ad with
   |bo hb=>exact done h (.bo hb) (fun H hO=>by rw[Bf,hw];rename_i tB;cases neg<;>cases tB<;>rfl)
  ·rename_i bI n hx
   have ad:=cf R bk hx;generalize hw:ba aM σ x=w at ad;cases ad;exact done h .int (fun H hO=>by rw[Bf,hw];rfl)
  ·exact absurd h aw.bad
 case h_12 bI x=>
  split at h
  ·rename_i n hx
   have ad:=cf R bk hx;generalize hw:ba aM σ x=w at ad;cases ad;exact done h .int (fun H hO=>by simp[bK,step,hw])
  ·exact absurd h aw.bad
 case h_13 m x y=>
  split at h
  ·rename_i bI a yX c hx hy
   have cR:=cf R bk hx;have iI:=cf R bk hy;generalize dY:ba aM σ x=wa at cR;generalize ke:ba aM σ y=uG at iI;cases cR;cases iI;split at h
   ·rename_i e
    have e:=of_decide_eq_true e;subst e;split at h
    ·exact done h .int (fun H hO=>by rw[Ms];simp[step,dY,ke])
    ·exact done h .int (fun H hO=>by rw[Ms];simp[step,dY,ke])
   ·exact absurd h aw.bad
  ·exact absurd h aw.bad
 case h_14 i cs=>
  split at h
  ·rename_i vs cO
   exact done h (.fn (pL R bk cO)) (fun H hO=>by rw[Zb];rfl)
  ·exact absurd h aw.bad
 case h_15 off x=>
  split at h
  ·rename_i o f hx
   have ad:=cf R bk hx;generalize hw:ba aM σ x=w at ad;cases ad with
   |ptr ho=>exact done h (.ptr ho) (fun H hO=>by rw[Bg,hw])
  ·rename_i o f hx
   have ad:=cf R bk hx;generalize hw:ba aM σ x=w at ad;cases ad with
   |dp ho=>exact done h (.dp ho) (fun H hO=>by rw[Bg,hw])
  ·rename_i o n f hx
   have ad:=cf R bk hx;generalize hw:ba aM σ x=w at ad;cases ad with
   |gC ho=>exact done h (.gC ho) (fun H hO=>by rw[Bg,hw])
  ·exact absurd h aw.bad
 case h_16 off sh x=>
  split at h
  ·rename_i cs hx
   split at h
   ·rename_i v hc
    have ad:=cf R bk hx;generalize hw:ba aM σ x=w at ad;cases ad with
    |agg ho=>
     obtain⟨u,h1,h2⟩:=zb hc ho;exact done h h2 (fun H hO=>by rw[Zc,hw];simp[h1])
   ·exact absurd h aw.bad
  ·exact absurd h aw.bad
 case h_17 x i=>
  split at h
  ·rename_i vs hx
   split at h
   ·rename_i v hc
    have ad:=cf R bk hx;generalize hw:ba aM σ x=w at ad;cases ad with
    |aR ho=>
     rw[qQ]at hc;obtain⟨u,h1,h2⟩:=ho.get hc;exact done h h2 (fun H hO=>by rw[Mp,hw];simp[h1])
   ·exact absurd h aw.bad
  ·exact absurd h aw.bad
 case h_18 kind x=>
  split at h
  ·rename_i a hx
   have ad:=cf R bk hx;generalize hw:ba aM σ x=w at ad;cases ad;exact done h .int (fun H hO=>by simp[bK,step,hw])
  ·rename_i t a hx
   have ad:=cf R bk hx;generalize hw:ba aM σ x=w at ad;cases ad;exact done h .int (fun H hO=>acu hw _)
  ·rename_i o hx
   split at h
   ·rename_i t a hm
    have ad:=cf R bk hx;generalize hw:ba aM σ x=w at ad;cases ad with
    |row ho=>
     obtain⟨v0,q1,q2⟩:=R.mem o _ hm;obtain⟨k,hk,-⟩:=R.at hm;rw[q1]at ho;cases ho;exact done h .int (fun H hO=>acR hO k hk q2 hw)
   ·exact absurd h aw.bad
  ·rename_i o hx
   split at h
   ·rename_i ek hh m hm
    have ad:=cf R bk hx;generalize hw:ba aM σ x=w at ad;cases ad with
    |row ho=>
     obtain⟨a,q1,q2,-⟩:=R.mem o _ hm;obtain⟨k,hk,-⟩:=R.at hm;rw[q1]at ho;cases ho;exact done h .int (fun H hO=>acP (hO.get k (by rw[hk,q2])) hw)
   ·exact absurd h aw.bad
  ·rename_i hx
   have ad:=cf R bk hx;generalize hw:ba aM σ x=w at ad;cases ad;exact done h .int (fun H hO=>by simp[bK,step,hw])
  ·rename_i hx
   have ad:=cf R bk hx;generalize hw:ba aM σ x=w at ad;cases ad;exact done h .int (fun H hO=>by simp[bK,step,hw])
  ·exact absurd h aw.bad
 case h_19 es x i=>
  split at h
  ·rename_i t a bI n hx hi
   have cR:=cf R bk hx;have iI:=cf R bk hi;generalize dY:ba aM σ x=wa at cR;generalize ke:ba aM σ i=uG at iI;cases cR;cases iI;split at h
   ·rename_i e
    have e:=dm e;subst e;obtain⟨y,hy,h⟩:=aw.bL h;obtain⟨v,ao,h1,h2,aq⟩:=uE (ρ:=ρ) (fs:=fs) aK h;split at h1
    ·rename_i cs hc
     exact⟨_,ao,_,h1,h2,.dp (uD hc aq),fun H hO=>acv dY ke hy _⟩
    ·exact absurd h1 aw.bad
   ·exact absurd h aw.bad
  ·rename_i o bI n hx hi
   split at h
   ·rename_i t a hm
    split at h
    ·rename_i e
     have e:=dm e;subst e;obtain⟨y,hy,h⟩:=aw.bL h;have cR:=cf R bk hx;have iI:=cf R bk hi;generalize dY:ba aM σ x=wa at cR;generalize ke:ba aM σ i=uG at iI;cases iI;cases cR with
     |row ho=>
      obtain⟨v0,q1,q2⟩:=R.mem o _ hm;obtain⟨k,hk,-⟩:=R.at hm;rw[q1]at ho;cases ho;obtain⟨l,N,rfl⟩:=q2.aN hy;exact done h (.gC q1) (fun H hO=>adS hy hO hk q2 dY ke)
    ·exact absurd h aw.bad
   ·exact absurd h aw.bad
  ·exact absurd h aw.bad
 case h_20 x i=>
  split at h
  ·rename_i a bI n hx hi
   have cR:=cf R bk hx;have iI:=cf R bk hi;generalize dY:ba aM σ x=wa at cR;generalize ke:ba aM σ i=uG at iI;cases cR;cases iI;obtain⟨y,hy,h⟩:=aw.bL h;exact done h .int (fun H hO=>acy dY ke hy _)
  ·exact absurd h aw.bad
 case h_21 x cS hi=>
  split at h
  ·rename_i a hx
   have cR:=cf R bk hx;generalize dY:ba aM σ x=wa at cR;cases cR;split at h
   ·rename_i ae ai
    obtain⟨y,hy,h⟩:=aw.bL h;exact done h .str (fun H hO=>BH hy (jC (e:=ba aM σ) ae R bk (.inl ⟨rfl,rfl⟩)) (jC (e:=ba aM σ) ai R bk (.inl ⟨rfl,rfl⟩)) dY)
   ·rename_i ae ai
    obtain⟨y,hy,h⟩:=aw.bL h;exact done h .str (fun H hO=>BH hy (jC (e:=ba aM σ) ae R bk (.inr rfl)) (jC (e:=ba aM σ) ai R bk (.inl ⟨rfl,rfl⟩)) dY)
   ·rename_i ae ai
    obtain⟨y,hy,h⟩:=aw.bL h;exact done h .str (fun H hO=>BH hy (jC (e:=ba aM σ) ae R bk (.inl ⟨rfl,rfl⟩)) (jC (e:=ba aM σ) ai R bk (.inr rfl)) dY)
   ·rename_i ae ai
    obtain⟨y,hy,h⟩:=aw.bL h;exact done h .str (fun H hO=>BH hy (jC (e:=ba aM σ) ae R bk (.inr rfl)) (jC (e:=ba aM σ) ai R bk (.inr rfl)) dY)
   ·exact absurd h aw.bad
  ·exact absurd h aw.bad
 case h_22 kind z x i ok=>
  split at h
  ·rename_i o v hx hi
   split at h
   ·rename_i ek hh m hm
    split at h
    ·rename_i key bO ae ai bz
     have cR:=cf R bk hx;have iI:=cf R bk hi;generalize dY:ba aM σ x=wa at cR;cases cR with
     |row ho=>
      obtain⟨a,q1,q2,-⟩:=R.mem o _ hm;obtain⟨k,hk,-⟩:=R.at hm;rw[q1]at ho;cases ho;have Sa:=aK.gu _ _ _ _ _ _ _ iI ae;have aP:=aK.gu _ _ _ ρ fs _ _ (Cb z) ai;have aT:∀H,Own H (cK s G F)->H[a]? =some (.map (mg (U.enc ek) (U.enc hh) m)):=fun H hO=>hO.get k (by rw[hk,q2]);split at h
      ·obtain⟨v,ao,h1,h2,aq⟩:=uE (ρ:=ρ) (fs:=fs) aK h
       exact⟨v,ao,_,h1,h2,aq,fun H hO=>@acN H _ _ _ _ ⟨U.beq ek⟩ _ _ _ _ _ _ _ _ _ (Hg aK bz) bO aP (aT H hO) dY Sa⟩
      ·obtain⟨v,ao,h1,h2,aq⟩:=uE (ρ:=ρ) (fs:=fs) aK h
       obtain⟨bv,s2,bf,fe,fj⟩:=R1 (ρ:=ρ) (fs:=fs) h1;refine⟨_,s2,_,bf,h2.trans fe,.aR (.cons (aq.mono fe.aB db) (.cons fj .nil)),fun H hO=> ?_⟩;have:=@acO H call (ba aM σ) _ _ ⟨U.beq ek⟩ _ _ _ _ _ _ _ _ _ (Hg aK bz) bO aP (aT H hO) dY Sa;show bK call (ba aM σ) H H.length (.lookup kind z x i true)=_;rw[this];simp[BT]
    ·exact absurd h aw.bad
   ·exact absurd h aw.bad
  ·exact absurd h aw.bad
 case h_23 es x cS hi=>
  split at h
  ·rename_i o hx
   have cR:=cf R bk hx;generalize dY:ba aM σ x=wa at cR;split at h
   ·rename_i t a hm
    split at h
    ·rename_i e
     have e:=dm e;subst e;cases cR with
     |row ho=>
      obtain⟨v0,q1,q2⟩:=R.mem o _ hm;rw[q1]at ho;cases ho;obtain⟨k,hk,-⟩:=R.at hm;split at h
      ·rename_i ae ai
       obtain⟨y,hy,h⟩:=aw.bL h;obtain⟨w,hw,cG⟩:=R6 (ms:=cK s G F) (call:=call) k hk q2 hy (jC (e:=ba aM σ) ae R bk (.inr rfl)) (jC (e:=ba aM σ) ai R bk (.inl ⟨rfl,rfl⟩)) dY;exact done h (.iG q1 hw) cG
      ·rename_i ae ai
       obtain⟨y,hy,h⟩:=aw.bL h;obtain⟨w,hw,cG⟩:=R6 (ms:=cK s G F) (call:=call) k hk q2 hy (jC (e:=ba aM σ) ae R bk (.inl ⟨rfl,rfl⟩)) (jC (e:=ba aM σ) ai R bk (.inr rfl)) dY;exact done h (.iG q1 hw) cG
      ·exact absurd h aw.bad
    ·exact absurd h aw.bad
   ·exact absurd h aw.bad
  ·rename_i t a hx
   have cR:=cf R bk hx;generalize dY:ba aM σ x=wa at cR;cases cR;split at h
   ·rename_i e
    have e:=dm e;subst e;split at h
    ·rename_i ae ai
     obtain⟨y,hy,h⟩:=aw.bL h;exact done h .sl (fun H hO=>BG hy (jC (e:=ba aM σ) ae R bk (.inl ⟨rfl,rfl⟩)) (jC (e:=ba aM σ) ai R bk (.inl ⟨rfl,rfl⟩)) dY)
    ·rename_i ae ai
     obtain⟨y,hy,h⟩:=aw.bL h;exact done h .sl (fun H hO=>BG hy (jC (e:=ba aM σ) ae R bk (.inr rfl)) (jC (e:=ba aM σ) ai R bk (.inl ⟨rfl,rfl⟩)) dY)
    ·rename_i ae ai
     obtain⟨y,hy,h⟩:=aw.bL h;exact done h .sl (fun H hO=>BG hy (jC (e:=ba aM σ) ae R bk (.inl ⟨rfl,rfl⟩)) (jC (e:=ba aM σ) ai R bk (.inr rfl)) dY)
    ·rename_i ae ai
     obtain⟨y,hy,h⟩:=aw.bL h;exact done h .sl (fun H hO=>BG hy (jC (e:=ba aM σ) ae R bk (.inr rfl)) (jC (e:=ba aM σ) ai R bk (.inr rfl)) dY)
    ·exact absurd h aw.bad
   ·exact absurd h aw.bad
  ·exact absurd h aw.bad
 case h_24 es bytes a c=>
  split at h
  ·rename_i x t y ha hc
   have Cf:=cf R bk hc;generalize ke:ba aM σ c=uG at Cf;cases Cf;split at h
   ·rename_i ae ai
    obtain⟨z,aP,h⟩:=aw.bL h;have ae:=dm ae;subst ae;exact done h .sl fun H hO=>RC aP (.inl rfl) (si ai (cf R bk ha)) ke (aK.bS t) (aK.ok t)
   ·rename_i ae ai
    obtain⟨z,aP,h⟩:=aw.bL h;have ae:=dm ae;subst ae;exact done h .sl fun H hO=>RC aP (.inr rfl) (si ai (cf R bk ha)) ke (aK.bS t) (aK.ok t)
   ·exact absurd h aw.bad
  ·exact absurd h aw.bad
 case h_25=>exact absurd h aw.bad
end
end Go.Abs.fM
namespace Go.Abs.fM
open Go Go.Abs
section
variable{U:fW}
def gn:(bc:List Nat)->c4 U bc->List V
 |[],_=>[]
 |t::r,x=>U.enc t (lE r x)::gn r (se r x)
def jW (bc:List Nat)(x:c4 U bc):V:=one (gn bc x)
def uH:(bc:List Nat)->c4 U bc->List Nat->bV
 |[],_,_=>[]
 | _::_,_,[]=>[]
 |t::r,x,a::aC=>[(a,.cells (aL (U.enc t (lE r x))))]::uH r (se r x) aC
def kC (ab:Nat->Option bQ)(F:bV)(c6:List Nat)(rt:Nat)(f:c4 U c6->Option (U.ar rt))(w:V):Prop:=
 (∀H low,hR H low w=some (w,H,low))/\∀H z q,Own H F->f z=some q->cp ab w (gn c6 z) H=some (U.enc rt q,H,H.length)
def nV (ab:Nat->Option bQ)(F:bV):(aC:List jA)->kB U aC->List V->Prop
 |[],_,ws=>ws=[]
 | .v t::r,x,ws=>∃dD,ws=U.enc t x.1::dD/\nV ab F r x.2 dD
 | .f c6 rt::r,x,ws=>∃w dD,ws=w::dD/\kC ab F c6 rt x.1 w/\nV ab F r x.2 dD
abbrev uI (aC:List Nat):List V:=aC.map fun a=>V.ptr a 0
def uJ (ab:Nat->Option bQ)(e:eU U):Prop:=∀(H:Heap) (F:bV) (c:c4 U e.caps) (a:kB U e.args) (aC:List Nat) (ws:List V) (r:c4 U e.res),
 aC.length=e.caps.length->Own H (uH e.caps c aC++F)->nV ab F e.args a ws->e.fn c a=some r->cp ab (.fn e.id [] (uI aC)) ws H=some (jW e.res r,H,H.length)
def sj (U:fW)(ab:Nat->Option bQ)(i:Nat)(p:Nat × Nat):Prop:=match p.2 with
 |0=>GI ab i (U.es p.1)
 |1=>Rm ab i (U.es p.1)
 |hv=>∃n z,ab i=some (.code (nO n (U.es p.1) hv z))/\1<=n
theorem sj.clone{ab:Nat->Option bQ}{i:Nat}{p:Nat × Nat}(h:sj U ab i p)(hp:Nat.blt 1 p.2=true):∃n z,ab i=some (.code (nO n (U.es p.1) p.2 z))/\1<=n:=by
 obtain⟨t,n⟩:=p
 match n,hp with
 |n+2,_=>exact h
def x5 (ab:Nat->Option bQ)(e:eU U):Prop:=∀(H:Heap) (F:bV) (c:c4 U e.caps) (a:kB U e.args) (ws:List V) (r:c4 U e.res),
 e.caps=[]->nV ab F e.args a ws->Own H F->e.fn c a=some r->∀(t:Nat) (y:al (U.ar t)),b4 (U.es t) (U.enc t) y=jW e.res r->
 ∃v m',cp ab (.fn e.id [] []) ws H=some (v,H++m'.map Prod.snd,H.length)/\dS H.length (U.es t) (U.enc t) v y m'/\∀ms,Own H ms->Own (H++m'.map Prod.snd) (m'::ms)
def mR (ab:Nat->Option bQ)(cx:kc U):Prop:=(∀e∈cx.T,uJ ab e)/\(∀q∈cx.cl,sj U ab q.1 q.2)/\∀e∈cx.bD,x5 ab e
theorem zd{a:Nat}:∀(r:List Nat) (x:U.ar a) (y:c4 U r),lE r (sd r x y)=x
 |[],_,_=>rfl
 | _::_,_,_=>rfl
theorem ze{a:Nat}:∀(r:List Nat) (x:U.ar a) (y:c4 U r),se r (sd r x y)=y
 |[],_,()=>rfl
 | _::_,_,_=>rfl
variable{b:Nat}{F:bV}{fs:List V}{s ao:a1 U}{σ aM:bt}{H:Heap}{G:Nat->List (Nat × bd)}{ρ:List V}{aj:h6 U}{A:Type}[aF A]{S:A->Prop}{ab:Nat->Option bQ}{cx:kc U}
theorem Cg (aK:eJ U){B:List Bool}:∀{bc:List Nat} {vs:List (aD U.ar)} {ws:List V} {x:c4 U bc},k1 B bc vs=some x->bT U B ρ fs vs ws->ws=gn bc x
 |[],_,_,_,h,.nil=>rfl
 |[],_,_,_,h,.cons _ _=>by cases h
 | _::_,_,_,_,h,.nil=>by cases h
 |t::bc,_,_,_,h,.cons ad r=>by
  simp only[k1]at h;split at h
  ·cases h
  ·rename_i x e
   split at h
   ·cases h
   ·rename_i l ai
    cases h;simp only[gn,zd,ze];rw[aK.gu _ _ _ _ _ _ _ ad e,Cg aK ai r]
theorem Sb (aK:eJ U):∀{bc:List Nat} {x:c4 U bc} {s:a1 U} {k:List (aD U.ar)->a1 U->A},S (elems bc x s k)->∃vs ao,S (k vs ao)/\gN s ao/\bT U ao.aB ρ fs vs (gn bc x)
 |[],_,s,_,h=>⟨[],s,h,.rfl,.nil⟩
 |t::bc,x,s,k,h=>by
  obtain⟨v,s1,h1,bM,v1⟩:=uE (ρ:=ρ) (fs:=fs) aK h;obtain⟨vs,s2,h2,dC,v2⟩:=Sb aK h1;exact⟨_,s2,h2,bM.trans dC,.cons (v1.mono dC.aB db) v2⟩
theorem Hi (aK:eJ U){bc:List Nat}{x:c4 U bc}{k:aD U.ar->a1 U->A}(h:S (BV bc x s k)):∃v ao,S (k v ao)/\gN s ao/\bp U ao.aB ρ fs v (jW bc x):=by
 obtain⟨vs,s1,h1,bM,v1⟩:=Sb (ρ:=ρ) (fs:=fs) aK h;split at h1
 ·rename_i v
  refine⟨_,s1,h1,bM,?_⟩;unfold jW;generalize gn bc x=ws at v1;cases v1 with
  |cons ad r=>cases r;exact ad
 ·rename_i bb
  refine⟨_,s1,h1,bM,?_⟩;unfold jW;generalize gn bc x=ws at v1
  have:one ws=.aR ws:=by
   match ws,v1 with
   |[],_=>rfl
   |[w],.cons (v:=v) ad .nil=>exact absurd rfl (bb v)
   | _::_::_,_=>rfl
  rw[this];exact .aR v1
theorem _root_.Go.Abs.Own.sub{ms fb:bV}(h:Own H ms)(hs:fb.Sublist ms):Own H fb:=⟨fun m hm=>h.1 m (hs.subset hm),h.2.sublist (hs.map _)⟩
theorem adT{B:List Bool}{c:aD U.ar}{w:V}{l:List (aD U.ar)}(h:nP c=some l)(hn:∀vs,c≠ .agg vs)(ad:bp U B ρ fs c w):aL w=[w]:=by
 cases ad<;>simp only[nP]at h
 case agg=>exact absurd rfl (hn _)
 case aR=>rfl
 case k=>
  split at h
  ·cases h
  ·cases w<;>first|rfl|simp_all
 case sl=>exact Q3 _ _ _
 case row=>cases h
 case fv=>cases h
 case iH=>cases h
 case iG=>cases h
 all_goals rfl
theorem adU (R:bB U b F fs s σ H G ρ){v c:aD U.ar}{w:V}(h:GP s.mem v=some c)(ad:bp U s.aB ρ fs v w):
  ∃o a aJ w',v=.ptr o 0/\w=.ptr a 0/\aX s.mem o=some aJ/\bp U s.aB ρ fs c w'/\G o=[(a,.cells (aL w'))]:=by
 unfold GP at h;split at h
 ·rename_i o
  cases ad with
  |ptr ho=>
   split at h
   ·rename_i wr c1 hm
    obtain⟨a,ws,q1,q2,dk,fC,-⟩:=R.cells hm;rw[q1]at ho;cases ho;split at h
    ·cases h
    ·rename_i hn
     split at h
     ·rename_i l hl
      cases h;cases fC with
      |cons h1 r=>
       cases r;exact⟨o,_,_,_,rfl,rfl,hm,h1,by rw[q2,adT hl hn h1]⟩
     ·cases h
   ·rename_i wr cs bb hm
    obtain⟨a,ws,q1,q2,dk,fC,-⟩:=R.cells hm;rw[q1]at ho;cases ho;cases h;exact⟨o,_,_,_,rfl,rfl,hm,.agg fC,q2⟩
   ·cases h
 ·cases h
theorem Hj (aK:eJ U)(R:bB U b F fs s σ H G ρ):∀{cs vs:List (aD U.ar)} {ws:List V} {bc:List Nat} {c:c4 U bc} {l:List Nat},bT U s.aB ρ fs cs ws->y1 s.mem cs=some vs->y0 cs l=true->k1 s.aB bc vs=some c->
  ∃(aC dN:List Nat),ws=uI aC/\aC.length=bc.length/\dN.map (fun k=>(cK s G F).getD k [])=uH bc c aC/\dN.Nodup/\∀k∈dN,∃e:Nat × bC U,s.mem[k]? =some e/\e.1∉l
 | _,_,_,bc,c,l,.nil,h1,h2,aq=>by
   cases h1;cases bc with
   |nil=>exact⟨[],[],rfl,rfl,rfl,zZ,fun k hk=>by cases hk⟩
   |cons t bc=>cases aq
 |v::cs,vs,_,bc,c,l,.cons ad r,h1,h2,aq=>by
  simp only[y1]at h1;split at h1
  ·cases h1
  ·rename_i c1 ae
   split at h1
   ·cases h1
   ·rename_i dH ai
    cases h1;obtain⟨o,a,aJ,w',rfl,rfl,hm,hc,vY⟩:=adU R ae ad;simp only[y0]at h2;split at h2
    ·cases h2
    ·rename_i mS
     have mS:o∉l:=fun q=>by rw[(mem_iff o l).2 q]at mS;cases mS
     cases bc with
     |nil=>cases aq
     |cons t bc=>
      simp only[k1]at aq;split at aq
      ·cases aq
      ·rename_i x ex
       split at aq
       ·cases aq
       ·rename_i y tx
        cases aq;obtain⟨aC,dN,p1,cN,ei,nC,wX⟩:=Hj aK R r ai h2 tx;obtain⟨k,hk,aY,Ch,hid⟩:=R.at hm;refine⟨a::aC,k::dN,by rw[p1];rfl,by simp[cN],?_,?_,?_⟩
        ·simp only[cW,uH,zd,ze,ei]
         congr 1;rw[u4,hk,vY,aK.gu _ _ _ _ _ _ _ hc ex];rfl
        ·refine n4.2 ⟨fun eO=> ?_,nC⟩
         obtain⟨e,q1,q2⟩:=wX k eO;rw[gk aY]at q1;cases q1;exact q2 (by rw[hid];simp)
        ·intro bJ hk'
         rcases cY.1 hk' with rfl|hk'
         ·exact⟨_,gk aY,by rw[hid];exact mS⟩
         ·obtain⟨e,q1,q2⟩:=wX bJ hk'
          exact⟨e,q1,fun q=>q2 (ie _ q)⟩
theorem Hk:∀(bc:List Nat) (c:c4 U bc),uH bc c []=[]
 |[],_=>rfl
 | _::_,_=>rfl
theorem adV{i:Nat}{ws:List V}(H:Heap)(low:Nat):hR H low (.fn i [] ws)=some (.fn i [] ws,H,low):=by
 unfold hR;simp only[ea];split<;>rfl
theorem Hl{F:bV}:∀(c6:List Nat) (z:c4 U c6),nV ab F (c6.map jA.v) (BU c6 z) (gn c6 z)
 |[],_=>rfl
 |t::r,z=>⟨_,rfl,Hl r _⟩
theorem adW (aK:eJ U)(R:bB U b F fs s σ H G ρ)(hT:mR ab cx)(af:∀j f,nth cx.fv j=some f->∃w,fs[j]? =some w/\kC ab F f.c6 f.rt f.f w)
  {c6:List Nat} {rt:Nat} {v:aD U.ar} {w:V} {f:c4 U c6->Option (U.ar rt)} (h:GQ cx s c6 rt v=some f) (ad:bp U s.aB ρ fs v w):kC ab (cK s G F) c6 rt f w:=by
 unfold GQ at h;split at h
 ·rename_i j
  split at h
  ·cases h
  ·rename_i g aT
   obtain⟨w',q1,q2⟩:=af j g aT;cases ad with
   |fv hj=>
    rw[q1]at hj;cases hj;split at h
    ·rename_i h3
     obtain⟨g1,g2,g3⟩:=g;obtain⟨rfl,rfl⟩:=h3;cases h;exact⟨q2.1,fun H z q hO a8=>q2.2 H z q (hO.sub (xi _ _)) a8⟩
    ·cases h
 ·rename_i i cs
  cases ad with
  |fn en=>
   split at h
   ·cases h
   ·rename_i e he
    split at h
    ·rename_i vs cO hnd
     split at h
     ·cases h
     ·rename_i c hc
      split at h
      ·rename_i h3
       have pM:e∈cx.T/\e.id=i:=by
        clear h3 hc h hT;generalize cx.T=T at he
        induction T with
        |nil=>cases he
        |cons e' T ih=>
         simp only[nR]at he;split at he
         ·rename_i hb;cases he;exact⟨by simp,dm hb⟩
         ·exact⟨ie _ (ih he).1,(ih he).2⟩
       have bx:=hT.1 e pM.1;obtain⟨aC,dN,p1,cN,ei,nC,wX⟩:=Hj aK R en cO hnd hc;have hid:=pM.2;clear pM he;obtain⟨ajb,D7,ajc,nW,wY⟩:=e;obtain⟨h1,h2⟩:=h3;simp only at h1 h2 hid;subst h1;subst h2;subst hid;cases h;refine⟨adV,fun H z q hO a8=> ?_⟩;subst p1;exact bx H [] c (BU c6 z) aC (gn c6 z) q cN (by rw[lQ,<-ei];exact hO.Q1 dN nC) (Hl c6 z) a8
      ·cases h
    ·cases h
 ·cases h
theorem wZ (aK:eJ U)(R:bB U b F fs s σ H G ρ)(hT:mR ab cx)(af:∀j f,nth cx.fv j=some f->∃w,fs[j]? =some w/\kC ab F f.c6 f.rt f.f w):
  ∀{aC:List jA} {vs:List (aD U.ar)} {ws:List V} {a:kB U aC},qS cx s aC vs=some a->bT U s.aB ρ fs vs ws->nV ab (cK s G F) aC a ws
 |[],_,_,_,h,.nil=>rfl
 |[],_,_,_,h,.cons _ _=>by cases h
 | .v _::_,_,_,_,h,.nil=>by cases h
 | .f _ _::_,_,_,_,h,.nil=>by cases h
 | .v t::aC,_,_,_,h,.cons ad r=>by
   simp only[qS]at h;split at h
   ·cases h
   ·rename_i x e
    split at h
    ·cases h
    ·rename_i l ai
     cases h;exact⟨_,by rw[aK.gu _ _ _ _ _ _ _ ad e],wZ aK R hT af ai r⟩
 | .f c6 rt::aC,_,_,_,h,.cons ad r=>by
   simp only[qS]at h;split at h
   ·cases h
   ·rename_i x e
    split at h
    ·cases h
    ·rename_i l ai
     cases h;exact⟨_,_,rfl,adW aK R hT af e ad,wZ aK R hT af ai r⟩
theorem Ci (aK:eJ U){F:bV}:∀{aC:List jA} {a:kB U aC} {ws:List V},nV ab F aC a ws->∀H low,eL H low ws=some (ws,H,low)
 |[],_,_,h,H,low=>by cases h;rfl
 | .v t::aC,x,_,⟨dD,e,r⟩,H,low=>by subst e;exact acE (aK.bS _ _) (Ci aK r H low)
 | .f c6 rt::aC,x,_,⟨w,dD,e,q,r⟩,H,low=>by subst e;exact acF q.1 (Ci aK r H low)
theorem Cj{F F':bV}:∀{aC:List jA} {a:kB U aC} {ws:List V},sf aC=true->nV ab F aC a ws->nV ab F' aC a ws
 |[],_,_,_,h=>h
 | .v t::aC,x,_,hn,⟨dD,e,r⟩=>⟨dD,e,Cj (aC:=aC) hn r⟩
 | .f _ _::_,_,_,hn,_=>by cases hn
theorem Sc (aK:eJ U)(aw:jB S)(R:bB U b F fs s σ H G ρ)(hT:mR ab cx)(af:∀j f,nth cx.fv j=some f->∃w,fs[j]? =some w/\kC ab F f.c6 f.rt f.f w)
  {f:aD U.ar} {aC:List (aD U.ar)} {wf:V} {ws:List V} {k:aD U.ar->a1 U->A} (h:S (BW cx s f aC k)) (ad:bp U s.aB ρ fs f wf) (ha:bT U s.aB ρ fs aC ws):
  ∃v ao w,S (k v ao)/\gN s ao/\bp U ao.aB ρ fs v w/\∀H,Own H (cK s G F)->cp ab wf ws H=some (w,H,H.length)/\eL H H.length ws=some (ws,H,H.length):=by
 unfold BW at h;split at h
 ·rename_i j
  split at h
  ·exact absurd h aw.bad
  ·rename_i g aT
   obtain⟨w',q1,q2⟩:=af j g aT;cases ad with
   |fv hj=>
    rw[q1]at hj;cases hj;split at h
    ·exact absurd h aw.bad
    ·rename_i a e
     obtain⟨r,nW,h⟩:=aw.bL h;obtain⟨v,ao,h1,h2,aq⟩:=uE (ρ:=ρ) (fs:=fs) aK h;have adX:=Cg aK e ha;subst adX;exact⟨v,ao,_,h1,h2,aq,fun H hO=>⟨q2.2 H a r (hO.sub (xi _ _)) nW,Ci (ab:=ab) (F:=F) aK (Hl _ a) H _⟩⟩
 ·rename_i i cs
  cases ad with
  |fn en=>
   split at h
   ·exact absurd h aw.bad
   ·rename_i e he
    split at h
    ·rename_i vs cO hnd mS
     split at h
     ·exact absurd h aw.bad
     ·rename_i c hc
      split at h
      ·exact absurd h aw.bad
      ·rename_i a tT
       obtain⟨r,nW,h⟩:=aw.bL h;obtain⟨v,ao,h1,h2,aq⟩:=Hi (ρ:=ρ) (fs:=fs) aK h
       have pM:e∈cx.T/\e.id=i:=by
        clear hc tT nW h hT mS h1;generalize cx.T=T at he
        induction T with
        |nil=>cases he
        |cons e' T ih=>
         simp only[nR]at he;split at he
         ·rename_i hb;cases he;exact⟨by simp,dm hb⟩
         ·exact⟨ie _ (ih he).1,(ih he).2⟩
       have bx:=hT.1 e pM.1;obtain⟨ob,dN,p1,cN,ei,nC,wX⟩:=Hj aK R en cO hnd hc;have q0:=wZ aK R hT af tT ha;have hid:=pM.2;subst hid;subst p1;refine⟨v,ao,_,h1,h2,aq,fun H hO=>⟨?_,Ci aK q0 H _⟩⟩;split at mS
       ·have hl:=en.length
        cases ob with
        |nil=>exact bx H (cK s G F) c a [] ws r cN (by rw[Hk];exact hO) q0 nW
        |cons x xs=>simp at hl
       ·exact bx H [] c a ob ws r cN (by rw[lQ,<-ei];exact hO.Q1 dN nC) (Cj mS q0) nW
    ·exact absurd h aw.bad
 ·exact absurd h aw.bad
theorem q3{α:Type}:∀{l:List (Nat × α)} {o:Nat} {x:α},(l.map Prod.fst).Nodup->(o,x)∈l->aX l o=some x
 |(k,a)::r,o,x,hn,h=>by
  rw[eG];have hn:=n4.1 hn;rcases cY.1 h with e|h
  ·cases e;rw[if_pos rfl]
  ·rw[if_neg fun e=>hn.1 (by subst e;exact dn.2 ⟨_,h,rfl⟩)]
   exact q3 hn.2 h
theorem Sd{α:Type}{l eB:List (Nat × α)}{o:Nat}{x:α}(hs:eB.Sublist l)(hn:(l.map Prod.fst).Nodup)(h:aX eB o=some x):aX l o=some x:=q3 hn (hs.subset (gD h))
theorem uK (o:Nat):∀m:List (Nat × bC U),(lF o m).Sublist m
 |[]=>C8 _
 |(k,c)::r=>by
  simp only[lF];split
  ·exact List.sublist_cons_self _ _
  ·exact(uK o r).cons_cons _
theorem Hm{o:Nat}:∀{m:List (Nat × bC U)} {aJ:bC U},aX m o=some aJ->∃k,(m.map fun e=>G e.1)[k]? =some (G o)/\∀x,((lF o m).map fun e=>G e.1).Sublist ((m.map fun e=>G e.1).set k x)
 |(k,c)::r,aJ,h=>by
  simp only[aX]at h;simp only[lF];split at h
  ·rename_i e
   try rw[e]
   refine⟨0,by simp[dm e],fun x=> ?_⟩;simp only[cW,C4];exact List.sublist_cons_self _ _
  ·rename_i e
   try rw[e]
   obtain⟨i,h1,h2⟩:=Hm h;refine⟨i+1,by simpa using h1,fun x=> ?_⟩;simp only[cW,IP];exact(h2 x).cons_cons _
theorem yS{n low:Nat}:∀{vs:List V},cB vs=true->il (ea n) H low vs=some (vs,H,low)
 |[],_=>rfl
 |v::r,h=>by
  simp only[cB,cH]at h;have:ea n H low v=some (v,H,low):=by cases n<;>simp[ea,h.1]
  simp only[il,this,yS h.2]
theorem adY{n:Nat}{ms fb:bV}{vs vs':List V}(h:lA b n ms vs vs' fb):jf b (n+1) ms (.agg vs) (.agg vs') fb:=fun H low hO hb=>by
 obtain⟨H1,bm,ae,jS,b1⟩:=h H low hO hb;refine⟨H1,bm,?_,jS,b1⟩;simp only[ea,bS,ae];split
 ·rename_i hp;rw[yS hp]at ae;cases ae;rfl
 ·rfl
theorem Se{n:Nat}{ms fb:bV}{vs vs':List V}(h:lA b n ms vs vs' fb):jf b (n+1) ms (.aR vs) (.aR vs') fb:=fun H low hO hb=>by
 obtain⟨H1,bm,ae,jS,b1⟩:=h H low hO hb;refine⟨H1,bm,?_,jS,b1⟩;simp only[ea,bS,ae];split
 ·rename_i hp;rw[yS hp]at ae;cases ae;rfl
 ·rfl
theorem pN (o:Nat)(c:bC U):∀l:List (Nat × bC U),(gv o c l).map Prod.fst=l.map Prod.fst
 |[]=>rfl
 |(k,d)::r=>by
  simp only[gv];split
  ·rfl
  ·simp[pN o c r]
theorem oP (o:Nat)(c:bC U):∀(l:List (Nat × bC U)) (t:Nat),aX (gv o c l) t=if t=o then(aX l t).map fun _=>c else aX l t
 |[],t=>by simp[gv,aX]
 |(k,d)::r,t=>by
  simp only[gv];split
  ·rename_i e
   have e:=dm e;subst e;rw[eG,eG];by_cases q:k=t
   ·subst q;simp
   ·simp[q,jn q]
  ·rename_i e
   have e:k≠o:=fun q=>by rw[q,sO]at e;cases e
   rw[eG,eG,oP o c r t];by_cases q:k=t
   ·subst q;simp[e]
   ·simp[q]
theorem adZ{G:Nat->List (Nat × bd)}{o:Nat}{c:bC U}{m:List (Nat × bd)}{l:List (Nat × bC U)}{k:Nat}(hk:k<l.length)(hid:l[k].1=o)(cI:(l.map Prod.fst).Nodup):
  (gv o c l).map (fun e=>if e.1=o then m else G e.1)=(l.map fun e=>G e.1).set k m:=by
 have ae:(gv o c l).map (fun e=>if e.1=o then m else G e.1)=((gv o c l).map Prod.fst).map (fun q=>if q=o then m else G q):=by rw[jm];rfl
 have ai:l.map (fun e=>G e.1)=(l.map Prod.fst).map G:=by rw[jm];rfl
 rw[ae,ai,pN];have hk':k<(l.map Prod.fst).length:=by simpa using hk
 have uL:(l.map Prod.fst)[k]=o:=by simpa using hid
 generalize l.map Prod.fst=l at cI hk' uL;apply lP;intro i;rw[iM];by_cases e:k=i
 ·subst e
  rw[mi (by simpa using hk'),gk hk',uL];simp
 ·rw[iL e,iM]
  cases hi:l[i]? with
  |none=>rfl
  |some q=>
   have nL:=(fu.1 hi);obtain⟨nL,a8⟩:=nL;have:q≠o:=fun h=>e ((List.getElem_inj (h₀:=hk') (h₁:=nL) cI).1 (by rw[uL,a8,h]));simp[this]
def oQ (b:Nat)(B:List Bool)(ρ fs:List V)(G:Nat->List (Nat × bd))(m:List (Nat × bC U)):Prop:=(m.map Prod.fst).Nodup/\∀o aJ,aX m o=some aJ->lJ U b B ρ fs o (G o) aJ
structure kf (b:Nat) (B:List Bool) (ρ fs:List V) (G G':Nat->List (Nat × bd)) (m m':List (Nat × bC U)):Prop where
 fst:m'.map Prod.fst=m.map Prod.fst
 mem:∀o aJ,aX m o=some aJ->(aX m' o=some aJ/\G' o=G o)\/∃t x,(aJ=.row t x\/aJ=.fz t x)/\aX m' o=some (.fz t x)/\lJ U b B ρ fs o (G' o) (.fz t x)/\lJ U b B ρ fs o (G o) (.fz t x)
theorem kf.rfl'{B:List Bool}{G:Nat->List (Nat × bd)}{m:List (Nat × bC U)}:kf b B ρ fs G G m m:=⟨rfl,fun o aJ h=>.inl ⟨h,rfl⟩⟩
theorem kf.trans{B:List Bool}{G az a7:Nat->List (Nat × bd)}{m m1 m2:List (Nat × bC U)}(h:kf b B ρ fs G az m m1)(k:kf b B ρ fs az a7 m1 m2):kf b B ρ fs G a7 m m2 where
 fst:=k.fst.trans h.fst
 mem:=fun o aJ ho=>by
  rcases h.mem o aJ ho with⟨av,a2⟩|⟨t,x,av,a2,a3,a4⟩
  ·rcases k.mem o aJ av with⟨b1,fB⟩|⟨t,x,b1,fB,lK,l0⟩
   ·exact .inl ⟨b1,fB.trans a2⟩
   ·exact .inr ⟨t,x,b1,fB,lK,by rw[<-a2];exact l0⟩
  ·rcases k.mem o _ a2 with⟨b1,fB⟩|⟨dr,fA,b1,fB,lK,l0⟩
   ·exact .inr ⟨t,x,av,b1,by rw[fB];exact a3,a4⟩
   ·rcases b1 with b1|b1
    ·cases b1
    ·cases b1
     exact .inr ⟨t,x,av,fB,lK,a4⟩
theorem Sf{α:Type}:∀{l:List (Nat × α)} {o:Nat},o∈l.map Prod.fst->∃x,aX l o=some x
 |(k,a)::r,o,h=>by
  rw[eG];by_cases e:k=o
  ·exact⟨a,by rw[if_pos e]⟩
  ·rw[if_neg e]
   refine Sf ?_;rcases cY.1 h with q|q
   ·exact absurd q.symm e
   ·exact q
theorem kf.back{B:List Bool}{G G':Nat->List (Nat × bd)}{m m':List (Nat × bC U)}(h:kf b B ρ fs G G' m m'){o:Nat}{c:bC U}(hc:aX m' o=some c):∃aJ,aX m o=some aJ:=by
 refine Sf ?_;rw[<-h.fst];exact dn.2 ⟨_,gD hc,rfl⟩
theorem kf.ok{B:List Bool}{G G':Nat->List (Nat × bd)}{m m':List (Nat × bC U)}(h:kf b B ρ fs G G' m m')(hm:oQ b B ρ fs G m):oQ b B ρ fs G' m':=
 ⟨by rw[h.fst];exact hm.1,fun o aJ ho=>by
  obtain⟨c,hc⟩:=h.back ho;rcases h.mem o c hc with⟨av,a2⟩|⟨t,x,av,a2,a3,a4⟩
  ·rw[av]at ho;cases ho;rw[a2];exact hm.2 o _ hc
  ·rw[a2]at ho;cases ho;exact a3⟩
theorem kf.same{B:List Bool}{G G':Nat->List (Nat × bd)}{m m':List (Nat × bC U)}(h:kf b B ρ fs G G' m m')(hm:oQ b B ρ fs G m):oQ b B ρ fs G m':=
 ⟨by rw[h.fst];exact hm.1,fun o aJ ho=>by
  obtain⟨c,hc⟩:=h.back ho;rcases h.mem o c hc with⟨av,a2⟩|⟨t,x,av,a2,a3,a4⟩
  ·rw[av]at ho;cases ho;exact hm.2 o _ hc
  ·rw[a2]at ho;cases ho;exact a4⟩
theorem kf.cK{B:List Bool}{G G':Nat->List (Nat × bd)}{m m':List (Nat × bC U)}(h:kf b B ρ fs G G' m m'):m'.map (fun e=>G e.1)=m.map (fun e=>G e.1):=by
 have ae:m'.map (fun e=>G e.1)=(m'.map Prod.fst).map G:=by rw[jm];rfl
 have ai:m.map (fun e=>G e.1)=(m.map Prod.fst).map G:=by rw[jm];rfl
 rw[ae,ai,h.fst]
theorem ad0{α:Type}{n es:Nat}{f:α->V}{s:al α}{v:V}{m m0:List (Nat × bd)}{ms:bV}(k:Nat)(hk:ms[k]? =some m)(hr:dS b es f v s m0)(hm:m=m0\/m=Go.Abs.jy m0)(hp:∀a,bS (f a)=true):jf b (n+1) ms v (b4 es f s) (ms.set k (Go.Abs.jy m0)):=by
 rcases hm with rfl|rfl
 ·exact jf.row k hk hr hp
 ·intro H low hO hb
  have kT:ms.set k (Go.Abs.jy m0)=ms:=by
   apply lP;intro i;by_cases e:k=i
   ·subst e;rw[mi (fu.1 hk).1,hk]
   ·rw[iL e]
  rw[kT];rw[Q7];have cE:dz b es v (s.map f) m0:=hr;generalize kY:s.map f=e7 at cE;clear hr;cases cE with
  |nil=>exact⟨H,low,rfl,hO,hb⟩
  |emp=>exact⟨H,low,rfl,hO,hb⟩
  |row l ds h fp=>
   have nn:cB ds=true:=by
    cases s<;>simp[al.map]at kY;rw[<-kY];exact oK hp _
   refine⟨H,low,?_,hO,hb⟩;simp[ea,bS,hO.get k (by rw[hk];rfl),nn,b4]
theorem w0{n:Nat}{B:List Bool}{f:List (Nat × bC U)->aD U.ar->Option (aD U.ar × List (Nat × bC U))}
  (af:∀{G:Nat->List (Nat × bd)} {m m':List (Nat × bC U)} {v v':aD U.ar} {w:V},oQ b B ρ fs G m->f m v=some (v',m')->bp U B ρ fs v w->∃w' G',jf b n (m.map (fun e=>G e.1)++F) w w' (m'.map (fun e=>G' e.1)++F)/\bp U B ρ fs v' w'/\kf b B ρ fs G G' m m'):
  ∀{G:Nat->List (Nat × bd)} {vs vs':List (aD U.ar)} {ws:List V} {m m':List (Nat × bC U)},oQ b B ρ fs G m->pH f m vs=some (vs',m')->bT U B ρ fs vs ws->∃dD G',lA b n (m.map (fun e=>G e.1)++F) ws dD (m'.map (fun e=>G' e.1)++F)/\bT U B ρ fs vs' dD/\kf b B ρ fs G G' m m'
 |G,_,_,_,m,m',hm,h,.nil=>by cases h;exact⟨[],G,.nil,.nil,.rfl'⟩
 |G,_,_,_,m,m',hm,h,.cons ad r=>by
  simp only[pH]at h;split at h
  ·cases h
  ·rename_i v' m1 ae
   split at h
   ·cases h
   ·rename_i l m2 ai
    cases h;obtain⟨w',az,av,a2,a3⟩:=af hm ae ad;obtain⟨dD,a7,b1,fB,lK⟩:=w0 af (a3.ok hm) ai r;exact⟨w'::dD,a7,lA.cons av b1,.cons a2 fB,a3.trans lK⟩
theorem Sg (aK:eJ U){B:List Bool}{G:Nat->List (Nat × bd)}{n:Nat}{m:List (Nat × bC U)}{o t:Nat}{x:al (U.ar t)}{w:V}{m0:List (Nat × bd)}{aJ:bC U}(hm:oQ b B ρ fs G m)(hx:aX m o=some aJ)(ho:ρ[o]? =some w)(hr:dS b (U.es t) (U.enc t) w x m0)(h0:G o=m0\/G o=Go.Abs.jy m0):
  jf b (n+1) (m.map (fun e=>G e.1)++F) w (b4 (U.es t) (U.enc t) x) ((gv o (.fz t x) m).map (fun e=>if e.1=o then Go.Abs.jy m0 else G e.1)++F):=by
 obtain⟨k,hk,e⟩:=List.mem_iff_getElem.1 (gD hx);rw[adZ hk (by rw[e]) hm.1];have aY:k<(m.map fun e=>G e.1).length:=by simpa using hk
 rw[<-zP _ _ aY];refine ad0 k ?_ hr h0 (aK.bS t);rw[ft aY,iM,gk hk,e];rfl
theorem w1 (aK:eJ U){B:List Bool}:∀{n:Nat} {G:Nat->List (Nat × bd)} {m m':List (Nat × bC U)} {v v':aD U.ar} {w:V},oQ b B ρ fs G m->jy n m v=some (v',m')->bp U B ρ fs v w->∃w' G',jf b n (m.map (fun e=>G e.1)++F) w w' (m'.map (fun e=>G' e.1)++F)/\bp U B ρ fs v' w'/\kf b B ρ fs G G' m m'
 |0,_,_,_,_,_,_,_,h,_=>by cases h
 |n+1,G,m,m',v,v',w,hm,h,ad=>by
  simp only[jy]at h;split at h
  ·rename_i o
   split at h
   ·rename_i t x hx
    cases h;obtain⟨v0,q1,q2⟩:=hm.2 o _ hx;cases ad with
    |row ho=>
     rw[q1]at ho;cases ho;refine⟨_,fun q=>if q=o then Go.Abs.jy (G o)else G q,Sg aK hm hx q1 q2 (.inl rfl),.sl,pN _ _ _,fun p aJ hp=> ?_⟩;rw[oP];by_cases e:p=o
     ·subst e
      rw[hx]at hp;cases hp;refine .inr ⟨t,x,.inl rfl,by rw[if_pos rfl,hx];rfl,⟨_,_,q1,q2,.inr (by rw[if_pos rfl])⟩,⟨_,_,q1,q2,.inl rfl⟩⟩
     ·exact .inl ⟨by rw[if_neg e];exact hp,by rw[if_neg e]⟩
   ·rename_i t x hx
    cases h;obtain⟨v0,m0,q1,q2,dk⟩:=hm.2 o _ hx;cases ad with
    |row ho=>
     rw[q1]at ho;cases ho;refine⟨_,fun q=>if q=o then Go.Abs.jy m0 else G q,?_,.sl,rfl,fun p aJ hp=> ?_⟩
     ·have:=Sg (F:=F) (n:=n) aK hm hx q1 q2 dk
      have e:∀l:List (Nat × bC U),aX l o=some (.fz t x)->gv o (.fz t x) l=l:=fun l hl=>by
       clear hm hx this
       induction l with
       |nil=>rfl
       |cons p r ih=>
        obtain⟨k,c⟩:=p;simp only[gv];simp only[aX]at hl;split at hl
        ·rename_i e;cases hl;first|rfl|rw[e]
        ·rename_i e;first|rw[e]|skip
         simp only[ih hl]
      rw[e _ hx]at this;exact this
     ·by_cases e:p=o
      ·subst e
       rw[hx]at hp;cases hp;refine .inr ⟨t,x,.inr rfl,hx,⟨_,_,q1,q2,.inr (by rw[if_pos rfl])⟩,⟨_,_,q1,q2,dk⟩⟩
      ·exact .inl ⟨hp,by rw[if_neg e]⟩
   ·cases h
  ·split at h
   ·rename_i l m1 e
    cases h;cases ad with
    |agg ad=>
     obtain⟨dD,G',av,a2,a3⟩:=w0 (w1 aK) hm e ad;exact⟨_,G',adY av,.agg a2,a3⟩
   ·cases h
  ·split at h
   ·rename_i l m1 e
    cases h;cases ad with
    |aR ad=>
     obtain⟨dD,G',av,a2,a3⟩:=w0 (w1 aK) hm e ad;exact⟨_,G',Se av,.aR a2,a3⟩
   ·cases h
  ·cases h;exact⟨w,G,.plain (by cases ad;rfl),ad,.rfl'⟩
  ·cases h;exact⟨w,G,.plain (by cases ad;rfl),ad,.rfl'⟩
  ·cases h;exact⟨w,G,.plain (by cases ad;rfl),ad,.rfl'⟩
  ·cases h;exact⟨w,G,.plain (by cases ad;rfl),ad,.rfl'⟩
  ·cases h;exact⟨w,G,.plain (by cases ad;exact BF _ _ _),ad,.rfl'⟩
  ·split at h
   ·rename_i hp;cases h;exact⟨w,G,.plain (by cases ad;exact hp),ad,.rfl'⟩
   ·cases h
  ·cases h
theorem ad1 (aK:eJ U){B:List Bool}{G:Nat->List (Nat × bd)}{n:Nat}{m:List (Nat × bC U)}{o t:Nat}{x:al (U.ar t)}{w:V}(hm:oQ b B ρ fs G m)(hx:aX m o=some (.row t x))(ad:bp U B ρ fs (.row o) w):
  ∃w',jf b (n+1) (m.map (fun e=>G e.1)++F) w w' ((lF o m).map (fun e=>G e.1)++F)/\bp U B ρ fs (.sl t x) w':=by
 obtain⟨v0,q1,q2⟩:=hm.2 o _ hx;cases ad with
 |row ho=>
  rw[q1]at ho;cases ho;obtain⟨k,bM,dC⟩:=Hm (G:=G) hx;have aY:=(fu.1 bM).1;have:=jf.row (b:=b) (n:=n) (ms:=m.map (fun e=>G e.1)++F) k (by rw[ft aY];exact bM) q2 (aK.bS t);refine⟨_,fun H low hO hb=> ?_,.sl⟩;obtain⟨H1,bm,ae,jS,b1⟩:=this H low hO hb;refine⟨H1,bm,ae,jS.sub ?_,b1⟩;rw[zP _ _ aY];exact(dC _).append (C8 _)
theorem bB.uM (R:bB U b F fs s σ H G ρ):oQ b s.aB ρ fs G s.mem:=⟨R.cI,R.mem⟩
theorem ad2 (aK:eJ U){bc:List Nat}{x:c4 U bc}(h:y2 (U:=U) bc=true):flat (jW bc x)=true:=by
 have key:∀{bc:List Nat} {x:c4 U bc},y2 (U:=U) bc=true->p4 (gn bc x)=true:=by
  intro bc
  induction bc with
  |nil=>intro _ _;rfl
  |cons t r ih=>
   intro x h;simp only[y2]at h;split at h
   ·rename_i e;simp only[gn,p4,aK.aO t _ e,ih h,z1]
   ·cases h
 have:=key (x:=x) h;unfold jW;generalize gn bc x=ws at this
 match ws,this with
 |[],_=>rfl
 |[w],q=>simpa[p4,one]using q
 | _::_::_,q=>exact q
theorem Sh{T:List (eU U)}{i:Nat}{e:eU U}(he:nR T i=some e):e∈T/\e.id=i:=by
 induction T with
 |nil=>cases he
 |cons e' T ih=>
  simp only[nR]at he;split at he
  ·rename_i hb;cases he;exact⟨by simp,dm hb⟩
  ·exact⟨ie _ (ih he).1,(ih he).2⟩
theorem Si{B:List Bool}:∀{bc:List Nat} {x:c4 U bc},k1 B bc []=some x->bc=[]
 |[],_,_=>rfl
 | _::_,_,h=>by cases h
theorem ad3 (aK:eJ U)(aw:jB S)(R:bB U b F fs s σ H G ρ)(hT:mR ab cx)(af:∀j f,nth cx.fv j=some f->∃w,fs[j]? =some w/\kC ab F f.c6 f.rt f.f w)
  {f:aD U.ar} {aC:List (aD U.ar)} {wf:V} {ws:List V} {k:aD U.ar->a1 U->A} (h:S (GR cx s f aC k)) (ad:bp U s.aB ρ fs f wf) (ha:bT U s.aB ρ fs aC ws):
  ∃v ao w dD fb,S (k v ao)/\gN s ao/\bp U ao.aB ρ fs v w/\lA b 16 (cK s G F) ws dD fb/\(∀H,cp ab wf dD H=some (w,H,H.length))/\flat w=true:=by
 unfold GR at h;split at h
 ·rename_i i
  cases ad with
  |fn hn=>
   cases hn;split at h
   ·rename_i e ob m' he aP
    split at h
    ·rename_i c a hc ff mS
     obtain⟨r,nW,h⟩:=aw.bL h;obtain⟨v,ao,h1,h2,aq⟩:=Hi (ρ:=ρ) (fs:=fs) aK h;obtain⟨dD,G',dI,z2,-⟩:=w0 (F:=F) (w1 aK) R.uM aP ha;have Hn:e.caps=[]:=Si hc;obtain⟨pM,hid⟩:=Sh he;have q0:=Cj (F':=[]) mS (wZ aK R hT af ff z2)
     have bh:∀H,cp ab (.fn i [] []) dD H=some (jW e.res r,H,H.length):=fun H=>by
      have:=hT.1 e pM H [] c a [] dD r (by rw[Hn]) (by rw[Hk];exact .nil H) q0 nW;rwa [hid]at this
     split at h1
     ·rename_i hB
      exact⟨v,ao,_,dD,_,h1,h2,aq,dI,bh,ad2 aK hB⟩
     ·split at h1
      ·rename_i t x
       generalize jW e.res r=w at aq bh;cases aq;rcases aw.br h1 with⟨ae,jr⟩|⟨ae,jr⟩
       ·have hx:x=.nil:=by cases x<;>first|rfl|cases ae
        subst hx;exact⟨_,ao,.ak,dD,_,jr,h2,.k,dI,bh,rfl⟩
       ·exact absurd jr aw.bad
      ·exact absurd h1 aw.bad
    ·exact absurd h aw.bad
   ·exact absurd h aw.bad
 ·exact absurd h aw.bad
theorem ad4 (aK:eJ U)(aw:jB S)(R:bB U b F fs s σ H G ρ)(hT:mR ab cx)(af:∀j f,nth cx.fv j=some f->∃w,fs[j]? =some w/\kC ab F f.c6 f.rt f.f w)
  {f:aD U.ar} {aC:List (aD U.ar)} {wf:V} {ws:List V} {k:aD U.ar->a1 U->A} (h:S (GS cx s f aC k)) (ad:bp U s.aB ρ fs f wf) (ha:bT U s.aB ρ fs aC ws):
  ∃v ao w dD m' G',S (k v {ao with mem:=m',bU:=gone m' s.mem++ao.bU})/\gN s ao/\bp U ao.aB ρ fs v w/\lA b 16 (cK s G F) ws dD (m'.map (fun e=>G' e.1)++F)/\(∀H,cp ab wf dD H=some (w,H,H.length))/\kf b s.aB ρ fs G G' s.mem m':=by
 unfold GS at h;split at h
 ·rename_i i
  cases ad with
  |fn hn=>
   cases hn;split at h
   ·rename_i e ob m' he aP
    split at h
    ·rename_i c a hc ff mS
     obtain⟨r,nW,h⟩:=aw.bL h;obtain⟨v,ao,h1,h2,aq⟩:=Hi (ρ:=ρ) (fs:=fs) aK h;obtain⟨dD,G',dI,z2,z3⟩:=w0 (F:=F) (w1 aK) R.uM aP ha;have Hn:e.caps=[]:=Si hc;obtain⟨pM,hid⟩:=Sh he;have q0:=Cj (F':=[]) mS (wZ aK R hT af ff z2)
     have bh:∀H,cp ab (.fn i [] []) dD H=some (jW e.res r,H,H.length):=fun H=>by
      have:=hT.1 e pM H [] c a [] dD r (by rw[Hn]) (by rw[Hk];exact .nil H) q0 nW;rwa [hid]at this
     exact⟨v,ao,_,dD,m',G',h1,h2,aq,dI,bh,z3⟩
    ·exact absurd h aw.bad
   ·exact absurd h aw.bad
 ·exact absurd h aw.bad
end
end Go.Abs.fM
