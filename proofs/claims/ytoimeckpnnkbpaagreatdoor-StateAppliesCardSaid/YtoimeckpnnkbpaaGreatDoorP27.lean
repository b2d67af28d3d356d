/- Texts of this claim, joined and written short by a program. -/
import Derived.Test.YtoimeckpnnkbpaaGreatDoorP26
import Derived.Test.YtoimeckpnnkbpaaGreatDoorP00
set_option linter.unusedVariables false
set_option linter.unusedSimpArgs false
set_option linter.unusedSectionVars false
namespace Go.Abs.gK
open Go Go.Abs
section
variable{J:ib}{b:Nat}{F:cN}{fs:List V}{s s1 s2 cC:bh J}{σ c1:bV}{H H1:Heap}{G ay:Nat->List (Nat × cc)}{ρ jP:List V}{aa:Nat->Option bY}{bR:ni J}{W W':List Nat}{M M':List (Nat × Nat)}
mutual
theorem Ox{B:List Bool}:∀{v w:aJ J.ax} {u:V},same v w=true->bU J B ρ fs v u->bU J B ρ fs w u
 |v,w,u,h,ad=>by
  unfold same at h;split at h
  ·split at h<;>first|exact ad|cases h
  ·split at h
   ·rename_i e;rw[e8 e]at ad;exact ad
   ·rename_i e;rw[e8 e]at ad;exact ad
   ·cases h
  ·split at h
   ·rename_i e
    have e:=of_decide_eq_true e;have e2:=of_decide_eq_true h;subst e;subst e2;exact ad
   ·cases h
  ·rw[uO _ _ h]at ad;exact ad
  ·split at h
   ·rename_i e;rw[e8 e,e8 h]at ad;exact ad
   ·cases h
  ·rw[e8 h]at ad;exact ad
  ·split at h
   ·rename_i e
    cases ad with
    |fn ad=>rw[e8 e];exact .fn (Oy h ad)
   ·cases h
  ·cases ad with
   |agg ad=>exact .agg (Oy h ad)
  ·rw[of_decide_eq_true h]at ad;exact ad
  ·cases h
theorem Oy{B:List Bool}:∀{vs ws:List (aJ J.ax)} {us:List V},y7 vs ws=true->bm J B ρ fs vs us->bm J B ρ fs ws us
 |[],[],_,_,h=>h
 |[],_::_,_,h,_=>by simp[y7]at h
 | _::_,[],_,h,_=>by simp[y7]at h
 |v::vs,w::ws,_,h,.cons ad r=>by
  simp only[y7]at h;split at h
  ·rename_i e;exact .cons (Ox e ad) (Oy h r)
  ·cases h
end
theorem Ja{α:Type}{l l':List α}(h:l <+: l'){i:Nat}{a:α}(hi:l'[i]? =some a)(hl:i<l.length):l[i]? =some a:=by
 obtain⟨t,rfl⟩:=h;rwa [gE hl]at hi
theorem Jb{i n:Nat}(h:Nat.blt i n=true):i<n:=km h
mutual
theorem Jc{B xg:List Bool}(dr:B <+: xg)(aL:ρ <+: jP):∀{v:aJ J.ax} {w:V},wf B.length ρ.length v=true->bU J xg jP fs v w->bU J B ρ fs v w
 | _,_,_,.int=>.int
 | _,_,_,.b0=>.b0
 | _,_,h,.bo q=>.bo (Ja dr q (Jb (by simpa only[wf]using h)))
 | _,_,_,.str=>.str
 | _,_,_,.sl=>.sl
 | _,_,_,.k=>.k
 | _,_,h,.agg q=>.agg (EP dr aL (by simpa only[wf]using h) q)
 | _,_,h,.aU q=>.aU (EP dr aL (by simpa only[wf]using h) q)
 | _,_,h,.dn q=>.dn (EP dr aL (by simpa only[wf]using h) q)
 | _,_,h,.ptr q=>.ptr (Ja aL q (Jb (by simpa only[wf]using h)))
 | _,_,h,.row q=>.row (Ja aL q (Jb (by simpa only[wf]using h)))
 | _,_,h,.iK q=>.iK (Ja aL q (Jb (by simpa only[wf]using h)))
 | _,_,h,.fn q=>.fn (EP dr aL (by simpa only[wf]using h) q)
 | _,_,_,.fv q=>.fv q
 | _,_,_,.kL=>.kL
theorem EP{B xg:List Bool}(dr:B <+: xg)(aL:ρ <+: jP):∀{vs:List (aJ J.ax)} {ws:List V},y8 B.length ρ.length vs=true->bm J xg jP fs vs ws->bm J B ρ fs vs ws
 | _,_,_,.nil=>.nil
 | _,_,h,.cons q r=>by
   simp only[y8]at h;split at h
   ·rename_i e;exact .cons (Jc dr aL e q) (EP dr aL h r)
   ·cases h
end
structure hO (W:List Nat) (M:List (Nat × Nat)) (s s1:bh J):Prop where
 vs:∀t,t∉W->bd s1.vs t=bd s.vs t
 aI:s.aI <+: s1.aI
 aB:s.aB<=s1.aB
 mem:∀o w cs,bd s.mem o=some (.cells w cs)->∃cs',bd s1.mem o=some (.cells w cs')/\cs'.length=cs.length/\∀j:Nat,(o,j)∉M->cs'[j]? =cs[j]?
 row:∀o aP,su aP=false->bd s.mem o=some aP->bd s1.mem o=some aP\/(o,0)∈M
theorem hO.rfl:hO W M s s:=⟨fun _ _=>Eq.refl _,ea,aK _,fun o w cs h=>⟨cs,h,Eq.refl _,fun _ _=>Eq.refl _⟩,fun _ _ _ h=>.inl h⟩
theorem hO.trans (h:hO W M s s1)(k:hO W M s1 s2):hO W M s s2 where
 vs:=fun t ht=>(k.vs t ht).trans (h.vs t ht)
 aI:=h.aI.trans k.aI
 aB:=cV h.aB k.aB
 mem:=fun o w cs hm=>by
  obtain⟨oA,h1,h2,ar⟩:=h.mem o w cs hm;obtain⟨EM,cq,ee,k1⟩:=k.mem o w oA h1;exact⟨EM,cq,ee.trans h2,fun j hj=>(k1 j hj).trans (ar j hj)⟩
 row:=fun o aP hc hm=>(h.row o aP hc hm).elim (k.row o aP hc) .inr
theorem hO.wide (h:hO W M s s1)(hW:∀t∈W,t∈W')(kH:∀p∈M,p∈M'):hO W' M' s s1 where
 vs:=fun t ht=>h.vs t fun q=>ht (hW t q)
 aI:=h.aI
 aB:=h.aB
 mem:=fun o w cs hm=>by
  obtain⟨oA,h1,h2,ar⟩:=h.mem o w cs hm;exact⟨oA,h1,h2,fun j hj=>ar j fun q=>hj (kH _ q)⟩
 row:=fun o aP hc hm=>(h.row o aP hc hm).imp id (kH _)
theorem Fr.gw (h:Fr s s1)(lt:∀e∈s.mem,e.1<s.aB)(hW:∀t∈s1.dw,t∈W)(kH:∀o j,(o,j)∈s1.cB->o<s.aB->(o,j)∈M):hO W M s s1 where
 vs:=fun t ht=>h.vs t fun q=>ht (hW t q)
 aI:=h.aI
 aB:=h.aB
 mem:=fun o w cs hm=>by
  obtain⟨oA,h1,h2,ar⟩:=h.mem o w cs hm;exact⟨oA,h1,h2,fun j hj=>ar j fun q=>hj (kH _ _ q (lt _ (auD hm)))⟩
 row:=fun o aP hc hm=>(h.row o aP hc hm).imp id fun q=>kH _ _ q (lt _ (auD hm))
theorem ER{α:Type}{l:List (Nat × α)}{o:Nat}{c:α}(h:bd l o=some c):o∈l.map Prod.fst:=ey.2 ⟨_,auD h,rfl⟩
theorem Oz:∀{l:List Nat},Ev W l=true->∀t∈l,t∈W
 |[],_,_,h=>by cases h
 |a::l,h,t,ht=>by
  simp only[Ev]at h;split at h
  ·rename_i e
   rcases dA.1 ht with rfl|ht
   ·exact(mem_iff _ _).1 e
   ·exact Oz h t ht
  ·cases h
theorem zm{o j:Nat}:∀{l:List (Nat × Nat)},p5 o j l=true↔(o,j)∈l
 |[]=>by simp[p5]
 |(a,c)::r=>by
  have ih:=zm (o:=o) (j:=j) (l:=r);have ne:∀{x y:Nat},Nat.beq x y=false->¬y=x:=fun h e=>by rw[e,zX]at h;cases h
  unfold p5;rw[dA,bt];cases h1:Nat.beq a o<;>cases h2:Nat.beq c j
  ·simp[ne h1,ih]
  ·simp[ne h1,ih]
  ·simp[ne h2,ih]
  ·simp[e8 h1,e8 h2]
theorem OA{n:Nat}:∀{l:List (Nat × Nat)},Ew n M l=true->∀o j,(o,j)∈l->o<n->(o,j)∈M
 |[],_,_,_,h,_=>by cases h
 |(a,c)::l,h,o,j,hm,hn=>by
  simp only[Ew]at h;split at h
  ·rename_i e
   rcases dA.1 hm with q|hm
   ·cases q
    have:=km e;omega
   ·exact OA h o j hm hn
  ·split at h
   ·rename_i e
    rcases dA.1 hm with q|hm
    ·cases q;exact zm.1 e
    ·exact OA h o j hm hn
   ·cases h
theorem _root_.Go.Abs.Own.pick{H:Heap}{ids l:List Nat}{G:Nat->List (Nat × cc)}{F:cN}(h:Own H (ids.map G++F))(hn:l.Nodup)(hs:∀o∈l,o∈ids):Own H (l.map G++F):=by
 have at_:∀{o:Nat},o∈ids->∃k:Nat,k<ids.length/\ids[k]? =some o/\(ids.map G++F)[k]? =some (G o):=fun {o} ho=>by
  obtain⟨k,cW⟩:=ns.1 ho;have aX:=(pY.1 cW).1;exact⟨k,aX,cW,by rw[gE (by simpa using aX),jy,cW];rfl⟩
 refine⟨fun m hm p hp=> ?_,?_⟩
 ·rcases jA.1 hm with hm|hm
  ·obtain⟨o,ho,rfl⟩:=ey.1 hm
   exact h.1 _ (we _ (sL (hs o ho))) p hp
  ·exact h.1 _ (pk _ hm) p hp
 ·rw[nW,QG]
  refine⟨?_,?_,?_⟩
  ·rw[rB,List.pairwise_map]
   refine List.Pairwise.imp_of_mem ?_ hn;intro i j hi hj cK a ao gv;obtain⟨ake,_,q1,aS⟩:=at_ (hs i hi);obtain⟨Xk,_,b1,cL⟩:=at_ (hs j hj);obtain⟨p,hp,rfl⟩:=ey.1 ao;obtain⟨q,bc,e⟩:=ey.1 gv;exact h.Hv aS cL (fun e=>cK (by rw[e,b1]at q1;cases q1;rfl)) hp bc e.symm
  ·have:=h.2
   rw[nW,QG]at this;exact this.2.1
  ·intro x hx y hy a ao gv
   obtain⟨m,hm,rfl⟩:=ey.1 hx;obtain⟨o,ho,rfl⟩:=ey.1 hm;obtain⟨m',mY,rfl⟩:=ey.1 hy;obtain⟨ake,aX,_,aS⟩:=at_ (hs o ho);obtain⟨Xk,hj⟩:=ns.1 mY;have cL:(ids.map G++F)[ids.length+Xk]? =some m':=by rw[sJ (by simp)];simpa using hj
   obtain⟨p,hp,rfl⟩:=ey.1 ao;obtain⟨q,bc,e⟩:=ey.1 gv;exact h.Hv aS cL (by omega) hp bc e.symm
theorem _root_.Go.Abs.Own.akf{H:Heap}{ids:List Nat}{l:List (Option Nat)}{G:Nat->List (Nat × cc)}{F:cN}(h:Own H (ids.map G++F))(hn:(l.filterMap id).Nodup)(hs:∀o∈l.filterMap id,o∈ids):Own H ((l.map fun x=>x.elim [] G)++F):=by
 have nl:∀{pre X:cN},Own H (pre++X)->Own H (pre++[]::X):=fun {pre X} h=>by
  refine⟨fun m hm p hp=> ?_,?_⟩
  ·rcases jA.1 hm with q|q
   ·exact h.1 m (we _ q) p hp
   ·rcases dA.1 q with rfl|q
    ·cases hp
    ·exact h.1 m (pk _ q) p hp
  ·have:=h.2
   rw[nW,QG]at this;rw[nW,QG,eo,FK];refine⟨this.1,⟨fun _ _ a ao=>by simp at ao,this.2.1⟩,fun x hx y hy a ao=> ?_⟩;rcases dA.1 hy with rfl|hy
   ·simp
   ·exact this.2.2 x hx y hy a ao
 have key:∀(l:List (Option Nat)) (pre:cN),Own H (pre++((l.filterMap id).map G++F))->Own H (pre++((l.map fun x=>x.elim [] G)++F)):=by
  intro l
  induction l with
  |nil=>exact fun _ h=>h
  |cons x l ih=>
   intro pre h;cases x with
   |none=>exact nl (ih pre h)
   |some o=>
    have:=ih (pre++[G o]) (by simpa using h);simpa using this
 exact key l [] (h.pick hn hs)
theorem zn:∀l:List (Nat × ch J),((p7 M l).map Prod.fst).Sublist (l.map Prod.fst)
 |[]=>ru _
 |(o,c)::r=>by
  simp only[p7];split
  ·exact(zn r).cons_cons _
  ·split
   ·exact(zn r).cons _
   ·exact(zn r).cons_cons _
theorem Jd{o:Nat}{w:Bool}{cs:List (aJ J.ax)}:∀{l:List (Nat × ch J)},bd l o=some (.cells w cs)->bd (p7 M l) o=some (.cells w (ra o M 0 cs))
 |(a,c)::r,h=>by
  rw[fm]at h;simp only[p7];split at h
  ·rename_i e
   cases h;subst e;simp only[fm,if_pos]
  ·rename_i e
   split
   ·rw[fm,if_neg e];exact Jd h
   ·split
    ·exact Jd h
    ·rw[fm,if_neg e];exact Jd h
theorem Je{o:Nat}{aP:ch J}(hc:su aP=false)(kH:(o,0)∉M):∀{l:List (Nat × ch J)},bd l o=some aP->bd (p7 M l) o=some aP
 |(a,c)::r,h=>by
  rw[fm]at h;simp only[p7];split at h
  ·rename_i e
   cases h;subst e
   have:p5 a 0 M=false:=by
    cases e:p5 a 0 M with
    |false=>rfl
    |true=>exact absurd (zm.1 e) kH
   cases aP with
   |cells=>cases hc
   | _=>simp only[this,fm,if_pos]
  ·rename_i e
   split
   ·rw[fm,if_neg e];exact Je hc kH h
   ·split
    ·exact Je hc kH h
    ·rw[fm,if_neg e];exact Je hc kH h
theorem zo{o:Nat}{c':ch J}:∀{l:List (Nat × ch J)},(o,c')∈p7 M l->(∃w cs,(o,.cells w cs)∈l/\c'=.cells w (ra o M 0 cs))\/((o,c')∈l/\su c'=false/\(o,0)∉M)
 |(a,c)::r,h=>by
  have up:((∃w cs,(o,.cells w cs)∈r/\c'=.cells w (ra o M 0 cs))\/((o,c')∈r/\su c'=false/\(o,0)∉M))->(∃w cs,(o,.cells w cs)∈(a,c)::r/\c'=.cells w (ra o M 0 cs))\/((o,c')∈(a,c)::r/\su c'=false/\(o,0)∉M):=
   Or.imp (fun⟨w,cs,h1,h2⟩=>⟨w,cs,kQ _ h1,h2⟩) fun⟨h1,h2⟩=>⟨kQ _ h1,h2⟩
  simp only[p7]at h;split at h
  ·rcases dA.1 h with e|h
   ·cases e;exact .inl ⟨_,_,po ..,rfl⟩
   ·exact up (zo h)
  ·rename_i hc
   split at h
   ·exact up (zo h)
   ·rename_i e2
    rcases dA.1 h with e|h
    ·cases e
     refine .inr ⟨po ..,?_,fun q=>by rw[zm.2 q]at e2;cases e2⟩;cases c' with
     |cells w cs=>exact absurd rfl (hc w cs)
     | _=>rfl
    ·exact up (zo h)
theorem Xl{o:Nat}:∀(cs:List (aJ J.ax)) (i:Nat),(ra o M i cs).length=cs.length
 |[],_=>rfl
 |c::r,i=>by simp[ra,Xl r]
theorem Xm{o:Nat}:∀(cs:List (aJ J.ax)) (i j:Nat),(o,i+j)∉M->(ra o M i cs)[j]? =cs[j]?
 |[],_,_,_=>rfl
 |c::r,i,0,h=>by
  have:p5 o i M=false:=by
   cases e:p5 o i M with
   |false=>rfl
   |true=>exact absurd (zm.1 e) h
  simp[ra,this]
 |c::r,i,j+1,h=>by
  simp only[ra,Kh];exact Xm r (i+1) j (by rwa [FJ,pr])
theorem OB{t:Nat}:∀(l:List Nat) (r:List (Nat × aJ J.ax)),bd ((l.map fun t=>(t,aJ.kL))++r) t=if t∈l then some .kL else bd r t
 |[],r=>by simp
 |a::l,r=>by
  rw[eo,jz,fm,OB l r];by_cases e:a=t
  ·subst e;simp
  ·simp[e,kp e]
theorem Xn:hO W M s (blank W M s) where
 vs:=fun t ht=>by unfold blank;simp only;rw[OB,if_neg ht]
 aI:=ea
 aB:=aK _
 mem:=fun o w cs hm=>⟨_,Jd hm,Xl _ _,fun j hj=>Xm _ _ _ (by rwa [eO])⟩
 row:=fun o aP hc hm=>(Decidable.em ((o,0)∈M)).elim .inr fun q=>.inl (Je hc q hm)
theorem Xo{o:Nat}{B xg:List Bool}(dr:B <+: xg)(aL:ρ <+: jP):∀{cs oA:List (aJ J.ax)} {Xp ws:List V} (i:Nat),bm J B ρ fs cs Xp->bm J xg jP fs oA ws->oA.length=cs.length->(∀j:Nat,(o,i+j)∉M->oA[j]? =cs[j]?)->bm J B ρ fs (ra o M i cs) ws
 | _,_,_,_,i,.nil,.nil,_,_=>.nil
 | _,_,_,_,i,.nil,.cons _ _,hl,_=>by cases hl
 | _,_,_,_,i,.cons _ _,.nil,hl,_=>by cases hl
 |c::cs,dq::oA,_,_,i,.cons h r,.cons h1 bA,hl,hj=>by
  refine .cons ?_ (Xo dr aL (i+1) r bA (by simpa using hl) fun j q=>by
   have:=hj (j+1) (by rwa [FJ,pr]at q);simpa using this)
  split
  ·exact .kL
  ·rename_i e
   have:(o,i)∉M:=fun q=>by rw[zm.2 q]at e;cases e
   have:=hj 0 (by rwa [zW]);simp only[rr,az]at this;subst this;exact h.back dr aL h1
theorem Xq (R:b5 J b F fs s σ H G ρ)(bq:b5 J b F fs s1 c1 H1 ay jP)(aL:ρ <+: jP)(gw:hO W M s s1):b5 J b F fs (blank W M s) c1 H1 ay ρ where
 aB:=R.aB
 vs:=fun t v h=>by
  have h:bd ((W.map fun t=>(t,aJ.kL))++s.vs) t=some v:=h;rw[OB]at h;split at h
  ·cases h;exact .kL
  ·rename_i e
   have h1:=h;rw[<-gw.vs t e]at h1;exact(R.vs t v h).back gw.aI aL (bq.vs t v h1)
 own:=by
  have af:∀l:List (Nat × ch J),l.map (fun e=>ay e.1)=(l.map Prod.fst).map ay:=fun l=>by rw[rB];rfl
  have:=bq.own;unfold dT at this⊢;rw[af]at this⊢;refine this.pick (R.dk.sublist (zn _)) fun o ho=> ?_;obtain⟨⟨o',c⟩,he,rfl⟩:=ey.1 ho;rcases zo he with⟨w,cs,h1,-⟩|⟨h1,hc,h2⟩
  ·obtain⟨cs',ar,-⟩:=gw.mem _ _ _ (vH R.dk h1)
   exact ER ar
  ·exact ER ((gw.row _ _ hc (vH R.dk h1)).resolve_right h2)
 dk:=R.dk.sublist (zn _)
 lt:=fun e he=>by
  have:=(zn (M:=M) s.mem).subset (sL (f:=Prod.fst) he);obtain⟨e',h1,h2⟩:=ey.1 this;rw[<-h2];exact R.lt e' h1
 mem:=fun o aP h=>by
  have h:bd (p7 M s.mem) o=some aP:=h;rcases zo (auD h)with⟨w,cs,hm,rfl⟩|⟨hm,hc,kH⟩
  ·have hm:=vH R.dk hm
   obtain⟨oA,h1,h2,ar⟩:=gw.mem o w cs hm;obtain⟨a0,Xp,p1,p2,p3,j6⟩:=R.mem o _ hm;obtain⟨a,ws,q1,aS,b1,cL⟩:=bq.mem o _ h1;have:=nh aL p1;rw[q1]at this;cases this;exact⟨_,ws,p1,aS,Xo gw.aI aL 0 p3 b1 h2 (fun j hj=>ar j (by rwa [eO]at hj)),cL⟩
  ·have hm:=vH R.dk hm
   have h0:=R.mem o _ hm;have h1:=bq.mem o _ ((gw.row o aP hc hm).resolve_right kH);cases aP with
   |cells=>cases hc
   |row t x=>
    obtain⟨v0,p1,p2⟩:=h0;obtain⟨v,q1,aS⟩:=h1;have:=nh aL p1;rw[q1]at this;cases this;exact⟨_,p1,aS⟩
   |mp k w x=>
    obtain⟨v0,p1,p2⟩:=h0;obtain⟨v,q1,aS⟩:=h1;have:=nh aL p1;rw[q1]at this;cases this;exact⟨_,p1,aS⟩
 dv:=R.dv
def OC (σ:bV)(G:Nat->List (Nat × cc)):Loc->V->Prop
 | .s t,w=>w=σ t
 | .m o j,w=>∃a ws,G o=[(a,.cells ws)]/\ws[j]? =some w
theorem zp (R:b5 J b F fs s σ H G ρ){l:Loc}{v:aJ J.ax}(h:at_ s l=some v):∃w,OC σ G l w/\bU J s.aI ρ fs v w:=by
 cases l with
 |s t=>exact⟨_,rfl,R.vs t v h⟩
 |m o j=>
  simp only[at_]at h;split at h
  ·rename_i wr cs hm
   obtain⟨a,ws,q1,aS,b1,cL⟩:=R.mem o _ hm;rw[vx]at h;obtain⟨w,af,e2⟩:=b1.get h;exact⟨w,⟨a,ws,aS,af⟩,e2⟩
  ·cases h
theorem G1{α:Type}{l:List α}{j:Nat}{a:α}(h:l[j]? =some a):l.set j a=l:=by
 apply wg;intro i;by_cases e:j=i
 ·subst e;rw[nU (pY.1 h).1,h]
 ·rw[gm e]
def Xr (s:bh J)(σ:bV)(G:Nat->List (Nat × cc)):Loc->V->Prop
 | .s t,w=>w=σ t
 | .m o j,w=>∀wr cs,bd s.mem o=some (.cells wr cs)->∃a ws,G o=[(a,.cells ws)]/\ws[j]? =some w
theorem BA (R:b5 J b F fs s σ H G ρ){l:Loc}{v:aJ J.ax}{w:V}(hw:Xr s σ G l w)(ad:bU J s.aI ρ fs v w):b5 J b F fs (ki s l v) σ H G ρ:=by
 cases l with
 |s t=>
  cases hw;refine⟨R.aB,fun k u h=> ?_,R.own,R.dk,R.lt,R.mem,R.dv⟩;have h:bd ((t,v)::s.vs) k=some u:=h;rw[fm]at h;split at h
  ·rename_i e;cases h;subst e;exact ad
  ·exact R.vs k u h
 |m o j=>
  simp only[ki];split
  ·rename_i wr cs hm
   obtain⟨a,ws,af,e2⟩:=hw wr cs hm;refine⟨R.aB,R.vs,?_,?_,fun e he=> ?_,fun q aP h=> ?_,R.dv⟩
   ·have:=R.own
    unfold dT at this⊢;have af:∀l:List (Nat × ch J),l.map (fun e=>G e.1)=(l.map Prod.fst).map G:=fun l=>by rw[rB];rfl
    simp only;rw[af,xf,<-af];exact this
   ·simp only[xf];exact R.dk
   ·have:e.1∈(lL o (.cells wr (cs.set j v)) s.mem).map Prod.fst:=sL he
    rw[xf]at this;obtain⟨e',h1,h2⟩:=ey.1 this;rw[<-h2];exact R.lt e' h1
   ·simp only[tG]at h
    split at h
    ·rename_i e;subst e
     rw[hm]at h;cases h;obtain⟨a7,eh,q1,aS,b1,cL⟩:=R.mem q _ hm;rw[aS]at af;cases af;refine⟨_,_,q1,aS,?_,cL⟩;have:=b1.set j ad;rwa [G1 e2]at this
    ·exact R.mem q aP h
  ·exact R
theorem Jf{l:Loc}{v:aJ J.ax}:(ki s l v).aI=s.aI:=by
 cases l with
 |s t=>rfl
 |m o j=>simp only[ki];split<;>rfl
theorem Xt{l:Loc}{v:aJ J.ax}:(ki s l v).mem.map Prod.fst=s.mem.map Prod.fst/\(ki s l v).aB=s.aB:=by
 cases l with
 |s t=>exact⟨rfl,rfl⟩
 |m o j=>simp only[ki];split<;>simp[xf]
theorem akg{l:Loc}{v:aJ J.ax}{q:Nat}{w:Bool}{cs:List (aJ J.ax)}(h:bd (ki s l v).mem q=some (.cells w cs)):∃cs,bd s.mem q=some (.cells w cs):=by
 cases l with
 |s t=>exact⟨_,h⟩
 |m o j=>
  simp only[ki]at h;split at h
  ·rename_i wr cs' hm
   simp only[tG]at h;split at h
   ·rename_i e;subst e;rw[hm]at h⊢; cases h;exact⟨_,rfl⟩
   ·exact⟨_,h⟩
  ·exact⟨_,h⟩
theorem Xu (a1:gC J){c:Nat}{y:J.ax c}{aP:ch J}{v:aJ J.ax}{w:V}(h:IU c v=some y)(ad:bU J [] [] [] v w)(h':rowAt c y=some aP):∃eY n8,aP=.row eY n8/\w=bg (J.es eY) (J.enc eY) n8:=by
 unfold IU at h;split at h
 ·cases h
 ·rename_i hn
  unfold rowAt at h';split at h'
  ·rename_i p hp;rw[hn]at hp;cases hp
  ·split at h'
   ·rename_i eY n8 hs
    cases h';refine⟨eY,n8,rfl,?_⟩;have af:=a1.iu c _ _ _ _ _ y ad h;have e2:=a1.k5 c y [] [] [];rw[ja,hs]at e2;rw[af];generalize J.enc c y=u at e2;cases e2;rfl
   ·cases h'
theorem akh{A B:Type}(h:A=B)(x:B):(h ▸ (h.symm ▸ x:A):B)=x:=by subst h;rfl
theorem aki{c ei ju:Nat}{x:List (J.ax ei × J.ax ju)}{y:J.ax c}(h:NZ c ei ju x=some y):rowAt c y=some (.mp ei ju x):=by
 unfold NZ at h;split at h
 ·cases h
 ·rename_i p hp
  split at h
  ·rename_i e
   subst e;cases h;unfold rowAt;split
   ·rename_i CK oU
    rw[hp]at oU;cases oU;congr 2;exact akh _ _
   ·rename_i hn;rw[hp]at hn;cases hn
  ·cases h
theorem akj{α β:Type}{es bD:Nat}{f:α->V}{lR:β->V}{x:ak α}{eI:ak β}{v:V}{m:List (Nat × cc)}(h:bg es f x=bg bD lR eI)(hr:hf b es f v x m):hf b bD lR v eI m:=by
 unfold hf at hr⊢;cases x with
 |nil=>cases eI<;>cases h;cases hr;exact .nil
 |emp=>cases eI<;>cases h;cases hr;exact .emp
 |mk l=>cases eI with
  |mk l'=>
   simp only[bg,V.list.injEq]at h;obtain⟨rfl,h⟩:=h;simp only[ak.map,h]at hr;exact hr
  |nil=>cases h
  |emp=>cases h
theorem akk{α:Type}{es:Nat}{f:α->V}{x:ak α}{v:aJ J.ax}{w:V}{c:aJ J.ax}(hn:xd v=some c)(ad:bU J [] [] [] c w)(h:w=bg es f x):hf b es f w x []:=by
 unfold xd at hn;split at hn<;>cases hn<;>cases ad<;>cases x<;>cases h<;>first|exact .nil|exact .emp
theorem akl{B:List Bool}{v c:aJ J.ax}{w:V}(hn:xd v=some c)(ad:bU J B ρ fs v w):bU J [] [] [] c w:=by
 unfold xd at hn;split at hn<;>cases hn<;>cases ad<;>exact .k
structure Fit (ay:Nat->List (Nat × cc)) (s1 cC:bh J) (m:Nat) (M:List (Nat × Nat)) (u:List Nat) (f:Nat->Option Nat):Prop where
 ids:∀o∈(cC.mem.map Prod.fst).filterMap f,o∈s1.mem.map Prod.fst
 dk:((cC.mem.map Prod.fst).filterMap f).Nodup
 cells:∀q w cs,bd cC.mem q=some (.cells w cs)->f q=some q
 row:∀o aP,su aP=false->bd s1.mem o=some aP->mem o u=false->(m<=o\/(o,0)∈M)->o∉(cC.mem.map Prod.fst).filterMap f
theorem Fit.ki{m:Nat}{u:List Nat}{f:Nat->Option Nat}(h:Fit ay s1 cC m M u f){B:List Bool}{l:Loc}{v:aJ J.ax}:Fit ay s1 (ki {cC with aI:=B} l v) m M u f:=by
 have e:=(Xt (s:={cC with aI:=B}) (l:=l) (v:=v)).1;refine⟨by rw[e];exact h.ids,by rw[e];exact h.dk,fun q w cs bc=> ?_,by rw[e];exact h.row⟩;obtain⟨cs',h1⟩:=akg bc;exact h.cells q w cs' h1
theorem OD{m:Nat}{u:List Nat}{f:Nat->Option Nat}(h:Fit ay s1 cC m M u f){l:Loc}{w:V}(hw:OC c1 ay l w):Xr cC c1 (fun q=>(f q).elim [] ay) l w:=by
 cases l with
 |s t=>exact hw
 |m o j=>
  intro wr cs hm;show ∃a ws,(f o).elim [] ay=[(a,cc.cells ws)]/\ws[j]? =some w;rw[h.cells o wr cs hm];exact hw
theorem Xv{α β:Type}{f g:α->Option β}:∀{l:List α},(∀a∈l,f a=g a)->l.filterMap f=l.filterMap g
 |[],_=>rfl
 |a::l,h=>by rw[Kl,Kl,h a (po ..),Xv fun b hb=>h b (kQ _ hb)]
theorem Fit.add{m:Nat}{u u':List Nat}{f:Nat->Option Nat}(h:Fit ay s1 cC m M u f)(bq:b5 J b F fs s1 c1 H1 ay jP){sv:List V}(R:b5 J b F fs cC c1 H1 (fun q=>(f q).elim [] ay) sv){aP:ch J}{v:V}{l:Loc}(x:Option Nat)
  (hx:∀o,x=some o->o∈s1.mem.map Prod.fst/\o∉(cC.mem.map Prod.fst).filterMap f/\mem o u'=true) (hu:∀o,mem o u'=false->mem o u=false) (hc:su aP=false) (hr:∀B cy,cy[cC.aB]? =some v->p8 J b B cy fs cC.aB (x.elim [] ay) aP) (hw:OC c1 ay l v):
  ∃lR:Nat->Option Nat,Fit ay s1 (gK.ki (kh cC aP) l (.row cC.aB)) m M u' lR/\b5 J b F fs (gK.ki (kh cC aP) l (.row cC.aB)) c1 H1 (fun q=>(lR q).elim [] ay) (sv++[v]):=by
 refine⟨fun q=>if q=cC.aB then x else f q,?_⟩
 have bf:∀q∈cC.mem.map Prod.fst,¬q=cC.aB:=fun q bc e=>by
  obtain⟨p,hp,e'⟩:=ey.1 bc;exact absurd (R.lt p hp) (by rw[e',e];exact Nat.lt_irrefl _)
 have Bw:(kh cC aP).mem.map Prod.fst=cC.aB::cC.mem.map Prod.fst:=rfl
 have em:(cC.aB::cC.mem.map Prod.fst).filterMap (fun q=>if q=cC.aB then x else f q)=x.toList++(cC.mem.map Prod.fst).filterMap f:=by
  have:(cC.mem.map Prod.fst).filterMap (fun q=>if q=cC.aB then x else f q)=(cC.mem.map Prod.fst).filterMap f:=Xv fun q bc=>if_neg (bf q bc);rw[Kl,if_pos rfl,this];cases x<;>rfl
 have Jg:Fit ay s1 (kh cC aP) m M u' (fun q=>if q=cC.aB then x else f q):=by
  refine⟨?_,?_,fun q w cs bc=> ?_,?_⟩
  ·rw[Bw,em]
   intro o ho;rcases jA.1 ho with q|q
   ·exact(hx o (by simpa using q)).1
   ·exact h.ids o q
  ·rw[Bw,em,FM]
   exact⟨by cases x<;>simp,h.dk,fun a ao c hc e=>by subst e;exact(hx a (by simpa using ao)).2.1 hc⟩
  ·have bc:bd ((cC.aB,aP)::cC.mem) q=some (.cells w cs):=bc
   rw[fm]at bc;split at bc
   ·cases bc;cases hc
   ·rename_i e;rw[if_neg (kp e)];exact h.cells q w cs bc
  ·rw[Bw,em]
   intro o akm h0 h1 h2 ar aQ;rcases jA.1 aQ with q|q
   ·rw[(hx o (by simpa using q)).2.2]at h2;cases h2
   ·exact h.row o akm h0 h1 (hu o h2) ar q
 have AP:(fun q=>if q=cC.aB then x.elim [] ay else(f q).elim [] ay)=fun q=>(if q=cC.aB then x else f q).elim [] ay:=by
  funext q;split<;>rfl
 have aA:Own H1 (x.elim [] ay::dT cC (fun q=>(f q).elim [] ay) F):=by
  have af:∀l:List (Nat × ch J),l.map (fun e=>ay e.1)=(l.map Prod.fst).map ay:=fun l=>by rw[rB];rfl
  have h1:=bq.own;unfold dT at h1⊢;rw[af]at h1
  have h2:=h1.akf (l:=x::(cC.mem.map Prod.fst).map f) (by
   rw[Kl,List.filterMap_map];have:=Jg.dk;rw[Bw,em]at this;cases x<;>exact this) (by
   have:=Jg.ids;rw[Bw,em]at this;rw[Kl,List.filterMap_map];cases x<;>exact this)
  simpa[Function.comp_def]using h2
 have dY:=R.add aA (aP:=aP) (v:=v) (hr _ _ (R.new v));rw[AP]at dY;have gd:=Jg.ki (B:=(kh cC aP).aI) (l:=l) (v:=.row cC.aB);exact⟨gd,BA dY (OD Jg hw) (.row (R.new v))⟩
theorem xh (a1:gC J)(bq:b5 J b F fs s1 c1 H1 ay jP)(aL:ρ <+: jP){B:List Bool}(nS:B <+: s1.aI):∀{sh:mP J} {u:List Nat} {x:dS J (iv sh)} {cC:bh J} {f:Nat->Option Nat} {sv:List V},b5 J b F fs cC c1 H1 (fun q=>(f q).elim [] ay) sv->B <+: cC.aI->ρ <+: sv->Fit ay s1 cC ρ.length M u f->
   nP B.length ρ.length M s1 u sh=some x->∃G' cy,b5 J b F fs (p6 sh x cC) c1 H1 G' cy/\ρ <+: cy
 |[],u,_,cC,f,sv,R,_,qb,_,_=>⟨_,_,R,qb⟩
 |(l,.p t)::r,u,x,cC,f,sv,R,dr,qb,cZ,h=>by
  simp only[nP]at h;split at h
  ·cases h
  ·rename_i v ad
   split at h
   ·cases h
   ·rename_i y hy
    split at h
    ·cases h
    ·rename_i z aT
     cases h;obtain⟨w,aH,bG⟩:=zp bq ad;have:=a1.iu _ _ _ _ _ _ _ bG hy;subst this;simp only[p6,EG,EH];refine xh a1 bq aL nS (BA (R.dQ (I4 _)) (OD (cC:={cC with aI:=cC.aI++J.w8 t y}) ⟨cZ.ids,cZ.dk,cZ.cells,cZ.row⟩ aH) (a1.k5 t y cC.aI sv fs)) ?_ qb cZ.ki aT;rw[Jf];exact dr.trans (hC _ _)
 |(l,.c v)::r,u,x,cC,f,sv,R,dr,qb,cZ,h=>by
  simp only[nP]at h;cases hu:at_ s1 l with
  |none=>rw[hu]at h;cases h
  |some u=>
   rw[hu]at h;cases af:same u v<;>cases e2:wf B.length ρ.length v<;>simp only[af,e2]at h
   ·cases h
   ·cases h
   ·cases h
   ·obtain⟨w,aH,bG⟩:=zp bq hu
    have:=Jc nS aL e2 (Ox af bG);simp only[p6];exact xh a1 bq aL nS (BA R (OD cZ aH) (this.mono dr qb)) (by rw[Jf];exact dr) qb (cZ.ki (B:=cC.aI)) h
 |(_,.d)::r,u,x,cC,f,sv,R,dr,qb,cZ,h=>by
  exact xh (sh:=r) (x:=x) a1 bq aL nS R dr qb cZ (by simp only[nP]at h;exact h)
 |(l,.r c)::r,u,x,cC,f,sv,R,dr,qb,cZ,h=>by
  simp only[nP]at h;split at h
  ·cases h
  ·rename_i v ad
   obtain⟨w,aH,bG⟩:=zp bq ad;split at h
   ·rename_i o
    have key:∀{fk:ch J} {y:J.ax c} {z:dS J (iv r)},bd s1.mem o=some fk->su fk=false->gK.mem o u=false->(match Nat.ble ρ.length o with|true=>true|false=>p5 o 0 M)=true->nP B.length ρ.length M s1 (o::u) r=some z->
      (∀aP,rowAt c y=some aP->su aP=false/\∀B cy,cy[cC.aB]? =some w->p8 J b B cy fs cC.aB (ay o) aP)->∃G' cy,b5 J b F fs (p6 ((l,.r c)::r) (xa (iv r) y z) cC) c1 H1 G' cy/\ρ <+: cy:=by
     intro fk y z hm h0 hu hc aT eM
     have hc:ρ.length<=o\/(o,0)∈M:=by
      split at hc
      ·rename_i e;exact .inl (km e)
      ·exact .inr (zm.1 hc)
     have nw:∀o',gK.mem o' (o::u)=false->gK.mem o' u=false:=fun o' q=>by
      simp only[gK.mem]at q;split at q
      ·cases q
      ·exact q
     simp only[p6,EG,EH];split
     ·rename_i aP CD
      obtain⟨cq,ee⟩:=eM aP CD
      obtain⟨lR,f1,f2⟩:=cZ.add bq R (u':=o::u) (some o) (fun o' e=>by
       cases e;exact⟨ER hm,cZ.row o fk h0 hm hu hc,by simp[gK.mem]⟩) nw cq ee aH
      exact xh a1 bq aL nS f2 (by rw[Jf];exact dr) (qb.trans (hC _ _)) f1 aT
     ·exact xh a1 bq aL nS R dr qb ⟨cZ.ids,cZ.dk,cZ.cells,fun o' aP a0 ai a2 a3=>cZ.row o' aP a0 ai (nw o' a2) a3⟩ aT
    split at h
    ·rename_i t kL hm hu hc
     split at h
     ·cases h
     ·rename_i y hy
      split at h
      ·cases h
      ·rename_i z aT
       cases h;refine key hm rfl hu hc aT fun aP eM=> ?_;obtain⟨eY,n8,rfl,e⟩:=Xu a1 hy .sl eM;obtain⟨v0,q1,aS⟩:=bq.mem o _ hm;cases bG with
       |row ho=>
        rw[q1]at ho;cases ho;exact⟨rfl,fun B cy q=>⟨_,q,akj e aS⟩⟩
    ·rename_i ei ju kL hm hu hc
     split at h
     ·cases h
     ·rename_i y hy
      split at h
      ·cases h
      ·rename_i z aT
       cases h;refine key hm rfl hu hc aT fun aP eM=> ?_;rw[aki hy]at eM;cases eM;obtain⟨a,q1,aS⟩:=bq.mem o _ hm;cases bG with
       |row ho=>
        rw[q1]at ho;cases ho;exact⟨rfl,fun B cy q=>⟨_,q,aS⟩⟩
    ·cases h
   ·split at h
    ·cases h
    ·rename_i atG hn
     split at h
     ·cases h
     ·rename_i y hy
      split at h
      ·cases h
      ·rename_i z aT
       cases h;simp only[p6,EG,EH];have Xw:=akl hn bG;split
       ·rename_i aP CD
        obtain⟨eY,n8,rfl,e⟩:=Xu a1 hy Xw CD;obtain⟨lR,f1,f2⟩:=cZ.add (aP:=.row eY n8) bq R (u':=u) none (fun _ e=>by cases e) (fun _ q=>q) rfl (fun B cy q=>⟨_,q,akk hn Xw e⟩) aH;exact xh a1 bq aL nS f2 (by rw[Jf];exact dr) (qb.trans (hC _ _)) f1 aT
       ·exact xh a1 bq aL nS R dr qb cZ aT
theorem b5.Jh (R:b5 J b F fs s σ H G ρ){dw:List Nat}{cB:List (Nat × Nat)}:b5 J b F fs {s with dv:=[],dw:=dw,cB:=cB} σ H G ρ:=
 ⟨R.aB,R.vs,R.own,R.dk,R.lt,R.mem,fun _ _ h=>by cases h⟩
theorem Ji (a1:gC J)(R:b5 J b F fs s σ H G ρ)(bq:b5 J b F fs s1 c1 H1 ay jP)(aL:ρ <+: jP){sh:mP J}{x:dS J (iv sh)}(gw:hO (fq sh++W) (M++hN sh) s s1)(h:nP s.aI.length s.aB (M++hN sh) s1 [] sh=some x):
  ∃G' cy,b5 J b F fs (enter W M sh x s) c1 H1 G' cy/\ρ <+: cy:=by
 have lB:=Xq R bq aL gw;have e:∀l:List Nat,l.filterMap some=l:=fun l=>List.filterMap_some
 obtain⟨G',cy,bA,b9⟩:=xh a1 bq aL gw.aI (f:=some) (M:=M++hN sh) lB ea ea ⟨by
  rw[e];intro o ho;obtain⟨⟨o',c⟩,he,rfl⟩:=ey.1 ho;rcases zo he with⟨w,cs,h1,-⟩|⟨h1,hc,h2⟩
  ·obtain⟨cs',ar,-⟩:=gw.mem _ _ _ (vH R.dk h1)
   exact ER ar
  ·exact ER ((gw.row _ _ hc (vH R.dk h1)).resolve_right h2),by rw[e];exact lB.dk,fun _ _ _ _=>rfl,by
  rw[e];intro o aP h0 hm _ hc ho;obtain⟨⟨o',c⟩,he,rfl⟩:=ey.1 ho;rcases zo he with⟨w,cs,h1,-⟩|⟨h1,-,h2⟩
  ·obtain⟨cs',ar,-⟩:=gw.mem _ _ _ (vH R.dk h1)
   rw[hm]at ar;cases ar;cases h0
  ·rcases hc with hc|hc
   ·have:=R.lt _ h1
    rw[R.aB]at hc;exact absurd this (Nat.not_lt.2 hc)
   ·exact h2 hc⟩ (by rw[R.aB];exact h)
 exact⟨G',cy,bA.Jh,b9⟩
theorem Jj{l:Loc}{v:aJ J.ax}{B:List Bool}(dr:s.aI <+: B)(hW:∀t,l=.s t->t∈W)(kH:∀o j,l=.m o j->(o,j)∈M):hO W M s (ki {s with aI:=B} l v):=by
 cases l with
 |s t=>
  refine⟨fun k cW=> ?_,dr,aK _,fun o w cs h=>⟨cs,h,rfl,fun _ _=>rfl⟩,fun _ _ _ h=>.inl h⟩;show bd ((t,v)::s.vs) k=_;rw[fm,if_neg];intro e;subst e;exact cW (hW _ rfl)
 |m o j=>
  simp only[ki];split
  ·rename_i wr cs hm
   have hm:bd s.mem o=some (.cells wr cs):=hm;refine⟨fun _ _=>rfl,dr,aK _,fun q w cs' h=> ?_,fun q aP hc h=> ?_⟩
   ·simp only[tG]
    by_cases e:q=o
    ·subst e
     rw[h]at hm;cases hm;refine⟨_,by rw[if_pos rfl,h];rfl,by simp,fun i hi=> ?_⟩;rw[gm];intro e;subst e;exact hi (kH _ _ rfl)
    ·exact⟨cs',by rw[if_neg e];exact h,rfl,fun _ _=>rfl⟩
   ·simp only[tG]
    by_cases e:q=o
    ·subst e;rw[h]at hm;cases hm;cases hc
    ·rw[if_neg e];exact .inl h
  ·exact⟨fun _ _=>rfl,dr,aK _,fun o w cs h=>⟨cs,h,rfl,fun _ _=>rfl⟩,fun _ _ _ h=>.inl h⟩
theorem akn{aP:ch J}(lt:∀e∈s.mem,e.1<s.aB):hO W M s (kh s aP):=by
 have key:∀{o:Nat} {c:ch J},bd s.mem o=some c->bd (kh s aP).mem o=some c:=fun {o c} h=>by
  show bd ((s.aB,aP)::s.mem) o=_;rw[fm,if_neg (Nat.ne_of_gt (lt _ (auD h)))];exact h
 exact⟨fun _ _=>rfl,ea,Ch _,fun o w cs h=>⟨cs,key h,rfl,fun _ _=>rfl⟩,fun _ _ _ h=>.inl (key h)⟩
theorem OE{l:Loc}{v:aJ J.ax}{B:List Bool}(lt:∀e∈s.mem,e.1<s.aB):∀e∈(ki {s with aI:=B} l v).mem,e.1<(ki {s with aI:=B} l v).aB:=fun e he=>by
 have h:=sL (f:=Prod.fst) he;obtain⟨h1,h2⟩:=Xt (s:={s with aI:=B}) (l:=l) (v:=v);rw[h1]at h;rw[h2];obtain⟨e',q1,aS⟩:=ey.1 h;rw[<-aS];exact lt e' q1
theorem BB:∀(sh:mP J) (x:dS J (iv sh)) (s:bh J),(∀e∈s.mem,e.1<s.aB)->(∀t∈fq sh,t∈W)->(∀p∈hN sh,p∈M)->hO W M s (p6 sh x s)
 |[],_,_,_,_,_=>.rfl
 |(l,p)::r,x,s,lt,hW,kH=>by
  have OG:∀t,l=.s t->t∈W:=fun t e=>hW t (by subst e;exact po ..);have ES:∀t∈fq r,t∈W:=fun t h=>hW t (by cases l<;>first|exact kQ _ h|exact h);have OH:∀o j,l=.m o j->(o,j)∈M:=fun o j e=>kH _ (by subst e;exact po ..);have ET:∀q∈hN r,q∈M:=fun q h=>kH q (by cases l<;>first|exact kQ _ h|exact h);cases p with
  |p c=>exact(Jj (hC _ _) OG OH).trans (BB r _ _ (OE lt) ES ET)
  |c v=>exact(Jj (B:=s.aI) ea OG OH).trans (BB r _ _ (OE (B:=s.aI) lt) ES ET)
  |d=>exact BB r _ _ lt ES ET
  |r c=>
   simp only[p6];split
   ·rename_i aP _
    have ako:∀e∈(kh s aP).mem,e.1<(kh s aP).aB:=fun e he=>by
     rcases dA.1 he with rfl|he
     ·exact wh _
     ·exact Cc (lt e he)
    exact(akn lt).trans ((Jj (s:=kh s aP) (B:=s.aI) ea OG OH).trans (BB r _ _ (OE (s:=kh s aP) (B:=s.aI) ako) ES ET))
   ·exact BB r _ _ lt ES ET
theorem Xx (lt:∀e∈s.mem,e.1<s.aB){sh:mP J}{x:dS J (iv sh)}:hO (fq sh++W) (M++hN sh) s (enter W M sh x s):=by
 have h:=(Xn (s:=s) (W:=fq sh++W) (M:=M++hN sh)).trans (BB sh x _ (fun e he=>by
  obtain⟨e',h1,h2⟩:=ey.1 ((zn (M:=M++hN sh) s.mem).subset (sL (f:=Prod.fst) he));rw[<-h2];exact lt e' h1) (fun t ht=>we _ ht) (fun p hp=>pk _ hp))
 exact⟨h.vs,h.aI,h.aB,h.mem,h.row⟩
theorem Xy (lt:∀e∈s.mem,e.1<s.aB){sh:mP J}{x:dS J (iv sh)}:Fr s (enter W M sh x s):=by
 have cB:∀{p},p∈M++hN sh->p∈M++(hN sh++s.cB):=fun q=>by rw[<-mS];exact we _ q
 have gw:=Xx (W:=W) (M:=M) lt (x:=x)
 exact {
  vs:=fun t ht=>gw.vs t fun q=>ht (by
   show t∈fq sh++(W++s.dw);rw[<-mS];exact we _ q)
  dw:=fun t ht=>pk _ (pk _ ht)
  cB:=fun t ht=>pk _ (pk _ ht)
  aI:=gw.aI
  aB:=gw.aB
  mem:=fun o w cs h=>by
   obtain⟨cs',h1,h2,ar⟩:=gw.mem o w cs h;exact⟨cs',h1,h2,fun j hj=>ar j fun q=>hj (cB q)⟩
  row:=fun o aP hc h=>(gw.row o aP hc h).imp id cB}
theorem OI{n m:Nat}{sh:mP J}{y:dS J (iv sh)}(h:Bs n m W M sh s1=some y):(∀t∈s1.dw,t∈W)/\(∀o j,(o,j)∈s1.cB->o<m->(o,j)∈M++hN sh)/\nP n m (M++hN sh) s1 [] sh=some y:=by
 unfold Bs at h;split at h
 ·cases h
 ·rename_i af
  split at h
  ·rename_i e2;exact⟨Oz af,OA e2,h⟩
  ·cases h
theorem Xz{x y:X}(h:IV x y=true):x=y:=by
 cases x<;>cases y<;>simp only[IV]at h<;>first|rfl|cases h|rw[e8 h]
theorem OJ{A:Type}[aM A]{S:A->Prop}{n m:Nat}{x:X}{k:X->bh J->A}:∀{os:xe J} {o:y5 J (y9 os)},za n m W M x s1 os=some o->∃(sh:mP J) (y:dS J (iv sh)),Bs n m W M sh s1=some y/\(S (leave W M s k os o)->S (k x (enter W M sh y s)))
 |[],_,h=>by cases h
 |[(eI,sh)],o,h=>by
  simp only[za]at h;split at h
  ·rename_i e;rw[Xz e];exact⟨sh,o,h,fun q=>q⟩
  ·cases h
 |(eI,sh)::q::r,o,h=>by
  simp only[za]at h;split at h
  ·rename_i e
   split at h
   ·rename_i y hy
    cases h;rw[Xz e];exact⟨sh,y,hy,fun q=>q⟩
   ·cases h
  ·split at h
   ·rename_i y hy
    cases h;obtain⟨akp,n8,h1,h2⟩:=OJ (S:=S) (k:=k) hy;exact⟨akp,n8,h1,h2⟩
   ·cases h
end
end Go.Abs.gK
