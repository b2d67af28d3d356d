/- Texts of this claim, joined and written short by a program. -/
import Derived.Test.YtgkcikhegodchaaGreatDoorS26
import Derived.Test.YtgkcikhegodchaaGreatDoorS00
set_option linter.unusedVariables false
set_option linter.unusedSimpArgs false
set_option linter.unusedSectionVars false
namespace Go.Abs.hq
open Go Go.Abs
section
variable{J:iI}{b:Nat}{F:cy}{fs:List V}{s s1 s2 cJ:bp J}{σ cL:bN}{H H1:Heap}{G ay:Nat->List (Nat × bU)}{ρ gb:List V}{aa:Nat->Option bV}{cx:od J}{W W':List Nat}{M M':List (Nat × Nat)}
mutual
theorem QV{B:List Bool}:∀{v w:aL J.ax} {u:V},same v w=true->bS J B ρ fs v u->bS J B ρ fs w u
 |v,w,u,h,af=>by
  unfold same at h;split at h
  ·split at h<;>first|exact af|cases h
  ·split at h
   ·rename_i e;rw[ey e]at af;exact af
   ·rename_i e;rw[ey e]at af;exact af
   ·cases h
  ·split at h
   ·rename_i e
    have e:=of_decide_eq_true e;have aj:=of_decide_eq_true h;subst e;subst aj;exact af
   ·cases h
  ·rw[vB _ _ h]at af;exact af
  ·split at h
   ·rename_i e;rw[ey e,ey h]at af;exact af
   ·cases h
  ·rw[ey h]at af;exact af
  ·split at h
   ·rename_i e
    cases af with
    |fn af=>rw[ey e];exact .fn (QW h af)
   ·cases h
  ·cases af with
   |agg af=>exact .agg (QW h af)
  ·rw[of_decide_eq_true h]at af;exact af
  ·cases h
theorem QW{B:List Bool}:∀{vs ws:List (aL J.ax)} {us:List V},Aj vs ws=true->bu J B ρ fs vs us->bu J B ρ fs ws us
 |[],[],_,_,h=>h
 |[],_::_,_,h,_=>by simp[Aj]at h
 | _::_,[],_,h,_=>by simp[Aj]at h
 |v::vs,w::ws,_,h,.cons af r=>by
  simp only[Aj]at h;split at h
  ·rename_i e;exact .cons (QV e af) (QW h r)
  ·cases h
end
theorem GD{α:Type}{l fc:List α}(h:l <+: fc){i:Nat}{a:α}(hi:fc[i]? =some a)(hl:i<l.length):l[i]? =some a:=by
 obtain⟨t,rfl⟩:=h;rwa [fB hl]at hi
theorem GF{i n:Nat}(h:Nat.blt i n=true):i<n:=ma h
mutual
theorem K1{B x7:List Bool}(cQ:B <+: x7)(aN:ρ <+: gb):∀{v:aL J.ax} {w:V},wf B.length ρ.length v=true->bS J x7 gb fs v w->bS J B ρ fs v w
 | _,_,_,.int=>.int
 | _,_,_,.cX=>.cX
 | _,_,h,.bo q=>.bo (GD cQ q (GF (by simpa only[wf]using h)))
 | _,_,_,.str=>.str
 | _,_,_,.sl=>.sl
 | _,_,_,.k=>.k
 | _,_,h,.agg q=>.agg (GG cQ aN (by simpa only[wf]using h) q)
 | _,_,h,.aU q=>.aU (GG cQ aN (by simpa only[wf]using h) q)
 | _,_,h,.dH q=>.dH (GG cQ aN (by simpa only[wf]using h) q)
 | _,_,h,.ptr q=>.ptr (GD aN q (GF (by simpa only[wf]using h)))
 | _,_,h,.row q=>.row (GD aN q (GF (by simpa only[wf]using h)))
 | _,_,h,.jq q=>.jq (GD aN q (GF (by simpa only[wf]using h)))
 | _,_,h,.ll q r=>.ll (GD aN q (GF (by simpa only[wf]using h))) r
 | _,_,h,.fn q=>.fn (GG cQ aN (by simpa only[wf]using h) q)
 | _,_,_,.fv q=>.fv q
 | _,_,_,.ln=>.ln
theorem GG{B x7:List Bool}(cQ:B <+: x7)(aN:ρ <+: gb):∀{vs:List (aL J.ax)} {ws:List V},Ak B.length ρ.length vs=true->bu J x7 gb fs vs ws->bu J B ρ fs vs ws
 | _,_,_,.nil=>.nil
 | _,_,h,.cons q r=>by
   simp only[Ak]at h;split at h
   ·rename_i e;exact .cons (K1 cQ aN e q) (GG cQ aN h r)
   ·cases h
end
structure im (W:List Nat) (M:List (Nat × Nat)) (s s1:bp J):Prop where
 vs:∀t,t∉W->bc s1.vs t=bc s.vs t
 aH:s.aH <+: s1.aH
 aB:s.aB<=s1.aB
 mem:∀o w cs,bc s.mem o=some (.cells w cs)->∃cs',bc s1.mem o=some (.cells w cs')/\cs'.length=cs.length/\∀j:Nat,(o,j)∉M->cs'[j]? =cs[j]?
 row:∀o aP,tC aP=false->bc s.mem o=some aP->bc s1.mem o=some aP\/(o,0)∈M
theorem im.rfl:im W M s s:=⟨fun _ _=>Eq.refl _,dS,aF _,fun o w cs h=>⟨cs,h,Eq.refl _,fun _ _=>Eq.refl _⟩,fun _ _ _ h=>.inl h⟩
theorem im.trans (h:im W M s s1)(k:im W M s1 s2):im W M s s2 where
 vs:=fun t ht=>(k.vs t ht).trans (h.vs t ht)
 aH:=h.aH.trans k.aH
 aB:=cM h.aB k.aB
 mem:=fun o w cs hm=>by
  obtain⟨pI,h1,h2,ar⟩:=h.mem o w cs hm;obtain⟨Gz,b6,dI,kf⟩:=k.mem o w pI h1;exact⟨Gz,b6,dI.trans h2,fun j hj=>(kf j hj).trans (ar j hj)⟩
 row:=fun o aP hc hm=>(h.row o aP hc hm).elim (k.row o aP hc) .inr
theorem im.wide (h:im W M s s1)(hW:∀t∈W,t∈W')(kn:∀p∈M,p∈M'):im W' M' s s1 where
 vs:=fun t ht=>h.vs t fun q=>ht (hW t q)
 aH:=h.aH
 aB:=h.aB
 mem:=fun o w cs hm=>by
  obtain⟨pI,h1,h2,ar⟩:=h.mem o w cs hm;exact⟨pI,h1,h2,fun j hj=>ar j fun q=>hj (kn _ q)⟩
 row:=fun o aP hc hm=>(h.row o aP hc hm).imp id (kn _)
theorem Fr.gQ (h:Fr s s1)(lt:∀e∈s.mem,e.1<s.aB)(hW:∀t∈s1.dE,t∈W)(kn:∀o j,(o,j)∈s1.cA->o<s.aB->(o,j)∈M):im W M s s1 where
 vs:=fun t ht=>h.vs t fun q=>ht (hW t q)
 aH:=h.aH
 aB:=h.aB
 mem:=fun o w cs hm=>by
  obtain⟨pI,h1,h2,ar⟩:=h.mem o w cs hm;exact⟨pI,h1,h2,fun j hj=>ar j fun q=>hj (kn _ _ q (lt _ (jr hm)))⟩
 row:=fun o aP hc hm=>(h.row o aP hc hm).imp id fun q=>kn _ _ q (lt _ (jr hm))
theorem GH{α:Type}{l:List (Nat × α)}{o:Nat}{c:α}(h:bc l o=some c):o∈l.map Prod.fst:=dX.2 ⟨_,jr h,rfl⟩
theorem QX:∀{l:List Nat},Gl W l=true->∀t∈l,t∈W
 |[],_,_,h=>by cases h
 |a::l,h,t,ht=>by
  simp only[Gl]at h;split at h
  ·rename_i e
   rcases dp.1 ht with rfl|ht
   ·exact(mem_iff _ _).1 e
   ·exact QX h t ht
  ·cases h
theorem AF{o j:Nat}:∀{l:List (Nat × Nat)},q9 o j l=true↔(o,j)∈l
 |[]=>by simp[q9]
 |(a,c)::r=>by
  have ih:=AF (o:=o) (j:=j) (l:=r);have ne:∀{x y:Nat},Nat.beq x y=false->¬y=x:=fun h e=>by rw[e,yI]at h;cases h
  unfold q9;rw[dp,bq];cases h1:Nat.beq a o<;>cases h2:Nat.beq c j
  ·simp[ne h1,ih]
  ·simp[ne h1,ih]
  ·simp[ne h2,ih]
  ·simp[ey h1,ey h2]
theorem QY{n:Nat}:∀{l:List (Nat × Nat)},Gm n M l=true->∀o j,(o,j)∈l->o<n->(o,j)∈M
 |[],_,_,_,h,_=>by cases h
 |(a,c)::l,h,o,j,hm,hn=>by
  simp only[Gm]at h;split at h
  ·rename_i e
   rcases dp.1 hm with q|hm
   ·cases q
    have:=ma e;omega
   ·exact QY h o j hm hn
  ·split at h
   ·rename_i e
    rcases dp.1 hm with q|hm
    ·cases q;exact AF.1 e
    ·exact QY h o j hm hn
   ·cases h
theorem _root_.Go.Abs.Own.pick{H:Heap}{ids l:List Nat}{G:Nat->List (Nat × bU)}{F:cy}(h:Own H (ids.map G++F))(hn:l.Nodup)(hs:∀o∈l,o∈ids):Own H (l.map G++F):=by
 have at_:∀{o:Nat},o∈ids->∃k:Nat,k<ids.length/\ids[k]? =some o/\(ids.map G++F)[k]? =some (G o):=fun {o} ho=>by
  obtain⟨k,hk⟩:=pL.1 ho;have aK:=(e0.1 hk).1;exact⟨k,aK,hk,by rw[fB (by simpa using aK),h8,hk];rfl⟩
 refine⟨fun m hm p hp=> ?_,?_⟩
 ·rcases jc.1 hm with hm|hm
  ·obtain⟨o,ho,rfl⟩:=dX.1 hm
   exact h.1 _ (w9 _ (rA (hs o ho))) p hp
  ·exact h.1 _ (pM _ hm) p hp
 ·rw[jP,SX]
  refine⟨?_,?_,?_⟩
  ·rw[kR,List.pairwise_map]
   refine List.Pairwise.imp_of_mem ?_ hn;intro i j hi hj cK a ha gJ;obtain⟨apX,_,q1,q2⟩:=at_ (hs i hi);obtain⟨abJ,_,cd,c2⟩:=at_ (hs j hj);obtain⟨p,hp,rfl⟩:=dX.1 ha;obtain⟨q,bg,e⟩:=dX.1 gJ;exact h.Ju q2 c2 (fun e=>cK (by rw[e,cd]at q1;cases q1;rfl)) hp bg e.symm
  ·have:=h.2
   rw[jP,SX]at this;exact this.2.1
  ·intro x hx y hy a ha gJ
   obtain⟨m,hm,rfl⟩:=dX.1 hx;obtain⟨o,ho,rfl⟩:=dX.1 hm;obtain⟨m',jB,rfl⟩:=dX.1 hy;obtain⟨apX,aK,_,q2⟩:=at_ (hs o ho);obtain⟨abJ,hj⟩:=pL.1 jB;have c2:(ids.map G++F)[ids.length+abJ]? =some m':=by rw[u0 (by simp)];simpa using hj
   obtain⟨p,hp,rfl⟩:=dX.1 ha;obtain⟨q,bg,e⟩:=dX.1 gJ;exact h.Ju q2 c2 (by omega) hp bg e.symm
theorem _root_.Go.Abs.Own.apY{H:Heap}{ids:List Nat}{l:List (Option Nat)}{G:Nat->List (Nat × bU)}{F:cy}(h:Own H (ids.map G++F))(hn:(l.filterMap id).Nodup)(hs:∀o∈l.filterMap id,o∈ids):Own H ((l.map fun x=>x.elim [] G)++F):=by
 have nl:∀{pre X:cy},Own H (pre++X)->Own H (pre++[]::X):=fun {pre X} h=>by
  refine⟨fun m hm p hp=> ?_,?_⟩
  ·rcases jc.1 hm with q|q
   ·exact h.1 m (w9 _ q) p hp
   ·rcases dp.1 q with rfl|q
    ·cases hp
    ·exact h.1 m (pM _ q) p hp
  ·have:=h.2
   rw[jP,SX]at this;rw[jP,SX,de,HK];refine⟨this.1,⟨fun _ _ a ha=>by simp at ha,this.2.1⟩,fun x hx y hy a ha=> ?_⟩;rcases dp.1 hy with rfl|hy
   ·simp
   ·exact this.2.2 x hx y hy a ha
 have key:∀(l:List (Option Nat)) (pre:cy),Own H (pre++((l.filterMap id).map G++F))->Own H (pre++((l.map fun x=>x.elim [] G)++F)):=by
  intro l
  induction l with
  |nil=>exact fun _ h=>h
  |cons x l ih=>
   intro pre h;cases x with
   |none=>exact nl (ih pre h)
   |some o=>
    have:=ih (pre++[G o]) (by simpa using h);simpa using this
 exact key l [] (h.pick hn hs)
theorem AG:∀l:List (Nat × b8 J),((rb M l).map Prod.fst).Sublist (l.map Prod.fst)
 |[]=>HN _
 |(o,c)::r=>by
  simp only[rb];split
  ·exact(AG r).cons_cons _
  ·split
   ·exact(AG r).cons _
   ·exact(AG r).cons_cons _
theorem K2{o:Nat}{w:Bool}{cs:List (aL J.ax)}:∀{l:List (Nat × b8 J)},bc l o=some (.cells w cs)->bc (rb M l) o=some (.cells w (sv o M 0 cs))
 |(a,c)::r,h=>by
  rw[fT]at h;simp only[rb];split at h
  ·rename_i e
   cases h;subst e;simp only[fT,if_pos]
  ·rename_i e
   split
   ·rw[fT,if_neg e];exact K2 h
   ·split
    ·exact K2 h
    ·rw[fT,if_neg e];exact K2 h
theorem K3{o:Nat}{aP:b8 J}(hc:tC aP=false)(kn:(o,0)∉M):∀{l:List (Nat × b8 J)},bc l o=some aP->bc (rb M l) o=some aP
 |(a,c)::r,h=>by
  rw[fT]at h;simp only[rb];split at h
  ·rename_i e
   cases h;subst e
   have:q9 a 0 M=false:=by
    cases e:q9 a 0 M with
    |false=>rfl
    |true=>exact absurd (AF.1 e) kn
   cases aP with
   |cells=>cases hc
   | _=>simp only[this,fT,if_pos]
  ·rename_i e
   split
   ·rw[fT,if_neg e];exact K3 hc kn h
   ·split
    ·exact K3 hc kn h
    ·rw[fT,if_neg e];exact K3 hc kn h
theorem AH{o:Nat}{c':b8 J}:∀{l:List (Nat × b8 J)},(o,c')∈rb M l->(∃w cs,(o,.cells w cs)∈l/\c'=.cells w (sv o M 0 cs))\/((o,c')∈l/\tC c'=false/\(o,0)∉M)
 |(a,c)::r,h=>by
  have up:((∃w cs,(o,.cells w cs)∈r/\c'=.cells w (sv o M 0 cs))\/((o,c')∈r/\tC c'=false/\(o,0)∉M))->(∃w cs,(o,.cells w cs)∈(a,c)::r/\c'=.cells w (sv o M 0 cs))\/((o,c')∈(a,c)::r/\tC c'=false/\(o,0)∉M):=
   Or.imp (fun⟨w,cs,h1,h2⟩=>⟨w,cs,kQ _ h1,h2⟩) fun⟨h1,h2⟩=>⟨kQ _ h1,h2⟩
  simp only[rb]at h;split at h
  ·rcases dp.1 h with e|h
   ·cases e;exact .inl ⟨_,_,pO ..,rfl⟩
   ·exact up (AH h)
  ·rename_i hc
   split at h
   ·exact up (AH h)
   ·rename_i aj
    rcases dp.1 h with e|h
    ·cases e
     refine .inr ⟨pO ..,?_,fun q=>by rw[AF.2 q]at aj;cases aj⟩;cases c' with
     |cells w cs=>exact absurd rfl (hc w cs)
     | _=>rfl
    ·exact up (AH h)
theorem abK{o:Nat}:∀(cs:List (aL J.ax)) (i:Nat),(sv o M i cs).length=cs.length
 |[],_=>rfl
 |c::r,i=>by simp[sv,abK r]
theorem abL{o:Nat}:∀(cs:List (aL J.ax)) (i j:Nat),(o,i+j)∉M->(sv o M i cs)[j]? =cs[j]?
 |[],_,_,_=>rfl
 |c::r,i,0,h=>by
  have:q9 o i M=false:=by
   cases e:q9 o i M with
   |false=>rfl
   |true=>exact absurd (AF.1 e) h
  simp[sv,this]
 |c::r,i,j+1,h=>by
  simp only[sv,yy];exact abL r (i+1) j (by rwa [HI,qy])
theorem QZ{t:Nat}:∀(l:List Nat) (r:List (Nat × aL J.ax)),bc ((l.map fun t=>(t,aL.ln))++r) t=if t∈l then some .ln else bc r t
 |[],r=>by simp
 |a::l,r=>by
  rw[de,lN,fT,QZ l r];by_cases e:a=t
  ·subst e;simp
  ·simp[e,kS e]
theorem abM:im W M s (blank W M s) where
 vs:=fun t ht=>by unfold blank;simp only;rw[QZ,if_neg ht]
 aH:=dS
 aB:=aF _
 mem:=fun o w cs hm=>⟨_,K2 hm,abK _ _,fun j hj=>abL _ _ _ (by rwa [dP])⟩
 row:=fun o aP hc hm=>(Decidable.em ((o,0)∈M)).elim .inr fun q=>.inl (K3 hc q hm)
theorem abN{o:Nat}{B x7:List Bool}(cQ:B <+: x7)(aN:ρ <+: gb):∀{cs pI:List (aL J.ax)} {abO ws:List V} (i:Nat),bu J B ρ fs cs abO->bu J x7 gb fs pI ws->pI.length=cs.length->(∀j:Nat,(o,i+j)∉M->pI[j]? =cs[j]?)->bu J B ρ fs (sv o M i cs) ws
 | _,_,_,_,i,.nil,.nil,_,_=>.nil
 | _,_,_,_,i,.nil,.cons _ _,hl,_=>by cases hl
 | _,_,_,_,i,.cons _ _,.nil,hl,_=>by cases hl
 |c::cs,dj::pI,_,_,i,.cons h r,.cons h1 bB,hl,hj=>by
  refine .cons ?_ (abN cQ aN (i+1) r bB (by simpa using hl) fun j q=>by
   have:=hj (j+1) (by rwa [HI,qy]at q);simpa using this)
  split
  ·exact .ln
  ·rename_i e
   have:(o,i)∉M:=fun q=>by rw[AF.2 q]at e;cases e
   have:=hj 0 (by rwa [yH]);simp only[nz,aA]at this;subst this;exact h.back cQ aN h1
theorem abP (R:bW J b F fs s σ H G ρ)(bH:bW J b F fs s1 cL H1 ay gb)(aN:ρ <+: gb)(gQ:im W M s s1):bW J b F fs (blank W M s) cL H1 ay ρ where
 aB:=R.aB
 vs:=fun t v h=>by
  have h:bc ((W.map fun t=>(t,aL.ln))++s.vs) t=some v:=h;rw[QZ]at h;split at h
  ·cases h;exact .ln
  ·rename_i e
   have h1:=h;rw[<-gQ.vs t e]at h1;exact(R.vs t v h).back gQ.aH aN (bH.vs t v h1)
 own:=by
  have ab:∀l:List (Nat × b8 J),l.map (fun e=>ay e.1)=(l.map Prod.fst).map ay:=fun l=>by rw[kR];rfl
  have:=bH.own;unfold dn at this⊢;rw[ab]at this⊢;refine this.pick (R.db.sublist (AG _)) fun o ho=> ?_;obtain⟨⟨o',c⟩,he,rfl⟩:=dX.1 ho;rcases AH he with⟨w,cs,h1,-⟩|⟨h1,hc,h2⟩
  ·obtain⟨cs',ar,-⟩:=gQ.mem _ _ _ (wN R.db h1)
   exact GH ar
  ·exact GH ((gQ.row _ _ hc (wN R.db h1)).resolve_right h2)
 db:=R.db.sublist (AG _)
 lt:=fun e he=>by
  have:=(AG (M:=M) s.mem).subset (rA (f:=Prod.fst) he);obtain⟨e',h1,h2⟩:=dX.1 this;rw[<-h2];exact R.lt e' h1
 mem:=fun o aP h=>by
  have h:bc (rb M s.mem) o=some aP:=h;rcases AH (jr h)with⟨w,cs,hm,rfl⟩|⟨hm,hc,kn⟩
  ·have hm:=wN R.db hm
   obtain⟨pI,h1,h2,ar⟩:=gQ.mem o w cs hm;obtain⟨a0,abO,p1,p2,p3,kj⟩:=R.mem o _ hm;obtain⟨a,ws,q1,q2,cd,c2⟩:=bH.mem o _ h1;have:=lK aN p1;rw[q1]at this;cases this;exact⟨_,ws,p1,q2,abN gQ.aH aN 0 p3 cd h2 (fun j hj=>ar j (by rwa [dP]at hj)),c2⟩
  ·have hm:=wN R.db hm
   have h0:=R.mem o _ hm;have h1:=bH.mem o _ ((gQ.row o aP hc hm).resolve_right kn);cases aP with
   |cells=>cases hc
   |row t x=>
    obtain⟨v0,p1,p2⟩:=h0;obtain⟨v,q1,q2⟩:=h1;have:=lK aN p1;rw[q1]at this;cases this;exact⟨_,p1,q2⟩
   |fz t x=>
    obtain⟨v0,m0,p1,p2⟩:=h0;obtain⟨v,m1,q1,q2⟩:=h1;have:=lK aN p1;rw[q1]at this;cases this;exact⟨_,_,p1,q2⟩
   |mp k w x=>
    obtain⟨v0,p1,p2⟩:=h0;obtain⟨v,q1,q2⟩:=h1;have:=lK aN p1;rw[q1]at this;cases this;exact⟨_,p1,q2⟩
 dK:=R.dK
def Q0 (σ:bN)(G:Nat->List (Nat × bU)):Loc->V->Prop
 | .s t,w=>w=σ t
 | .m o j,w=>∃a ws,G o=[(a,.cells ws)]/\ws[j]? =some w
theorem AJ (R:bW J b F fs s σ H G ρ){l:Loc}{v:aL J.ax}(h:at_ s l=some v):∃w,Q0 σ G l w/\bS J s.aH ρ fs v w:=by
 cases l with
 |s t=>exact⟨_,rfl,R.vs t v h⟩
 |m o j=>
  simp only[at_]at h;split at h
  ·rename_i wr cs hm
   obtain⟨a,ws,q1,q2,cd,c2⟩:=R.mem o _ hm;rw[wC]at h;obtain⟨w,ab,aj⟩:=cd.get h;exact⟨w,⟨a,ws,q2,ab⟩,aj⟩
  ·cases h
theorem I0{α:Type}{l:List α}{j:Nat}{a:α}(h:l[j]? =some a):l.set j a=l:=by
 apply o0;intro i;by_cases e:j=i
 ·subst e;rw[mP (e0.1 h).1,h]
 ·rw[iv e]
def abQ (s:bp J)(σ:bN)(G:Nat->List (Nat × bU)):Loc->V->Prop
 | .s t,w=>w=σ t
 | .m o j,w=>∀wr cs,bc s.mem o=some (.cells wr cs)->∃a ws,G o=[(a,.cells ws)]/\ws[j]? =some w
theorem C5 (R:bW J b F fs s σ H G ρ){l:Loc}{v:aL J.ax}{w:V}(hw:abQ s σ G l w)(af:bS J s.aH ρ fs v w):bW J b F fs (kL s l v) σ H G ρ:=by
 cases l with
 |s t=>
  cases hw;refine⟨R.aB,fun k u h=> ?_,R.own,R.db,R.lt,R.mem,R.dK⟩;have h:bc ((t,v)::s.vs) k=some u:=h;rw[fT]at h;split at h
  ·rename_i e;cases h;subst e;exact af
  ·exact R.vs k u h
 |m o j=>
  simp only[kL];split
  ·rename_i wr cs hm
   obtain⟨a,ws,ab,aj⟩:=hw wr cs hm;refine⟨R.aB,R.vs,?_,?_,fun e he=> ?_,fun q aP h=> ?_,R.dK⟩
   ·have:=R.own
    unfold dn at this⊢;have ab:∀l:List (Nat × b8 J),l.map (fun e=>G e.1)=(l.map Prod.fst).map G:=fun l=>by rw[kR];rfl
    simp only;rw[ab,uN,<-ab];exact this
   ·simp only[uN];exact R.db
   ·have:e.1∈(iX o (.cells wr (cs.set j v)) s.mem).map Prod.fst:=rA he
    rw[uN]at this;obtain⟨e',h1,h2⟩:=dX.1 this;rw[<-h2];exact R.lt e' h1
   ·simp only[tA]at h
    split at h
    ·rename_i e;subst e
     rw[hm]at h;cases h;obtain⟨a8,eK,q1,q2,cd,c2⟩:=R.mem q _ hm;rw[q2]at ab;cases ab;refine⟨_,_,q1,q2,?_,c2⟩;have:=cd.set j af;rwa [I0 aj]at this
    ·exact R.mem q aP h
  ·exact R
theorem K4{l:Loc}{v:aL J.ax}:(kL s l v).aH=s.aH:=by
 cases l with
 |s t=>rfl
 |m o j=>simp only[kL];split<;>rfl
theorem abR{l:Loc}{v:aL J.ax}:(kL s l v).mem.map Prod.fst=s.mem.map Prod.fst/\(kL s l v).aB=s.aB:=by
 cases l with
 |s t=>exact⟨rfl,rfl⟩
 |m o j=>simp only[kL];split<;>simp[uN]
theorem apZ{l:Loc}{v:aL J.ax}{q:Nat}{w:Bool}{cs:List (aL J.ax)}(h:bc (kL s l v).mem q=some (.cells w cs)):∃cs,bc s.mem q=some (.cells w cs):=by
 cases l with
 |s t=>exact⟨_,h⟩
 |m o j=>
  simp only[kL]at h;split at h
  ·rename_i wr cs' hm
   simp only[tA]at h;split at h
   ·rename_i e;subst e;rw[hm]at h⊢; cases h;exact⟨_,rfl⟩
   ·exact⟨_,h⟩
  ·exact⟨_,h⟩
theorem abS (aT:gj J){c:Nat}{y:J.ax c}{aP:b8 J}{v:aL J.ax}{w:V}(h:KJ c v=some y)(af:bS J [] [] [] v w)(h':rowAt c y=some aP):∃ej oy,aP=.row ej oy/\w=bb (J.es ej) (J.enc ej) oy:=by
 unfold KJ at h;split at h
 ·cases h
 ·rename_i hn
  unfold rowAt at h';split at h'
  ·rename_i p hp;rw[hn]at hp;cases hp
  ·split at h'
   ·rename_i ej oy hs
    cases h';refine⟨ej,oy,rfl,?_⟩;have ab:=aT.iJ c _ _ _ _ _ y af h;have aj:=aT.gZ c y [] [] [];rw[mQ,hs]at aj;rw[ab];generalize J.enc c y=u at aj;cases aj;rfl
   ·cases h'
theorem ap0{A B:Type}(h:A=B)(x:B):(h ▸ (h.symm ▸ x:A):B)=x:=by subst h;rfl
theorem ap1{c eB j7:Nat}{x:List (J.ax eB × J.ax j7)}{y:J.ax c}(h:Qu c eB j7 x=some y):rowAt c y=some (.mp eB j7 x):=by
 unfold Qu at h;split at h
 ·cases h
 ·rename_i p hp
  split at h
  ·rename_i e
   subst e;cases h;unfold rowAt;split
   ·rename_i y5 p4
    rw[hp]at p4;cases p4;congr 2;exact ap0 _ _
   ·rename_i hn;rw[hp]at hn;cases hn
  ·cases h
theorem ap2{α β:Type}{es bK:Nat}{f:α->V}{me:β->V}{x:ad α}{fJ:ad β}{v:V}{m:List (Nat × bU)}(h:bb es f x=bb bK me fJ)(hr:ft b es f v x m):ft b bK me v fJ m:=by
 unfold ft at hr⊢;cases x with
 |nil=>cases fJ<;>cases h;cases hr;exact .nil
 |emp=>cases fJ<;>cases h;cases hr;exact .emp
 |mk l=>cases fJ with
  |mk fc=>
   simp only[bb,V.list.injEq]at h;obtain⟨rfl,h⟩:=h;simp only[ad.map,h]at hr;exact hr
  |nil=>cases h
  |emp=>cases h
theorem ap3{α:Type}{es:Nat}{f:α->V}{x:ad α}{v:aL J.ax}{w:V}{c:aL J.ax}(hn:ss v=some c)(af:bS J [] [] [] c w)(h:w=bb es f x):ft b es f w x []:=by
 unfold ss at hn;split at hn<;>cases hn<;>cases af<;>cases x<;>cases h<;>first|exact .nil|exact .emp
theorem ap4{B:List Bool}{v c:aL J.ax}{w:V}(hn:ss v=some c)(af:bS J B ρ fs v w):bS J [] [] [] c w:=by
 unfold ss at hn;split at hn<;>cases hn<;>cases af<;>exact .k
structure Fit (ay:Nat->List (Nat × bU)) (s1 cJ:bp J) (m:Nat) (M:List (Nat × Nat)) (u:List Nat) (f:Nat->Option Nat):Prop where
 ids:∀o∈(cJ.mem.map Prod.fst).filterMap f,o∈s1.mem.map Prod.fst
 db:((cJ.mem.map Prod.fst).filterMap f).Nodup
 cells:∀q w cs,bc cJ.mem q=some (.cells w cs)->f q=some q
 row:∀o aP,tC aP=false->bc s1.mem o=some aP->mem o u=false->(m<=o\/(o,0)∈M)->o∉(cJ.mem.map Prod.fst).filterMap f
theorem Fit.kL{m:Nat}{u:List Nat}{f:Nat->Option Nat}(h:Fit ay s1 cJ m M u f){B:List Bool}{l:Loc}{v:aL J.ax}:Fit ay s1 (kL {cJ with aH:=B} l v) m M u f:=by
 have e:=(abR (s:={cJ with aH:=B}) (l:=l) (v:=v)).1;refine⟨by rw[e];exact h.ids,by rw[e];exact h.db,fun q w cs bg=> ?_,by rw[e];exact h.row⟩;obtain⟨cs',h1⟩:=apZ bg;exact h.cells q w cs' h1
theorem Q1{m:Nat}{u:List Nat}{f:Nat->Option Nat}(h:Fit ay s1 cJ m M u f){l:Loc}{w:V}(hw:Q0 cL ay l w):abQ cJ cL (fun q=>(f q).elim [] ay) l w:=by
 cases l with
 |s t=>exact hw
 |m o j=>
  intro wr cs hm;show ∃a ws,(f o).elim [] ay=[(a,bU.cells ws)]/\ws[j]? =some w;rw[h.cells o wr cs hm];exact hw
theorem abT{α β:Type}{f g:α->Option β}:∀{l:List α},(∀a∈l,f a=g a)->l.filterMap f=l.filterMap g
 |[],_=>rfl
 |a::l,h=>by rw[Bh,Bh,h a (pO ..),abT fun b hb=>h b (kQ _ hb)]
theorem Fit.add{m:Nat}{u u':List Nat}{f:Nat->Option Nat}(h:Fit ay s1 cJ m M u f)(bH:bW J b F fs s1 cL H1 ay gb){tD:List V}(R:bW J b F fs cJ cL H1 (fun q=>(f q).elim [] ay) tD){aP:b8 J}{v:V}{l:Loc}(x:Option Nat)
  (hx:∀o,x=some o->o∈s1.mem.map Prod.fst/\o∉(cJ.mem.map Prod.fst).filterMap f/\mem o u'=true) (hu:∀o,mem o u'=false->mem o u=false) (hc:tC aP=false) (hr:∀B cH,cH[cJ.aB]? =some v->pH J b B cH fs cJ.aB (x.elim [] ay) aP) (hw:Q0 cL ay l v):
  ∃me:Nat->Option Nat,Fit ay s1 (hq.kL (kK cJ aP) l (.row cJ.aB)) m M u' me/\bW J b F fs (hq.kL (kK cJ aP) l (.row cJ.aB)) cL H1 (fun q=>(me q).elim [] ay) (tD++[v]):=by
 refine⟨fun q=>if q=cJ.aB then x else f q,?_⟩
 have aZ:∀q∈cJ.mem.map Prod.fst,¬q=cJ.aB:=fun q bg e=>by
  obtain⟨p,hp,e'⟩:=dX.1 bg;exact absurd (R.lt p hp) (by rw[e',e];exact Nat.lt_irrefl _)
 have C0:(kK cJ aP).mem.map Prod.fst=cJ.aB::cJ.mem.map Prod.fst:=rfl
 have em:(cJ.aB::cJ.mem.map Prod.fst).filterMap (fun q=>if q=cJ.aB then x else f q)=x.toList++(cJ.mem.map Prod.fst).filterMap f:=by
  have:(cJ.mem.map Prod.fst).filterMap (fun q=>if q=cJ.aB then x else f q)=(cJ.mem.map Prod.fst).filterMap f:=abT fun q bg=>if_neg (aZ q bg);rw[Bh,if_pos rfl,this];cases x<;>rfl
 have K5:Fit ay s1 (kK cJ aP) m M u' (fun q=>if q=cJ.aB then x else f q):=by
  refine⟨?_,?_,fun q w cs bg=> ?_,?_⟩
  ·rw[C0,em]
   intro o ho;rcases jc.1 ho with q|q
   ·exact(hx o (by simpa using q)).1
   ·exact h.ids o q
  ·rw[C0,em,tU]
   exact⟨by cases x<;>simp,h.db,fun a ha c hc e=>by subst e;exact(hx a (by simpa using ha)).2.1 hc⟩
  ·have bg:bc ((cJ.aB,aP)::cJ.mem) q=some (.cells w cs):=bg
   rw[fT]at bg;split at bg
   ·cases bg;cases hc
   ·rename_i e;rw[if_neg (kS e)];exact h.cells q w cs bg
  ·rw[C0,em]
   intro o ap5 h0 h1 h2 ar aR;rcases jc.1 aR with q|q
   ·rw[(hx o (by simpa using q)).2.2]at h2;cases h2
   ·exact h.row o ap5 h0 h1 (hu o h2) ar q
 have B8:(fun q=>if q=cJ.aB then x.elim [] ay else(f q).elim [] ay)=fun q=>(if q=cJ.aB then x else f q).elim [] ay:=by
  funext q;split<;>rfl
 have aw:Own H1 (x.elim [] ay::dn cJ (fun q=>(f q).elim [] ay) F):=by
  have ab:∀l:List (Nat × b8 J),l.map (fun e=>ay e.1)=(l.map Prod.fst).map ay:=fun l=>by rw[kR];rfl
  have h1:=bH.own;unfold dn at h1⊢;rw[ab]at h1
  have h2:=h1.apY (l:=x::(cJ.mem.map Prod.fst).map f) (by
   rw[Bh,List.filterMap_map];have:=K5.db;rw[C0,em]at this;cases x<;>exact this) (by
   have:=K5.ids;rw[C0,em]at this;rw[Bh,List.filterMap_map];cases x<;>exact this)
  simpa[Function.comp_def]using h2
 have ep:=R.add aw (aP:=aP) (v:=v) (hr _ _ (R.new v));rw[B8]at ep;have gz:=K5.kL (B:=(kK cJ aP).aH) (l:=l) (v:=.row cJ.aB);exact⟨gz,C5 ep (Q1 K5 hw) (.row (R.new v))⟩
theorem x8 (aT:gj J)(bH:bW J b F fs s1 cL H1 ay gb)(aN:ρ <+: gb){B:List Bool}(oU:B <+: s1.aH):∀{sh:np J} {u:List Nat} {x:ea J (iY sh)} {cJ:bp J} {f:Nat->Option Nat} {tD:List V},bW J b F fs cJ cL H1 (fun q=>(f q).elim [] ay) tD->B <+: cJ.aH->ρ <+: tD->Fit ay s1 cJ ρ.length M u f->
   oS B.length ρ.length M s1 u sh=some x->∃G' cH,bW J b F fs (ra sh x cJ) cL H1 G' cH/\ρ <+: cH
 |[],u,_,cJ,f,tD,R,_,ri,_,_=>⟨_,_,R,ri⟩
 |(l,.p t)::r,u,x,cJ,f,tD,R,cQ,ri,cR,h=>by
  simp only[oS]at h;split at h
  ·cases h
  ·rename_i v af
   split at h
   ·cases h
   ·rename_i y hy
    split at h
    ·cases h
    ·rename_i z aO
     cases h;obtain⟨w,aD,bJ⟩:=AJ bH af;have:=aT.iJ _ _ _ _ _ _ _ bJ hy;subst this;simp only[ra,Gw,Gx];refine x8 aT bH aN oU (C5 (R.ek (KU _)) (Q1 (cJ:={cJ with aH:=cJ.aH++J.xY t y}) ⟨cR.ids,cR.db,cR.cells,cR.row⟩ aD) (aT.gZ t y cJ.aH tD fs)) ?_ ri cR.kL aO;rw[K4];exact cQ.trans (hB _ _)
 |(l,.c v)::r,u,x,cJ,f,tD,R,cQ,ri,cR,h=>by
  simp only[oS]at h;cases hu:at_ s1 l with
  |none=>rw[hu]at h;cases h
  |some u=>
   rw[hu]at h;cases ab:same u v<;>cases aj:wf B.length ρ.length v<;>simp only[ab,aj]at h
   ·cases h
   ·cases h
   ·cases h
   ·obtain⟨w,aD,bJ⟩:=AJ bH hu
    have:=K1 oU aN aj (QV ab bJ);simp only[ra];exact x8 aT bH aN oU (C5 R (Q1 cR aD) (this.mono cQ ri)) (by rw[K4];exact cQ) ri (cR.kL (B:=cJ.aH)) h
 |(_,.d)::r,u,x,cJ,f,tD,R,cQ,ri,cR,h=>by
  exact x8 (sh:=r) (x:=x) aT bH aN oU R cQ ri cR (by simp only[oS]at h;exact h)
 |(l,.r c)::r,u,x,cJ,f,tD,R,cQ,ri,cR,h=>by
  simp only[oS]at h;split at h
  ·cases h
  ·rename_i v af
   obtain⟨w,aD,bJ⟩:=AJ bH af;split at h
   ·rename_i o
    have key:∀{fj:b8 J} {y:J.ax c} {z:ea J (iY r)},bc s1.mem o=some fj->tC fj=false->hq.mem o u=false->(match Nat.ble ρ.length o with|true=>true|false=>q9 o 0 M)=true->oS B.length ρ.length M s1 (o::u) r=some z->
      (∀aP,rowAt c y=some aP->tC aP=false/\∀B cH,cH[cJ.aB]? =some w->pH J b B cH fs cJ.aB (ay o) aP)->∃G' cH,bW J b F fs (ra ((l,.r c)::r) (x0 (iY r) y z) cJ) cL H1 G' cH/\ρ <+: cH:=by
     intro fj y z hm h0 hu hc aO en
     have hc:ρ.length<=o\/(o,0)∈M:=by
      split at hc
      ·rename_i e;exact .inl (ma e)
      ·exact .inr (AF.1 hc)
     have ml:∀o',hq.mem o' (o::u)=false->hq.mem o' u=false:=fun o' q=>by
      simp only[hq.mem]at q;split at q
      ·cases q
      ·exact q
     simp only[ra,Gw,Gx];split
     ·rename_i aP Ee
      obtain⟨b6,dI⟩:=en aP Ee
      obtain⟨me,f1,f2⟩:=cR.add bH R (u':=o::u) (some o) (fun o' e=>by
       cases e;exact⟨GH hm,cR.row o fj h0 hm hu hc,by simp[hq.mem]⟩) ml b6 dI aD
      exact x8 aT bH aN oU f2 (by rw[K4];exact cQ) (ri.trans (hB _ _)) f1 aO
     ·exact x8 aT bH aN oU R cQ ri ⟨cR.ids,cR.db,cR.cells,fun o' aP a0 al a2 a3=>cR.row o' aP a0 al (ml o' a2) a3⟩ aO
    split at h
    ·rename_i t ln hm hu hc
     split at h
     ·cases h
     ·rename_i y hy
      split at h
      ·cases h
      ·rename_i z aO
       cases h;refine key hm rfl hu hc aO fun aP en=> ?_;obtain⟨ej,oy,rfl,e⟩:=abS aT hy .sl en;obtain⟨v0,q1,q2⟩:=bH.mem o _ hm;cases bJ with
       |row ho=>
        rw[q1]at ho;cases ho;exact⟨rfl,fun B cH q=>⟨_,q,ap2 e q2⟩⟩
    ·rename_i eB j7 ln hm hu hc
     split at h
     ·cases h
     ·rename_i y hy
      split at h
      ·cases h
      ·rename_i z aO
       cases h;refine key hm rfl hu hc aO fun aP en=> ?_;rw[ap1 hy]at en;cases en;obtain⟨a,q1,q2⟩:=bH.mem o _ hm;cases bJ with
       |row ho=>
        rw[q1]at ho;cases ho;exact⟨rfl,fun B cH q=>⟨_,q,q2⟩⟩
    ·cases h
   ·split at h
    ·cases h
    ·rename_i aAz hn
     split at h
     ·cases h
     ·rename_i y hy
      split at h
      ·cases h
      ·rename_i z aO
       cases h;simp only[ra,Gw,Gx];have K6:=ap4 hn bJ;split
       ·rename_i aP Ee
        obtain⟨ej,oy,rfl,e⟩:=abS aT hy K6 Ee;obtain⟨me,f1,f2⟩:=cR.add (aP:=.row ej oy) bH R (u':=u) none (fun _ e=>by cases e) (fun _ q=>q) rfl (fun B cH q=>⟨_,q,ap3 hn K6 e⟩) aD;exact x8 aT bH aN oU f2 (by rw[K4];exact cQ) (ri.trans (hB _ _)) f1 aO
       ·exact x8 aT bH aN oU R cQ ri cR aO
theorem bW.K7 (R:bW J b F fs s σ H G ρ){dE:List Nat}{cA:List (Nat × Nat)}:bW J b F fs {s with dK:=[],dE:=dE,cA:=cA} σ H G ρ:=
 ⟨R.aB,R.vs,R.own,R.db,R.lt,R.mem,fun _ _ h=>by cases h⟩
theorem K8 (aT:gj J)(R:bW J b F fs s σ H G ρ)(bH:bW J b F fs s1 cL H1 ay gb)(aN:ρ <+: gb){sh:np J}{x:ea J (iY sh)}(gQ:im (fO sh++W) (M++il sh) s s1)(h:oS s.aH.length s.aB (M++il sh) s1 [] sh=some x):
  ∃G' cH,bW J b F fs (enter W M sh x s) cL H1 G' cH/\ρ <+: cH:=by
 have tl:=abP R bH aN gQ;have e:∀l:List Nat,l.filterMap some=l:=fun l=>List.filterMap_some
 obtain⟨G',cH,bB,b4⟩:=x8 aT bH aN gQ.aH (f:=some) (M:=M++il sh) tl dS dS ⟨by
  rw[e];intro o ho;obtain⟨⟨o',c⟩,he,rfl⟩:=dX.1 ho;rcases AH he with⟨w,cs,h1,-⟩|⟨h1,hc,h2⟩
  ·obtain⟨cs',ar,-⟩:=gQ.mem _ _ _ (wN R.db h1)
   exact GH ar
  ·exact GH ((gQ.row _ _ hc (wN R.db h1)).resolve_right h2),by rw[e];exact tl.db,fun _ _ _ _=>rfl,by
  rw[e];intro o aP h0 hm _ hc ho;obtain⟨⟨o',c⟩,he,rfl⟩:=dX.1 ho;rcases AH he with⟨w,cs,h1,-⟩|⟨h1,-,h2⟩
  ·obtain⟨cs',ar,-⟩:=gQ.mem _ _ _ (wN R.db h1)
   rw[hm]at ar;cases ar;cases h0
  ·rcases hc with hc|hc
   ·have:=R.lt _ h1
    rw[R.aB]at hc;exact absurd this (Nat.not_lt.2 hc)
   ·exact h2 hc⟩ (by rw[R.aB];exact h)
 exact⟨G',cH,bB.K7,b4⟩
theorem K9{l:Loc}{v:aL J.ax}{B:List Bool}(cQ:s.aH <+: B)(hW:∀t,l=.s t->t∈W)(kn:∀o j,l=.m o j->(o,j)∈M):im W M s (kL {s with aH:=B} l v):=by
 cases l with
 |s t=>
  refine⟨fun k hk=> ?_,cQ,aF _,fun o w cs h=>⟨cs,h,rfl,fun _ _=>rfl⟩,fun _ _ _ h=>.inl h⟩;show bc ((t,v)::s.vs) k=_;rw[fT,if_neg];intro e;subst e;exact hk (hW _ rfl)
 |m o j=>
  simp only[kL];split
  ·rename_i wr cs hm
   have hm:bc s.mem o=some (.cells wr cs):=hm;refine⟨fun _ _=>rfl,cQ,aF _,fun q w cs' h=> ?_,fun q aP hc h=> ?_⟩
   ·simp only[tA]
    by_cases e:q=o
    ·subst e
     rw[h]at hm;cases hm;refine⟨_,by rw[if_pos rfl,h];rfl,by simp,fun i hi=> ?_⟩;rw[iv];intro e;subst e;exact hi (kn _ _ rfl)
    ·exact⟨cs',by rw[if_neg e];exact h,rfl,fun _ _=>rfl⟩
   ·simp only[tA]
    by_cases e:q=o
    ·subst e;rw[h]at hm;cases hm;cases hc
    ·rw[if_neg e];exact .inl h
  ·exact⟨fun _ _=>rfl,cQ,aF _,fun o w cs h=>⟨cs,h,rfl,fun _ _=>rfl⟩,fun _ _ _ h=>.inl h⟩
theorem ap6{aP:b8 J}(lt:∀e∈s.mem,e.1<s.aB):im W M s (kK s aP):=by
 have key:∀{o:Nat} {c:b8 J},bc s.mem o=some c->bc (kK s aP).mem o=some c:=fun {o c} h=>by
  show bc ((s.aB,aP)::s.mem) o=_;rw[fT,if_neg (Nat.ne_of_gt (lt _ (jr h)))];exact h
 exact⟨fun _ _=>rfl,dS,DN _,fun o w cs h=>⟨cs,key h,rfl,fun _ _=>rfl⟩,fun _ _ _ h=>.inl (key h)⟩
theorem Q2{l:Loc}{v:aL J.ax}{B:List Bool}(lt:∀e∈s.mem,e.1<s.aB):∀e∈(kL {s with aH:=B} l v).mem,e.1<(kL {s with aH:=B} l v).aB:=fun e he=>by
 have h:=rA (f:=Prod.fst) he;obtain⟨h1,h2⟩:=abR (s:={s with aH:=B}) (l:=l) (v:=v);rw[h1]at h;rw[h2];obtain⟨e',q1,q2⟩:=dX.1 h;rw[<-q2];exact lt e' q1
theorem C6:∀(sh:np J) (x:ea J (iY sh)) (s:bp J),(∀e∈s.mem,e.1<s.aB)->(∀t∈fO sh,t∈W)->(∀p∈il sh,p∈M)->im W M s (ra sh x s)
 |[],_,_,_,_,_=>.rfl
 |(l,p)::r,x,s,lt,hW,kn=>by
  have Q3:∀t,l=.s t->t∈W:=fun t e=>hW t (by subst e;exact pO ..);have GI:∀t∈fO r,t∈W:=fun t h=>hW t (by cases l<;>first|exact kQ _ h|exact h);have Q4:∀o j,l=.m o j->(o,j)∈M:=fun o j e=>kn _ (by subst e;exact pO ..);have GJ:∀q∈il r,q∈M:=fun q h=>kn q (by cases l<;>first|exact kQ _ h|exact h);cases p with
  |p c=>exact(K9 (hB _ _) Q3 Q4).trans (C6 r _ _ (Q2 lt) GI GJ)
  |c v=>exact(K9 (B:=s.aH) dS Q3 Q4).trans (C6 r _ _ (Q2 (B:=s.aH) lt) GI GJ)
  |d=>exact C6 r _ _ lt GI GJ
  |r c=>
   simp only[ra];split
   ·rename_i aP _
    have ap7:∀e∈(kK s aP).mem,e.1<(kK s aP).aB:=fun e he=>by
     rcases dp.1 he with rfl|he
     ·exact yC _
     ·exact Ml (lt e he)
    exact(ap6 lt).trans ((K9 (s:=kK s aP) (B:=s.aH) dS Q3 Q4).trans (C6 r _ _ (Q2 (s:=kK s aP) (B:=s.aH) ap7) GI GJ))
   ·exact C6 r _ _ lt GI GJ
theorem abU (lt:∀e∈s.mem,e.1<s.aB){sh:np J}{x:ea J (iY sh)}:im (fO sh++W) (M++il sh) s (enter W M sh x s):=by
 have h:=(abM (s:=s) (W:=fO sh++W) (M:=M++il sh)).trans (C6 sh x _ (fun e he=>by
  obtain⟨e',h1,h2⟩:=dX.1 ((AG (M:=M++il sh) s.mem).subset (rA (f:=Prod.fst) he));rw[<-h2];exact lt e' h1) (fun t ht=>w9 _ ht) (fun p hp=>pM _ hp))
 exact⟨h.vs,h.aH,h.aB,h.mem,h.row⟩
theorem abV (lt:∀e∈s.mem,e.1<s.aB){sh:np J}{x:ea J (iY sh)}:Fr s (enter W M sh x s):=by
 have cA:∀{p},p∈M++il sh->p∈M++(il sh++s.cA):=fun q=>by rw[<-kr];exact w9 _ q
 have gQ:=abU (W:=W) (M:=M) lt (x:=x)
 exact {
  vs:=fun t ht=>gQ.vs t fun q=>ht (by
   show t∈fO sh++(W++s.dE);rw[<-kr];exact w9 _ q)
  dE:=fun t ht=>pM _ (pM _ ht)
  cA:=fun t ht=>pM _ (pM _ ht)
  aH:=gQ.aH
  aB:=gQ.aB
  mem:=fun o w cs h=>by
   obtain⟨cs',h1,h2,ar⟩:=gQ.mem o w cs h;exact⟨cs',h1,h2,fun j hj=>ar j fun q=>hj (cA q)⟩
  row:=fun o aP hc h=>(gQ.row o aP hc h).imp id cA}
theorem Q5{n m:Nat}{sh:np J}{y:ea J (iY sh)}(h:CV n m W M sh s1=some y):(∀t∈s1.dE,t∈W)/\(∀o j,(o,j)∈s1.cA->o<m->(o,j)∈M++il sh)/\oS n m (M++il sh) s1 [] sh=some y:=by
 unfold CV at h;split at h
 ·cases h
 ·rename_i ab
  split at h
  ·rename_i aj;exact⟨QX ab,QY aj,h⟩
  ·cases h
theorem abW{x y:X}(h:KK x y=true):x=y:=by
 cases x<;>cases y<;>simp only[KK]at h<;>first|rfl|cases h|rw[ey h]
theorem Q6{A:Type}[aG A]{S:A->Prop}{n m:Nat}{x:X}{k:X->bp J->A}:∀{os:x3 J} {o:Ah J (Al os)},Am n m W M x s1 os=some o->∃(sh:np J) (y:ea J (iY sh)),CV n m W M sh s1=some y/\(S (leave W M s k os o)->S (k x (enter W M sh y s)))
 |[],_,h=>by cases h
 |[(fJ,sh)],o,h=>by
  simp only[Am]at h;split at h
  ·rename_i e;rw[abW e];exact⟨sh,o,h,fun q=>q⟩
  ·cases h
 |(fJ,sh)::q::r,o,h=>by
  simp only[Am]at h;split at h
  ·rename_i e
   split at h
   ·rename_i y hy
    cases h;rw[abW e];exact⟨sh,y,hy,fun q=>q⟩
   ·cases h
  ·split at h
   ·rename_i y hy
    cases h;obtain⟨ap8,oy,h1,h2⟩:=Q6 (S:=S) (k:=k) hy;exact⟨ap8,oy,h1,h2⟩
   ·cases h
end
end Go.Abs.hq
