/- Texts of this claim, joined and written short by a program. -/
import Derived.Test.YtgkcikhegodchaaGreatDoorS24
import Derived.Test.YtgkcikhegodchaaGreatDoorS00
set_option linter.unusedVariables false
set_option linter.unusedSimpArgs false
set_option linter.unusedSectionVars false
namespace Go.Abs.hq
open Go Go.Abs
section
variable{J:iI}{b:Nat}{F:cy}{fs:List V}{s ao:bp J}{σ aW:bN}{H:Heap}{G:Nat->List (Nat × bU)}{ρ:List V}{aq:kJ J}{call:cP}{A:Type}[aG A]{S:A->Prop}
def Gv (J:iI)(ρ fs:List V)(s:bp J)(S:A->Prop)(k:aL J.ax->bp J->A)(st:Heap->Option (V × Heap × Nat))(ms:cy):Prop:=
 ∃v ao w,S (k v ao)/\jI s ao/\bS J ao.aH ρ fs v w/\∀H,Own H ms->st H=some (w,H,H.length)
theorem done{v:aL J.ax}{w:V}{k:aL J.ax->bp J->A}{st:Heap->Option (V × Heap × Nat)}{ms:cy}(h:S (k v s))(af:bS J s.aH ρ fs v w)(e:∀H,Own H ms->st H=some (w,H,H.length)):Gv J ρ fs s S k st ms:=⟨v,s,w,h,.rfl,af,e⟩
theorem tx{c neg:Bool}{k:aL J.ax->bp J->A}{st:Heap->Option (V × Heap × Nat)}{ms:cy}(h:S (name s c neg k))(e:∀H,Own H ms->st H=some (.bool (c != neg),H,H.length)):Gv J ρ fs s S k st ms:=by
 obtain⟨v,ao,h1,h2,ar⟩:=abe (ρ:=ρ) (fs:=fs) h;exact⟨v,ao,_,h1,h2,ar,e⟩
theorem QB{ms:cy}(az:l6 S){op:BinOp}{x y:aL J.ax}{wK QC:V}{k:aL J.ax->bp J->A}(h:S (bin s op k x y))(hx:bS J s.aH ρ fs x wK)(hy:bS J s.aH ρ fs y QC):
  Gv J ρ fs s S k (fun H=>(eg op wK QC).map fun v=>(v,H,H.length)) ms:=by
 unfold bin at h;split at h
 ·rename_i bP a Gf c
  cases hx;cases hy;split at h
  ·exact absurd h az.bad
  ·rename_i hk
   have hk:=of_decide_eq_true hk;subst hk;have aZ:¬(bP≠bP):=fun q=>q rfl;split at h
   ·exact done h .int (fun H aw=>by simp[eg])
   ·exact done h .int (fun H aw=>by simp[eg])
   ·exact done h .int (fun H aw=>by simp[eg])
   ·exact tx h (fun H aw=>by simp[eg])
   ·exact tx h (fun H aw=>by simp[eg])
   ·exact tx h (fun H aw=>by simp[eg])
   ·exact tx h (fun H aw=>by simp[eg])
   ·exact tx h (fun H aw=>by simp[eg])
   ·exact tx h (fun H aw=>by simp[eg])
   ·exact done h .int (fun H aw=>by simp[eg])
   ·split at h
    ·obtain⟨q,e,h⟩:=az.ct h
     refine done h .int fun H aw=> ?_;unfold E9 at e;split at e
     ·cases e
     ·rename_i hc;cases e;simp[eg,hc]
    ·exact absurd h az.bad
   ·split at h
    ·obtain⟨q,e,h⟩:=az.ct h
     refine done h .int fun H aw=> ?_;unfold Fa at e;split at e
     ·cases e
     ·rename_i hc;cases e;simp[eg,hc]
    ·exact absurd h az.bad
   ·exact absurd h az.bad
 ·rename_i a c
  cases hx;cases hy;split at h
  ·obtain⟨q,e,h⟩:=az.ct h
   refine done h .str fun H aw=> ?_;unfold ZZ at e;split at e
   ·rename_i hc;cases e;simp only[eg,hc,if_true];rfl
   ·cases e
  ·exact tx h (fun H aw=>by simp[eg])
  ·exact tx h (fun H aw=>by simp[eg])
  ·exact absurd h az.bad
 ·exact absurd h az.bad
theorem apv{ms:cy}(az:l6 S){op:BinOp}{x:aL J.ax}{wK:V}{q6:IntKind}{c:Int}{k:aL J.ax->bp J->A}(h:S (Qk s op k x q6 c))(hx:bS J s.aH ρ fs x wK):
  Gv J ρ fs s S k (fun H=>(eg op wK (.int q6 c)).map fun v=>(v,H,H.length)) ms:=by
 unfold Qk at h;split at h
 ·rename_i bP a
  cases hx;split at h
  ·split at h
   ·rename_i e
    exact done h .int (fun H aw=>by simp only[eg];rw[if_pos (of_decide_eq_true e)];rfl)
   ·exact absurd h az.bad
  ·split at h
   ·rename_i e
    exact done h .int (fun H aw=>by simp only[eg];rw[if_pos (of_decide_eq_true e)];rfl)
   ·exact absurd h az.bad
  ·split at h
   ·rename_i e
    obtain⟨rfl,h0⟩:=of_decide_eq_true e;have:¬c=0:=by omega
    exact done h .int (fun H aw=>by simp[eg,this])
   ·exact absurd h az.bad
  ·split at h
   ·rename_i e
    obtain⟨rfl,h0⟩:=of_decide_eq_true e;have:¬c=0:=by omega
    exact done h .int (fun H aw=>by simp[eg,this])
   ·exact absurd h az.bad
  ·exact QB az h .int .int
 ·exact QB az h hx .int
theorem abf:∀{ks:List Nat} {xs cB:List (aL J.ax)} {vs ws:List V} {e:Bool},uH s ks xs cB=some e->bu J s.aH ρ fs xs vs->bu J s.aH ρ fs cB ws->kx ks vs ws=some e
 |[],_,_,_,_,_,h,.nil,.nil=>by simp only[uH]at h;cases h;rfl
 |[],_,_,_,_,_,h,.cons _ _,.nil=>by simp[uH]at h
 |[],_,_,_,_,_,h,.nil,.cons _ _=>by simp[uH]at h
 |[],_,_,_,_,_,h,.cons _ _,.cons _ _=>by simp[uH]at h
 | _::_,_,_,_,_,_,h,.nil,_=>by simp[uH]at h
 | _::_,_,_,_,_,_,h,.cons _ _,.nil=>by simp[uH]at h
 |n::ks,_,_,_,_,_,h,.cons hx rx,.cons hy apw=>by
  simp only[uH]at h;split at h
  ·cases h
  ·rename_i e he
   have ih:=abf he rx apw;simp only[kx];split at h
   ·cases hx;cases hy
    split at h
    ·rename_i hk
     have hk:=of_decide_eq_true hk;subst hk;cases h;simp[ix,ih]
    ·cases h
   ·cases hx;cases hy
    cases h;simp[ix,ih]
   ·split at h
    ·rename_i a c ha hc
     cases h;rw[CY ha hx,CY hc hy];simp[ix,ih]
    ·cases h
   ·cases h
theorem abg (R:bW J b F fs s σ H G ρ)(bO:∀t v,bc aq t=some v->bS J s.aH ρ fs v (aW t)):∀{ps:List (Nat × Nat × ai)} {z cs:List (aL J.ax)} {QD:List V},Ky z aq s ps=some cs->bu J s.aH ρ fs z QD->
  ∃ws,sJ QD (ps.map fun p=>(p.1,p.2.1,bn aW σ p.2.2))=some ws/\bu J s.aH ρ fs cs ws
 |[],_,_,_,h,aO=>by cases h;exact⟨_,rfl,aO⟩
 |(off,n,x)::r,z,cs,QD,h,aO=>by
  simp only[Ky]at h;split at h
  ·cases h
  ·rename_i v af
   split at h
   ·cases h
   ·rename_i l hl
    split at h
    ·rename_i ab aj bC
     have hw:=Ao hl (cV R bO af);obtain⟨ws,h1,h2⟩:=abg R bO h (KT hw off aO);refine⟨ws,?_,h2⟩;simp only[de,sJ];rw[if_pos ⟨by rw[<-hw.length];exact ey ab,by rw[<-aO.length];exact ma aj,QA bC hw⟩];exact h1
    ·cases h
theorem abh (aT:gj J){t:Nat}{B:List Bool}:∀{vs:List (aL J.ax)} {ws:List V} {l:List (J.ax t)},KA t B vs=some l->bu J B ρ fs vs ws->ws=l.map (J.enc t)
 | _,_,_,h,.nil=>by cases h;rfl
 | _,_,_,h,.cons af r=>by
   simp only[KA]at h;split at h
   ·cases h
   ·rename_i x e
    split at h
    ·cases h
    ·rename_i l aj
     cases h;rw[aT.iJ _ _ _ _ _ _ _ af e,abh aT aj r];rfl
theorem abj:∀{n:Nat} {ps:List (Nat × ai)},Kz n ps=true->ps.map Prod.fst=List.range' n ps.length
 | _,[],_=>rfl
 |n,p::r,h=>by
  simp only[Kz]at h;split at h
  ·rename_i e
   simp only[de,fl,qw,ey e,abj h]
  ·cases h
theorem abk{α:Type}{b es:Nat}{f:α->V}{y q:ad α}{v:V}{m:List (Nat × bU)}{ms:cy}{ag:ai->V}{call:cP}{x:ai}{lo hi:Option ai}{a c:Int}(k:Nat)(hk:ms[k]? =some m)(hr:ft b es f v y m)(hs:lZ y a c=some q)(ha:wg ag lo 0 a)(hc:wg ag hi y.len c)(h:ag x=v):
  ∃w,Ag v a.toNat c.toNat w/\∀H,Own H ms->b3 call ag H H.length (.sI es x lo hi none)=some (w,H,H.length):=by
 have da:e9 b es v (y.map f) m:=hr;cases y with
 |nil=>
  simp only[lZ]at hs;split at hs
  ·rename_i q;obtain⟨rfl,rfl⟩:=q
   cases da;refine⟨.bX,.nil,fun H aw=> ?_⟩;rw[Cm];simp only[step,h];rw[ha.eq (n:=0) rfl (yJ _),hc.eq (n:=0) rfl (yJ _)];rfl
  ·cases hs
 |emp=>
  simp only[lZ]at hs;split at hs
  ·rename_i q;obtain⟨rfl,rfl⟩:=q
   cases da;refine⟨.emp,.emp,fun H aw=> ?_⟩;rw[Cm];simp only[step,h];rw[ha.eq (n:=0) rfl (yJ _),hc.eq (n:=0) rfl (yJ _)];rfl
  ·cases hs
 |mk l=>
  simp only[lZ]at hs;split at hs
  ·rename_i q;obtain⟨q1,q2,cd⟩:=q
   have vV:e9 b es v (.mk (l.map f)) m:=da;cases vV with
   |row p _ aZ hb=>
    have ab:=ha.eq (n:=0) rfl q1;have aj:=hc.eq (n:=(l.map f).length) (by simp[ad.len,ad.l]) (by omega);have hle:a.toNat<=c.toNat/\c.toNat<=(l.map f).length:=⟨by omega,by simp;omega⟩;by_cases aK:a.toNat<c.toNat
    ·refine⟨_,.row p es _ _ _ aK,fun H aw=> ?_⟩
     have a6:=aw.get k hk;rw[Cm];simp only[step,h,ab,aj,a6];rw[if_pos ⟨hle.1,hle.2,trivial⟩,if_pos ⟨trivial,trivial⟩,if_pos aK,dP]
    ·have he:a.toNat=c.toNat:=by omega
     rw[he];refine⟨_,.aa2 p es _ _,fun H aw=> ?_⟩;have a6:=aw.get k hk;rw[Cm];simp only[step,h,ab,aj,a6];rw[if_pos ⟨hle.1,hle.2,trivial⟩,if_pos ⟨trivial,trivial⟩,if_neg aK]
  ·cases hs
theorem apx{α:Type}{b es:Nat}{f:α->V}{y:ad α}{v:V}{m:List (Nat × bU)}{ms:cy}{H:Heap}(k:Nat)(hk:ms[k]? =some m)(aw:Own H ms)(hr:ft b es f v y m):Go.Abs.elems H es v=some (y.l.map f):=by
 have da:e9 b es v (y.map f) m:=hr;cases y with
 |nil=>cases da;rfl
 |emp=>cases da;rfl
 |mk l=>
  have vV:e9 b es v (.mk (l.map f)) m:=da;cases vV with
  |row p _ aZ hb=>
   have a6:=aw.get k hk;simp only[Go.Abs.elems,a6];rw[if_pos ⟨trivial,trivial,trivial,by omega⟩,HT,DJ];rfl
theorem abl{α:Type}{b es:Nat}{f:α->V}{y q:ad α}{v w:V}{m:List (Nat × bU)}{ms:cy}{H:Heap}{a c:Int}(k:Nat)(hk:ms[k]? =some m)(aw:Own H ms)(hr:ft b es f v y m)(hs:lZ y a c=some q)(af:Ag v a.toNat c.toNat w):Go.Abs.elems H es w=some (q.l.map f):=by
 have da:e9 b es v (y.map f) m:=hr;cases y with
 |nil=>
  simp only[lZ]at hs;split at hs
  ·rename_i q;obtain⟨rfl,rfl⟩:=q
   cases hs;cases da;cases af;rfl
  ·cases hs
 |emp=>
  simp only[lZ]at hs;split at hs
  ·rename_i q;obtain⟨rfl,rfl⟩:=q
   cases hs;cases da;cases af;rfl
  ·cases hs
 |mk l=>
  simp only[lZ]at hs;split at hs
  ·rename_i q;obtain⟨q1,q2,cd⟩:=q
   cases hs;have vV:e9 b es v (.mk (l.map f)) m:=da;have hle:c.toNat<=(l.map f).length:=by simp;omega
   cases vV with
   |row p _ aZ hb=>
    have a6:=aw.get k hk;show _=some (((l.take c.toNat).drop a.toNat).map f);rw[List.map_drop,List.map_take];generalize a.toNat=a8 at af;generalize c.toNat=c' at af hle;cases af with
    |row _ _ _ _ _ aK=>
     simp only[Go.Abs.elems,a6];rw[if_pos ⟨trivial,trivial,trivial,by omega⟩,List.drop_take]
    |aa2=>
     simp only[Go.Abs.elems,if_true];rw[Mc (by simp;omega)]
  ·cases hs
theorem l7{e:ai->V}{x:Option ai}{o:Option (Option (aL J.ax))}{d n:Int}(hx:x.map (ag aq s)=o)(R:bW J b F fs s σ H G ρ)(bO:∀t v,bc aq t=some v->bS J s.aH ρ fs v (aW t))(ho:(o=none/\n=d)\/o=some (some (.int .i64 n))):wg (bn aW σ) x d n:=by
 rcases ho with⟨rfl,rfl⟩|rfl
 ·cases x
  ·exact .inl ⟨rfl,rfl⟩
  ·cases hx
 ·cases x
  ·cases hx
  ·rename_i o
   refine .inr ⟨o,rfl,?_⟩;simp only[o1,aA]at hx;have:=cV R bO hx;generalize bn aW σ o=w at this;cases this;rfl
theorem _root_.Go.Abs.e9.ca{α:Type}{es:Nat}{f:α->V}{x:ad α}{e:α}{n:Int}{v:V}{m:List (Nat × bU)}(hr:ft b es f v x m)(h:bj x.l n=some e):∃l N,v=.ca l es 0 N N:=by
 unfold ft at hr;cases x with
 |mk l=>
  cases hr with
  |row q ds hd hb=>exact⟨_,_,rfl⟩
 | _=>
   unfold bj at h;split at h<;>simp[ad.l]at h
theorem _root_.Go.Abs.e9.abm{s:ad V}{l es e N:Nat}{m:List (Nat × bU)}(hr:e9 b e (.ca l es 0 N N) s m):es=e:=by cases hr;rfl
theorem apy{α:Type}{es l N k:Nat}{f:α->V}{x:ad α}{n:Int}{bP:IntKind}{e:α}{m:List (Nat × bU)}{ms:cy}{ag:ai->V}{a i:ai}(he:bj x.l n=some e)(aw:Own H ms)(hk:ms[k]? =some m)(hr:ft b es f (.ca l es 0 N N) x m)(hx:ag a=.ca l es 0 N N)(hi:ag i=.int bP n):
  b3 call ag H H.length (.indexAddr es a i)=some (.gW l es n.toNat 0 N,H,H.length):=by
 obtain⟨rfl,rfl,-,-⟩:=hr.at rfl;unfold bj at he;split at he
 ·rename_i hn
  have aK:=(e0.1 he).1;show step ag H H.length (.indexAddr es a i)=_;simp only[step,hi,ku,hn,if_true,hx,aw.get k hk];rw[if_pos ⟨trivial,trivial,trivial,by simpa using aK,by simp⟩];simp
 ·cases he
theorem QE (aT:gj J){k n:Nat}(h:kindOf (J:=J) k n=true)(a c:J.ax k):ix n (J.enc k a) (J.enc k c)=some (@BEq.beq _ ⟨J.beq k⟩ a c):=by
 unfold kindOf at h;split at h
 ·rename_i m e;rw[ey h]at e;exact aT.aa3 k n e a c
 ·cases h
set_option maxHeartbeats 1000000 in
theorem x4{B:List Bool}{v:aL J.ax}{w c:V}(h:ss v=some (.k c))(af:bS J B ρ fs v w):w=c:=by
 unfold ss at h;split at h<;>first|(cases h;cases af;rfl)|cases h
theorem QF (aT:gj J)(az:l6 S)(R:bW J b F fs s σ H G ρ)(bO:∀t v,bc aq t=some v->bS J s.aH ρ fs v (aW t)){ty:Option Nat}{op:cN}{k:aL J.ax->bp J->A}(h:S (Gg aq s ty k op)):
  Gv J ρ fs s S k (fun H=>b3 call (bn aW σ) H H.length op) (dn s G F):=by
 unfold Gg at h;split at h
 case h_1 x=>
  split at h
  ·rename_i v af;exact done h (cV R bO af) fun _ _=>rfl
  ·exact absurd h az.bad
 case h_2 c a d=>
  split at h
  ·rename_i v af
   obtain⟨β,ao,ab,aj,bC,cu⟩:=CX az h R.dK (cV R bO af);have oE:=R.ek aj;have abn:∀t v,bc aq t=some v->bS J ao.aH ρ fs v (aW t):=fun t v q=>by rw[bC];exact bO t v q
   rcases cu with⟨rfl,h⟩|⟨rfl,h⟩
   ·split at h
    ·rename_i v af;exact⟨_,ao,_,h,aj,cV oE abn af,fun H aw=>by simp only[pt,ab];rfl⟩
    ·exact absurd h az.bad
   ·split at h
    ·rename_i v af;exact⟨_,ao,_,h,aj,cV oE abn af,fun H aw=>by simp only[pt,ab];rfl⟩
    ·exact absurd h az.bad
  ·exact absurd h az.bad
 case h_3 z ps=>
  split at h
  ·rename_i cs hc
   obtain⟨ws,h1,h2⟩:=abg R bO hc (Gt z);exact done h (.agg h2) (fun H aw=>amq h1)
  ·exact absurd h az.bad
 case h_4 es z len ps ju=>
  split at h
  ·rename_i t
   split at h
   ·exact absurd h az.bad
   ·rename_i vs cW
    split at h
    ·rename_i l ab aj bC cu
     have mA:=wJ R bO cW;have hl:=abh aT ab mA;have hlen:vs.length=len:=ey bC;have eM:J.es t=es:=ey cu;have zG:(ps.map fun p=>bn aW σ p.2)=l.map (J.enc t):=by rw[<-hl,kR];rfl
     have wL:(l.map (J.enc t)).length=len:=by rw[<-hl,<-mA.length];exact hlen
     have nG:ps.length=len:=by rw[<-wL,<-zG,ef]
     split at h
     ·refine done h .sl fun H aw=> ?_
      have:len=0:=by rw[<-wL];rfl
      subst this;cases ps
      ·exact amt rfl
      ·cases nG
     ·rename_i aZ
      refine done h .sl fun H aw=> ?_;rw[show bb (J.es t) (J.enc t) (.mk l)=.list es (l.map (J.enc t)) by rw[<-eM];rfl];refine ams zG (by rw[wL,<-nG];exact abj aj) wL ?_ (tq (aT.bx t) l) ?_
      ·refine eq_false fun q=> ?_
       rw[q]at wL;rw[ef]at wL;exact aZ (List.eq_nil_of_length_eq_zero wL)
      ·intro v af
       obtain⟨x,-,rfl⟩:=dX.1 af;exact⟨by rw[aT.es,eM],aT.ok t x⟩
    ·exact absurd h az.bad
  ·exact absurd h az.bad
 case h_5 sh x=>
  split at h
  ·rename_i cs f hx
   split at h
   ·rename_i v hc
    have af:=cV R bO hx;generalize hw:bn aW σ x=w at af;cases af with
    |dH af=>
     obtain⟨u,h1,h2⟩:=Gu hc af;exact done h h2 (fun H aw=>by rw[nY,hw];simp[jR,h1])
   ·exact absurd h az.bad
  ·rename_i o f hx
   split at h
   ·rename_i wr cs hm
    split at h
    ·rename_i v hc
     have af:=cV R bO hx;generalize hw:bn aW σ x=w at af;cases af with
     |ptr ho=>
      obtain⟨a,ws,q1,q2,cd,c2,-⟩:=R.cells hm;rw[q1]at ho;cases ho;obtain⟨u,h1,h2⟩:=Gu hc c2;exact done h h2 (fun H aw=>by rw[nY,hw];simp[jR,cd H aw,h1])
    ·exact absurd h az.bad
   ·exact absurd h az.bad
  ·rename_i o n f hx
   split at h
   ·rename_i t a hm
    obtain⟨e,he,h⟩:=az.ct h;obtain⟨v,ao,h1,h2,ar⟩:=Ap (ρ:=ρ) (fs:=fs) aT h;split at h1
    ·rename_i cs hc
     split at h1
     ·rename_i u hu
      have af:=cV R bO hx;generalize hw:bn aW σ x=w at af;cases af with
      |jq ho=>
       obtain⟨v0,q1,q2⟩:=R.mem o _ hm;obtain⟨k,hk,-⟩:=R.at hm;rw[q1]at ho;cases ho;have:=q2.abm;subst this;obtain⟨u',jV,mW⟩:=Gu hu (Ao hc ar);exact⟨_,ao,_,h1,h2,mW,fun H aw=>amz k he aw hk q2 rfl jV hw⟩
     ·exact absurd h1 az.bad
    ·exact absurd h1 az.bad
   ·exact absurd h az.bad
  ·exact absurd h az.bad
 case h_6 x=>
  split at h
  ·rename_i o f hx
   have af:=cV R bO hx;generalize hw:bn aW σ x=w at af;cases af with
   |ptr ho=>exact done h (.ptr ho) (fun H aw=>by simp[b3,step,hw])
  ·rename_i o f hx
   have af:=cV R bO hx;generalize hw:bn aW σ x=w at af;cases af with
   |dH ho=>exact done h (.dH ho) (fun H aw=>by simp[b3,step,hw])
  ·rename_i o f hx
   have af:=cV R bO hx;generalize hw:bn aW σ x=w at af;cases af with
   |fn ho=>exact done h (.fn ho) (fun H aw=>by simp[b3,step,hw])
  ·rename_i o n f hx
   have af:=cV R bO hx;generalize hw:bn aW σ x=w at af;cases af with
   |jq ho=>exact done h (.jq ho) (fun H aw=>by simp[b3,step,hw])
  ·exact absurd h az.bad
 case h_7 op x q6 c=>
  split at h
  ·rename_i v af
   simp only[nf];exact apv az h (cV R bO af)
  ·exact absurd h az.bad
 case h_8 op x y _=>
  split at h
  ·rename_i v w af hw
   simp only[nf];exact QB az h (cV R bO af) (cV R bO hw)
  ·exact absurd h az.bad
 case h_9 neg ks x y=>
  split at h
  ·rename_i a c ha hc
   split at h
   ·rename_i e he
    have dt:=cV R bO ha;have lp:=cV R bO hc;generalize fa:bn aW σ x=wa at dt;generalize nq:bn aW σ y=Aq at lp;cases dt with
    |agg dt=>cases lp with
     |agg lp=>
      refine tx h fun H aw=> ?_;simp only[b3,step,fa,nq,abf he dt lp];cases neg<;>simp
   ·exact absurd h az.bad
  ·exact absurd h az.bad
 case h_10 kind neg x y=>
  split at h
  ·rename_i v w af hw
   have dt:=cV R bO af;have lp:=cV R bO hw;generalize fa:bn aW σ x=wa at dt;generalize nq:bn aW σ y=Aq at lp;split at h
   ·rename_i t a
    cases dt;cases lp;refine tx h fun H aw=> ?_;rw[qV,fa,nq];cases a<;>cases neg<;>rfl
   ·split at h
    ·rename_i a c ha hc
     refine tx h fun H aw=> ?_;rw[qV,fa,nq,CY ha dt,CY hc lp];cases neg<;>simp[qD]
    ·exact absurd h az.bad
   ·exact absurd h az.bad
  ·exact absurd h az.bad
 case h_11 op x=>
  split at h
  ·rename_i c hx
   have af:=cV R bO hx;generalize hw:bn aW σ x=w at af;cases af;exact done h .cX (fun H aw=>by rw[qh,hw];rfl)
  ·rename_i i neg hx
   have af:=cV R bO hx;generalize hw:bn aW σ x=w at af;cases af with
   |bo hb=>exact done h (.bo hb) (fun H aw=>by rw[qh,hw];rename_i ug;cases neg<;>cases ug<;>rfl)
  ·rename_i bP n hx
   have af:=cV R bO hx;generalize hw:bn aW σ x=w at af;cases af;exact done h .int (fun H aw=>by rw[qh,hw];rfl)
  ·exact absurd h az.bad
 case h_12 bP x=>
  split at h
  ·rename_i n hx
   have af:=cV R bO hx;generalize hw:bn aW σ x=w at af;cases af;exact done h .int (fun H aw=>by simp[b3,step,hw])
  ·exact absurd h az.bad
 case h_13 m x y=>
  split at h
  ·rename_i bP a Gf c hx hy
   have dt:=cV R bO hx;have lp:=cV R bO hy;generalize fa:bn aW σ x=wa at dt;generalize nq:bn aW σ y=Aq at lp;cases dt;cases lp;split at h
   ·rename_i e
    have e:=of_decide_eq_true e;subst e;split at h
    ·exact done h .int (fun H aw=>by rw[V9];simp[step,fa,nq])
    ·exact done h .int (fun H aw=>by rw[V9];simp[step,fa,nq])
   ·exact absurd h az.bad
  ·exact absurd h az.bad
 case h_14 i cs=>
  split at h
  ·rename_i vs cW
   exact done h (.fn (wJ R bO cW)) (fun H aw=>by rw[O3];rfl)
  ·exact absurd h az.bad
 case h_15 off x=>
  split at h
  ·rename_i o f hx
   have af:=cV R bO hx;generalize hw:bn aW σ x=w at af;cases af with
   |ptr ho=>exact done h (.ptr ho) (fun H aw=>by rw[nZ,hw])
  ·rename_i o f hx
   have af:=cV R bO hx;generalize hw:bn aW σ x=w at af;cases af with
   |dH ho=>exact done h (.dH ho) (fun H aw=>by rw[nZ,hw])
  ·rename_i o n f hx
   have af:=cV R bO hx;generalize hw:bn aW σ x=w at af;cases af with
   |jq ho=>exact done h (.jq ho) (fun H aw=>by rw[nZ,hw])
  ·exact absurd h az.bad
 case h_16 off sh x=>
  split at h
  ·rename_i cs hx
   split at h
   ·rename_i v hc
    have af:=cV R bO hx;generalize hw:bn aW σ x=w at af;cases af with
    |agg ho=>
     obtain⟨u,h1,h2⟩:=Gu hc ho;exact done h h2 (fun H aw=>by rw[ajH,hw];simp[h1])
   ·exact absurd h az.bad
  ·exact absurd h az.bad
 case h_17 x i=>
  split at h
  ·rename_i vs hx
   split at h
   ·rename_i v hc
    have af:=cV R bO hx;generalize hw:bn aW σ x=w at af;cases af with
    |aU ho=>
     rw[wC]at hc;obtain⟨u,h1,h2⟩:=ho.get hc;exact done h h2 (fun H aw=>by rw[sa,hw];simp[h1])
   ·exact absurd h az.bad
  ·exact absurd h az.bad
 case h_18 kind x=>
  split at h
  ·rename_i a hx
   have af:=cV R bO hx;generalize hw:bn aW σ x=w at af;cases af;exact done h .int (fun H aw=>by simp[b3,step,hw])
  ·rename_i t a hx
   have af:=cV R bO hx;generalize hw:bn aW σ x=w at af;cases af;exact done h .int (fun H aw=>we hw _)
  ·rename_i o hx
   split at h
   ·rename_i t a hm
    have af:=cV R bO hx;generalize hw:bn aW σ x=w at af;cases af with
    |row ho=>
     obtain⟨v0,q1,q2⟩:=R.mem o _ hm;obtain⟨k,hk,-⟩:=R.at hm;rw[q1]at ho;cases ho;exact done h .int (fun H aw=>amx aw k hk q2 hw)
   ·exact absurd h az.bad
  ·rename_i o hx
   split at h
   ·rename_i eB j7 m hm
    have af:=cV R bO hx;generalize hw:bn aW σ x=w at af;cases af with
    |row ho=>
     obtain⟨a,q1,q2,-⟩:=R.mem o _ hm;obtain⟨k,hk,-⟩:=R.at hm;rw[q1]at ho;cases ho;exact done h .int (fun H aw=>aac (aw.get k (by rw[hk,q2])) hw)
   ·exact absurd h az.bad
  ·rename_i hx
   have af:=cV R bO hx;generalize hw:bn aW σ x=w at af;cases af;exact done h .int (fun H aw=>by simp[b3,step,hw])
  ·rename_i hx
   have af:=cV R bO hx;generalize hw:bn aW σ x=w at af;cases af;exact done h .int (fun H aw=>by simp[b3,step,hw])
  ·exact absurd h az.bad
 case h_19 es x i=>
  split at h
  ·rename_i t a bP n hx hi
   have dt:=cV R bO hx;have lp:=cV R bO hi;generalize fa:bn aW σ x=wa at dt;generalize nq:bn aW σ i=Aq at lp;cases dt;cases lp;split at h
   ·rename_i e
    have e:=ey e;subst e;obtain⟨y,hy,h⟩:=az.ct h;obtain⟨v,ao,h1,h2,ar⟩:=Ap (ρ:=ρ) (fs:=fs) aT h;split at h1
    ·rename_i cs hc
     exact⟨_,ao,_,h1,h2,.dH (Ao hc ar),fun H aw=>zN fa nq hy _⟩
    ·exact absurd h1 az.bad
   ·exact absurd h az.bad
  ·rename_i o bP n hx hi
   split at h
   ·rename_i t a hm
    split at h
    ·rename_i e
     have e:=ey e;subst e;obtain⟨y,hy,h⟩:=az.ct h;have dt:=cV R bO hx;have lp:=cV R bO hi;generalize fa:bn aW σ x=wa at dt;generalize nq:bn aW σ i=Aq at lp;cases lp;cases dt with
     |row ho=>
      obtain⟨v0,q1,q2⟩:=R.mem o _ hm;obtain⟨k,hk,-⟩:=R.at hm;rw[q1]at ho;cases ho;obtain⟨l,N,rfl⟩:=q2.ca hy;exact done h (.jq q1) (fun H aw=>apy hy aw hk q2 fa nq)
    ·exact absurd h az.bad
   ·exact absurd h az.bad
  ·exact absurd h az.bad
 case h_20 x i=>
  split at h
  ·rename_i a bP n hx hi
   have dt:=cV R bO hx;have lp:=cV R bO hi;generalize fa:bn aW σ x=wa at dt;generalize nq:bn aW σ i=Aq at lp;cases dt;cases lp;obtain⟨y,hy,h⟩:=az.ct h;exact done h .int (fun H aw=>amp fa nq hy _)
  ·exact absurd h az.bad
 case h_21 x lo hi=>
  split at h
  ·rename_i a hx
   have dt:=cV R bO hx;generalize fa:bn aW σ x=wa at dt;cases dt;split at h
   ·rename_i ab aj
    obtain⟨y,hy,h⟩:=az.ct h;exact done h .str (fun H aw=>Jw hy (l7 (e:=bn aW σ) ab R bO (.inl ⟨rfl,rfl⟩)) (l7 (e:=bn aW σ) aj R bO (.inl ⟨rfl,rfl⟩)) fa)
   ·rename_i ab aj
    obtain⟨y,hy,h⟩:=az.ct h;exact done h .str (fun H aw=>Jw hy (l7 (e:=bn aW σ) ab R bO (.inr rfl)) (l7 (e:=bn aW σ) aj R bO (.inl ⟨rfl,rfl⟩)) fa)
   ·rename_i ab aj
    obtain⟨y,hy,h⟩:=az.ct h;exact done h .str (fun H aw=>Jw hy (l7 (e:=bn aW σ) ab R bO (.inl ⟨rfl,rfl⟩)) (l7 (e:=bn aW σ) aj R bO (.inr rfl)) fa)
   ·rename_i ab aj
    obtain⟨y,hy,h⟩:=az.ct h;exact done h .str (fun H aw=>Jw hy (l7 (e:=bn aW σ) ab R bO (.inr rfl)) (l7 (e:=bn aW σ) aj R bO (.inr rfl)) fa)
   ·exact absurd h az.bad
  ·exact absurd h az.bad
 case h_22 kind z x i ok=>
  split at h
  ·rename_i o v hx hi
   split at h
   ·rename_i eB j7 m hm
    split at h
    ·rename_i key cv ab aj bC
     have dt:=cV R bO hx;have lp:=cV R bO hi;generalize fa:bn aW σ x=wa at dt;cases dt with
     |row ho=>
      obtain⟨a,q1,q2,-⟩:=R.mem o _ hm;obtain⟨k,hk,-⟩:=R.at hm;rw[q1]at ho;cases ho;have abo:=aT.iJ _ _ _ _ _ _ _ lp ab;have aO:=aT.iJ _ _ _ ρ fs _ _ (KS z) aj;have a6:∀H,Own H (dn s G F)->H[a]? =some (.map (gC (J.enc eB) (J.enc j7) m)):=fun H aw=>aw.get k (by rw[hk,q2]);split at h
      ·obtain⟨v,ao,h1,h2,ar⟩:=Ap (ρ:=ρ) (fs:=fs) aT h
       exact⟨v,ao,_,h1,h2,ar,fun H aw=>@aab H _ _ _ _ ⟨J.beq eB⟩ _ _ _ _ _ _ _ _ _ (QE aT bC) cv aO (a6 H aw) fa abo⟩
      ·obtain⟨v,ao,h1,h2,ar⟩:=Ap (ρ:=ρ) (fs:=fs) aT h
       obtain⟨bv,s2,aR,h5,eo⟩:=abe (ρ:=ρ) (fs:=fs) h1;refine⟨_,s2,_,aR,h2.trans h5,.aU (.cons (ar.mono h5.aH dS) (.cons eo .nil)),fun H aw=> ?_⟩;have:=@amw H call (bn aW σ) _ _ ⟨J.beq eB⟩ _ _ _ _ _ _ _ _ _ (QE aT bC) cv aO (a6 H aw) fa abo;show b3 call (bn aW σ) H H.length (.lookup kind z x i true)=_;rw[this];simp[KB]
    ·exact absurd h az.bad
   ·exact absurd h az.bad
  ·exact absurd h az.bad
 case h_23 es x lo hi=>
  split at h
  ·rename_i o hx
   have dt:=cV R bO hx;generalize fa:bn aW σ x=wa at dt;split at h
   ·rename_i t a hm
    split at h
    ·rename_i e
     have e:=ey e;subst e;cases dt with
     |row ho=>
      obtain⟨v0,q1,q2⟩:=R.mem o _ hm;rw[q1]at ho;cases ho;obtain⟨k,hk,-⟩:=R.at hm;split at h
      ·rename_i ab aj
       obtain⟨y,hy,h⟩:=az.ct h;obtain⟨w,hw,b7⟩:=abk (ms:=dn s G F) (call:=call) k hk q2 hy (l7 (e:=bn aW σ) ab R bO (.inr rfl)) (l7 (e:=bn aW σ) aj R bO (.inl ⟨rfl,rfl⟩)) fa;exact done h (.ll q1 hw) b7
      ·rename_i ab aj
       obtain⟨y,hy,h⟩:=az.ct h;obtain⟨w,hw,b7⟩:=abk (ms:=dn s G F) (call:=call) k hk q2 hy (l7 (e:=bn aW σ) ab R bO (.inl ⟨rfl,rfl⟩)) (l7 (e:=bn aW σ) aj R bO (.inr rfl)) fa;exact done h (.ll q1 hw) b7
      ·exact absurd h az.bad
    ·exact absurd h az.bad
   ·exact absurd h az.bad
  ·rename_i t a hx
   have dt:=cV R bO hx;generalize fa:bn aW σ x=wa at dt;cases dt;split at h
   ·rename_i e
    have e:=ey e;subst e;split at h
    ·rename_i ab aj
     obtain⟨y,hy,h⟩:=az.ct h;exact done h .sl (fun H aw=>Jv hy (l7 (e:=bn aW σ) ab R bO (.inl ⟨rfl,rfl⟩)) (l7 (e:=bn aW σ) aj R bO (.inl ⟨rfl,rfl⟩)) fa)
    ·rename_i ab aj
     obtain⟨y,hy,h⟩:=az.ct h;exact done h .sl (fun H aw=>Jv hy (l7 (e:=bn aW σ) ab R bO (.inr rfl)) (l7 (e:=bn aW σ) aj R bO (.inl ⟨rfl,rfl⟩)) fa)
    ·rename_i ab aj
     obtain⟨y,hy,h⟩:=az.ct h;exact done h .sl (fun H aw=>Jv hy (l7 (e:=bn aW σ) ab R bO (.inl ⟨rfl,rfl⟩)) (l7 (e:=bn aW σ) aj R bO (.inr rfl)) fa)
    ·rename_i ab aj
     obtain⟨y,hy,h⟩:=az.ct h;exact done h .sl (fun H aw=>Jv hy (l7 (e:=bn aW σ) ab R bO (.inr rfl)) (l7 (e:=bn aW σ) aj R bO (.inr rfl)) fa)
    ·exact absurd h az.bad
   ·exact absurd h az.bad
  ·exact absurd h az.bad
 case h_24 es bytes a c=>
  split at h
  ·rename_i x t y ha hc
   have wM:=cV R bO hc;generalize nq:bn aW σ c=Aq at wM;cases wM;split at h
   ·rename_i ab aj
    obtain⟨z,aO,h⟩:=az.ct h;have ab:=ey ab;subst ab;exact done h .sl fun H aw=>aa0 aO (.inl rfl) (x4 aj (cV R bO ha)) nq (aT.bx t) (aT.ok t)
   ·rename_i ab aj
    obtain⟨z,aO,h⟩:=az.ct h;have ab:=ey ab;subst ab;exact done h .sl fun H aw=>aa0 aO (.inr rfl) (x4 aj (cV R bO ha)) nq (aT.bx t) (aT.ok t)
   ·exact absurd h az.bad
  ·exact absurd h az.bad
 case h_25=>exact absurd h az.bad
end
end Go.Abs.hq
namespace Go.Abs.hq
open Go Go.Abs
section
variable{J:iI}
def iB:(ts:List Nat)->ea J ts->List V
 |[],_=>[]
 |t::r,x=>J.enc t (pE r x)::iB r (x1 r x)
def oe (ts:List Nat)(x:ea J ts):V:=one (iB ts x)
def Ar:(ts:List Nat)->ea J ts->List Nat->cy
 |[],_,_=>[]
 | _::_,_,[]=>[]
 |t::r,x,a::aQ=>[(a,.cells (aE (J.enc t (pE r x))))]::Ar r (x1 r x) aQ
def og (aa:Nat->Option bV)(F:cy)(dN:List Nat)(rt:Nat)(f:ea J dN->Option (J.ax rt))(w:V):Prop:=
 (∀H low,fN H low w=some (w,H,low))/\∀H z q,Own H F->f z=some q->bY aa w (iB dN z) H=some (J.enc rt q,H,H.length)
def tz (aa:Nat->Option bV)(F:cy):(aQ:List l5)->oR J aQ->List V->Prop
 |[],_,ws=>ws=[]
 | .v t::r,x,ws=>∃eK,ws=J.enc t x.1::eK/\tz aa F r x.2 eK
 | .f dN rt::r,x,ws=>∃w eK,ws=w::eK/\og aa F dN rt x.1 w/\tz aa F r x.2 eK
abbrev As (aQ:List Nat):List V:=aQ.map fun a=>V.ptr a 0
def nr (aa:Nat->Option bV)(e:cq J):Prop:=∀(H:Heap) (F:cy) (c:ea J e.caps) (a:oR J e.args) (aQ:List Nat) (ws:List V) (r:ea J e.res),
 aQ.length=e.caps.length->Own H (Ar e.caps c aQ++F)->tz aa F e.args a ws->e.fn c a=some r->bY aa (.fn e.id [] (As aQ)) ws H=some (oe e.res r,H,H.length)
def x5 (J:iI)(aa:Nat->Option bV)(i:Nat)(p:Nat × Nat):Prop:=match p.2 with
 |0=>Qb aa i (J.es p.1)
 |1=>aaN aa i (J.es p.1)
 |jJ=>∃n z,aa i=some (.code (se n (J.es p.1) jJ z))/\1<=n
theorem x5.clone{aa:Nat->Option bV}{i:Nat}{p:Nat × Nat}(h:x5 J aa i p)(hp:Nat.blt 1 p.2=true):∃n z,aa i=some (.code (se n (J.es p.1) p.2 z))/\1<=n:=by
 obtain⟨t,n⟩:=p
 match n,hp with
 |n+2,_=>exact h
def re (aa:Nat->Option bV)(cx:od J):Prop:=(∀e∈cx.T,nr aa e)/\∀q∈cx.q7,x5 J aa q.1 q.2
theorem Gw{a:Nat}:∀(r:List Nat) (x:J.ax a) (y:ea J r),pE r (x0 r x y)=x
 |[],_,_=>rfl
 | _::_,_,_=>rfl
theorem Gx{a:Nat}:∀(r:List Nat) (x:J.ax a) (y:ea J r),x1 r (x0 r x y)=y
 |[],_,()=>rfl
 | _::_,_,_=>rfl
variable{b:Nat}{F:cy}{fs:List V}{s ao:bp J}{σ aW:bN}{H:Heap}{G:Nat->List (Nat × bU)}{ρ:List V}{aq:kJ J}{A:Type}[aG A]{S:A->Prop}{aa:Nat->Option bV}{cx:od J}
theorem KV (aT:gj J){B:List Bool}:∀{ts:List Nat} {vs:List (aL J.ax)} {ws:List V} {x:ea J ts},q8 B ts vs=some x->bu J B ρ fs vs ws->ws=iB ts x
 |[],_,_,_,h,.nil=>rfl
 |[],_,_,_,h,.cons _ _=>by cases h
 | _::_,_,_,_,h,.nil=>by cases h
 |t::ts,_,_,_,h,.cons af r=>by
  simp only[q8]at h;split at h
  ·cases h
  ·rename_i x e
   split at h
   ·cases h
   ·rename_i l aj
    cases h;simp only[iB,Gw,Gx];rw[aT.iJ _ _ _ _ _ _ _ af e,KV aT aj r]
theorem abp (aT:gj J):∀{ts:List Nat} {x:ea J ts} {s:bp J} {k:List (aL J.ax)->bp J->A},S (elems ts x s k)->∃vs ao,S (k vs ao)/\jI s ao/\bu J ao.aH ρ fs vs (iB ts x)
 |[],_,s,_,h=>⟨[],s,h,.rfl,.nil⟩
 |t::ts,x,s,k,h=>by
  obtain⟨v,s1,h1,b6,v1⟩:=Ap (ρ:=ρ) (fs:=fs) aT h;obtain⟨vs,s2,h2,dI,v2⟩:=abp aT h1;exact⟨_,s2,h2,b6.trans dI,.cons (v1.mono dI.aH dS) v2⟩
theorem QG (aT:gj J){ts:List Nat}{x:ea J ts}{k:aL J.ax->bp J->A}(h:S (KD ts x s k)):∃v ao,S (k v ao)/\jI s ao/\bS J ao.aH ρ fs v (oe ts x):=by
 obtain⟨vs,s1,h1,b6,v1⟩:=abp (ρ:=ρ) (fs:=fs) aT h;split at h1
 ·rename_i v
  refine⟨_,s1,h1,b6,?_⟩;unfold oe;generalize iB ts x=ws at v1;cases v1 with
  |cons af r=>cases r;exact af
 ·rename_i aZ
  refine⟨_,s1,h1,b6,?_⟩;unfold oe;generalize iB ts x=ws at v1
  have:one ws=.aU ws:=by
   match ws,v1 with
   |[],_=>rfl
   |[w],.cons (v:=v) af .nil=>exact absurd rfl (aZ v)
   | _::_::_,_=>rfl
  rw[this];exact .aU v1
theorem _root_.Go.Abs.Own.sub{ms gN:cy}(h:Own H ms)(hs:gN.Sublist ms):Own H gN:=⟨fun m hm=>h.1 m (hs.subset hm),h.2.sublist (hs.map _)⟩
theorem apz{B:List Bool}{c:aL J.ax}{w:V}{l:List (aL J.ax)}(h:sr c=some l)(hn:∀vs,c≠ .agg vs)(af:bS J B ρ fs c w):aE w=[w]:=by
 cases af<;>simp only[sr]at h
 case agg=>exact absurd rfl (hn _)
 case aU=>rfl
 case k=>
  split at h
  ·cases h
  ·cases w<;>first|rfl|simp_all
 case sl=>exact ZY _ _ _
 case row=>cases h
 case fv=>cases h
 case ln=>cases h
 case ll=>cases h
 all_goals rfl
theorem apA (R:bW J b F fs s σ H G ρ){v c:aL J.ax}{w:V}(h:Ql s.mem v=some c)(af:bS J s.aH ρ fs v w):
  ∃o a aP w',v=.ptr o 0/\w=.ptr a 0/\bc s.mem o=some aP/\bS J s.aH ρ fs c w'/\G o=[(a,.cells (aE w'))]:=by
 unfold Ql at h;split at h
 ·rename_i o
  cases af with
  |ptr ho=>
   split at h
   ·rename_i wr dj hm
    obtain⟨a,ws,q1,q2,cd,c2,-⟩:=R.cells hm;rw[q1]at ho;cases ho;split at h
    ·cases h
    ·rename_i hn
     split at h
     ·rename_i l hl
      cases h;cases c2 with
      |cons h1 r=>
       cases r;exact⟨o,_,_,_,rfl,rfl,hm,h1,by rw[q2,apz hl hn h1]⟩
     ·cases h
   ·rename_i wr cs aZ hm
    obtain⟨a,ws,q1,q2,cd,c2,-⟩:=R.cells hm;rw[q1]at ho;cases ho;cases h;exact⟨o,_,_,_,rfl,rfl,hm,.agg c2,q2⟩
   ·cases h
 ·cases h
theorem QH (aT:gj J)(R:bW J b F fs s σ H G ρ):∀{cs vs:List (aL J.ax)} {ws:List V} {ts:List Nat} {c:ea J ts} {l:List Nat},bu J s.aH ρ fs cs ws->Gj s.mem cs=some vs->Gi cs l=true->q8 s.aH ts vs=some c->
  ∃(aQ ks:List Nat),ws=As aQ/\aQ.length=ts.length/\ks.map (fun k=>(dn s G F).getD k [])=Ar ts c aQ/\ks.Nodup/\∀k∈ks,∃e:Nat × b8 J,s.mem[k]? =some e/\e.1∉l
 | _,_,_,ts,c,l,.nil,h1,h2,ar=>by
   cases h1;cases ts with
   |nil=>exact⟨[],[],rfl,rfl,rfl,DK,fun k hk=>by cases hk⟩
   |cons t ts=>cases ar
 |v::cs,vs,_,ts,c,l,.cons af r,h1,h2,ar=>by
  simp only[Gj]at h1;split at h1
  ·cases h1
  ·rename_i dj ab
   split at h1
   ·cases h1
   ·rename_i ch aj
    cases h1;obtain⟨o,a,aP,w',rfl,rfl,hm,hc,B8⟩:=apA R ab af;simp only[Gi]at h2;split at h2
    ·cases h2
    ·rename_i l8
     have l8:o∉l:=fun q=>by rw[(mem_iff o l).2 q]at l8;cases l8
     cases ts with
     |nil=>cases ar
     |cons t ts=>
      simp only[q8]at ar;split at ar
      ·cases ar
      ·rename_i x ex
       split at ar
       ·cases ar
       ·rename_i y pe
        cases ar;obtain⟨aQ,ks,p1,p2,p3,kj,rf⟩:=QH aT R r aj h2 pe;obtain⟨k,hk,aK,CZ,hid⟩:=R.at hm;refine⟨a::aQ,k::ks,by rw[p1];rfl,by simp[p2],?_,?_,?_⟩
        ·simp only[de,Ar,Gw,Gx,p3]
         congr 1;rw[iL,hk,B8,aT.iJ _ _ _ _ _ _ _ hc ex];rfl
        ·refine sG.2 ⟨fun eD=> ?_,kj⟩
         obtain⟨e,q1,q2⟩:=rf k eD;rw[gq aK]at q1;cases q1;exact q2 (by rw[hid];simp)
        ·intro bz hk'
         rcases dp.1 hk' with rfl|hk'
         ·exact⟨_,gq aK,by rw[hid];exact l8⟩
         ·obtain⟨e,q1,q2⟩:=rf bz hk'
          exact⟨e,q1,fun q=>q2 (kQ _ q)⟩
theorem QI:∀(ts:List Nat) (c:ea J ts),Ar ts c []=[]
 |[],_=>rfl
 | _::_,_=>rfl
theorem apB{i:Nat}{ws:List V}(H:Heap)(low:Nat):fN H low (.fn i [] ws)=some (.fn i [] ws,H,low):=by
 unfold fN;simp only[dQ];split<;>rfl
theorem QJ{F:cy}:∀(dN:List Nat) (z:ea J dN),tz aa F (dN.map l5.v) (KC dN z) (iB dN z)
 |[],_=>rfl
 |t::r,z=>⟨_,rfl,QJ r _⟩
theorem apC (aT:gj J)(R:bW J b F fs s σ H G ρ)(hT:re aa cx)(ae:∀j f,nth cx.fv j=some f->∃w,fs[j]? =some w/\og aa F f.dN f.rt f.f w)
  {dN:List Nat} {rt:Nat} {v:aL J.ax} {w:V} {f:ea J dN->Option (J.ax rt)} (h:Qm cx s dN rt v=some f) (af:bS J s.aH ρ fs v w):og aa (dn s G F) dN rt f w:=by
 unfold Qm at h;split at h
 ·rename_i j
  split at h
  ·cases h
  ·rename_i g a6
   obtain⟨w',q1,q2⟩:=ae j g a6;cases af with
   |fv hj=>
    rw[q1]at hj;cases hj;split at h
    ·rename_i fY
     obtain⟨g1,g2,g3⟩:=g;obtain⟨rfl,rfl⟩:=fY;cases h;exact⟨q2.1,fun H z q aw bg=>q2.2 H z q (aw.sub (DA _ _)) bg⟩
    ·cases h
 ·rename_i i cs
  cases af with
  |fn fq=>
   split at h
   ·cases h
   ·rename_i e he
    split at h
    ·rename_i vs cW hnd
     split at h
     ·cases h
     ·rename_i c hc
      split at h
      ·rename_i fY
       have uL:e∈cx.T/\e.id=i:=by
        clear fY hc h hT;generalize cx.T=T at he
        induction T with
        |nil=>cases he
        |cons e' T ih=>
         simp only[wE]at he;split at he
         ·rename_i hb;cases he;exact⟨by simp,ey hb⟩
         ·exact⟨kQ _ (ih he).1,(ih he).2⟩
       have bh:=hT.1 e uL.1;obtain⟨aQ,ks,p1,p2,p3,kj,rf⟩:=QH aT R fq cW hnd hc;have hid:=uL.2;clear uL he;obtain⟨aAw,D4,Cv,uM,C0⟩:=e;obtain⟨h1,h2⟩:=fY;simp only at h1 h2 hid;subst h1;subst h2;subst hid;cases h;refine⟨apB,fun H z q aw bg=> ?_⟩;subst p1;exact bh H [] c (KC dN z) aQ (iB dN z) q p2 (by rw[pP,<-p3];exact aw.ZX ks kj) (QJ dN z) bg
      ·cases h
    ·cases h
 ·cases h
theorem Gy (aT:gj J)(R:bW J b F fs s σ H G ρ)(hT:re aa cx)(ae:∀j f,nth cx.fv j=some f->∃w,fs[j]? =some w/\og aa F f.dN f.rt f.f w):
  ∀{aQ:List l5} {vs:List (aL J.ax)} {ws:List V} {a:oR J aQ},x2 cx s aQ vs=some a->bu J s.aH ρ fs vs ws->tz aa (dn s G F) aQ a ws
 |[],_,_,_,h,.nil=>rfl
 |[],_,_,_,h,.cons _ _=>by cases h
 | .v _::_,_,_,_,h,.nil=>by cases h
 | .f _ _::_,_,_,_,h,.nil=>by cases h
 | .v t::aQ,_,_,_,h,.cons af r=>by
   simp only[x2]at h;split at h
   ·cases h
   ·rename_i x e
    split at h
    ·cases h
    ·rename_i l aj
     cases h;exact⟨_,by rw[aT.iJ _ _ _ _ _ _ _ af e],Gy aT R hT ae aj r⟩
 | .f dN rt::aQ,_,_,_,h,.cons af r=>by
   simp only[x2]at h;split at h
   ·cases h
   ·rename_i x e
    split at h
    ·cases h
    ·rename_i l aj
     cases h;exact⟨_,_,rfl,apC aT R hT ae e af,Gy aT R hT ae aj r⟩
theorem KW (aT:gj J){F:cy}:∀{aQ:List l5} {a:oR J aQ} {ws:List V},tz aa F aQ a ws->∀H low,eV H low ws=some (ws,H,low)
 |[],_,_,h,H,low=>by cases h;rfl
 | .v t::aQ,x,_,⟨eK,e,r⟩,H,low=>by subst e;exact Z2 (aT.bx _ _) (KW aT r H low)
 | .f dN rt::aQ,x,_,⟨w,eK,e,q,r⟩,H,low=>by subst e;exact Z3 q.1 (KW aT r H low)
theorem KX{F F':cy}:∀{aQ:List l5} {a:oR J aQ} {ws:List V},Ai aQ=true->tz aa F aQ a ws->tz aa F' aQ a ws
 |[],_,_,_,h=>h
 | .v t::aQ,x,_,hn,⟨eK,e,r⟩=>⟨eK,e,KX (aQ:=aQ) hn r⟩
 | .f _ _::_,_,_,hn,_=>by cases hn
theorem abq (aT:gj J)(az:l6 S)(R:bW J b F fs s σ H G ρ)(hT:re aa cx)(ae:∀j f,nth cx.fv j=some f->∃w,fs[j]? =some w/\og aa F f.dN f.rt f.f w)
  {f:aL J.ax} {aQ:List (aL J.ax)} {wf:V} {ws:List V} {k:aL J.ax->bp J->A} (h:S (KE cx s f aQ k)) (af:bS J s.aH ρ fs f wf) (ha:bu J s.aH ρ fs aQ ws):
  ∃v ao w,S (k v ao)/\jI s ao/\bS J ao.aH ρ fs v w/\∀H,Own H (dn s G F)->bY aa wf ws H=some (w,H,H.length)/\eV H H.length ws=some (ws,H,H.length):=by
 unfold KE at h;split at h
 ·rename_i j
  split at h
  ·exact absurd h az.bad
  ·rename_i g a6
   obtain⟨w',q1,q2⟩:=ae j g a6;cases af with
   |fv hj=>
    rw[q1]at hj;cases hj;split at h
    ·exact absurd h az.bad
    ·rename_i a e
     obtain⟨r,uM,h⟩:=az.ct h;obtain⟨v,ao,h1,h2,ar⟩:=Ap (ρ:=ρ) (fs:=fs) aT h;have apD:=KV aT e ha;subst apD;exact⟨v,ao,_,h1,h2,ar,fun H aw=>⟨q2.2 H a r (aw.sub (DA _ _)) uM,KW (aa:=aa) (F:=F) aT (QJ _ a) H _⟩⟩
 ·rename_i i cs
  cases af with
  |fn fq=>
   split at h
   ·exact absurd h az.bad
   ·rename_i e he
    split at h
    ·rename_i vs cW hnd l8
     split at h
     ·exact absurd h az.bad
     ·rename_i c hc
      split at h
      ·exact absurd h az.bad
      ·rename_i a EF
       obtain⟨r,uM,h⟩:=az.ct h;obtain⟨v,ao,h1,h2,ar⟩:=QG (ρ:=ρ) (fs:=fs) aT h
       have uL:e∈cx.T/\e.id=i:=by
        clear hc EF uM h hT l8 h1;generalize cx.T=T at he
        induction T with
        |nil=>cases he
        |cons e' T ih=>
         simp only[wE]at he;split at he
         ·rename_i hb;cases he;exact⟨by simp,ey hb⟩
         ·exact⟨kQ _ (ih he).1,(ih he).2⟩
       have bh:=hT.1 e uL.1;obtain⟨sL,ks,p1,p2,p3,kj,rf⟩:=QH aT R fq cW hnd hc;have Au:=Gy aT R hT ae EF ha;have hid:=uL.2;subst hid;subst p1;refine⟨v,ao,_,h1,h2,ar,fun H aw=>⟨?_,KW aT Au H _⟩⟩;split at l8
       ·have hl:=fq.length
        cases sL with
        |nil=>exact bh H (dn s G F) c a [] ws r p2 (by rw[QI];exact aw) Au uM
        |cons x xs=>simp at hl
       ·exact bh H [] c a sL ws r p2 (by rw[pP,<-p3];exact aw.ZX ks kj) (KX l8 Au) uM
    ·exact absurd h az.bad
 ·exact absurd h az.bad
theorem wN{α:Type}:∀{l:List (Nat × α)} {o:Nat} {x:α},(l.map Prod.fst).Nodup->(o,x)∈l->bc l o=some x
 |(k,a)::r,o,x,hn,h=>by
  rw[fT];have hn:=sG.1 hn;rcases dp.1 h with e|h
  ·cases e;rw[if_pos rfl]
  ·rw[if_neg fun e=>hn.1 (by subst e;exact dX.2 ⟨_,h,rfl⟩)]
   exact wN hn.2 h
theorem abr{α:Type}{l fc:List (Nat × α)}{o:Nat}{x:α}(hs:fc.Sublist l)(hn:(l.map Prod.fst).Nodup)(h:bc fc o=some x):bc l o=some x:=wN hn (hs.subset (jr h))
theorem Av (o:Nat):∀m:List (Nat × b8 J),(pF o m).Sublist m
 |[]=>HN _
 |(k,c)::r=>by
  simp only[pF];split
  ·exact List.sublist_cons_self _ _
  ·exact(Av o r).cons_cons _
theorem QK{o:Nat}:∀{m:List (Nat × b8 J)} {aP:b8 J},bc m o=some aP->∃k,(m.map fun e=>G e.1)[k]? =some (G o)/\∀x,((pF o m).map fun e=>G e.1).Sublist ((m.map fun e=>G e.1).set k x)
 |(k,c)::r,aP,h=>by
  simp only[bc]at h;simp only[pF];split at h
  ·rename_i e
   try rw[e]
   refine⟨0,by simp[ey e],fun x=> ?_⟩;simp only[de,Mj];exact List.sublist_cons_self _ _
  ·rename_i e
   try rw[e]
   obtain⟨i,h1,h2⟩:=QK h;refine⟨i+1,by simpa using h1,fun x=> ?_⟩;simp only[de,S0];exact(h2 x).cons_cons _
theorem Ff{n low:Nat}:∀{vs:List V},cg vs=true->kT (dQ n) H low vs=some (vs,H,low)
 |[],_=>rfl
 |v::r,h=>by
  simp only[cg,cn]at h;have:dQ n H low v=some (v,H,low):=by cases n<;>simp[dQ,h.1]
  simp only[kT,this,Ff h.2]
theorem apE{n:Nat}{ms gN:cy}{vs vs':List V}(h:pz b n ms vs vs' gN):lG b (n+1) ms (.agg vs) (.agg vs') gN:=fun H low aw hb=>by
 obtain⟨H1,bG,ab,h3,b1⟩:=h H low aw hb;refine⟨H1,bG,?_,h3,b1⟩;simp only[dQ,bx,ab];split
 ·rename_i hp;rw[Ff hp]at ab;cases ab;rfl
 ·rfl
theorem abt{n:Nat}{ms gN:cy}{vs vs':List V}(h:pz b n ms vs vs' gN):lG b (n+1) ms (.aU vs) (.aU vs') gN:=fun H low aw hb=>by
 obtain⟨H1,bG,ab,h3,b1⟩:=h H low aw hb;refine⟨H1,bG,?_,h3,b1⟩;simp only[dQ,bx,ab];split
 ·rename_i hp;rw[Ff hp]at ab;cases ab;rfl
 ·rfl
theorem uN (o:Nat)(c:b8 J):∀l:List (Nat × b8 J),(iX o c l).map Prod.fst=l.map Prod.fst
 |[]=>rfl
 |(k,d)::r=>by
  simp only[iX];split
  ·rfl
  ·simp[uN o c r]
theorem tA (o:Nat)(c:b8 J):∀(l:List (Nat × b8 J)) (t:Nat),bc (iX o c l) t=if t=o then(bc l t).map fun _=>c else bc l t
 |[],t=>by simp[iX,bc]
 |(k,d)::r,t=>by
  simp only[iX];split
  ·rename_i e
   have e:=ey e;subst e;rw[fT,fT];by_cases q:k=t
   ·subst q;simp
   ·simp[q,kS q]
  ·rename_i e
   have e:k≠o:=fun q=>by rw[q,yI]at e;cases e
   rw[fT,fT,tA o c r t];by_cases q:k=t
   ·subst q;simp[e]
   ·simp[q]
theorem apF{G:Nat->List (Nat × bU)}{o:Nat}{c:b8 J}{m:List (Nat × bU)}{l:List (Nat × b8 J)}{k:Nat}(hk:k<l.length)(hid:l[k].1=o)(db:(l.map Prod.fst).Nodup):
  (iX o c l).map (fun e=>if e.1=o then m else G e.1)=(l.map fun e=>G e.1).set k m:=by
 have ab:(iX o c l).map (fun e=>if e.1=o then m else G e.1)=((iX o c l).map Prod.fst).map (fun q=>if q=o then m else G q):=by rw[kR];rfl
 have aj:l.map (fun e=>G e.1)=(l.map Prod.fst).map G:=by rw[kR];rfl
 rw[ab,aj,uN];have hk':k<(l.map Prod.fst).length:=by simpa using hk
 have Aw:(l.map Prod.fst)[k]=o:=by simpa using hid
 generalize l.map Prod.fst=l at db hk' Aw;apply o0;intro i;rw[h8];by_cases e:k=i
 ·subst e
  rw[mP (by simpa using hk'),gq hk',Aw];simp
 ·rw[iv e,h8]
  cases hi:l[i]? with
  |none=>rfl
  |some q=>
   have nd:=(e0.1 hi);obtain⟨nd,bg⟩:=nd;have:q≠o:=fun h=>e ((List.getElem_inj (h₀:=hk') (h₁:=nd) db).1 (by rw[Aw,bg,h]));simp[this]
def tB (b:Nat)(B:List Bool)(ρ fs:List V)(G:Nat->List (Nat × bU))(m:List (Nat × b8 J)):Prop:=(m.map Prod.fst).Nodup/\∀o aP,bc m o=some aP->pH J b B ρ fs o (G o) aP
structure ns (b:Nat) (B:List Bool) (ρ fs:List V) (G G':Nat->List (Nat × bU)) (m m':List (Nat × b8 J)):Prop where
 fst:m'.map Prod.fst=m.map Prod.fst
 mem:∀o aP,bc m o=some aP->(bc m' o=some aP/\G' o=G o)\/∃t x,(aP=.row t x\/aP=.fz t x)/\bc m' o=some (.fz t x)/\pH J b B ρ fs o (G' o) (.fz t x)/\pH J b B ρ fs o (G o) (.fz t x)
theorem ns.rfl'{B:List Bool}{G:Nat->List (Nat × bU)}{m:List (Nat × b8 J)}:ns b B ρ fs G G m m:=⟨rfl,fun o aP h=>.inl ⟨h,rfl⟩⟩
theorem ns.trans{B:List Bool}{G ay bl:Nat->List (Nat × bU)}{m m1 m2:List (Nat × b8 J)}(h:ns b B ρ fs G ay m m1)(k:ns b B ρ fs ay bl m1 m2):ns b B ρ fs G bl m m2 where
 fst:=k.fst.trans h.fst
 mem:=fun o aP ho=>by
  rcases h.mem o aP ho with⟨al,a2⟩|⟨t,x,al,a2,a3,a4⟩
  ·rcases k.mem o aP al with⟨b1,ff⟩|⟨t,x,b1,ff,iZ,kz⟩
   ·exact .inl ⟨b1,ff.trans a2⟩
   ·exact .inr ⟨t,x,b1,ff,iZ,by rw[<-a2];exact kz⟩
  ·rcases k.mem o _ a2 with⟨b1,ff⟩|⟨ej,fJ,b1,ff,iZ,kz⟩
   ·exact .inr ⟨t,x,al,b1,by rw[ff];exact a3,a4⟩
   ·rcases b1 with b1|b1
    ·cases b1
    ·cases b1
     exact .inr ⟨t,x,al,ff,iZ,a4⟩
theorem abu{α:Type}:∀{l:List (Nat × α)} {o:Nat},o∈l.map Prod.fst->∃x,bc l o=some x
 |(k,a)::r,o,h=>by
  rw[fT];by_cases e:k=o
  ·exact⟨a,by rw[if_pos e]⟩
  ·rw[if_neg e]
   refine abu ?_;rcases dp.1 h with q|q
   ·exact absurd q.symm e
   ·exact q
theorem ns.back{B:List Bool}{G G':Nat->List (Nat × bU)}{m m':List (Nat × b8 J)}(h:ns b B ρ fs G G' m m'){o:Nat}{c:b8 J}(hc:bc m' o=some c):∃aP,bc m o=some aP:=by
 refine abu ?_;rw[<-h.fst];exact dX.2 ⟨_,jr hc,rfl⟩
theorem ns.ok{B:List Bool}{G G':Nat->List (Nat × bU)}{m m':List (Nat × b8 J)}(h:ns b B ρ fs G G' m m')(hm:tB b B ρ fs G m):tB b B ρ fs G' m':=
 ⟨by rw[h.fst];exact hm.1,fun o aP ho=>by
  obtain⟨c,hc⟩:=h.back ho;rcases h.mem o c hc with⟨al,a2⟩|⟨t,x,al,a2,a3,a4⟩
  ·rw[al]at ho;cases ho;rw[a2];exact hm.2 o _ hc
  ·rw[a2]at ho;cases ho;exact a3⟩
theorem ns.same{B:List Bool}{G G':Nat->List (Nat × bU)}{m m':List (Nat × b8 J)}(h:ns b B ρ fs G G' m m')(hm:tB b B ρ fs G m):tB b B ρ fs G m':=
 ⟨by rw[h.fst];exact hm.1,fun o aP ho=>by
  obtain⟨c,hc⟩:=h.back ho;rcases h.mem o c hc with⟨al,a2⟩|⟨t,x,al,a2,a3,a4⟩
  ·rw[al]at ho;cases ho;exact hm.2 o _ hc
  ·rw[a2]at ho;cases ho;exact a4⟩
theorem ns.dn{B:List Bool}{G G':Nat->List (Nat × bU)}{m m':List (Nat × b8 J)}(h:ns b B ρ fs G G' m m'):m'.map (fun e=>G e.1)=m.map (fun e=>G e.1):=by
 have ab:m'.map (fun e=>G e.1)=(m'.map Prod.fst).map G:=by rw[kR];rfl
 have aj:m.map (fun e=>G e.1)=(m.map Prod.fst).map G:=by rw[kR];rfl
 rw[ab,aj,h.fst]
theorem apG{α:Type}{n es:Nat}{f:α->V}{s:ad α}{v:V}{m m0:List (Nat × bU)}{ms:cy}(k:Nat)(hk:ms[k]? =some m)(hr:ft b es f v s m0)(hm:m=m0\/m=Go.Abs.l0 m0)(hp:∀a,bx (f a)=true):lG b (n+1) ms v (bb es f s) (ms.set k (Go.Abs.l0 m0)):=by
 rcases hm with rfl|rfl
 ·exact lG.row k hk hr hp
 ·intro H low aw hb
  have nb:ms.set k (Go.Abs.l0 m0)=ms:=by
   apply o0;intro i;by_cases e:k=i
   ·subst e;rw[mP (e0.1 hk).1,hk]
   ·rw[iv e]
  rw[nb];rw[Z0];have da:e9 b es v (s.map f) m0:=hr;generalize oM:s.map f=gZ at da;clear hr;cases da with
  |nil=>exact⟨H,low,rfl,aw,hb⟩
  |emp=>exact⟨H,low,rfl,aw,hb⟩
  |row l ds h gX=>
   have rL:cg ds=true:=by
    cases s<;>simp[ad.map]at oM;rw[<-oM];exact tq hp _
   refine⟨H,low,?_,aw,hb⟩;simp[dQ,bx,aw.get k (by rw[hk];rfl),rL,bb]
theorem C1{n:Nat}{B:List Bool}{f:List (Nat × b8 J)->aL J.ax->Option (aL J.ax × List (Nat × b8 J))}
  (ae:∀{G:Nat->List (Nat × bU)} {m m':List (Nat × b8 J)} {v v':aL J.ax} {w:V},tB b B ρ fs G m->f m v=some (v',m')->bS J B ρ fs v w->∃w' G',lG b n (m.map (fun e=>G e.1)++F) w w' (m'.map (fun e=>G' e.1)++F)/\bS J B ρ fs v' w'/\ns b B ρ fs G G' m m'):
  ∀{G:Nat->List (Nat × bU)} {vs vs':List (aL J.ax)} {ws:List V} {m m':List (Nat × b8 J)},tB b B ρ fs G m->uI f m vs=some (vs',m')->bu J B ρ fs vs ws->∃eK G',pz b n (m.map (fun e=>G e.1)++F) ws eK (m'.map (fun e=>G' e.1)++F)/\bu J B ρ fs vs' eK/\ns b B ρ fs G G' m m'
 |G,_,_,_,m,m',hm,h,.nil=>by cases h;exact⟨[],G,.nil,.nil,.rfl'⟩
 |G,_,_,_,m,m',hm,h,.cons af r=>by
  simp only[uI]at h;split at h
  ·cases h
  ·rename_i v' m1 ab
   split at h
   ·cases h
   ·rename_i l m2 aj
    cases h;obtain⟨w',ay,al,a2,a3⟩:=ae hm ab af;obtain⟨eK,bl,b1,ff,iZ⟩:=C1 ae (a3.ok hm) aj r;exact⟨w'::eK,bl,pz.cons al b1,.cons a2 ff,a3.trans iZ⟩
theorem abv (aT:gj J){B:List Bool}{G:Nat->List (Nat × bU)}{n:Nat}{m:List (Nat × b8 J)}{o t:Nat}{x:ad (J.ax t)}{w:V}{m0:List (Nat × bU)}{aP:b8 J}(hm:tB b B ρ fs G m)(hx:bc m o=some aP)(ho:ρ[o]? =some w)(hr:ft b (J.es t) (J.enc t) w x m0)(h0:G o=m0\/G o=Go.Abs.l0 m0):
  lG b (n+1) (m.map (fun e=>G e.1)++F) w (bb (J.es t) (J.enc t) x) ((iX o (.fz t x) m).map (fun e=>if e.1=o then Go.Abs.l0 m0 else G e.1)++F):=by
 obtain⟨k,hk,e⟩:=List.mem_iff_getElem.1 (jr hx);rw[apF hk (by rw[e]) hm.1];have aK:k<(m.map fun e=>G e.1).length:=by simpa using hk
 rw[<-HG _ _ aK];refine apG k ?_ hr h0 (aT.bx t);rw[fB aK,h8,gq hk,e];rfl
theorem C2 (aT:gj J){B:List Bool}:∀{n:Nat} {G:Nat->List (Nat × bU)} {m m':List (Nat × b8 J)} {v v':aL J.ax} {w:V},tB b B ρ fs G m->l0 n m v=some (v',m')->bS J B ρ fs v w->∃w' G',lG b n (m.map (fun e=>G e.1)++F) w w' (m'.map (fun e=>G' e.1)++F)/\bS J B ρ fs v' w'/\ns b B ρ fs G G' m m'
 |0,_,_,_,_,_,_,_,h,_=>by cases h
 |n+1,G,m,m',v,v',w,hm,h,af=>by
  simp only[l0]at h;split at h
  ·rename_i o
   split at h
   ·rename_i t x hx
    cases h;obtain⟨v0,q1,q2⟩:=hm.2 o _ hx;cases af with
    |row ho=>
     rw[q1]at ho;cases ho;refine⟨_,fun q=>if q=o then Go.Abs.l0 (G o)else G q,abv aT hm hx q1 q2 (.inl rfl),.sl,uN _ _ _,fun p aP hp=> ?_⟩;rw[tA];by_cases e:p=o
     ·subst e
      rw[hx]at hp;cases hp;refine .inr ⟨t,x,.inl rfl,by rw[if_pos rfl,hx];rfl,⟨_,_,q1,q2,.inr (by rw[if_pos rfl])⟩,⟨_,_,q1,q2,.inl rfl⟩⟩
     ·exact .inl ⟨by rw[if_neg e];exact hp,by rw[if_neg e]⟩
   ·rename_i t x hx
    cases h;obtain⟨v0,m0,q1,q2,cd⟩:=hm.2 o _ hx;cases af with
    |row ho=>
     rw[q1]at ho;cases ho;refine⟨_,fun q=>if q=o then Go.Abs.l0 m0 else G q,?_,.sl,rfl,fun p aP hp=> ?_⟩
     ·have:=abv (F:=F) (n:=n) aT hm hx q1 q2 cd
      have e:∀l:List (Nat × b8 J),bc l o=some (.fz t x)->iX o (.fz t x) l=l:=fun l hl=>by
       clear hm hx this
       induction l with
       |nil=>rfl
       |cons p r ih=>
        obtain⟨k,c⟩:=p;simp only[iX];simp only[bc]at hl;split at hl
        ·rename_i e;cases hl;rw[e]
        ·rename_i e;rw[e];simp only[ih hl]
      rw[e _ hx]at this;exact this
     ·by_cases e:p=o
      ·subst e
       rw[hx]at hp;cases hp;refine .inr ⟨t,x,.inr rfl,hx,⟨_,_,q1,q2,.inr (by rw[if_pos rfl])⟩,⟨_,_,q1,q2,cd⟩⟩
      ·exact .inl ⟨hp,by rw[if_neg e]⟩
   ·cases h
  ·split at h
   ·rename_i l m1 e
    cases h;cases af with
    |agg af=>
     obtain⟨eK,G',al,a2,a3⟩:=C1 (C2 aT) hm e af;exact⟨_,G',apE al,.agg a2,a3⟩
   ·cases h
  ·split at h
   ·rename_i l m1 e
    cases h;cases af with
    |aU af=>
     obtain⟨eK,G',al,a2,a3⟩:=C1 (C2 aT) hm e af;exact⟨_,G',abt al,.aU a2,a3⟩
   ·cases h
  ·cases h;exact⟨w,G,.plain (by cases af;rfl),af,.rfl'⟩
  ·cases h;exact⟨w,G,.plain (by cases af;rfl),af,.rfl'⟩
  ·cases h;exact⟨w,G,.plain (by cases af;rfl),af,.rfl'⟩
  ·cases h;exact⟨w,G,.plain (by cases af;rfl),af,.rfl'⟩
  ·cases h;exact⟨w,G,.plain (by cases af;exact n4 _ _ _),af,.rfl'⟩
  ·split at h
   ·rename_i hp;cases h;exact⟨w,G,.plain (by cases af;exact hp),af,.rfl'⟩
   ·cases h
  ·cases h
theorem apH (aT:gj J){B:List Bool}{G:Nat->List (Nat × bU)}{n:Nat}{m:List (Nat × b8 J)}{o t:Nat}{x:ad (J.ax t)}{w:V}(hm:tB b B ρ fs G m)(hx:bc m o=some (.row t x))(af:bS J B ρ fs (.row o) w):
  ∃w',lG b (n+1) (m.map (fun e=>G e.1)++F) w w' ((pF o m).map (fun e=>G e.1)++F)/\bS J B ρ fs (.sl t x) w':=by
 obtain⟨v0,q1,q2⟩:=hm.2 o _ hx;cases af with
 |row ho=>
  rw[q1]at ho;cases ho;obtain⟨k,b6,dI⟩:=QK (G:=G) hx;have aK:=(e0.1 b6).1;have:=lG.row (b:=b) (n:=n) (ms:=m.map (fun e=>G e.1)++F) k (by rw[fB aK];exact b6) q2 (aT.bx t);refine⟨_,fun H low aw hb=> ?_,.sl⟩;obtain⟨H1,bG,ab,h3,b1⟩:=this H low aw hb;refine⟨H1,bG,ab,h3.sub ?_,b1⟩;rw[HG _ _ aK];exact(dI _).append (HN _)
theorem bW.Ax (R:bW J b F fs s σ H G ρ):tB b s.aH ρ fs G s.mem:=⟨R.db,R.mem⟩
theorem apI (aT:gj J){ts:List Nat}{x:ea J ts}(h:Gk (J:=J) ts=true):flat (oe ts x)=true:=by
 have key:∀{ts:List Nat} {x:ea J ts},Gk (J:=J) ts=true->u7 (iB ts x)=true:=by
  intro ts
  induction ts with
  |nil=>intro _ _;rfl
  |cons t r ih=>
   intro x h;simp only[Gk]at h;split at h
   ·rename_i e;simp only[iB,u7,aT.aY t _ e,ih h,Bl]
   ·cases h
 have:=key (x:=x) h;unfold oe;generalize iB ts x=ws at this
 match ws,this with
 |[],_=>rfl
 |[w],q=>simpa[u7,one]using q
 | _::_::_,q=>exact q
theorem abw{T:List (cq J)}{i:Nat}{e:cq J}(he:wE T i=some e):e∈T/\e.id=i:=by
 induction T with
 |nil=>cases he
 |cons e' T ih=>
  simp only[wE]at he;split at he
  ·rename_i hb;cases he;exact⟨by simp,ey hb⟩
  ·exact⟨kQ _ (ih he).1,(ih he).2⟩
theorem abx{B:List Bool}:∀{ts:List Nat} {x:ea J ts},q8 B ts []=some x->ts=[]
 |[],_,_=>rfl
 | _::_,_,h=>by cases h
theorem apJ (aT:gj J)(az:l6 S)(R:bW J b F fs s σ H G ρ)(hT:re aa cx)(ae:∀j f,nth cx.fv j=some f->∃w,fs[j]? =some w/\og aa F f.dN f.rt f.f w)
  {f:aL J.ax} {aQ:List (aL J.ax)} {wf:V} {ws:List V} {k:aL J.ax->bp J->A} (h:S (Qn cx s f aQ k)) (af:bS J s.aH ρ fs f wf) (ha:bu J s.aH ρ fs aQ ws):
  ∃v ao w eK gN,S (k v ao)/\jI s ao/\bS J ao.aH ρ fs v w/\pz b 16 (dn s G F) ws eK gN/\(∀H,bY aa wf eK H=some (w,H,H.length))/\flat w=true:=by
 unfold Qn at h;split at h
 ·rename_i i
  cases af with
  |fn hn=>
   cases hn;split at h
   ·rename_i e sL m' he aO
    split at h
    ·rename_i c a hc gJ l8
     obtain⟨r,uM,h⟩:=az.ct h;obtain⟨v,ao,h1,h2,ar⟩:=QG (ρ:=ρ) (fs:=fs) aT h;obtain⟨eK,G',na,z2,-⟩:=C1 (F:=F) (C2 aT) R.Ax aO ha;have QL:e.caps=[]:=abx hc;obtain⟨uL,hid⟩:=abw he;have Au:=KX (F':=[]) l8 (Gy aT R hT ae gJ z2)
     have ba:∀H,bY aa (.fn i [] []) eK H=some (oe e.res r,H,H.length):=fun H=>by
      have:=hT.1 e uL H [] c a [] eK r (by rw[QL]) (by rw[QI];exact .nil H) Au uM;rwa [hid]at this
     split at h1
     ·rename_i lu
      exact⟨v,ao,_,eK,_,h1,h2,ar,na,ba,apI aT lu⟩
     ·split at h1
      ·rename_i t x
       generalize oe e.res r=w at ar ba;cases ar;rcases az.br h1 with⟨ab,mn⟩|⟨ab,mn⟩
       ·have hx:x=.nil:=by cases x<;>first|rfl|cases ab
        subst hx;exact⟨_,ao,.bX,eK,_,mn,h2,.k,na,ba,rfl⟩
       ·exact absurd mn az.bad
      ·exact absurd h1 az.bad
    ·exact absurd h az.bad
   ·exact absurd h az.bad
 ·exact absurd h az.bad
theorem apK (aT:gj J)(az:l6 S)(R:bW J b F fs s σ H G ρ)(hT:re aa cx)(ae:∀j f,nth cx.fv j=some f->∃w,fs[j]? =some w/\og aa F f.dN f.rt f.f w)
  {f:aL J.ax} {aQ:List (aL J.ax)} {wf:V} {ws:List V} {k:aL J.ax->bp J->A} (h:S (Qo cx s f aQ k)) (af:bS J s.aH ρ fs f wf) (ha:bu J s.aH ρ fs aQ ws):
  ∃v ao w eK m' G',S (k v {ao with mem:=m',cA:=gone m' s.mem++ao.cA})/\jI s ao/\bS J ao.aH ρ fs v w/\pz b 16 (dn s G F) ws eK (m'.map (fun e=>G' e.1)++F)/\(∀H,bY aa wf eK H=some (w,H,H.length))/\ns b s.aH ρ fs G G' s.mem m':=by
 unfold Qo at h;split at h
 ·rename_i i
  cases af with
  |fn hn=>
   cases hn;split at h
   ·rename_i e sL m' he aO
    split at h
    ·rename_i c a hc gJ l8
     obtain⟨r,uM,h⟩:=az.ct h;obtain⟨v,ao,h1,h2,ar⟩:=QG (ρ:=ρ) (fs:=fs) aT h;obtain⟨eK,G',na,z2,z3⟩:=C1 (F:=F) (C2 aT) R.Ax aO ha;have QL:e.caps=[]:=abx hc;obtain⟨uL,hid⟩:=abw he;have Au:=KX (F':=[]) l8 (Gy aT R hT ae gJ z2)
     have ba:∀H,bY aa (.fn i [] []) eK H=some (oe e.res r,H,H.length):=fun H=>by
      have:=hT.1 e uL H [] c a [] eK r (by rw[QL]) (by rw[QI];exact .nil H) Au uM;rwa [hid]at this
     exact⟨v,ao,_,eK,m',G',h1,h2,ar,na,ba,z3⟩
    ·exact absurd h az.bad
   ·exact absurd h az.bad
 ·exact absurd h az.bad
end
end Go.Abs.hq
