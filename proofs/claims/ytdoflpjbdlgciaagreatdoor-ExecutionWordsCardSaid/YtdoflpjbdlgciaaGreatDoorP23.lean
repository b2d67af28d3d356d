/- Texts of this claim, joined and written short by a program. -/
import Derived.Test.YtdoflpjbdlgciaaGreatDoorP22
import Derived.Test.YtdoflpjbdlgciaaGreatDoorP00
set_option linter.unusedVariables false
set_option linter.unusedSimpArgs false
set_option linter.unusedSectionVars false
namespace Go.Abs.hG
open Go Go.Abs
section
variable{U:iE}{b:Nat}{F:cO}{fs:List V}{s ar:bB U}{σ bp:bY}{H:Heap}{G:Nat->List (Nat × cD)}{ρ:List V}{aq:kK U}{call:c1}{A:Type}[aS A]{S:A->Prop}
def G4 (U:iE)(ρ fs:List V)(s:bB U)(S:A->Prop)(k:aO U.ay->bB U->A)(st:Heap->Option (V × Heap × Nat))(ms:cO):Prop:=
 ∃v ar w,S (k v ar)/\jE s ar/\b5 U ar.aJ ρ fs v w/\∀H,Own H ms->st H=some (w,H,H.length)
theorem done{v:aO U.ay}{w:V}{k:aO U.ay->bB U->A}{st:Heap->Option (V × Heap × Nat)}{ms:cO}(h:S (k v s))(af:b5 U s.aJ ρ fs v w)(e:∀H,Own H ms->st H=some (w,H,H.length)):G4 U ρ fs s S k st ms:=⟨v,s,w,h,.rfl,af,e⟩
theorem s6{c neg:Bool}{k:aO U.ay->bB U->A}{st:Heap->Option (V × Heap × Nat)}{ms:cO}(h:S (name s c neg k))(e:∀H,Own H ms->st H=some (.bool (c != neg),H,H.length)):G4 U ρ fs s S k st ms:=by
 obtain⟨v,ar,h1,h2,av⟩:=acr (ρ:=ρ) (fs:=fs) h;exact⟨v,ar,_,h1,h2,av,e⟩
theorem Rx{ms:cO}(aD:l7 S){op:BinOp}{x y:aO U.ay}{wL Ry:V}{k:aO U.ay->bB U->A}(h:S (bin s op k x y))(hx:b5 U s.aJ ρ fs x wL)(hy:b5 U s.aJ ρ fs y Ry):
  G4 U ρ fs s S k (fun H=>(et op wL Ry).map fun v=>(v,H,H.length)) ms:=by
 unfold bin at h;split at h
 ·rename_i b1 a GN c
  cases hx;cases hy;split at h
  ·exact absurd h aD.bad
  ·rename_i ah
   have ah:=of_decide_eq_true ah;subst ah;have bu:¬(b1≠b1):=fun q=>q rfl;split at h
   ·exact done h .int (fun H aB=>by simp[et])
   ·exact done h .int (fun H aB=>by simp[et])
   ·exact done h .int (fun H aB=>by simp[et])
   ·exact s6 h (fun H aB=>by simp[et])
   ·exact s6 h (fun H aB=>by simp[et])
   ·exact s6 h (fun H aB=>by simp[et])
   ·exact s6 h (fun H aB=>by simp[et])
   ·exact s6 h (fun H aB=>by simp[et])
   ·exact s6 h (fun H aB=>by simp[et])
   ·exact done h .int (fun H aB=>by simp[et])
   ·split at h
    ·obtain⟨q,e,h⟩:=aD.c2 h
     refine done h .int fun H aB=> ?_;unfold Cn at e;split at e
     ·cases e
     ·rename_i hc;cases e;simp[et,hc]
    ·exact absurd h aD.bad
   ·split at h
    ·obtain⟨q,e,h⟩:=aD.c2 h
     refine done h .int fun H aB=> ?_;unfold Co at e;split at e
     ·cases e
     ·rename_i hc;cases e;simp[et,hc]
    ·exact absurd h aD.bad
   ·exact absurd h aD.bad
 ·rename_i a c
  cases hx;cases hy;split at h
  ·obtain⟨q,e,h⟩:=aD.c2 h
   refine done h .str fun H aB=> ?_;unfold da at e;split at e
   ·rename_i hc;cases e;simp only[et,hc,if_true];rfl
   ·cases e
  ·exact s6 h (fun H aB=>by simp[et])
  ·exact s6 h (fun H aB=>by simp[et])
  ·exact absurd h aD.bad
 ·exact absurd h aD.bad
theorem aqT{ms:cO}(aD:l7 S){op:BinOp}{x:aO U.ay}{wL:V}{ui:IntKind}{c:Int}{k:aO U.ay->bB U->A}(h:S (Rf s op k x ui c))(hx:b5 U s.aJ ρ fs x wL):
  G4 U ρ fs s S k (fun H=>(et op wL (.int ui c)).map fun v=>(v,H,H.length)) ms:=by
 unfold Rf at h;split at h
 ·rename_i b1 a
  cases hx;split at h
  ·split at h
   ·rename_i e
    exact done h .int (fun H aB=>by simp only[et];rw[if_pos (of_decide_eq_true e)];rfl)
   ·exact absurd h aD.bad
  ·split at h
   ·rename_i e
    exact done h .int (fun H aB=>by simp only[et];rw[if_pos (of_decide_eq_true e)];rfl)
   ·exact absurd h aD.bad
  ·split at h
   ·rename_i e
    obtain⟨rfl,h0⟩:=of_decide_eq_true e;have:¬c=0:=by omega
    exact done h .int (fun H aB=>by simp[et,this])
   ·exact absurd h aD.bad
  ·split at h
   ·rename_i e
    obtain⟨rfl,h0⟩:=of_decide_eq_true e;have:¬c=0:=by omega
    exact done h .int (fun H aB=>by simp[et,this])
   ·exact absurd h aD.bad
  ·exact Rx aD h .int .int
 ·exact Rx aD h hx .int
theorem acs:∀{ks:List Nat} {xs cL:List (aO U.ay)} {vs ws:List V} {e:Bool},uj s ks xs cL=some e->bz U s.aJ ρ fs xs vs->bz U s.aJ ρ fs cL ws->kB ks vs ws=some e
 |[],_,_,_,_,_,h,.nil,.nil=>by simp only[uj]at h;cases h;rfl
 |[],_,_,_,_,_,h,.cons _ _,.nil=>by simp[uj]at h
 |[],_,_,_,_,_,h,.nil,.cons _ _=>by simp[uj]at h
 |[],_,_,_,_,_,h,.cons _ _,.cons _ _=>by simp[uj]at h
 | _::_,_,_,_,_,_,h,.nil,_=>by simp[uj]at h
 | _::_,_,_,_,_,_,h,.cons _ _,.nil=>by simp[uj]at h
 |n::ks,_,_,_,_,_,h,.cons hx rx,.cons hy aqU=>by
  simp only[uj]at h;split at h
  ·cases h
  ·rename_i e he
   have ih:=acs he rx aqU;simp only[kB];split at h
   ·cases hx;cases hy
    split at h
    ·rename_i ah
     have ah:=of_decide_eq_true ah;subst ah;cases h;simp[iZ,ih]
    ·cases h
   ·cases hx;cases hy
    cases h;simp[iZ,ih]
   ·split at h
    ·rename_i a c ao hc
     cases h;rw[C9 ao hx,C9 hc hy];simp[iZ,ih]
    ·cases h
   ·cases h
theorem acu (R:b6 U b F fs s σ H G ρ)(b4:∀t v,bw aq t=some v->b5 U s.aJ ρ fs v (bp t)):∀{ps:List (Nat × Nat × aj)} {z cs:List (aO U.ay)} {Rz:List V},Lv z aq s ps=some cs->bz U s.aJ ρ fs z Rz->
  ∃ws,u4 Rz (ps.map fun p=>(p.1,p.2.1,bV bp σ p.2.2))=some ws/\bz U s.aJ ρ fs cs ws
 |[],_,_,_,h,aI=>by cases h;exact⟨_,rfl,aI⟩
 |(off,n,x)::r,z,cs,Rz,h,aI=>by
  simp only[Lv]at h;split at h
  ·cases h
  ·rename_i v af
   split at h
   ·cases h
   ·rename_i l hl
    split at h
    ·rename_i ag e2 bI
     have hw:=Ak hl (db R b4 af);obtain⟨ws,h1,h2⟩:=acu R b4 h (LP hw off aI);refine⟨ws,?_,h2⟩;simp only[eG,u4];rw[if_pos ⟨by rw[<-hw.length];exact e8 ag,by rw[<-aI.length];exact ma e2,Rw bI hw⟩];exact h1
    ·cases h
theorem acv (a6:gD U){t:Nat}{B:List Bool}:∀{vs:List (aO U.ay)} {ws:List V} {l:List (U.ay t)},Lx t B vs=some l->bz U B ρ fs vs ws->ws=l.map (U.enc t)
 | _,_,_,h,.nil=>by cases h;rfl
 | _,_,_,h,.cons af r=>by
   simp only[Lx]at h;split at h
   ·cases h
   ·rename_i x e
    split at h
    ·cases h
    ·rename_i l e2
     cases h;rw[a6.iR _ _ _ _ _ _ _ af e,acv a6 e2 r];rfl
theorem acw:∀{n:Nat} {ps:List (Nat × aj)},Lw n ps=true->ps.map Prod.fst=List.range' n ps.length
 | _,[],_=>rfl
 |n,p::r,h=>by
  simp only[Lw]at h;split at h
  ·rename_i e
   simp only[eG,dE,uZ,e8 e,acw h]
  ·cases h
theorem oH{e:aj->V}{x:Option aj}{o:Option (Option (aO U.ay))}{d n:Int}(hx:x.map (ai aq s)=o)(R:b6 U b F fs s σ H G ρ)(b4:∀t v,bw aq t=some v->b5 U s.aJ ρ fs v (bp t))(ho:(o=none/\n=d)\/o=some (some (.int .i64 n))):zE (bV bp σ) x d n:=by
 rcases ho with⟨rfl,rfl⟩|rfl
 ·cases x
  ·exact .inl ⟨rfl,rfl⟩
  ·cases hx
 ·cases x
  ·cases hx
  ·rename_i o
   refine .inr ⟨o,rfl,?_⟩;simp only[tz,aA]at hx;have:=db R b4 hx;generalize bV bp σ o=w at this;cases this;rfl
theorem _root_.Go.Abs.jy.b7{α:Type}{es:Nat}{f:α->V}{x:ak α}{e:α}{n:Int}{v:V}{m:List (Nat × cD)}(hr:iO b es f v x m)(h:aP x.l n=some e):∃l N,v=.b7 l es 0 N N:=by
 unfold iO at hr;cases x with
 |mk l=>
  cases hr with
  |row q ds hd hb=>exact⟨_,_,rfl⟩
 | _=>
   unfold aP at h;split at h<;>simp[ak.l]at h
theorem _root_.Go.Abs.jy.acx{s:ak V}{l es e N:Nat}{m:List (Nat × cD)}(hr:jy b e (.b7 l es 0 N N) s m):es=e:=by cases hr;rfl
theorem aqV{α:Type}{es l N k:Nat}{f:α->V}{x:ak α}{n:Int}{b1:IntKind}{e:α}{m:List (Nat × cD)}{ms:cO}{ai:aj->V}{a i:aj}(he:aP x.l n=some e)(aB:Own H ms)(ah:ms[k]? =some m)(hr:iO b es f (.b7 l es 0 N N) x m)(hx:ai a=.b7 l es 0 N N)(hi:ai i=.int b1 n):
  cf call ai H H.length (.indexAddr es a i)=some (.hg l es n.toNat 0 N,H,H.length):=by
 obtain⟨rfl,rfl,-,-⟩:=hr.at rfl;unfold aP at he;split at he
 ·rename_i hn
  have aH:=(fF.1 he).1;show step ai H H.length (.indexAddr es a i)=_;simp only[step,hi,kU,hn,if_true,hx,aB.get k ah];rw[if_pos ⟨trivial,trivial,trivial,by simpa using aH,by simp⟩];simp
 ·cases he
theorem RA (a6:gD U){k n:Nat}(h:kindOf (U:=U) k n=true)(a c:U.ay k):iZ n (U.enc k a) (U.enc k c)=some (@BEq.beq _ ⟨U.beq k⟩ a c):=by
 unfold kindOf at h;split at h
 ·rename_i m e;rw[e8 h]at e;exact a6.ach k n e a c
 ·cases h
set_option maxHeartbeats 1000000 in
theorem G5{B:List Bool}{v:aO U.ay}{w c:V}(h:uk v=some (.k c))(af:b5 U B ρ fs v w):w=c:=by
 unfold uk at h;split at h<;>first|(cases h;cases af;rfl)|cases h
theorem RB (a6:gD U)(aD:l7 S)(R:b6 U b F fs s σ H G ρ)(b4:∀t v,bw aq t=some v->b5 U s.aJ ρ fs v (bp t)){ty:Option Nat}{op:cS}{k:aO U.ay->bB U->A}(h:S (GO aq s ty k op)):
  G4 U ρ fs s S k (fun H=>cf call (bV bp σ) H H.length op) (dV s G F):=by
 unfold GO at h;split at h
 case h_1 x=>
  split at h
  ·rename_i v af;exact done h (db R b4 af) fun _ _=>rfl
  ·exact absurd h aD.bad
 case h_2 c a d=>
  split at h
  ·rename_i v af
   obtain⟨β,ar,ag,e2,bI,cz⟩:=C8 aD h R.ed (db R b4 af);have oh:=R.ey e2;have acy:∀t v,bw aq t=some v->b5 U ar.aJ ρ fs v (bp t):=fun t v q=>by rw[bI];exact b4 t v q
   rcases cz with⟨rfl,h⟩|⟨rfl,h⟩
   ·split at h
    ·rename_i v af;exact⟨_,ar,_,h,e2,db oh acy af,fun H aB=>by simp only[o8,ag];rfl⟩
    ·exact absurd h aD.bad
   ·split at h
    ·rename_i v af;exact⟨_,ar,_,h,e2,db oh acy af,fun H aB=>by simp only[o8,ag];rfl⟩
    ·exact absurd h aD.bad
  ·exact absurd h aD.bad
 case h_3 z ps=>
  split at h
  ·rename_i cs hc
   obtain⟨ws,h1,h2⟩:=acu R b4 hc (G2 z);exact done h (.agg h2) (fun H aB=>anM h1)
  ·exact absurd h aD.bad
 case h_4 es z len ps jM=>
  split at h
  ·rename_i t
   split at h
   ·exact absurd h aD.bad
   ·rename_i vs c3
    split at h
    ·rename_i l ag e2 bI cz
     have mF:=wK R b4 c3;have hl:=acv a6 ag mF;have hlen:vs.length=len:=e8 bI;have fc:U.es t=es:=e8 cz;have Fi:(ps.map fun p=>bV bp σ p.2)=l.map (U.enc t):=by rw[<-hl,sf];rfl
     have wM:(l.map (U.enc t)).length=len:=by rw[<-hl,<-mF.length];exact hlen
     have u9:ps.length=len:=by rw[<-wM,<-Fi,jn]
     split at h
     ·refine done h .sl fun H aB=> ?_
      have:len=0:=by rw[<-wM];rfl
      subst this;cases ps
      ·exact anP rfl
      ·cases u9
     ·rename_i bu
      refine done h .sl fun H aB=> ?_;rw[show bU (U.es t) (U.enc t) (.mk l)=.list es (l.map (U.enc t)) by rw[<-fc];rfl];refine anO Fi (by rw[wM,<-u9];exact acw e2) wM ?_ (zF (a6.bQ t) l) ?_
      ·refine eq_false fun q=> ?_
       rw[q]at wM;rw[jn]at wM;exact bu (List.eq_nil_of_length_eq_zero wM)
      ·intro v af
       obtain⟨x,-,rfl⟩:=eM.1 af;exact⟨by rw[a6.es,fc],a6.ok t x⟩
    ·exact absurd h aD.bad
  ·exact absurd h aD.bad
 case h_5 sh x=>
  split at h
  ·rename_i cs f hx
   split at h
   ·rename_i v hc
    have af:=db R b4 hx;generalize hw:bV bp σ x=w at af;cases af with
    |dW af=>
     obtain⟨u,h1,h2⟩:=G3 hc af;exact done h h2 (fun H aB=>by rw[nJ,hw];simp[jN,h1])
   ·exact absurd h aD.bad
  ·rename_i o f hx
   split at h
   ·rename_i wr cs hm
    split at h
    ·rename_i v hc
     have af:=db R b4 hx;generalize hw:bV bp σ x=w at af;cases af with
     |ptr ho=>
      obtain⟨a,ws,q1,aT,b3,cZ,-⟩:=R.cells hm;rw[q1]at ho;cases ho;obtain⟨u,h1,h2⟩:=G3 hc cZ;exact done h h2 (fun H aB=>by rw[nJ,hw];simp[jN,b3 H aB,h1])
    ·exact absurd h aD.bad
   ·exact absurd h aD.bad
  ·rename_i o n f hx
   split at h
   ·rename_i t a hm
    obtain⟨e,he,h⟩:=aD.c2 h;obtain⟨v,ar,h1,h2,av⟩:=Al (ρ:=ρ) (fs:=fs) a6 h;split at h1
    ·rename_i cs hc
     split at h1
     ·rename_i u hu
      have af:=db R b4 hx;generalize hw:bV bp σ x=w at af;cases af with
      |jk ho=>
       obtain⟨v0,q1,aT⟩:=R.mem o _ hm;obtain⟨k,ah,-⟩:=R.at hm;rw[q1]at ho;cases ho;have:=aT.acx;subst this;obtain⟨u',kD,qA⟩:=G3 hu (Ak hc av);exact⟨_,ar,_,h1,h2,qA,fun H aB=>anV k he aB ah aT rfl kD hw⟩
     ·exact absurd h1 aD.bad
    ·exact absurd h1 aD.bad
   ·exact absurd h aD.bad
  ·exact absurd h aD.bad
 case h_6 x=>
  split at h
  ·rename_i o f hx
   have af:=db R b4 hx;generalize hw:bV bp σ x=w at af;cases af with
   |ptr ho=>exact done h (.ptr ho) (fun H aB=>by simp[cf,step,hw])
  ·rename_i o f hx
   have af:=db R b4 hx;generalize hw:bV bp σ x=w at af;cases af with
   |dW ho=>exact done h (.dW ho) (fun H aB=>by simp[cf,step,hw])
  ·rename_i o f hx
   have af:=db R b4 hx;generalize hw:bV bp σ x=w at af;cases af with
   |fn ho=>exact done h (.fn ho) (fun H aB=>by simp[cf,step,hw])
  ·rename_i o n f hx
   have af:=db R b4 hx;generalize hw:bV bp σ x=w at af;cases af with
   |jk ho=>exact done h (.jk ho) (fun H aB=>by simp[cf,step,hw])
  ·exact absurd h aD.bad
 case h_7 op x ui c=>
  split at h
  ·rename_i v af
   simp only[nj];exact aqT aD h (db R b4 af)
  ·exact absurd h aD.bad
 case h_8 op x y _=>
  split at h
  ·rename_i v w af hw
   simp only[nj];exact Rx aD h (db R b4 af) (db R b4 hw)
  ·exact absurd h aD.bad
 case h_9 neg ks x y=>
  split at h
  ·rename_i a c ao hc
   split at h
   ·rename_i e he
    have eN:=db R b4 ao;have ld:=db R b4 hc;generalize hf:bV bp σ x=wa at eN;generalize oI:bV bp σ y=Da at ld;cases eN with
    |agg eN=>cases ld with
     |agg ld=>
      refine s6 h fun H aB=> ?_;simp only[cf,step,hf,oI,acs he eN ld];cases neg<;>simp
   ·exact absurd h aD.bad
  ·exact absurd h aD.bad
 case h_10 kind neg x y=>
  split at h
  ·rename_i v w af hw
   have eN:=db R b4 af;have ld:=db R b4 hw;generalize hf:bV bp σ x=wa at eN;generalize oI:bV bp σ y=Da at ld;split at h
   ·rename_i t a
    cases eN;cases ld;refine s6 h fun H aB=> ?_;rw[qO,hf,oI];cases a<;>cases neg<;>rfl
   ·split at h
    ·rename_i a c ao hc
     refine s6 h fun H aB=> ?_;rw[qO,hf,oI,C9 ao eN,C9 hc ld];cases neg<;>simp[qv]
    ·exact absurd h aD.bad
   ·exact absurd h aD.bad
  ·exact absurd h aD.bad
 case h_11 op x=>
  split at h
  ·rename_i c hx
   have af:=db R b4 hx;generalize hw:bV bp σ x=w at af;cases af;exact done h .cy (fun H aB=>by rw[p5,hw];rfl)
  ·rename_i i neg hx
   have af:=db R b4 hx;generalize hw:bV bp σ x=w at af;cases af with
   |bo hb=>exact done h (.bo hb) (fun H aB=>by rw[p5,hw];rename_i yR;cases neg<;>cases yR<;>rfl)
  ·rename_i b1 n hx
   have af:=db R b4 hx;generalize hw:bV bp σ x=w at af;cases af;exact done h .int (fun H aB=>by rw[p5,hw];rfl)
  ·exact absurd h aD.bad
 case h_12 b1 x=>
  split at h
  ·rename_i n hx
   have af:=db R b4 hx;generalize hw:bV bp σ x=w at af;cases af;exact done h .int (fun H aB=>by simp[cf,step,hw])
  ·exact absurd h aD.bad
 case h_13 m x y=>
  split at h
  ·rename_i b1 a GN c hx hy
   have eN:=db R b4 hx;have ld:=db R b4 hy;generalize hf:bV bp σ x=wa at eN;generalize oI:bV bp σ y=Da at ld;cases eN;cases ld;split at h
   ·rename_i e
    have e:=of_decide_eq_true e;subst e;split at h
    ·exact done h .int (fun H aB=>by rw[Xc];simp[step,hf,oI])
    ·exact done h .int (fun H aB=>by rw[Xc];simp[step,hf,oI])
   ·exact absurd h aD.bad
  ·exact absurd h aD.bad
 case h_14 i cs=>
  split at h
  ·rename_i vs c3
   exact done h (.fn (wK R b4 c3)) (fun H aB=>by rw[PO];rfl)
  ·exact absurd h aD.bad
 case h_15 off x=>
  split at h
  ·rename_i o f hx
   have af:=db R b4 hx;generalize hw:bV bp σ x=w at af;cases af with
   |ptr ho=>exact done h (.ptr ho) (fun H aB=>by rw[ox,hw])
  ·rename_i o f hx
   have af:=db R b4 hx;generalize hw:bV bp σ x=w at af;cases af with
   |dW ho=>exact done h (.dW ho) (fun H aB=>by rw[ox,hw])
  ·rename_i o n f hx
   have af:=db R b4 hx;generalize hw:bV bp σ x=w at af;cases af with
   |jk ho=>exact done h (.jk ho) (fun H aB=>by rw[ox,hw])
  ·exact absurd h aD.bad
 case h_16 off sh x=>
  split at h
  ·rename_i cs hx
   split at h
   ·rename_i v hc
    have af:=db R b4 hx;generalize hw:bV bp σ x=w at af;cases af with
    |agg ho=>
     obtain⟨u,h1,h2⟩:=G3 hc ho;exact done h h2 (fun H aB=>by rw[akQ,hw];simp[h1])
   ·exact absurd h aD.bad
  ·exact absurd h aD.bad
 case h_17 x i=>
  split at h
  ·rename_i vs hx
   split at h
   ·rename_i v hc
    have af:=db R b4 hx;generalize hw:bV bp σ x=w at af;cases af with
    |bd ho=>
     rw[wD]at hc;obtain⟨u,h1,h2⟩:=ho.get hc;exact done h h2 (fun H aB=>by rw[rV,hw];simp[h1])
   ·exact absurd h aD.bad
  ·exact absurd h aD.bad
 case h_18 kind x=>
  split at h
  ·rename_i a hx
   have af:=db R b4 hx;generalize hw:bV bp σ x=w at af;cases af;exact done h .int (fun H aB=>by simp[cf,step,hw])
  ·rename_i t a hx
   have af:=db R b4 hx;generalize hw:bV bp σ x=w at af;cases af;exact done h .int (fun H aB=>v8 hw _)
  ·rename_i o hx
   split at h
   ·rename_i t a hm
    have af:=db R b4 hx;generalize hw:bV bp σ x=w at af;cases af with
    |row ho=>
     obtain⟨v0,q1,aT⟩:=R.mem o _ hm;obtain⟨k,ah,-⟩:=R.at hm;rw[q1]at ho;cases ho;exact done h .int (fun H aB=>anT aB k ah aT hw)
   ·exact absurd h aD.bad
  ·rename_i o hx
   split at h
   ·rename_i eI j6 m hm
    have af:=db R b4 hx;generalize hw:bV bp σ x=w at af;cases af with
    |row ho=>
     obtain⟨a,q1,aT,-⟩:=R.mem o _ hm;obtain⟨k,ah,-⟩:=R.at hm;rw[q1]at ho;cases ho;exact done h .int (fun H aB=>abG (aB.get k (by rw[ah,aT])) hw)
   ·exact absurd h aD.bad
  ·rename_i hx
   have af:=db R b4 hx;generalize hw:bV bp σ x=w at af;cases af;exact done h .int (fun H aB=>by simp[cf,step,hw])
  ·rename_i hx
   have af:=db R b4 hx;generalize hw:bV bp σ x=w at af;cases af;exact done h .int (fun H aB=>by simp[cf,step,hw])
  ·exact absurd h aD.bad
 case h_19 es x i=>
  split at h
  ·rename_i t a b1 n hx hi
   have eN:=db R b4 hx;have ld:=db R b4 hi;generalize hf:bV bp σ x=wa at eN;generalize oI:bV bp σ i=Da at ld;cases eN;cases ld;split at h
   ·rename_i e
    have e:=e8 e;subst e;obtain⟨y,hy,h⟩:=aD.c2 h;obtain⟨v,ar,h1,h2,av⟩:=Al (ρ:=ρ) (fs:=fs) a6 h;split at h1
    ·rename_i cs hc
     exact⟨_,ar,_,h1,h2,.dW (Ak hc av),fun H aB=>zB hf oI hy _⟩
    ·exact absurd h1 aD.bad
   ·exact absurd h aD.bad
  ·rename_i o b1 n hx hi
   split at h
   ·rename_i t a hm
    split at h
    ·rename_i e
     have e:=e8 e;subst e;obtain⟨y,hy,h⟩:=aD.c2 h;have eN:=db R b4 hx;have ld:=db R b4 hi;generalize hf:bV bp σ x=wa at eN;generalize oI:bV bp σ i=Da at ld;cases ld;cases eN with
     |row ho=>
      obtain⟨v0,q1,aT⟩:=R.mem o _ hm;obtain⟨k,ah,-⟩:=R.at hm;rw[q1]at ho;cases ho;obtain⟨l,N,rfl⟩:=aT.b7 hy;exact done h (.jk q1) (fun H aB=>aqV hy aB ah aT hf oI)
    ·exact absurd h aD.bad
   ·exact absurd h aD.bad
  ·exact absurd h aD.bad
 case h_20 x i=>
  split at h
  ·rename_i a b1 n hx hi
   have eN:=db R b4 hx;have ld:=db R b4 hi;generalize hf:bV bp σ x=wa at eN;generalize oI:bV bp σ i=Da at ld;cases eN;cases ld;obtain⟨y,hy,h⟩:=aD.c2 h;exact done h .int (fun H aB=>anL hf oI hy _)
  ·exact absurd h aD.bad
 case h_21 x lo hi=>
  split at h
  ·rename_i a hx
   have eN:=db R b4 hx;generalize hf:bV bp σ x=wa at eN;cases eN;split at h
   ·rename_i ag e2
    obtain⟨y,hy,h⟩:=aD.c2 h;exact done h .str (fun H aB=>Ka hy (oH (e:=bV bp σ) ag R b4 (.inl ⟨rfl,rfl⟩)) (oH (e:=bV bp σ) e2 R b4 (.inl ⟨rfl,rfl⟩)) hf)
   ·rename_i ag e2
    obtain⟨y,hy,h⟩:=aD.c2 h;exact done h .str (fun H aB=>Ka hy (oH (e:=bV bp σ) ag R b4 (.inr rfl)) (oH (e:=bV bp σ) e2 R b4 (.inl ⟨rfl,rfl⟩)) hf)
   ·rename_i ag e2
    obtain⟨y,hy,h⟩:=aD.c2 h;exact done h .str (fun H aB=>Ka hy (oH (e:=bV bp σ) ag R b4 (.inl ⟨rfl,rfl⟩)) (oH (e:=bV bp σ) e2 R b4 (.inr rfl)) hf)
   ·rename_i ag e2
    obtain⟨y,hy,h⟩:=aD.c2 h;exact done h .str (fun H aB=>Ka hy (oH (e:=bV bp σ) ag R b4 (.inr rfl)) (oH (e:=bV bp σ) e2 R b4 (.inr rfl)) hf)
   ·exact absurd h aD.bad
  ·exact absurd h aD.bad
 case h_22 kind z x i ok=>
  split at h
  ·rename_i o v hx hi
   split at h
   ·rename_i eI j6 m hm
    split at h
    ·rename_i key cC ag e2 bI
     have eN:=db R b4 hx;have ld:=db R b4 hi;generalize hf:bV bp σ x=wa at eN;cases eN with
     |row ho=>
      obtain⟨a,q1,aT,-⟩:=R.mem o _ hm;obtain⟨k,ah,-⟩:=R.at hm;rw[q1]at ho;cases ho;have acz:=a6.iR _ _ _ _ _ _ _ ld ag;have aI:=a6.iR _ _ _ ρ fs _ _ (LO z) e2;have bx:∀H,Own H (dV s G F)->H[a]? =some (.map (gK (U.enc eI) (U.enc j6) m)):=fun H aB=>aB.get k (by rw[ah,aT]);split at h
      ·obtain⟨v,ar,h1,h2,av⟩:=Al (ρ:=ρ) (fs:=fs) a6 h
       exact⟨v,ar,_,h1,h2,av,fun H aB=>@abF H _ _ _ _ ⟨U.beq eI⟩ _ _ _ _ _ _ _ _ _ (RA a6 bI) cC aI (bx H aB) hf acz⟩
      ·obtain⟨v,ar,h1,h2,av⟩:=Al (ρ:=ρ) (fs:=fs) a6 h
       obtain⟨bv,s2,bc,h5,gb⟩:=acr (ρ:=ρ) (fs:=fs) h1;refine⟨_,s2,_,bc,h2.trans h5,.bd (.cons (av.mono h5.aJ ew) (.cons gb .nil)),fun H aB=> ?_⟩;have:=@anS H call (bV bp σ) _ _ ⟨U.beq eI⟩ _ _ _ _ _ _ _ _ _ (RA a6 bI) cC aI (bx H aB) hf acz;show cf call (bV bp σ) H H.length (.lookup kind z x i true)=_;rw[this];simp[Ly]
    ·exact absurd h aD.bad
   ·exact absurd h aD.bad
  ·exact absurd h aD.bad
 case h_23 es x lo hi=>
  split at h
  ·rename_i t a hx
   have eN:=db R b4 hx;generalize hf:bV bp σ x=wa at eN;cases eN;split at h
   ·rename_i e
    have e:=e8 e;subst e;split at h
    ·rename_i ag e2
     obtain⟨y,hy,h⟩:=aD.c2 h;exact done h .sl (fun H aB=>J9 hy (oH (e:=bV bp σ) ag R b4 (.inl ⟨rfl,rfl⟩)) (oH (e:=bV bp σ) e2 R b4 (.inl ⟨rfl,rfl⟩)) hf)
    ·rename_i ag e2
     obtain⟨y,hy,h⟩:=aD.c2 h;exact done h .sl (fun H aB=>J9 hy (oH (e:=bV bp σ) ag R b4 (.inr rfl)) (oH (e:=bV bp σ) e2 R b4 (.inl ⟨rfl,rfl⟩)) hf)
    ·rename_i ag e2
     obtain⟨y,hy,h⟩:=aD.c2 h;exact done h .sl (fun H aB=>J9 hy (oH (e:=bV bp σ) ag R b4 (.inl ⟨rfl,rfl⟩)) (oH (e:=bV bp σ) e2 R b4 (.inr rfl)) hf)
    ·rename_i ag e2
     obtain⟨y,hy,h⟩:=aD.c2 h;exact done h .sl (fun H aB=>J9 hy (oH (e:=bV bp σ) ag R b4 (.inr rfl)) (oH (e:=bV bp σ) e2 R b4 (.inr rfl)) hf)
    ·exact absurd h aD.bad
   ·exact absurd h aD.bad
  ·exact absurd h aD.bad
 case h_24 es bytes a c=>
  split at h
  ·rename_i x t y ao hc
   have Am:=db R b4 hc;generalize oI:bV bp σ c=Da at Am;cases Am;split at h
   ·rename_i ag e2
    obtain⟨z,aI,h⟩:=aD.c2 h;have ag:=e8 ag;subst ag;exact done h .sl fun H aB=>acf aI (.inl rfl) (G5 e2 (db R b4 ao)) oI (a6.bQ t) (a6.ok t)
   ·rename_i ag e2
    obtain⟨z,aI,h⟩:=aD.c2 h;have ag:=e8 ag;subst ag;exact done h .sl fun H aB=>acf aI (.inr rfl) (G5 e2 (db R b4 ao)) oI (a6.bQ t) (a6.ok t)
   ·exact absurd h aD.bad
  ·exact absurd h aD.bad
 case h_25=>exact absurd h aD.bad
end
end Go.Abs.hG
namespace Go.Abs.hG
open Go Go.Abs
section
variable{U:iE}
def jW:(ts:List Nat)->dD U ts->List V
 |[],_=>[]
 |t::r,x=>U.enc t (pt r x)::jW r (xV r x)
def nV (ts:List Nat)(x:dD U ts):V:=one (jW ts x)
def An:(ts:List Nat)->dD U ts->List Nat->cO
 |[],_,_=>[]
 | _::_,_,[]=>[]
 |t::r,x,a::aU=>[(a,.cells (aF (U.enc t (pt r x))))]::An r (xV r x) aU
def nW (ad:Nat->Option cb)(F:cO)(ec:List Nat)(rt:Nat)(f:dD U ec->Option (U.ay rt))(w:V):Prop:=
 (∀H low,fR H low w=some (w,H,low))/\∀H z q,Own H F->f z=some q->cl ad w (jW ec z) H=some (U.enc rt q,H,H.length)
def s7 (ad:Nat->Option cb)(F:cO):(aU:List l4)->l5 U aU->List V->Prop
 |[],_,ws=>ws=[]
 | .v t::r,x,ws=>∃eK,ws=U.enc t x.1::eK/\s7 ad F r x.2 eK
 | .f ec rt::r,x,ws=>∃w eK,ws=w::eK/\nW ad F ec rt x.1 w/\s7 ad F r x.2 eK
abbrev Ao (aU:List Nat):List V:=aU.map fun a=>V.ptr a 0
def lC (ad:Nat->Option cb)(e:bM U):Prop:=∀(H:Heap) (F:cO) (c:dD U e.caps) (a:l5 U e.args) (aU:List Nat) (ws:List V) (r:dD U e.res),
 aU.length=e.caps.length->Own H (An e.caps c aU++F)->s7 ad F e.args a ws->e.fn c a=some r->cl ad (.fn e.id [] (Ao aU)) ws H=some (nV e.res r,H,H.length)
def acA (U:iE)(ad:Nat->Option cb)(i:Nat)(p:Nat × Nat):Prop:=∃n z,ad i=some (.code (sU n (U.es p.1) p.2 z))/\1<=n
def q5 (ad:Nat->Option cb)(b0:nT U):Prop:=(∀e∈b0.T,lC ad e)/\∀q∈b0.wF,acA U ad q.1 q.2
theorem G6{a:Nat}:∀(r:List Nat) (x:U.ay a) (y:dD U r),pt r (xU r x y)=x
 |[],_,_=>rfl
 | _::_,_,_=>rfl
theorem G7{a:Nat}:∀(r:List Nat) (x:U.ay a) (y:dD U r),xV r (xU r x y)=y
 |[],_,()=>rfl
 | _::_,_,_=>rfl
variable{b:Nat}{F:cO}{fs:List V}{s ar:bB U}{σ bp:bY}{H:Heap}{G:Nat->List (Nat × cD)}{ρ:List V}{aq:kK U}{A:Type}[aS A]{S:A->Prop}{ad:Nat->Option cb}{b0:nT U}
theorem LR (a6:gD U){B:List Bool}:∀{ts:List Nat} {vs:List (aO U.ay)} {ws:List V} {x:dD U ts},qZ B ts vs=some x->bz U B ρ fs vs ws->ws=jW ts x
 |[],_,_,_,h,.nil=>rfl
 |[],_,_,_,h,.cons _ _=>by cases h
 | _::_,_,_,_,h,.nil=>by cases h
 |t::ts,_,_,_,h,.cons af r=>by
  simp only[qZ]at h;split at h
  ·cases h
  ·rename_i x e
   split at h
   ·cases h
   ·rename_i l e2
    cases h;simp only[jW,G6,G7];rw[a6.iR _ _ _ _ _ _ _ af e,LR a6 e2 r]
theorem acB (a6:gD U):∀{ts:List Nat} {x:dD U ts} {s:bB U} {k:List (aO U.ay)->bB U->A},S (elems ts x s k)->∃vs ar,S (k vs ar)/\jE s ar/\bz U ar.aJ ρ fs vs (jW ts x)
 |[],_,s,_,h=>⟨[],s,h,.rfl,.nil⟩
 |t::ts,x,s,k,h=>by
  obtain⟨v,s1,h1,ct,v1⟩:=Al (ρ:=ρ) (fs:=fs) a6 h;obtain⟨vs,s2,h2,dN,v2⟩:=acB a6 h1;exact⟨_,s2,h2,ct.trans dN,.cons (v1.mono dN.aJ ew) v2⟩
theorem RC (a6:gD U){ts:List Nat}{x:dD U ts}{k:aO U.ay->bB U->A}(h:S (LA ts x s k)):∃v ar,S (k v ar)/\jE s ar/\b5 U ar.aJ ρ fs v (nV ts x):=by
 obtain⟨vs,s1,h1,ct,v1⟩:=acB (ρ:=ρ) (fs:=fs) a6 h;split at h1
 ·rename_i v
  refine⟨_,s1,h1,ct,?_⟩;unfold nV;generalize jW ts x=ws at v1;cases v1 with
  |cons af r=>cases r;exact af
 ·rename_i bu
  refine⟨_,s1,h1,ct,?_⟩;unfold nV;generalize jW ts x=ws at v1
  have:one ws=.bd ws:=by
   match ws,v1 with
   |[],_=>rfl
   |[w],.cons (v:=v) af .nil=>exact absurd rfl (bu v)
   | _::_::_,_=>rfl
  rw[this];exact .bd v1
theorem _root_.Go.Abs.Own.sub{ms gR:cO}(h:Own H ms)(hs:gR.Sublist ms):Own H gR:=⟨fun m hm=>h.1 m (hs.subset hm),h.2.sublist (hs.map _)⟩
theorem aqW{B:List Bool}{c:aO U.ay}{w:V}{l:List (aO U.ay)}(h:r0 c=some l)(hn:∀vs,c≠ .agg vs)(af:b5 U B ρ fs c w):aF w=[w]:=by
 cases af<;>simp only[r0]at h
 case agg=>exact absurd rfl (hn _)
 case bd=>rfl
 case k=>
  split at h
  ·cases h
  ·cases w<;>first|rfl|simp_all
 case sl=>exact abu _ _ _
 case row=>cases h
 case fv=>cases h
 case lb=>cases h
 all_goals rfl
theorem aqX (R:b6 U b F fs s σ H G ρ){v c:aO U.ay}{w:V}(h:Rg s.mem v=some c)(af:b5 U s.aJ ρ fs v w):
  ∃o a a1 w',v=.ptr o 0/\w=.ptr a 0/\bw s.mem o=some a1/\b5 U s.aJ ρ fs c w'/\G o=[(a,.cells (aF w'))]:=by
 unfold Rg at h;split at h
 ·rename_i o
  cases af with
  |ptr ho=>
   split at h
   ·rename_i wr dk hm
    obtain⟨a,ws,q1,aT,b3,cZ,-⟩:=R.cells hm;rw[q1]at ho;cases ho;split at h
    ·cases h
    ·rename_i hn
     split at h
     ·rename_i l hl
      cases h;cases cZ with
      |cons h1 r=>
       cases r;exact⟨o,_,_,_,rfl,rfl,hm,h1,by rw[aT,aqW hl hn h1]⟩
     ·cases h
   ·rename_i wr cs bu hm
    obtain⟨a,ws,q1,aT,b3,cZ,-⟩:=R.cells hm;rw[q1]at ho;cases ho;cases h;exact⟨o,_,_,_,rfl,rfl,hm,.agg cZ,aT⟩
   ·cases h
 ·cases h
theorem RD (a6:gD U)(R:b6 U b F fs s σ H G ρ):∀{cs vs:List (aO U.ay)} {ws:List V} {ts:List Nat} {c:dD U ts} {l:List Nat},bz U s.aJ ρ fs cs ws->GR s.mem cs=some vs->GQ cs l=true->qZ s.aJ ts vs=some c->
  ∃(aU ks:List Nat),ws=Ao aU/\aU.length=ts.length/\ks.map (fun k=>(dV s G F).getD k [])=An ts c aU/\ks.Nodup/\∀k∈ks,∃e:Nat × cv U,s.mem[k]? =some e/\e.1∉l
 | _,_,_,ts,c,l,.nil,h1,h2,av=>by
   cases h1;cases ts with
   |nil=>exact⟨[],[],rfl,rfl,rfl,H9,fun k ah=>by cases ah⟩
   |cons t ts=>cases av
 |v::cs,vs,_,ts,c,l,.cons af r,h1,h2,av=>by
  simp only[GR]at h1;split at h1
  ·cases h1
  ·rename_i dk ag
   split at h1
   ·cases h1
   ·rename_i ck e2
    cases h1;obtain⟨o,a,a1,w',rfl,rfl,hm,hc,Cc⟩:=aqX R ag af;simp only[GQ]at h2;split at h2
    ·cases h2
    ·rename_i iT
     have iT:o∉l:=fun q=>by rw[(mem_iff o l).2 q]at iT;cases iT
     cases ts with
     |nil=>cases av
     |cons t ts=>
      simp only[qZ]at av;split at av
      ·cases av
      ·rename_i x ex
       split at av
       ·cases av
       ·rename_i y mq
        cases av;obtain⟨aU,ks,p1,p2,p3,mC,s8⟩:=RD a6 R r e2 h2 mq;obtain⟨k,ah,aH,G8,hid⟩:=R.at hm;refine⟨a::aU,k::ks,by rw[p1];rfl,by simp[p2],?_,?_,?_⟩
        ·simp only[eG,An,G6,G7,p3]
         congr 1;rw[yn,ah,Cc,a6.iR _ _ _ _ _ _ _ hc ex];rfl
        ·refine xc.2 ⟨fun eC=> ?_,mC⟩
         obtain⟨e,q1,aT⟩:=s8 k eC;rw[jI aH]at q1;cases q1;exact aT (by rw[hid];simp)
        ·intro bE hk'
         rcases dL.1 hk' with rfl|hk'
         ·exact⟨_,jI aH,by rw[hid];exact iT⟩
         ·obtain⟨e,q1,aT⟩:=s8 bE hk'
          exact⟨e,q1,fun q=>aT (lg _ q)⟩
theorem RE:∀(ts:List Nat) (c:dD U ts),An ts c []=[]
 |[],_=>rfl
 | _::_,_=>rfl
theorem aqY{i:Nat}{ws:List V}(H:Heap)(low:Nat):fR H low (.fn i [] ws)=some (.fn i [] ws,H,low):=by
 unfold fR;simp only[ei];split<;>rfl
theorem RF{F:cO}:∀(ec:List Nat) (z:dD U ec),s7 ad F (ec.map l4.v) (Lz ec z) (jW ec z)
 |[],_=>rfl
 |t::r,z=>⟨_,rfl,RF r _⟩
theorem aqZ (a6:gD U)(R:b6 U b F fs s σ H G ρ)(hT:q5 ad b0)(ae:∀j f,nth b0.fv j=some f->∃w,fs[j]? =some w/\nW ad F f.ec f.rt f.f w)
  {ec:List Nat} {rt:Nat} {v:aO U.ay} {w:V} {f:dD U ec->Option (U.ay rt)} (h:Rh b0 s ec rt v=some f) (af:b5 U s.aJ ρ fs v w):nW ad (dV s G F) ec rt f w:=by
 unfold Rh at h;split at h
 ·rename_i j
  split at h
  ·cases h
  ·rename_i g bx
   obtain⟨w',q1,aT⟩:=ae j g bx;cases af with
   |fv hj=>
    rw[q1]at hj;cases hj;split at h
    ·rename_i eS
     obtain⟨g1,g2,g3⟩:=g;obtain⟨rfl,rfl⟩:=eS;cases h;exact⟨aT.1,fun H z q aB bj=>aT.2 H z q (aB.sub (DE _ _)) bj⟩
    ·cases h
 ·rename_i i cs
  cases af with
  |fn fa=>
   split at h
   ·cases h
   ·rename_i e he
    split at h
    ·rename_i vs c3 hnd
     split at h
     ·cases h
     ·rename_i c hc
      split at h
      ·rename_i eS
       have ur:e∈b0.T/\e.id=i:=by
        clear eS hc h hT;generalize b0.T=T at he
        induction T with
        |nil=>cases he
        |cons e' T ih=>
         simp only[wG]at he;split at he
         ·rename_i hb;cases he;exact⟨by simp,e8 hb⟩
         ·exact⟨lg _ (ih he).1,(ih he).2⟩
       have aZ:=hT.1 e ur.1;obtain⟨aU,ks,p1,p2,p3,mC,s8⟩:=RD a6 R fa c3 hnd hc;have hid:=ur.2;clear ur he;obtain⟨aBy,Eg,Kh,uu,Db⟩:=e;obtain⟨h1,h2⟩:=eS;simp only at h1 h2 hid;subst h1;subst h2;subst hid;cases h;refine⟨aqY,fun H z q aB bj=> ?_⟩;subst p1;exact aZ H [] c (Lz ec z) aU (jW ec z) q p2 (by rw[rk,<-p3];exact aB.abt ks mC) (RF ec z) bj
      ·cases h
    ·cases h
 ·cases h
theorem G9 (a6:gD U)(R:b6 U b F fs s σ H G ρ)(hT:q5 ad b0)(ae:∀j f,nth b0.fv j=some f->∃w,fs[j]? =some w/\nW ad F f.ec f.rt f.f w):
  ∀{aU:List l4} {vs:List (aO U.ay)} {ws:List V} {a:l5 U aU},xW b0 s aU vs=some a->bz U s.aJ ρ fs vs ws->s7 ad (dV s G F) aU a ws
 |[],_,_,_,h,.nil=>rfl
 |[],_,_,_,h,.cons _ _=>by cases h
 | .v _::_,_,_,_,h,.nil=>by cases h
 | .f _ _::_,_,_,_,h,.nil=>by cases h
 | .v t::aU,_,_,_,h,.cons af r=>by
   simp only[xW]at h;split at h
   ·cases h
   ·rename_i x e
    split at h
    ·cases h
    ·rename_i l e2
     cases h;exact⟨_,by rw[a6.iR _ _ _ _ _ _ _ af e],G9 a6 R hT ae e2 r⟩
 | .f ec rt::aU,_,_,_,h,.cons af r=>by
   simp only[xW]at h;split at h
   ·cases h
   ·rename_i x e
    split at h
    ·cases h
    ·rename_i l e2
     cases h;exact⟨_,_,rfl,aqZ a6 R hT ae e af,G9 a6 R hT ae e2 r⟩
theorem LS (a6:gD U){F:cO}:∀{aU:List l4} {a:l5 U aU} {ws:List V},s7 ad F aU a ws->∀H low,e4 H low ws=some (ws,H,low)
 |[],_,_,h,H,low=>by cases h;rfl
 | .v t::aU,x,_,⟨eK,e,r⟩,H,low=>by subst e;exact abw (a6.bQ _ _) (LS a6 r H low)
 | .f ec rt::aU,x,_,⟨w,eK,e,q,r⟩,H,low=>by subst e;exact abx q.1 (LS a6 r H low)
theorem LU{F F':cO}:∀{aU:List l4} {a:l5 U aU} {ws:List V},Ae aU=true->s7 ad F aU a ws->s7 ad F' aU a ws
 |[],_,_,_,h=>h
 | .v t::aU,x,_,hn,⟨eK,e,r⟩=>⟨eK,e,LU (aU:=aU) hn r⟩
 | .f _ _::_,_,_,hn,_=>by cases hn
theorem acC (a6:gD U)(aD:l7 S)(R:b6 U b F fs s σ H G ρ)(hT:q5 ad b0)(ae:∀j f,nth b0.fv j=some f->∃w,fs[j]? =some w/\nW ad F f.ec f.rt f.f w)
  {f:aO U.ay} {aU:List (aO U.ay)} {wf:V} {ws:List V} {k:aO U.ay->bB U->A} (h:S (LB b0 s f aU k)) (af:b5 U s.aJ ρ fs f wf) (ao:bz U s.aJ ρ fs aU ws):
  ∃v ar w,S (k v ar)/\jE s ar/\b5 U ar.aJ ρ fs v w/\∀H,Own H (dV s G F)->cl ad wf ws H=some (w,H,H.length)/\e4 H H.length ws=some (ws,H,H.length):=by
 unfold LB at h;split at h
 ·rename_i j
  split at h
  ·exact absurd h aD.bad
  ·rename_i g bx
   obtain⟨w',q1,aT⟩:=ae j g bx;cases af with
   |fv hj=>
    rw[q1]at hj;cases hj;split at h
    ·exact absurd h aD.bad
    ·rename_i a e
     obtain⟨r,uu,h⟩:=aD.c2 h;obtain⟨v,ar,h1,h2,av⟩:=Al (ρ:=ρ) (fs:=fs) a6 h;have aq0:=LR a6 e ao;subst aq0;exact⟨v,ar,_,h1,h2,av,fun H aB=>⟨aT.2 H a r (aB.sub (DE _ _)) uu,LS (ad:=ad) (F:=F) a6 (RF _ a) H _⟩⟩
 ·rename_i i cs
  cases af with
  |fn fa=>
   split at h
   ·exact absurd h aD.bad
   ·rename_i e he
    split at h
    ·rename_i vs c3 hnd iT
     split at h
     ·exact absurd h aD.bad
     ·rename_i c hc
      split at h
      ·exact absurd h aD.bad
      ·rename_i a ER
       obtain⟨r,uu,h⟩:=aD.c2 h;obtain⟨v,ar,h1,h2,av⟩:=RC (ρ:=ρ) (fs:=fs) a6 h
       have ur:e∈b0.T/\e.id=i:=by
        clear hc ER uu h hT iT h1;generalize b0.T=T at he
        induction T with
        |nil=>cases he
        |cons e' T ih=>
         simp only[wG]at he;split at he
         ·rename_i hb;cases he;exact⟨by simp,e8 hb⟩
         ·exact⟨lg _ (ih he).1,(ih he).2⟩
       have aZ:=hT.1 e ur.1;obtain⟨sk,ks,p1,p2,p3,mC,s8⟩:=RD a6 R fa c3 hnd hc;have Ap:=G9 a6 R hT ae ER ao;have hid:=ur.2;subst hid;subst p1;refine⟨v,ar,_,h1,h2,av,fun H aB=>⟨?_,LS a6 Ap H _⟩⟩;split at iT
       ·have hl:=fa.length
        cases sk with
        |nil=>exact aZ H (dV s G F) c a [] ws r p2 (by rw[RE];exact aB) Ap uu
        |cons x xs=>simp at hl
       ·exact aZ H [] c a sk ws r p2 (by rw[rk,<-p3];exact aB.abt ks mC) (LU iT Ap) uu
    ·exact absurd h aD.bad
 ·exact absurd h aD.bad
theorem wN{α:Type}:∀{l:List (Nat × α)} {o:Nat} {x:α},(l.map Prod.fst).Nodup->(o,x)∈l->bw l o=some x
 |(k,a)::r,o,x,hn,h=>by
  rw[gd];have hn:=xc.1 hn;rcases dL.1 h with e|h
  ·cases e;rw[if_pos rfl]
  ·rw[if_neg fun e=>hn.1 (by subst e;exact eM.2 ⟨_,h,rfl⟩)]
   exact wN hn.2 h
theorem RG{α:Type}{l fS:List (Nat × α)}{o:Nat}{x:α}(hs:fS.Sublist l)(hn:(l.map Prod.fst).Nodup)(h:bw fS o=some x):bw l o=some x:=wN hn (hs.subset (jF h))
theorem Ha (o:Nat):∀m:List (Nat × cv U),(r1 o m).Sublist m
 |[]=>sb _
 |(k,c)::r=>by
  simp only[r1];split
  ·exact List.sublist_cons_self _ _
  ·exact(Ha o r).cons_cons _
theorem acD{o:Nat}:∀{m:List (Nat × cv U)} {a1:cv U},bw m o=some a1->∃k,(m.map fun e=>G e.1)[k]? =some (G o)/\∀x,((r1 o m).map fun e=>G e.1).Sublist ((m.map fun e=>G e.1).set k x)
 |(k,c)::r,a1,h=>by
  simp only[bw]at h;simp only[r1];split at h
  ·rename_i e
   try rw[e]
   refine⟨0,by simp[e8 e],fun x=> ?_⟩;simp only[eG,M3];exact List.sublist_cons_self _ _
  ·rename_i e
   try rw[e]
   obtain⟨i,h1,h2⟩:=acD h;refine⟨i+1,by simpa using h1,fun x=> ?_⟩;simp only[eG,TS];exact(h2 x).cons_cons _
theorem Fw{n low:Nat}:∀{vs:List V},cx vs=true->kT (ei n) H low vs=some (vs,H,low)
 |[],_=>rfl
 |v::r,h=>by
  simp only[cx,ca]at h;have:ei n H low v=some (v,H,low):=by cases n<;>simp[ei,h.1]
  simp only[kT,this,Fw h.2]
theorem aq1{n:Nat}{ms gR:cO}{vs vs':List V}(h:pg b n ms vs vs' gR):nL b (n+1) ms (.agg vs) (.agg vs') gR:=fun H low aB hb=>by
 obtain⟨H1,bS,ag,gS,dQ⟩:=h H low aB hb;refine⟨H1,bS,?_,gS,dQ⟩;simp only[ei,bQ,ag];split
 ·rename_i hp;rw[Fw hp]at ag;cases ag;rfl
 ·rfl
theorem acE{n:Nat}{ms gR:cO}{vs vs':List V}(h:pg b n ms vs vs' gR):nL b (n+1) ms (.bd vs) (.bd vs') gR:=fun H low aB hb=>by
 obtain⟨H1,bS,ag,gS,dQ⟩:=h H low aB hb;refine⟨H1,bS,?_,gS,dQ⟩;simp only[ei,bQ,ag];split
 ·rename_i hp;rw[Fw hp]at ag;cases ag;rfl
 ·rfl
def Aq (b:Nat)(B:List Bool)(ρ fs:List V)(G:Nat->List (Nat × cD))(m:List (Nat × cv U)):Prop:=(m.map Prod.fst).Nodup/\∀o a1,bw m o=some a1->q4 U b B ρ fs o (G o) a1
theorem Aq.sub{B:List Bool}{m m':List (Nat × cv U)}(h:Aq b B ρ fs G m)(hs:m'.Sublist m):Aq b B ρ fs G m':=
 ⟨h.1.sublist (hs.map _),fun o a1 q=>h.2 o a1 (RG hs h.1 q)⟩
theorem Dc{n:Nat}{B:List Bool}{f:List (Nat × cv U)->aO U.ay->Option (aO U.ay × List (Nat × cv U))}
  (ae:∀{m m':List (Nat × cv U)} {v v':aO U.ay} {w:V},Aq b B ρ fs G m->f m v=some (v',m')->b5 U B ρ fs v w->∃w',nL b n (m.map (fun e=>G e.1)++F) w w' (m'.map (fun e=>G e.1)++F)/\b5 U B ρ fs v' w'/\m'.Sublist m):
  ∀{vs vs':List (aO U.ay)} {ws:List V} {m m':List (Nat × cv U)},Aq b B ρ fs G m->um f m vs=some (vs',m')->bz U B ρ fs vs ws->∃eK,pg b n (m.map (fun e=>G e.1)++F) ws eK (m'.map (fun e=>G e.1)++F)/\bz U B ρ fs vs' eK/\m'.Sublist m
 | _,_,_,m,m',hm,h,.nil=>by cases h;exact⟨[],.nil,.nil,sb _⟩
 | _,_,_,m,m',hm,h,.cons af r=>by
   simp only[um]at h;split at h
   ·cases h
   ·rename_i v' m1 ag
    split at h
    ·cases h
    ·rename_i l m2 e2
     cases h;obtain⟨w',al,a2,a3⟩:=ae hm ag af;obtain⟨eK,dQ,fY,jG⟩:=Dc ae (hm.sub a3) e2 r;exact⟨w'::eK,pg.cons al dQ,.cons a2 fY,jG.trans a3⟩
theorem Ar (a6:gD U){B:List Bool}:∀{n:Nat} {m m':List (Nat × cv U)} {v v':aO U.ay} {w:V},Aq b B ρ fs G m->qU n m v=some (v',m')->b5 U B ρ fs v w->∃w',nL b n (m.map (fun e=>G e.1)++F) w w' (m'.map (fun e=>G e.1)++F)/\b5 U B ρ fs v' w'/\m'.Sublist m
 |0,_,_,_,_,_,_,h,_=>by cases h
 |n+1,m,m',v,v',w,hm,h,af=>by
  simp only[qU]at h;split at h
  ·rename_i o
   split at h
   ·rename_i t x hx
    cases h;obtain⟨v0,q1,aT⟩:=hm.2 o _ hx;cases af with
    |row ho=>
     rw[q1]at ho;cases ho;obtain⟨k,ct,dN⟩:=acD (G:=G) hx;have aH:=(fF.1 ct).1;have:=nL.row (b:=b) (n:=n) (ms:=m.map (fun e=>G e.1)++F) k (by rw[gM aH];exact ct) aT (a6.bQ t);refine⟨_,fun H low aB hb=> ?_,.sl,Ha o m⟩;obtain⟨H1,bS,ag,gS,dQ⟩:=this H low aB hb;refine⟨H1,bS,ag,gS.sub ?_,dQ⟩;rw[TJ _ _ aH];exact(dN _).append (sb _)
   ·cases h
  ·split at h
   ·rename_i l m1 e
    cases h;cases af with
    |agg af=>
     obtain⟨eK,al,a2,a3⟩:=Dc (Ar a6) hm e af;exact⟨_,aq1 al,.agg a2,a3⟩
   ·cases h
  ·split at h
   ·rename_i l m1 e
    cases h;cases af with
    |bd af=>
     obtain⟨eK,al,a2,a3⟩:=Dc (Ar a6) hm e af;exact⟨_,acE al,.bd a2,a3⟩
   ·cases h
  ·cases h;exact⟨w,.plain (by cases af;rfl),af,sb _⟩
  ·cases h;exact⟨w,.plain (by cases af;rfl),af,sb _⟩
  ·cases h;exact⟨w,.plain (by cases af;rfl),af,sb _⟩
  ·cases h;exact⟨w,.plain (by cases af;rfl),af,sb _⟩
  ·cases h;exact⟨w,.plain (by cases af;exact pe _ _ _),af,sb _⟩
  ·split at h
   ·rename_i hp;cases h;exact⟨w,.plain (by cases af;exact hp),af,sb _⟩
   ·cases h
  ·cases h
theorem b6.Hb (R:b6 U b F fs s σ H G ρ):Aq b s.aJ ρ fs G s.mem:=⟨R.dx,R.mem⟩
theorem aq2 (a6:gD U){ts:List Nat}{x:dD U ts}(h:GS (U:=U) ts=true):flat (nV ts x)=true:=by
 have key:∀{ts:List Nat} {x:dD U ts},GS (U:=U) ts=true->u2 (jW ts x)=true:=by
  intro ts
  induction ts with
  |nil=>intro _ _;rfl
  |cons t r ih=>
   intro x h;simp only[GS]at h;split at h
   ·rename_i e;simp only[jW,u2,a6.bb t _ e,ih h,xd]
   ·cases h
 have:=key (x:=x) h;unfold nV;generalize jW ts x=ws at this
 match ws,this with
 |[],_=>rfl
 |[w],q=>simpa[u2,one]using q
 | _::_::_,q=>exact q
theorem acF{T:List (bM U)}{i:Nat}{e:bM U}(he:wG T i=some e):e∈T/\e.id=i:=by
 induction T with
 |nil=>cases he
 |cons e' T ih=>
  simp only[wG]at he;split at he
  ·rename_i hb;cases he;exact⟨by simp,e8 hb⟩
  ·exact⟨lg _ (ih he).1,(ih he).2⟩
theorem acG{B:List Bool}:∀{ts:List Nat} {x:dD U ts},qZ B ts []=some x->ts=[]
 |[],_,_=>rfl
 | _::_,_,h=>by cases h
theorem aq3 (a6:gD U)(aD:l7 S)(R:b6 U b F fs s σ H G ρ)(hT:q5 ad b0)(ae:∀j f,nth b0.fv j=some f->∃w,fs[j]? =some w/\nW ad F f.ec f.rt f.f w)
  {f:aO U.ay} {aU:List (aO U.ay)} {wf:V} {ws:List V} {k:aO U.ay->bB U->A} (h:S (Ri b0 s f aU k)) (af:b5 U s.aJ ρ fs f wf) (ao:bz U s.aJ ρ fs aU ws):
  ∃v ar w eK gR,S (k v ar)/\jE s ar/\b5 U ar.aJ ρ fs v w/\pg b 16 (dV s G F) ws eK gR/\(∀H,cl ad wf eK H=some (w,H,H.length))/\flat w=true:=by
 unfold Ri at h;split at h
 ·rename_i i
  cases af with
  |fn hn=>
   cases hn;split at h
   ·rename_i e sk m' he aI
    split at h
    ·rename_i c a hc gU iT
     obtain⟨r,uu,h⟩:=aD.c2 h;obtain⟨v,ar,h1,h2,av⟩:=RC (ρ:=ρ) (fs:=fs) a6 h;obtain⟨eK,nf,z2,-⟩:=Dc (F:=F) (Ar a6) R.Hb aI ao;have RH:e.caps=[]:=acG hc;obtain⟨ur,hid⟩:=acF he;have Ap:=LU (F':=[]) iT (G9 a6 R hT ae gU z2)
     have bn:∀H,cl ad (.fn i [] []) eK H=some (nV e.res r,H,H.length):=fun H=>by
      have:=hT.1 e ur H [] c a [] eK r (by rw[RH]) (by rw[RE];exact .nil H) Ap uu;rwa [hid]at this
     split at h1
     ·rename_i ll
      exact⟨v,ar,_,eK,_,h1,h2,av,nf,bn,aq2 a6 ll⟩
     ·split at h1
      ·rename_i t x
       generalize nV e.res r=w at av bn;cases av;rcases aD.br h1 with⟨ag,rC⟩|⟨ag,rC⟩
       ·have hx:x=.nil:=by cases x<;>first|rfl|cases ag
        subst hx;exact⟨_,ar,.aY,eK,_,rC,h2,.k,nf,bn,rfl⟩
       ·exact absurd rC aD.bad
      ·exact absurd h1 aD.bad
    ·exact absurd h aD.bad
   ·exact absurd h aD.bad
 ·exact absurd h aD.bad
theorem aq4 (a6:gD U)(aD:l7 S)(R:b6 U b F fs s σ H G ρ)(hT:q5 ad b0)(ae:∀j f,nth b0.fv j=some f->∃w,fs[j]? =some w/\nW ad F f.ec f.rt f.f w)
  {f:aO U.ay} {aU:List (aO U.ay)} {wf:V} {ws:List V} {k:aO U.ay->bB U->A} (h:S (Rj b0 s f aU k)) (af:b5 U s.aJ ρ fs f wf) (ao:bz U s.aJ ρ fs aU ws):
  ∃v ar w eK m',S (k v {ar with mem:=m',cN:=gone m' s.mem++ar.cN})/\jE s ar/\b5 U ar.aJ ρ fs v w/\pg b 16 (dV s G F) ws eK (m'.map (fun e=>G e.1)++F)/\(∀H,cl ad wf eK H=some (w,H,H.length))/\m'.Sublist s.mem/\C4 m' s.mem=true:=by
 unfold Rj at h;split at h
 ·rename_i i
  cases af with
  |fn hn=>
   cases hn;split at h
   ·rename_i e sk m' he aI
    split at h
    ·rename_i c a hc gU iT ah
     obtain⟨r,uu,h⟩:=aD.c2 h;obtain⟨v,ar,h1,h2,av⟩:=RC (ρ:=ρ) (fs:=fs) a6 h;obtain⟨eK,nf,z2,z3⟩:=Dc (F:=F) (Ar a6) R.Hb aI ao;have RH:e.caps=[]:=acG hc;obtain⟨ur,hid⟩:=acF he;have Ap:=LU (F':=[]) iT (G9 a6 R hT ae gU z2)
     have bn:∀H,cl ad (.fn i [] []) eK H=some (nV e.res r,H,H.length):=fun H=>by
      have:=hT.1 e ur H [] c a [] eK r (by rw[RH]) (by rw[RE];exact .nil H) Ap uu;rwa [hid]at this
     exact⟨v,ar,_,eK,m',h1,h2,av,nf,bn,z3,ah⟩
    ·exact absurd h aD.bad
   ·exact absurd h aD.bad
 ·exact absurd h aD.bad
end
end Go.Abs.hG
