/- Texts of this claim, joined and written short by a program. -/
import Derived.Test.YtoimeckpnnkbpaaGreatDoorP24
import Derived.Test.YtoimeckpnnkbpaaGreatDoorP00
set_option linter.unusedVariables false
set_option linter.unusedSimpArgs false
set_option linter.unusedSectionVars false
namespace Go.Abs.gK
open Go Go.Abs
section
variable{J:ib}{b:Nat}{F:cN}{fs:List V}{s al:bh J}{σ bB:bV}{H:Heap}{G:Nat->List (Nat × cc)}{ρ:List V}{aw:k6 J}{call:cU}{A:Type}[aM A]{S:A->Prop}
def EE (J:ib)(ρ fs:List V)(s:bh J)(S:A->Prop)(k:aJ J.ax->bh J->A)(st:Heap->Option (V × Heap × Nat))(ms:cN):Prop:=
 ∃v al w,S (k v al)/\iZ s al/\bU J al.aI ρ fs v w/\∀H,Own H ms->st H=some (w,H,H.length)
theorem done{v:aJ J.ax}{w:V}{k:aJ J.ax->bh J->A}{st:Heap->Option (V × Heap × Nat)}{ms:cN}(h:S (k v s))(ad:bU J s.aI ρ fs v w)(e:∀H,Own H ms->st H=some (w,H,H.length)):EE J ρ fs s S k st ms:=⟨v,s,w,h,.rfl,ad,e⟩
theorem sr{c neg:Bool}{k:aJ J.ax->bh J->A}{st:Heap->Option (V × Heap × Nat)}{ms:cN}(h:S (name s c neg k))(e:∀H,Own H ms->st H=some (.bool (c != neg),H,H.length)):EE J ρ fs s S k st ms:=by
 obtain⟨v,al,h1,h2,ar⟩:=WQ (ρ:=ρ) (fs:=fs) h;exact⟨v,al,_,h1,h2,ar,e⟩
theorem N8{ms:cN}(aC:mo S){op:BinOp}{x y:aJ J.ax}{vE WR:V}{k:aJ J.ax->bh J->A}(h:S (bin s op k x y))(hx:bU J s.aI ρ fs x vE)(hy:bU J s.aI ρ fs y WR):
  EE J ρ fs s S k (fun H=>(dB op vE WR).map fun v=>(v,H,H.length)) ms:=by
 unfold bin at h;split at h
 ·rename_i bK a Eo c
  cases hx;cases hy;split at h
  ·exact absurd h aC.bad
  ·rename_i cW
   have cW:=of_decide_eq_true cW;subst cW;have bf:¬(bK≠bK):=fun q=>q rfl;split at h
   ·exact done h .int (fun H aA=>by simp[dB])
   ·exact done h .int (fun H aA=>by simp[dB])
   ·exact done h .int (fun H aA=>by simp[dB])
   ·exact sr h (fun H aA=>by simp[dB])
   ·exact sr h (fun H aA=>by simp[dB])
   ·exact sr h (fun H aA=>by simp[dB])
   ·exact sr h (fun H aA=>by simp[dB])
   ·exact sr h (fun H aA=>by simp[dB])
   ·exact sr h (fun H aA=>by simp[dB])
   ·exact done h .int (fun H aA=>by simp[dB])
   ·split at h
    ·obtain⟨q,e,h⟩:=aC.c2 h
     refine done h .int fun H aA=> ?_;unfold DB at e;split at e
     ·cases e
     ·rename_i hc;cases e;simp[dB,hc]
    ·exact absurd h aC.bad
   ·split at h
    ·obtain⟨q,e,h⟩:=aC.c2 h
     refine done h .int fun H aA=> ?_;unfold DC at e;split at e
     ·cases e
     ·rename_i hc;cases e;simp[dB,hc]
    ·exact absurd h aC.bad
   ·exact absurd h aC.bad
 ·rename_i a c
  cases hx;cases hy;split at h
  ·obtain⟨q,e,h⟩:=aC.c2 h
   refine done h .str fun H aA=> ?_;unfold vg at e;split at e
   ·rename_i hc;cases e;simp only[dB,hc,if_true];rfl
   ·cases e
  ·exact sr h (fun H aA=>by simp[dB])
  ·exact sr h (fun H aA=>by simp[dB])
  ·exact absurd h aC.bad
 ·exact absurd h aC.bad
theorem ajO{ms:cN}(aC:mo S){op:BinOp}{x:aJ J.ax}{vE:V}{tz:IntKind}{c:Int}{k:aJ J.ax->bh J->A}(h:S (NN s op k x tz c))(hx:bU J s.aI ρ fs x vE):
  EE J ρ fs s S k (fun H=>(dB op vE (.int tz c)).map fun v=>(v,H,H.length)) ms:=by
 unfold NN at h;split at h
 ·rename_i bK a
  cases hx;split at h
  ·split at h
   ·rename_i e
    exact done h .int (fun H aA=>by simp only[dB];rw[if_pos (of_decide_eq_true e)];rfl)
   ·exact absurd h aC.bad
  ·split at h
   ·rename_i e
    exact done h .int (fun H aA=>by simp only[dB];rw[if_pos (of_decide_eq_true e)];rfl)
   ·exact absurd h aC.bad
  ·split at h
   ·rename_i e
    obtain⟨rfl,h0⟩:=of_decide_eq_true e;have:¬c=0:=by omega
    exact done h .int (fun H aA=>by simp[dB,this])
   ·exact absurd h aC.bad
  ·split at h
   ·rename_i e
    obtain⟨rfl,h0⟩:=of_decide_eq_true e;have:¬c=0:=by omega
    exact done h .int (fun H aA=>by simp[dB,this])
   ·exact absurd h aC.bad
  ·exact N8 aC h .int .int
 ·exact N8 aC h hx .int
theorem WS:∀{ks:List Nat} {xs cR:List (aJ J.ax)} {vs ws:List V} {e:Bool},tA s ks xs cR=some e->bm J s.aI ρ fs xs vs->bm J s.aI ρ fs cR ws->jW ks vs ws=some e
 |[],_,_,_,_,_,h,.nil,.nil=>by simp only[tA]at h;cases h;rfl
 |[],_,_,_,_,_,h,.cons _ _,.nil=>by simp[tA]at h
 |[],_,_,_,_,_,h,.nil,.cons _ _=>by simp[tA]at h
 |[],_,_,_,_,_,h,.cons _ _,.cons _ _=>by simp[tA]at h
 | _::_,_,_,_,_,_,h,.nil,_=>by simp[tA]at h
 | _::_,_,_,_,_,_,h,.cons _ _,.nil=>by simp[tA]at h
 |n::ks,_,_,_,_,_,h,.cons hx rx,.cons hy ajP=>by
  simp only[tA]at h;split at h
  ·cases h
  ·rename_i e he
   have ih:=WS he rx ajP;simp only[jW];split at h
   ·cases hx;cases hy
    split at h
    ·rename_i cW
     have cW:=of_decide_eq_true cW;subst cW;cases h;simp[ix,ih]
    ·cases h
   ·cases hx;cases hy
    cases h;simp[ix,ih]
   ·split at h
    ·rename_i a c ao hc
     cases h;rw[Bv ao hx,Bv hc hy];simp[ix,ih]
    ·cases h
   ·cases h
theorem WT (R:b5 J b F fs s σ H G ρ)(b6:∀t v,bd aw t=some v->bU J s.aI ρ fs v (bB t)):∀{ps:List (Nat × Nat × ag)} {z cs:List (aJ J.ax)} {N9:List V},IE z aw s ps=some cs->bm J s.aI ρ fs z N9->
  ∃ws,uj N9 (ps.map fun p=>(p.1,p.2.1,bN bB σ p.2.2))=some ws/\bm J s.aI ρ fs cs ws
 |[],_,_,_,h,aT=>by cases h;exact⟨_,rfl,aT⟩
 |(off,n,x)::r,z,cs,N9,h,aT=>by
  simp only[IE]at h;split at h
  ·cases h
  ·rename_i v ad
   split at h
   ·cases h
   ·rename_i l hl
    split at h
    ·rename_i af e2 bT
     have hw:=zc hl (db R b6 ad);obtain⟨ws,h1,h2⟩:=WT R b6 h (I3 hw off aT);refine⟨ws,?_,h2⟩;simp only[eo,uj];rw[if_pos ⟨by rw[<-hw.length];exact e8 af,by rw[<-aT.length];exact km e2,N7 bT hw⟩];exact h1
    ·cases h
theorem WU (a1:gC J){t:Nat}{B:List Bool}:∀{vs:List (aJ J.ax)} {ws:List V} {l:List (J.ax t)},IH t B vs=some l->bm J B ρ fs vs ws->ws=l.map (J.enc t)
 | _,_,_,h,.nil=>by cases h;rfl
 | _,_,_,h,.cons ad r=>by
   simp only[IH]at h;split at h
   ·cases h
   ·rename_i x e
    split at h
    ·cases h
    ·rename_i l e2
     cases h;rw[a1.iu _ _ _ _ _ _ _ ad e,WU a1 e2 r];rfl
theorem WV:∀{n:Nat} {ps:List (Nat × ag)},IG n ps=true->ps.map Prod.fst=List.range' n ps.length
 | _,[],_=>rfl
 |n,p::r,h=>by
  simp only[IG]at h;split at h
  ·rename_i e
   simp only[eo,ev,ub,e8 e,WV h]
  ·cases h
theorem nQ{e:ag->V}{x:Option ag}{o:Option (Option (aJ J.ax))}{d n:Int}(hx:x.map (ae aw s)=o)(R:b5 J b F fs s σ H G ρ)(b6:∀t v,bd aw t=some v->bU J s.aI ρ fs v (bB t))(ho:(o=none/\n=d)\/o=some (some (.int .i64 n))):yL (bN bB σ) x d n:=by
 rcases ho with⟨rfl,rfl⟩|rfl
 ·cases x
  ·exact .inl ⟨rfl,rfl⟩
  ·cases hx
 ·cases x
  ·cases hx
  ·rename_i o
   refine .inr ⟨o,rfl,?_⟩;simp only[pq,az]at hx;have:=db R b6 hx;generalize bN bB σ o=w at this;cases this;rfl
theorem _root_.Go.Abs.jr.cz{α:Type}{es:Nat}{f:α->V}{x:ak α}{e:α}{n:Int}{v:V}{m:List (Nat × cc)}(hr:hf b es f v x m)(h:bQ x.l n=some e):∃l N,v=.cz l es 0 N N:=by
 unfold hf at hr;cases x with
 |mk l=>
  cases hr with
  |row q ds hd hb=>exact⟨_,_,rfl⟩
 | _=>
   unfold bQ at h;split at h<;>simp[ak.l]at h
theorem _root_.Go.Abs.jr.WW{s:ak V}{l es e N:Nat}{m:List (Nat × cc)}(hr:jr b e (.cz l es 0 N N) s m):es=e:=by cases hr;rfl
theorem ajQ{α:Type}{es l N k:Nat}{f:α->V}{x:ak α}{n:Int}{bK:IntKind}{e:α}{m:List (Nat × cc)}{ms:cN}{ae:ag->V}{a i:ag}(he:bQ x.l n=some e)(aA:Own H ms)(cW:ms[k]? =some m)(hr:hf b es f (.cz l es 0 N N) x m)(hx:ae a=.cz l es 0 N N)(hi:ae i=.int bK n):
  b2 call ae H H.length (.indexAddr es a i)=some (.gF l es n.toNat 0 N,H,H.length):=by
 obtain⟨rfl,rfl,-,-⟩:=hr.at rfl;unfold bQ at he;split at he
 ·rename_i hn
  have aX:=(pY.1 he).1;show step ae H H.length (.indexAddr es a i)=_;simp only[step,hi,kr,hn,if_true,hx,aA.get k cW];rw[if_pos ⟨trivial,trivial,trivial,by simpa using aX,by simp⟩];simp
 ·cases he
theorem Oa (a1:gC J){k n:Nat}(h:kindOf (J:=J) k n=true)(a c:J.ax k):ix n (J.enc k a) (J.enc k c)=some (@BEq.beq _ ⟨J.beq k⟩ a c):=by
 unfold kindOf at h;split at h
 ·rename_i m e;rw[e8 h]at e;exact a1.WG k n e a c
 ·cases h
set_option maxHeartbeats 1000000 in
theorem Xh{B:List Bool}{v:aJ J.ax}{w c:V}(h:xd v=some (.k c))(ad:bU J B ρ fs v w):w=c:=by
 unfold xd at h;split at h<;>first|(cases h;cases ad;rfl)|cases h
theorem Ob (a1:gC J)(aC:mo S)(R:b5 J b F fs s σ H G ρ)(b6:∀t v,bd aw t=some v->bU J s.aI ρ fs v (bB t)){ty:Option Nat}{op:cH}{k:aJ J.ax->bh J->A}(h:S (Ep aw s ty k op)):
  EE J ρ fs s S k (fun H=>b2 call (bN bB σ) H H.length op) (dT s G F):=by
 unfold Ep at h;split at h
 case h_1 x=>
  split at h
  ·rename_i v ad;exact done h (db R b6 ad) fun _ _=>rfl
  ·exact absurd h aC.bad
 case h_2 c a d=>
  split at h
  ·rename_i v ad
   obtain⟨β,al,af,e2,bT,cF⟩:=Bu aC h R.dv (db R b6 ad);have nA:=R.dQ e2;have WX:∀t v,bd aw t=some v->bU J al.aI ρ fs v (bB t):=fun t v q=>by rw[bT];exact b6 t v q
   rcases cF with⟨rfl,h⟩|⟨rfl,h⟩
   ·split at h
    ·rename_i v ad;exact⟨_,al,_,h,e2,db nA WX ad,fun H aA=>by simp only[kG,af];rfl⟩
    ·exact absurd h aC.bad
   ·split at h
    ·rename_i v ad;exact⟨_,al,_,h,e2,db nA WX ad,fun H aA=>by simp only[kG,af];rfl⟩
    ·exact absurd h aC.bad
  ·exact absurd h aC.bad
 case h_3 z ps=>
  split at h
  ·rename_i cs hc
   obtain⟨ws,h1,h2⟩:=WT R b6 hc (EC z);exact done h (.agg h2) (fun H aA=>ahr h1)
  ·exact absurd h aC.bad
 case h_4 es z len ps jc=>
  split at h
  ·rename_i t
   split at h
   ·exact absurd h aC.bad
   ·rename_i vs cS
    split at h
    ·rename_i l af e2 bT cF
     have l9:=vD R b6 cS;have hl:=WU a1 af l9;have hlen:vs.length=len:=e8 bT;have fa:J.es t=es:=e8 cF;have Du:(ps.map fun p=>bN bB σ p.2)=l.map (J.enc t):=by rw[<-hl,rB];rfl
     have vF:(l.map (J.enc t)).length=len:=by rw[<-hl,<-l9.length];exact hlen
     have uu:ps.length=len:=by rw[<-vF,<-Du,oG]
     split at h
     ·refine done h .sl fun H aA=> ?_
      have:len=0:=by rw[<-vF];rfl
      subst this;cases ps
      ·exact aht rfl
      ·cases uu
     ·rename_i bf
      refine done h .sl fun H aA=> ?_;rw[show bg (J.es t) (J.enc t) (.mk l)=.list es (l.map (J.enc t)) by rw[<-fa];rfl];refine VX Du (by rw[vF,<-uu];exact WV e2) vF ?_ (A1 (a1.bs t) l) ?_
      ·refine eq_false fun q=> ?_
       rw[q]at vF;rw[oG]at vF;exact bf (List.eq_nil_of_length_eq_zero vF)
      ·intro v ad
       obtain⟨x,-,rfl⟩:=ey.1 ad;exact⟨by rw[a1.es,fa],a1.ok t x⟩
    ·exact absurd h aC.bad
  ·exact absurd h aC.bad
 case h_5 sh x=>
  split at h
  ·rename_i cs f hx
   split at h
   ·rename_i v hc
    have ad:=db R b6 hx;generalize hw:bN bB σ x=w at ad;cases ad with
    |dn ad=>
     obtain⟨u,h1,h2⟩:=ED hc ad;exact done h h2 (fun H aA=>by rw[jK,hw];simp[gN,h1])
   ·exact absurd h aC.bad
  ·rename_i o f hx
   split at h
   ·rename_i wr cs hm
    split at h
    ·rename_i v hc
     have ad:=db R b6 hx;generalize hw:bN bB σ x=w at ad;cases ad with
     |ptr ho=>
      obtain⟨a,ws,q1,aS,b1,cL,-⟩:=R.cells hm;rw[q1]at ho;cases ho;obtain⟨u,h1,h2⟩:=ED hc cL;exact done h h2 (fun H aA=>by rw[jK,hw];simp[gN,b1 H aA,h1])
    ·exact absurd h aC.bad
   ·exact absurd h aC.bad
  ·rename_i o n f hx
   split at h
   ·rename_i t a hm
    obtain⟨e,he,h⟩:=aC.c2 h;obtain⟨v,al,h1,h2,ar⟩:=zd (ρ:=ρ) (fs:=fs) a1 h;split at h1
    ·rename_i cs hc
     split at h1
     ·rename_i u hu
      have ad:=db R b6 hx;generalize hw:bN bB σ x=w at ad;cases ad with
      |iK ho=>
       obtain⟨v0,q1,aS⟩:=R.mem o _ hm;obtain⟨k,cW,-⟩:=R.at hm;rw[q1]at ho;cases ho;have:=aS.WW;subst this;obtain⟨u',ky,oR⟩:=ED hu (zc hc ar);exact⟨_,al,_,h1,h2,oR,fun H aA=>ahz k he aA cW aS rfl ky hw⟩
     ·exact absurd h1 aC.bad
    ·exact absurd h1 aC.bad
   ·exact absurd h aC.bad
  ·exact absurd h aC.bad
 case h_6 x=>
  split at h
  ·rename_i o f hx
   have ad:=db R b6 hx;generalize hw:bN bB σ x=w at ad;cases ad with
   |ptr ho=>exact done h (.ptr ho) (fun H aA=>by simp[b2,step,hw])
  ·rename_i o f hx
   have ad:=db R b6 hx;generalize hw:bN bB σ x=w at ad;cases ad with
   |dn ho=>exact done h (.dn ho) (fun H aA=>by simp[b2,step,hw])
  ·rename_i o f hx
   have ad:=db R b6 hx;generalize hw:bN bB σ x=w at ad;cases ad with
   |fn ho=>exact done h (.fn ho) (fun H aA=>by simp[b2,step,hw])
  ·rename_i o n f hx
   have ad:=db R b6 hx;generalize hw:bN bB σ x=w at ad;cases ad with
   |iK ho=>exact done h (.iK ho) (fun H aA=>by simp[b2,step,hw])
  ·exact absurd h aC.bad
 case h_7 op x tz c=>
  split at h
  ·rename_i v ad
   simp only[jq];exact ajO aC h (db R b6 ad)
  ·exact absurd h aC.bad
 case h_8 op x y _=>
  split at h
  ·rename_i v w ad hw
   simp only[jq];exact N8 aC h (db R b6 ad) (db R b6 hw)
  ·exact absurd h aC.bad
 case h_9 neg ks x y=>
  split at h
  ·rename_i a c ao hc
   split at h
   ·rename_i e he
    have ek:=db R b6 ao;have kN:=db R b6 hc;generalize gT:bN bB σ x=wa at ek;generalize p9:bN bB σ y=EF at kN;cases ek with
    |agg ek=>cases kN with
     |agg kN=>
      refine sr h fun H aA=> ?_;simp only[b2,step,gT,p9,WS he ek kN];cases neg<;>simp
   ·exact absurd h aC.bad
  ·exact absurd h aC.bad
 case h_10 kind neg x y=>
  split at h
  ·rename_i v w ad hw
   have ek:=db R b6 ad;have kN:=db R b6 hw;generalize gT:bN bB σ x=wa at ek;generalize p9:bN bB σ y=EF at kN;split at h
   ·rename_i t a
    cases ek;cases kN;refine sr h fun H aA=> ?_;rw[lz,gT,p9];cases a<;>cases neg<;>rfl
   ·split at h
    ·rename_i a c ao hc
     refine sr h fun H aA=> ?_;rw[lz,gT,p9,Bv ao ek,Bv hc kN];cases neg<;>simp[oJ]
    ·exact absurd h aC.bad
   ·exact absurd h aC.bad
  ·exact absurd h aC.bad
 case h_11 op x=>
  split at h
  ·rename_i c hx
   have ad:=db R b6 hx;generalize hw:bN bB σ x=w at ad;cases ad;exact done h .b0 (fun H aA=>by rw[k2,hw];rfl)
  ·rename_i i neg hx
   have ad:=db R b6 hx;generalize hw:bN bB σ x=w at ad;cases ad with
   |bo hb=>exact done h (.bo hb) (fun H aA=>by rw[k2,hw];rename_i As;cases neg<;>cases As<;>rfl)
  ·rename_i bK n hx
   have ad:=db R b6 hx;generalize hw:bN bB σ x=w at ad;cases ad;exact done h .int (fun H aA=>by rw[k2,hw];rfl)
  ·exact absurd h aC.bad
 case h_12 bK x=>
  split at h
  ·rename_i n hx
   have ad:=db R b6 hx;generalize hw:bN bB σ x=w at ad;cases ad;exact done h .int (fun H aA=>by simp[b2,step,hw])
  ·exact absurd h aC.bad
 case h_13 m x y=>
  split at h
  ·rename_i bK a Eo c hx hy
   have ek:=db R b6 hx;have kN:=db R b6 hy;generalize gT:bN bB σ x=wa at ek;generalize p9:bN bB σ y=EF at kN;cases ek;cases kN;split at h
   ·rename_i e
    have e:=of_decide_eq_true e;subst e;split at h
    ·exact done h .int (fun H aA=>by rw[T0];simp[step,gT,p9])
    ·exact done h .int (fun H aA=>by rw[T0];simp[step,gT,p9])
   ·exact absurd h aC.bad
  ·exact absurd h aC.bad
 case h_14 i cs=>
  split at h
  ·rename_i vs cS
   exact done h (.fn (vD R b6 cS)) (fun H aA=>by rw[MG];rfl)
  ·exact absurd h aC.bad
 case h_15 off x=>
  split at h
  ·rename_i o f hx
   have ad:=db R b6 hx;generalize hw:bN bB σ x=w at ad;cases ad with
   |ptr ho=>exact done h (.ptr ho) (fun H aA=>by rw[mf,hw])
  ·rename_i o f hx
   have ad:=db R b6 hx;generalize hw:bN bB σ x=w at ad;cases ad with
   |dn ho=>exact done h (.dn ho) (fun H aA=>by rw[mf,hw])
  ·rename_i o n f hx
   have ad:=db R b6 hx;generalize hw:bN bB σ x=w at ad;cases ad with
   |iK ho=>exact done h (.iK ho) (fun H aA=>by rw[mf,hw])
  ·exact absurd h aC.bad
 case h_16 off sh x=>
  split at h
  ·rename_i cs hx
   split at h
   ·rename_i v hc
    have ad:=db R b6 hx;generalize hw:bN bB σ x=w at ad;cases ad with
    |agg ho=>
     obtain⟨u,h1,h2⟩:=ED hc ho;exact done h h2 (fun H aA=>by rw[afV,hw];simp[h1])
   ·exact absurd h aC.bad
  ·exact absurd h aC.bad
 case h_17 x i=>
  split at h
  ·rename_i vs hx
   split at h
   ·rename_i v hc
    have ad:=db R b6 hx;generalize hw:bN bB σ x=w at ad;cases ad with
    |aU ho=>
     rw[vx]at hc;obtain⟨u,h1,h2⟩:=ho.get hc;exact done h h2 (fun H aA=>by rw[me,hw];simp[h1])
   ·exact absurd h aC.bad
  ·exact absurd h aC.bad
 case h_18 kind x=>
  split at h
  ·rename_i a hx
   have ad:=db R b6 hx;generalize hw:bN bB σ x=w at ad;cases ad;exact done h .int (fun H aA=>by simp[b2,step,hw])
  ·rename_i t a hx
   have ad:=db R b6 hx;generalize hw:bN bB σ x=w at ad;cases ad;exact done h .int (fun H aA=>qZ hw _)
  ·rename_i o hx
   split at h
   ·rename_i t a hm
    have ad:=db R b6 hx;generalize hw:bN bB σ x=w at ad;cases ad with
    |row ho=>
     obtain⟨v0,q1,aS⟩:=R.mem o _ hm;obtain⟨k,cW,-⟩:=R.at hm;rw[q1]at ho;cases ho;exact done h .int (fun H aA=>V5 aA k cW aS hw)
   ·exact absurd h aC.bad
  ·rename_i o hx
   split at h
   ·rename_i ei ju m hm
    have ad:=db R b6 hx;generalize hw:bN bB σ x=w at ad;cases ad with
    |row ho=>
     obtain⟨a,q1,aS,-⟩:=R.mem o _ hm;obtain⟨k,cW,-⟩:=R.at hm;rw[q1]at ho;cases ho;exact done h .int (fun H aA=>V3 (aA.get k (by rw[cW,aS])) hw)
   ·exact absurd h aC.bad
  ·rename_i hx
   have ad:=db R b6 hx;generalize hw:bN bB σ x=w at ad;cases ad;exact done h .int (fun H aA=>by simp[b2,step,hw])
  ·rename_i hx
   have ad:=db R b6 hx;generalize hw:bN bB σ x=w at ad;cases ad;exact done h .int (fun H aA=>by simp[b2,step,hw])
  ·exact absurd h aC.bad
 case h_19 es x i=>
  split at h
  ·rename_i t a bK n hx hi
   have ek:=db R b6 hx;have kN:=db R b6 hi;generalize gT:bN bB σ x=wa at ek;generalize p9:bN bB σ i=EF at kN;cases ek;cases kN;split at h
   ·rename_i e
    have e:=e8 e;subst e;obtain⟨y,hy,h⟩:=aC.c2 h;obtain⟨v,al,h1,h2,ar⟩:=zd (ρ:=ρ) (fs:=fs) a1 h;split at h1
    ·rename_i cs hc
     exact⟨_,al,_,h1,h2,.dn (zc hc ar),fun H aA=>sc gT p9 hy _⟩
    ·exact absurd h1 aC.bad
   ·exact absurd h aC.bad
  ·rename_i o bK n hx hi
   split at h
   ·rename_i t a hm
    split at h
    ·rename_i e
     have e:=e8 e;subst e;obtain⟨y,hy,h⟩:=aC.c2 h;have ek:=db R b6 hx;have kN:=db R b6 hi;generalize gT:bN bB σ x=wa at ek;generalize p9:bN bB σ i=EF at kN;cases kN;cases ek with
     |row ho=>
      obtain⟨v0,q1,aS⟩:=R.mem o _ hm;obtain⟨k,cW,-⟩:=R.at hm;rw[q1]at ho;cases ho;obtain⟨l,N,rfl⟩:=aS.cz hy;exact done h (.iK q1) (fun H aA=>ajQ hy aA cW aS gT p9)
    ·exact absurd h aC.bad
   ·exact absurd h aC.bad
  ·exact absurd h aC.bad
 case h_20 x i=>
  split at h
  ·rename_i a bK n hx hi
   have ek:=db R b6 hx;have kN:=db R b6 hi;generalize gT:bN bB σ x=wa at ek;generalize p9:bN bB σ i=EF at kN;cases ek;cases kN;obtain⟨y,hy,h⟩:=aC.c2 h;exact done h .int (fun H aA=>ahq gT p9 hy _)
  ·exact absurd h aC.bad
 case h_21 x lo hi=>
  split at h
  ·rename_i a hx
   have ek:=db R b6 hx;generalize gT:bN bB σ x=wa at ek;cases ek;split at h
   ·rename_i af e2
    obtain⟨y,hy,h⟩:=aC.c2 h;exact done h .str (fun H aA=>Hw hy (nQ (e:=bN bB σ) af R b6 (.inl ⟨rfl,rfl⟩)) (nQ (e:=bN bB σ) e2 R b6 (.inl ⟨rfl,rfl⟩)) gT)
   ·rename_i af e2
    obtain⟨y,hy,h⟩:=aC.c2 h;exact done h .str (fun H aA=>Hw hy (nQ (e:=bN bB σ) af R b6 (.inr rfl)) (nQ (e:=bN bB σ) e2 R b6 (.inl ⟨rfl,rfl⟩)) gT)
   ·rename_i af e2
    obtain⟨y,hy,h⟩:=aC.c2 h;exact done h .str (fun H aA=>Hw hy (nQ (e:=bN bB σ) af R b6 (.inl ⟨rfl,rfl⟩)) (nQ (e:=bN bB σ) e2 R b6 (.inr rfl)) gT)
   ·rename_i af e2
    obtain⟨y,hy,h⟩:=aC.c2 h;exact done h .str (fun H aA=>Hw hy (nQ (e:=bN bB σ) af R b6 (.inr rfl)) (nQ (e:=bN bB σ) e2 R b6 (.inr rfl)) gT)
   ·exact absurd h aC.bad
  ·exact absurd h aC.bad
 case h_22 kind z x i ok=>
  split at h
  ·rename_i o v hx hi
   split at h
   ·rename_i ei ju m hm
    split at h
    ·rename_i key cE af e2 bT
     have ek:=db R b6 hx;have kN:=db R b6 hi;generalize gT:bN bB σ x=wa at ek;cases ek with
     |row ho=>
      obtain⟨a,q1,aS,-⟩:=R.mem o _ hm;obtain⟨k,cW,-⟩:=R.at hm;rw[q1]at ho;cases ho;have WY:=a1.iu _ _ _ _ _ _ _ kN af;have aT:=a1.iu _ _ _ ρ fs _ _ (I2 z) e2;have bj:∀H,Own H (dT s G F)->H[a]? =some (.map (gi (J.enc ei) (J.enc ju) m)):=fun H aA=>aA.get k (by rw[cW,aS]);split at h
      ·obtain⟨v,al,h1,h2,ar⟩:=zd (ρ:=ρ) (fs:=fs) a1 h
       exact⟨v,al,_,h1,h2,ar,fun H aA=>@V2 H _ _ _ _ ⟨J.beq ei⟩ _ _ _ _ _ _ _ _ _ (Oa a1 bT) cE aT (bj H aA) gT WY⟩
      ·obtain⟨v,al,h1,h2,ar⟩:=zd (ρ:=ρ) (fs:=fs) a1 h
       obtain⟨bv,s2,aQ,h5,ft⟩:=WQ (ρ:=ρ) (fs:=fs) h1;refine⟨_,s2,_,aQ,h2.trans h5,.aU (.cons (ar.mono h5.aI ea) (.cons ft .nil)),fun H aA=> ?_⟩;have:=@ahx H call (bN bB σ) _ _ ⟨J.beq ei⟩ _ _ _ _ _ _ _ _ _ (Oa a1 bT) cE aT (bj H aA) gT WY;show b2 call (bN bB σ) H H.length (.lookup kind z x i true)=_;rw[this];simp[II]
    ·exact absurd h aC.bad
   ·exact absurd h aC.bad
  ·exact absurd h aC.bad
 case h_23 es x lo hi=>
  split at h
  ·rename_i t a hx
   have ek:=db R b6 hx;generalize gT:bN bB σ x=wa at ek;cases ek;split at h
   ·rename_i e
    have e:=e8 e;subst e;split at h
    ·rename_i af e2
     obtain⟨y,hy,h⟩:=aC.c2 h;exact done h .sl (fun H aA=>yM hy (nQ (e:=bN bB σ) af R b6 (.inl ⟨rfl,rfl⟩)) (nQ (e:=bN bB σ) e2 R b6 (.inl ⟨rfl,rfl⟩)) gT)
    ·rename_i af e2
     obtain⟨y,hy,h⟩:=aC.c2 h;exact done h .sl (fun H aA=>yM hy (nQ (e:=bN bB σ) af R b6 (.inr rfl)) (nQ (e:=bN bB σ) e2 R b6 (.inl ⟨rfl,rfl⟩)) gT)
    ·rename_i af e2
     obtain⟨y,hy,h⟩:=aC.c2 h;exact done h .sl (fun H aA=>yM hy (nQ (e:=bN bB σ) af R b6 (.inl ⟨rfl,rfl⟩)) (nQ (e:=bN bB σ) e2 R b6 (.inr rfl)) gT)
    ·rename_i af e2
     obtain⟨y,hy,h⟩:=aC.c2 h;exact done h .sl (fun H aA=>yM hy (nQ (e:=bN bB σ) af R b6 (.inr rfl)) (nQ (e:=bN bB σ) e2 R b6 (.inr rfl)) gT)
    ·exact absurd h aC.bad
   ·exact absurd h aC.bad
  ·exact absurd h aC.bad
 case h_24 es bytes a c=>
  split at h
  ·rename_i x t y ao hc
   have Js:=db R b6 hc;generalize p9:bN bB σ c=EF at Js;cases Js;split at h
   ·rename_i af e2
    obtain⟨z,aT,h⟩:=aC.c2 h;have af:=e8 af;subst af;exact done h .sl fun H aA=>aaT aT (.inl rfl) (Xh e2 (db R b6 ao)) p9 (a1.bs t) (a1.ok t)
   ·rename_i af e2
    obtain⟨z,aT,h⟩:=aC.c2 h;have af:=e8 af;subst af;exact done h .sl fun H aA=>aaT aT (.inr rfl) (Xh e2 (db R b6 ao)) p9 (a1.bs t) (a1.ok t)
   ·exact absurd h aC.bad
  ·exact absurd h aC.bad
 case h_25=>exact absurd h aC.bad
end
end Go.Abs.gK
namespace Go.Abs.gK
open Go Go.Abs
section
variable{J:ib}
def jk:(ts:List Nat)->dS J ts->List V
 |[],_=>[]
 |t::r,x=>J.enc t (ox r x)::jk r (xb r x)
def nj (ts:List Nat)(x:dS J ts):V:=one (jk ts x)
def ze:(ts:List Nat)->dS J ts->List Nat->cN
 |[],_,_=>[]
 | _::_,_,[]=>[]
 |t::r,x,a::aO=>[(a,.cells (aE (J.enc t (ox r x))))]::ze r (xb r x) aO
def nR (aa:Nat->Option bY)(F:cN)(dK:List Nat)(rt:Nat)(f:dS J dK->Option (J.ax rt))(w:V):Prop:=
 (∀H low,eP H low w=some (w,H,low))/\∀H z q,Own H F->f z=some q->bZ aa w (jk dK z) H=some (J.enc rt q,H,H.length)
def ss (aa:Nat->Option bY)(F:cN):(aO:List lK)->nO J aO->List V->Prop
 |[],_,ws=>ws=[]
 | .v t::r,x,ws=>∃eh,ws=J.enc t x.1::eh/\ss aa F r x.2 eh
 | .f dK rt::r,x,ws=>∃w eh,ws=w::eh/\nR aa F dK rt x.1 w/\ss aa F r x.2 eh
abbrev zf (aO:List Nat):List V:=aO.map fun a=>V.ptr a 0
def mQ (aa:Nat->Option bY)(e:cn J):Prop:=∀(H:Heap) (F:cN) (c:dS J e.caps) (a:nO J e.args) (aO:List Nat) (ws:List V) (r:dS J e.res),
 aO.length=e.caps.length->Own H (ze e.caps c aO++F)->ss aa F e.args a ws->e.fn c a=some r->bZ aa (.fn e.id [] (zf aO)) ws H=some (nj e.res r,H,H.length)
def WZ (J:ib)(aa:Nat->Option bY)(i:Nat)(p:Nat × Nat):Prop:=∃n z,aa i=some (.code (se n (J.es p.1) p.2 z))/\1<=n
def re (aa:Nat->Option bY)(bR:ni J):Prop:=(∀e∈bR.T,mQ aa e)/\∀q∈bR.vz,WZ J aa q.1 q.2
theorem EG{a:Nat}:∀(r:List Nat) (x:J.ax a) (y:dS J r),ox r (xa r x y)=x
 |[],_,_=>rfl
 | _::_,_,_=>rfl
theorem EH{a:Nat}:∀(r:List Nat) (x:J.ax a) (y:dS J r),xb r (xa r x y)=y
 |[],_,()=>rfl
 | _::_,_,_=>rfl
variable{b:Nat}{F:cN}{fs:List V}{s al:bh J}{σ bB:bV}{H:Heap}{G:Nat->List (Nat × cc)}{ρ:List V}{aw:k6 J}{A:Type}[aM A]{S:A->Prop}{aa:Nat->Option bY}{bR:ni J}
theorem I5 (a1:gC J){B:List Bool}:∀{ts:List Nat} {vs:List (aJ J.ax)} {ws:List V} {x:dS J ts},p4 B ts vs=some x->bm J B ρ fs vs ws->ws=jk ts x
 |[],_,_,_,h,.nil=>rfl
 |[],_,_,_,h,.cons _ _=>by cases h
 | _::_,_,_,_,h,.nil=>by cases h
 |t::ts,_,_,_,h,.cons ad r=>by
  simp only[p4]at h;split at h
  ·cases h
  ·rename_i x e
   split at h
   ·cases h
   ·rename_i l e2
    cases h;simp only[jk,EG,EH];rw[a1.iu _ _ _ _ _ _ _ ad e,I5 a1 e2 r]
theorem W0 (a1:gC J):∀{ts:List Nat} {x:dS J ts} {s:bh J} {k:List (aJ J.ax)->bh J->A},S (elems ts x s k)->∃vs al,S (k vs al)/\iZ s al/\bm J al.aI ρ fs vs (jk ts x)
 |[],_,s,_,h=>⟨[],s,h,.rfl,.nil⟩
 |t::ts,x,s,k,h=>by
  obtain⟨v,s1,h1,cq,v1⟩:=zd (ρ:=ρ) (fs:=fs) a1 h;obtain⟨vs,s2,h2,ee,v2⟩:=W0 a1 h1;exact⟨_,s2,h2,cq.trans ee,.cons (v1.mono ee.aI ea) v2⟩
theorem Oc (a1:gC J){ts:List Nat}{x:dS J ts}{k:aJ J.ax->bh J->A}(h:S (IK ts x s k)):∃v al,S (k v al)/\iZ s al/\bU J al.aI ρ fs v (nj ts x):=by
 obtain⟨vs,s1,h1,cq,v1⟩:=W0 (ρ:=ρ) (fs:=fs) a1 h;split at h1
 ·rename_i v
  refine⟨_,s1,h1,cq,?_⟩;unfold nj;generalize jk ts x=ws at v1;cases v1 with
  |cons ad r=>cases r;exact ad
 ·rename_i bf
  refine⟨_,s1,h1,cq,?_⟩;unfold nj;generalize jk ts x=ws at v1
  have:one ws=.aU ws:=by
   match ws,v1 with
   |[],_=>rfl
   |[w],.cons (v:=v) ad .nil=>exact absurd rfl (bf v)
   | _::_::_,_=>rfl
  rw[this];exact .aU v1
theorem _root_.Go.Abs.Own.sub{ms fO:cN}(h:Own H ms)(hs:fO.Sublist ms):Own H fO:=⟨fun m hm=>h.1 m (hs.subset hm),h.2.sublist (hs.map _)⟩
theorem ajR{B:List Bool}{c:aJ J.ax}{w:V}{l:List (aJ J.ax)}(h:q8 c=some l)(hn:∀vs,c≠ .agg vs)(ad:bU J B ρ fs c w):aE w=[w]:=by
 cases ad<;>simp only[q8]at h
 case agg=>exact absurd rfl (hn _)
 case aU=>rfl
 case k=>
  split at h
  ·cases h
  ·cases w<;>first|rfl|simp_all
 case sl=>exact VT _ _ _
 case row=>cases h
 case fv=>cases h
 case kL=>cases h
 all_goals rfl
theorem ajS (R:b5 J b F fs s σ H G ρ){v c:aJ J.ax}{w:V}(h:NP s.mem v=some c)(ad:bU J s.aI ρ fs v w):
  ∃o a aP w',v=.ptr o 0/\w=.ptr a 0/\bd s.mem o=some aP/\bU J s.aI ρ fs c w'/\G o=[(a,.cells (aE w'))]:=by
 unfold NP at h;split at h
 ·rename_i o
  cases ad with
  |ptr ho=>
   split at h
   ·rename_i wr dq hm
    obtain⟨a,ws,q1,aS,b1,cL,-⟩:=R.cells hm;rw[q1]at ho;cases ho;split at h
    ·cases h
    ·rename_i hn
     split at h
     ·rename_i l hl
      cases h;cases cL with
      |cons h1 r=>
       cases r;exact⟨o,_,_,_,rfl,rfl,hm,h1,by rw[aS,ajR hl hn h1]⟩
     ·cases h
   ·rename_i wr cs bf hm
    obtain⟨a,ws,q1,aS,b1,cL,-⟩:=R.cells hm;rw[q1]at ho;cases ho;cases h;exact⟨o,_,_,_,rfl,rfl,hm,.agg cL,aS⟩
   ·cases h
 ·cases h
theorem Od (a1:gC J)(R:b5 J b F fs s σ H G ρ):∀{cs vs:List (aJ J.ax)} {ws:List V} {ts:List Nat} {c:dS J ts} {l:List Nat},bm J s.aI ρ fs cs ws->Et s.mem cs=some vs->Es cs l=true->p4 s.aI ts vs=some c->
  ∃(aO ks:List Nat),ws=zf aO/\aO.length=ts.length/\ks.map (fun k=>(dT s G F).getD k [])=ze ts c aO/\ks.Nodup/\∀k∈ks,∃e:Nat × ch J,s.mem[k]? =some e/\e.1∉l
 | _,_,_,ts,c,l,.nil,h1,h2,ar=>by
   cases h1;cases ts with
   |nil=>exact⟨[],[],rfl,rfl,rfl,FR,fun k cW=>by cases cW⟩
   |cons t ts=>cases ar
 |v::cs,vs,_,ts,c,l,.cons ad r,h1,h2,ar=>by
  simp only[Et]at h1;split at h1
  ·cases h1
  ·rename_i dq af
   split at h1
   ·cases h1
   ·rename_i bF e2
    cases h1;obtain⟨o,a,aP,w',rfl,rfl,hm,hc,AP⟩:=ajS R af ad;simp only[Es]at h2;split at h2
    ·cases h2
    ·rename_i jN
     have jN:o∉l:=fun q=>by rw[(mem_iff o l).2 q]at jN;cases jN
     cases ts with
     |nil=>cases ar
     |cons t ts=>
      simp only[p4]at ar;split at ar
      ·cases ar
      ·rename_i x ex
       split at ar
       ·cases ar
       ·rename_i y rM
        cases ar;obtain⟨aO,ks,p1,p2,p3,j6,qa⟩:=Od a1 R r e2 h2 rM;obtain⟨k,cW,aX,EI,hid⟩:=R.at hm;refine⟨a::aO,k::ks,by rw[p1];rfl,by simp[p2],?_,?_,?_⟩
        ·simp only[eo,ze,EG,EH,p3]
         congr 1;rw[tY,cW,AP,a1.iu _ _ _ _ _ _ _ hc ex];rfl
        ·refine ud.2 ⟨fun ef=> ?_,j6⟩
         obtain⟨e,q1,aS⟩:=qa k ef;rw[hX aX]at q1;cases q1;exact aS (by rw[hid];simp)
        ·intro bp hk'
         rcases dA.1 hk' with rfl|hk'
         ·exact⟨_,hX aX,by rw[hid];exact jN⟩
         ·obtain⟨e,q1,aS⟩:=qa bp hk'
          exact⟨e,q1,fun q=>aS (kQ _ q)⟩
theorem Oe:∀(ts:List Nat) (c:dS J ts),ze ts c []=[]
 |[],_=>rfl
 | _::_,_=>rfl
theorem ajT{i:Nat}{ws:List V}(H:Heap)(low:Nat):eP H low (.fn i [] ws)=some (.fn i [] ws,H,low):=by
 unfold eP;simp only[dF];split<;>rfl
theorem Of{F:cN}:∀(dK:List Nat) (z:dS J dK),ss aa F (dK.map lK.v) (IJ dK z) (jk dK z)
 |[],_=>rfl
 |t::r,z=>⟨_,rfl,Of r _⟩
theorem ajU (a1:gC J)(R:b5 J b F fs s σ H G ρ)(hT:re aa bR)(ab:∀j f,nth bR.fv j=some f->∃w,fs[j]? =some w/\nR aa F f.dK f.rt f.f w)
  {dK:List Nat} {rt:Nat} {v:aJ J.ax} {w:V} {f:dS J dK->Option (J.ax rt)} (h:NQ bR s dK rt v=some f) (ad:bU J s.aI ρ fs v w):nR aa (dT s G F) dK rt f w:=by
 unfold NQ at h;split at h
 ·rename_i j
  split at h
  ·cases h
  ·rename_i g bj
   obtain⟨w',q1,aS⟩:=ab j g bj;cases ad with
   |fv hj=>
    rw[q1]at hj;cases hj;split at h
    ·rename_i fj
     obtain⟨g1,g2,g3⟩:=g;obtain⟨rfl,rfl⟩:=fj;cases h;exact⟨aS.1,fun H z q aA bc=>aS.2 H z q (aA.sub (Ke _ _)) bc⟩
    ·cases h
 ·rename_i i cs
  cases ad with
  |fn fS=>
   split at h
   ·cases h
   ·rename_i e he
    split at h
    ·rename_i vs cS hnd
     split at h
     ·cases h
     ·rename_i c hc
      split at h
      ·rename_i fj
       have tE:e∈bR.T/\e.id=i:=by
        clear fj hc h hT;generalize bR.T=T at he
        induction T with
        |nil=>cases he
        |cons e' T ih=>
         simp only[vA]at he;split at he
         ·rename_i hb;cases he;exact⟨by simp,e8 hb⟩
         ·exact⟨kQ _ (ih he).1,(ih he).2⟩
       have bx:=hT.1 e tE.1;obtain⟨aO,ks,p1,p2,p3,j6,qa⟩:=Od a1 R fS cS hnd hc;have hid:=tE.2;clear tE he;obtain⟨atD,Cv,W1,tF,Bw⟩:=e;obtain⟨h1,h2⟩:=fj;simp only at h1 h2 hid;subst h1;subst h2;subst hid;cases h;refine⟨ajT,fun H z q aA bc=> ?_⟩;subst p1;exact bx H [] c (IJ dK z) aO (jk dK z) q p2 (by rw[rz,<-p3];exact aA.VS ks j6) (Of dK z) bc
      ·cases h
    ·cases h
 ·cases h
theorem EJ (a1:gC J)(R:b5 J b F fs s σ H G ρ)(hT:re aa bR)(ab:∀j f,nth bR.fv j=some f->∃w,fs[j]? =some w/\nR aa F f.dK f.rt f.f w):
  ∀{aO:List lK} {vs:List (aJ J.ax)} {ws:List V} {a:nO J aO},xc bR s aO vs=some a->bm J s.aI ρ fs vs ws->ss aa (dT s G F) aO a ws
 |[],_,_,_,h,.nil=>rfl
 |[],_,_,_,h,.cons _ _=>by cases h
 | .v _::_,_,_,_,h,.nil=>by cases h
 | .f _ _::_,_,_,_,h,.nil=>by cases h
 | .v t::aO,_,_,_,h,.cons ad r=>by
   simp only[xc]at h;split at h
   ·cases h
   ·rename_i x e
    split at h
    ·cases h
    ·rename_i l e2
     cases h;exact⟨_,by rw[a1.iu _ _ _ _ _ _ _ ad e],EJ a1 R hT ab e2 r⟩
 | .f dK rt::aO,_,_,_,h,.cons ad r=>by
   simp only[xc]at h;split at h
   ·cases h
   ·rename_i x e
    split at h
    ·cases h
    ·rename_i l e2
     cases h;exact⟨_,_,rfl,ajU a1 R hT ab e ad,EJ a1 R hT ab e2 r⟩
theorem I6 (a1:gC J){F:cN}:∀{aO:List lK} {a:nO J aO} {ws:List V},ss aa F aO a ws->∀H low,dX H low ws=some (ws,H,low)
 |[],_,_,h,H,low=>by cases h;rfl
 | .v t::aO,x,_,⟨eh,e,r⟩,H,low=>by subst e;exact VV (a1.bs _ _) (I6 a1 r H low)
 | .f dK rt::aO,x,_,⟨w,eh,e,q,r⟩,H,low=>by subst e;exact VW q.1 (I6 a1 r H low)
theorem I7{F F':cN}:∀{aO:List lK} {a:nO J aO} {ws:List V},y6 aO=true->ss aa F aO a ws->ss aa F' aO a ws
 |[],_,_,_,h=>h
 | .v t::aO,x,_,hn,⟨eh,e,r⟩=>⟨eh,e,I7 (aO:=aO) hn r⟩
 | .f _ _::_,_,_,hn,_=>by cases hn
theorem W2 (a1:gC J)(aC:mo S)(R:b5 J b F fs s σ H G ρ)(hT:re aa bR)(ab:∀j f,nth bR.fv j=some f->∃w,fs[j]? =some w/\nR aa F f.dK f.rt f.f w)
  {f:aJ J.ax} {aO:List (aJ J.ax)} {wf:V} {ws:List V} {k:aJ J.ax->bh J->A} (h:S (IL bR s f aO k)) (ad:bU J s.aI ρ fs f wf) (ao:bm J s.aI ρ fs aO ws):
  ∃v al w,S (k v al)/\iZ s al/\bU J al.aI ρ fs v w/\∀H,Own H (dT s G F)->bZ aa wf ws H=some (w,H,H.length)/\dX H H.length ws=some (ws,H,H.length):=by
 unfold IL at h;split at h
 ·rename_i j
  split at h
  ·exact absurd h aC.bad
  ·rename_i g bj
   obtain⟨w',q1,aS⟩:=ab j g bj;cases ad with
   |fv hj=>
    rw[q1]at hj;cases hj;split at h
    ·exact absurd h aC.bad
    ·rename_i a e
     obtain⟨r,tF,h⟩:=aC.c2 h;obtain⟨v,al,h1,h2,ar⟩:=zd (ρ:=ρ) (fs:=fs) a1 h;have W3:=I5 a1 e ao;subst W3;exact⟨v,al,_,h1,h2,ar,fun H aA=>⟨aS.2 H a r (aA.sub (Ke _ _)) tF,I6 (aa:=aa) (F:=F) a1 (Of _ a) H _⟩⟩
 ·rename_i i cs
  cases ad with
  |fn fS=>
   split at h
   ·exact absurd h aC.bad
   ·rename_i e he
    split at h
    ·rename_i vs cS hnd jN
     split at h
     ·exact absurd h aC.bad
     ·rename_i c hc
      split at h
      ·exact absurd h aC.bad
      ·rename_i a C2
       obtain⟨r,tF,h⟩:=aC.c2 h;obtain⟨v,al,h1,h2,ar⟩:=Oc (ρ:=ρ) (fs:=fs) a1 h
       have tE:e∈bR.T/\e.id=i:=by
        clear hc C2 tF h hT jN h1;generalize bR.T=T at he
        induction T with
        |nil=>cases he
        |cons e' T ih=>
         simp only[vA]at he;split at he
         ·rename_i hb;cases he;exact⟨by simp,e8 hb⟩
         ·exact⟨kQ _ (ih he).1,(ih he).2⟩
       have bx:=hT.1 e tE.1;obtain⟨rE,ks,p1,p2,p3,j6,qa⟩:=Od a1 R fS cS hnd hc;have vG:=EJ a1 R hT ab C2 ao;have hid:=tE.2;subst hid;subst p1;refine⟨v,al,_,h1,h2,ar,fun H aA=>⟨?_,I6 a1 vG H _⟩⟩;split at jN
       ·have hl:=fS.length
        cases rE with
        |nil=>exact bx H (dT s G F) c a [] ws r p2 (by rw[Oe];exact aA) vG tF
        |cons x xs=>simp at hl
       ·exact bx H [] c a rE ws r p2 (by rw[rz,<-p3];exact aA.VS ks j6) (I7 jN vG) tF
    ·exact absurd h aC.bad
 ·exact absurd h aC.bad
theorem vH{α:Type}:∀{l:List (Nat × α)} {o:Nat} {x:α},(l.map Prod.fst).Nodup->(o,x)∈l->bd l o=some x
 |(k,a)::r,o,x,hn,h=>by
  rw[fm];have hn:=ud.1 hn;rcases dA.1 h with e|h
  ·cases e;rw[if_pos rfl]
  ·rw[if_neg fun e=>hn.1 (by subst e;exact ey.2 ⟨_,h,rfl⟩)]
   exact vH hn.2 h
theorem Og{α:Type}{l l':List (Nat × α)}{o:Nat}{x:α}(hs:l'.Sublist l)(hn:(l.map Prod.fst).Nodup)(h:bd l' o=some x):bd l o=some x:=vH hn (hs.subset (auD h))
theorem EK (o:Nat):∀m:List (Nat × ch J),(q9 o m).Sublist m
 |[]=>ru _
 |(k,c)::r=>by
  simp only[q9];split
  ·exact List.sublist_cons_self _ _
  ·exact(EK o r).cons_cons _
theorem W4{o:Nat}:∀{m:List (Nat × ch J)} {aP:ch J},bd m o=some aP->∃k,(m.map fun e=>G e.1)[k]? =some (G o)/\∀x,((q9 o m).map fun e=>G e.1).Sublist ((m.map fun e=>G e.1).set k x)
 |(k,c)::r,aP,h=>by
  simp only[bd]at h;simp only[q9];split at h
  ·rename_i e
   try rw[e]
   refine⟨0,by simp[e8 e],fun x=> ?_⟩;simp only[eo,T8];exact List.sublist_cons_self _ _
  ·rename_i e
   try rw[e]
   obtain⟨i,h1,h2⟩:=W4 h;refine⟨i+1,by simpa using h1,fun x=> ?_⟩;simp only[eo,U1];exact(h2 x).cons_cons _
theorem A2{n low:Nat}:∀{vs:List V},bW vs=true->kq (dF n) H low vs=some (vs,H,low)
 |[],_=>rfl
 |v::r,h=>by
  simp only[bW,b8]at h;have:dF n H low v=some (v,H,low):=by cases n<;>simp[dF,h.1]
  simp only[kq,this,A2 h.2]
theorem ajV{n:Nat}{ms fO:cN}{vs vs':List V}(h:nL b n ms vs vs' fO):mh b (n+1) ms (.agg vs) (.agg vs') fO:=fun H low aA hb=>by
 obtain⟨H1,bI,af,hg,dm⟩:=h H low aA hb;refine⟨H1,bI,?_,hg,dm⟩;simp only[dF,bs,af];split
 ·rename_i hp;rw[A2 hp]at af;cases af;rfl
 ·rfl
theorem W5{n:Nat}{ms fO:cN}{vs vs':List V}(h:nL b n ms vs vs' fO):mh b (n+1) ms (.aU vs) (.aU vs') fO:=fun H low aA hb=>by
 obtain⟨H1,bI,af,hg,dm⟩:=h H low aA hb;refine⟨H1,bI,?_,hg,dm⟩;simp only[dF,bs,af];split
 ·rename_i hp;rw[A2 hp]at af;cases af;rfl
 ·rfl
def zg (b:Nat)(B:List Bool)(ρ fs:List V)(G:Nat->List (Nat × cc))(m:List (Nat × ch J)):Prop:=(m.map Prod.fst).Nodup/\∀o aP,bd m o=some aP->p8 J b B ρ fs o (G o) aP
theorem zg.sub{B:List Bool}{m m':List (Nat × ch J)}(h:zg b B ρ fs G m)(hs:m'.Sublist m):zg b B ρ fs G m':=
 ⟨h.1.sublist (hs.map _),fun o aP q=>h.2 o aP (Og hs h.1 q)⟩
theorem Bx{n:Nat}{B:List Bool}{f:List (Nat × ch J)->aJ J.ax->Option (aJ J.ax × List (Nat × ch J))}
  (ab:∀{m m':List (Nat × ch J)} {v v':aJ J.ax} {w:V},zg b B ρ fs G m->f m v=some (v',m')->bU J B ρ fs v w->∃w',mh b n (m.map (fun e=>G e.1)++F) w w' (m'.map (fun e=>G e.1)++F)/\bU J B ρ fs v' w'/\m'.Sublist m):
  ∀{vs vs':List (aJ J.ax)} {ws:List V} {m m':List (Nat × ch J)},zg b B ρ fs G m->tB f m vs=some (vs',m')->bm J B ρ fs vs ws->∃eh,nL b n (m.map (fun e=>G e.1)++F) ws eh (m'.map (fun e=>G e.1)++F)/\bm J B ρ fs vs' eh/\m'.Sublist m
 | _,_,_,m,m',hm,h,.nil=>by cases h;exact⟨[],.nil,.nil,ru _⟩
 | _,_,_,m,m',hm,h,.cons ad r=>by
   simp only[tB]at h;split at h
   ·cases h
   ·rename_i v' m1 af
    split at h
    ·cases h
    ·rename_i l m2 e2
     cases h;obtain⟨w',ai,a2,a3⟩:=ab hm af ad;obtain⟨eh,dm,gy,jO⟩:=Bx ab (hm.sub a3) e2 r;exact⟨w'::eh,nL.cons ai dm,.cons a2 gy,jO.trans a3⟩
theorem zh (a1:gC J){B:List Bool}:∀{n:Nat} {m m':List (Nat × ch J)} {v v':aJ J.ax} {w:V},zg b B ρ fs G m->pP n m v=some (v',m')->bU J B ρ fs v w->∃w',mh b n (m.map (fun e=>G e.1)++F) w w' (m'.map (fun e=>G e.1)++F)/\bU J B ρ fs v' w'/\m'.Sublist m
 |0,_,_,_,_,_,_,h,_=>by cases h
 |n+1,m,m',v,v',w,hm,h,ad=>by
  simp only[pP]at h;split at h
  ·rename_i o
   split at h
   ·rename_i t x hx
    cases h;obtain⟨v0,q1,aS⟩:=hm.2 o _ hx;cases ad with
    |row ho=>
     rw[q1]at ho;cases ho;obtain⟨k,cq,ee⟩:=W4 (G:=G) hx;have aX:=(pY.1 cq).1;have:=mh.row (b:=b) (n:=n) (ms:=m.map (fun e=>G e.1)++F) k (by rw[gE aX];exact cq) aS (a1.bs t);refine⟨_,fun H low aA hb=> ?_,.sl,EK o m⟩;obtain⟨H1,bI,af,hg,dm⟩:=this H low aA hb;refine⟨H1,bI,af,hg.sub ?_,dm⟩;rw[QF _ _ aX];exact(ee _).append (ru _)
   ·cases h
  ·split at h
   ·rename_i l m1 e
    cases h;cases ad with
    |agg ad=>
     obtain⟨eh,ai,a2,a3⟩:=Bx (zh a1) hm e ad;exact⟨_,ajV ai,.agg a2,a3⟩
   ·cases h
  ·split at h
   ·rename_i l m1 e
    cases h;cases ad with
    |aU ad=>
     obtain⟨eh,ai,a2,a3⟩:=Bx (zh a1) hm e ad;exact⟨_,W5 ai,.aU a2,a3⟩
   ·cases h
  ·cases h;exact⟨w,.plain (by cases ad;rfl),ad,ru _⟩
  ·cases h;exact⟨w,.plain (by cases ad;rfl),ad,ru _⟩
  ·cases h;exact⟨w,.plain (by cases ad;rfl),ad,ru _⟩
  ·cases h;exact⟨w,.plain (by cases ad;rfl),ad,ru _⟩
  ·cases h;exact⟨w,.plain (by cases ad;exact o7 _ _ _),ad,ru _⟩
  ·split at h
   ·rename_i hp;cases h;exact⟨w,.plain (by cases ad;exact hp),ad,ru _⟩
   ·cases h
  ·cases h
theorem b5.EL (R:b5 J b F fs s σ H G ρ):zg b s.aI ρ fs G s.mem:=⟨R.dk,R.mem⟩
theorem ajW (a1:gC J){ts:List Nat}{x:dS J ts}(h:Eu (J:=J) ts=true):flat (nj ts x)=true:=by
 have key:∀{ts:List Nat} {x:dS J ts},Eu (J:=J) ts=true->uh (jk ts x)=true:=by
  intro ts
  induction ts with
  |nil=>intro _ _;rfl
  |cons t r ih=>
   intro x h;simp only[Eu]at h;split at h
   ·rename_i e;simp only[jk,uh,a1.aR t _ e,ih h,zV]
   ·cases h
 have:=key (x:=x) h;unfold nj;generalize jk ts x=ws at this
 match ws,this with
 |[],_=>rfl
 |[w],q=>simpa[uh,one]using q
 | _::_::_,q=>exact q
theorem W6{T:List (cn J)}{i:Nat}{e:cn J}(he:vA T i=some e):e∈T/\e.id=i:=by
 induction T with
 |nil=>cases he
 |cons e' T ih=>
  simp only[vA]at he;split at he
  ·rename_i hb;cases he;exact⟨by simp,e8 hb⟩
  ·exact⟨kQ _ (ih he).1,(ih he).2⟩
theorem W7{B:List Bool}:∀{ts:List Nat} {x:dS J ts},p4 B ts []=some x->ts=[]
 |[],_,_=>rfl
 | _::_,_,h=>by cases h
theorem ajX (a1:gC J)(aC:mo S)(R:b5 J b F fs s σ H G ρ)(hT:re aa bR)(ab:∀j f,nth bR.fv j=some f->∃w,fs[j]? =some w/\nR aa F f.dK f.rt f.f w)
  {f:aJ J.ax} {aO:List (aJ J.ax)} {wf:V} {ws:List V} {k:aJ J.ax->bh J->A} (h:S (NR bR s f aO k)) (ad:bU J s.aI ρ fs f wf) (ao:bm J s.aI ρ fs aO ws):
  ∃v al w eh fO,S (k v al)/\iZ s al/\bU J al.aI ρ fs v w/\nL b 16 (dT s G F) ws eh fO/\(∀H,bZ aa wf eh H=some (w,H,H.length))/\flat w=true:=by
 unfold NR at h;split at h
 ·rename_i i
  cases ad with
  |fn hn=>
   cases hn;split at h
   ·rename_i e rE m' he aT
    split at h
    ·rename_i c a hc gv jN
     obtain⟨r,tF,h⟩:=aC.c2 h;obtain⟨v,al,h1,h2,ar⟩:=Oc (ρ:=ρ) (fs:=fs) a1 h;obtain⟨eh,qP,z2,-⟩:=Bx (F:=F) (zh a1) R.EL aT ao;have Oh:e.caps=[]:=W7 hc;obtain⟨tE,hid⟩:=W6 he;have vG:=I7 (F':=[]) jN (EJ a1 R hT ab gv z2)
     have a6:∀H,bZ aa (.fn i [] []) eh H=some (nj e.res r,H,H.length):=fun H=>by
      have:=hT.1 e tE H [] c a [] eh r (by rw[Oh]) (by rw[Oe];exact .nil H) vG tF;rwa [hid]at this
     split at h1
     ·rename_i kA
      exact⟨v,al,_,eh,_,h1,h2,ar,qP,a6,ajW a1 kA⟩
     ·split at h1
      ·rename_i t x
       generalize nj e.res r=w at ar a6;cases ar;rcases aC.br h1 with⟨af,qE⟩|⟨af,qE⟩
       ·have hx:x=.nil:=by cases x<;>first|rfl|cases af
        subst hx;exact⟨_,al,.cp,eh,_,qE,h2,.k,qP,a6,rfl⟩
       ·exact absurd qE aC.bad
      ·exact absurd h1 aC.bad
    ·exact absurd h aC.bad
   ·exact absurd h aC.bad
 ·exact absurd h aC.bad
theorem ajY (a1:gC J)(aC:mo S)(R:b5 J b F fs s σ H G ρ)(hT:re aa bR)(ab:∀j f,nth bR.fv j=some f->∃w,fs[j]? =some w/\nR aa F f.dK f.rt f.f w)
  {f:aJ J.ax} {aO:List (aJ J.ax)} {wf:V} {ws:List V} {k:aJ J.ax->bh J->A} (h:S (NS bR s f aO k)) (ad:bU J s.aI ρ fs f wf) (ao:bm J s.aI ρ fs aO ws):
  ∃v al w eh m',S (k v {al with mem:=m',cB:=gone m' s.mem++al.cB})/\iZ s al/\bU J al.aI ρ fs v w/\nL b 16 (dT s G F) ws eh (m'.map (fun e=>G e.1)++F)/\(∀H,bZ aa wf eh H=some (w,H,H.length))/\m'.Sublist s.mem/\Bq m' s.mem=true:=by
 unfold NS at h;split at h
 ·rename_i i
  cases ad with
  |fn hn=>
   cases hn;split at h
   ·rename_i e rE m' he aT
    split at h
    ·rename_i c a hc gv jN cW
     obtain⟨r,tF,h⟩:=aC.c2 h;obtain⟨v,al,h1,h2,ar⟩:=Oc (ρ:=ρ) (fs:=fs) a1 h;obtain⟨eh,qP,z2,z3⟩:=Bx (F:=F) (zh a1) R.EL aT ao;have Oh:e.caps=[]:=W7 hc;obtain⟨tE,hid⟩:=W6 he;have vG:=I7 (F':=[]) jN (EJ a1 R hT ab gv z2)
     have a6:∀H,bZ aa (.fn i [] []) eh H=some (nj e.res r,H,H.length):=fun H=>by
      have:=hT.1 e tE H [] c a [] eh r (by rw[Oh]) (by rw[Oe];exact .nil H) vG tF;rwa [hid]at this
     exact⟨v,al,_,eh,m',h1,h2,ar,qP,a6,z3,cW⟩
    ·exact absurd h aC.bad
   ·exact absurd h aC.bad
 ·exact absurd h aC.bad
end
end Go.Abs.gK
