/- Texts of this claim, joined and written short by a program. -/
import Derived.Test.YtoimeckpnnkbpaaGreatDoorP00
import Derived.KernelRfl
import Derived.Shelf.Small.Bits
import Derived.Lib.Fields
import Derived.Lib.Atoi
import Derived.Lib.Bytealg
import Derived.Lib.Join
import Derived.Lib.ItoaNum
import Derived.Laws.World
set_option linter.unusedVariables false
set_option linter.unusedSimpArgs false
set_option linter.unusedSectionVars false
namespace Go.Abs
def sV (a b:cU):Prop:=∀f args H r,a f args H=some r->b f args H=some r
variable{call oO:cU}
theorem uk (h:sV call oO){ae:ag->V}{H:Heap}{low:Nat}{op:cH}{r:V × Heap × Nat}(he:b2 call ae H low op=some r):b2 oO ae H low op=some r:=by
 cases op with
 |call raw f args=>
  cases raw
  ·simp only[b2]at he⊢
   split at he
   ·rename_i vs H1 bI h1
    split at he
    ·rename_i u H2 l h2
     rw[h _ _ _ _ h2];exact he
    ·cases he
   ·cases he
  ·simp only[b2]at he⊢
   split at he
   ·rename_i u H2 l h2
    rw[h _ _ _ _ h2];exact he
   ·cases he
 | _=>exact he
theorem xR (h:sV call oO):∀(ops:List bO) (st:aq) (wr:List Bool) (r:aq × List Bool),cQ call ops st wr=some r->cQ oO ops st wr=some r
 |[],st,wr,r,he=>he
 |o::ops,st,wr,r,he=>by
  simp only[cQ]at he⊢;split at he
  ·rename_i hw
   try simp only[hw]
   split at he
   ·rename_i v H' low' h1
    rw[uk h h1];exact xR h ops _ _ _ he
   ·cases he
  ·rename_i hw
   try simp only[hw]
   exact xR h ops _ _ _ he
  ·cases he
theorem xS (h:sV call oO):∀(ops:List bO) (st:aq) (r:List aq),fx call ops st=some r->fx oO ops st=some r
 |[],st,r,he=>he
 |o::ops,st,r,he=>by
  simp only[fx]at he⊢;split at he
  ·rename_i hw
   try simp only[hw]
   split at he
   ·rename_i v H' low' h1
    rw[uk h h1];obtain⟨x,hx,rfl⟩:=ct.1 he;simp only[];rw[xS h ops _ _ hx];rfl
   ·cases he
  ·rename_i hw
   try simp only[hw]
   obtain⟨x,hx,rfl⟩:=ct.1 he;rw[xS h ops _ _ hx];rfl
  ·cases he
theorem Ac (h:sV call oO){q:bO × aq × Heap}(he:jX call q=true):jX oO q=true:=by
 unfold jX at he⊢;split at he
 ·rename_i hw;try simp only[hw]
 ·rename_i hw
  try simp only[hw]
  split at he
  ·rename_i v H1 bI h1
   rw[uk h h1];simp only[];split at he
   ·rename_i v2 H2 c5 h2
    rw[uk h h2];exact he
   ·cases he
  ·cases he
 ·cases he
theorem aa9 (h:sV call oO){dO:List Nat}{ops:List bO}{wr:List Bool}{st:aq}(he:qx call dO ops wr st=true):qx oO dO ops wr st=true:=by
 unfold qx at he⊢;split at he
 ·rename_i cf ht
  rw[xS h _ _ _ ht];simp only[b8,eV]at he⊢;exact⟨he.1,fun q bc=>Ac h (he.2 q bc)⟩
 ·cases he
theorem Kw (h:sV call oO){dO:List Nat}{ops:List bO}{wr:List Bool}{st:aq}(he:nY call dO ops wr st=true):nY oO dO ops wr st=true:=by
 unfold nY at he⊢;simp only[ko]at he⊢;rcases he with he|he
 ·exact .inl (aa9 h he)
 ·right
  split at he
  ·rename_i cf ht
   rw[xS h _ _ _ ht];simp only[b8,eV]at he⊢;exact⟨he.1,fun q bc=>Ac h (he.2 q bc)⟩
  ·cases he
theorem F1{f lR:aq->Option (X × aq)}(h:∀st r,f st=some r->lR st=some r):∀(n m:Nat) (st:aq) (r:X × aq),n<=m->iter f n st=some r->iter lR m st=some r
 |0,_,_,_,_,he=>by cases he
 |n+1,0,_,_,hle,_=>by omega
 |n+1,m+1,st,r,hle,he=>by
  simp only[iter]at he⊢;split at he
  ·rename_i b4 h1
   rw[h _ _ h1];exact F1 h n m _ _ (by omega) he
  ·rename_i bf
   rw[h _ _ he];split
   ·rename_i aF e;cases e;exact absurd he (bf _)
   ·rfl
theorem rF (h:sV call oO){n m:Nat}(hle:n<=m):∀(c:cj) (st:aq) (r:X × aq),exec call n c st=some r->exec oO m c st=some r
 | .skip,st,r,he=>he
 | .xL ops ok f,st,r,he=>by
   simp only[exec]at he⊢;split at he
   ·rename_i b4 wr h1
    rw[xR h _ _ _ _ h1];exact he
   ·cases he
 | .region ops dO,st,r,he=>by
   simp only[exec,aq.fp]at he⊢;split at he
   ·rename_i b4 wr h1
    rw[xR h _ _ _ _ h1];cases dO with
    |none=>exact he
    |some b=>
     simp only at he⊢;split at he
     ·rename_i hb
      rw[if_pos]
      ·exact he
      ·simp only[ko]at hb⊢
       exact hb.imp id (Kw h)
     ·cases he
   ·cases he
 | .seq a b,st,r,he=>by
   simp only[exec,aq.fp]at he⊢;split at he
   ·rename_i b4 h1
    rw[rF h hle a _ _ h1];exact rF h hle b _ _ he
   ·rename_i bf
    rw[rF h hle a _ _ he];split
    ·rename_i b4 e;cases e;exact absurd he (bf _)
    ·rfl
 | .cond c t e,st,r,he=>by
   simp only[exec,aq.fp]at he⊢;split at he
   ·exact rF h hle t _ _ he
   ·exact rF h hle e _ _ he
   ·cases he
 | .block id c,st,r,he=>by
   simp only[exec,aq.fp]at he⊢;split at he
   ·rename_i sU b4 h1
    rw[rF h hle c _ _ h1];exact he
   ·rename_i bf
    rw[rF h hle c _ _ he];split
    ·rename_i sU b4 e;cases e;exact absurd he (bf _ _)
    ·rfl
 | .loop c,st,r,he=>by
   simp only[exec,aq.fp]at he⊢;exact F1 (fun st r hr=>rF h hle c st r hr) n m st r hle he
 | .rangeFunc f ps a b,st,r,he=>by
   simp only[exec,aq.fp]at he⊢;split at he
   ·cases he
   ·rename_i hc
    try rw[if_neg hc]
    split at he
    ·rename_i u H1 bI h1
     rw[h _ _ _ _ h1];exact he
    ·cases he
 | .exit id,st,r,he=>he
 | .ret,st,r,he=>he
 | .fail,st,r,he=>he
def Kx (ex ex':cj->aq->Option (X × aq)):Prop:=∀c st r,ex c st=some r->ex' c st=some r
theorem QY{ex ex':cj->aq->Option (X × aq)}(h:Kx ex ex'){f:h3}{args:List V}{H:Heap}{r:V × Heap × Nat}(he:fZ ex f args H=some r):fZ ex' f args H=some r:=by
 unfold fZ at he⊢;split at he
 ·rename_i hl
  rw[if_pos hl];split at he
  ·rename_i st h1;rw[h _ _ _ h1];exact he
  ·rename_i st h1;rw[h _ _ _ h1];exact he
  ·cases he
 ·cases he
theorem QZ{ex ex':cj->aq->Option (X × aq)}(h:Kx ex ex'){l:Nat}{args:List V}{H:Heap}{r:V × Heap × Nat}(he:nZ ex l args H=some r):nZ ex' l args H=some r:=by
 unfold nZ at he⊢;split at he
 ·split at he
  ·rename_i hl
   simp only[hl,if_true];split at he
   ·rename_i st h1
    simp only[h _ _ _ h1];split at he
    ·rename_i h2
     try simp only[h2]
     split at he
     ·rename_i ar
      simp only[h _ _ _ ar];exact he
     ·cases he
    ·cases he
   ·cases he
  ·cases he
 ·cases he
theorem Q0 (aa:Nat->Option bY):∀n,sV (cu aa n) (cu aa (n+1))
 |0=>fun f args H r he=>by simp[cu]at he
 |n+1=>fun f args H r he=>by
  have hx:Kx (exec (cu aa n) n) (exec (cu aa (n+1)) (n+1)):=fun c st r hr=>rF (Q0 aa n) (Ch n) c st r hr;show qy aa (cu aa (n+1)) (n+1) f args H=some r;change qy aa (cu aa n) n f args H=some r at he;unfold qy at he⊢;split at he
  ·split at he
   ·rename_i h1;try simp only[h1]
    exact QY hx he
   ·rename_i h1;try simp only[h1]
    exact he
   ·rename_i h1;try simp only[h1]
    exact he
   ·cases he
  ·exact QZ hx he
  ·cases he
theorem mD (aa:Nat->Option bY){n:Nat}:∀{m:Nat},n<=m->sV (cu aa n) (cu aa m)
 |0,h=>by have:n=0:=by omega
          subst this;exact fun _ _ _ _ h=>h
 |m+1,h=>by
  rcases fX n (m+1)with h1|h1
  ·exact fun f args H r he=>Q0 aa m f args H r (mD aa (m:=m) (by omega) f args H r he)
  ·have:n=m+1:=by omega
   subst this;exact fun _ _ _ _ h=>h
open Classical in
noncomputable def bZ (aa:Nat->Option bY):cU:=fun f args H=>if h:∃r n,cu aa n f args H=some r then some h.choose else none
open Classical in
noncomputable def dx (aa:Nat->Option bY)(c:cj)(st:aq):Option (X × aq):=if h:∃r n,exec (cu aa n) n c st=some r then some h.choose else none
variable{aa:Nat->Option bY}
theorem um{f:V}{args:List V}{H:Heap}{r:V × Heap × Nat}:bZ aa f args H=some r↔∃n,cu aa n f args H=some r:=by
 unfold bZ;constructor
 ·intro h
  split at h
  ·rename_i hex;cases h;exact hex.choose_spec
  ·cases h
 ·rintro⟨n,hn⟩
  have hex:∃r n,cu aa n f args H=some r:=⟨r,n,hn⟩;rw[dif_pos hex];obtain⟨m,hm⟩:=hex.choose_spec;have a:=mD aa (sQ n m) _ _ _ _ hn;have b:=mD aa (rv n m) _ _ _ _ hm;rw[a]at b;exact b.symm
theorem uo{n m:Nat}(hle:n<=m){c:cj}{st:aq}{r:X × aq}(h:exec (cu aa n) n c st=some r):exec (cu aa m) m c st=some r:=rF (mD aa hle) hle c st r h
theorem ga{c:cj}{st:aq}{r:X × aq}:dx aa c st=some r↔∃n,exec (cu aa n) n c st=some r:=by
 unfold dx;constructor
 ·intro h
  split at h
  ·rename_i hex;cases h;exact hex.choose_spec
  ·cases h
 ·rintro⟨n,hn⟩
  have hex:∃r n,exec (cu aa n) n c st=some r:=⟨r,n,hn⟩;rw[dif_pos hex];obtain⟨m,hm⟩:=hex.choose_spec;have a:=uo (sQ n m) hn;have b:=uo (rv n m) hm;rw[a]at b;exact b.symm
theorem Cm (n:Nat):sV (cu aa n) (bZ aa):=fun _ _ _ _ h=>um.2 ⟨n,h⟩
theorem wu{α:Type}{a b:Option α}(h:∀r,a=some r↔b=some r):a=b:=by
 cases a with
 |none=>cases b with
  |none=>rfl
  |some y=>exact absurd ((h y).2 rfl) (by simp)
 |some x=>exact((h x).1 rfl).symm
theorem F2{ae:ag->V}{H:Heap}{low:Nat}{op:cH}{r:V × Heap × Nat}:b2 (bZ aa) ae H low op=some r↔∃n,b2 (cu aa n) ae H low op=some r:=by
 constructor
 ·intro he
  cases op with
  |call raw f args=>
   cases raw
   ·simp only[b2]at he⊢
    split at he
    ·rename_i vs H1 bI h1
     split at he
     ·rename_i u H2 l h2
      obtain⟨n,hn⟩:=um.1 h2;exact⟨n,by rw[hn];exact he⟩
     ·cases he
    ·cases he
   ·simp only[b2]at he⊢
    split at he
    ·rename_i u H2 l h2
     obtain⟨n,hn⟩:=um.1 h2;exact⟨n,by rw[hn];exact he⟩
    ·cases he
  | _=>exact⟨0,he⟩
 ·rintro⟨n,hn⟩;exact uk (Cm n) hn
theorem Ky:∀(ops:List bO) (st:aq) (wr:List Bool) (r:aq × List Bool),cQ (bZ aa) ops st wr=some r->∃n,cQ (cu aa n) ops st wr=some r
 |[],st,wr,r,he=>⟨0,he⟩
 |o::ops,st,wr,r,he=>by
  simp only[cQ]at he⊢;split at he
  ·rename_i hw
   split at he
   ·rename_i v H' low' h1
    obtain⟨n,hn⟩:=F2.1 h1;obtain⟨m,hm⟩:=Ky ops _ _ _ he;refine⟨max n m,?_⟩;rw[uk (mD aa (sQ n m)) hn];exact xR (mD aa (rv n m)) ops _ _ _ hm
   ·cases he
  ·rename_i hw
   obtain⟨m,hm⟩:=Ky ops _ _ _ he;exact⟨m,hm⟩
  ·cases he
theorem jC (st:aq):dx aa .skip st=some (.normal,st):=ga.2 ⟨0,rfl⟩
theorem lf (id:Nat)(st:aq):dx aa (.exit id) st=some (.exit id,st):=ga.2 ⟨0,rfl⟩
theorem jD (st:aq):dx aa .ret st=some (.ret,st):=ga.2 ⟨0,rfl⟩
theorem F3:∀(ops:List bO) (st:aq) (r:List aq),fx (bZ aa) ops st=some r->∃n,fx (cu aa n) ops st=some r
 |[],st,r,he=>⟨0,he⟩
 |o::ops,st,r,he=>by
  simp only[fx]at he⊢;split at he
  ·rename_i hw
   split at he
   ·rename_i v H' low' h1
    obtain⟨n,hn⟩:=F2.1 h1;obtain⟨x,hx,rfl⟩:=ct.1 he;obtain⟨m,hm⟩:=F3 ops _ _ hx;refine⟨max n m,?_⟩;rw[uk (mD aa (sQ n m)) hn];simp only[];rw[xS (mD aa (rv n m)) ops _ _ hm];rfl
   ·cases he
  ·rename_i hw
   obtain⟨x,hx,rfl⟩:=ct.1 he;obtain⟨m,hm⟩:=F3 ops _ _ hx;exact⟨m,by rw[hm];rfl⟩
  ·cases he
theorem aba{q:bO × aq × Heap}(he:jX (bZ aa) q=true):∃n,jX (cu aa n) q=true:=by
 unfold jX at he⊢;split at he
 ·rename_i hw;exact⟨0,by try simp only[hw]⟩
 ·rename_i hw
  try simp only[hw]
  split at he
  ·rename_i v H1 bI h1
   split at he
   ·rename_i v2 H2 c5 h2
    obtain⟨n,hn⟩:=F2.1 h1;obtain⟨m,hm⟩:=F2.1 h2;refine⟨max n m,?_⟩;rw[uk (mD aa (sQ n m)) hn,uk (mD aa (rv n m)) hm];exact he
   ·cases he
  ·cases he
 ·cases he
theorem Kz:∀(l:List (bO × aq × Heap)),l.all (jX (bZ aa))=true->∃n,l.all (jX (cu aa n))=true
 |[],_=>⟨0,rfl⟩
 |q::l,he=>by
  simp only[xG,b8]at he;obtain⟨n,hn⟩:=aba he.1;obtain⟨m,hm⟩:=Kz l he.2;refine⟨max n m,?_⟩;simp only[xG,b8];refine⟨Ac (mD aa (sQ n m)) hn,?_⟩;rw[eV]at hm⊢;exact fun q bc=>Ac (mD aa (rv n m)) (hm q bc)
theorem abb{dO:List Nat}{ops:List bO}{wr:List Bool}{st:aq}(he:qx (bZ aa) dO ops wr st=true):∃n,qx (cu aa n) dO ops wr st=true:=by
 unfold qx at he;split at he
 ·rename_i cf ht
  simp only[b8]at he;obtain⟨n,hn⟩:=F3 _ _ _ ht;obtain⟨m,hm⟩:=Kz _ he.2;refine⟨max n m,?_⟩;unfold qx;rw[xS (mD aa (sQ n m)) _ _ _ hn];simp only[b8];refine⟨he.1,?_⟩;rw[eV]at hm⊢;exact fun q bc=>Ac (mD aa (rv n m)) (hm q bc)
 ·cases he
theorem abc{dO:List Nat}{ops:List bO}{wr:List Bool}{st:aq}(he:nY (bZ aa) dO ops wr st=true):∃n,nY (cu aa n) dO ops wr st=true:=by
 unfold nY at he;simp only[ko]at he;rcases he with he|he
 ·obtain⟨n,hn⟩:=abb he
  exact⟨n,by unfold nY;rw[hn];rfl⟩
 ·split at he
  ·rename_i cf ht
   simp only[b8]at he;obtain⟨n,hn⟩:=F3 _ _ _ ht;obtain⟨m,hm⟩:=Kz _ he.2;refine⟨max n m,?_⟩;unfold nY;rw[xS (mD aa (sQ n m)) _ _ _ hn];simp only[ko,b8];refine .inr ⟨he.1,?_⟩;rw[eV]at hm⊢;exact fun q bc=>Ac (mD aa (rv n m)) (hm q bc)
  ·cases he
theorem h6 (ops:List bO)(dO:Option (List Nat))(st:aq):dx aa (.region ops dO) st=match cQ (bZ aa) ops {st with aG:=[]} []with
  |some (aF,wr)=>match dO with
   |none=>some (.normal,{aF with aG:=[]})
   |some b=>if nX b ops wr||nY (bZ aa) b ops wr {st with aG:=[]}then some (.normal,{aF with aG:=[]})else none
  |none=>none:=by
 refine wu fun r=> ?_;rw[ga];constructor
 ·rintro⟨n,hn⟩
  simp only[exec,aq.fp]at hn;split at hn
  ·rename_i b4 wr h1
   rw[xR (Cm n) _ _ _ _ h1];cases dO with
   |none=>exact hn
   |some b=>
    simp only at hn⊢;split at hn
    ·rename_i hb
     rw[if_pos]
     ·exact hn
     ·simp only[ko]at hb⊢
      exact hb.imp id (Kw (Cm n))
    ·cases hn
  ·cases hn
 ·intro h
  split at h
  ·rename_i b4 wr h1
   obtain⟨n,hn⟩:=Ky _ _ _ _ h1;cases dO with
   |none=>exact⟨n,by simp only[exec,aq.fp];rw[hn];exact h⟩
   |some b=>
    simp only at h;split at h
    ·rename_i hb
     simp only[ko]at hb;rcases hb with hb|hb
     ·exact⟨n,by simp only[exec,aq.fp];rw[hn];simp only[];rw[hb];exact h⟩
     ·obtain⟨m,hm⟩:=abc hb
      refine⟨max n m,?_⟩;simp only[exec,aq.fp];rw[xR (mD aa (sQ n m)) _ _ _ _ hn];simp only[];rw[Kw (mD aa (rv n m)) hm,Bool.or_true];exact h
    ·cases h
  ·cases h
theorem gn (a b:cj)(st:aq):dx aa (.seq a b) st=match dx aa a st with
  |some (.normal,aF)=>dx aa b aF
  |r=>r:=by
 refine wu fun r=> ?_;rw[ga];constructor
 ·rintro⟨n,hn⟩
  simp only[exec,aq.fp]at hn;split at hn
  ·rename_i b4 h1
   rw[ga.2 ⟨n,h1⟩];exact ga.2 ⟨n,hn⟩
  ·rename_i bf
   rw[ga.2 ⟨n,hn⟩];split
   ·rename_i b4 e;cases e;exact absurd hn (bf _)
   ·rfl
 ·intro h
  split at h
  ·rename_i b4 h1
   obtain⟨n,hn⟩:=ga.1 h1;obtain⟨m,hm⟩:=ga.1 h;exact⟨max n m,by simp only[exec,aq.fp];rw[uo (sQ n m) hn];exact uo (rv n m) hm⟩
  ·rename_i bf
   obtain⟨n,hn⟩:=ga.1 h;refine⟨n,?_⟩;simp only[exec,aq.fp];rw[hn];split
   ·rename_i b4 e;cases e;exact absurd h (bf _)
   ·rfl
theorem iO (c:ag)(t e:cj)(st:aq):dx aa (.cond c t e) st=match c.ae st.aG st.av with
  | .bool true=>dx aa t st
  | .bool false=>dx aa e st
  | _=>none:=by
 refine wu fun r=> ?_;rw[ga];constructor
 ·rintro⟨n,hn⟩
  simp only[exec,aq.fp]at hn;split at hn
  ·rename_i hc
   try simp only[hc]
   exact ga.2 ⟨n,hn⟩
  ·rename_i hc
   try simp only[hc]
   exact ga.2 ⟨n,hn⟩
  ·cases hn
 ·intro h
  split at h
  ·rename_i hc
   obtain⟨n,hn⟩:=ga.1 h;exact⟨n,by simp only[exec,hc];exact hn⟩
  ·rename_i hc
   obtain⟨n,hn⟩:=ga.1 h;exact⟨n,by simp only[exec,hc];exact hn⟩
  ·cases h
theorem jY (id:Nat)(c:cj)(st:aq):dx aa (.block id c) st=match dx aa c st with
  |some (.exit sU,aF)=>if sU=id then some (.normal,aF)else some (.exit sU,aF)
  |r=>r:=by
 refine wu fun r=> ?_;rw[ga];constructor
 ·rintro⟨n,hn⟩
  simp only[exec,aq.fp]at hn;split at hn
  ·rename_i h1
   rw[ga.2 ⟨n,h1⟩];exact hn
  ·rename_i bf
   rw[ga.2 ⟨n,hn⟩];split
   ·rename_i e;cases e;exact absurd hn (bf _ _)
   ·rfl
 ·intro h
  split at h
  ·rename_i h1
   obtain⟨n,hn⟩:=ga.1 h1;exact⟨n,by simp only[exec,aq.fp];rw[hn];exact h⟩
  ·rename_i bf
   obtain⟨n,hn⟩:=ga.1 h;refine⟨n,?_⟩;simp only[exec,aq.fp];rw[hn];split
   ·rename_i e;cases e;exact absurd h (bf _ _)
   ·rfl
theorem abd{f:aq->Option (X × aq)}{n m:Nat}{st:aq}{r:X × aq}(hle:n<=m)(h:iter f n st=some r):iter f m st=some r:=F1 (fun _ _ h=>h) n m st r hle h
theorem py (c:cj)(st:aq):dx aa (.loop c) st=match dx aa c st with
  |some (.normal,aF)=>dx aa (.loop c) aF
  |r=>r:=by
 refine wu fun r=> ?_;rw[ga];constructor
 ·rintro⟨n,hn⟩
  simp only[exec,aq.fp]at hn;cases n with
  |zero=>cases hn
  |succ n=>
   simp only[iter]at hn;split at hn
   ·rename_i b4 h1
    rw[ga.2 ⟨n+1,h1⟩];exact ga.2 ⟨n+1,by simp only[exec,aq.fp];exact abd (Ch n) hn⟩
   ·rename_i bf
    rw[ga.2 ⟨n+1,hn⟩];split
    ·rename_i e;cases e;exact absurd hn (bf _)
    ·rfl
 ·intro h
  split at h
  ·rename_i b4 h1
   obtain⟨n,hn⟩:=ga.1 h1;obtain⟨m,hm⟩:=ga.1 h;simp only[exec,aq.fp]at hm;refine⟨max n m+1,?_⟩;simp only[exec,iter];rw[uo (show n<=max n m+1 by omega) hn];exact F1 (fun st r hr=>uo (show m<=max n m+1 by omega) hr) m (max n m) _ _ (rv n m) hm
  ·rename_i bf
   obtain⟨n,hn⟩:=ga.1 h;refine⟨n+1,?_⟩;simp only[exec,iter];rw[uo (Ch n) hn];split
   ·rename_i e;cases e;exact absurd h (bf _)
   ·rfl
theorem F4 (f:ag)(ps:List Nat)(a b:cj)(st:aq):dx aa (.rangeFunc f ps a b) st=
  if(xN st.H st.ro&&wm (f.ae st.aG st.av))=false then none else
  match bZ aa (f.ae st.aG st.av) [.yield st.H.length] (st.H++[.loop .ready .normal st.av ps a b])with
  |some (_,H',low')=>match H'[st.H.length]? with
   |some (.loop ls sT _ _ _ _)=>if ls=.busy then none else some (sT,{st with H:=H'.set st.H.length .gone,low:=min st.low low'})
   | _=>none
  |none=>none:=by
 refine wu fun r=> ?_;rw[ga];constructor
 ·rintro⟨n,hn⟩
  simp only[exec,aq.fp]at hn;split at hn
  ·cases hn
  ·rename_i hc
   rw[if_neg hc];split at hn
   ·rename_i h1
    rw[Cm n _ _ _ _ h1];exact hn
   ·cases hn
 ·intro h
  split at h
  ·cases h
  ·rename_i hc
   split at h
   ·rename_i h1
    obtain⟨n,hn⟩:=um.1 h1;exact⟨n,by simp only[exec,aq.fp];rw[if_neg hc,hn];exact h⟩
   ·cases h
theorem mE (i:Nat)(first caps args:List V)(H:Heap):bZ aa (.fn i first caps) args H=match aa i with
  |some (.code fn)=>fZ (dx aa) fn (first++args++caps) H
  |some (.ext spec)=>if bW (first++args++caps)then(spec (first++args++caps)).map fun v=>(v,H,H.length)else none
  |some (.zr spec)=>OQ spec (first++args++caps) H
  |none=>none:=by
 refine wu fun r=> ?_;rw[um];constructor
 ·rintro⟨n,hn⟩
  cases n with
  |zero=>simp[cu]at hn
  |succ n=>
   simp only[cu,qy]at hn;split at hn
   ·rename_i h1;try simp only[h1]
    exact QY (ex':=dx aa) (fun c st r h=>ga.2 ⟨n,h⟩) hn
   ·rename_i h1;try simp only[h1]
    exact hn
   ·rename_i h1;try simp only[h1]
    exact hn
   ·cases hn
 ·intro h
  cases ht:aa i with
  |none=>rw[ht]at h;cases h
  |some F=>
   rw[ht]at h;cases F with
   |ext spec=>exact⟨1,by simp only[cu,qy,ht];exact h⟩
   |zr spec=>exact⟨1,by simp only[cu,qy,ht];exact h⟩
   |code fn=>
    simp only at h;unfold fZ at h;split at h
    ·rename_i hl
     split at h
     ·rename_i st h1
      obtain⟨n,hn⟩:=ga.1 h1;exact⟨n+1,by simp only[cu,qy,ht,fZ];rw[if_pos hl,hn];exact h⟩
     ·rename_i st h1
      obtain⟨n,hn⟩:=ga.1 h1;exact⟨n+1,by simp only[cu,qy,ht,fZ];rw[if_pos hl,hn];exact h⟩
     ·cases h
    ·cases h
theorem Q1 (l:Nat)(args:List V)(H:Heap):bZ aa (.yield l) args H=nZ (dx aa) l args H:=by
 refine wu fun r=> ?_;rw[um];constructor
 ·rintro⟨n,hn⟩
  cases n with
  |zero=>simp[cu]at hn
  |succ n=>exact QZ (fun c st r h=>ga.2 ⟨n,h⟩) hn
 ·intro h
  unfold nZ at h;split at h
  ·rename_i hl
   split at h
   ·rename_i hlen
    split at h
    ·rename_i st h1
     split at h
     ·rename_i h2
      split at h
      ·rename_i ar
       obtain⟨n,hn⟩:=ga.1 h1;obtain⟨m,hm⟩:=ga.1 ar;refine⟨max n m+1,?_⟩;simp only[cu,qy,nZ,hl,hlen,if_true];simp only[uo (sQ n m) hn,h2,uo (rv n m) hm];exact h
      ·cases h
     ·cases h
    ·cases h
   ·cases h
  ·cases h
end Go.Abs
namespace Go.Abs
inductive F5 where
 |leaf
 |node (l:F5) (k:Nat) (f:bY) (r:F5)
def F5.get:F5->Nat->Option bY
 | .leaf,_=>none
 | .node l k f r,i=>bif Nat.blt i k then l.get i else bif Nat.blt k i then r.get i else some f
def je (l:List (List V × V)):List V->Option V:=fun args=>match l with
 |[]=>none
 |(aO,v)::r=>bif mV args aO then some v else je r args
def over (aa:Nat->Option bY)(k:Nat)(spec:List V->Option V):Nat->Option bY:=fun i=>bif Nat.beq i k then some (.ext spec)else aa i
def jf (aa:Nat->Option bY)(n i:Nat):List (List V × V)->Prop
 |[]=>True
 |(aO,v)::r=>(bs v=true/\cu aa n (.fn i [] []) aO []=some (v,[],0))/\jf aa n i r
end Go.Abs
namespace Go.Abs.hk
open Go Go.Abs
abbrev au (n:Int):V:=.int .i64 n
def Q2:V:=.agg [au 36,.str [50],au 7,au 8,.cp]
def abe:V:=.list 5 [Q2]
def Q3:V:=.agg [au 3,.str [115],au 0,au 9,abe]
def Q4:V:=.agg [au 35,.str [115],au 24,au 25,.cp]
def abf:V:=.list 5 [Q4]
def Q5:V:=.agg [au 11,.str [97],au 21,au 25,abf]
def abg:V:=.list 5 [Q5]
def Q6:V:=.agg [au 10,.str [],au 20,au 26,abg]
def abh:V:=.list 5 [Q6]
def Q7:V:=.agg [au 4,.str [114],au 10,au 27,abh]
def Q8:V:=.agg [au 10,.str [],au 37,au 39,.cp]
def abj:V:=.agg [au 37,.str [49],au 43,au 44,.cp]
def Q9:V:=.agg [au 37,.str [51],au 46,au 47,.cp]
def abk:V:=.list 5 [abj,Q9]
def Ra:V:=.agg [au 12,.str [],au 43,au 47,abk]
def Rb:V:=.list 5 [Q8,Ra]
def Rc:V:=.agg [au 5,.str [99],au 28,au 48,Rb]
def Rd:V:=.agg [au 10,.str [],au 65,au 67,.cp]
def Re:V:=.agg [au 1,.str [],au 67,au 67,.cp]
def F6:V:=.agg [au 35,.str [115],au 75,au 76,.cp]
def abl:V:=.list 5 [F6]
def Rf:V:=.agg [au 11,.str [120],au 72,au 76,abl]
def Rg:V:=.list 5 [Rf]
def abm:V:=.agg [au 10,.str [],au 71,au 77,Rg]
def Rh:V:=.agg [au 35,.str [120],au 80,au 81,.cp]
def abn:V:=.list 5 [Rh]
def Ri:V:=.agg [au 22,.str [114],au 78,au 82,abn]
def abo:V:=.list 5 [Re,abm,Ri]
def F7:V:=.agg [au 21,.str [43],au 68,au 82,abo]
def abp:V:=.agg [au 1,.str [],au 84,au 84,.cp]
def Rj:V:=.agg [au 22,.str [99],au 85,au 88,.cp]
def Rk:V:=.list 5 [abp,abp,Rj]
def uq:V:=.agg [au 21,.str [45],au 83,au 88,Rk]
def abq:V:=.list 5 [F7,uq]
def Rl:V:=.agg [au 20,.str [],au 68,au 88,abq]
def abr:V:=.agg [au 37,.str [48],au 92,au 93,.cp]
def KA:V:=.list 5 [abr]
def abt:V:=.agg [au 19,.str [60,61],au 89,au 93,KA]
def Rm:V:=.list 5 [Rd,Rl,abt]
def abu:V:=.agg [au 17,.str [],au 62,au 93,Rm]
def Rn:V:=.list 5 [abu]
def abv:V:=.agg [au 8,.str [105],au 49,au 94,Rn]
def KB:V:=.list 5 [Q3,Q7,Rc,abv]
def abw:V:=.agg [au 2,.str [],au 0,au 94,KB]
def abx:V:=.agg [.str [115],au 2]
def aby:V:=.list 2 [abx]
def abz:V:=.agg [.str [114],au 0,.list 1 [au 0],au 0,au 1,au 0]
def wv:V:=.agg [.str [99],au 1,.cp,au 1,au 3,au 2]
def Ro:V:=.list 6 [abz,wv]
def abA:V:=.agg [.str [105],au 12]
def KC:V:=.list 2 [abA]
def abB:V:=.agg [au 2,.str [],au 0,au 94,KB,aby,Ro,KC,.cp]
def abC:V:=.str [115,111,114,116,32,115,32,50,59,32,114,101,108,97,116,105,111,110,32,114,40,97,58,32,115,41,59,32,99,111,117,110,116,101,114,32,99,40,41,32,105,110,32,49,46,46,51,59,32,105,110,118,97,114,105,97,110,116,32,105,58,32,97,108,108,40,41,32,115,117,109,40,120,58,32,115,41,32,114,40,120,41,32,45,32,99,40,41,32,60,61,32,48,59]
def KD:V:=.agg [au 0,au (-1)]
def abD:V:=.list 2 [KD]
def abE:V:=.agg [au 0,au 0,abD,au 0,au 0,au 0]
def KE:V:=.agg [au 0,au 1]
def abF:V:=.list 2 [KE]
def abG:V:=.agg [au 0,au 0,abF,au 1,au 0,au 0]
def Cn:V:=.agg [au 1,au (-1)]
def abH:V:=.list 2 [Cn]
def Rp:V:=.agg [au 0,au 0,abH,au 0,au 0,au 0]
def abI:V:=.agg [au 1,au 1]
def abJ:V:=.list 2 [abI]
def abK:V:=.agg [au 0,au 0,abJ,au 1,au 0,au 0]
def abL:V:=.agg [au 2,au (-1)]
def abM:V:=.list 2 [abL]
def Rq:V:=.agg [au 0,au 1,abM,au (-1),au 0,au 0]
def aC4:V:=.agg [au 2,au 1]
def axh:V:=.list 2 [aC4]
def axi:V:=.agg [au 0,au 1,axh,au 3,au 0,au 0]
def axj:V:=.list 2 [KE,abI,abL]
def axk:V:=.agg [au 0,au 2,axj,au 0,au 0,au 0]
def ax9:V:=.list 6 [abE,abG,Rp,abK,Rq,axi,axk]
def aC5:V:=.list 1 [.str [114],.str [99],.str [105]]
def auK:V:=.agg [.list 1 [au 2],Ro,aC5,ax9,.cp,.cp,.cp]
def aya:V:=.str [99,40,41,61,50,59,114,32,40,32,48,32,41,32,61,32,49,32,59]
def Ut:V:=.list 1 [au 1,au 1,au 1]
def ags:V:=.list 1 [au 1,au 0,au 1]
end Go.Abs.hk
namespace Go.Abs.hk
open Go Go.Abs
def Co:List V->Option V
 |[.str s]=>if s.all (fun b=>b<128)&&decide (s.length<4294967281)then some (if(Lib.fields s).isEmpty then .emp else .list 1 ((Lib.fields s).map .str))else none
 | _=>none
def Cp:List V->Option V
 |[.str s]=>if s.length<=18 then(Lib.atoi s).map fun n=>.aU [.int .i64 n,.ig]else none
 | _=>none
def F8:List V->Option V
 |[.str s,.int .u8 c]=>some (.int .i64 (Lib.indexByte s (UInt8.ofNat c.toNat)))
 | _=>none
def strs:List V->Option (List (List UInt8))
 |[]=>some []
 | .str s::r=>(strs r).map (s:: ·)
 | _=>none
def Cq:List V->Option V
 |[.cp,.str _]=>some (.str [])
 |[.list es ds,.str sep]=>match strs ds with
  |some l=>if es=1/\l≠[]/\l.length<=4096/\(Lib.join l sep).length<=1000000 then some (.str (Lib.join l sep))else none
  |none=>none
 | _=>none
def Cr:List V->Option V
 |[.int .i64 n]=>if 0<=n/\n<10 then some (.str [UInt8.ofNat (48+n.toNat)])else if -100000<n/\n<100000 then some (.str (Lib.itoa n))else none
 | _=>none
def KF:List V->Option V
 |[.int .u64 n]=>if 0<=n/\n<=7 then some (.int .i64 (Lib.bitLen n.toNat))else none
 | _=>none
def KG:List V->Option V
 |[.str s,.str [c]]=>if c<128 then some (.str (s.dropWhile (· ==c)))else none
 | _=>none
def Rr:List (List V × V):=[([abD],abD),([abF],abF),([abH],abH),([abJ],abJ),([abM],abM),([axh],axh),([axj],axj)]
end Go.Abs.hk
namespace Go.Abs
open Go
structure Home where
 b:Nat
 tag:Nat
 ff:Nat
 dt:Bool
structure bX where
 β:Nat->Option Home
 I:Nat->Prop
def iz (w:World)(b o:Nat)(vals:List Value):Prop:=
 ∀(j:Nat) (x:Value),vals[j]? =some x->w.cell? ⟨b,o+j,none⟩=some x
mutual
inductive fz (w:World) (I:Nat->Prop):V->Value->Prop
 |bool (b:Bool):fz w I (.bool b) (.bool b)
 |int (k:IntKind) (n:Int):fz w I (.int k n) (.int k n)
 |str (s:List UInt8):fz w I (.str s) (.string ⟨⟨s⟩⟩)
 |cp:fz w I .cp (.slice none 0 0)
 |emp (a:Addr):fz w I .emp (.slice (some a) 0 0)
 |ur (es:Nat) (a:Addr) (cap:Nat):fz w I (.list es []) (.slice (some a) 0 cap)
 |list (es:Nat) (ds:List V) (b o cap:Nat) (vals:List Value) (aW:I b) (hc:iz w b o vals) (hu:∀d∈ds,(aE d).length=es)
  (hr:c7 w I (ds.flatMap aE) vals) (hl:ds.length<=cap):fz w I (.list es ds) (.slice (some ⟨b,o,none⟩) ds.length cap)
 |jb:fz w I .jb (.pointer none)
 |iw:fz w I .iw (.map none)
 |jV:fz w I .jV .nilFunc
 |ig:fz w I .ig .nilIface
 |agg (vs:List V) (vals:List Value) (hr:c7 w I vs vals):fz w I (.agg vs) (.agg ⟨vals⟩)
 |aU (vs:List V) (vals:List Value) (hr:c7 w I vs vals):fz w I (.aU vs) (.tuple ⟨vals⟩)
 |iface (t:Nat) (v:V) (x:Value) (hr:fz w I v x):fz w I (.iface t v) (.iface t x)
 |fn (i:Nat) (fs cs:List V) (xs cR:List Value) (ab:c7 w I fs xs) (hc:c7 w I cs cR):fz w I (.fn i fs cs) (.func (.func i) ⟨xs⟩ ⟨cR⟩)
inductive c7 (w:World) (I:Nat->Prop):List V->List Value->Prop
 |nil:c7 w I [] []
 |cons (v:V) (x:Value) (vs:List V) (xs:List Value) (h:fz w I v x) (hs:c7 w I vs xs):c7 w I (v::vs) (x::xs)
end
section
mutual
inductive a8 (fid:Nat->Nat) (G:bX) (w:World):V->Value->Prop
 |p (v:V) (x:Value) (h:fz w G.I v x):a8 fid G w v x
 |ptr (l o:Nat) (h:Home) (hb:G.β l=some h) (ht:h.tag=0):a8 fid G w (.ptr l o) (.pointer (some ⟨h.b,o,none⟩))
 |gF (l es i f tag:Nat) (h:Home) (a:Addr) (hb:G.β l=some h) (hle:tag<=h.tag) (ao:h.tag=tag->a=⟨h.b,i*es+f,none⟩):
  a8 fid G w (.gF l es i f tag) (.pointer (some a))
 |dn (vs:List V) (f b o:Nat) (vals:List Value) (aW:G.I b) (hc:iz w b o vals) (hr:c7 w G.I vs vals):a8 fid G w (.dn vs f) (.pointer (some ⟨b,o+f,none⟩))
 |cz (l es off len tag:Nat) (h:Home) (a:Addr) (n cap:Nat) (hb:G.β l=some h) (hle:tag<=h.tag)
  (ao:h.tag=tag->a=⟨h.b,off*es,none⟩/\n=len/\(off+cap)*es<=h.ff/\len<=cap):a8 fid G w (.cz l es off len tag) (.slice (some a) n cap)
 |map (l:Nat) (h:Home) (hb:G.β l=some h) (ht:h.tag=0):a8 fid G w (.map l) (.map (some h.b))
 |fn (i:Nat) (fs cs:List V) (xs cR:List Value) (ab:aY fid G w fs xs) (hc:aY fid G w cs cR):a8 fid G w (.fn i fs cs) (.func (.func i) ⟨xs⟩ ⟨cR⟩)
 |yield (l:Nat) (h:Home) (hb:G.β l=some h) (ht:h.tag=0):a8 fid G w (.yield l) (.func (.yield h.b) #[] #[])
 |agg (vs:List V) (vals:List Value) (hr:aY fid G w vs vals):a8 fid G w (.agg vs) (.agg ⟨vals⟩)
 |aU (vs:List V) (vals:List Value) (hr:aY fid G w vs vals):a8 fid G w (.aU vs) (.tuple ⟨vals⟩)
 |iface (t:Nat) (v:V) (x:Value) (hr:a8 fid G w v x):a8 fid G w (.iface t v) (.iface t x)
 |undef (x:Value):a8 fid G w .undef x
inductive aY (fid:Nat->Nat) (G:bX) (w:World):List V->List Value->Prop
 |nil:aY fid G w [] []
 |cons (v:V) (x:Value) (vs:List V) (xs:List Value) (h:a8 fid G w v x) (hs:aY fid G w vs xs):aY fid G w (v::vs) (x::xs)
end
end
variable{fid:Nat->Nat}{w w':World}{G G':bX}{I qA:Nat->Prop}
theorem Rt{b:Nat}(h:w'.heap[b]? =w.heap[b]?)(o:Nat):w'.cell? ⟨b,o,none⟩=w.cell? ⟨b,o,none⟩:=by
 simp[World.cell?,h]
theorem iz.dQ{b o:Nat}{vals:List Value}(h:iz w b o vals)(hb:w'.heap[b]? =w.heap[b]?):iz w' b o vals:=
 fun j x hx=>by rw[Rt hb];exact h j x hx
mutual
theorem fz.mono (aW:∀b,I b->qA b/\w'.heap[b]? =w.heap[b]?):∀{v:V} {x:Value},fz w I v x->fz w' qA v x
 | _,_,.bool b=>.bool b
 | _,_,.int k n=>.int k n
 | _,_,.str s=>.str s
 | _,_,.cp=>.cp
 | _,_,.emp a=>.emp a
 | _,_,.ur es a cap=>.ur es a cap
 | _,_,.list es ds b o cap vals h hc hu hr hl=>.list es ds b o cap vals (aW b h).1 (hc.dQ (aW b h).2) hu (c7.mono aW hr) hl
 | _,_,.jb=>.jb
 | _,_,.iw=>.iw
 | _,_,.jV=>.jV
 | _,_,.ig=>.ig
 | _,_,.agg vs vals hr=>.agg vs vals (c7.mono aW hr)
 | _,_,.aU vs vals hr=>.aU vs vals (c7.mono aW hr)
 | _,_,.iface t v x hr=>.iface t v x (fz.mono aW hr)
 | _,_,.fn i fs cs xs cR ab hc=>.fn i fs cs xs cR (c7.mono aW ab) (c7.mono aW hc)
theorem c7.mono (aW:∀b,I b->qA b/\w'.heap[b]? =w.heap[b]?):∀{vs:List V} {xs:List Value},c7 w I vs xs->c7 w' qA vs xs
 | _,_,.nil=>.nil
 | _,_,.cons v x vs xs h hs=>.cons v x vs xs (fz.mono aW h) (c7.mono aW hs)
end
def lT (β abN:Nat->Option Home):Prop:=
 ∀l h,β l=some h->∃h',abN l=some h'/\h.tag<=h'.tag/\(h.tag=0->h'.tag=0)/\(h'.tag=h.tag->h'.b=h.b/\h'.ff=h.ff)/\(h.dt=true->h'=h)
theorem lT.refl (β:Nat->Option Home):lT β β:=fun _ h hb=>⟨h,hb,aK _,id,fun _=>⟨rfl,rfl⟩,fun _=>rfl⟩
theorem lT.trans{a b c:Nat->Option Home}(h:lT a b)(k:lT b c):lT a c:=by
 intro l h₀ hb;obtain⟨h₁,abO,abP,abQ,m₁,abR⟩:=h l h₀ hb;obtain⟨h₂,KH,abS,abT,m₂,abU⟩:=k l h₁ abO;refine⟨h₂,KH,cV abP abS,fun z=>abT (abQ z),fun ht=> ?_,fun f=> ?_⟩
 ·have e:h₁.tag=h₀.tag:=by omega
  have e':h₂.tag=h₁.tag:=by omega
  exact⟨(m₂ e').1.trans (m₁ e).1,(m₂ e').2.trans (m₁ e).2⟩
 ·have:=abR f;subst this;exact abU f
mutual
theorem a8.mono (e5:lT G.β G'.β)(aW:∀b,G.I b->G'.I b/\w'.heap[b]? =w.heap[b]?):∀{v:V} {x:Value},a8 fid G w v x->a8 fid G' w' v x
 | _,_,.p v x h=>.p v x (fz.mono aW h)
 | _,_,.ptr l o h hb ht=>by
   obtain⟨h',e,-,z,m,-⟩:=e5 l h hb;have:=(m ((z ht).trans ht.symm)).1;rw[<-this];exact .ptr l o h' e (z ht)
 | _,_,.gF l es i f tag h a hb hle ao=>by
   obtain⟨h',e,t,z,m,-⟩:=e5 l h hb;refine .gF l es i f tag h' a e (cV hle t) (fun hx=> ?_);have ht:h'.tag=h.tag:=by omega
   rw[(m ht).1];exact ao (by omega)
 | _,_,.dn vs f b o vals h hc hr=>.dn vs f b o vals (aW b h).1 (hc.dQ (aW b h).2) (c7.mono aW hr)
 | _,_,.cz l es off len tag h a n cap hb hle ao=>by
   obtain⟨h',e,t,z,m,-⟩:=e5 l h hb;refine .cz l es off len tag h' a n cap e (cV hle t) (fun hx=> ?_);have ht:h'.tag=h.tag:=by omega
   rw[(m ht).1,(m ht).2];exact ao (by omega)
 | _,_,.map l h hb ht=>by
   obtain⟨h',e,-,z,m,-⟩:=e5 l h hb;have:=(m ((z ht).trans ht.symm)).1;rw[<-this];exact .map l h' e (z ht)
 | _,_,.fn i fs cs xs cR ab hc=>.fn i fs cs xs cR (aY.mono e5 aW ab) (aY.mono e5 aW hc)
 | _,_,.yield l h hb ht=>by
   obtain⟨h',e,-,z,m,-⟩:=e5 l h hb;have:=(m ((z ht).trans ht.symm)).1;rw[<-this];exact .yield l h' e (z ht)
 | _,_,.agg vs vals hr=>.agg vs vals (aY.mono e5 aW hr)
 | _,_,.aU vs vals hr=>.aU vs vals (aY.mono e5 aW hr)
 | _,_,.iface t v x hr=>.iface t v x (a8.mono e5 aW hr)
 | _,_,.undef x=>.undef x
theorem aY.mono (e5:lT G.β G'.β)(aW:∀b,G.I b->G'.I b/\w'.heap[b]? =w.heap[b]?):∀{vs:List V} {xs:List Value},aY fid G w vs xs->aY fid G' w' vs xs
 | _,_,.nil=>.nil
 | _,_,.cons v x vs xs h hs=>.cons v x vs xs (a8.mono e5 aW h) (aY.mono e5 aW hs)
end
mutual
theorem a8.restrict{n:Nat}(e5:∀l h,l<n->G.β l=some h->∃h',G'.β l=some h'/\h'=h)(aW:∀b,G.I b->G'.I b/\w'.heap[b]? =w.heap[b]?):
  ∀{v:V} {x:Value},a8 fid G w v x->old n v=true\/(bs v=true)->a8 fid G' w' v x
 | _,_,.p v x h,_=>.p v x (fz.mono aW h)
 | _,_,.ptr l o h hb ht,ho=>by
   obtain⟨h',e,rfl⟩:=e5 l h (by simpa[old,bs]using ho) hb;exact .ptr l o _ e ht
 | _,_,.gF l es i f tag h a hb hle ao,ho=>by
   obtain⟨h',e,rfl⟩:=e5 l h (by simpa[old,bs]using ho) hb;exact .gF l es i f tag _ a e hle ao
 | _,_,.dn vs f b o vals h hc hr,_=>.dn vs f b o vals (aW b h).1 (hc.dQ (aW b h).2) (c7.mono aW hr)
 | _,_,.cz l es off len tag h a n cap hb hle ao,ho=>by
   obtain⟨h',e,rfl⟩:=e5 l h (by simpa[old,bs]using ho) hb;exact .cz l es off len tag _ a n cap e hle ao
 | _,_,.map l h hb ht,ho=>by
   obtain⟨h',e,rfl⟩:=e5 l h (by simpa[old,bs]using ho) hb;exact .map l _ e ht
 | _,_,.fn i fs cs xs cR ab hc,ho=>by
   simp only[old,bs,b8]at ho;exact .fn i fs cs xs cR (aY.restrict e5 aW ab (ho.imp And.left And.left)) (aY.restrict e5 aW hc (ho.imp And.right And.right))
 | _,_,.yield l h hb ht,ho=>by
   obtain⟨h',e,rfl⟩:=e5 l h (by simpa[old,bs]using ho) hb;exact .yield l _ e ht
 | _,_,.agg vs vals hr,ho=>.agg vs vals (aY.restrict e5 aW hr (by simpa[old,bs]using ho))
 | _,_,.aU vs vals hr,ho=>.aU vs vals (aY.restrict e5 aW hr (by simpa[old,bs]using ho))
 | _,_,.iface t v x hr,ho=>.iface t v x (a8.restrict e5 aW hr (by simpa[old,bs]using ho))
 | _,_,.undef x,_=>.undef x
theorem aY.restrict{n:Nat}(e5:∀l h,l<n->G.β l=some h->∃h',G'.β l=some h'/\h'=h)(aW:∀b,G.I b->G'.I b/\w'.heap[b]? =w.heap[b]?):
  ∀{vs:List V} {xs:List Value},aY fid G w vs xs->olds n vs=true\/bW vs=true->aY fid G' w' vs xs
 | _,_,.nil,_=>.nil
 | _,_,.cons v x vs xs h hs,ho=>by
   have h1:old n v=true\/bs v=true:=by rcases ho with ho|ho<;>simp_all [olds,bW]
   have h2:olds n vs=true\/bW vs=true:=by rcases ho with ho|ho<;>simp_all [olds,bW]
   exact .cons v x vs xs (a8.restrict e5 aW h h1) (aY.restrict e5 aW hs h2)
end
mutual
theorem a8.pz:∀{v:V} {x:Value},a8 fid G w v x->bs v=true->fz w G.I v x
 | _,_,.p v x h,_=>h
 | _,_,.agg vs vals hr,ho=>.agg vs vals (aY.pz hr (by simpa[bs]using ho))
 | _,_,.aU vs vals hr,ho=>.aU vs vals (aY.pz hr (by simpa[bs]using ho))
 | _,_,.iface t v x hr,ho=>.iface t v x (a8.pz hr (by simpa[bs]using ho))
 | _,_,.fn i fs cs xs cR ab hc,ho=>by
   simp only[bs,b8]at ho;exact .fn i fs cs xs cR (aY.pz ab ho.1) (aY.pz hc ho.2)
 | _,_,.ptr ..,ho| _,_,.gF ..,ho| _,_,.dn ..,ho| _,_,.cz ..,ho| _,_,.map ..,ho| _,_,.yield ..,ho| _,_,.undef ..,ho=>by simp[bs]at ho
theorem aY.pz:∀{vs:List V} {xs:List Value},aY fid G w vs xs->bW vs=true->c7 w G.I vs xs
 | _,_,.nil,_=>.nil
 | _,_,.cons v x vs xs h hs,ho=>by
   simp only[bW,b8]at ho;exact .cons v x vs xs (a8.pz h ho.1) (aY.pz hs ho.2)
end
theorem c7.oP:∀{vs:List V} {xs:List Value},c7 w G.I vs xs->aY fid G w vs xs
 | _,_,.nil=>.nil
 | _,_,.cons v x vs xs h hs=>.cons v x vs xs (.p v x h) (c7.oP hs)
mutual
theorem fz.flat:∀{v:V} {x:Value},fz w I v x->Abs.flat v=true->fz w' qA v x
 | _,_,.bool b,_=>.bool b
 | _,_,.int k n,_=>.int k n
 | _,_,.str s,_=>.str s
 | _,_,.cp,_=>.cp
 | _,_,.emp a,_=>.emp a
 | _,_,.jb,_=>.jb
 | _,_,.iw,_=>.iw
 | _,_,.jV,_=>.jV
 | _,_,.ig,_=>.ig
 | _,_,.agg vs vals hr,h=>.agg vs vals (c7.flat hr (by simpa[Abs.flat]using h))
 | _,_,.aU vs vals hr,h=>.aU vs vals (c7.flat hr (by simpa[Abs.flat]using h))
 | _,_,.ur ..,h| _,_,.list ..,h| _,_,.iface ..,h| _,_,.fn ..,h=>by simp[Abs.flat]at h
theorem c7.flat:∀{vs:List V} {xs:List Value},c7 w I vs xs->uh vs=true->c7 w' qA vs xs
 | _,_,.nil,_=>.nil
 | _,_,.cons v x vs xs h hs,ho=>by
   simp only[uh,b8]at ho;exact .cons v x vs xs (fz.flat h ho.1) (c7.flat hs ho.2)
end
mutual
theorem Ru:∀{v:V},Abs.flat v=true->bs v=true
 | .bool _,_| .int _ _,_| .str _,_| .cp,_| .emp,_| .jb,_| .iw,_| .jV,_| .ig,_=>rfl
 | .agg vs,h=>by simp only[bs];exact KI (by simpa[Abs.flat]using h)
 | .aU vs,h=>by simp only[bs];exact KI (by simpa[Abs.flat]using h)
 | .list ..,h| .ptr ..,h| .gF ..,h| .dn ..,h| .cz ..,h| .map ..,h| .fn ..,h| .yield ..,h| .iface ..,h| .undef,h=>by simp[Abs.flat]at h
theorem KI:∀{vs:List V},uh vs=true->bW vs=true
 |[],_=>rfl
 |v::vs,h=>by
  simp only[uh,b8]at h;simp only[bW,b8];exact⟨Ru h.1,KI h.2⟩
end
theorem a8.flat{v:V}{x:Value}(h:a8 fid G w v x)(ab:Abs.flat v=true):a8 fid G' w' v x:=.p _ _ ((h.pz (Ru ab)).flat ab)
theorem aY.length:∀{vs:List V} {xs:List Value},aY fid G w vs xs->xs.length=vs.length
 | _,_,.nil=>rfl
 | _,_,.cons _ _ _ _ _ hs=>by simp[aY.length hs]
theorem aY.get:∀{vs:List V} {xs:List Value},aY fid G w vs xs->∀{i:Nat} {v:V},vs[i]? =some v->∃x,xs[i]? =some x/\a8 fid G w v x
 | _,_,.nil,i,v,h=>by simp at h
 | _,_,.cons v x vs xs h hs,0,u,e=>by simp at e;subst e;exact⟨x,by simp,h⟩
 | _,_,.cons v x vs xs h hs,i+1,u,e=>by simpa using aY.get hs (by simpa using e)
theorem aY.append:∀{vs us:List V} {xs cR:List Value},aY fid G w vs xs->aY fid G w us cR->aY fid G w (vs++us) (xs++cR)
 | _,_,_,_,.nil,k=>k
 | _,_,_,_,.cons v x vs xs h hs,k=>.cons v x _ _ h (aY.append hs k)
theorem aY.split:∀{vs us:List V} {dd:List Value},aY fid G w (vs++us) dd->∃xs cR,dd=xs++cR/\aY fid G w vs xs/\aY fid G w us cR
 |[],us,dd,h=>⟨[],dd,rfl,.nil,h⟩
 |v::vs,us,_,.cons _ x _ xs h hs=>by
  obtain⟨aO,aI,rfl,h1,h2⟩:=aY.split (vs:=vs) hs;exact⟨x::aO,aI,rfl,.cons v x vs aO h h1,h2⟩
theorem aY.set:∀{vs:List V} {xs:List Value},aY fid G w vs xs->∀(i:Nat) {v:V} {x:Value},a8 fid G w v x->aY fid G w (vs.set i v) (xs.set i x)
 | _,_,.nil,_,_,_,_=>.nil
 | _,_,.cons v x vs xs h hs,0,u,y,k=>.cons u y vs xs k hs
 | _,_,.cons v x vs xs h hs,i+1,u,y,k=>.cons v x _ _ h (aY.set hs i k)
theorem aY.drop:∀{vs:List V} {xs:List Value},aY fid G w vs xs->∀(n:Nat),aY fid G w (vs.drop n) (xs.drop n)
 | _,_,h,0=>by simpa using h
 | _,_,.nil,n+1=>.nil
 | _,_,.cons v x vs xs h hs,n+1=>by simpa using aY.drop hs n
theorem aY.take:∀{vs:List V} {xs:List Value},aY fid G w vs xs->∀(n:Nat),aY fid G w (vs.take n) (xs.take n)
 | _,_,h,0=>by simpa using aY.nil
 | _,_,.nil,n+1=>.nil
 | _,_,.cons v x vs xs h hs,n+1=>.cons v x _ _ h (aY.take hs n)
theorem aY.abV{vs:List V}{xs:List Value}(hl:xs.length=vs.length)(h:∀(i:Nat) v x,vs[i]? =some v->xs[i]? =some x->a8 fid G w v x):aY fid G w vs xs:=by
 induction vs generalizing xs with
 |nil=>cases xs with
  |nil=>exact .nil
  |cons=>simp at hl
 |cons v vs ih=>cases xs with
  |nil=>simp at hl
  |cons x xs=>exact .cons v x vs xs (h 0 v x rfl rfl) (ih (by simpa using hl) (fun i v x a b=>h (i+1) v x (by simpa using a) (by simpa using b)))
theorem c7.drop:∀{vs:List V} {xs:List Value},c7 w I vs xs->∀(n:Nat),c7 w I (vs.drop n) (xs.drop n)
 | _,_,h,0=>by simpa using h
 | _,_,.nil,n+1=>.nil
 | _,_,.cons _ _ _ _ _ hs,n+1=>by simpa using c7.drop hs n
theorem c7.take:∀{vs:List V} {xs:List Value},c7 w I vs xs->∀(n:Nat),c7 w I (vs.take n) (xs.take n)
 | _,_,_,0=>by simpa using c7.nil
 | _,_,.nil,n+1=>.nil
 | _,_,.cons v x _ _ h hs,n+1=>.cons v x _ _ h (c7.take hs n)
theorem c7.length{vs:List V}{xs:List Value}(h:c7 w I vs xs):xs.length=vs.length:=aY.length (fid:=id) (G:=⟨fun _=>none,I⟩) (c7.oP h)
def KJ:X->Option Code->Prop
 | .normal,none=>True
 | .exit id,some (.exit sU)=>sU=id
 | .ret,some .ret=>True
 | _,_=>False
def n0 (es:Array MapEntry)(bE:Nat):Prop:=(∀x∈es.toList,x.born<bE)/\(es.toList.map (·.born)).Nodup
def Is (C:Ctx)(w:World)(b:Nat)(vs:List V):Prop:=∀v,vs=[.undef,v]->∃c e,w.heap[b]? =some (.cells c e (0,0))/\C.OR=some e/\(c[0]? =some (.pointer none)\/c[0]? =some (.pointer (some ⟨b,0,none⟩)))
def jg (C:Ctx)(fid:Nat->Nat)(G:bX)(w:World)(h:Home):cc->Prop
 | .cells vs=>(h.tag=0/\Is C w h.b vs)/\h.dt=false/\∃c e,w.heap[h.b]? =some (.cells c e (0,0))/\aY fid G w vs c.toList
 | .row es ds dt=>h.tag=ds.length/\0<ds.length/\h.dt=dt/\0<es/\(∀d∈ds,(aE d).length=es)/\
  ∃c e vals rest,w.heap[h.b]? =some (.cells c e (0,0))/\h.ff=c.size/\c.toList=vals++rest/\aY fid G w (ds.flatMap aE) vals
 | .map bb=>h.tag=0/\h.dt=false/\∃es bE,w.heap[h.b]? =some (.map es bE)/\
  aY fid G w (bb.map (·.1)) (es.toList.map (·.key))/\aY fid G w (bb.map (·.2)) (es.toList.map (·.val))/\n0 es bE
 | .loop st sT env params assign body=>h.tag=0/\h.dt=false/\∃L vars,w.heap[h.b]? =some (.loop L)/\L.state=st/\KJ sT L.pending/\
  L.params.toList=params/\(∀t∈params,t∈vars/\t<L.tmps.size)/\
  C.code vars L.tmps.size L.assign=some assign/\C.code vars L.tmps.size L.body=some body/\∀t∈vars,a8 fid G w (bk env t) (L.tmps.getD t undef)
 | .Nk s=>h.dt=false/\h.tag=s.length/\0<s.length/\∃c rest,w.heap[h.b]? =some (.cells c C.afE (0,0))/\h.ff=c.size/\c.toList=(s.map fun b=>Value.int .u8 b.toNat)++rest
 | .dead n=>h.dt=false/\h.tag=n
 | .gone=>h.tag=0/\h.dt=false
structure aZ (C:Ctx) (fid:Nat->Nat) (G:bX) (H:Heap) (w:World):Prop where
 obj:∀l h,G.β l=some h->∃o,H[l]? =some o/\jg C fid G w h o
 inj:∀l l' h h',G.β l=some h->G.β l'=some h'->h.b=h'.b->l=l'
 blk:∀l h,G.β l=some h->h.b<w.heap.size
 cX:∀b,G.I b->b<w.heap.size/\∀l h,G.β l=some h->h.b=b->h.dt=true
 ku:∀l h,G.β l=some h->h.dt=true->G.I h.b
 e9:∀b o,C.e9 b=some o->G.I b/\w.heap[b]? =some o
structure Ext (G:bX) (w:World) (G':bX) (w':World) (m n:Nat):Prop where
 size:w.heap.size<=w'.heap.size
 os:w'.os=w.os
 output:w'.output=w.output
 dQ:∀b,b<w.heap.size->(∀l h,G.β l=some h->h.b=b->h.dt=true\/l<m)->w'.heap[b]? =w.heap[b]?
 homes:lT G.β G'.β
 nt:∀l h',G'.β l=some h'->(∃h,G.β l=some h/\(h.b=h'.b\/w.heap.size<=h'.b))\/(n<=l/\w.heap.size<=h'.b)
 cX:∀b,G.I b->G'.I b
 n1:∀b,G'.I b->G.I b\/w.heap.size<=b\/∃l h,G.β l=some h/\h.b=b
theorem Ext.KK{m n:Nat}(h:Ext G w G' w' m n)(l:Nat)(h':Home)(e:G'.β l=some h'):(∃h,G.β l=some h/\h.b=h'.b)\/w.heap.size<=h'.b:=by
 rcases h.nt l h' e with⟨h0,dI,q|q⟩|⟨_,q⟩
 ·exact .inl ⟨h0,dI,q⟩
 ·exact .inr q
 ·exact .inr q
theorem Ext.refl (G:bX)(w:World)(m n:Nat):Ext G w G w m n:=
 ⟨aK _,rfl,rfl,fun _ _ _=>rfl,.refl _,fun _ h hb=>.inl ⟨h,hb,.inl rfl⟩,fun _ h=>h,fun _ h=>.inl h⟩
theorem Ext.le{m m' n Rv:Nat}(h:Ext G w G' w' m n)(hm:m'<=m)(hn:Rv<=n):Ext G w G' w' m' Rv:=
 {h with dQ:=fun b hb k=>h.dQ b hb fun l x af e2=>(k l x af e2).imp id fun q=>qs q hm
         nt:=fun l h' e=>(h.nt l h' e).imp id fun q=>⟨cV hn q.1,q.2⟩}
theorem Ext.trans{Rw:bX}{hF:World}{m n:Nat}(h:Ext G w G' w' m n)(k:Ext G' w' Rw hF m n):Ext G w Rw hF m n where
 size:=cV h.size k.size
 os:=k.os.trans h.os
 output:=k.output.trans h.output
 dQ b hb cW:=by
  rw[k.dQ b (qs hb h.size) ?_,h.dQ b hb cW];intro l h1 af e2;rcases h.KK l h1 af with⟨h0,dI,eb⟩|hn
  ·rcases cW l h0 dI (eb.trans e2)with ab|hl
   ·obtain⟨h',e',-,-,-,lR⟩:=h.homes l h0 dI
    rw[af]at e';cases e';rw[lR ab];exact .inl ab
   ·exact .inr hl
  ·omega
 homes:=h.homes.trans k.homes
 nt l h2 e:=by
  have hs:=h.size;rcases k.nt l h2 e with⟨h1,af,eb⟩|⟨hn,hb⟩
  ·rcases h.nt l h1 af with⟨h0,dI,Ad⟩|⟨hn,hb⟩
   ·refine .inl ⟨h0,dI,?_⟩
    rcases eb with eb|eb<;>rcases Ad with Ad|Ad
    ·exact .inl (Ad.trans eb)
    ·exact .inr (by omega)
    ·exact .inr (by omega)
    ·exact .inr (by omega)
   ·exact .inr ⟨hn,by rcases eb with eb|eb<;>omega⟩
  ·exact .inr ⟨hn,by omega⟩
 cX b hb:=k.cX b (h.cX b hb)
 n1 b hb:=by
  rcases k.n1 b hb with h1|h1|⟨l,h1,af,eb⟩
  ·exact h.n1 b h1
  ·exact .inr (.inl (cV h.size h1))
  ·rcases h.KK l h1 af with⟨h0,dI,Ad⟩|hn
   ·exact .inr (.inr ⟨l,h0,dI,Ad.trans eb⟩)
   ·exact .inr (.inl (by omega))
theorem aZ.Rx{C:Ctx}{H:Heap}{m n:Nat}(U:aZ C fid G H w)(h:Ext G w G' w' m n):∀b,G.I b->G'.I b/\w'.heap[b]? =w.heap[b]? :=fun b hb=>
 ⟨h.cX b hb,h.dQ b (U.cX b hb).1 fun l x af e2=>.inl ((U.cX b hb).2 l x af e2)⟩
theorem a8.ext{C:Ctx}{H:Heap}{m n:Nat}(U:aZ C fid G H w)(h:Ext G w G' w' m n){v:V}{x:Value}(k:a8 fid G w v x):a8 fid G' w' v x:=
 k.mono h.homes (U.Rx h)
theorem aY.ext{C:Ctx}{H:Heap}{m n:Nat}(U:aZ C fid G H w)(h:Ext G w G' w' m n){v:List V}{x:List Value}(k:aY fid G w v x):aY fid G' w' v x:=
 k.mono h.homes (U.Rx h)
theorem jg.mono{C:Ctx}(e5:lT G.β G'.β)(aW:∀b,G.I b->G'.I b/\w'.heap[b]? =w.heap[b]?){h:Home}(hb:w'.heap[h.b]? =w.heap[h.b]?):∀{o:cc},jg C fid G w h o->jg C fid G' w' h o
 | .cells vs,⟨a,b,c,e,hc,hr⟩=>⟨⟨a.1,fun v ad=>by rw[hb];exact a.2 v ad⟩,b,c,e,by rw[hb];exact hc,hr.mono e5 aW⟩
 | .row es ds dt,⟨a,b,c,d,u,Ry,e,vals,rest,hc,hs,hl,hr⟩=>⟨a,b,c,d,u,Ry,e,vals,rest,by rw[hb];exact hc,hs,hl,hr.mono e5 aW⟩
 | .map bb,⟨a,b,es,bE,hc,cW,ad,hs⟩=>⟨a,b,es,bE,by rw[hb];exact hc,cW.mono e5 aW,ad.mono e5 aW,hs⟩
 | .loop ..,⟨a,b,L,vars,hc,hs,hp,uu,hin,ao,abW,he⟩=>⟨a,b,L,vars,by rw[hb];exact hc,hs,hp,uu,hin,ao,abW,fun t ht=>(he t ht).mono e5 aW⟩
 | .Nk s,⟨a,b,d,c,rest,hc,hs,hl⟩=>⟨a,b,d,c,rest,by rw[hb];exact hc,hs,hl⟩
 | .dead _,h=>h
 | .gone,h=>h
end Go.Abs
