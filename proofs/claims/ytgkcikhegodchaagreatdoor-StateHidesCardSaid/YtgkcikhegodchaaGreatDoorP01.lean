/- Texts of this claim, joined and written short by a program. -/
import Derived.Test.YtgkcikhegodchaaGreatDoorP00
import Derived.KernelRfl
import Derived.Shelf.Small.Bits
import Derived.Lib.Fields
import Derived.Lib.Atoi
import Derived.Lib.Bytealg
import Derived.Lib.Join
import Derived.Lib.ItoaNum
import Derived.Laws.World
set_option linter.unusedVariables false
set_option linter.unusedSimpArgs false
set_option linter.unusedSectionVars false
namespace Go.Abs
def uR (a b:c5):Prop:=∀f args H r,a f args H=some r->b f args H=some r
variable{call qz:c5}
theorem vR (h:uR call qz){ah:ai->V}{H:Heap}{low:Nat}{op:cX}{r:V × Heap × Nat}(he:ch call ah H low op=some r):ch qz ah H low op=some r:=by
 cases op with
 |call raw f args=>
  cases raw
  ·simp only[ch]at he⊢
   split at he
   ·rename_i vs H1 bL h1
    split at he
    ·rename_i u H2 l h2
     rw[h _ _ _ _ h2];exact he
    ·cases he
   ·cases he
  ·simp only[ch]at he⊢
   split at he
   ·rename_i u H2 l h2
    rw[h _ _ _ _ h2];exact he
   ·cases he
 | _=>exact he
theorem zJ (h:uR call qz):∀(ops:List bU) (st:aw) (wr:List Bool) (r:aw × List Bool),c8 call ops st wr=some r->c8 qz ops st wr=some r
 |[],st,wr,r,he=>he
 |o::ops,st,wr,r,he=>by
  simp only[c8]at he⊢;split at he
  ·rename_i hw
   try simp only[hw]
   split at he
   ·rename_i v H' low' h1
    rw[vR h h1];exact zJ h ops _ _ _ he
   ·cases he
  ·rename_i hw
   try simp only[hw]
   exact zJ h ops _ _ _ he
  ·cases he
theorem zK (h:uR call qz):∀(ops:List bU) (st:aw) (r:List aw),fH call ops st=some r->fH qz ops st=some r
 |[],st,r,he=>he
 |o::ops,st,r,he=>by
  simp only[fH]at he⊢;split at he
  ·rename_i hw
   try simp only[hw]
   split at he
   ·rename_i v H' low' h1
    rw[vR h h1];obtain⟨x,hx,rfl⟩:=cD.1 he;simp only[];rw[zK h ops _ _ hx];rfl
   ·cases he
  ·rename_i hw
   try simp only[hw]
   obtain⟨x,hx,rfl⟩:=cD.1 he;rw[zK h ops _ _ hx];rfl
  ·cases he
theorem Cu (h:uR call qz){q:bU × aw × Heap}(he:jH call q=true):jH qz q=true:=by
 unfold jH at he⊢;split at he
 ·rename_i hw;try simp only[hw]
 ·rename_i hw
  try simp only[hw]
  split at he
  ·rename_i v H1 bL h1
   rw[vR h h1];simp only[];split at he
   ·rename_i v2 H2 dL h2
    rw[vR h h2];exact he
   ·cases he
  ·cases he
 ·cases he
theorem ahK (h:uR call qz){ej:List Nat}{ops:List bU}{wr:List Bool}{st:aw}(he:ss call ej ops wr st=true):ss qz ej ops wr st=true:=by
 unfold ss at he⊢;split at he
 ·rename_i cv ht
  rw[zK h _ _ _ ht];simp only[cm,eE]at he⊢;exact⟨he.1,fun q bu=>Cu h (he.2 q bu)⟩
 ·cases he
theorem NV (h:uR call qz){ej:List Nat}{ops:List bU}{wr:List Bool}{st:aw}(he:pD call ej ops wr st=true):pD qz ej ops wr st=true:=by
 unfold pD at he⊢;simp only[j2]at he⊢;rcases he with he|he
 ·exact .inl (ahK h he)
 ·right
  split at he
  ·rename_i cv ht
   rw[zK h _ _ _ ht];simp only[cm,eE]at he⊢;exact⟨he.1,fun q bu=>Cu h (he.2 q bu)⟩
  ·cases he
theorem Js{f mB:aw->Option (X × aw)}(h:∀st r,f st=some r->mB st=some r):∀(n m:Nat) (st:aw) (r:X × aw),n<=m->iter f n st=some r->iter mB m st=some r
 |0,_,_,_,_,he=>by cases he
 |n+1,0,_,_,hle,_=>by omega
 |n+1,m+1,st,r,hle,he=>by
  simp only[iter]at he⊢;split at he
  ·rename_i st1 h1
   rw[h _ _ h1];exact Js h n m _ _ (by omega) he
  ·rename_i bq
   rw[h _ _ he];split
   ·rename_i bf e;cases e;exact absurd he (bq _)
   ·rfl
theorem tp (h:uR call qz){n m:Nat}(hle:n<=m):∀(c:cF) (st:aw) (r:X × aw),exec call n c st=some r->exec qz m c st=some r
 | .skip,st,r,he=>he
 | .zB ops ok f,st,r,he=>by
   simp only[exec]at he⊢;split at he
   ·rename_i st1 wr h1
    rw[zJ h _ _ _ _ h1];exact he
   ·cases he
 | .region ops ej,st,r,he=>by
   simp only[exec,aw.gb]at he⊢;split at he
   ·rename_i st1 wr h1
    rw[zJ h _ _ _ _ h1];cases ej with
    |none=>exact he
    |some b=>
     simp only at he⊢;split at he
     ·rename_i hb
      rw[if_pos]
      ·exact he
      ·simp only[j2]at hb⊢
       exact hb.imp id (NV h)
     ·cases he
   ·cases he
 | .seq a b,st,r,he=>by
   simp only[exec,aw.gb]at he⊢;split at he
   ·rename_i st1 h1
    rw[tp h hle a _ _ h1];exact tp h hle b _ _ he
   ·rename_i bq
    rw[tp h hle a _ _ he];split
    ·rename_i st1 e;cases e;exact absurd he (bq _)
    ·rfl
 | .cond c t e,st,r,he=>by
   simp only[exec,aw.gb]at he⊢;split at he
   ·exact tp h hle t _ _ he
   ·exact tp h hle e _ _ he
   ·cases he
 | .block id c,st,r,he=>by
   simp only[exec,aw.gb]at he⊢;split at he
   ·rename_i uQ st1 h1
    rw[tp h hle c _ _ h1];exact he
   ·rename_i bq
    rw[tp h hle c _ _ he];split
    ·rename_i uQ st1 e;cases e;exact absurd he (bq _ _)
    ·rfl
 | .loop c,st,r,he=>by
   simp only[exec,aw.gb]at he⊢;exact Js (fun st r hr=>tp h hle c st r hr) n m st r hle he
 | .rangeFunc f ps a b,st,r,he=>by
   simp only[exec,aw.gb]at he⊢;split at he
   ·cases he
   ·rename_i hc
    try rw[if_neg hc]
    split at he
    ·rename_i u H1 bL h1
     rw[h _ _ _ _ h1];exact he
    ·cases he
 | .exit id,st,r,he=>he
 | .ret,st,r,he=>he
 | .fail,st,r,he=>he
def NW (ex ex':cF->aw->Option (X × aw)):Prop:=∀c st r,ex c st=some r->ex' c st=some r
theorem VC{ex ex':cF->aw->Option (X × aw)}(h:NW ex ex'){f:ix}{args:List V}{H:Heap}{r:V × Heap × Nat}(he:iL ex f args H=some r):iL ex' f args H=some r:=by
 unfold iL at he⊢;split at he
 ·rename_i hl
  rw[if_pos hl];split at he
  ·rename_i st h1;rw[h _ _ _ h1];exact he
  ·rename_i st h1;rw[h _ _ _ h1];exact he
  ·cases he
 ·cases he
theorem VD{ex ex':cF->aw->Option (X × aw)}(h:NW ex ex'){l:Nat}{args:List V}{H:Heap}{r:V × Heap × Nat}(he:qx ex l args H=some r):qx ex' l args H=some r:=by
 unfold qx at he⊢;split at he
 ·split at he
  ·rename_i hl
   simp only[hl,if_true];split at he
   ·rename_i st h1
    simp only[h _ _ _ h1];split at he
    ·rename_i h2
     try simp only[h2]
     split at he
     ·rename_i au
      simp only[h _ _ _ au];exact he
     ·cases he
    ·cases he
   ·cases he
  ·cases he
 ·cases he
theorem VE (aa:Nat->Option cc):∀n,uR (bN aa n) (bN aa (n+1))
 |0=>fun f args H r he=>by simp[bN]at he
 |n+1=>fun f args H r he=>by
  have hx:NW (exec (bN aa n) n) (exec (bN aa (n+1)) (n+1)):=fun c st r hr=>tp (VE aa n) (ED n) c st r hr;show rl aa (bN aa (n+1)) (n+1) f args H=some r;change rl aa (bN aa n) n f args H=some r at he;unfold rl at he⊢;split at he
  ·split at he
   ·rename_i h1;try simp only[h1]
    exact VC hx he
   ·rename_i h1;try simp only[h1]
    exact he
   ·rename_i h1;try simp only[h1]
    exact he
   ·cases he
  ·exact VD hx he
  ·cases he
theorem nt (aa:Nat->Option cc){n:Nat}:∀{m:Nat},n<=m->uR (bN aa n) (bN aa m)
 |0,h=>by have:n=0:=by omega
          subst this;exact fun _ _ _ _ h=>h
 |m+1,h=>by
  rcases gD n (m+1)with h1|h1
  ·exact fun f args H r he=>VE aa m f args H r (nt aa (m:=m) (by omega) f args H r he)
  ·have:n=m+1:=by omega
   subst this;exact fun _ _ _ _ h=>h
open Classical in
noncomputable def b9 (aa:Nat->Option cc):c5:=fun f args H=>if h:∃r n,bN aa n f args H=some r then some h.choose else none
open Classical in
noncomputable def er (aa:Nat->Option cc)(c:cF)(st:aw):Option (X × aw):=if h:∃r n,exec (bN aa n) n c st=some r then some h.choose else none
variable{aa:Nat->Option cc}
theorem vS{f:V}{args:List V}{H:Heap}{r:V × Heap × Nat}:b9 aa f args H=some r↔∃n,bN aa n f args H=some r:=by
 unfold b9;constructor
 ·intro h
  split at h
  ·rename_i hex;cases h;exact hex.choose_spec
  ·cases h
 ·rintro⟨n,hn⟩
  have hex:∃r n,bN aa n f args H=some r:=⟨r,n,hn⟩;rw[dif_pos hex];obtain⟨m,hm⟩:=hex.choose_spec;have a:=nt aa (sg n m) _ _ _ _ hn;have b:=nt aa (q8 n m) _ _ _ _ hm;rw[a]at b;exact b.symm
theorem vT{n m:Nat}(hle:n<=m){c:cF}{st:aw}{r:X × aw}(h:exec (bN aa n) n c st=some r):exec (bN aa m) m c st=some r:=tp (nt aa hle) hle c st r h
theorem gL{c:cF}{st:aw}{r:X × aw}:er aa c st=some r↔∃n,exec (bN aa n) n c st=some r:=by
 unfold er;constructor
 ·intro h
  split at h
  ·rename_i hex;cases h;exact hex.choose_spec
  ·cases h
 ·rintro⟨n,hn⟩
  have hex:∃r n,exec (bN aa n) n c st=some r:=⟨r,n,hn⟩;rw[dif_pos hex];obtain⟨m,hm⟩:=hex.choose_spec;have a:=vT (sg n m) hn;have b:=vT (q8 n m) hm;rw[a]at b;exact b.symm
theorem EL (n:Nat):uR (bN aa n) (b9 aa):=fun _ _ _ _ h=>vS.2 ⟨n,h⟩
theorem x1{α:Type}{a b:Option α}(h:∀r,a=some r↔b=some r):a=b:=by
 cases a with
 |none=>cases b with
  |none=>rfl
  |some y=>exact absurd ((h y).2 rfl) (by simp)
 |some x=>exact((h x).1 rfl).symm
theorem Jt{ah:ai->V}{H:Heap}{low:Nat}{op:cX}{r:V × Heap × Nat}:ch (b9 aa) ah H low op=some r↔∃n,ch (bN aa n) ah H low op=some r:=by
 constructor
 ·intro he
  cases op with
  |call raw f args=>
   cases raw
   ·simp only[ch]at he⊢
    split at he
    ·rename_i vs H1 bL h1
     split at he
     ·rename_i u H2 l h2
      obtain⟨n,hn⟩:=vS.1 h2;exact⟨n,by rw[hn];exact he⟩
     ·cases he
    ·cases he
   ·simp only[ch]at he⊢
    split at he
    ·rename_i u H2 l h2
     obtain⟨n,hn⟩:=vS.1 h2;exact⟨n,by rw[hn];exact he⟩
    ·cases he
  | _=>exact⟨0,he⟩
 ·rintro⟨n,hn⟩;exact vR (EL n) hn
theorem NX:∀(ops:List bU) (st:aw) (wr:List Bool) (r:aw × List Bool),c8 (b9 aa) ops st wr=some r->∃n,c8 (bN aa n) ops st wr=some r
 |[],st,wr,r,he=>⟨0,he⟩
 |o::ops,st,wr,r,he=>by
  simp only[c8]at he⊢;split at he
  ·rename_i hw
   split at he
   ·rename_i v H' low' h1
    obtain⟨n,hn⟩:=Jt.1 h1;obtain⟨m,hm⟩:=NX ops _ _ _ he;refine⟨max n m,?_⟩;rw[vR (nt aa (sg n m)) hn];exact zJ (nt aa (q8 n m)) ops _ _ _ hm
   ·cases he
  ·rename_i hw
   obtain⟨m,hm⟩:=NX ops _ _ _ he;exact⟨m,hm⟩
  ·cases he
theorem oE (st:aw):er aa .skip st=some (.normal,st):=gL.2 ⟨0,rfl⟩
theorem sv (id:Nat)(st:aw):er aa (.exit id) st=some (.exit id,st):=gL.2 ⟨0,rfl⟩
theorem oF (st:aw):er aa .ret st=some (.ret,st):=gL.2 ⟨0,rfl⟩
theorem Ju:∀(ops:List bU) (st:aw) (r:List aw),fH (b9 aa) ops st=some r->∃n,fH (bN aa n) ops st=some r
 |[],st,r,he=>⟨0,he⟩
 |o::ops,st,r,he=>by
  simp only[fH]at he⊢;split at he
  ·rename_i hw
   split at he
   ·rename_i v H' low' h1
    obtain⟨n,hn⟩:=Jt.1 h1;obtain⟨x,hx,rfl⟩:=cD.1 he;obtain⟨m,hm⟩:=Ju ops _ _ hx;refine⟨max n m,?_⟩;rw[vR (nt aa (sg n m)) hn];simp only[];rw[zK (nt aa (q8 n m)) ops _ _ hm];rfl
   ·cases he
  ·rename_i hw
   obtain⟨x,hx,rfl⟩:=cD.1 he;obtain⟨m,hm⟩:=Ju ops _ _ hx;exact⟨m,by rw[hm];rfl⟩
  ·cases he
theorem ahL{q:bU × aw × Heap}(he:jH (b9 aa) q=true):∃n,jH (bN aa n) q=true:=by
 unfold jH at he⊢;split at he
 ·rename_i hw;exact⟨0,by try simp only[hw]⟩
 ·rename_i hw
  try simp only[hw]
  split at he
  ·rename_i v H1 bL h1
   split at he
   ·rename_i v2 H2 dL h2
    obtain⟨n,hn⟩:=Jt.1 h1;obtain⟨m,hm⟩:=Jt.1 h2;refine⟨max n m,?_⟩;rw[vR (nt aa (sg n m)) hn,vR (nt aa (q8 n m)) hm];exact he
   ·cases he
  ·cases he
 ·cases he
theorem NY:∀(l:List (bU × aw × Heap)),l.all (jH (b9 aa))=true->∃n,l.all (jH (bN aa n))=true
 |[],_=>⟨0,rfl⟩
 |q::l,he=>by
  simp only[Ck,cm]at he;obtain⟨n,hn⟩:=ahL he.1;obtain⟨m,hm⟩:=NY l he.2;refine⟨max n m,?_⟩;simp only[Ck,cm];refine⟨Cu (nt aa (sg n m)) hn,?_⟩;rw[eE]at hm⊢;exact fun q bu=>Cu (nt aa (q8 n m)) (hm q bu)
theorem ahM{ej:List Nat}{ops:List bU}{wr:List Bool}{st:aw}(he:ss (b9 aa) ej ops wr st=true):∃n,ss (bN aa n) ej ops wr st=true:=by
 unfold ss at he;split at he
 ·rename_i cv ht
  simp only[cm]at he;obtain⟨n,hn⟩:=Ju _ _ _ ht;obtain⟨m,hm⟩:=NY _ he.2;refine⟨max n m,?_⟩;unfold ss;rw[zK (nt aa (sg n m)) _ _ _ hn];simp only[cm];refine⟨he.1,?_⟩;rw[eE]at hm⊢;exact fun q bu=>Cu (nt aa (q8 n m)) (hm q bu)
 ·cases he
theorem ahN{ej:List Nat}{ops:List bU}{wr:List Bool}{st:aw}(he:pD (b9 aa) ej ops wr st=true):∃n,pD (bN aa n) ej ops wr st=true:=by
 unfold pD at he;simp only[j2]at he;rcases he with he|he
 ·obtain⟨n,hn⟩:=ahM he
  exact⟨n,by unfold pD;rw[hn];rfl⟩
 ·split at he
  ·rename_i cv ht
   simp only[cm]at he;obtain⟨n,hn⟩:=Ju _ _ _ ht;obtain⟨m,hm⟩:=NY _ he.2;refine⟨max n m,?_⟩;unfold pD;rw[zK (nt aa (sg n m)) _ _ _ hn];simp only[j2,cm];refine .inr ⟨he.1,?_⟩;rw[eE]at hm⊢;exact fun q bu=>Cu (nt aa (q8 n m)) (hm q bu)
  ·cases he
theorem lJ (ops:List bU)(ej:Option (List Nat))(st:aw):er aa (.region ops ej) st=match c8 (b9 aa) ops {st with aM:=[]} []with
  |some (bf,wr)=>match ej with
   |none=>some (.normal,{bf with aM:=[]})
   |some b=>if sr b ops wr||pD (b9 aa) b ops wr {st with aM:=[]}then some (.normal,{bf with aM:=[]})else none
  |none=>none:=by
 refine x1 fun r=> ?_;rw[gL];constructor
 ·rintro⟨n,hn⟩
  simp only[exec,aw.gb]at hn;split at hn
  ·rename_i st1 wr h1
   rw[zJ (EL n) _ _ _ _ h1];cases ej with
   |none=>exact hn
   |some b=>
    simp only at hn⊢;split at hn
    ·rename_i hb
     rw[if_pos]
     ·exact hn
     ·simp only[j2]at hb⊢
      exact hb.imp id (NV (EL n))
    ·cases hn
  ·cases hn
 ·intro h
  split at h
  ·rename_i st1 wr h1
   obtain⟨n,hn⟩:=NX _ _ _ _ h1;cases ej with
   |none=>exact⟨n,by simp only[exec,aw.gb];rw[hn];exact h⟩
   |some b=>
    simp only at h;split at h
    ·rename_i hb
     simp only[j2]at hb;rcases hb with hb|hb
     ·exact⟨n,by simp only[exec,aw.gb];rw[hn];simp only[];rw[hb];exact h⟩
     ·obtain⟨m,hm⟩:=ahN hb
      refine⟨max n m,?_⟩;simp only[exec,aw.gb];rw[zJ (nt aa (sg n m)) _ _ _ _ hn];simp only[];rw[NV (nt aa (q8 n m)) hm,Bool.or_true];exact h
    ·cases h
  ·cases h
theorem jn (a b:cF)(st:aw):er aa (.seq a b) st=match er aa a st with
  |some (.normal,bf)=>er aa b bf
  |r=>r:=by
 refine x1 fun r=> ?_;rw[gL];constructor
 ·rintro⟨n,hn⟩
  simp only[exec,aw.gb]at hn;split at hn
  ·rename_i st1 h1
   rw[gL.2 ⟨n,h1⟩];exact gL.2 ⟨n,hn⟩
  ·rename_i bq
   rw[gL.2 ⟨n,hn⟩];split
   ·rename_i st1 e;cases e;exact absurd hn (bq _)
   ·rfl
 ·intro h
  split at h
  ·rename_i st1 h1
   obtain⟨n,hn⟩:=gL.1 h1;obtain⟨m,hm⟩:=gL.1 h;exact⟨max n m,by simp only[exec,aw.gb];rw[vT (sg n m) hn];exact vT (q8 n m) hm⟩
  ·rename_i bq
   obtain⟨n,hn⟩:=gL.1 h;refine⟨n,?_⟩;simp only[exec,aw.gb];rw[hn];split
   ·rename_i st1 e;cases e;exact absurd h (bq _)
   ·rfl
theorem nu (c:ai)(t e:cF)(st:aw):er aa (.cond c t e) st=match c.ah st.aM st.ay with
  | .bool true=>er aa t st
  | .bool false=>er aa e st
  | _=>none:=by
 refine x1 fun r=> ?_;rw[gL];constructor
 ·rintro⟨n,hn⟩
  simp only[exec,aw.gb]at hn;split at hn
  ·rename_i hc
   try simp only[hc]
   exact gL.2 ⟨n,hn⟩
  ·rename_i hc
   try simp only[hc]
   exact gL.2 ⟨n,hn⟩
  ·cases hn
 ·intro h
  split at h
  ·rename_i hc
   obtain⟨n,hn⟩:=gL.1 h;exact⟨n,by simp only[exec,hc];exact hn⟩
  ·rename_i hc
   obtain⟨n,hn⟩:=gL.1 h;exact⟨n,by simp only[exec,hc];exact hn⟩
  ·cases h
theorem pE (id:Nat)(c:cF)(st:aw):er aa (.block id c) st=match er aa c st with
  |some (.exit uQ,bf)=>if uQ=id then some (.normal,bf)else some (.exit uQ,bf)
  |r=>r:=by
 refine x1 fun r=> ?_;rw[gL];constructor
 ·rintro⟨n,hn⟩
  simp only[exec,aw.gb]at hn;split at hn
  ·rename_i h1
   rw[gL.2 ⟨n,h1⟩];exact hn
  ·rename_i bq
   rw[gL.2 ⟨n,hn⟩];split
   ·rename_i e;cases e;exact absurd hn (bq _ _)
   ·rfl
 ·intro h
  split at h
  ·rename_i h1
   obtain⟨n,hn⟩:=gL.1 h1;exact⟨n,by simp only[exec,aw.gb];rw[hn];exact h⟩
  ·rename_i bq
   obtain⟨n,hn⟩:=gL.1 h;refine⟨n,?_⟩;simp only[exec,aw.gb];rw[hn];split
   ·rename_i e;cases e;exact absurd h (bq _ _)
   ·rfl
theorem ahO{f:aw->Option (X × aw)}{n m:Nat}{st:aw}{r:X × aw}(hle:n<=m)(h:iter f n st=some r):iter f m st=some r:=Js (fun _ _ h=>h) n m st r hle h
theorem tq (c:cF)(st:aw):er aa (.loop c) st=match er aa c st with
  |some (.normal,bf)=>er aa (.loop c) bf
  |r=>r:=by
 refine x1 fun r=> ?_;rw[gL];constructor
 ·rintro⟨n,hn⟩
  simp only[exec,aw.gb]at hn;cases n with
  |zero=>cases hn
  |succ n=>
   simp only[iter]at hn;split at hn
   ·rename_i st1 h1
    rw[gL.2 ⟨n+1,h1⟩];exact gL.2 ⟨n+1,by simp only[exec,aw.gb];exact ahO (ED n) hn⟩
   ·rename_i bq
    rw[gL.2 ⟨n+1,hn⟩];split
    ·rename_i e;cases e;exact absurd hn (bq _)
    ·rfl
 ·intro h
  split at h
  ·rename_i st1 h1
   obtain⟨n,hn⟩:=gL.1 h1;obtain⟨m,hm⟩:=gL.1 h;simp only[exec,aw.gb]at hm;refine⟨max n m+1,?_⟩;simp only[exec,iter];rw[vT (show n<=max n m+1 by omega) hn];exact Js (fun st r hr=>vT (show m<=max n m+1 by omega) hr) m (max n m) _ _ (q8 n m) hm
  ·rename_i bq
   obtain⟨n,hn⟩:=gL.1 h;refine⟨n+1,?_⟩;simp only[exec,iter];rw[vT (ED n) hn];split
   ·rename_i e;cases e;exact absurd h (bq _)
   ·rfl
theorem VF (f:ai)(ps:List Nat)(a b:cF)(st:aw):er aa (.rangeFunc f ps a b) st=
  if(EI st.H st.ro&&Cq (f.ah st.aM st.ay))=false then none else
  match b9 aa (f.ah st.aM st.ay) [.yield st.H.length] (st.H++[.loop .ready .normal st.ay ps a b])with
  |some (_,H',low')=>match H'[st.H.length]? with
   |some (.loop ls uP _ _ _ _)=>if ls=.busy then none else some (uP,{st with H:=H'.set st.H.length .gone,low:=min st.low low'})
   | _=>none
  |none=>none:=by
 refine x1 fun r=> ?_;rw[gL];constructor
 ·rintro⟨n,hn⟩
  simp only[exec,aw.gb]at hn;split at hn
  ·cases hn
  ·rename_i hc
   rw[if_neg hc];split at hn
   ·rename_i h1
    rw[EL n _ _ _ _ h1];exact hn
   ·cases hn
 ·intro h
  split at h
  ·cases h
  ·rename_i hc
   split at h
   ·rename_i h1
    obtain⟨n,hn⟩:=vS.1 h1;exact⟨n,by simp only[exec,aw.gb];rw[if_neg hc,hn];exact h⟩
   ·cases h
theorem pF (i:Nat)(first caps args:List V)(H:Heap):b9 aa (.fn i first caps) args H=match aa i with
  |some (.code fn)=>iL (er aa) fn (first++args++caps) H
  |some (.ext spec)=>if cj (first++args++caps)then(spec (first++args++caps)).map fun v=>(v,H,H.length)else none
  |some (.vQ spec)=>Cr spec (first++args++caps) H
  |none=>none:=by
 refine x1 fun r=> ?_;rw[vS];constructor
 ·rintro⟨n,hn⟩
  cases n with
  |zero=>simp[bN]at hn
  |succ n=>
   simp only[bN,rl]at hn;split at hn
   ·rename_i h1;try simp only[h1]
    exact VC (ex':=er aa) (fun c st r h=>gL.2 ⟨n,h⟩) hn
   ·rename_i h1;try simp only[h1]
    exact hn
   ·rename_i h1;try simp only[h1]
    exact hn
   ·cases hn
 ·intro h
  cases ht:aa i with
  |none=>rw[ht]at h;cases h
  |some F=>
   rw[ht]at h;cases F with
   |ext spec=>exact⟨1,by simp only[bN,rl,ht];exact h⟩
   |vQ spec=>exact⟨1,by simp only[bN,rl,ht];exact h⟩
   |code fn=>
    simp only at h;unfold iL at h;split at h
    ·rename_i hl
     split at h
     ·rename_i st h1
      obtain⟨n,hn⟩:=gL.1 h1;exact⟨n+1,by simp only[bN,rl,ht,iL];rw[if_pos hl,hn];exact h⟩
     ·rename_i st h1
      obtain⟨n,hn⟩:=gL.1 h1;exact⟨n+1,by simp only[bN,rl,ht,iL];rw[if_pos hl,hn];exact h⟩
     ·cases h
    ·cases h
theorem ahP (l:Nat)(args:List V)(H:Heap):b9 aa (.yield l) args H=qx (er aa) l args H:=by
 refine x1 fun r=> ?_;rw[vS];constructor
 ·rintro⟨n,hn⟩
  cases n with
  |zero=>simp[bN]at hn
  |succ n=>exact VD (fun c st r h=>gL.2 ⟨n,h⟩) hn
 ·intro h
  unfold qx at h;split at h
  ·rename_i hl
   split at h
   ·rename_i hlen
    split at h
    ·rename_i st h1
     split at h
     ·rename_i h2
      split at h
      ·rename_i au
       obtain⟨n,hn⟩:=gL.1 h1;obtain⟨m,hm⟩:=gL.1 au;refine⟨max n m+1,?_⟩;simp only[bN,rl,qx,hl,hlen,if_true];simp only[vT (sg n m) hn,h2,vT (q8 n m) hm];exact h
      ·cases h
     ·cases h
    ·cases h
   ·cases h
  ·cases h
end Go.Abs
namespace Go.Abs
inductive Jv where
 |leaf
 |node (l:Jv) (k:Nat) (f:cc) (r:Jv)
def Jv.get:Jv->Nat->Option cc
 | .leaf,_=>none
 | .node l k f r,i=>bif Nat.blt i k then l.get i else bif Nat.blt k i then r.get i else some f
def jI (l:List (List V × V)):List V->Option V:=fun args=>match l with
 |[]=>none
 |(aX,v)::r=>bif nQ args aX then some v else jI r args
def over (aa:Nat->Option cc)(k:Nat)(spec:List V->Option V):Nat->Option cc:=fun i=>bif Nat.beq i k then some (.ext spec)else aa i
def jJ (aa:Nat->Option cc)(n i:Nat):List (List V × V)->Prop
 |[]=>True
 |(aX,v)::r=>(bx v=true/\bN aa n (.fn i [] []) aX []=some (v,[],0))/\jJ aa n i r
end Go.Abs
namespace Go.Abs.bA
open Go Go.Abs
abbrev aj (n:Int):V:=.int .i64 n
def VG:V:=.agg [aj 36,.str [50],aj 7,aj 8,.cu]
def ahQ:V:=.list 5 [VG]
def VH:V:=.agg [aj 3,.str [115],aj 0,aj 9,ahQ]
def VI:V:=.agg [aj 35,.str [115],aj 24,aj 25,.cu]
def ahR:V:=.list 5 [VI]
def VJ:V:=.agg [aj 11,.str [97],aj 21,aj 25,ahR]
def ahS:V:=.list 5 [VJ]
def VK:V:=.agg [aj 10,.str [],aj 20,aj 26,ahS]
def ahT:V:=.list 5 [VK]
def VL:V:=.agg [aj 4,.str [114],aj 10,aj 27,ahT]
def VM:V:=.agg [aj 10,.str [],aj 37,aj 39,.cu]
def VN:V:=.agg [aj 37,.str [49],aj 43,aj 44,.cu]
def VO:V:=.agg [aj 37,.str [51],aj 46,aj 47,.cu]
def ahU:V:=.list 5 [VN,VO]
def VP:V:=.agg [aj 12,.str [],aj 43,aj 47,ahU]
def ahV:V:=.list 5 [VM,VP]
def VQ:V:=.agg [aj 5,.str [99],aj 28,aj 48,ahV]
def VR:V:=.agg [aj 10,.str [],aj 65,aj 67,.cu]
def VS:V:=.agg [aj 1,.str [],aj 67,aj 67,.cu]
def VT:V:=.agg [aj 35,.str [115],aj 75,aj 76,.cu]
def ahW:V:=.list 5 [VT]
def VU:V:=.agg [aj 11,.str [120],aj 72,aj 76,ahW]
def ahX:V:=.list 5 [VU]
def VV:V:=.agg [aj 10,.str [],aj 71,aj 77,ahX]
def VW:V:=.agg [aj 35,.str [120],aj 80,aj 81,.cu]
def ahY:V:=.list 5 [VW]
def VX:V:=.agg [aj 22,.str [114],aj 78,aj 82,ahY]
def ahZ:V:=.list 5 [VS,VV,VX]
def VY:V:=.agg [aj 21,.str [43],aj 68,aj 82,ahZ]
def NZ:V:=.agg [aj 1,.str [],aj 84,aj 84,.cu]
def VZ:V:=.agg [aj 22,.str [99],aj 85,aj 88,.cu]
def ah0:V:=.list 5 [NZ,NZ,VZ]
def V0:V:=.agg [aj 21,.str [45],aj 83,aj 88,ah0]
def ah1:V:=.list 5 [VY,V0]
def V1:V:=.agg [aj 20,.str [],aj 68,aj 88,ah1]
def V2:V:=.agg [aj 37,.str [48],aj 92,aj 93,.cu]
def ah2:V:=.list 5 [V2]
def V3:V:=.agg [aj 19,.str [60,61],aj 89,aj 93,ah2]
def ah3:V:=.list 5 [VR,V1,V3]
def V4:V:=.agg [aj 17,.str [],aj 62,aj 93,ah3]
def ah4:V:=.list 5 [V4]
def V5:V:=.agg [aj 8,.str [105],aj 49,aj 94,ah4]
def V6:V:=.list 5 [VH,VL,VQ,V5]
def x2:V:=.agg [aj 2,.str [],aj 0,aj 94,V6]
def ah5:V:=.agg [.str [115],aj 2]
def ah6:V:=.list 2 [ah5]
def ah7:V:=.agg [.str [114],aj 0,.list 1 [aj 0],aj 0,aj 1,aj 0]
def ah8:V:=.agg [.str [99],aj 1,.cu,aj 1,aj 3,aj 2]
def N0:V:=.list 6 [ah7,ah8]
def ah9:V:=.agg [.str [105],aj 12]
def aia:V:=.list 2 [ah9]
def Jw:V:=.agg [aj 2,.str [],aj 0,aj 94,V6,ah6,N0,aia,.cu]
def V7:V:=.str [115,111,114,116,32,115,32,50,59,32,114,101,108,97,116,105,111,110,32,114,40,97,58,32,115,41,59,32,99,111,117,110,116,101,114,32,99,40,41,32,105,110,32,49,46,46,51,59,32,105,110,118,97,114,105,97,110,116,32,105,58,32,97,108,108,40,41,32,115,117,109,40,120,58,32,115,41,32,114,40,120,41,32,45,32,99,40,41,32,60,61,32,48,59]
def aib:V:=.agg [aj 0,aj (-1)]
def N1:V:=.list 2 [aib]
def N2:V:=.agg [aj 0,aj 0,N1,aj 0,aj 0,aj 0]
def V8:V:=.agg [aj 0,aj 1]
def N3:V:=.list 2 [V8]
def N4:V:=.agg [aj 0,aj 0,N3,aj 1,aj 0,aj 0]
def aic:V:=.agg [aj 1,aj (-1)]
def N5:V:=.list 2 [aic]
def N6:V:=.agg [aj 0,aj 0,N5,aj 0,aj 0,aj 0]
def V9:V:=.agg [aj 1,aj 1]
def N7:V:=.list 2 [V9]
def N8:V:=.agg [aj 0,aj 0,N7,aj 1,aj 0,aj 0]
def Wa:V:=.agg [aj 2,aj (-1)]
def N9:V:=.list 2 [Wa]
def Oa:V:=.agg [aj 0,aj 1,N9,aj (-1),aj 0,aj 0]
def aid:V:=.agg [aj 2,aj 1]
def Ob:V:=.list 2 [aid]
def Oc:V:=.agg [aj 0,aj 1,Ob,aj 3,aj 0,aj 0]
def Od:V:=.list 2 [V8,V9,Wa]
def Oe:V:=.agg [aj 0,aj 2,Od,aj 0,aj 0,aj 0]
def Wb:V:=.list 6 [N2,N4,N6,N8,Oa,Oc,Oe]
def aie:V:=.list 1 [.str [114],.str [99],.str [105]]
def Cv:V:=.agg [.list 1 [aj 2],N0,aie,Wb,.cu,.cu,.cu]
def Wc:V:=.str [99,40,41,61,50,59,114,32,40,32,48,32,41,32,61,32,49,32,59]
def vU:V:=.list 1 [aj 1,aj 1,aj 1]
def x3:V:=.list 1 [aj 1,aj 0,aj 1]
end Go.Abs.bA
namespace Go.Abs.bA
open Go Go.Abs
def x4:List V->Option V
 |[.str s]=>if s.all (fun b=>b<128)&&decide (s.length<4294967281)then some (if(Lib.fields s).isEmpty then .emp else .list 1 ((Lib.fields s).map .str))else none
 | _=>none
def EM:List V->Option V
 |[.str s]=>if s.length<=18 then(Lib.atoi s).map fun n=>.aF [.int .i64 n,.j5]else none
 | _=>none
def x5:List V->Option V
 |[.str s,.int .u8 c]=>some (.int .i64 (Lib.indexByte s (UInt8.ofNat c.toNat)))
 | _=>none
def strs:List V->Option (List (List UInt8))
 |[]=>some []
 | .str s::r=>(strs r).map (s:: ·)
 | _=>none
def EN:List V->Option V
 |[.cu,.str _]=>some (.str [])
 |[.list es ds,.str sep]=>match strs ds with
  |some l=>if es=1/\l≠[]/\l.length<=4096/\(Lib.join l sep).length<=1000000 then some (.str (Lib.join l sep))else none
  |none=>none
 | _=>none
def EO:List V->Option V
 |[.int .i64 n]=>if 0<=n/\n<10 then some (.str [UInt8.ofNat (48+n.toNat)])else if -100000<n/\n<100000 then some (.str (Lib.itoa n))else none
 | _=>none
def EP:List V->Option V
 |[.int .u64 n]=>if 0<=n/\n<=7 then some (.int .i64 (Lib.bitLen n.toNat))else none
 | _=>none
def ER:List V->Option V
 |[.str s,.str [c]]=>if c<128 then some (.str (s.dropWhile (· ==c)))else none
 | _=>none
def Wd:List (List V × V):=[([N1],N1),([N3],N3),([N5],N5),([N7],N7),([N9],N9),([Ob],Ob),([Od],Od)]
end Go.Abs.bA
namespace Go.Abs
open Go
structure Home where
 b:Nat
 tag:Nat
 fI:Nat
 fz:Bool
structure cg where
 β:Nat->Option Home
 I:Nat->Prop
def iM (w:World)(b o:Nat)(vals:List Value):Prop:=
 ∀(j:Nat) (x:Value),vals[j]? =some x->w.cell? ⟨b,o+j,none⟩=some x
mutual
inductive gf (w:World) (I:Nat->Prop):V->Value->Prop
 |bool (b:Bool):gf w I (.bool b) (.bool b)
 |int (k:IntKind) (n:Int):gf w I (.int k n) (.int k n)
 |str (s:List UInt8):gf w I (.str s) (.string ⟨⟨s⟩⟩)
 |cu:gf w I .cu (.slice none 0 0)
 |emp (a:Addr):gf w I .emp (.slice (some a) 0 0)
 |vV (es:Nat) (a:Addr) (cap:Nat):gf w I (.list es []) (.slice (some a) 0 cap)
 |list (es:Nat) (ds:List V) (b o cap:Nat) (vals:List Value) (bp:I b) (hc:iM w b o vals) (hu:∀d∈ds,(aI d).length=es)
  (hr:dp w I (ds.flatMap aI) vals) (hl:ds.length<=cap):gf w I (.list es ds) (.slice (some ⟨b,o,none⟩) ds.length cap)
 |jj:gf w I .jj (.pointer none)
 |jk:gf w I .jk (.map none)
 |kr:gf w I .kr .nilFunc
 |j5:gf w I .j5 .nilIface
 |agg (vs:List V) (vals:List Value) (hr:dp w I vs vals):gf w I (.agg vs) (.agg ⟨vals⟩)
 |aF (vs:List V) (vals:List Value) (hr:dp w I vs vals):gf w I (.aF vs) (.tuple ⟨vals⟩)
 |iface (t:Nat) (v:V) (x:Value) (hr:gf w I v x):gf w I (.iface t v) (.iface t x)
 |fn (i:Nat) (fs cs:List V) (xs cQ:List Value) (ag:dp w I fs xs) (hc:dp w I cs cQ):gf w I (.fn i fs cs) (.func (.func i) ⟨xs⟩ ⟨cQ⟩)
inductive dp (w:World) (I:Nat->Prop):List V->List Value->Prop
 |nil:dp w I [] []
 |cons (v:V) (x:Value) (vs:List V) (xs:List Value) (h:gf w I v x) (hs:dp w I vs xs):dp w I (v::vs) (x::xs)
end
section
mutual
inductive bw (fid:Nat->Nat) (G:cg) (w:World):V->Value->Prop
 |p (v:V) (x:Value) (h:gf w G.I v x):bw fid G w v x
 |ptr (l o:Nat) (h:Home) (hb:G.β l=some h) (ht:h.tag=0):bw fid G w (.ptr l o) (.pointer (some ⟨h.b,o,none⟩))
 |hz (l es i f tag:Nat) (h:Home) (a:Addr) (hb:G.β l=some h) (hle:tag<=h.tag) (al:h.tag=tag->a=⟨h.b,i*es+f,none⟩):
  bw fid G w (.hz l es i f tag) (.pointer (some a))
 |dz (vs:List V) (f b o:Nat) (vals:List Value) (bp:G.I b) (hc:iM w b o vals) (hr:dp w G.I vs vals):bw fid G w (.dz vs f) (.pointer (some ⟨b,o+f,none⟩))
 |cB (l es off len tag:Nat) (h:Home) (a:Addr) (n cap:Nat) (hb:G.β l=some h) (hle:tag<=h.tag)
  (al:h.tag=tag->a=⟨h.b,off*es,none⟩/\n=len/\(off+cap)*es<=h.fI/\len<=cap):bw fid G w (.cB l es off len tag) (.slice (some a) n cap)
 |map (l:Nat) (h:Home) (hb:G.β l=some h) (ht:h.tag=0):bw fid G w (.map l) (.map (some h.b))
 |fn (i:Nat) (fs cs:List V) (xs cQ:List Value) (ag:bj fid G w fs xs) (hc:bj fid G w cs cQ):bw fid G w (.fn i fs cs) (.func (.func i) ⟨xs⟩ ⟨cQ⟩)
 |yield (l:Nat) (h:Home) (hb:G.β l=some h) (ht:h.tag=0):bw fid G w (.yield l) (.func (.yield h.b) #[] #[])
 |agg (vs:List V) (vals:List Value) (hr:bj fid G w vs vals):bw fid G w (.agg vs) (.agg ⟨vals⟩)
 |aF (vs:List V) (vals:List Value) (hr:bj fid G w vs vals):bw fid G w (.aF vs) (.tuple ⟨vals⟩)
 |iface (t:Nat) (v:V) (x:Value) (hr:bw fid G w v x):bw fid G w (.iface t v) (.iface t x)
 |undef (x:Value):bw fid G w .undef x
inductive bj (fid:Nat->Nat) (G:cg) (w:World):List V->List Value->Prop
 |nil:bj fid G w [] []
 |cons (v:V) (x:Value) (vs:List V) (xs:List Value) (h:bw fid G w v x) (hs:bj fid G w vs xs):bj fid G w (v::vs) (x::xs)
end
end
variable{fid:Nat->Nat}{w w':World}{G G':cg}{I sw:Nat->Prop}
theorem Of{b:Nat}(h:w'.heap[b]? =w.heap[b]?)(o:Nat):w'.cell? ⟨b,o,none⟩=w.cell? ⟨b,o,none⟩:=by
 simp[World.cell?,h]
theorem iM.eH{b o:Nat}{vals:List Value}(h:iM w b o vals)(hb:w'.heap[b]? =w.heap[b]?):iM w' b o vals:=
 fun j x hx=>by rw[Of hb];exact h j x hx
mutual
theorem gf.mono (bp:∀b,I b->sw b/\w'.heap[b]? =w.heap[b]?):∀{v:V} {x:Value},gf w I v x->gf w' sw v x
 | _,_,.bool b=>.bool b
 | _,_,.int k n=>.int k n
 | _,_,.str s=>.str s
 | _,_,.cu=>.cu
 | _,_,.emp a=>.emp a
 | _,_,.vV es a cap=>.vV es a cap
 | _,_,.list es ds b o cap vals h hc hu hr hl=>.list es ds b o cap vals (bp b h).1 (hc.eH (bp b h).2) hu (dp.mono bp hr) hl
 | _,_,.jj=>.jj
 | _,_,.jk=>.jk
 | _,_,.kr=>.kr
 | _,_,.j5=>.j5
 | _,_,.agg vs vals hr=>.agg vs vals (dp.mono bp hr)
 | _,_,.aF vs vals hr=>.aF vs vals (dp.mono bp hr)
 | _,_,.iface t v x hr=>.iface t v x (gf.mono bp hr)
 | _,_,.fn i fs cs xs cQ ag hc=>.fn i fs cs xs cQ (dp.mono bp ag) (dp.mono bp hc)
theorem dp.mono (bp:∀b,I b->sw b/\w'.heap[b]? =w.heap[b]?):∀{vs:List V} {xs:List Value},dp w I vs xs->dp w' sw vs xs
 | _,_,.nil=>.nil
 | _,_,.cons v x vs xs h hs=>.cons v x vs xs (gf.mono bp h) (dp.mono bp hs)
end
def mD (β aif:Nat->Option Home):Prop:=
 ∀l h,β l=some h->∃h',aif l=some h'/\h.tag<=h'.tag/\(h.tag=0->h'.tag=0)/\(h'.tag=h.tag->h'.b=h.b/\h'.fI=h.fI)/\(h.fz=true->h'=h)
theorem mD.refl (β:Nat->Option Home):mD β β:=fun _ h hb=>⟨h,hb,aN _,id,fun _=>⟨rfl,rfl⟩,fun _=>rfl⟩
theorem mD.trans{a b c:Nat->Option Home}(h:mD a b)(k:mD b c):mD a c:=by
 intro l h₀ hb;obtain⟨h₁,aih,aii,aij,m₁,aik⟩:=h l h₀ hb;obtain⟨h₂,Og,ail,aim,m₂,ain⟩:=k l h₁ aih;refine⟨h₂,Og,c4 aii ail,fun z=>aim (aij z),fun ht=> ?_,fun f=> ?_⟩
 ·have e:h₁.tag=h₀.tag:=by omega
  have e':h₂.tag=h₁.tag:=by omega
  exact⟨(m₂ e').1.trans (m₁ e).1,(m₂ e').2.trans (m₁ e).2⟩
 ·have:=aik f;subst this;exact ain f
mutual
theorem bw.mono (hH:mD G.β G'.β)(bp:∀b,G.I b->G'.I b/\w'.heap[b]? =w.heap[b]?):∀{v:V} {x:Value},bw fid G w v x->bw fid G' w' v x
 | _,_,.p v x h=>.p v x (gf.mono bp h)
 | _,_,.ptr l o h hb ht=>by
   obtain⟨h',e,-,z,m,-⟩:=hH l h hb;have:=(m ((z ht).trans ht.symm)).1;rw[<-this];exact .ptr l o h' e (z ht)
 | _,_,.hz l es i f tag h a hb hle al=>by
   obtain⟨h',e,t,z,m,-⟩:=hH l h hb;refine .hz l es i f tag h' a e (c4 hle t) (fun hx=> ?_);have ht:h'.tag=h.tag:=by omega
   rw[(m ht).1];exact al (by omega)
 | _,_,.dz vs f b o vals h hc hr=>.dz vs f b o vals (bp b h).1 (hc.eH (bp b h).2) (dp.mono bp hr)
 | _,_,.cB l es off len tag h a n cap hb hle al=>by
   obtain⟨h',e,t,z,m,-⟩:=hH l h hb;refine .cB l es off len tag h' a n cap e (c4 hle t) (fun hx=> ?_);have ht:h'.tag=h.tag:=by omega
   rw[(m ht).1,(m ht).2];exact al (by omega)
 | _,_,.map l h hb ht=>by
   obtain⟨h',e,-,z,m,-⟩:=hH l h hb;have:=(m ((z ht).trans ht.symm)).1;rw[<-this];exact .map l h' e (z ht)
 | _,_,.fn i fs cs xs cQ ag hc=>.fn i fs cs xs cQ (bj.mono hH bp ag) (bj.mono hH bp hc)
 | _,_,.yield l h hb ht=>by
   obtain⟨h',e,-,z,m,-⟩:=hH l h hb;have:=(m ((z ht).trans ht.symm)).1;rw[<-this];exact .yield l h' e (z ht)
 | _,_,.agg vs vals hr=>.agg vs vals (bj.mono hH bp hr)
 | _,_,.aF vs vals hr=>.aF vs vals (bj.mono hH bp hr)
 | _,_,.iface t v x hr=>.iface t v x (bw.mono hH bp hr)
 | _,_,.undef x=>.undef x
theorem bj.mono (hH:mD G.β G'.β)(bp:∀b,G.I b->G'.I b/\w'.heap[b]? =w.heap[b]?):∀{vs:List V} {xs:List Value},bj fid G w vs xs->bj fid G' w' vs xs
 | _,_,.nil=>.nil
 | _,_,.cons v x vs xs h hs=>.cons v x vs xs (bw.mono hH bp h) (bj.mono hH bp hs)
end
mutual
theorem bw.restrict{n:Nat}(hH:∀l h,l<n->G.β l=some h->∃h',G'.β l=some h'/\h'=h)(bp:∀b,G.I b->G'.I b/\w'.heap[b]? =w.heap[b]?):
  ∀{v:V} {x:Value},bw fid G w v x->old n v=true\/(bx v=true)->bw fid G' w' v x
 | _,_,.p v x h,_=>.p v x (gf.mono bp h)
 | _,_,.ptr l o h hb ht,ho=>by
   obtain⟨h',e,rfl⟩:=hH l h (by simpa[old,bx]using ho) hb;exact .ptr l o _ e ht
 | _,_,.hz l es i f tag h a hb hle al,ho=>by
   obtain⟨h',e,rfl⟩:=hH l h (by simpa[old,bx]using ho) hb;exact .hz l es i f tag _ a e hle al
 | _,_,.dz vs f b o vals h hc hr,_=>.dz vs f b o vals (bp b h).1 (hc.eH (bp b h).2) (dp.mono bp hr)
 | _,_,.cB l es off len tag h a n cap hb hle al,ho=>by
   obtain⟨h',e,rfl⟩:=hH l h (by simpa[old,bx]using ho) hb;exact .cB l es off len tag _ a n cap e hle al
 | _,_,.map l h hb ht,ho=>by
   obtain⟨h',e,rfl⟩:=hH l h (by simpa[old,bx]using ho) hb;exact .map l _ e ht
 | _,_,.fn i fs cs xs cQ ag hc,ho=>by
   simp only[old,bx,cm]at ho;exact .fn i fs cs xs cQ (bj.restrict hH bp ag (ho.imp And.left And.left)) (bj.restrict hH bp hc (ho.imp And.right And.right))
 | _,_,.yield l h hb ht,ho=>by
   obtain⟨h',e,rfl⟩:=hH l h (by simpa[old,bx]using ho) hb;exact .yield l _ e ht
 | _,_,.agg vs vals hr,ho=>.agg vs vals (bj.restrict hH bp hr (by simpa[old,bx]using ho))
 | _,_,.aF vs vals hr,ho=>.aF vs vals (bj.restrict hH bp hr (by simpa[old,bx]using ho))
 | _,_,.iface t v x hr,ho=>.iface t v x (bw.restrict hH bp hr (by simpa[old,bx]using ho))
 | _,_,.undef x,_=>.undef x
theorem bj.restrict{n:Nat}(hH:∀l h,l<n->G.β l=some h->∃h',G'.β l=some h'/\h'=h)(bp:∀b,G.I b->G'.I b/\w'.heap[b]? =w.heap[b]?):
  ∀{vs:List V} {xs:List Value},bj fid G w vs xs->olds n vs=true\/cj vs=true->bj fid G' w' vs xs
 | _,_,.nil,_=>.nil
 | _,_,.cons v x vs xs h hs,ho=>by
   have h1:old n v=true\/bx v=true:=by rcases ho with ho|ho<;>simp_all [olds,cj]
   have h2:olds n vs=true\/cj vs=true:=by rcases ho with ho|ho<;>simp_all [olds,cj]
   exact .cons v x vs xs (bw.restrict hH bp h h1) (bj.restrict hH bp hs h2)
end
mutual
theorem bw.qA:∀{v:V} {x:Value},bw fid G w v x->bx v=true->gf w G.I v x
 | _,_,.p v x h,_=>h
 | _,_,.agg vs vals hr,ho=>.agg vs vals (bj.qA hr (by simpa[bx]using ho))
 | _,_,.aF vs vals hr,ho=>.aF vs vals (bj.qA hr (by simpa[bx]using ho))
 | _,_,.iface t v x hr,ho=>.iface t v x (bw.qA hr (by simpa[bx]using ho))
 | _,_,.fn i fs cs xs cQ ag hc,ho=>by
   simp only[bx,cm]at ho;exact .fn i fs cs xs cQ (bj.qA ag ho.1) (bj.qA hc ho.2)
 | _,_,.ptr ..,ho| _,_,.hz ..,ho| _,_,.dz ..,ho| _,_,.cB ..,ho| _,_,.map ..,ho| _,_,.yield ..,ho| _,_,.undef ..,ho=>by simp[bx]at ho
theorem bj.qA:∀{vs:List V} {xs:List Value},bj fid G w vs xs->cj vs=true->dp w G.I vs xs
 | _,_,.nil,_=>.nil
 | _,_,.cons v x vs xs h hs,ho=>by
   simp only[cj,cm]at ho;exact .cons v x vs xs (bw.qA h ho.1) (bj.qA hs ho.2)
end
theorem dp.pG:∀{vs:List V} {xs:List Value},dp w G.I vs xs->bj fid G w vs xs
 | _,_,.nil=>.nil
 | _,_,.cons v x vs xs h hs=>.cons v x vs xs (.p v x h) (dp.pG hs)
mutual
theorem gf.flat:∀{v:V} {x:Value},gf w I v x->Abs.flat v=true->gf w' sw v x
 | _,_,.bool b,_=>.bool b
 | _,_,.int k n,_=>.int k n
 | _,_,.str s,_=>.str s
 | _,_,.cu,_=>.cu
 | _,_,.emp a,_=>.emp a
 | _,_,.jj,_=>.jj
 | _,_,.jk,_=>.jk
 | _,_,.kr,_=>.kr
 | _,_,.j5,_=>.j5
 | _,_,.agg vs vals hr,h=>.agg vs vals (dp.flat hr (by simpa[Abs.flat]using h))
 | _,_,.aF vs vals hr,h=>.aF vs vals (dp.flat hr (by simpa[Abs.flat]using h))
 | _,_,.vV ..,h| _,_,.list ..,h| _,_,.iface ..,h| _,_,.fn ..,h=>by simp[Abs.flat]at h
theorem dp.flat:∀{vs:List V} {xs:List Value},dp w I vs xs->vN vs=true->dp w' sw vs xs
 | _,_,.nil,_=>.nil
 | _,_,.cons v x vs xs h hs,ho=>by
   simp only[vN,cm]at ho;exact .cons v x vs xs (gf.flat h ho.1) (dp.flat hs ho.2)
end
mutual
theorem We:∀{v:V},Abs.flat v=true->bx v=true
 | .bool _,_| .int _ _,_| .str _,_| .cu,_| .emp,_| .jj,_| .jk,_| .kr,_| .j5,_=>rfl
 | .agg vs,h=>by simp only[bx];exact Oh (by simpa[Abs.flat]using h)
 | .aF vs,h=>by simp only[bx];exact Oh (by simpa[Abs.flat]using h)
 | .list ..,h| .ptr ..,h| .hz ..,h| .dz ..,h| .cB ..,h| .map ..,h| .fn ..,h| .yield ..,h| .iface ..,h| .undef,h=>by simp[Abs.flat]at h
theorem Oh:∀{vs:List V},vN vs=true->cj vs=true
 |[],_=>rfl
 |v::vs,h=>by
  simp only[vN,cm]at h;simp only[cj,cm];exact⟨We h.1,Oh h.2⟩
end
theorem bw.flat{v:V}{x:Value}(h:bw fid G w v x)(ag:Abs.flat v=true):bw fid G' w' v x:=.p _ _ ((h.qA (We ag)).flat ag)
theorem bj.length:∀{vs:List V} {xs:List Value},bj fid G w vs xs->xs.length=vs.length
 | _,_,.nil=>rfl
 | _,_,.cons _ _ _ _ _ hs=>by simp[bj.length hs]
theorem bj.get:∀{vs:List V} {xs:List Value},bj fid G w vs xs->∀{i:Nat} {v:V},vs[i]? =some v->∃x,xs[i]? =some x/\bw fid G w v x
 | _,_,.nil,i,v,h=>by simp at h
 | _,_,.cons v x vs xs h hs,0,u,e=>by simp at e;subst e;exact⟨x,by simp,h⟩
 | _,_,.cons v x vs xs h hs,i+1,u,e=>by simpa using bj.get hs (by simpa using e)
theorem bj.append:∀{vs us:List V} {xs cQ:List Value},bj fid G w vs xs->bj fid G w us cQ->bj fid G w (vs++us) (xs++cQ)
 | _,_,_,_,.nil,k=>k
 | _,_,_,_,.cons v x vs xs h hs,k=>.cons v x _ _ h (bj.append hs k)
theorem bj.split:∀{vs us:List V} {dk:List Value},bj fid G w (vs++us) dk->∃xs cQ,dk=xs++cQ/\bj fid G w vs xs/\bj fid G w us cQ
 |[],us,dk,h=>⟨[],dk,rfl,.nil,h⟩
 |v::vs,us,_,.cons _ x _ xs h hs=>by
  obtain⟨aX,aQ,rfl,h1,h2⟩:=bj.split (vs:=vs) hs;exact⟨x::aX,aQ,rfl,.cons v x vs aX h h1,h2⟩
theorem bj.set:∀{vs:List V} {xs:List Value},bj fid G w vs xs->∀(i:Nat) {v:V} {x:Value},bw fid G w v x->bj fid G w (vs.set i v) (xs.set i x)
 | _,_,.nil,_,_,_,_=>.nil
 | _,_,.cons v x vs xs h hs,0,u,y,k=>.cons u y vs xs k hs
 | _,_,.cons v x vs xs h hs,i+1,u,y,k=>.cons v x _ _ h (bj.set hs i k)
theorem bj.drop:∀{vs:List V} {xs:List Value},bj fid G w vs xs->∀(n:Nat),bj fid G w (vs.drop n) (xs.drop n)
 | _,_,h,0=>by simpa using h
 | _,_,.nil,n+1=>.nil
 | _,_,.cons v x vs xs h hs,n+1=>by simpa using bj.drop hs n
theorem bj.take:∀{vs:List V} {xs:List Value},bj fid G w vs xs->∀(n:Nat),bj fid G w (vs.take n) (xs.take n)
 | _,_,h,0=>by simpa using bj.nil
 | _,_,.nil,n+1=>.nil
 | _,_,.cons v x vs xs h hs,n+1=>.cons v x _ _ h (bj.take hs n)
theorem bj.aio{vs:List V}{xs:List Value}(hl:xs.length=vs.length)(h:∀(i:Nat) v x,vs[i]? =some v->xs[i]? =some x->bw fid G w v x):bj fid G w vs xs:=by
 induction vs generalizing xs with
 |nil=>cases xs with
  |nil=>exact .nil
  |cons=>simp at hl
 |cons v vs ih=>cases xs with
  |nil=>simp at hl
  |cons x xs=>exact .cons v x vs xs (h 0 v x rfl rfl) (ih (by simpa using hl) (fun i v x a b=>h (i+1) v x (by simpa using a) (by simpa using b)))
theorem dp.drop:∀{vs:List V} {xs:List Value},dp w I vs xs->∀(n:Nat),dp w I (vs.drop n) (xs.drop n)
 | _,_,h,0=>by simpa using h
 | _,_,.nil,n+1=>.nil
 | _,_,.cons _ _ _ _ _ hs,n+1=>by simpa using dp.drop hs n
theorem dp.take:∀{vs:List V} {xs:List Value},dp w I vs xs->∀(n:Nat),dp w I (vs.take n) (xs.take n)
 | _,_,_,0=>by simpa using dp.nil
 | _,_,.nil,n+1=>.nil
 | _,_,.cons v x _ _ h hs,n+1=>.cons v x _ _ h (dp.take hs n)
theorem dp.length{vs:List V}{xs:List Value}(h:dp w I vs xs):xs.length=vs.length:=bj.length (fid:=id) (G:=⟨fun _=>none,I⟩) (dp.pG h)
def Oi:X->Option Code->Prop
 | .normal,none=>True
 | .exit id,some (.exit uQ)=>uQ=id
 | .ret,some .ret=>True
 | _,_=>False
def pH (es:Array MapEntry)(bX:Nat):Prop:=(∀x∈es.toList,x.born<bX)/\(es.toList.map (·.born)).Nodup
def ES (C:Ctx)(w:World)(b:Nat)(vs:List V):Prop:=∀v,vs=[.undef,v]->∃c e,w.heap[b]? =some (.cells c e (0,0))/\C.zF=some e/\(c[0]? =some (.pointer none)\/c[0]? =some (.pointer (some ⟨b,0,none⟩)))
def j8 (C:Ctx)(fid:Nat->Nat)(G:cg)(w:World)(h:Home):cf->Prop
 | .cells vs=>(h.tag=0/\ES C w h.b vs)/\h.fz=false/\∃c e,w.heap[h.b]? =some (.cells c e (0,0))/\bj fid G w vs c.toList
 | .row es ds fz=>h.tag=ds.length/\0<ds.length/\h.fz=fz/\0<es/\(∀d∈ds,(aI d).length=es)/\
  ∃c e vals rest,w.heap[h.b]? =some (.cells c e (0,0))/\h.fI=c.size/\c.toList=vals++rest/\bj fid G w (ds.flatMap aI) vals
 | .map bz=>h.tag=0/\h.fz=false/\∃es bX,w.heap[h.b]? =some (.map es bX)/\
  bj fid G w (bz.map (·.1)) (es.toList.map (·.key))/\bj fid G w (bz.map (·.2)) (es.toList.map (·.val))/\pH es bX
 | .loop st uP env params assign body=>h.tag=0/\h.fz=false/\∃L vars,w.heap[h.b]? =some (.loop L)/\L.state=st/\Oi uP L.pending/\
  L.params.toList=params/\(∀t∈params,t∈vars/\t<L.tmps.size)/\
  C.code vars L.tmps.size L.assign=some assign/\C.code vars L.tmps.size L.body=some body/\∀t∈vars,bw fid G w (bZ env t) (L.tmps.getD t undef)
 | .rh s=>h.fz=false/\h.tag=s.length/\0<s.length/\∃c rest,w.heap[h.b]? =some (.cells c C.xY (0,0))/\h.fI=c.size/\c.toList=(s.map fun b=>Value.int .u8 b.toNat)++rest
 | .dead n=>h.fz=false/\h.tag=n
 | .gone=>h.tag=0/\h.fz=false
structure bd (C:Ctx) (fid:Nat->Nat) (G:cg) (H:Heap) (w:World):Prop where
 obj:∀l h,G.β l=some h->∃o,H[l]? =some o/\j8 C fid G w h o
 inj:∀l fB h h',G.β l=some h->G.β fB=some h'->h.b=h'.b->l=fB
 blk:∀l h,G.β l=some h->h.b<w.heap.size
 c9:∀b,G.I b->b<w.heap.size/\∀l h,G.β l=some h->h.b=b->h.fz=true
 kV:∀l h,G.β l=some h->h.fz=true->G.I h.b
 ff:∀b o,C.ff b=some o->G.I b/\w.heap[b]? =some o
structure Ext (G:cg) (w:World) (G':cg) (w':World) (m n:Nat):Prop where
 size:w.heap.size<=w'.heap.size
 os:w'.os=w.os
 output:w'.output=w.output
 eH:∀b,b<w.heap.size->(∀l h,G.β l=some h->h.b=b->h.fz=true\/l<m)->w'.heap[b]? =w.heap[b]?
 homes:mD G.β G'.β
 oG:∀l h',G'.β l=some h'->(∃h,G.β l=some h/\(h.b=h'.b\/w.heap.size<=h'.b))\/(n<=l/\w.heap.size<=h'.b)
 c9:∀b,G.I b->G'.I b
 pI:∀b,G'.I b->G.I b\/w.heap.size<=b\/∃l h,G.β l=some h/\h.b=b
theorem Ext.Oj{m n:Nat}(h:Ext G w G' w' m n)(l:Nat)(h':Home)(e:G'.β l=some h'):(∃h,G.β l=some h/\h.b=h'.b)\/w.heap.size<=h'.b:=by
 rcases h.oG l h' e with⟨h0,eP,q|q⟩|⟨_,q⟩
 ·exact .inl ⟨h0,eP,q⟩
 ·exact .inr q
 ·exact .inr q
theorem Ext.refl (G:cg)(w:World)(m n:Nat):Ext G w G w m n:=
 ⟨aN _,rfl,rfl,fun _ _ _=>rfl,.refl _,fun _ h hb=>.inl ⟨h,hb,.inl rfl⟩,fun _ h=>h,fun _ h=>.inl h⟩
theorem Ext.le{m m' n Wf:Nat}(h:Ext G w G' w' m n)(hm:m'<=m)(hn:Wf<=n):Ext G w G' w' m' Wf:=
 {h with eH:=fun b hb k=>h.eH b hb fun l x ad e2=>(k l x ad e2).imp id fun q=>se q hm
         oG:=fun l h' e=>(h.oG l h' e).imp id fun q=>⟨c4 hn q.1,q.2⟩}
theorem Ext.trans{Wg:cg}{gF:World}{m n:Nat}(h:Ext G w G' w' m n)(k:Ext G' w' Wg gF m n):Ext G w Wg gF m n where
 size:=c4 h.size k.size
 os:=k.os.trans h.os
 output:=k.output.trans h.output
 eH b hb hk:=by
  rw[k.eH b (se hb h.size) ?_,h.eH b hb hk];intro l h1 ad e2;rcases h.Oj l h1 ad with⟨h0,eP,eb⟩|hn
  ·rcases hk l h0 eP (eb.trans e2)with ag|hl
   ·obtain⟨h',e',-,-,-,mB⟩:=h.homes l h0 eP
    rw[ad]at e';cases e';rw[mB ag];exact .inl ag
   ·exact .inr hl
  ·omega
 homes:=h.homes.trans k.homes
 oG l h2 e:=by
  have hs:=h.size;rcases k.oG l h2 e with⟨h1,ad,eb⟩|⟨hn,hb⟩
  ·rcases h.oG l h1 ad with⟨h0,eP,Cw⟩|⟨hn,hb⟩
   ·refine .inl ⟨h0,eP,?_⟩
    rcases eb with eb|eb<;>rcases Cw with Cw|Cw
    ·exact .inl (Cw.trans eb)
    ·exact .inr (by omega)
    ·exact .inr (by omega)
    ·exact .inr (by omega)
   ·exact .inr ⟨hn,by rcases eb with eb|eb<;>omega⟩
  ·exact .inr ⟨hn,by omega⟩
 c9 b hb:=k.c9 b (h.c9 b hb)
 pI b hb:=by
  rcases k.pI b hb with h1|h1|⟨l,h1,ad,eb⟩
  ·exact h.pI b h1
  ·exact .inr (.inl (c4 h.size h1))
  ·rcases h.Oj l h1 ad with⟨h0,eP,Cw⟩|hn
   ·exact .inr (.inr ⟨l,h0,eP,Cw.trans eb⟩)
   ·exact .inr (.inl (by omega))
theorem bd.Wh{C:Ctx}{H:Heap}{m n:Nat}(U:bd C fid G H w)(h:Ext G w G' w' m n):∀b,G.I b->G'.I b/\w'.heap[b]? =w.heap[b]? :=fun b hb=>
 ⟨h.c9 b hb,h.eH b (U.c9 b hb).1 fun l x ad e2=>.inl ((U.c9 b hb).2 l x ad e2)⟩
theorem bw.ext{C:Ctx}{H:Heap}{m n:Nat}(U:bd C fid G H w)(h:Ext G w G' w' m n){v:V}{x:Value}(k:bw fid G w v x):bw fid G' w' v x:=
 k.mono h.homes (U.Wh h)
theorem bj.ext{C:Ctx}{H:Heap}{m n:Nat}(U:bd C fid G H w)(h:Ext G w G' w' m n){v:List V}{x:List Value}(k:bj fid G w v x):bj fid G' w' v x:=
 k.mono h.homes (U.Wh h)
theorem j8.mono{C:Ctx}(hH:mD G.β G'.β)(bp:∀b,G.I b->G'.I b/\w'.heap[b]? =w.heap[b]?){h:Home}(hb:w'.heap[h.b]? =w.heap[h.b]?):∀{o:cf},j8 C fid G w h o->j8 C fid G' w' h o
 | .cells vs,⟨a,b,c,e,hc,hr⟩=>⟨⟨a.1,fun v af=>by rw[hb];exact a.2 v af⟩,b,c,e,by rw[hb];exact hc,hr.mono hH bp⟩
 | .row es ds fz,⟨a,b,c,d,u,Wi,e,vals,rest,hc,hs,hl,hr⟩=>⟨a,b,c,d,u,Wi,e,vals,rest,by rw[hb];exact hc,hs,hl,hr.mono hH bp⟩
 | .map bz,⟨a,b,es,bX,hc,hk,af,hs⟩=>⟨a,b,es,bX,by rw[hb];exact hc,hk.mono hH bp,af.mono hH bp,hs⟩
 | .loop ..,⟨a,b,L,vars,hc,hs,hp,vW,hin,al,aip,he⟩=>⟨a,b,L,vars,by rw[hb];exact hc,hs,hp,vW,hin,al,aip,fun t ht=>(he t ht).mono hH bp⟩
 | .rh s,⟨a,b,d,c,rest,hc,hs,hl⟩=>⟨a,b,d,c,rest,by rw[hb];exact hc,hs,hl⟩
 | .dead _,h=>h
 | .gone,h=>h
end Go.Abs
