/- Texts of this claim, joined and written short by a program. -/
import Derived.Test.YtonmjjfciemcoaaGreatDoorP00
import Derived.KernelRfl
import Derived.Lib.Fields
import Derived.Lib.Atoi
import Derived.Lib.Bytealg
import Derived.Lib.Join
import Derived.Laws.World
set_option linter.unusedVariables false
set_option linter.unusedSimpArgs false
set_option linter.unusedSectionVars false
namespace Go.Abs
def u3 (a b:cW):Prop:=∀f args H r,a f args H=some r->b f args H=some r
variable{call qi:cW}
theorem vW (h:u3 call qi){ah:aj->V}{H:Heap}{low:Nat}{op:cV}{r:V × Heap × Nat}(he:cc call ah H low op=some r):cc qi ah H low op=some r:=by
 cases op with
 |call raw f args=>
  cases raw
  ·simp only[cc]at he⊢
   split at he
   ·rename_i vs H1 bO h1
    split at he
    ·rename_i u H2 l h2
     rw[h _ _ _ _ h2];exact he
    ·cases he
   ·cases he
  ·simp only[cc]at he⊢
   split at he
   ·rename_i u H2 l h2
    rw[h _ _ _ _ h2];exact he
   ·cases he
 | _=>exact he
theorem zV (h:u3 call qi):∀(ops:List bS) (st:av) (wr:List Bool) (r:av × List Bool),c3 call ops st wr=some r->c3 qi ops st wr=some r
 |[],st,wr,r,he=>he
 |o::ops,st,wr,r,he=>by
  simp only[c3]at he⊢;split at he
  ·rename_i hw
   try simp only[hw]
   split at he
   ·rename_i v H' low' h1
    rw[vW h h1];exact zV h ops _ _ _ he
   ·cases he
  ·rename_i hw
   try simp only[hw]
   exact zV h ops _ _ _ he
  ·cases he
theorem zW (h:u3 call qi):∀(ops:List bS) (st:av) (r:List av),fx call ops st=some r->fx qi ops st=some r
 |[],st,r,he=>he
 |o::ops,st,r,he=>by
  simp only[fx]at he⊢;split at he
  ·rename_i hw
   try simp only[hw]
   split at he
   ·rename_i v H' low' h1
    rw[vW h h1];obtain⟨x,hx,rfl⟩:=cA.1 he;simp only[];rw[zW h ops _ _ hx];rfl
   ·cases he
  ·rename_i hw
   try simp only[hw]
   obtain⟨x,hx,rfl⟩:=cA.1 he;rw[zW h ops _ _ hx];rfl
  ·cases he
theorem CT (h:u3 call qi){q:bS × av × Heap}(he:jz call q=true):jz qi q=true:=by
 unfold jz at he⊢;split at he
 ·rename_i hw;try simp only[hw]
 ·rename_i hw
  try simp only[hw]
  split at he
  ·rename_i v H1 bO h1
   rw[vW h h1];simp only[];split at he
   ·rename_i v2 H2 dH h2
    rw[vW h h2];exact he
   ·cases he
  ·cases he
 ·cases he
theorem aj7 (h:u3 call qi){dX:List Nat}{ops:List bS}{wr:List Bool}{st:av}(he:r8 call dX ops wr st=true):r8 qi dX ops wr st=true:=by
 unfold r8 at he⊢;split at he
 ·rename_i cl ht
  rw[zW h _ _ _ ht];simp only[b6,ev]at he⊢;exact⟨he.1,fun q bf=>CT h (he.2 q bf)⟩
 ·cases he
theorem Oz (h:u3 call qi){dX:List Nat}{ops:List bS}{wr:List Bool}{st:av}(he:pb call dX ops wr st=true):pb qi dX ops wr st=true:=by
 unfold pb at he⊢;simp only[iI]at he⊢;rcases he with he|he
 ·exact .inl (aj7 h he)
 ·right
  split at he
  ·rename_i cl ht
   rw[zW h _ _ _ ht];simp only[b6,ev]at he⊢;exact⟨he.1,fun q bf=>CT h (he.2 q bf)⟩
  ·cases he
theorem Kf{f ml:av->Option (X × av)}(h:∀st r,f st=some r->ml st=some r):∀(n m:Nat) (st:av) (r:X × av),n<=m->iter f n st=some r->iter ml m st=some r
 |0,_,_,_,_,he=>by cases he
 |n+1,0,_,_,hle,_=>by omega
 |n+1,m+1,st,r,hle,he=>by
  simp only[iter]at he⊢;split at he
  ·rename_i st1 h1
   rw[h _ _ h1];exact Kf h n m _ _ (by omega) he
  ·rename_i bg
   rw[h _ _ he];split
   ·rename_i aQ e;cases e;exact absurd he (bg _)
   ·rfl
theorem tn (h:u3 call qi){n m:Nat}(hle:n<=m):∀(c:bZ) (st:av) (r:X × av),exec call n c st=some r->exec qi m c st=some r
 | .skip,st,r,he=>he
 | .zQ ops ok f,st,r,he=>by
   simp only[exec]at he⊢;split at he
   ·rename_i st1 wr h1
    rw[zV h _ _ _ _ h1];exact he
   ·cases he
 | .region ops dX,st,r,he=>by
   simp only[exec,av.fy]at he⊢;split at he
   ·rename_i st1 wr h1
    rw[zV h _ _ _ _ h1];cases dX with
    |none=>exact he
    |some b=>
     simp only at he⊢;split at he
     ·rename_i hb
      rw[if_pos]
      ·exact he
      ·simp only[iI]at hb⊢
       exact hb.imp id (Oz h)
     ·cases he
   ·cases he
 | .seq a b,st,r,he=>by
   simp only[exec,av.fy]at he⊢;split at he
   ·rename_i st1 h1
    rw[tn h hle a _ _ h1];exact tn h hle b _ _ he
   ·rename_i bg
    rw[tn h hle a _ _ he];split
    ·rename_i st1 e;cases e;exact absurd he (bg _)
    ·rfl
 | .cond c t e,st,r,he=>by
   simp only[exec,av.fy]at he⊢;split at he
   ·exact tn h hle t _ _ he
   ·exact tn h hle e _ _ he
   ·cases he
 | .block id c,st,r,he=>by
   simp only[exec,av.fy]at he⊢;split at he
   ·rename_i u1 st1 h1
    rw[tn h hle c _ _ h1];exact he
   ·rename_i bg
    rw[tn h hle c _ _ he];split
    ·rename_i u1 st1 e;cases e;exact absurd he (bg _ _)
    ·rfl
 | .loop c,st,r,he=>by
   simp only[exec,av.fy]at he⊢;exact Kf (fun st r hr=>tn h hle c st r hr) n m st r hle he
 | .rangeFunc f ps a b,st,r,he=>by
   simp only[exec,av.fy]at he⊢;split at he
   ·cases he
   ·rename_i hc
    try rw[if_neg hc]
    split at he
    ·rename_i u H1 bO h1
     rw[h _ _ _ _ h1];exact he
    ·cases he
 | .exit id,st,r,he=>he
 | .ret,st,r,he=>he
 | .fail,st,r,he=>he
def OA (ex ex':bZ->av->Option (X × av)):Prop:=∀c st r,ex c st=some r->ex' c st=some r
theorem Kg{ex ex':bZ->av->Option (X × av)}(h:OA ex ex'){f:hY}{args:List V}{H:Heap}{r:V × Heap × Nat}(he:gF ex f args H=some r):gF ex' f args H=some r:=by
 unfold gF at he⊢;split at he
 ·rename_i hl
  rw[if_pos hl];split at he
  ·rename_i st h1;rw[h _ _ _ h1];exact he
  ·rename_i st h1;rw[h _ _ _ h1];exact he
  ·cases he
 ·cases he
theorem WC{ex ex':bZ->av->Option (X × av)}(h:OA ex ex'){l:Nat}{args:List V}{H:Heap}{r:V × Heap × Nat}(he:qg ex l args H=some r):qg ex' l args H=some r:=by
 unfold qg at he⊢;split at he
 ·split at he
  ·rename_i hl
   simp only[hl,if_true];split at he
   ·rename_i st h1
    simp only[h _ _ _ h1];split at he
    ·rename_i h2
     try simp only[h2]
     split at he
     ·rename_i ar
      simp only[h _ _ _ ar];exact he
     ·cases he
    ·cases he
   ·cases he
  ·cases he
 ·cases he
theorem WD (aa:Nat->Option bU):∀n,u3 (bm aa n) (bm aa (n+1))
 |0=>fun f args H r he=>by simp[bm]at he
 |n+1=>fun f args H r he=>by
  have hx:OA (exec (bm aa n) n) (exec (bm aa (n+1)) (n+1)):=fun c st r hr=>tn (WD aa n) (Fu n) c st r hr;show q0 aa (bm aa (n+1)) (n+1) f args H=some r;change q0 aa (bm aa n) n f args H=some r at he;unfold q0 at he⊢;split at he
  ·split at he
   ·rename_i h1;try simp only[h1]
    exact Kg hx he
   ·rename_i h1;try simp only[h1]
    exact he
   ·rename_i h1;try simp only[h1]
    exact he
   ·cases he
  ·exact WC hx he
  ·cases he
theorem ng (aa:Nat->Option bU){n:Nat}:∀{m:Nat},n<=m->u3 (bm aa n) (bm aa m)
 |0,h=>by have:n=0:=by omega
          subst this;exact fun _ _ _ _ h=>h
 |m+1,h=>by
  rcases gh n (m+1)with h1|h1
  ·exact fun f args H r he=>WD aa m f args H r (ng aa (m:=m) (by omega) f args H r he)
  ·have:n=m+1:=by omega
   subst this;exact fun _ _ _ _ h=>h
open Classical in
noncomputable def b0 (aa:Nat->Option bU):cW:=fun f args H=>if h:∃r n,bm aa n f args H=some r then some h.choose else none
open Classical in
noncomputable def c4 (aa:Nat->Option bU)(c:bZ)(st:av):Option (X × av):=if h:∃r n,exec (bm aa n) n c st=some r then some h.choose else none
variable{aa:Nat->Option bU}
theorem tp{f:V}{args:List V}{H:Heap}{r:V × Heap × Nat}:b0 aa f args H=some r↔∃n,bm aa n f args H=some r:=by
 unfold b0;constructor
 ·intro h
  split at h
  ·rename_i hex;cases h;exact hex.choose_spec
  ·cases h
 ·rintro⟨n,hn⟩
  have hex:∃r n,bm aa n f args H=some r:=⟨r,n,hn⟩;rw[dif_pos hex];obtain⟨m,hm⟩:=hex.choose_spec;have a:=ng aa (uV n m) _ _ _ _ hn;have b:=ng aa (tb n m) _ _ _ _ hm;rw[a]at b;exact b.symm
theorem vX{n m:Nat}(hle:n<=m){c:bZ}{st:av}{r:X × av}(h:exec (bm aa n) n c st=some r):exec (bm aa m) m c st=some r:=tn (ng aa hle) hle c st r h
theorem fW{c:bZ}{st:av}{r:X × av}:c4 aa c st=some r↔∃n,exec (bm aa n) n c st=some r:=by
 unfold c4;constructor
 ·intro h
  split at h
  ·rename_i hex;cases h;exact hex.choose_spec
  ·cases h
 ·rintro⟨n,hn⟩
  have hex:∃r n,exec (bm aa n) n c st=some r:=⟨r,n,hn⟩;rw[dif_pos hex];obtain⟨m,hm⟩:=hex.choose_spec;have a:=vX (uV n m) hn;have b:=vX (tb n m) hm;rw[a]at b;exact b.symm
theorem FA (n:Nat):u3 (bm aa n) (b0 aa):=fun _ _ _ _ h=>tp.2 ⟨n,h⟩
theorem yh{α:Type}{a b:Option α}(h:∀r,a=some r↔b=some r):a=b:=by
 cases a with
 |none=>cases b with
  |none=>rfl
  |some y=>exact absurd ((h y).2 rfl) (by simp)
 |some x=>exact((h x).1 rfl).symm
theorem Kh{ah:aj->V}{H:Heap}{low:Nat}{op:cV}{r:V × Heap × Nat}:cc (b0 aa) ah H low op=some r↔∃n,cc (bm aa n) ah H low op=some r:=by
 constructor
 ·intro he
  cases op with
  |call raw f args=>
   cases raw
   ·simp only[cc]at he⊢
    split at he
    ·rename_i vs H1 bO h1
     split at he
     ·rename_i u H2 l h2
      obtain⟨n,hn⟩:=tp.1 h2;exact⟨n,by rw[hn];exact he⟩
     ·cases he
    ·cases he
   ·simp only[cc]at he⊢
    split at he
    ·rename_i u H2 l h2
     obtain⟨n,hn⟩:=tp.1 h2;exact⟨n,by rw[hn];exact he⟩
    ·cases he
  | _=>exact⟨0,he⟩
 ·rintro⟨n,hn⟩;exact vW (FA n) hn
theorem OB:∀(ops:List bS) (st:av) (wr:List Bool) (r:av × List Bool),c3 (b0 aa) ops st wr=some r->∃n,c3 (bm aa n) ops st wr=some r
 |[],st,wr,r,he=>⟨0,he⟩
 |o::ops,st,wr,r,he=>by
  simp only[c3]at he⊢;split at he
  ·rename_i hw
   split at he
   ·rename_i v H' low' h1
    obtain⟨n,hn⟩:=Kh.1 h1;obtain⟨m,hm⟩:=OB ops _ _ _ he;refine⟨max n m,?_⟩;rw[vW (ng aa (uV n m)) hn];exact zV (ng aa (tb n m)) ops _ _ _ hm
   ·cases he
  ·rename_i hw
   obtain⟨m,hm⟩:=OB ops _ _ _ he;exact⟨m,hm⟩
  ·cases he
theorem nO (st:av):c4 aa .skip st=some (.normal,st):=fW.2 ⟨0,rfl⟩
theorem q3 (id:Nat)(st:av):c4 aa (.exit id) st=some (.exit id,st):=fW.2 ⟨0,rfl⟩
theorem nP (st:av):c4 aa .ret st=some (.ret,st):=fW.2 ⟨0,rfl⟩
theorem Ki:∀(ops:List bS) (st:av) (r:List av),fx (b0 aa) ops st=some r->∃n,fx (bm aa n) ops st=some r
 |[],st,r,he=>⟨0,he⟩
 |o::ops,st,r,he=>by
  simp only[fx]at he⊢;split at he
  ·rename_i hw
   split at he
   ·rename_i v H' low' h1
    obtain⟨n,hn⟩:=Kh.1 h1;obtain⟨x,hx,rfl⟩:=cA.1 he;obtain⟨m,hm⟩:=Ki ops _ _ hx;refine⟨max n m,?_⟩;rw[vW (ng aa (uV n m)) hn];simp only[];rw[zW (ng aa (tb n m)) ops _ _ hm];rfl
   ·cases he
  ·rename_i hw
   obtain⟨x,hx,rfl⟩:=cA.1 he;obtain⟨m,hm⟩:=Ki ops _ _ hx;exact⟨m,by rw[hm];rfl⟩
  ·cases he
theorem aj8{q:bS × av × Heap}(he:jz (b0 aa) q=true):∃n,jz (bm aa n) q=true:=by
 unfold jz at he⊢;split at he
 ·rename_i hw;exact⟨0,by try simp only[hw]⟩
 ·rename_i hw
  try simp only[hw]
  split at he
  ·rename_i v H1 bO h1
   split at he
   ·rename_i v2 H2 dH h2
    obtain⟨n,hn⟩:=Kh.1 h1;obtain⟨m,hm⟩:=Kh.1 h2;refine⟨max n m,?_⟩;rw[vW (ng aa (uV n m)) hn,vW (ng aa (tb n m)) hm];exact he
   ·cases he
  ·cases he
 ·cases he
theorem OC:∀(l:List (bS × av × Heap)),l.all (jz (b0 aa))=true->∃n,l.all (jz (bm aa n))=true
 |[],_=>⟨0,rfl⟩
 |q::l,he=>by
  simp only[J7,b6]at he;obtain⟨n,hn⟩:=aj8 he.1;obtain⟨m,hm⟩:=OC l he.2;refine⟨max n m,?_⟩;simp only[J7,b6];refine⟨CT (ng aa (uV n m)) hn,?_⟩;rw[ev]at hm⊢;exact fun q bf=>CT (ng aa (tb n m)) (hm q bf)
theorem aj9{dX:List Nat}{ops:List bS}{wr:List Bool}{st:av}(he:r8 (b0 aa) dX ops wr st=true):∃n,r8 (bm aa n) dX ops wr st=true:=by
 unfold r8 at he;split at he
 ·rename_i cl ht
  simp only[b6]at he;obtain⟨n,hn⟩:=Ki _ _ _ ht;obtain⟨m,hm⟩:=OC _ he.2;refine⟨max n m,?_⟩;unfold r8;rw[zW (ng aa (uV n m)) _ _ _ hn];simp only[b6];refine⟨he.1,?_⟩;rw[ev]at hm⊢;exact fun q bf=>CT (ng aa (tb n m)) (hm q bf)
 ·cases he
theorem aka{dX:List Nat}{ops:List bS}{wr:List Bool}{st:av}(he:pb (b0 aa) dX ops wr st=true):∃n,pb (bm aa n) dX ops wr st=true:=by
 unfold pb at he;simp only[iI]at he;rcases he with he|he
 ·obtain⟨n,hn⟩:=aj9 he
  exact⟨n,by unfold pb;rw[hn];rfl⟩
 ·split at he
  ·rename_i cl ht
   simp only[b6]at he;obtain⟨n,hn⟩:=Ki _ _ _ ht;obtain⟨m,hm⟩:=OC _ he.2;refine⟨max n m,?_⟩;unfold pb;rw[zW (ng aa (uV n m)) _ _ _ hn];simp only[iI,b6];refine .inr ⟨he.1,?_⟩;rw[ev]at hm⊢;exact fun q bf=>CT (ng aa (tb n m)) (hm q bf)
  ·cases he
theorem k2 (ops:List bS)(dX:Option (List Nat))(st:av):c4 aa (.region ops dX) st=match c3 (b0 aa) ops {st with aF:=[]} []with
  |some (aQ,wr)=>match dX with
   |none=>some (.normal,{aQ with aF:=[]})
   |some b=>if r7 b ops wr||pb (b0 aa) b ops wr {st with aF:=[]}then some (.normal,{aQ with aF:=[]})else none
  |none=>none:=by
 refine yh fun r=> ?_;rw[fW];constructor
 ·rintro⟨n,hn⟩
  simp only[exec,av.fy]at hn;split at hn
  ·rename_i st1 wr h1
   rw[zV (FA n) _ _ _ _ h1];cases dX with
   |none=>exact hn
   |some b=>
    simp only at hn⊢;split at hn
    ·rename_i hb
     rw[if_pos]
     ·exact hn
     ·simp only[iI]at hb⊢
      exact hb.imp id (Oz (FA n))
    ·cases hn
  ·cases hn
 ·intro h
  split at h
  ·rename_i st1 wr h1
   obtain⟨n,hn⟩:=OB _ _ _ _ h1;cases dX with
   |none=>exact⟨n,by simp only[exec,av.fy];rw[hn];exact h⟩
   |some b=>
    simp only at h;split at h
    ·rename_i hb
     simp only[iI]at hb;rcases hb with hb|hb
     ·exact⟨n,by simp only[exec,av.fy];rw[hn];simp only[];rw[hb];exact h⟩
     ·obtain⟨m,hm⟩:=aka hb
      refine⟨max n m,?_⟩;simp only[exec,av.fy];rw[zV (ng aa (uV n m)) _ _ _ _ hn];simp only[];rw[Oz (ng aa (tb n m)) hm,Bool.or_true];exact h
    ·cases h
  ·cases h
theorem hM (a b:bZ)(st:av):c4 aa (.seq a b) st=match c4 aa a st with
  |some (.normal,aQ)=>c4 aa b aQ
  |r=>r:=by
 refine yh fun r=> ?_;rw[fW];constructor
 ·rintro⟨n,hn⟩
  simp only[exec,av.fy]at hn;split at hn
  ·rename_i st1 h1
   rw[fW.2 ⟨n,h1⟩];exact fW.2 ⟨n,hn⟩
  ·rename_i bg
   rw[fW.2 ⟨n,hn⟩];split
   ·rename_i st1 e;cases e;exact absurd hn (bg _)
   ·rfl
 ·intro h
  split at h
  ·rename_i st1 h1
   obtain⟨n,hn⟩:=fW.1 h1;obtain⟨m,hm⟩:=fW.1 h;exact⟨max n m,by simp only[exec,av.fy];rw[vX (uV n m) hn];exact vX (tb n m) hm⟩
  ·rename_i bg
   obtain⟨n,hn⟩:=fW.1 h;refine⟨n,?_⟩;simp only[exec,av.fy];rw[hn];split
   ·rename_i st1 e;cases e;exact absurd h (bg _)
   ·rfl
theorem mn (c:aj)(t e:bZ)(st:av):c4 aa (.cond c t e) st=match c.ah st.aF st.au with
  | .bool true=>c4 aa t st
  | .bool false=>c4 aa e st
  | _=>none:=by
 refine yh fun r=> ?_;rw[fW];constructor
 ·rintro⟨n,hn⟩
  simp only[exec,av.fy]at hn;split at hn
  ·rename_i hc
   try simp only[hc]
   exact fW.2 ⟨n,hn⟩
  ·rename_i hc
   try simp only[hc]
   exact fW.2 ⟨n,hn⟩
  ·cases hn
 ·intro h
  split at h
  ·rename_i hc
   obtain⟨n,hn⟩:=fW.1 h;exact⟨n,by simp only[exec,hc];exact hn⟩
  ·rename_i hc
   obtain⟨n,hn⟩:=fW.1 h;exact⟨n,by simp only[exec,hc];exact hn⟩
  ·cases h
theorem mo (id:Nat)(c:bZ)(st:av):c4 aa (.block id c) st=match c4 aa c st with
  |some (.exit u1,aQ)=>if u1=id then some (.normal,aQ)else some (.exit u1,aQ)
  |r=>r:=by
 refine yh fun r=> ?_;rw[fW];constructor
 ·rintro⟨n,hn⟩
  simp only[exec,av.fy]at hn;split at hn
  ·rename_i h1
   rw[fW.2 ⟨n,h1⟩];exact hn
  ·rename_i bg
   rw[fW.2 ⟨n,hn⟩];split
   ·rename_i e;cases e;exact absurd hn (bg _ _)
   ·rfl
 ·intro h
  split at h
  ·rename_i h1
   obtain⟨n,hn⟩:=fW.1 h1;exact⟨n,by simp only[exec,av.fy];rw[hn];exact h⟩
  ·rename_i bg
   obtain⟨n,hn⟩:=fW.1 h;refine⟨n,?_⟩;simp only[exec,av.fy];rw[hn];split
   ·rename_i e;cases e;exact absurd h (bg _ _)
   ·rfl
theorem akb{f:av->Option (X × av)}{n m:Nat}{st:av}{r:X × av}(hle:n<=m)(h:iter f n st=some r):iter f m st=some r:=Kf (fun _ _ h=>h) n m st r hle h
theorem sa (c:bZ)(st:av):c4 aa (.loop c) st=match c4 aa c st with
  |some (.normal,aQ)=>c4 aa (.loop c) aQ
  |r=>r:=by
 refine yh fun r=> ?_;rw[fW];constructor
 ·rintro⟨n,hn⟩
  simp only[exec,av.fy]at hn;cases n with
  |zero=>cases hn
  |succ n=>
   simp only[iter]at hn;split at hn
   ·rename_i st1 h1
    rw[fW.2 ⟨n+1,h1⟩];exact fW.2 ⟨n+1,by simp only[exec,av.fy];exact akb (Fu n) hn⟩
   ·rename_i bg
    rw[fW.2 ⟨n+1,hn⟩];split
    ·rename_i e;cases e;exact absurd hn (bg _)
    ·rfl
 ·intro h
  split at h
  ·rename_i st1 h1
   obtain⟨n,hn⟩:=fW.1 h1;obtain⟨m,hm⟩:=fW.1 h;simp only[exec,av.fy]at hm;refine⟨max n m+1,?_⟩;simp only[exec,iter];rw[vX (show n<=max n m+1 by omega) hn];exact Kf (fun st r hr=>vX (show m<=max n m+1 by omega) hr) m (max n m) _ _ (tb n m) hm
  ·rename_i bg
   obtain⟨n,hn⟩:=fW.1 h;refine⟨n+1,?_⟩;simp only[exec,iter];rw[vX (Fu n) hn];split
   ·rename_i e;cases e;exact absurd h (bg _)
   ·rfl
theorem WE (f:aj)(ps:List Nat)(a b:bZ)(st:av):c4 aa (.rangeFunc f ps a b) st=
  if(Fy st.H st.ro&&CO (f.ah st.aF st.au))=false then none else
  match b0 aa (f.ah st.aF st.au) [.yield st.H.length] (st.H++[.loop .ready .normal st.au ps a b])with
  |some (_,H',low')=>match H'[st.H.length]? with
   |some (.loop ls uZ _ _ _ _)=>if ls=.busy then none else some (uZ,{st with H:=H'.set st.H.length .gone,low:=min st.low low'})
   | _=>none
  |none=>none:=by
 refine yh fun r=> ?_;rw[fW];constructor
 ·rintro⟨n,hn⟩
  simp only[exec,av.fy]at hn;split at hn
  ·cases hn
  ·rename_i hc
   rw[if_neg hc];split at hn
   ·rename_i h1
    rw[FA n _ _ _ _ h1];exact hn
   ·cases hn
 ·intro h
  split at h
  ·cases h
  ·rename_i hc
   split at h
   ·rename_i h1
    obtain⟨n,hn⟩:=tp.1 h1;exact⟨n,by simp only[exec,av.fy];rw[if_neg hc,hn];exact h⟩
   ·cases h
theorem k3 (i:Nat)(first caps args:List V)(H:Heap):b0 aa (.fn i first caps) args H=match aa i with
  |some (.code fn)=>gF (c4 aa) fn (first++args++caps) H
  |some (.ext spec)=>if cj (first++args++caps)then(spec (first++args++caps)).map fun v=>(v,H,H.length)else none
  |some (.oC spec)=>qZ spec (first++args++caps) H
  |none=>none:=by
 refine yh fun r=> ?_;rw[tp];constructor
 ·rintro⟨n,hn⟩
  cases n with
  |zero=>simp[bm]at hn
  |succ n=>
   simp only[bm,q0]at hn;split at hn
   ·rename_i h1;try simp only[h1]
    exact Kg (ex':=c4 aa) (fun c st r h=>fW.2 ⟨n,h⟩) hn
   ·rename_i h1;try simp only[h1]
    exact hn
   ·rename_i h1;try simp only[h1]
    exact hn
   ·cases hn
 ·intro h
  cases ht:aa i with
  |none=>rw[ht]at h;cases h
  |some F=>
   rw[ht]at h;cases F with
   |ext spec=>exact⟨1,by simp only[bm,q0,ht];exact h⟩
   |oC spec=>exact⟨1,by simp only[bm,q0,ht];exact h⟩
   |code fn=>
    simp only at h;unfold gF at h;split at h
    ·rename_i hl
     split at h
     ·rename_i st h1
      obtain⟨n,hn⟩:=fW.1 h1;exact⟨n+1,by simp only[bm,q0,ht,gF];rw[if_pos hl,hn];exact h⟩
     ·rename_i st h1
      obtain⟨n,hn⟩:=fW.1 h1;exact⟨n+1,by simp only[bm,q0,ht,gF];rw[if_pos hl,hn];exact h⟩
     ·cases h
    ·cases h
theorem akc (l:Nat)(args:List V)(H:Heap):b0 aa (.yield l) args H=qg (c4 aa) l args H:=by
 refine yh fun r=> ?_;rw[tp];constructor
 ·rintro⟨n,hn⟩
  cases n with
  |zero=>simp[bm]at hn
  |succ n=>exact WC (fun c st r h=>fW.2 ⟨n,h⟩) hn
 ·intro h
  unfold qg at h;split at h
  ·rename_i hl
   split at h
   ·rename_i hlen
    split at h
    ·rename_i st h1
     split at h
     ·rename_i h2
      split at h
      ·rename_i ar
       obtain⟨n,hn⟩:=fW.1 h1;obtain⟨m,hm⟩:=fW.1 ar;refine⟨max n m+1,?_⟩;simp only[bm,q0,qg,hl,hlen,if_true];simp only[vX (uV n m) hn,h2,vX (tb n m) hm];exact h
      ·cases h
     ·cases h
    ·cases h
   ·cases h
  ·cases h
end Go.Abs
namespace Go.Abs
inductive Kj where
 |leaf
 |node (l:Kj) (k:Nat) (f:bU) (r:Kj)
def Kj.get:Kj->Nat->Option bU
 | .leaf,_=>none
 | .node l k f r,i=>bif Nat.blt i k then l.get i else bif Nat.blt k i then r.get i else some f
def hB (l:List (List V × V)):List V->Option V:=fun args=>match l with
 |[]=>none
 |(ay,v)::r=>bif nN args ay then some v else hB r args
def over (aa:Nat->Option bU)(k:Nat)(spec:List V->Option V):Nat->Option bU:=fun i=>bif Nat.beq i k then some (.ext spec)else aa i
def hC (aa:Nat->Option bU)(n i:Nat):List (List V × V)->Prop
 |[]=>True
 |(ay,v)::r=>(bI v=true/\bm aa n (.fn i [] []) ay []=some (v,[],0))/\hC aa n i r
end Go.Abs
namespace Go.Abs.bz
open Go Go.Abs
abbrev J (n:Int):V:=.int .i64 n
def WG:V:=.agg [J 36,.str [50],J 7,J 8,.aN]
def FB:V:=.list 5 [WG]
def OD:V:=.agg [J 3,.str [115],J 0,J 9,FB]
def WH:V:=.agg [J 35,.str [115],J 24,J 25,.aN]
def FC:V:=.list 5 [WH]
def OE:V:=.agg [J 11,.str [97],J 21,J 25,FC]
def CU:V:=.list 5 [OE]
def WI:V:=.agg [J 10,.str [],J 20,J 26,CU]
def FD:V:=.list 5 [WI]
def OG:V:=.agg [J 4,.str [114],J 10,J 27,FD]
def WJ:V:=.agg [J 18,.str [],J 48,J 50,.aN]
def WK:V:=.agg [J 37,.str [49],J 54,J 55,.aN]
def CV:V:=.list 5 [WK]
def WL:V:=.agg [J 19,.str [60,61],J 51,J 55,CV]
def FE:V:=.list 5 [WJ,WL]
def WM:V:=.agg [J 15,.str [114],J 41,J 55,FE]
def FF:V:=.list 5 [WM]
def OH:V:=.agg [J 8,.str [105],J 28,J 56,FF]
def WN:V:=.agg [J 35,.str [115],J 72,J 73,.aN]
def FG:V:=.list 5 [WN]
def OI:V:=.agg [J 24,.str [112],J 69,J 73,FG]
def CW:V:=.list 5 [OI]
def WO:V:=.agg [J 23,.str [],J 68,J 74,CW]
def WQ:V:=.agg [J 1,.str [],J 74,J 74,.aN]
def OJ:V:=.agg [J 35,.str [112],J 86,J 87,.aN]
def FH:V:=.list 5 [OJ]
def WR:V:=.agg [J 22,.str [114],J 84,J 88,FH]
def FI:V:=.list 5 [WR]
def OK:V:=.agg [J 28,.str [],J 77,J 89,FI]
def CX:V:=.list 5 [OK]
def Kk:V:=.agg [J 25,.str [],J 75,J 91,CX]
def FJ:V:=.list 5 [WO,WQ,Kk]
def OL:V:=.agg [J 9,.str [111],J 57,J 91,FJ]
def WS:V:=.agg [J 23,.str [],J 103,J 105,.aN]
def WT:V:=.agg [J 1,.str [],J 105,J 105,.aN]
def OM:V:=.agg [J 1,.str [],J 112,J 112,.aN]
def WU:V:=.agg [J 36,.str [48],J 115,J 116,.aN]
def Kl:V:=.list 5 [WU]
def WV:V:=.agg [J 22,.str [114],J 113,J 117,Kl]
def Km:V:=.list 5 [OM,OM,WV]
def WW:V:=.agg [J 21,.str [43],J 113,J 117,Km]
def Kn:V:=.list 5 [WW]
def WX:V:=.agg [J 20,.str [],J 113,J 117,Kn]
def ON:V:=.agg [J 36,.str [49],J 121,J 122,.aN]
def Ko:V:=.list 5 [ON]
def WY:V:=.agg [J 19,.str [62,61],J 118,J 122,Ko]
def Kp:V:=.list 5 [WX,WY]
def WZ:V:=.agg [J 27,.str [],J 108,J 123,Kp]
def W0:V:=.agg [J 36,.str [48],J 133,J 134,.aN]
def Kq:V:=.list 5 [W0]
def W1:V:=.agg [J 22,.str [114],J 131,J 135,Kq]
def Kr:V:=.list 5 [W1]
def W2:V:=.agg [J 29,.str [],J 124,J 136,Kr]
def W3:V:=.agg [J 36,.str [49],J 146,J 147,.aN]
def Ks:V:=.list 5 [W3]
def W4:V:=.agg [J 22,.str [114],J 144,J 148,Ks]
def Kt:V:=.list 5 [W4]
def W5:V:=.agg [J 28,.str [],J 137,J 149,Kt]
def Ku:V:=.list 5 [WZ,W2,W5]
def OO:V:=.agg [J 25,.str [],J 106,J 151,Ku]
def Kv:V:=.list 5 [WS,WT,OO]
def W6:V:=.agg [J 9,.str [107],J 92,J 151,Kv]
def CY:V:=.list 5 [OD,OG,OH,OL,W6]
def u4:V:=.agg [J 2,.str [],J 0,J 151,CY]
def akd:V:=.agg [.str [115],J 2]
def W7:V:=.list 2 [akd]
def ake:V:=.agg [.str [114],J 0,.list 1 [J 0],J 0,J 1,J 0]
def OP:V:=.list 6 [ake]
def akf:V:=.agg [.str [105],J 7]
def akg:V:=.list 2 [akf]
def akh:V:=.agg [.str [112],J 0,J 0,J 0]
def aki:V:=.list 4 [akh]
def akj:V:=.agg [.str [111],.bool false,aki,J 12]
def akk:V:=.agg [.str [107],.bool false,.aN,J 21]
def akl:V:=.list 4 [akj,akk]
def sb:V:=.agg [J 2,.str [],J 0,J 151,CY,W7,OP,akg,akl]
def FK:V:=.str [115,111,114,116,32,115,32,50,59,32,114,101,108,97,116,105,111,110,32,114,40,97,58,32,115,41,59,32,105,110,118,97,114,105,97,110,116,32,105,58,32,99,111,117,110,116,32,114,40,41,32,60,61,32,49,59,32,111,112,101,114,97,116,105,111,110,32,111,40,112,58,32,115,41,32,123,32,105,110,115,101,114,116,32,114,40,112,41,59,32,125,32,111,112,101,114,97,116,105,111,110,32,107,40,41,32,123,32,104,111,108,100,32,114,40,48,41,32,62,61,32,49,59,32,100,101,108,101,116,101,32,114,40,48,41,59,32,105,110,115,101,114,116,32,114,40,49,41,59,32,125]
def W8:V:=.agg [J 0,J (-1)]
def FL:V:=.list 2 [W8]
def zX:V:=.agg [J 0,J 0,FL,J 0,J 0,J 0]
def W9:V:=.agg [J 0,J 1]
def FM:V:=.list 2 [W9]
def zY:V:=.agg [J 0,J 0,FM,J 1,J 0,J 0]
def akm:V:=.agg [J 1,J (-1)]
def OQ:V:=.list 2 [akm]
def CZ:V:=.agg [J 0,J 0,OQ,J 0,J 0,J 0]
def OR:V:=.agg [J 1,J 1]
def FN:V:=.list 2 [OR]
def C0:V:=.agg [J 0,J 0,FN,J 1,J 0,J 0]
def OS:V:=.list 2 [W9,OR]
def FO:V:=.agg [J 0,J 1,OS,J 1,J 0,J 0]
def Xa:V:=.list 6 [zX,zY,CZ,C0,FO]
def akn:V:=.list 1 [.str [114],.str [105]]
def ako:V:=.agg [.str [111],.bool false,.list 1 [J 0]]
def akp:V:=.agg [.str [107],.bool false,.aN]
def akq:V:=.list 3 [ako,akp]
def akr:V:=.agg [J 0,.list 1 [J 0],FM,.aN,.aN]
def aks:V:=.agg [J 0,.list 1 [J 1],FN,.aN,.aN]
def Xb:V:=.list 2 [W8,OR]
def akt:V:=.agg [FL,J (-1)]
def Xc:V:=.list 2 [akt]
def aku:V:=.agg [J 1,.aN,Xb,Xc,.aN]
def akv:V:=.list 5 [akr,aks,aku]
def nh:V:=.agg [.list 1 [J 2],OP,akn,Xa,akq,akv,.aN]
def qj:V:=.list 1 [J 0,J 0]
def q4:V:=.list 1 [J 1,J 0]
def FP:V:=.list 1 [J 1,J 1]
def OT:V:=.agg [J 0,J 0,FL,J (-1),J 0,J 0]
def ni:V:=.list 1 [J 0,J 1]
def Xd:V:=.list 1 [J 2,J 0]
def Kw:V:=.list 1 [J 0,J 2]
def Kx:V:=.agg [J 0,J 0]
def Ky:V:=.agg [J 2,J 4]
def Xe:V:=.aU [ni,Kx]
def Kz:V:=.agg [J 1,J 0]
def Xf:V:=.agg [FN,.aN,.aN]
def Xg:V:=.agg [Xb,Xc,.aN]
end Go.Abs.bz
namespace Go.Abs.bz
open Go Go.Abs
def FQ:List V->Option V
 |[.str s]=>if s.all (fun b=>b<128)&&decide (s.length<4294967281)then some (if(Lib.fields s).isEmpty then .emp else .list 1 ((Lib.fields s).map .str))else none
 | _=>none
def OU:List V->Option V
 |[.str s]=>if s.length<=18 then(Lib.atoi s).map fun n=>.aU [.int .i64 n,.jO]else none
 | _=>none
def FR:List V->Option V
 |[.str s,.int .u8 c]=>some (.int .i64 (Lib.indexByte s (UInt8.ofNat c.toNat)))
 | _=>none
def strs:List V->Option (List (List UInt8))
 |[]=>some []
 | .str s::r=>(strs r).map (s:: ·)
 | _=>none
def OV:List V->Option V
 |[.aN,.str _]=>some (.str [])
 |[.list es ds,.str sep]=>match strs ds with
  |some l=>if es=1/\l≠[]/\l.length<=4096/\(Lib.join l sep).length<=1000000 then some (.str (Lib.join l sep))else none
  |none=>none
 | _=>none
def OW:List V->Option V
 |[.int .i64 n]=>if 0<=n/\n<10 then some (.str [UInt8.ofNat (48+n.toNat)])else if -10<n/\n<0 then some (.str [45,UInt8.ofNat (48+n.natAbs)])else none
 | _=>none
def OX:List V->Option V
 |[.int .u64 n]=>if n=0 then some (.int .i64 0)else if n=1 then some (.int .i64 1)else if n=2 then some (.int .i64 2)else none
 | _=>none
def OY:List V->Option V
 |[.str s,.str [c]]=>if c<128 then some (.str (s.dropWhile (· ==c)))else none
 | _=>none
def Xh:List (List V × V):=[([FL],FL),([FM],FM),([OQ],OQ),([FN],FN),([OS],OS),([.list 2 [.agg [J 0,J (-1)],.agg [J 1,J 1]]],.list 2 [.agg [J 0,J (-1)],.agg [J 1,J 1]])]
def Xi:List (List V × V):=[([sb,J 0,.list 1 [J 0]],.aU [.agg [FM,.aN,.aN],J 0]),([sb,J 0,.list 1 [J 1]],.aU [Xf,J 0]),([sb,J 1,.aN],.aU [Xg,J 0])]
end Go.Abs.bz
namespace Go.Abs
open Go
structure Home where
 b:Nat
 tag:Nat
 fA:Nat
 fz:Bool
structure bX where
 β:Nat->Option Home
 I:Nat->Prop
def iL (w:World)(b o:Nat)(vals:List Value):Prop:=
 ∀(j:Nat) (x:Value),vals[j]? =some x->w.cell? ⟨b,o+j,none⟩=some x
mutual
inductive fN (w:World) (I:Nat->Prop):V->Value->Prop
 |bool (b:Bool):fN w I (.bool b) (.bool b)
 |int (k:IntKind) (n:Int):fN w I (.int k n) (.int k n)
 |str (s:List UInt8):fN w I (.str s) (.string ⟨⟨s⟩⟩)
 |aN:fN w I .aN (.slice none 0 0)
 |emp (a:Addr):fN w I .emp (.slice (some a) 0 0)
 |vY (es:Nat) (a:Addr) (cap:Nat):fN w I (.list es []) (.slice (some a) 0 cap)
 |list (es:Nat) (ds:List V) (b o cap:Nat) (vals:List Value) (bq:I b) (hc:iL w b o vals) (hu:∀d∈ds,(aC d).length=es)
  (hr:dh w I (ds.flatMap aC) vals) (hl:ds.length<=cap):fN w I (.list es ds) (.slice (some ⟨b,o,none⟩) ds.length cap)
 |ji:fN w I .ji (.pointer none)
 |iu:fN w I .iu (.map none)
 |kC:fN w I .kC .nilFunc
 |jO:fN w I .jO .nilIface
 |agg (vs:List V) (vals:List Value) (hr:dh w I vs vals):fN w I (.agg vs) (.agg ⟨vals⟩)
 |aU (vs:List V) (vals:List Value) (hr:dh w I vs vals):fN w I (.aU vs) (.tuple ⟨vals⟩)
 |iface (t:Nat) (v:V) (x:Value) (hr:fN w I v x):fN w I (.iface t v) (.iface t x)
 |fn (i:Nat) (fs cs:List V) (xs cK:List Value) (ag:dh w I fs xs) (hc:dh w I cs cK):fN w I (.fn i fs cs) (.func (.func i) ⟨xs⟩ ⟨cK⟩)
inductive dh (w:World) (I:Nat->Prop):List V->List Value->Prop
 |nil:dh w I [] []
 |cons (v:V) (x:Value) (vs:List V) (xs:List Value) (h:fN w I v x) (hs:dh w I vs xs):dh w I (v::vs) (x::xs)
end
section
mutual
inductive bh (fid:Nat->Nat) (G:bX) (w:World):V->Value->Prop
 |p (v:V) (x:Value) (h:fN w G.I v x):bh fid G w v x
 |ptr (l o:Nat) (h:Home) (hb:G.β l=some h) (ht:h.tag=0):bh fid G w (.ptr l o) (.pointer (some ⟨h.b,o,none⟩))
 |hz (l es i f tag:Nat) (h:Home) (a:Addr) (hb:G.β l=some h) (hle:tag<=h.tag) (ha:h.tag=tag->a=⟨h.b,i*es+f,none⟩):
  bh fid G w (.hz l es i f tag) (.pointer (some a))
 |dO (vs:List V) (f b o:Nat) (vals:List Value) (bq:G.I b) (hc:iL w b o vals) (hr:dh w G.I vs vals):bh fid G w (.dO vs f) (.pointer (some ⟨b,o+f,none⟩))
 |bJ (l es off len tag:Nat) (h:Home) (a:Addr) (n cap:Nat) (hb:G.β l=some h) (hle:tag<=h.tag)
  (ha:h.tag=tag->a=⟨h.b,off*es,none⟩/\n=len/\(off+cap)*es<=h.fA/\len<=cap):bh fid G w (.bJ l es off len tag) (.slice (some a) n cap)
 |map (l:Nat) (h:Home) (hb:G.β l=some h) (ht:h.tag=0):bh fid G w (.map l) (.map (some h.b))
 |fn (i:Nat) (fs cs:List V) (xs cK:List Value) (ag:a6 fid G w fs xs) (hc:a6 fid G w cs cK):bh fid G w (.fn i fs cs) (.func (.func i) ⟨xs⟩ ⟨cK⟩)
 |yield (l:Nat) (h:Home) (hb:G.β l=some h) (ht:h.tag=0):bh fid G w (.yield l) (.func (.yield h.b) #[] #[])
 |agg (vs:List V) (vals:List Value) (hr:a6 fid G w vs vals):bh fid G w (.agg vs) (.agg ⟨vals⟩)
 |aU (vs:List V) (vals:List Value) (hr:a6 fid G w vs vals):bh fid G w (.aU vs) (.tuple ⟨vals⟩)
 |iface (t:Nat) (v:V) (x:Value) (hr:bh fid G w v x):bh fid G w (.iface t v) (.iface t x)
 |undef (x:Value):bh fid G w .undef x
inductive a6 (fid:Nat->Nat) (G:bX) (w:World):List V->List Value->Prop
 |nil:a6 fid G w [] []
 |cons (v:V) (x:Value) (vs:List V) (xs:List Value) (h:bh fid G w v x) (hs:a6 fid G w vs xs):a6 fid G w (v::vs) (x::xs)
end
end
variable{fid:Nat->Nat}{w w':World}{G G':bX}{I sc:Nat->Prop}
theorem OZ{b:Nat}(h:w'.heap[b]? =w.heap[b]?)(o:Nat):w'.cell? ⟨b,o,none⟩=w.cell? ⟨b,o,none⟩:=by
 simp[World.cell?,h]
theorem iL.keep{b o:Nat}{vals:List Value}(h:iL w b o vals)(hb:w'.heap[b]? =w.heap[b]?):iL w' b o vals:=
 fun j x hx=>by rw[OZ hb];exact h j x hx
mutual
theorem fN.mono (bq:∀b,I b->sc b/\w'.heap[b]? =w.heap[b]?):∀{v:V} {x:Value},fN w I v x->fN w' sc v x
 | _,_,.bool b=>.bool b
 | _,_,.int k n=>.int k n
 | _,_,.str s=>.str s
 | _,_,.aN=>.aN
 | _,_,.emp a=>.emp a
 | _,_,.vY es a cap=>.vY es a cap
 | _,_,.list es ds b o cap vals h hc hu hr hl=>.list es ds b o cap vals (bq b h).1 (hc.keep (bq b h).2) hu (dh.mono bq hr) hl
 | _,_,.ji=>.ji
 | _,_,.iu=>.iu
 | _,_,.kC=>.kC
 | _,_,.jO=>.jO
 | _,_,.agg vs vals hr=>.agg vs vals (dh.mono bq hr)
 | _,_,.aU vs vals hr=>.aU vs vals (dh.mono bq hr)
 | _,_,.iface t v x hr=>.iface t v x (fN.mono bq hr)
 | _,_,.fn i fs cs xs cK ag hc=>.fn i fs cs xs cK (dh.mono bq ag) (dh.mono bq hc)
theorem dh.mono (bq:∀b,I b->sc b/\w'.heap[b]? =w.heap[b]?):∀{vs:List V} {xs:List Value},dh w I vs xs->dh w' sc vs xs
 | _,_,.nil=>.nil
 | _,_,.cons v x vs xs h hs=>.cons v x vs xs (fN.mono bq h) (dh.mono bq hs)
end
def mq (β akw:Nat->Option Home):Prop:=
 ∀l h,β l=some h->∃h',akw l=some h'/\h.tag<=h'.tag/\(h.tag=0->h'.tag=0)/\(h'.tag=h.tag->h'.b=h.b/\h'.fA=h.fA)/\(h.fz=true->h'=h)
theorem mq.refl (β:Nat->Option Home):mq β β:=fun _ h hb=>⟨h,hb,aH _,id,fun _=>⟨rfl,rfl⟩,fun _=>rfl⟩
theorem mq.trans{a b c:Nat->Option Home}(h:mq a b)(k:mq b c):mq a c:=by
 intro l h₀ hb;obtain⟨h₁,akx,aky,akz,m₁,akA⟩:=h l h₀ hb;obtain⟨h₂,O0,akB,akC,m₂,akD⟩:=k l h₁ akx;refine⟨h₂,O0,cY aky akB,fun z=>akC (akz z),fun ht=> ?_,fun f=> ?_⟩
 ·have e:h₁.tag=h₀.tag:=by omega
  have e':h₂.tag=h₁.tag:=by omega
  exact⟨(m₂ e').1.trans (m₁ e).1,(m₂ e').2.trans (m₁ e).2⟩
 ·have:=akA f;subst this;exact akD f
mutual
theorem bh.mono (hH:mq G.β G'.β)(bq:∀b,G.I b->G'.I b/\w'.heap[b]? =w.heap[b]?):∀{v:V} {x:Value},bh fid G w v x->bh fid G' w' v x
 | _,_,.p v x h=>.p v x (fN.mono bq h)
 | _,_,.ptr l o h hb ht=>by
   obtain⟨h',e,-,z,m,-⟩:=hH l h hb;have:=(m ((z ht).trans ht.symm)).1;rw[<-this];exact .ptr l o h' e (z ht)
 | _,_,.hz l es i f tag h a hb hle ha=>by
   obtain⟨h',e,t,z,m,-⟩:=hH l h hb;refine .hz l es i f tag h' a e (cY hle t) (fun hx=> ?_);have ht:h'.tag=h.tag:=by omega
   rw[(m ht).1];exact ha (by omega)
 | _,_,.dO vs f b o vals h hc hr=>.dO vs f b o vals (bq b h).1 (hc.keep (bq b h).2) (dh.mono bq hr)
 | _,_,.bJ l es off len tag h a n cap hb hle ha=>by
   obtain⟨h',e,t,z,m,-⟩:=hH l h hb;refine .bJ l es off len tag h' a n cap e (cY hle t) (fun hx=> ?_);have ht:h'.tag=h.tag:=by omega
   rw[(m ht).1,(m ht).2];exact ha (by omega)
 | _,_,.map l h hb ht=>by
   obtain⟨h',e,-,z,m,-⟩:=hH l h hb;have:=(m ((z ht).trans ht.symm)).1;rw[<-this];exact .map l h' e (z ht)
 | _,_,.fn i fs cs xs cK ag hc=>.fn i fs cs xs cK (a6.mono hH bq ag) (a6.mono hH bq hc)
 | _,_,.yield l h hb ht=>by
   obtain⟨h',e,-,z,m,-⟩:=hH l h hb;have:=(m ((z ht).trans ht.symm)).1;rw[<-this];exact .yield l h' e (z ht)
 | _,_,.agg vs vals hr=>.agg vs vals (a6.mono hH bq hr)
 | _,_,.aU vs vals hr=>.aU vs vals (a6.mono hH bq hr)
 | _,_,.iface t v x hr=>.iface t v x (bh.mono hH bq hr)
 | _,_,.undef x=>.undef x
theorem a6.mono (hH:mq G.β G'.β)(bq:∀b,G.I b->G'.I b/\w'.heap[b]? =w.heap[b]?):∀{vs:List V} {xs:List Value},a6 fid G w vs xs->a6 fid G' w' vs xs
 | _,_,.nil=>.nil
 | _,_,.cons v x vs xs h hs=>.cons v x vs xs (bh.mono hH bq h) (a6.mono hH bq hs)
end
mutual
theorem bh.restrict{n:Nat}(hH:∀l h,l<n->G.β l=some h->∃h',G'.β l=some h'/\h'=h)(bq:∀b,G.I b->G'.I b/\w'.heap[b]? =w.heap[b]?):
  ∀{v:V} {x:Value},bh fid G w v x->old n v=true\/(bI v=true)->bh fid G' w' v x
 | _,_,.p v x h,_=>.p v x (fN.mono bq h)
 | _,_,.ptr l o h hb ht,ho=>by
   obtain⟨h',e,rfl⟩:=hH l h (by simpa[old,bI]using ho) hb;exact .ptr l o _ e ht
 | _,_,.hz l es i f tag h a hb hle ha,ho=>by
   obtain⟨h',e,rfl⟩:=hH l h (by simpa[old,bI]using ho) hb;exact .hz l es i f tag _ a e hle ha
 | _,_,.dO vs f b o vals h hc hr,_=>.dO vs f b o vals (bq b h).1 (hc.keep (bq b h).2) (dh.mono bq hr)
 | _,_,.bJ l es off len tag h a n cap hb hle ha,ho=>by
   obtain⟨h',e,rfl⟩:=hH l h (by simpa[old,bI]using ho) hb;exact .bJ l es off len tag _ a n cap e hle ha
 | _,_,.map l h hb ht,ho=>by
   obtain⟨h',e,rfl⟩:=hH l h (by simpa[old,bI]using ho) hb;exact .map l _ e ht
 | _,_,.fn i fs cs xs cK ag hc,ho=>by
   simp only[old,bI,b6]at ho;exact .fn i fs cs xs cK (a6.restrict hH bq ag (ho.imp And.left And.left)) (a6.restrict hH bq hc (ho.imp And.right And.right))
 | _,_,.yield l h hb ht,ho=>by
   obtain⟨h',e,rfl⟩:=hH l h (by simpa[old,bI]using ho) hb;exact .yield l _ e ht
 | _,_,.agg vs vals hr,ho=>.agg vs vals (a6.restrict hH bq hr (by simpa[old,bI]using ho))
 | _,_,.aU vs vals hr,ho=>.aU vs vals (a6.restrict hH bq hr (by simpa[old,bI]using ho))
 | _,_,.iface t v x hr,ho=>.iface t v x (bh.restrict hH bq hr (by simpa[old,bI]using ho))
 | _,_,.undef x,_=>.undef x
theorem a6.restrict{n:Nat}(hH:∀l h,l<n->G.β l=some h->∃h',G'.β l=some h'/\h'=h)(bq:∀b,G.I b->G'.I b/\w'.heap[b]? =w.heap[b]?):
  ∀{vs:List V} {xs:List Value},a6 fid G w vs xs->olds n vs=true\/cj vs=true->a6 fid G' w' vs xs
 | _,_,.nil,_=>.nil
 | _,_,.cons v x vs xs h hs,ho=>by
   have h1:old n v=true\/bI v=true:=by rcases ho with ho|ho<;>simp_all [olds,cj]
   have h2:olds n vs=true\/cj vs=true:=by rcases ho with ho|ho<;>simp_all [olds,cj]
   exact .cons v x vs xs (bh.restrict hH bq h h1) (a6.restrict hH bq hs h2)
end
mutual
theorem bh.qk:∀{v:V} {x:Value},bh fid G w v x->bI v=true->fN w G.I v x
 | _,_,.p v x h,_=>h
 | _,_,.agg vs vals hr,ho=>.agg vs vals (a6.qk hr (by simpa[bI]using ho))
 | _,_,.aU vs vals hr,ho=>.aU vs vals (a6.qk hr (by simpa[bI]using ho))
 | _,_,.iface t v x hr,ho=>.iface t v x (bh.qk hr (by simpa[bI]using ho))
 | _,_,.fn i fs cs xs cK ag hc,ho=>by
   simp only[bI,b6]at ho;exact .fn i fs cs xs cK (a6.qk ag ho.1) (a6.qk hc ho.2)
 | _,_,.ptr ..,ho| _,_,.hz ..,ho| _,_,.dO ..,ho| _,_,.bJ ..,ho| _,_,.map ..,ho| _,_,.yield ..,ho| _,_,.undef ..,ho=>by simp[bI]at ho
theorem a6.qk:∀{vs:List V} {xs:List Value},a6 fid G w vs xs->cj vs=true->dh w G.I vs xs
 | _,_,.nil,_=>.nil
 | _,_,.cons v x vs xs h hs,ho=>by
   simp only[cj,b6]at ho;exact .cons v x vs xs (bh.qk h ho.1) (a6.qk hs ho.2)
end
theorem dh.oD:∀{vs:List V} {xs:List Value},dh w G.I vs xs->a6 fid G w vs xs
 | _,_,.nil=>.nil
 | _,_,.cons v x vs xs h hs=>.cons v x vs xs (.p v x h) (dh.oD hs)
mutual
theorem fN.flat:∀{v:V} {x:Value},fN w I v x->Abs.flat v=true->fN w' sc v x
 | _,_,.bool b,_=>.bool b
 | _,_,.int k n,_=>.int k n
 | _,_,.str s,_=>.str s
 | _,_,.aN,_=>.aN
 | _,_,.emp a,_=>.emp a
 | _,_,.ji,_=>.ji
 | _,_,.iu,_=>.iu
 | _,_,.kC,_=>.kC
 | _,_,.jO,_=>.jO
 | _,_,.agg vs vals hr,h=>.agg vs vals (dh.flat hr (by simpa[Abs.flat]using h))
 | _,_,.aU vs vals hr,h=>.aU vs vals (dh.flat hr (by simpa[Abs.flat]using h))
 | _,_,.vY ..,h| _,_,.list ..,h| _,_,.iface ..,h| _,_,.fn ..,h=>by simp[Abs.flat]at h
theorem dh.flat:∀{vs:List V} {xs:List Value},dh w I vs xs->vV vs=true->dh w' sc vs xs
 | _,_,.nil,_=>.nil
 | _,_,.cons v x vs xs h hs,ho=>by
   simp only[vV,b6]at ho;exact .cons v x vs xs (fN.flat h ho.1) (dh.flat hs ho.2)
end
mutual
theorem Xj:∀{v:V},Abs.flat v=true->bI v=true
 | .bool _,_| .int _ _,_| .str _,_| .aN,_| .emp,_| .ji,_| .iu,_| .kC,_| .jO,_=>rfl
 | .agg vs,h=>by simp only[bI];exact O1 (by simpa[Abs.flat]using h)
 | .aU vs,h=>by simp only[bI];exact O1 (by simpa[Abs.flat]using h)
 | .list ..,h| .ptr ..,h| .hz ..,h| .dO ..,h| .bJ ..,h| .map ..,h| .fn ..,h| .yield ..,h| .iface ..,h| .undef,h=>by simp[Abs.flat]at h
theorem O1:∀{vs:List V},vV vs=true->cj vs=true
 |[],_=>rfl
 |v::vs,h=>by
  simp only[vV,b6]at h;simp only[cj,b6];exact⟨Xj h.1,O1 h.2⟩
end
theorem bh.flat{v:V}{x:Value}(h:bh fid G w v x)(ag:Abs.flat v=true):bh fid G' w' v x:=.p _ _ ((h.qk (Xj ag)).flat ag)
theorem a6.length:∀{vs:List V} {xs:List Value},a6 fid G w vs xs->xs.length=vs.length
 | _,_,.nil=>rfl
 | _,_,.cons _ _ _ _ _ hs=>by simp[a6.length hs]
theorem a6.get:∀{vs:List V} {xs:List Value},a6 fid G w vs xs->∀{i:Nat} {v:V},vs[i]? =some v->∃x,xs[i]? =some x/\bh fid G w v x
 | _,_,.nil,i,v,h=>by simp at h
 | _,_,.cons v x vs xs h hs,0,u,e=>by simp at e;subst e;exact⟨x,by simp,h⟩
 | _,_,.cons v x vs xs h hs,i+1,u,e=>by simpa using a6.get hs (by simpa using e)
theorem a6.append:∀{vs us:List V} {xs cK:List Value},a6 fid G w vs xs->a6 fid G w us cK->a6 fid G w (vs++us) (xs++cK)
 | _,_,_,_,.nil,k=>k
 | _,_,_,_,.cons v x vs xs h hs,k=>.cons v x _ _ h (a6.append hs k)
theorem a6.split:∀{vs us:List V} {zs:List Value},a6 fid G w (vs++us) zs->∃xs cK,zs=xs++cK/\a6 fid G w vs xs/\a6 fid G w us cK
 |[],us,zs,h=>⟨[],zs,rfl,.nil,h⟩
 |v::vs,us,_,.cons _ x _ xs h hs=>by
  obtain⟨ay,aK,rfl,h1,h2⟩:=a6.split (vs:=vs) hs;exact⟨x::ay,aK,rfl,.cons v x vs ay h h1,h2⟩
theorem a6.set:∀{vs:List V} {xs:List Value},a6 fid G w vs xs->∀(i:Nat) {v:V} {x:Value},bh fid G w v x->a6 fid G w (vs.set i v) (xs.set i x)
 | _,_,.nil,_,_,_,_=>.nil
 | _,_,.cons v x vs xs h hs,0,u,y,k=>.cons u y vs xs k hs
 | _,_,.cons v x vs xs h hs,i+1,u,y,k=>.cons v x _ _ h (a6.set hs i k)
theorem a6.drop:∀{vs:List V} {xs:List Value},a6 fid G w vs xs->∀(n:Nat),a6 fid G w (vs.drop n) (xs.drop n)
 | _,_,h,0=>by simpa using h
 | _,_,.nil,n+1=>.nil
 | _,_,.cons v x vs xs h hs,n+1=>by simpa using a6.drop hs n
theorem a6.take:∀{vs:List V} {xs:List Value},a6 fid G w vs xs->∀(n:Nat),a6 fid G w (vs.take n) (xs.take n)
 | _,_,h,0=>by simpa using a6.nil
 | _,_,.nil,n+1=>.nil
 | _,_,.cons v x vs xs h hs,n+1=>.cons v x _ _ h (a6.take hs n)
theorem a6.akE{vs:List V}{xs:List Value}(hl:xs.length=vs.length)(h:∀(i:Nat) v x,vs[i]? =some v->xs[i]? =some x->bh fid G w v x):a6 fid G w vs xs:=by
 induction vs generalizing xs with
 |nil=>cases xs with
  |nil=>exact .nil
  |cons=>simp at hl
 |cons v vs ih=>cases xs with
  |nil=>simp at hl
  |cons x xs=>exact .cons v x vs xs (h 0 v x rfl rfl) (ih (by simpa using hl) (fun i v x a b=>h (i+1) v x (by simpa using a) (by simpa using b)))
theorem dh.drop:∀{vs:List V} {xs:List Value},dh w I vs xs->∀(n:Nat),dh w I (vs.drop n) (xs.drop n)
 | _,_,h,0=>by simpa using h
 | _,_,.nil,n+1=>.nil
 | _,_,.cons _ _ _ _ _ hs,n+1=>by simpa using dh.drop hs n
theorem dh.take:∀{vs:List V} {xs:List Value},dh w I vs xs->∀(n:Nat),dh w I (vs.take n) (xs.take n)
 | _,_,_,0=>by simpa using dh.nil
 | _,_,.nil,n+1=>.nil
 | _,_,.cons v x _ _ h hs,n+1=>.cons v x _ _ h (dh.take hs n)
theorem dh.length{vs:List V}{xs:List Value}(h:dh w I vs xs):xs.length=vs.length:=a6.length (fid:=id) (G:=⟨fun _=>none,I⟩) (dh.oD h)
def O2:X->Option Code->Prop
 | .normal,none=>True
 | .exit id,some (.exit u1)=>u1=id
 | .ret,some .ret=>True
 | _,_=>False
def pd (es:Array MapEntry)(bT:Nat):Prop:=(∀x∈es.toList,x.born<bT)/\(es.toList.map (·.born)).Nodup
def FT (C:Ctx)(w:World)(b:Nat)(vs:List V):Prop:=∀v,vs=[.undef,v]->∃c e,w.heap[b]? =some (.cells c e (0,0))/\C.Kd=some e/\(c[0]? =some (.pointer none)\/c[0]? =some (.pointer (some ⟨b,0,none⟩)))
def jS (C:Ctx)(fid:Nat->Nat)(G:bX)(w:World)(h:Home):b5->Prop
 | .cells vs=>(h.tag=0/\FT C w h.b vs)/\h.fz=false/\∃c e,w.heap[h.b]? =some (.cells c e (0,0))/\a6 fid G w vs c.toList
 | .row es ds fz=>h.tag=ds.length/\0<ds.length/\h.fz=fz/\0<es/\(∀d∈ds,(aC d).length=es)/\
  ∃c e vals rest,w.heap[h.b]? =some (.cells c e (0,0))/\h.fA=c.size/\c.toList=vals++rest/\a6 fid G w (ds.flatMap aC) vals
 | .map bp=>h.tag=0/\h.fz=false/\∃es bT,w.heap[h.b]? =some (.map es bT)/\
  a6 fid G w (bp.map (·.1)) (es.toList.map (·.key))/\a6 fid G w (bp.map (·.2)) (es.toList.map (·.val))/\pd es bT
 | .loop st uZ env params assign body=>h.tag=0/\h.fz=false/\∃L vars,w.heap[h.b]? =some (.loop L)/\L.state=st/\O2 uZ L.pending/\
  L.params.toList=params/\(∀t∈params,t∈vars/\t<L.tmps.size)/\
  C.code vars L.tmps.size L.assign=some assign/\C.code vars L.tmps.size L.body=some body/\∀t∈vars,bh fid G w (bG env t) (L.tmps.getD t undef)
 | .tj s=>h.fz=false/\h.tag=s.length/\0<s.length/\∃c rest,w.heap[h.b]? =some (.cells c C.CR (0,0))/\h.fA=c.size/\c.toList=(s.map fun b=>Value.int .u8 b.toNat)++rest
 | .dead n=>h.fz=false/\h.tag=n
 | .gone=>h.tag=0/\h.fz=false
structure a8 (C:Ctx) (fid:Nat->Nat) (G:bX) (H:Heap) (w:World):Prop where
 obj:∀l h,G.β l=some h->∃o,H[l]? =some o/\jS C fid G w h o
 inj:∀l fk h h',G.β l=some h->G.β fk=some h'->h.b=h'.b->l=fk
 blk:∀l h,G.β l=some h->h.b<w.heap.size
 da:∀b,G.I b->b<w.heap.size/\∀l h,G.β l=some h->h.b=b->h.fz=true
 k4:∀l h,G.β l=some h->h.fz=true->G.I h.b
 fG:∀b o,C.fG b=some o->G.I b/\w.heap[b]? =some o
structure Ext (G:bX) (w:World) (G':bX) (w':World) (m n:Nat):Prop where
 size:w.heap.size<=w'.heap.size
 os:w'.os=w.os
 output:w'.output=w.output
 keep:∀b,b<w.heap.size->(∀l h,G.β l=some h->h.b=b->h.fz=true\/l<m)->w'.heap[b]? =w.heap[b]?
 homes:mq G.β G'.β
 oE:∀l h',G'.β l=some h'->(∃h,G.β l=some h/\(h.b=h'.b\/w.heap.size<=h'.b))\/(n<=l/\w.heap.size<=h'.b)
 da:∀b,G.I b->G'.I b
 pe:∀b,G'.I b->G.I b\/w.heap.size<=b\/∃l h,G.β l=some h/\h.b=b
theorem Ext.O3{m n:Nat}(h:Ext G w G' w' m n)(l:Nat)(h':Home)(e:G'.β l=some h'):(∃h,G.β l=some h/\h.b=h'.b)\/w.heap.size<=h'.b:=by
 rcases h.oE l h' e with⟨h0,eM,q|q⟩|⟨_,q⟩
 ·exact .inl ⟨h0,eM,q⟩
 ·exact .inr q
 ·exact .inr q
theorem Ext.refl (G:bX)(w:World)(m n:Nat):Ext G w G w m n:=
 ⟨aH _,rfl,rfl,fun _ _ _=>rfl,.refl _,fun _ h hb=>.inl ⟨h,hb,.inl rfl⟩,fun _ h=>h,fun _ h=>.inl h⟩
theorem Ext.le{m m' n Xk:Nat}(h:Ext G w G' w' m n)(hm:m'<=m)(hn:Xk<=n):Ext G w G' w' m' Xk:=
 {h with keep:=fun b hb k=>h.keep b hb fun l x af ak=>(k l x af ak).imp id fun q=>r3 q hm
         oE:=fun l h' e=>(h.oE l h' e).imp id fun q=>⟨cY hn q.1,q.2⟩}
theorem Ext.trans{Xl:bX}{gu:World}{m n:Nat}(h:Ext G w G' w' m n)(k:Ext G' w' Xl gu m n):Ext G w Xl gu m n where
 size:=cY h.size k.size
 os:=k.os.trans h.os
 output:=k.output.trans h.output
 keep b hb hk:=by
  rw[k.keep b (r3 hb h.size) ?_,h.keep b hb hk];intro l h1 af ak;rcases h.O3 l h1 af with⟨h0,eM,eb⟩|hn
  ·rcases hk l h0 eM (eb.trans ak)with ag|hl
   ·obtain⟨h',e',-,-,-,ml⟩:=h.homes l h0 eM
    rw[af]at e';cases e';rw[ml ag];exact .inl ag
   ·exact .inr hl
  ·omega
 homes:=h.homes.trans k.homes
 oE l h2 e:=by
  have hs:=h.size;rcases k.oE l h2 e with⟨h1,af,eb⟩|⟨hn,hb⟩
  ·rcases h.oE l h1 af with⟨h0,eM,C1⟩|⟨hn,hb⟩
   ·refine .inl ⟨h0,eM,?_⟩
    rcases eb with eb|eb<;>rcases C1 with C1|C1
    ·exact .inl (C1.trans eb)
    ·exact .inr (by omega)
    ·exact .inr (by omega)
    ·exact .inr (by omega)
   ·exact .inr ⟨hn,by rcases eb with eb|eb<;>omega⟩
  ·exact .inr ⟨hn,by omega⟩
 da b hb:=k.da b (h.da b hb)
 pe b hb:=by
  rcases k.pe b hb with h1|h1|⟨l,h1,af,eb⟩
  ·exact h.pe b h1
  ·exact .inr (.inl (cY h.size h1))
  ·rcases h.O3 l h1 af with⟨h0,eM,C1⟩|hn
   ·exact .inr (.inr ⟨l,h0,eM,C1.trans eb⟩)
   ·exact .inr (.inl (by omega))
theorem a8.Xm{C:Ctx}{H:Heap}{m n:Nat}(ab:a8 C fid G H w)(h:Ext G w G' w' m n):∀b,G.I b->G'.I b/\w'.heap[b]? =w.heap[b]? :=fun b hb=>
 ⟨h.da b hb,h.keep b (ab.da b hb).1 fun l x af ak=>.inl ((ab.da b hb).2 l x af ak)⟩
theorem bh.ext{C:Ctx}{H:Heap}{m n:Nat}(ab:a8 C fid G H w)(h:Ext G w G' w' m n){v:V}{x:Value}(k:bh fid G w v x):bh fid G' w' v x:=
 k.mono h.homes (ab.Xm h)
theorem a6.ext{C:Ctx}{H:Heap}{m n:Nat}(ab:a8 C fid G H w)(h:Ext G w G' w' m n){v:List V}{x:List Value}(k:a6 fid G w v x):a6 fid G' w' v x:=
 k.mono h.homes (ab.Xm h)
theorem jS.mono{C:Ctx}(hH:mq G.β G'.β)(bq:∀b,G.I b->G'.I b/\w'.heap[b]? =w.heap[b]?){h:Home}(hb:w'.heap[h.b]? =w.heap[h.b]?):∀{o:b5},jS C fid G w h o->jS C fid G' w' h o
 | .cells vs,⟨a,b,c,e,hc,hr⟩=>⟨⟨a.1,fun v ad=>by rw[hb];exact a.2 v ad⟩,b,c,e,by rw[hb];exact hc,hr.mono hH bq⟩
 | .row es ds fz,⟨a,b,c,d,u,Xn,e,vals,rest,hc,hs,hl,hr⟩=>⟨a,b,c,d,u,Xn,e,vals,rest,by rw[hb];exact hc,hs,hl,hr.mono hH bq⟩
 | .map bp,⟨a,b,es,bT,hc,hk,ad,hs⟩=>⟨a,b,es,bT,by rw[hb];exact hc,hk.mono hH bq,ad.mono hH bq,hs⟩
 | .loop ..,⟨a,b,L,vars,hc,hs,hp,nQ,hin,ha,akF,he⟩=>⟨a,b,L,vars,by rw[hb];exact hc,hs,hp,nQ,hin,ha,akF,fun t ht=>(he t ht).mono hH bq⟩
 | .tj s,⟨a,b,d,c,rest,hc,hs,hl⟩=>⟨a,b,d,c,rest,by rw[hb];exact hc,hs,hl⟩
 | .dead _,h=>h
 | .gone,h=>h
end Go.Abs
