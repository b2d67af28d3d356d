/- Texts of this claim, joined and written short by a program. -/
import Derived.Test.YtemakagmboeodaaGreatDoorP00
import Derived.KernelRfl
import Derived.Shelf.Small.Bits
import Derived.Lib.Fields
import Derived.Lib.Atoi
import Derived.Lib.Bytealg
import Derived.Lib.Join
import Derived.Laws.World
set_option linter.unusedVariables false
set_option linter.unusedSimpArgs false
set_option linter.unusedSectionVars false
namespace Go.Abs
def pb (a b:cj):Prop:=∀f args H r,a f args H=some r->b f args H=some r
variable{call lY:cj}
theorem p8 (h:pb call lY){ag:ah->V}{H:Heap}{low:Nat}{op:b8}{r:V × Heap × Nat}(he:bK call ag H low op=some r):bK lY ag H low op=some r:=by
 cases op with
 |call raw f args=>
  cases raw
  ·simp only[bK]at he⊢
   split at he
   ·rename_i vs H1 bm h1
    split at he
    ·rename_i u cT l h2
     rw[h _ _ _ _ h2];exact he
    ·cases he
   ·cases he
  ·simp only[bK]at he⊢
   split at he
   ·rename_i u cT l h2
    rw[h _ _ _ _ h2];exact he
   ·cases he
 | _=>exact he
theorem s0 (h:pb call lY):∀(ops:List bl) (st:au) (wr:List Bool) (r:au × List Bool),cX call ops st wr=some r->cX lY ops st wr=some r
 |[],st,wr,r,he=>he
 |o::ops,st,wr,r,he=>by
  simp only[cX]at he⊢;split at he
  ·rename_i hw
   try simp only[hw]
   split at he
   ·rename_i v H' low' h1
    rw[p8 h h1];exact s0 h ops _ _ _ he
   ·cases he
  ·rename_i hw
   try simp only[hw]
   exact s0 h ops _ _ _ he
  ·cases he
theorem s3 (h:pb call lY):∀(ops:List bl) (st:au) (r:List au),ee call ops st=some r->ee lY ops st=some r
 |[],st,r,he=>he
 |o::ops,st,r,he=>by
  simp only[ee]at he⊢;split at he
  ·rename_i hw
   try simp only[hw]
   split at he
   ·rename_i v H' low' h1
    rw[p8 h h1];obtain⟨x,hx,rfl⟩:=bW.1 he;simp only[];rw[s3 h ops _ _ hx];rfl
   ·cases he
  ·rename_i hw
   try simp only[hw]
   obtain⟨x,hx,rfl⟩:=bW.1 he;rw[s3 h ops _ _ hx];rfl
  ·cases he
theorem vh (h:pb call lY){q:bl × au × Heap}(he:gF call q=true):gF lY q=true:=by
 unfold gF at he⊢;split at he
 ·rename_i hw;try simp only[hw]
 ·rename_i hw
  try simp only[hw]
  split at he
  ·rename_i v H1 bm h1
   rw[p8 h h1];simp only[];split at he
   ·rename_i v2 cT eH h2
    rw[p8 h h2];exact he
   ·cases he
  ·cases he
 ·cases he
theorem Um (h:pb call lY){dc:List Nat}{ops:List bl}{wr:List Bool}{st:au}(he:nc call dc ops wr st=true):nc lY dc ops wr st=true:=by
 unfold nc at he⊢;split at he
 ·rename_i cg ht
  rw[s3 h _ _ _ ht];simp only[cH,eV]at he⊢;exact⟨he.1,fun q a8=>vh h (he.2 q a8)⟩
 ·cases he
theorem Dl (h:pb call lY){dc:List Nat}{ops:List bl}{wr:List Bool}{st:au}(he:k9 call dc ops wr st=true):k9 lY dc ops wr st=true:=by
 unfold k9 at he⊢;simp only[iO]at he⊢;rcases he with he|he
 ·exact .inl (Um h he)
 ·right
  split at he
  ·rename_i cg ht
   rw[s3 h _ _ _ ht];simp only[cH,eV]at he⊢;exact⟨he.1,fun q a8=>vh h (he.2 q a8)⟩
  ·cases he
theorem Ah{f jD:au->Option (X × au)}(h:∀st r,f st=some r->jD st=some r):∀(n m:Nat) (st:au) (r:X × au),n<=m->iter f n st=some r->iter jD m st=some r
 |0,_,_,_,_,he=>by cases he
 |n+1,0,_,_,hle,_=>by omega
 |n+1,m+1,st,r,hle,he=>by
  simp only[iter]at he⊢;split at he
  ·rename_i st1 h1
   rw[h _ _ h1];exact Ah h n m _ _ (by omega) he
  ·rename_i bb
   rw[h _ _ he];split
   ·rename_i aV e;cases e;exact absurd he (bb _)
   ·rfl
theorem oc (h:pb call lY){n m:Nat}(hle:n<=m):∀(c:bP) (st:au) (r:X × au),exec call n c st=some r->exec lY m c st=some r
 | .skip,st,r,he=>he
 | .sT ops ok f,st,r,he=>by
   simp only[exec]at he⊢;split at he
   ·rename_i st1 wr h1
    rw[s0 h _ _ _ _ h1];exact he
   ·cases he
 | .region ops dc,st,r,he=>by
   simp only[exec,au.eu]at he⊢;split at he
   ·rename_i st1 wr h1
    rw[s0 h _ _ _ _ h1];cases dc with
    |none=>exact he
    |some b=>
     simp only at he⊢;split at he
     ·rename_i hb
      rw[if_pos]
      ·exact he
      ·simp only[iO]at hb⊢
       exact hb.imp id (Dl h)
     ·cases he
   ·cases he
 | .seq a b,st,r,he=>by
   simp only[exec,au.eu]at he⊢;split at he
   ·rename_i st1 h1
    rw[oc h hle a _ _ h1];exact oc h hle b _ _ he
   ·rename_i bb
    rw[oc h hle a _ _ he];split
    ·rename_i st1 e;cases e;exact absurd he (bb _)
    ·rfl
 | .cond c t e,st,r,he=>by
   simp only[exec,au.eu]at he⊢;split at he
   ·exact oc h hle t _ _ he
   ·exact oc h hle e _ _ he
   ·cases he
 | .block id c,st,r,he=>by
   simp only[exec,au.eu]at he⊢;split at he
   ·rename_i o7 st1 h1
    rw[oc h hle c _ _ h1];exact he
   ·rename_i bb
    rw[oc h hle c _ _ he];split
    ·rename_i o7 st1 e;cases e;exact absurd he (bb _ _)
    ·rfl
 | .loop c,st,r,he=>by
   simp only[exec,au.eu]at he⊢;exact Ah (fun st r hr=>oc h hle c st r hr) n m st r hle he
 | .rangeFunc f ps a b,st,r,he=>by
   simp only[exec,au.eu]at he⊢;split at he
   ·cases he
   ·rename_i hc
    try rw[if_neg hc]
    split at he
    ·rename_i u H1 bm h1
     rw[h _ _ _ _ h1];exact he
    ·cases he
 | .exit id,st,r,he=>he
 | .ret,st,r,he=>he
 | .fail,st,r,he=>he
def Dm (ex ex':bP->au->Option (X × au)):Prop:=∀c st r,ex c st=some r->ex' c st=some r
theorem Ai{ex ex':bP->au->Option (X × au)}(h:Dm ex ex'){f:gR}{args:List V}{H:Heap}{r:V × Heap × Nat}(he:fP ex f args H=some r):fP ex' f args H=some r:=by
 unfold fP at he⊢;split at he
 ·rename_i hl
  rw[if_pos hl];split at he
  ·rename_i st h1;rw[h _ _ _ h1];exact he
  ·rename_i st h1;rw[h _ _ _ h1];exact he
  ·cases he
 ·cases he
theorem Un{ex ex':bP->au->Option (X × au)}(h:Dm ex ex'){l:Nat}{args:List V}{H:Heap}{r:V × Heap × Nat}(he:rn ex l args H=some r):rn ex' l args H=some r:=by
 unfold rn at he⊢;split at he
 ·split at he
  ·rename_i hl
   simp only[hl,if_true];split at he
   ·rename_i st h1
    simp only[h _ _ _ h1];split at he
    ·rename_i h2
     try simp only[h2]
     split at he
     ·rename_i aq
      simp only[h _ _ _ aq];exact he
     ·cases he
    ·cases he
   ·cases he
  ·cases he
 ·cases he
theorem I5 (ab:Nat->Option bQ):∀n,pb (aS ab n) (aS ab (n+1))
 |0=>fun f args H r he=>by simp[aS]at he
 |n+1=>fun f args H r he=>by
  have hx:Dm (exec (aS ab n) n) (exec (aS ab (n+1)) (n+1)):=fun c st r hr=>oc (I5 ab n) (xp n) c st r hr;show nf ab (aS ab (n+1)) (n+1) f args H=some r;change nf ab (aS ab n) n f args H=some r at he;unfold nf at he⊢;split at he
  ·split at he
   ·rename_i h1;try simp only[h1]
    exact Ai hx he
   ·rename_i h1;try simp only[h1]
    exact he
   ·rename_i h1;try simp only[h1]
    exact he
   ·cases he
  ·exact Un hx he
  ·cases he
theorem j3 (ab:Nat->Option bQ){n:Nat}:∀{m:Nat},n<=m->pb (aS ab n) (aS ab m)
 |0,h=>by have:n=0:=by omega
          subst this;exact fun _ _ _ _ h=>h
 |m+1,h=>by
  rcases fF n (m+1)with h1|h1
  ·exact fun f args H r he=>I5 ab m f args H r (j3 ab (m:=m) (by omega) f args H r he)
  ·have:n=m+1:=by omega
   subst this;exact fun _ _ _ _ h=>h
open Classical in
noncomputable def cp (ab:Nat->Option bQ):cj:=fun f args H=>if h:∃r n,aS ab n f args H=some r then some h.choose else none
open Classical in
noncomputable def dt (ab:Nat->Option bQ)(c:bP)(st:au):Option (X × au):=if h:∃r n,exec (aS ab n) n c st=some r then some h.choose else none
variable{ab:Nat->Option bQ}
theorem p9{f:V}{args:List V}{H:Heap}{r:V × Heap × Nat}:cp ab f args H=some r↔∃n,aS ab n f args H=some r:=by
 unfold cp;constructor
 ·intro h
  split at h
  ·rename_i hex;cases h;exact hex.choose_spec
  ·cases h
 ·rintro⟨n,hn⟩
  have hex:∃r n,aS ab n f args H=some r:=⟨r,n,hn⟩;rw[dif_pos hex];obtain⟨m,hm⟩:=hex.choose_spec;have a:=j3 ab (pX n m) _ _ _ _ hn;have b:=j3 ab (o2 n m) _ _ _ _ hm;rw[a]at b;exact b.symm
theorem s4{n m:Nat}(hle:n<=m){c:bP}{st:au}{r:X × au}(h:exec (aS ab n) n c st=some r):exec (aS ab m) m c st=some r:=oc (j3 ab hle) hle c st r h
theorem e3{c:bP}{st:au}{r:X × au}:dt ab c st=some r↔∃n,exec (aS ab n) n c st=some r:=by
 unfold dt;constructor
 ·intro h
  split at h
  ·rename_i hex;cases h;exact hex.choose_spec
  ·cases h
 ·rintro⟨n,hn⟩
  have hex:∃r n,exec (aS ab n) n c st=some r:=⟨r,n,hn⟩;rw[dif_pos hex];obtain⟨m,hm⟩:=hex.choose_spec;have a:=s4 (pX n m) hn;have b:=s4 (o2 n m) hm;rw[a]at b;exact b.symm
theorem Aj (n:Nat):pb (aS ab n) (cp ab):=fun _ _ _ _ h=>p9.2 ⟨n,h⟩
theorem vi{α:Type}{a b:Option α}(h:∀r,a=some r↔b=some r):a=b:=by
 cases a with
 |none=>cases b with
  |none=>rfl
  |some y=>exact absurd ((h y).2 rfl) (by simp)
 |some x=>exact((h x).1 rfl).symm
theorem Ak{ag:ah->V}{H:Heap}{low:Nat}{op:b8}{r:V × Heap × Nat}:bK (cp ab) ag H low op=some r↔∃n,bK (aS ab n) ag H low op=some r:=by
 constructor
 ·intro he
  cases op with
  |call raw f args=>
   cases raw
   ·simp only[bK]at he⊢
    split at he
    ·rename_i vs H1 bm h1
     split at he
     ·rename_i u cT l h2
      obtain⟨n,hn⟩:=p9.1 h2;exact⟨n,by rw[hn];exact he⟩
     ·cases he
    ·cases he
   ·simp only[bK]at he⊢
    split at he
    ·rename_i u cT l h2
     obtain⟨n,hn⟩:=p9.1 h2;exact⟨n,by rw[hn];exact he⟩
    ·cases he
  | _=>exact⟨0,he⟩
 ·rintro⟨n,hn⟩;exact p8 (Aj n) hn
theorem Dn:∀(ops:List bl) (st:au) (wr:List Bool) (r:au × List Bool),cX (cp ab) ops st wr=some r->∃n,cX (aS ab n) ops st wr=some r
 |[],st,wr,r,he=>⟨0,he⟩
 |o::ops,st,wr,r,he=>by
  simp only[cX]at he⊢;split at he
  ·rename_i hw
   split at he
   ·rename_i v H' low' h1
    obtain⟨n,hn⟩:=Ak.1 h1;obtain⟨m,hm⟩:=Dn ops _ _ _ he;refine⟨max n m,?_⟩;rw[p8 (j3 ab (pX n m)) hn];exact s0 (j3 ab (o2 n m)) ops _ _ _ hm
   ·cases he
  ·rename_i hw
   obtain⟨m,hm⟩:=Dn ops _ _ _ he;exact⟨m,hm⟩
  ·cases he
theorem s5 (st:au):dt ab .skip st=some (.normal,st):=e3.2 ⟨0,rfl⟩
theorem Dp (id:Nat)(st:au):dt ab (.exit id) st=some (.exit id,st):=e3.2 ⟨0,rfl⟩
theorem vj (st:au):dt ab .ret st=some (.ret,st):=e3.2 ⟨0,rfl⟩
theorem Al:∀(ops:List bl) (st:au) (r:List au),ee (cp ab) ops st=some r->∃n,ee (aS ab n) ops st=some r
 |[],st,r,he=>⟨0,he⟩
 |o::ops,st,r,he=>by
  simp only[ee]at he⊢;split at he
  ·rename_i hw
   split at he
   ·rename_i v H' low' h1
    obtain⟨n,hn⟩:=Ak.1 h1;obtain⟨x,hx,rfl⟩:=bW.1 he;obtain⟨m,hm⟩:=Al ops _ _ hx;refine⟨max n m,?_⟩;rw[p8 (j3 ab (pX n m)) hn];simp only[];rw[s3 (j3 ab (o2 n m)) ops _ _ hm];rfl
   ·cases he
  ·rename_i hw
   obtain⟨x,hx,rfl⟩:=bW.1 he;obtain⟨m,hm⟩:=Al ops _ _ hx;exact⟨m,by rw[hm];rfl⟩
  ·cases he
theorem Uo{q:bl × au × Heap}(he:gF (cp ab) q=true):∃n,gF (aS ab n) q=true:=by
 unfold gF at he⊢;split at he
 ·rename_i hw;exact⟨0,by try simp only[hw]⟩
 ·rename_i hw
  try simp only[hw]
  split at he
  ·rename_i v H1 bm h1
   split at he
   ·rename_i v2 cT eH h2
    obtain⟨n,hn⟩:=Ak.1 h1;obtain⟨m,hm⟩:=Ak.1 h2;refine⟨max n m,?_⟩;rw[p8 (j3 ab (pX n m)) hn,p8 (j3 ab (o2 n m)) hm];exact he
   ·cases he
  ·cases he
 ·cases he
theorem Dq:∀(l:List (bl × au × Heap)),l.all (gF (cp ab))=true->∃n,l.all (gF (aS ab n))=true
 |[],_=>⟨0,rfl⟩
 |q::l,he=>by
  simp only[List.all_cons,cH]at he;obtain⟨n,hn⟩:=Uo he.1;obtain⟨m,hm⟩:=Dq l he.2;refine⟨max n m,?_⟩;simp only[List.all_cons,cH];refine⟨vh (j3 ab (pX n m)) hn,?_⟩;rw[eV]at hm⊢;exact fun q a8=>vh (j3 ab (o2 n m)) (hm q a8)
theorem Up{dc:List Nat}{ops:List bl}{wr:List Bool}{st:au}(he:nc (cp ab) dc ops wr st=true):∃n,nc (aS ab n) dc ops wr st=true:=by
 unfold nc at he;split at he
 ·rename_i cg ht
  simp only[cH]at he;obtain⟨n,hn⟩:=Al _ _ _ ht;obtain⟨m,hm⟩:=Dq _ he.2;refine⟨max n m,?_⟩;unfold nc;rw[s3 (j3 ab (pX n m)) _ _ _ hn];simp only[cH];refine⟨he.1,?_⟩;rw[eV]at hm⊢;exact fun q a8=>vh (j3 ab (o2 n m)) (hm q a8)
 ·cases he
theorem Uq{dc:List Nat}{ops:List bl}{wr:List Bool}{st:au}(he:k9 (cp ab) dc ops wr st=true):∃n,k9 (aS ab n) dc ops wr st=true:=by
 unfold k9 at he;simp only[iO]at he;rcases he with he|he
 ·obtain⟨n,hn⟩:=Up he
  exact⟨n,by unfold k9;rw[hn];rfl⟩
 ·split at he
  ·rename_i cg ht
   simp only[cH]at he;obtain⟨n,hn⟩:=Al _ _ _ ht;obtain⟨m,hm⟩:=Dq _ he.2;refine⟨max n m,?_⟩;unfold k9;rw[s3 (j3 ab (pX n m)) _ _ _ hn];simp only[iO,cH];refine .inr ⟨he.1,?_⟩;rw[eV]at hm⊢;exact fun q a8=>vh (j3 ab (o2 n m)) (hm q a8)
  ·cases he
theorem od (ops:List bl)(dc:Option (List Nat))(st:au):dt ab (.region ops dc) st=match cX (cp ab) ops {st with aH:=[]} []with
  |some (aV,wr)=>match dc with
   |none=>some (.normal,{aV with aH:=[]})
   |some b=>if p7 b ops wr||k9 (cp ab) b ops wr {st with aH:=[]}then some (.normal,{aV with aH:=[]})else none
  |none=>none:=by
 refine vi fun r=> ?_;rw[e3];constructor
 ·rintro⟨n,hn⟩
  simp only[exec,au.eu]at hn;split at hn
  ·rename_i st1 wr h1
   rw[s0 (Aj n) _ _ _ _ h1];cases dc with
   |none=>exact hn
   |some b=>
    simp only at hn⊢;split at hn
    ·rename_i hb
     rw[if_pos]
     ·exact hn
     ·simp only[iO]at hb⊢
      exact hb.imp id (Dl (Aj n))
    ·cases hn
  ·cases hn
 ·intro h
  split at h
  ·rename_i st1 wr h1
   obtain⟨n,hn⟩:=Dn _ _ _ _ h1;cases dc with
   |none=>exact⟨n,by simp only[exec,au.eu];rw[hn];exact h⟩
   |some b=>
    simp only at h;split at h
    ·rename_i hb
     simp only[iO]at hb;rcases hb with hb|hb
     ·exact⟨n,by simp only[exec,au.eu];rw[hn];simp only[];rw[hb];exact h⟩
     ·obtain⟨m,hm⟩:=Uq hb
      refine⟨max n m,?_⟩;simp only[exec,au.eu];rw[s0 (j3 ab (pX n m)) _ _ _ _ hn];simp only[];rw[Dl (j3 ab (o2 n m)) hm,Bool.or_true];exact h
    ·cases h
  ·cases h
theorem kI (a b:bP)(st:au):dt ab (.seq a b) st=match dt ab a st with
  |some (.normal,aV)=>dt ab b aV
  |r=>r:=by
 refine vi fun r=> ?_;rw[e3];constructor
 ·rintro⟨n,hn⟩
  simp only[exec,au.eu]at hn;split at hn
  ·rename_i st1 h1
   rw[e3.2 ⟨n,h1⟩];exact e3.2 ⟨n,hn⟩
  ·rename_i bb
   rw[e3.2 ⟨n,hn⟩];split
   ·rename_i st1 e;cases e;exact absurd hn (bb _)
   ·rfl
 ·intro h
  split at h
  ·rename_i st1 h1
   obtain⟨n,hn⟩:=e3.1 h1;obtain⟨m,hm⟩:=e3.1 h;exact⟨max n m,by simp only[exec,au.eu];rw[s4 (pX n m) hn];exact s4 (o2 n m) hm⟩
  ·rename_i bb
   obtain⟨n,hn⟩:=e3.1 h;refine⟨n,?_⟩;simp only[exec,au.eu];rw[hn];split
   ·rename_i st1 e;cases e;exact absurd h (bb _)
   ·rfl
theorem qa (c:ah)(t e:bP)(st:au):dt ab (.cond c t e) st=match c.ag st.aH st.ax with
  | .bool true=>dt ab t st
  | .bool false=>dt ab e st
  | _=>none:=by
 refine vi fun r=> ?_;rw[e3];constructor
 ·rintro⟨n,hn⟩
  simp only[exec,au.eu]at hn;split at hn
  ·rename_i hc
   try simp only[hc]
   exact e3.2 ⟨n,hn⟩
  ·rename_i hc
   try simp only[hc]
   exact e3.2 ⟨n,hn⟩
  ·cases hn
 ·intro h
  split at h
  ·rename_i hc
   obtain⟨n,hn⟩:=e3.1 h;exact⟨n,by simp only[exec,hc];exact hn⟩
  ·rename_i hc
   obtain⟨n,hn⟩:=e3.1 h;exact⟨n,by simp only[exec,hc];exact hn⟩
  ·cases h
theorem s6 (id:Nat)(c:bP)(st:au):dt ab (.block id c) st=match dt ab c st with
  |some (.exit o7,aV)=>if o7=id then some (.normal,aV)else some (.exit o7,aV)
  |r=>r:=by
 refine vi fun r=> ?_;rw[e3];constructor
 ·rintro⟨n,hn⟩
  simp only[exec,au.eu]at hn;split at hn
  ·rename_i h1
   rw[e3.2 ⟨n,h1⟩];exact hn
  ·rename_i bb
   rw[e3.2 ⟨n,hn⟩];split
   ·rename_i e;cases e;exact absurd hn (bb _ _)
   ·rfl
 ·intro h
  split at h
  ·rename_i h1
   obtain⟨n,hn⟩:=e3.1 h1;exact⟨n,by simp only[exec,au.eu];rw[hn];exact h⟩
  ·rename_i bb
   obtain⟨n,hn⟩:=e3.1 h;refine⟨n,?_⟩;simp only[exec,au.eu];rw[hn];split
   ·rename_i e;cases e;exact absurd h (bb _ _)
   ·rfl
theorem Ur{f:au->Option (X × au)}{n m:Nat}{st:au}{r:X × au}(hle:n<=m)(h:iter f n st=some r):iter f m st=some r:=Ah (fun _ _ h=>h) n m st r hle h
theorem vk (c:bP)(st:au):dt ab (.loop c) st=match dt ab c st with
  |some (.normal,aV)=>dt ab (.loop c) aV
  |r=>r:=by
 refine vi fun r=> ?_;rw[e3];constructor
 ·rintro⟨n,hn⟩
  simp only[exec,au.eu]at hn;cases n with
  |zero=>cases hn
  |succ n=>
   simp only[iter]at hn;split at hn
   ·rename_i st1 h1
    rw[e3.2 ⟨n+1,h1⟩];exact e3.2 ⟨n+1,by simp only[exec,au.eu];exact Ur (xp n) hn⟩
   ·rename_i bb
    rw[e3.2 ⟨n+1,hn⟩];split
    ·rename_i e;cases e;exact absurd hn (bb _)
    ·rfl
 ·intro h
  split at h
  ·rename_i st1 h1
   obtain⟨n,hn⟩:=e3.1 h1;obtain⟨m,hm⟩:=e3.1 h;simp only[exec,au.eu]at hm;refine⟨max n m+1,?_⟩;simp only[exec,iter];rw[s4 (show n<=max n m+1 by omega) hn];exact Ah (fun st r hr=>s4 (show m<=max n m+1 by omega) hr) m (max n m) _ _ (o2 n m) hm
  ·rename_i bb
   obtain⟨n,hn⟩:=e3.1 h;refine⟨n+1,?_⟩;simp only[exec,iter];rw[s4 (xp n) hn];split
   ·rename_i e;cases e;exact absurd h (bb _)
   ·rfl
theorem pd (i:Nat)(first caps args:List V)(H:Heap):cp ab (.fn i first caps) args H=match ab i with
  |some (.code fn)=>fP (dt ab) fn (first++args++caps) H
  |some (.ext spec)=>if cB (first++args++caps)then(spec (first++args++caps)).map fun v=>(v,H,H.length)else none
  |some (.lW spec)=>o9 spec (first++args++caps) H
  |none=>none:=by
 refine vi fun r=> ?_;rw[p9];constructor
 ·rintro⟨n,hn⟩
  cases n with
  |zero=>simp[aS]at hn
  |succ n=>
   simp only[aS,nf]at hn;split at hn
   ·rename_i h1;try simp only[h1]
    exact Ai (ex':=dt ab) (fun c st r h=>e3.2 ⟨n,h⟩) hn
   ·rename_i h1;try simp only[h1]
    exact hn
   ·rename_i h1;try simp only[h1]
    exact hn
   ·cases hn
 ·intro h
  cases ht:ab i with
  |none=>rw[ht]at h;cases h
  |some F=>
   rw[ht]at h;cases F with
   |ext spec=>exact⟨1,by simp only[aS,nf,ht];exact h⟩
   |lW spec=>exact⟨1,by simp only[aS,nf,ht];exact h⟩
   |code fn=>
    simp only at h;unfold fP at h;split at h
    ·rename_i hl
     split at h
     ·rename_i st h1
      obtain⟨n,hn⟩:=e3.1 h1;exact⟨n+1,by simp only[aS,nf,ht,fP];rw[if_pos hl,hn];exact h⟩
     ·rename_i st h1
      obtain⟨n,hn⟩:=e3.1 h1;exact⟨n+1,by simp only[aS,nf,ht,fP];rw[if_pos hl,hn];exact h⟩
     ·cases h
    ·cases h
end Go.Abs
namespace Go.Abs
inductive Am where
 |leaf
 |node (l:Am) (k:Nat) (f:bQ) (r:Am)
def Am.get:Am->Nat->Option bQ
 | .leaf,_=>none
 | .node l k f r,i=>bif Nat.blt i k then l.get i else bif Nat.blt k i then r.get i else some f
def iR (l:List (List V × V)):List V->Option V:=fun args=>match l with
 |[]=>none
 |(aC,v)::r=>bif hX args aC then some v else iR r args
def over (ab:Nat->Option bQ)(k:Nat)(spec:List V->Option V):Nat->Option bQ:=fun i=>bif Nat.beq i k then some (.ext spec)else ab i
def iS (ab:Nat->Option bQ)(n i:Nat):List (List V × V)->Prop
 |[]=>True
 |(aC,v)::r=>(bS v=true/\aS ab n (.fn i [] []) aC []=some (v,[],0))/\iS ab n i r
end Go.Abs
namespace Go.Abs.cb
open Go Go.Abs
abbrev J (n:Int):V:=.int .i64 n
def I6:V:=.agg [J 36,.str [50],J 7,J 8,.ak]
def s7:V:=.list 5 [I6]
def Dr:V:=.agg [J 3,.str [115],J 0,J 9,s7]
def I7:V:=.agg [J 35,.str [115],J 24,J 25,.ak]
def s8:V:=.list 5 [I7]
def Ds:V:=.agg [J 11,.str [97],J 21,J 25,s8]
def rr:V:=.list 5 [Ds]
def I8:V:=.agg [J 10,.str [],J 20,J 26,rr]
def s9:V:=.list 5 [I8]
def Dt:V:=.agg [J 4,.str [114],J 10,J 27,s9]
def I9:V:=.agg [J 35,.str [115],J 41,J 42,.ak]
def ta:V:=.list 5 [I9]
def Du:V:=.agg [J 11,.str [97],J 38,J 42,ta]
def qb:V:=.list 5 [Du]
def Ja:V:=.agg [J 10,.str [],J 37,J 43,qb]
def Jb:V:=.agg [J 37,.str [48],J 47,J 48,.ak]
def Jc:V:=.agg [J 37,.str [57],J 50,J 51,.ak]
def tb:V:=.list 5 [Jb,Jc]
def Jd:V:=.agg [J 12,.str [],J 47,J 51,tb]
def tc:V:=.list 5 [Ja,Jd]
def Dv:V:=.agg [J 5,.str [99],J 28,J 52,tc]
def Je:V:=.agg [J 35,.str [115],J 68,J 69,.ak]
def td:V:=.list 5 [Je]
def Dw:V:=.agg [J 24,.str [112],J 65,J 69,td]
def ru:V:=.list 5 [Dw]
def Jf:V:=.agg [J 23,.str [],J 64,J 70,ru]
def Jg:V:=.agg [J 1,.str [],J 70,J 70,.ak]
def Dx:V:=.agg [J 35,.str [112],J 82,J 83,.ak]
def te:V:=.list 5 [Dx]
def Jh:V:=.agg [J 22,.str [114],J 80,J 84,te]
def tf:V:=.list 5 [Jh]
def xy:V:=.agg [J 28,.str [],J 73,J 85,tf]
def Ji:V:=.agg [J 35,.str [115],J 93,J 94,.ak]
def rv:V:=.list 5 [Ji]
def Jj:V:=.agg [J 11,.str [120],J 90,J 94,rv]
def Jk:V:=.agg [J 35,.str [120],J 101,J 102,.ak]
def Jl:V:=.agg [J 35,.str [112],J 106,J 107,.ak]
def ry:V:=.list 5 [Jk,Jl]
def tg:V:=.agg [J 40,.str [33,61],J 101,J 107,ry]
def xz:V:=.agg [J 36,.str [50],J 114,J 115,.ak]
def Dy:V:=.agg [J 35,.str [120],J 121,J 122,.ak]
def th:V:=.list 5 [Dy]
def Jm:V:=.agg [J 22,.str [99],J 119,J 123,th]
def ti:V:=.list 5 [xz,Jm]
def Dz:V:=.agg [J 30,.str [],J 110,J 124,ti]
def rz:V:=.list 5 [Dz]
def Jn:V:=.agg [J 25,.str [],J 108,J 126,rz]
def tj:V:=.list 5 [Jj,tg,Jn]
def An:V:=.agg [J 34,.str [],J 86,J 126,tj]
def DA:V:=.agg [J 1,.str [],J 131,J 131,.ak]
def DB:V:=.agg [J 36,.str [48],J 134,J 135,.ak]
def rA:V:=.list 5 [DB]
def Jo:V:=.agg [J 22,.str [99],J 132,J 136,rA]
def tk:V:=.list 5 [DA,DA,Jo]
def DC:V:=.agg [J 21,.str [43],J 132,J 136,tk]
def Jp:V:=.agg [J 36,.str [50],J 139,J 140,.ak]
def Jq:V:=.agg [J 1,.str [],J 142,J 142,.ak]
def DD:V:=.agg [J 35,.str [112],J 145,J 146,.ak]
def rB:V:=.list 5 [DD]
def Jr:V:=.agg [J 22,.str [99],J 143,J 147,rB]
def tl:V:=.list 5 [Jp,Jq,Jr]
def DE:V:=.agg [J 21,.str [45],J 137,J 147,tl]
def rC:V:=.list 5 [DC,DE]
def Js:V:=.agg [J 20,.str [],J 132,J 147,rC]
def xA:V:=.agg [J 36,.str [49],J 151,J 152,.ak]
def tn:V:=.list 5 [xA]
def Jt:V:=.agg [J 19,.str [62,61],J 148,J 152,tn]
def tp:V:=.list 5 [Js,Jt]
def DF:V:=.agg [J 27,.str [],J 127,J 153,tp]
def vl:V:=.list 5 [xy,An,DF]
def Ju:V:=.agg [J 25,.str [],J 71,J 155,vl]
def vm:V:=.list 5 [Jf,Jg,Ju]
def Jv:V:=.agg [J 9,.str [111],J 53,J 155,vm]
def rD:V:=.list 5 [Dr,Dt,Dv,Jv]
def nh:V:=.agg [J 2,.str [],J 0,J 155,rD]
def Jw:V:=.list 1 [J 6,J 7]
def DG:V:=.agg [.str [112],J 0,J 0,J 0,J 0]
def Jx:V:=.agg [.str [120],J 0,J 0,J 0,J 0]
def DH:V:=.list 5 [DG,Jx]
def Jy:V:=.agg [.str [115],J 2]
def ni:V:=.list 2 [Jy]
def Us:V:=.agg [J 40,.str [33,61],J 101,J 107,ry,J 0,J (-2),J 0,J 0]
def xB:V:=.aR [Us,.ak]
def Ut:V:=.agg [J 36,.str [50],J 114,J 115,.ak,J 0,J (-1),J 2,J 2]
def DI:V:=.aR [Ut,.ak]
def Jz:V:=.list 5 [DG]
def Uu:V:=.agg [J 36,.str [49],J 151,J 152,.ak,J 0,J (-1),J 1,J 1]
def DJ:V:=.aR [Uu,.ak]
def JA:V:=.agg [.str [120],J 0,J 0,J 0,J 1]
def JB:V:=.list 5 [DG,JA]
def DK:V:=.agg [.str [112],J 0,J 0,J 0,J 1]
def JC:V:=.list 5 [DK,Jx]
def JD:V:=.agg [.str [114],J 0,.list 1 [J 0],J 0,J 1,J 0]
def JE:V:=.agg [.str [99],J 1,.list 1 [J 0],J 0,J 9,J 2]
def Uv:V:=.list 6 [JD,JE]
def Uw:V:=.agg [.str [112],J 0,J 0,J 0]
def Ux:V:=.list 4 [Uw]
def Uy:V:=.agg [.str [111],.bool false,Ux,J 14]
def Uz:V:=.list 4 [Uy]
def xC:V:=.agg [J 2,.str [],J 0,J 155,rD,ni,Uv,.ak,Uz]
def rE:V:=.str [115,111,114,116,32,115,32,50,59,32,114,101,108,97,116,105,111,110,32,114,40,97,58,32,115,41,59,32,99,111,117,110,116,101,114,32,99,40,97,58,32,115,41,32,105,110,32,48,46,46,57,59,32,111,112,101,114,97,116,105,111,110,32,111,40,112,58,32,115,41,32,123,32,105,110,115,101,114,116,32,114,40,112,41,59,32,102,111,114,32,120,58,32,115,32,119,104,101,114,101,32,120,32,33,61,32,112,32,123,32,97,100,100,32,50,32,116,111,32,99,40,120,41,59,32,125,32,104,111,108,100,32,99,40,48,41,32,45,32,50,32,42,32,99,40,112,41,32,62,61,32,49,59,32,125]
def DL:V:=.agg [J 0,J 1]
def xD:V:=.agg [J 3,J 2]
def DM:V:=.agg [J 1,J 1]
def DN:V:=.agg [J 2,J 2]
def JF:V:=.agg [J 1,J 2]
def Ao:V:=.list 2 [DL,xD]
def Ap:V:=.list 2 [DM,DN]
def Aq:V:=.agg [J 2,J 1]
def DP:V:=.agg [J 2,J (-1)]
def UA:V:=.agg [J 3,J (-2)]
def JG:V:=.list 2 [Aq,UA]
end Go.Abs.cb
namespace Go.Abs.cb
open Go Go.Abs
def DQ:List V->Option V
 |[.str s]=>if s.all (fun b=>b<128)&&decide (s.length<4294967281)then some (if(Lib.fields s).isEmpty then .emp else .list 1 ((Lib.fields s).map .str))else none
 | _=>none
def DR:List V->Option V
 |[.str s]=>if s.length<=18 then(Lib.atoi s).map fun n=>.aR [.int .i64 n,.gP]else none
 | _=>none
def DS:List V->Option V
 |[.str s,.int .u8 c]=>some (.int .i64 (Lib.indexByte s (UInt8.ofNat c.toNat)))
 | _=>none
def DT:List V->Option V
 |[.int .i64 n]=>if 0<=n/\n<10 then some (.str [UInt8.ofNat (48+n.toNat)])else if -10<n/\n<0 then some (.str [45,UInt8.ofNat (48+n.natAbs)])else none
 | _=>none
def DU:List V->Option V
 |[.int .u64 n]=>if 0<=n/\n<=7 then some (.int .i64 (Lib.bitLen n.toNat))else none
 | _=>none
def DV:List V->Option V
 |[.str s,.str [c]]=>if c<128 then some (.str (s.dropWhile (· ==c)))else none
 | _=>none
def JH:List (List V × V):=[([.list 2 [DL,xD,DM,DN]],.list 2 [DL,DM,DN,xD]),([.list 2 [.agg [J 4,J 1],JF,.agg [J 4,J (-1)]]],.list 2 [JF]),([Ao],Ao),([Ap],Ap),([.list 2 [Aq,.agg [J 2,J (-2)]]],.list 2 [DP]),([JG],JG)]
def JI:List (List V × V):=[([xC,J 0,.list 1 [J 0]],.aR [.agg [Ao,.list 2 [.agg [.list 2 [Aq],J (-1)]],.ak],J 0]),([xC,J 0,.list 1 [J 1]],.aR [.agg [Ap,.list 2 [.agg [.list 2 [DP,xD],J (-1)]],.ak],J 0])]
end Go.Abs.cb
namespace Go.Abs
open Go
structure Home where
 b:Nat
 tag:Nat
 ef:Nat
 fz:Bool
structure bw where
 β:Nat->Option Home
 I:Nat->Prop
def gb (w:World)(b o:Nat)(vals:List Value):Prop:=
 ∀(j:Nat) (x:Value),vals[j]? =some x->w.cell? ⟨b,o+j,none⟩=some x
mutual
inductive ev (w:World) (I:Nat->Prop):V->Value->Prop
 |bool (b:Bool):ev w I (.bool b) (.bool b)
 |int (k:IntKind) (n:Int):ev w I (.int k n) (.int k n)
 |str (s:List UInt8):ev w I (.str s) (.string ⟨⟨s⟩⟩)
 |ak:ev w I .ak (.slice none 0 0)
 |emp (a:Addr):ev w I .emp (.slice (some a) 0 0)
 |rF (es:Nat) (a:Addr) (cap:Nat):ev w I (.list es []) (.slice (some a) 0 cap)
 |list (es:Nat) (ds:List V) (b o cap:Nat) (vals:List Value) (ch:I b) (hc:gb w b o vals) (hu:∀d∈ds,(aL d).length=es)
  (hr:cD w I (ds.flatMap aL) vals) (hl:ds.length<=cap):ev w I (.list es ds) (.slice (some ⟨b,o,none⟩) ds.length cap)
 |gy:ev w I .gy (.pointer none)
 |hQ:ev w I .hQ (.map none)
 |ik:ev w I .ik .nilFunc
 |gP:ev w I .gP .nilIface
 |agg (vs:List V) (vals:List Value) (hr:cD w I vs vals):ev w I (.agg vs) (.agg ⟨vals⟩)
 |aR (vs:List V) (vals:List Value) (hr:cD w I vs vals):ev w I (.aR vs) (.tuple ⟨vals⟩)
 |iface (t:Nat) (v:V) (x:Value) (hr:ev w I v x):ev w I (.iface t v) (.iface t x)
 |fn (i:Nat) (fs cs:List V) (xs bX:List Value) (af:cD w I fs xs) (hc:cD w I cs bX):ev w I (.fn i fs cs) (.func (.func i) ⟨xs⟩ ⟨bX⟩)
inductive cD (w:World) (I:Nat->Prop):List V->List Value->Prop
 |nil:cD w I [] []
 |cons (v:V) (x:Value) (vs:List V) (xs:List Value) (h:ev w I v x) (hs:cD w I vs xs):cD w I (v::vs) (x::xs)
end
section
mutual
inductive aZ (fid:Nat->Nat) (G:bw) (w:World):V->Value->Prop
 |p (v:V) (x:Value) (h:ev w G.I v x):aZ fid G w v x
 |ptr (l o:Nat) (h:Home) (hb:G.β l=some h) (ht:h.tag=0):aZ fid G w (.ptr l o) (.pointer (some ⟨h.b,o,none⟩))
 |fm (l es i f tag:Nat) (h:Home) (a:Addr) (hb:G.β l=some h) (hle:tag<=h.tag) (ha:h.tag=tag->a=⟨h.b,i*es+f,none⟩):
  aZ fid G w (.fm l es i f tag) (.pointer (some a))
 |dp (vs:List V) (f b o:Nat) (vals:List Value) (ch:G.I b) (hc:gb w b o vals) (hr:cD w G.I vs vals):aZ fid G w (.dp vs f) (.pointer (some ⟨b,o+f,none⟩))
 |aN (l es off len tag:Nat) (h:Home) (a:Addr) (n cap:Nat) (hb:G.β l=some h) (hle:tag<=h.tag)
  (ha:h.tag=tag->a=⟨h.b,off*es,none⟩/\n=len/\(off+cap)*es<=h.ef/\len<=cap):aZ fid G w (.aN l es off len tag) (.slice (some a) n cap)
 |map (l:Nat) (h:Home) (hb:G.β l=some h) (ht:h.tag=0):aZ fid G w (.map l) (.map (some h.b))
 |fn (i:Nat) (fs cs:List V) (xs bX:List Value) (af:aW fid G w fs xs) (hc:aW fid G w cs bX):aZ fid G w (.fn i fs cs) (.func (.func i) ⟨xs⟩ ⟨bX⟩)
 |yield (l:Nat) (h:Home) (hb:G.β l=some h) (ht:h.tag=0):aZ fid G w (.yield l) (.func (.yield h.b) #[] #[])
 |agg (vs:List V) (vals:List Value) (hr:aW fid G w vs vals):aZ fid G w (.agg vs) (.agg ⟨vals⟩)
 |aR (vs:List V) (vals:List Value) (hr:aW fid G w vs vals):aZ fid G w (.aR vs) (.tuple ⟨vals⟩)
 |iface (t:Nat) (v:V) (x:Value) (hr:aZ fid G w v x):aZ fid G w (.iface t v) (.iface t x)
 |undef (x:Value):aZ fid G w .undef x
inductive aW (fid:Nat->Nat) (G:bw) (w:World):List V->List Value->Prop
 |nil:aW fid G w [] []
 |cons (v:V) (x:Value) (vs:List V) (xs:List Value) (h:aZ fid G w v x) (hs:aW fid G w vs xs):aW fid G w (v::vs) (x::xs)
end
end
variable{fid:Nat->Nat}{w w':World}{G G':bw}{I nj:Nat->Prop}
theorem DW{b:Nat}(h:w'.heap[b]? =w.heap[b]?)(o:Nat):w'.cell? ⟨b,o,none⟩=w.cell? ⟨b,o,none⟩:=by
 simp[World.cell?,h]
theorem gb.eg{b o:Nat}{vals:List Value}(h:gb w b o vals)(hb:w'.heap[b]? =w.heap[b]?):gb w' b o vals:=
 fun j x hx=>by rw[DW hb];exact h j x hx
mutual
theorem ev.mono (ch:∀b,I b->nj b/\w'.heap[b]? =w.heap[b]?):∀{v:V} {x:Value},ev w I v x->ev w' nj v x
 | _,_,.bool b=>.bool b
 | _,_,.int k n=>.int k n
 | _,_,.str s=>.str s
 | _,_,.ak=>.ak
 | _,_,.emp a=>.emp a
 | _,_,.rF es a cap=>.rF es a cap
 | _,_,.list es ds b o cap vals h hc hu hr hl=>.list es ds b o cap vals (ch b h).1 (hc.eg (ch b h).2) hu (cD.mono ch hr) hl
 | _,_,.gy=>.gy
 | _,_,.hQ=>.hQ
 | _,_,.ik=>.ik
 | _,_,.gP=>.gP
 | _,_,.agg vs vals hr=>.agg vs vals (cD.mono ch hr)
 | _,_,.aR vs vals hr=>.aR vs vals (cD.mono ch hr)
 | _,_,.iface t v x hr=>.iface t v x (ev.mono ch hr)
 | _,_,.fn i fs cs xs bX af hc=>.fn i fs cs xs bX (cD.mono ch af) (cD.mono ch hc)
theorem cD.mono (ch:∀b,I b->nj b/\w'.heap[b]? =w.heap[b]?):∀{vs:List V} {xs:List Value},cD w I vs xs->cD w' nj vs xs
 | _,_,.nil=>.nil
 | _,_,.cons v x vs xs h hs=>.cons v x vs xs (ev.mono ch h) (cD.mono ch hs)
end
def jE (β UB:Nat->Option Home):Prop:=
 ∀l h,β l=some h->∃h',UB l=some h'/\h.tag<=h'.tag/\(h.tag=0->h'.tag=0)/\(h'.tag=h.tag->h'.b=h.b/\h'.ef=h.ef)/\(h.fz=true->h'=h)
theorem jE.refl (β:Nat->Option Home):jE β β:=fun _ h hb=>⟨h,hb,aI _,id,fun _=>⟨rfl,rfl⟩,fun _=>rfl⟩
theorem jE.trans{a b c:Nat->Option Home}(h:jE a b)(k:jE b c):jE a c:=by
 intro l h₀ hb;obtain⟨h₁,UC,UD,UE,m₁,UF⟩:=h l h₀ hb;obtain⟨h₂,DX,UG,UH,m₂,UI⟩:=k l h₁ UC;refine⟨h₂,DX,cA UD UG,fun z=>UH (UE z),fun ht=> ?_,fun f=> ?_⟩
 ·have e:h₁.tag=h₀.tag:=by omega
  have e':h₂.tag=h₁.tag:=by omega
  exact⟨(m₂ e').1.trans (m₁ e).1,(m₂ e').2.trans (m₁ e).2⟩
 ·have:=UF f;subst this;exact UI f
mutual
theorem aZ.mono (hH:jE G.β G'.β)(ch:∀b,G.I b->G'.I b/\w'.heap[b]? =w.heap[b]?):∀{v:V} {x:Value},aZ fid G w v x->aZ fid G' w' v x
 | _,_,.p v x h=>.p v x (ev.mono ch h)
 | _,_,.ptr l o h hb ht=>by
   obtain⟨h',e,-,z,m,-⟩:=hH l h hb;have:=(m ((z ht).trans ht.symm)).1;rw[<-this];exact .ptr l o h' e (z ht)
 | _,_,.fm l es i f tag h a hb hle ha=>by
   obtain⟨h',e,t,z,m,-⟩:=hH l h hb;refine .fm l es i f tag h' a e (cA hle t) (fun hx=> ?_);have ht:h'.tag=h.tag:=by omega
   rw[(m ht).1];exact ha (by omega)
 | _,_,.dp vs f b o vals h hc hr=>.dp vs f b o vals (ch b h).1 (hc.eg (ch b h).2) (cD.mono ch hr)
 | _,_,.aN l es off len tag h a n cap hb hle ha=>by
   obtain⟨h',e,t,z,m,-⟩:=hH l h hb;refine .aN l es off len tag h' a n cap e (cA hle t) (fun hx=> ?_);have ht:h'.tag=h.tag:=by omega
   rw[(m ht).1,(m ht).2];exact ha (by omega)
 | _,_,.map l h hb ht=>by
   obtain⟨h',e,-,z,m,-⟩:=hH l h hb;have:=(m ((z ht).trans ht.symm)).1;rw[<-this];exact .map l h' e (z ht)
 | _,_,.fn i fs cs xs bX af hc=>.fn i fs cs xs bX (aW.mono hH ch af) (aW.mono hH ch hc)
 | _,_,.yield l h hb ht=>by
   obtain⟨h',e,-,z,m,-⟩:=hH l h hb;have:=(m ((z ht).trans ht.symm)).1;rw[<-this];exact .yield l h' e (z ht)
 | _,_,.agg vs vals hr=>.agg vs vals (aW.mono hH ch hr)
 | _,_,.aR vs vals hr=>.aR vs vals (aW.mono hH ch hr)
 | _,_,.iface t v x hr=>.iface t v x (aZ.mono hH ch hr)
 | _,_,.undef x=>.undef x
theorem aW.mono (hH:jE G.β G'.β)(ch:∀b,G.I b->G'.I b/\w'.heap[b]? =w.heap[b]?):∀{vs:List V} {xs:List Value},aW fid G w vs xs->aW fid G' w' vs xs
 | _,_,.nil=>.nil
 | _,_,.cons v x vs xs h hs=>.cons v x vs xs (aZ.mono hH ch h) (aW.mono hH ch hs)
end
mutual
theorem aZ.restrict{n:Nat}(hH:∀l h,l<n->G.β l=some h->∃h',G'.β l=some h'/\h'=h)(ch:∀b,G.I b->G'.I b/\w'.heap[b]? =w.heap[b]?):
  ∀{v:V} {x:Value},aZ fid G w v x->old n v=true\/(bS v=true)->aZ fid G' w' v x
 | _,_,.p v x h,_=>.p v x (ev.mono ch h)
 | _,_,.ptr l o h hb ht,ho=>by
   obtain⟨h',e,rfl⟩:=hH l h (by simpa[old,bS]using ho) hb;exact .ptr l o _ e ht
 | _,_,.fm l es i f tag h a hb hle ha,ho=>by
   obtain⟨h',e,rfl⟩:=hH l h (by simpa[old,bS]using ho) hb;exact .fm l es i f tag _ a e hle ha
 | _,_,.dp vs f b o vals h hc hr,_=>.dp vs f b o vals (ch b h).1 (hc.eg (ch b h).2) (cD.mono ch hr)
 | _,_,.aN l es off len tag h a n cap hb hle ha,ho=>by
   obtain⟨h',e,rfl⟩:=hH l h (by simpa[old,bS]using ho) hb;exact .aN l es off len tag _ a n cap e hle ha
 | _,_,.map l h hb ht,ho=>by
   obtain⟨h',e,rfl⟩:=hH l h (by simpa[old,bS]using ho) hb;exact .map l _ e ht
 | _,_,.fn i fs cs xs bX af hc,ho=>by
   simp only[old,bS,cH]at ho;exact .fn i fs cs xs bX (aW.restrict hH ch af (ho.imp And.left And.left)) (aW.restrict hH ch hc (ho.imp And.right And.right))
 | _,_,.yield l h hb ht,ho=>by
   obtain⟨h',e,rfl⟩:=hH l h (by simpa[old,bS]using ho) hb;exact .yield l _ e ht
 | _,_,.agg vs vals hr,ho=>.agg vs vals (aW.restrict hH ch hr (by simpa[old,bS]using ho))
 | _,_,.aR vs vals hr,ho=>.aR vs vals (aW.restrict hH ch hr (by simpa[old,bS]using ho))
 | _,_,.iface t v x hr,ho=>.iface t v x (aZ.restrict hH ch hr (by simpa[old,bS]using ho))
 | _,_,.undef x,_=>.undef x
theorem aW.restrict{n:Nat}(hH:∀l h,l<n->G.β l=some h->∃h',G'.β l=some h'/\h'=h)(ch:∀b,G.I b->G'.I b/\w'.heap[b]? =w.heap[b]?):
  ∀{vs:List V} {xs:List Value},aW fid G w vs xs->olds n vs=true\/cB vs=true->aW fid G' w' vs xs
 | _,_,.nil,_=>.nil
 | _,_,.cons v x vs xs h hs,ho=>by
   have h1:old n v=true\/bS v=true:=by rcases ho with ho|ho<;>simp_all [olds,cB]
   have h2:olds n vs=true\/cB vs=true:=by rcases ho with ho|ho<;>simp_all [olds,cB]
   exact .cons v x vs xs (aZ.restrict hH ch h h1) (aW.restrict hH ch hs h2)
end
mutual
theorem aZ.lZ:∀{v:V} {x:Value},aZ fid G w v x->bS v=true->ev w G.I v x
 | _,_,.p v x h,_=>h
 | _,_,.agg vs vals hr,ho=>.agg vs vals (aW.lZ hr (by simpa[bS]using ho))
 | _,_,.aR vs vals hr,ho=>.aR vs vals (aW.lZ hr (by simpa[bS]using ho))
 | _,_,.iface t v x hr,ho=>.iface t v x (aZ.lZ hr (by simpa[bS]using ho))
 | _,_,.fn i fs cs xs bX af hc,ho=>by
   simp only[bS,cH]at ho;exact .fn i fs cs xs bX (aW.lZ af ho.1) (aW.lZ hc ho.2)
 | _,_,.ptr ..,ho| _,_,.fm ..,ho| _,_,.dp ..,ho| _,_,.aN ..,ho| _,_,.map ..,ho| _,_,.yield ..,ho| _,_,.undef ..,ho=>by simp[bS]at ho
theorem aW.lZ:∀{vs:List V} {xs:List Value},aW fid G w vs xs->cB vs=true->cD w G.I vs xs
 | _,_,.nil,_=>.nil
 | _,_,.cons v x vs xs h hs,ho=>by
   simp only[cB,cH]at ho;exact .cons v x vs xs (aZ.lZ h ho.1) (aW.lZ hs ho.2)
end
theorem cD.la:∀{vs:List V} {xs:List Value},cD w G.I vs xs->aW fid G w vs xs
 | _,_,.nil=>.nil
 | _,_,.cons v x vs xs h hs=>.cons v x vs xs (.p v x h) (cD.la hs)
mutual
theorem ev.flat:∀{v:V} {x:Value},ev w I v x->Abs.flat v=true->ev w' nj v x
 | _,_,.bool b,_=>.bool b
 | _,_,.int k n,_=>.int k n
 | _,_,.str s,_=>.str s
 | _,_,.ak,_=>.ak
 | _,_,.emp a,_=>.emp a
 | _,_,.gy,_=>.gy
 | _,_,.hQ,_=>.hQ
 | _,_,.ik,_=>.ik
 | _,_,.gP,_=>.gP
 | _,_,.agg vs vals hr,h=>.agg vs vals (cD.flat hr (by simpa[Abs.flat]using h))
 | _,_,.aR vs vals hr,h=>.aR vs vals (cD.flat hr (by simpa[Abs.flat]using h))
 | _,_,.rF ..,h| _,_,.list ..,h| _,_,.iface ..,h| _,_,.fn ..,h=>by simp[Abs.flat]at h
theorem cD.flat:∀{vs:List V} {xs:List Value},cD w I vs xs->p4 vs=true->cD w' nj vs xs
 | _,_,.nil,_=>.nil
 | _,_,.cons v x vs xs h hs,ho=>by
   simp only[p4,cH]at ho;exact .cons v x vs xs (ev.flat h ho.1) (cD.flat hs ho.2)
end
mutual
theorem JJ:∀{v:V},Abs.flat v=true->bS v=true
 | .bool _,_| .int _ _,_| .str _,_| .ak,_| .emp,_| .gy,_| .hQ,_| .ik,_| .gP,_=>rfl
 | .agg vs,h=>by simp only[bS];exact DY (by simpa[Abs.flat]using h)
 | .aR vs,h=>by simp only[bS];exact DY (by simpa[Abs.flat]using h)
 | .list ..,h| .ptr ..,h| .fm ..,h| .dp ..,h| .aN ..,h| .map ..,h| .fn ..,h| .yield ..,h| .iface ..,h| .undef,h=>by simp[Abs.flat]at h
theorem DY:∀{vs:List V},p4 vs=true->cB vs=true
 |[],_=>rfl
 |v::vs,h=>by
  simp only[p4,cH]at h;simp only[cB,cH];exact⟨JJ h.1,DY h.2⟩
end
theorem aZ.flat{v:V}{x:Value}(h:aZ fid G w v x)(af:Abs.flat v=true):aZ fid G' w' v x:=.p _ _ ((h.lZ (JJ af)).flat af)
theorem aW.length:∀{vs:List V} {xs:List Value},aW fid G w vs xs->xs.length=vs.length
 | _,_,.nil=>rfl
 | _,_,.cons _ _ _ _ _ hs=>by simp[aW.length hs]
theorem aW.get:∀{vs:List V} {xs:List Value},aW fid G w vs xs->∀{i:Nat} {v:V},vs[i]? =some v->∃x,xs[i]? =some x/\aZ fid G w v x
 | _,_,.nil,i,v,h=>by simp at h
 | _,_,.cons v x vs xs h hs,0,u,e=>by simp at e;subst e;exact⟨x,by simp,h⟩
 | _,_,.cons v x vs xs h hs,i+1,u,e=>by simpa using aW.get hs (by simpa using e)
theorem aW.append:∀{vs us:List V} {xs bX:List Value},aW fid G w vs xs->aW fid G w us bX->aW fid G w (vs++us) (xs++bX)
 | _,_,_,_,.nil,k=>k
 | _,_,_,_,.cons v x vs xs h hs,k=>.cons v x _ _ h (aW.append hs k)
theorem aW.split:∀{vs us:List V} {cq:List Value},aW fid G w (vs++us) cq->∃xs bX,cq=xs++bX/\aW fid G w vs xs/\aW fid G w us bX
 |[],us,cq,h=>⟨[],cq,rfl,.nil,h⟩
 |v::vs,us,_,.cons _ x _ xs h hs=>by
  obtain⟨aC,aB,rfl,h1,h2⟩:=aW.split (vs:=vs) hs;exact⟨x::aC,aB,rfl,.cons v x vs aC h h1,h2⟩
theorem aW.set:∀{vs:List V} {xs:List Value},aW fid G w vs xs->∀(i:Nat) {v:V} {x:Value},aZ fid G w v x->aW fid G w (vs.set i v) (xs.set i x)
 | _,_,.nil,_,_,_,_=>.nil
 | _,_,.cons v x vs xs h hs,0,u,y,k=>.cons u y vs xs k hs
 | _,_,.cons v x vs xs h hs,i+1,u,y,k=>.cons v x _ _ h (aW.set hs i k)
theorem aW.drop:∀{vs:List V} {xs:List Value},aW fid G w vs xs->∀(n:Nat),aW fid G w (vs.drop n) (xs.drop n)
 | _,_,h,0=>by simpa using h
 | _,_,.nil,n+1=>.nil
 | _,_,.cons v x vs xs h hs,n+1=>by simpa using aW.drop hs n
theorem aW.take:∀{vs:List V} {xs:List Value},aW fid G w vs xs->∀(n:Nat),aW fid G w (vs.take n) (xs.take n)
 | _,_,h,0=>by simpa using aW.nil
 | _,_,.nil,n+1=>.nil
 | _,_,.cons v x vs xs h hs,n+1=>.cons v x _ _ h (aW.take hs n)
theorem aW.UJ{vs:List V}{xs:List Value}(hl:xs.length=vs.length)(h:∀(i:Nat) v x,vs[i]? =some v->xs[i]? =some x->aZ fid G w v x):aW fid G w vs xs:=by
 induction vs generalizing xs with
 |nil=>cases xs with
  |nil=>exact .nil
  |cons=>simp at hl
 |cons v vs ih=>cases xs with
  |nil=>simp at hl
  |cons x xs=>exact .cons v x vs xs (h 0 v x rfl rfl) (ih (by simpa using hl) (fun i v x a b=>h (i+1) v x (by simpa using a) (by simpa using b)))
theorem cD.drop:∀{vs:List V} {xs:List Value},cD w I vs xs->∀(n:Nat),cD w I (vs.drop n) (xs.drop n)
 | _,_,h,0=>by simpa using h
 | _,_,.nil,n+1=>.nil
 | _,_,.cons _ _ _ _ _ hs,n+1=>by simpa using cD.drop hs n
theorem cD.take:∀{vs:List V} {xs:List Value},cD w I vs xs->∀(n:Nat),cD w I (vs.take n) (xs.take n)
 | _,_,_,0=>by simpa using cD.nil
 | _,_,.nil,n+1=>.nil
 | _,_,.cons v x _ _ h hs,n+1=>.cons v x _ _ h (cD.take hs n)
theorem cD.length{vs:List V}{xs:List Value}(h:cD w I vs xs):xs.length=vs.length:=aW.length (fid:=id) (G:=⟨fun _=>none,I⟩) (cD.la h)
def DZ:X->Option Code->Prop
 | .normal,none=>True
 | .exit id,some (.exit o7)=>o7=id
 | .ret,some .ret=>True
 | _,_=>False
def mr (es:Array MapEntry)(b3:Nat):Prop:=(∀x∈es.toList,x.born<b3)/\(es.toList.map (·.born)).Nodup
def xE (C:Ctx)(w:World)(b:Nat)(vs:List V):Prop:=∀v,vs=[.undef,v]->∃c e,w.heap[b]? =some (.cells c e (0,0))/\C.Af=some e/\(c[0]? =some (.pointer none)\/c[0]? =some (.pointer (some ⟨b,0,none⟩)))
def gT (C:Ctx)(fid:Nat->Nat)(G:bw)(w:World)(h:Home):bd->Prop
 | .cells vs=>(h.tag=0/\xE C w h.b vs)/\h.fz=false/\∃c e,w.heap[h.b]? =some (.cells c e (0,0))/\aW fid G w vs c.toList
 | .row es ds fz=>h.tag=ds.length/\0<ds.length/\h.fz=fz/\0<es/\(∀d∈ds,(aL d).length=es)/\
  ∃c e vals rest,w.heap[h.b]? =some (.cells c e (0,0))/\h.ef=c.size/\c.toList=vals++rest/\aW fid G w (ds.flatMap aL) vals
 | .map bA=>h.tag=0/\h.fz=false/\∃es b3,w.heap[h.b]? =some (.map es b3)/\
  aW fid G w (bA.map (·.1)) (es.toList.map (·.key))/\aW fid G w (bA.map (·.2)) (es.toList.map (·.val))/\mr es b3
 | .loop st ri env params assign body=>h.tag=0/\h.fz=false/\∃L vars,w.heap[h.b]? =some (.loop L)/\L.state=st/\DZ ri L.pending/\
  L.params.toList=params/\(∀t∈params,t∈vars/\t<L.tmps.size)/\
  C.code vars L.tmps.size L.assign=some assign/\C.code vars L.tmps.size L.body=some body/\∀t∈vars,aZ fid G w (cJ env t) (L.tmps.getD t undef)
 | .o5 s=>h.fz=false/\h.tag=s.length/\0<s.length/\∃c rest,w.heap[h.b]? =some (.cells c C.vf (0,0))/\h.ef=c.size/\c.toList=(s.map fun b=>Value.int .u8 b.toNat)++rest
 | .dead n=>h.fz=false/\h.tag=n
 | .gone=>h.tag=0/\h.fz=false
structure aQ (C:Ctx) (fid:Nat->Nat) (G:bw) (H:Heap) (w:World):Prop where
 obj:∀l h,G.β l=some h->∃o,H[l]? =some o/\gT C fid G w h o
 inj:∀l eB h h',G.β l=some h->G.β eB=some h'->h.b=h'.b->l=eB
 cL:∀l h,G.β l=some h->h.b<w.heap.size
 cu:∀b,G.I b->b<w.heap.size/\∀l h,G.β l=some h->h.b=b->h.fz=true
 iq:∀l h,G.β l=some h->h.fz=true->G.I h.b
 ej:∀b o,C.ej b=some o->G.I b/\w.heap[b]? =some o
structure Ext (G:bw) (w:World) (G':bw) (w':World) (m n:Nat):Prop where
 size:w.heap.size<=w'.heap.size
 os:w'.os=w.os
 output:w'.output=w.output
 eg:∀b,b<w.heap.size->(∀l h,G.β l=some h->h.b=b->h.fz=true\/l<m)->w'.heap[b]? =w.heap[b]?
 homes:jE G.β G'.β
 kJ:∀l h',G'.β l=some h'->(∃h,G.β l=some h/\(h.b=h'.b\/w.heap.size<=h'.b))\/(n<=l/\w.heap.size<=h'.b)
 cu:∀b,G.I b->G'.I b
 lb:∀b,G'.I b->G.I b\/w.heap.size<=b\/∃l h,G.β l=some h/\h.b=b
theorem Ext.D0{m n:Nat}(h:Ext G w G' w' m n)(l:Nat)(h':Home)(e:G'.β l=some h'):(∃h,G.β l=some h/\h.b=h'.b)\/w.heap.size<=h'.b:=by
 rcases h.kJ l h' e with⟨h0,fa,q|q⟩|⟨_,q⟩
 ·exact .inl ⟨h0,fa,q⟩
 ·exact .inr q
 ·exact .inr q
theorem Ext.refl (G:bw)(w:World)(m n:Nat):Ext G w G w m n:=
 ⟨aI _,rfl,rfl,fun _ _ _=>rfl,.refl _,fun _ h hb=>.inl ⟨h,hb,.inl rfl⟩,fun _ h=>h,fun _ h=>.inl h⟩
theorem Ext.le{m m' n JK:Nat}(h:Ext G w G' w' m n)(hm:m'<=m)(hn:JK<=n):Ext G w G' w' m' JK:=
 {h with eg:=fun b hb k=>h.eg b hb fun l x ae ai=>(k l x ae ai).imp id fun q=>mX q hm
         kJ:=fun l h' e=>(h.kJ l h' e).imp id fun q=>⟨cA hn q.1,q.2⟩}
theorem Ext.trans{JL:bw}{eW:World}{m n:Nat}(h:Ext G w G' w' m n)(k:Ext G' w' JL eW m n):Ext G w JL eW m n where
 size:=cA h.size k.size
 os:=k.os.trans h.os
 output:=k.output.trans h.output
 eg b hb hk:=by
  rw[k.eg b (mX hb h.size) ?_,h.eg b hb hk];intro l h1 ae ai;rcases h.D0 l h1 ae with⟨h0,fa,eb⟩|hn
  ·rcases hk l h0 fa (eb.trans ai)with af|hl
   ·obtain⟨h',e',-,-,-,jD⟩:=h.homes l h0 fa
    rw[ae]at e';cases e';rw[jD af];exact .inl af
   ·exact .inr hl
  ·omega
 homes:=h.homes.trans k.homes
 kJ l h2 e:=by
  have hs:=h.size;rcases k.kJ l h2 e with⟨h1,ae,eb⟩|⟨hn,hb⟩
  ·rcases h.kJ l h1 ae with⟨h0,fa,vn⟩|⟨hn,hb⟩
   ·refine .inl ⟨h0,fa,?_⟩
    rcases eb with eb|eb<;>rcases vn with vn|vn
    ·exact .inl (vn.trans eb)
    ·exact .inr (by omega)
    ·exact .inr (by omega)
    ·exact .inr (by omega)
   ·exact .inr ⟨hn,by rcases eb with eb|eb<;>omega⟩
  ·exact .inr ⟨hn,by omega⟩
 cu b hb:=k.cu b (h.cu b hb)
 lb b hb:=by
  rcases k.lb b hb with h1|h1|⟨l,h1,ae,eb⟩
  ·exact h.lb b h1
  ·exact .inr (.inl (cA h.size h1))
  ·rcases h.D0 l h1 ae with⟨h0,fa,vn⟩|hn
   ·exact .inr (.inr ⟨l,h0,fa,vn.trans eb⟩)
   ·exact .inr (.inl (by omega))
theorem aQ.JM{C:Ctx}{H:Heap}{m n:Nat}(aa:aQ C fid G H w)(h:Ext G w G' w' m n):∀b,G.I b->G'.I b/\w'.heap[b]? =w.heap[b]? :=fun b hb=>
 ⟨h.cu b hb,h.eg b (aa.cu b hb).1 fun l x ae ai=>.inl ((aa.cu b hb).2 l x ae ai)⟩
theorem aZ.ext{C:Ctx}{H:Heap}{m n:Nat}(aa:aQ C fid G H w)(h:Ext G w G' w' m n){v:V}{x:Value}(k:aZ fid G w v x):aZ fid G' w' v x:=
 k.mono h.homes (aa.JM h)
theorem aW.ext{C:Ctx}{H:Heap}{m n:Nat}(aa:aQ C fid G H w)(h:Ext G w G' w' m n){v:List V}{x:List Value}(k:aW fid G w v x):aW fid G' w' v x:=
 k.mono h.homes (aa.JM h)
theorem gT.mono{C:Ctx}(hH:jE G.β G'.β)(ch:∀b,G.I b->G'.I b/\w'.heap[b]? =w.heap[b]?){h:Home}(hb:w'.heap[h.b]? =w.heap[h.b]?):∀{o:bd},gT C fid G w h o->gT C fid G' w' h o
 | .cells vs,⟨a,b,c,e,hc,hr⟩=>⟨⟨a.1,fun v ad=>by rw[hb];exact a.2 v ad⟩,b,c,e,by rw[hb];exact hc,hr.mono hH ch⟩
 | .row es ds fz,⟨a,b,c,d,u,JN,e,vals,rest,hc,hs,hl,hr⟩=>⟨a,b,c,d,u,JN,e,vals,rest,by rw[hb];exact hc,hs,hl,hr.mono hH ch⟩
 | .map bA,⟨a,b,es,b3,hc,hk,ad,hs⟩=>⟨a,b,es,b3,by rw[hb];exact hc,hk.mono hH ch,ad.mono hH ch,hs⟩
 | .loop ..,⟨a,b,L,vars,hc,hs,hp,oe,hin,ha,UK,he⟩=>⟨a,b,L,vars,by rw[hb];exact hc,hs,hp,oe,hin,ha,UK,fun t ht=>(he t ht).mono hH ch⟩
 | .o5 s,⟨a,b,d,c,rest,hc,hs,hl⟩=>⟨a,b,d,c,rest,by rw[hb];exact hc,hs,hl⟩
 | .dead _,h=>h
 | .gone,h=>h
end Go.Abs
