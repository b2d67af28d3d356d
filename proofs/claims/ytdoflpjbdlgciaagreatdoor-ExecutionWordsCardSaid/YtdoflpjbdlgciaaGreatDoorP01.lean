/- Texts of this claim, joined and written short by a program. -/
import Derived.Test.YtdoflpjbdlgciaaGreatDoorP00
import Derived.Lib.ItoaNum
import Derived.KernelRfl
import Derived.Lib.Fields
import Derived.Lib.Atoi
import Derived.Lib.Bytealg
import Derived.Lib.Join
import Derived.Laws.World
set_option linter.unusedVariables false
set_option linter.unusedSimpArgs false
set_option linter.unusedSectionVars false
namespace Go.Abs
def tF (a b:c1):Prop:=∀f args H r,a f args H=some r->b f args H=some r
variable{call pK:c1}
theorem u5 (h:tF call pK){ai:aj->V}{H:Heap}{low:Nat}{op:cS}{r:V × Heap × Nat}(he:cf call ai H low op=some r):cf pK ai H low op=some r:=by
 cases op with
 |call raw f args=>
  cases raw
  ·simp only[cf]at he⊢
   split at he
   ·rename_i vs H1 bS h1
    split at he
    ·rename_i u H2 l h2
     rw[h _ _ _ _ h2];exact he
    ·cases he
   ·cases he
  ·simp only[cf]at he⊢
   split at he
   ·rename_i u H2 l h2
    rw[h _ _ _ _ h2];exact he
   ·cases he
 | _=>exact he
theorem yF (h:tF call pK):∀(ops:List bP) (st:au) (wr:List Bool) (r:au × List Bool),c5 call ops st wr=some r->c5 pK ops st wr=some r
 |[],st,wr,r,he=>he
 |o::ops,st,wr,r,he=>by
  simp only[c5]at he⊢;split at he
  ·rename_i hw
   try simp only[hw]
   split at he
   ·rename_i v H' low' h1
    rw[u5 h h1];exact yF h ops _ _ _ he
   ·cases he
  ·rename_i hw
   try simp only[hw]
   exact yF h ops _ _ _ he
  ·cases he
theorem yG (h:tF call pK):∀(ops:List bP) (st:au) (r:List au),fA call ops st=some r->fA pK ops st=some r
 |[],st,r,he=>he
 |o::ops,st,r,he=>by
  simp only[fA]at he⊢;split at he
  ·rename_i hw
   try simp only[hw]
   split at he
   ·rename_i v H' low' h1
    rw[u5 h h1];obtain⟨x,hx,rfl⟩:=cG.1 he;simp only[];rw[yG h ops _ _ hx];rfl
   ·cases he
  ·rename_i hw
   try simp only[hw]
   obtain⟨x,hx,rfl⟩:=cG.1 he;rw[yG h ops _ _ hx];rfl
  ·cases he
theorem Bt (h:tF call pK){q:bP × au × Heap}(he:jo call q=true):jo pK q=true:=by
 unfold jo at he⊢;split at he
 ·rename_i hw;try simp only[hw]
 ·rename_i hw
  try simp only[hw]
  split at he
  ·rename_i v H1 bS h1
   rw[u5 h h1];simp only[];split at he
   ·rename_i v2 H2 dM h2
    rw[u5 h h2];exact he
   ·cases he
  ·cases he
 ·cases he
theorem agf (h:tF call pK){eh:List Nat}{ops:List bP}{wr:List Bool}{st:au}(he:rq call eh ops wr st=true):rq pK eh ops wr st=true:=by
 unfold rq at he⊢;split at he
 ·rename_i cq ht
  rw[yG h _ _ _ ht];simp only[ca,eV]at he⊢;exact⟨he.1,fun q bj=>Bt h (he.2 q bj)⟩
 ·cases he
theorem Ng (h:tF call pK){eh:List Nat}{ops:List bP}{wr:List Bool}{st:au}(he:oO call eh ops wr st=true):oO pK eh ops wr st=true:=by
 unfold oO at he⊢;simp only[kz]at he⊢;rcases he with he|he
 ·exact .inl (agf h he)
 ·right
  split at he
  ·rename_i cq ht
   rw[yG h _ _ _ ht];simp only[ca,eV]at he⊢;exact⟨he.1,fun q bj=>Bt h (he.2 q bj)⟩
  ·cases he
theorem Iq{f mg:au->Option (X × au)}(h:∀st r,f st=some r->mg st=some r):∀(n m:Nat) (st:au) (r:X × au),n<=m->iter f n st=some r->iter mg m st=some r
 |0,_,_,_,_,he=>by cases he
 |n+1,0,_,_,hle,_=>by omega
 |n+1,m+1,st,r,hle,he=>by
  simp only[iter]at he⊢;split at he
  ·rename_i cm h1
   rw[h _ _ h1];exact Iq h n m _ _ (by omega) he
  ·rename_i bu
   rw[h _ _ he];split
   ·rename_i aX e;cases e;exact absurd he (bu _)
   ·rfl
theorem sn (h:tF call pK){n m:Nat}(hle:n<=m):∀(c:b8) (st:au) (r:X × au),exec call n c st=some r->exec pK m c st=some r
 | .skip,st,r,he=>he
 | .yA ops ok f,st,r,he=>by
   simp only[exec]at he⊢;split at he
   ·rename_i cm wr h1
    rw[yF h _ _ _ _ h1];exact he
   ·cases he
 | .region ops eh,st,r,he=>by
   simp only[exec,au.fT]at he⊢;split at he
   ·rename_i cm wr h1
    rw[yF h _ _ _ _ h1];cases eh with
    |none=>exact he
    |some b=>
     simp only at he⊢;split at he
     ·rename_i hb
      rw[if_pos]
      ·exact he
      ·simp only[kz]at hb⊢
       exact hb.imp id (Ng h)
     ·cases he
   ·cases he
 | .seq a b,st,r,he=>by
   simp only[exec,au.fT]at he⊢;split at he
   ·rename_i cm h1
    rw[sn h hle a _ _ h1];exact sn h hle b _ _ he
   ·rename_i bu
    rw[sn h hle a _ _ he];split
    ·rename_i cm e;cases e;exact absurd he (bu _)
    ·rfl
 | .cond c t e,st,r,he=>by
   simp only[exec,au.fT]at he⊢;split at he
   ·exact sn h hle t _ _ he
   ·exact sn h hle e _ _ he
   ·cases he
 | .block id c,st,r,he=>by
   simp only[exec,au.fT]at he⊢;split at he
   ·rename_i tE cm h1
    rw[sn h hle c _ _ h1];exact he
   ·rename_i bu
    rw[sn h hle c _ _ he];split
    ·rename_i tE cm e;cases e;exact absurd he (bu _ _)
    ·rfl
 | .loop c,st,r,he=>by
   simp only[exec,au.fT]at he⊢;exact Iq (fun st r hr=>sn h hle c st r hr) n m st r hle he
 | .rangeFunc f ps a b,st,r,he=>by
   simp only[exec,au.fT]at he⊢;split at he
   ·cases he
   ·rename_i hc
    try rw[if_neg hc]
    split at he
    ·rename_i u H1 bS h1
     rw[h _ _ _ _ h1];exact he
    ·cases he
 | .exit id,st,r,he=>he
 | .ret,st,r,he=>he
 | .fail,st,r,he=>he
def Nh (ex ex':b8->au->Option (X × au)):Prop:=∀c st r,ex c st=some r->ex' c st=some r
theorem Ir{ex ex':b8->au->Option (X × au)}(h:Nh ex ex'){f:hh}{args:List V}{H:Heap}{r:V × Heap × Nat}(he:gu ex f args H=some r):gu ex' f args H=some r:=by
 unfold gu at he⊢;split at he
 ·rename_i hl
  rw[if_pos hl];split at he
  ·rename_i st h1;rw[h _ _ _ h1];exact he
  ·rename_i st h1;rw[h _ _ _ h1];exact he
  ·cases he
 ·cases he
theorem T6{ex ex':b8->au->Option (X × au)}(h:Nh ex ex'){l:Nat}{args:List V}{H:Heap}{r:V × Heap × Nat}(he:pI ex l args H=some r):pI ex' l args H=some r:=by
 unfold pI at he⊢;split at he
 ·split at he
  ·rename_i hl
   simp only[hl,if_true];split at he
   ·rename_i st h1
    simp only[h _ _ _ h1];split at he
    ·rename_i h2
     try simp only[h2]
     split at he
     ·rename_i av
      simp only[h _ _ _ av];exact he
     ·cases he
    ·cases he
   ·cases he
  ·cases he
 ·cases he
theorem T7 (ad:Nat->Option cb):∀n,tF (bm ad n) (bm ad (n+1))
 |0=>fun f args H r he=>by simp[bm]at he
 |n+1=>fun f args H r he=>by
  have hx:Nh (exec (bm ad n) n) (exec (bm ad (n+1)) (n+1)):=fun c st r hr=>sn (T7 ad n) (DM n) c st r hr;show qx ad (bm ad (n+1)) (n+1) f args H=some r;change qx ad (bm ad n) n f args H=some r at he;unfold qx at he⊢;split at he
  ·split at he
   ·rename_i h1;try simp only[h1]
    exact Ir hx he
   ·rename_i h1;try simp only[h1]
    exact he
   ·rename_i h1;try simp only[h1]
    exact he
   ·cases he
  ·exact T6 hx he
  ·cases he
theorem mX (ad:Nat->Option cb){n:Nat}:∀{m:Nat},n<=m->tF (bm ad n) (bm ad m)
 |0,h=>by have:n=0:=by omega
          subst this;exact fun _ _ _ _ h=>h
 |m+1,h=>by
  rcases gq n (m+1)with h1|h1
  ·exact fun f args H r he=>T7 ad m f args H r (mX ad (m:=m) (by omega) f args H r he)
  ·have:n=m+1:=by omega
   subst this;exact fun _ _ _ _ h=>h
open Classical in
noncomputable def cl (ad:Nat->Option cb):c1:=fun f args H=>if h:∃r n,bm ad n f args H=some r then some h.choose else none
open Classical in
noncomputable def dz (ad:Nat->Option cb)(c:b8)(st:au):Option (X × au):=if h:∃r n,exec (bm ad n) n c st=some r then some h.choose else none
variable{ad:Nat->Option cb}
theorem sq{f:V}{args:List V}{H:Heap}{r:V × Heap × Nat}:cl ad f args H=some r↔∃n,bm ad n f args H=some r:=by
 unfold cl;constructor
 ·intro h
  split at h
  ·rename_i hex;cases h;exact hex.choose_spec
  ·cases h
 ·rintro⟨n,hn⟩
  have hex:∃r n,bm ad n f args H=some r:=⟨r,n,hn⟩;rw[dif_pos hex];obtain⟨m,hm⟩:=hex.choose_spec;have a:=mX ad (tx n m) _ _ _ _ hn;have b:=mX ad (sc n m) _ _ _ _ hm;rw[a]at b;exact b.symm
theorem u6{n m:Nat}(hle:n<=m){c:b8}{st:au}{r:X × au}(h:exec (bm ad n) n c st=some r):exec (bm ad m) m c st=some r:=sn (mX ad hle) hle c st r h
theorem fV{c:b8}{st:au}{r:X × au}:dz ad c st=some r↔∃n,exec (bm ad n) n c st=some r:=by
 unfold dz;constructor
 ·intro h
  split at h
  ·rename_i hex;cases h;exact hex.choose_spec
  ·cases h
 ·rintro⟨n,hn⟩
  have hex:∃r n,exec (bm ad n) n c st=some r:=⟨r,n,hn⟩;rw[dif_pos hex];obtain⟨m,hm⟩:=hex.choose_spec;have a:=u6 (tx n m) hn;have b:=u6 (sc n m) hm;rw[a]at b;exact b.symm
theorem DU (n:Nat):tF (bm ad n) (cl ad):=fun _ _ _ _ h=>sq.2 ⟨n,h⟩
theorem xn{α:Type}{a b:Option α}(h:∀r,a=some r↔b=some r):a=b:=by
 cases a with
 |none=>cases b with
  |none=>rfl
  |some y=>exact absurd ((h y).2 rfl) (by simp)
 |some x=>exact((h x).1 rfl).symm
theorem Is{ai:aj->V}{H:Heap}{low:Nat}{op:cS}{r:V × Heap × Nat}:cf (cl ad) ai H low op=some r↔∃n,cf (bm ad n) ai H low op=some r:=by
 constructor
 ·intro he
  cases op with
  |call raw f args=>
   cases raw
   ·simp only[cf]at he⊢
    split at he
    ·rename_i vs H1 bS h1
     split at he
     ·rename_i u H2 l h2
      obtain⟨n,hn⟩:=sq.1 h2;exact⟨n,by rw[hn];exact he⟩
     ·cases he
    ·cases he
   ·simp only[cf]at he⊢
    split at he
    ·rename_i u H2 l h2
     obtain⟨n,hn⟩:=sq.1 h2;exact⟨n,by rw[hn];exact he⟩
    ·cases he
  | _=>exact⟨0,he⟩
 ·rintro⟨n,hn⟩;exact u5 (DU n) hn
theorem Ni:∀(ops:List bP) (st:au) (wr:List Bool) (r:au × List Bool),c5 (cl ad) ops st wr=some r->∃n,c5 (bm ad n) ops st wr=some r
 |[],st,wr,r,he=>⟨0,he⟩
 |o::ops,st,wr,r,he=>by
  simp only[c5]at he⊢;split at he
  ·rename_i hw
   split at he
   ·rename_i v H' low' h1
    obtain⟨n,hn⟩:=Is.1 h1;obtain⟨m,hm⟩:=Ni ops _ _ _ he;refine⟨max n m,?_⟩;rw[u5 (mX ad (tx n m)) hn];exact yF (mX ad (sc n m)) ops _ _ _ hm
   ·cases he
  ·rename_i hw
   obtain⟨m,hm⟩:=Ni ops _ _ _ he;exact⟨m,hm⟩
  ·cases he
theorem nw (st:au):dz ad .skip st=some (.normal,st):=fV.2 ⟨0,rfl⟩
theorem qy (id:Nat)(st:au):dz ad (.exit id) st=some (.exit id,st):=fV.2 ⟨0,rfl⟩
theorem nx (st:au):dz ad .ret st=some (.ret,st):=fV.2 ⟨0,rfl⟩
theorem It:∀(ops:List bP) (st:au) (r:List au),fA (cl ad) ops st=some r->∃n,fA (bm ad n) ops st=some r
 |[],st,r,he=>⟨0,he⟩
 |o::ops,st,r,he=>by
  simp only[fA]at he⊢;split at he
  ·rename_i hw
   split at he
   ·rename_i v H' low' h1
    obtain⟨n,hn⟩:=Is.1 h1;obtain⟨x,hx,rfl⟩:=cG.1 he;obtain⟨m,hm⟩:=It ops _ _ hx;refine⟨max n m,?_⟩;rw[u5 (mX ad (tx n m)) hn];simp only[];rw[yG (mX ad (sc n m)) ops _ _ hm];rfl
   ·cases he
  ·rename_i hw
   obtain⟨x,hx,rfl⟩:=cG.1 he;obtain⟨m,hm⟩:=It ops _ _ hx;exact⟨m,by rw[hm];rfl⟩
  ·cases he
theorem agh{q:bP × au × Heap}(he:jo (cl ad) q=true):∃n,jo (bm ad n) q=true:=by
 unfold jo at he⊢;split at he
 ·rename_i hw;exact⟨0,by try simp only[hw]⟩
 ·rename_i hw
  try simp only[hw]
  split at he
  ·rename_i v H1 bS h1
   split at he
   ·rename_i v2 H2 dM h2
    obtain⟨n,hn⟩:=Is.1 h1;obtain⟨m,hm⟩:=Is.1 h2;refine⟨max n m,?_⟩;rw[u5 (mX ad (tx n m)) hn,u5 (mX ad (sc n m)) hm];exact he
   ·cases he
  ·cases he
 ·cases he
theorem Nj:∀(l:List (bP × au × Heap)),l.all (jo (cl ad))=true->∃n,l.all (jo (bm ad n))=true
 |[],_=>⟨0,rfl⟩
 |q::l,he=>by
  simp only[Na,ca]at he;obtain⟨n,hn⟩:=agh he.1;obtain⟨m,hm⟩:=Nj l he.2;refine⟨max n m,?_⟩;simp only[Na,ca];refine⟨Bt (mX ad (tx n m)) hn,?_⟩;rw[eV]at hm⊢;exact fun q bj=>Bt (mX ad (sc n m)) (hm q bj)
theorem agi{eh:List Nat}{ops:List bP}{wr:List Bool}{st:au}(he:rq (cl ad) eh ops wr st=true):∃n,rq (bm ad n) eh ops wr st=true:=by
 unfold rq at he;split at he
 ·rename_i cq ht
  simp only[ca]at he;obtain⟨n,hn⟩:=It _ _ _ ht;obtain⟨m,hm⟩:=Nj _ he.2;refine⟨max n m,?_⟩;unfold rq;rw[yG (mX ad (tx n m)) _ _ _ hn];simp only[ca];refine⟨he.1,?_⟩;rw[eV]at hm⊢;exact fun q bj=>Bt (mX ad (sc n m)) (hm q bj)
 ·cases he
theorem agj{eh:List Nat}{ops:List bP}{wr:List Bool}{st:au}(he:oO (cl ad) eh ops wr st=true):∃n,oO (bm ad n) eh ops wr st=true:=by
 unfold oO at he;simp only[kz]at he;rcases he with he|he
 ·obtain⟨n,hn⟩:=agi he
  exact⟨n,by unfold oO;rw[hn];rfl⟩
 ·split at he
  ·rename_i cq ht
   simp only[ca]at he;obtain⟨n,hn⟩:=It _ _ _ ht;obtain⟨m,hm⟩:=Nj _ he.2;refine⟨max n m,?_⟩;unfold oO;rw[yG (mX ad (tx n m)) _ _ _ hn];simp only[kz,ca];refine .inr ⟨he.1,?_⟩;rw[eV]at hm⊢;exact fun q bj=>Bt (mX ad (sc n m)) (hm q bj)
  ·cases he
theorem kW (ops:List bP)(eh:Option (List Nat))(st:au):dz ad (.region ops eh) st=match c5 (cl ad) ops {st with aG:=[]} []with
  |some (aX,wr)=>match eh with
   |none=>some (.normal,{aX with aG:=[]})
   |some b=>if rp b ops wr||oO (cl ad) b ops wr {st with aG:=[]}then some (.normal,{aX with aG:=[]})else none
  |none=>none:=by
 refine xn fun r=> ?_;rw[fV];constructor
 ·rintro⟨n,hn⟩
  simp only[exec,au.fT]at hn;split at hn
  ·rename_i cm wr h1
   rw[yF (DU n) _ _ _ _ h1];cases eh with
   |none=>exact hn
   |some b=>
    simp only at hn⊢;split at hn
    ·rename_i hb
     rw[if_pos]
     ·exact hn
     ·simp only[kz]at hb⊢
      exact hb.imp id (Ng (DU n))
    ·cases hn
  ·cases hn
 ·intro h
  split at h
  ·rename_i cm wr h1
   obtain⟨n,hn⟩:=Ni _ _ _ _ h1;cases eh with
   |none=>exact⟨n,by simp only[exec,au.fT];rw[hn];exact h⟩
   |some b=>
    simp only at h;split at h
    ·rename_i hb
     simp only[kz]at hb;rcases hb with hb|hb
     ·exact⟨n,by simp only[exec,au.fT];rw[hn];simp only[];rw[hb];exact h⟩
     ·obtain⟨m,hm⟩:=agj hb
      refine⟨max n m,?_⟩;simp only[exec,au.fT];rw[yF (mX ad (tx n m)) _ _ _ _ hn];simp only[];rw[Ng (mX ad (sc n m)) hm,Ic];exact h
    ·cases h
  ·cases h
theorem hR (a b:b8)(st:au):dz ad (.seq a b) st=match dz ad a st with
  |some (.normal,aX)=>dz ad b aX
  |r=>r:=by
 refine xn fun r=> ?_;rw[fV];constructor
 ·rintro⟨n,hn⟩
  simp only[exec,au.fT]at hn;split at hn
  ·rename_i cm h1
   rw[fV.2 ⟨n,h1⟩];exact fV.2 ⟨n,hn⟩
  ·rename_i bu
   rw[fV.2 ⟨n,hn⟩];split
   ·rename_i cm e;cases e;exact absurd hn (bu _)
   ·rfl
 ·intro h
  split at h
  ·rename_i cm h1
   obtain⟨n,hn⟩:=fV.1 h1;obtain⟨m,hm⟩:=fV.1 h;exact⟨max n m,by simp only[exec,au.fT];rw[u6 (tx n m) hn];exact u6 (sc n m) hm⟩
  ·rename_i bu
   obtain⟨n,hn⟩:=fV.1 h;refine⟨n,?_⟩;simp only[exec,au.fT];rw[hn];split
   ·rename_i cm e;cases e;exact absurd h (bu _)
   ·rfl
theorem mi (c:aj)(t e:b8)(st:au):dz ad (.cond c t e) st=match c.ai st.aG st.aw with
  | .bool true=>dz ad t st
  | .bool false=>dz ad e st
  | _=>none:=by
 refine xn fun r=> ?_;rw[fV];constructor
 ·rintro⟨n,hn⟩
  simp only[exec,au.fT]at hn;split at hn
  ·rename_i hc
   try simp only[hc]
   exact fV.2 ⟨n,hn⟩
  ·rename_i hc
   try simp only[hc]
   exact fV.2 ⟨n,hn⟩
  ·cases hn
 ·intro h
  split at h
  ·rename_i hc
   obtain⟨n,hn⟩:=fV.1 h;exact⟨n,by simp only[exec,hc];exact hn⟩
  ·rename_i hc
   obtain⟨n,hn⟩:=fV.1 h;exact⟨n,by simp only[exec,hc];exact hn⟩
  ·cases h
theorem mY (id:Nat)(c:b8)(st:au):dz ad (.block id c) st=match dz ad c st with
  |some (.exit tE,aX)=>if tE=id then some (.normal,aX)else some (.exit tE,aX)
  |r=>r:=by
 refine xn fun r=> ?_;rw[fV];constructor
 ·rintro⟨n,hn⟩
  simp only[exec,au.fT]at hn;split at hn
  ·rename_i h1
   rw[fV.2 ⟨n,h1⟩];exact hn
  ·rename_i bu
   rw[fV.2 ⟨n,hn⟩];split
   ·rename_i e;cases e;exact absurd hn (bu _ _)
   ·rfl
 ·intro h
  split at h
  ·rename_i h1
   obtain⟨n,hn⟩:=fV.1 h1;exact⟨n,by simp only[exec,au.fT];rw[hn];exact h⟩
  ·rename_i bu
   obtain⟨n,hn⟩:=fV.1 h;refine⟨n,?_⟩;simp only[exec,au.fT];rw[hn];split
   ·rename_i e;cases e;exact absurd h (bu _ _)
   ·rfl
theorem agk{f:au->Option (X × au)}{n m:Nat}{st:au}{r:X × au}(hle:n<=m)(h:iter f n st=some r):iter f m st=some r:=Iq (fun _ _ h=>h) n m st r hle h
theorem ru (c:b8)(st:au):dz ad (.loop c) st=match dz ad c st with
  |some (.normal,aX)=>dz ad (.loop c) aX
  |r=>r:=by
 refine xn fun r=> ?_;rw[fV];constructor
 ·rintro⟨n,hn⟩
  simp only[exec,au.fT]at hn;cases n with
  |zero=>cases hn
  |succ n=>
   simp only[iter]at hn;split at hn
   ·rename_i cm h1
    rw[fV.2 ⟨n+1,h1⟩];exact fV.2 ⟨n+1,by simp only[exec,au.fT];exact agk (DM n) hn⟩
   ·rename_i bu
    rw[fV.2 ⟨n+1,hn⟩];split
    ·rename_i e;cases e;exact absurd hn (bu _)
    ·rfl
 ·intro h
  split at h
  ·rename_i cm h1
   obtain⟨n,hn⟩:=fV.1 h1;obtain⟨m,hm⟩:=fV.1 h;simp only[exec,au.fT]at hm;refine⟨max n m+1,?_⟩;simp only[exec,iter];rw[u6 (show n<=max n m+1 by omega) hn];exact Iq (fun st r hr=>u6 (show m<=max n m+1 by omega) hr) m (max n m) _ _ (sc n m) hm
  ·rename_i bu
   obtain⟨n,hn⟩:=fV.1 h;refine⟨n+1,?_⟩;simp only[exec,iter];rw[u6 (DM n) hn];split
   ·rename_i e;cases e;exact absurd h (bu _)
   ·rfl
theorem T8 (f:aj)(ps:List Nat)(a b:b8)(st:au):dz ad (.rangeFunc f ps a b) st=
  if(DS st.H st.ro&&Bo (f.ai st.aG st.aw))=false then none else
  match cl ad (f.ai st.aG st.aw) [.yield st.H.length] (st.H++[.loop .ready .normal st.aw ps a b])with
  |some (_,H',low')=>match H'[st.H.length]? with
   |some (.loop ls tD _ _ _ _)=>if ls=.busy then none else some (tD,{st with H:=H'.set st.H.length .gone,low:=min st.low low'})
   | _=>none
  |none=>none:=by
 refine xn fun r=> ?_;rw[fV];constructor
 ·rintro⟨n,hn⟩
  simp only[exec,au.fT]at hn;split at hn
  ·cases hn
  ·rename_i hc
   rw[if_neg hc];split at hn
   ·rename_i h1
    rw[DU n _ _ _ _ h1];exact hn
   ·cases hn
 ·intro h
  split at h
  ·cases h
  ·rename_i hc
   split at h
   ·rename_i h1
    obtain⟨n,hn⟩:=sq.1 h1;exact⟨n,by simp only[exec,au.fT];rw[if_neg hc,hn];exact h⟩
   ·cases h
theorem ny (i:Nat)(first caps args:List V)(H:Heap):cl ad (.fn i first caps) args H=match ad i with
  |some (.code fn)=>gu (dz ad) fn (first++args++caps) H
  |some (.ext spec)=>if cx (first++args++caps)then(spec (first++args++caps)).map fun v=>(v,H,H.length)else none
  |some (.xk spec)=>Il spec (first++args++caps) H
  |none=>none:=by
 refine xn fun r=> ?_;rw[sq];constructor
 ·rintro⟨n,hn⟩
  cases n with
  |zero=>simp[bm]at hn
  |succ n=>
   simp only[bm,qx]at hn;split at hn
   ·rename_i h1;try simp only[h1]
    exact Ir (ex':=dz ad) (fun c st r h=>fV.2 ⟨n,h⟩) hn
   ·rename_i h1;try simp only[h1]
    exact hn
   ·rename_i h1;try simp only[h1]
    exact hn
   ·cases hn
 ·intro h
  cases ht:ad i with
  |none=>rw[ht]at h;cases h
  |some F=>
   rw[ht]at h;cases F with
   |ext spec=>exact⟨1,by simp only[bm,qx,ht];exact h⟩
   |xk spec=>exact⟨1,by simp only[bm,qx,ht];exact h⟩
   |code fn=>
    simp only at h;unfold gu at h;split at h
    ·rename_i hl
     split at h
     ·rename_i st h1
      obtain⟨n,hn⟩:=fV.1 h1;exact⟨n+1,by simp only[bm,qx,ht,gu];rw[if_pos hl,hn];exact h⟩
     ·rename_i st h1
      obtain⟨n,hn⟩:=fV.1 h1;exact⟨n+1,by simp only[bm,qx,ht,gu];rw[if_pos hl,hn];exact h⟩
     ·cases h
    ·cases h
theorem agl (l:Nat)(args:List V)(H:Heap):cl ad (.yield l) args H=pI (dz ad) l args H:=by
 refine xn fun r=> ?_;rw[sq];constructor
 ·rintro⟨n,hn⟩
  cases n with
  |zero=>simp[bm]at hn
  |succ n=>exact T6 (fun c st r h=>fV.2 ⟨n,h⟩) hn
 ·intro h
  unfold pI at h;split at h
  ·rename_i hl
   split at h
   ·rename_i hlen
    split at h
    ·rename_i st h1
     split at h
     ·rename_i h2
      split at h
      ·rename_i av
       obtain⟨n,hn⟩:=fV.1 h1;obtain⟨m,hm⟩:=fV.1 av;refine⟨max n m+1,?_⟩;simp only[bm,qx,pI,hl,hlen,if_true];simp only[u6 (tx n m) hn,h2,u6 (sc n m) hm];exact h
      ·cases h
     ·cases h
    ·cases h
   ·cases h
  ·cases h
end Go.Abs
namespace Go.Abs
inductive Iu where
 |leaf
 |node (l:Iu) (k:Nat) (f:cb) (r:Iu)
def Iu.get:Iu->Nat->Option cb
 | .leaf,_=>none
 | .node l k f r,i=>bif Nat.blt i k then l.get i else bif Nat.blt k i then r.get i else some f
def hk (l:List (List V × V)):List V->Option V:=fun args=>match l with
 |[]=>none
 |(aU,v)::r=>bif nv args aU then some v else hk r args
def over (ad:Nat->Option cb)(k:Nat)(spec:List V->Option V):Nat->Option cb:=fun i=>bif Nat.beq i k then some (.ext spec)else ad i
def hq (ad:Nat->Option cb)(n i:Nat):List (List V × V)->Prop
 |[]=>True
 |(aU,v)::r=>(bQ v=true/\bm ad n (.fn i [] []) aU []=some (v,[],0))/\hq ad n i r
end Go.Abs
namespace Go.Abs.bZ
open Go Go.Abs
abbrev J (n:Int):V:=.int .i64 n
def T9:V:=.agg [J 36,.str [50],J 7,J 8,.aY]
def DV:V:=.list 5 [T9]
def Nk:V:=.agg [J 3,.str [115],J 0,J 9,DV]
def Ua:V:=.agg [J 35,.str [115],J 24,J 25,.aY]
def DW:V:=.list 5 [Ua]
def Nl:V:=.agg [J 11,.str [97],J 21,J 25,DW]
def Bu:V:=.list 5 [Nl]
def Ub:V:=.agg [J 10,.str [],J 20,J 26,Bu]
def DX:V:=.list 5 [Ub]
def Nn:V:=.agg [J 4,.str [114],J 10,J 27,DX]
def Uc:V:=.agg [J 18,.str [],J 48,J 50,.aY]
def Ud:V:=.agg [J 37,.str [49],J 54,J 55,.aY]
def Bv:V:=.list 5 [Ud]
def Ue:V:=.agg [J 19,.str [60,61],J 51,J 55,Bv]
def DY:V:=.list 5 [Uc,Ue]
def Uf:V:=.agg [J 15,.str [114],J 41,J 55,DY]
def DZ:V:=.list 5 [Uf]
def Np:V:=.agg [J 8,.str [105],J 28,J 56,DZ]
def Ug:V:=.agg [J 35,.str [115],J 72,J 73,.aY]
def D0:V:=.list 5 [Ug]
def Nq:V:=.agg [J 24,.str [112],J 69,J 73,D0]
def Bw:V:=.list 5 [Nq]
def Uh:V:=.agg [J 23,.str [],J 68,J 74,Bw]
def Ui:V:=.agg [J 1,.str [],J 74,J 74,.aY]
def Nr:V:=.agg [J 35,.str [112],J 86,J 87,.aY]
def D1:V:=.list 5 [Nr]
def Uj:V:=.agg [J 22,.str [114],J 84,J 88,D1]
def D2:V:=.list 5 [Uj]
def Ns:V:=.agg [J 28,.str [],J 77,J 89,D2]
def Bx:V:=.list 5 [Ns]
def Iv:V:=.agg [J 25,.str [],J 75,J 91,Bx]
def D3:V:=.list 5 [Uh,Ui,Iv]
def Nt:V:=.agg [J 9,.str [111],J 57,J 91,D3]
def Uk:V:=.agg [J 23,.str [],J 103,J 105,.aY]
def Ul:V:=.agg [J 1,.str [],J 105,J 105,.aY]
def Nu:V:=.agg [J 1,.str [],J 112,J 112,.aY]
def Um:V:=.agg [J 36,.str [48],J 115,J 116,.aY]
def Iw:V:=.list 5 [Um]
def Un:V:=.agg [J 22,.str [114],J 113,J 117,Iw]
def Ix:V:=.list 5 [Nu,Nu,Un]
def Uo:V:=.agg [J 21,.str [43],J 113,J 117,Ix]
def Iy:V:=.list 5 [Uo]
def Up:V:=.agg [J 20,.str [],J 113,J 117,Iy]
def Nv:V:=.agg [J 36,.str [49],J 121,J 122,.aY]
def Iz:V:=.list 5 [Nv]
def Uq:V:=.agg [J 19,.str [62,61],J 118,J 122,Iz]
def IA:V:=.list 5 [Up,Uq]
def Ur:V:=.agg [J 27,.str [],J 108,J 123,IA]
def Us:V:=.agg [J 36,.str [48],J 133,J 134,.aY]
def IB:V:=.list 5 [Us]
def Ut:V:=.agg [J 22,.str [114],J 131,J 135,IB]
def IC:V:=.list 5 [Ut]
def Uu:V:=.agg [J 29,.str [],J 124,J 136,IC]
def Uv:V:=.agg [J 36,.str [49],J 146,J 147,.aY]
def ID:V:=.list 5 [Uv]
def Uw:V:=.agg [J 22,.str [114],J 144,J 148,ID]
def IE:V:=.list 5 [Uw]
def Ux:V:=.agg [J 28,.str [],J 137,J 149,IE]
def IG:V:=.list 5 [Ur,Uu,Ux]
def Nw:V:=.agg [J 25,.str [],J 106,J 151,IG]
def IH:V:=.list 5 [Uk,Ul,Nw]
def Uy:V:=.agg [J 9,.str [107],J 92,J 151,IH]
def Bz:V:=.list 5 [Nk,Nn,Np,Nt,Uy]
def tG:V:=.agg [J 2,.str [],J 0,J 151,Bz]
def agm:V:=.agg [.str [115],J 2]
def Uz:V:=.list 2 [agm]
def agn:V:=.agg [.str [114],J 0,.list 1 [J 0],J 0,J 1,J 0]
def Nx:V:=.list 6 [agn]
def ago:V:=.agg [.str [105],J 7]
def agp:V:=.list 2 [ago]
def agq:V:=.agg [.str [112],J 0,J 0,J 0]
def agr:V:=.list 4 [agq]
def ags:V:=.agg [.str [111],.bool false,agr,J 12]
def agt:V:=.agg [.str [107],.bool false,.aY,J 21]
def agu:V:=.list 4 [ags,agt]
def rv:V:=.agg [J 2,.str [],J 0,J 151,Bz,Uz,Nx,agp,agu]
def D4:V:=.str [115,111,114,116,32,115,32,50,59,32,114,101,108,97,116,105,111,110,32,114,40,97,58,32,115,41,59,32,105,110,118,97,114,105,97,110,116,32,105,58,32,99,111,117,110,116,32,114,40,41,32,60,61,32,49,59,32,111,112,101,114,97,116,105,111,110,32,111,40,112,58,32,115,41,32,123,32,105,110,115,101,114,116,32,114,40,112,41,59,32,125,32,111,112,101,114,97,116,105,111,110,32,107,40,41,32,123,32,104,111,108,100,32,114,40,48,41,32,62,61,32,49,59,32,100,101,108,101,116,101,32,114,40,48,41,59,32,105,110,115,101,114,116,32,114,40,49,41,59,32,125]
def UA:V:=.agg [J 0,J (-1)]
def D5:V:=.list 2 [UA]
def yH:V:=.agg [J 0,J 0,D5,J 0,J 0,J 0]
def UB:V:=.agg [J 0,J 1]
def D6:V:=.list 2 [UB]
def yI:V:=.agg [J 0,J 0,D6,J 1,J 0,J 0]
def agv:V:=.agg [J 1,J (-1)]
def Ny:V:=.list 2 [agv]
def BA:V:=.agg [J 0,J 0,Ny,J 0,J 0,J 0]
def Nz:V:=.agg [J 1,J 1]
def D7:V:=.list 2 [Nz]
def BB:V:=.agg [J 0,J 0,D7,J 1,J 0,J 0]
def NA:V:=.list 2 [UB,Nz]
def D8:V:=.agg [J 0,J 1,NA,J 1,J 0,J 0]
def UC:V:=.list 6 [yH,yI,BA,BB,D8]
def agw:V:=.list 1 [.str [114],.str [105]]
def agx:V:=.agg [.str [111],.bool false,.list 1 [J 0]]
def agy:V:=.agg [.str [107],.bool false,.aY]
def agz:V:=.list 3 [agx,agy]
def agA:V:=.agg [J 0,.list 1 [J 0],D6,.aY,.aY]
def agB:V:=.agg [J 0,.list 1 [J 1],D7,.aY,.aY]
def UD:V:=.list 2 [UA,Nz]
def agC:V:=.agg [D5,J (-1)]
def UE:V:=.list 2 [agC]
def agD:V:=.agg [J 1,.aY,UD,UE,.aY]
def agE:V:=.list 5 [agA,agB,agD]
def mZ:V:=.agg [.list 1 [J 2],Nx,agw,UC,agz,agE,.aY]
def pL:V:=.list 1 [J 0,J 0]
def qz:V:=.list 1 [J 1,J 0]
def D9:V:=.list 1 [J 1,J 1]
def NB:V:=.agg [J 0,J 0,D5,J (-1),J 0,J 0]
def na:V:=.list 1 [J 0,J 1]
def UF:V:=.list 1 [J 2,J 0]
def II:V:=.list 1 [J 0,J 2]
def IJ:V:=.agg [J 0,J 0]
def IK:V:=.agg [J 2,J 4]
def UG:V:=.bd [na,IJ]
def IL:V:=.agg [J 1,J 0]
def UH:V:=.agg [D7,.aY,.aY]
def UI:V:=.agg [UD,UE,.aY]
end Go.Abs.bZ
namespace Go.Abs.bZ
open Go Go.Abs
def IM:List V->Option V
 |[.str s]=>if s.all (fun b=>b<128)&&decide (s.length<4294967281)then some (if(Lib.fields s).isEmpty then .emp else .list 1 ((Lib.fields s).map .str))else none
 | _=>none
def NC:List V->Option V
 |[.str s]=>if s.length<=18 then(Lib.atoi s).map fun n=>.bd [.int .i64 n,.jL]else none
 | _=>none
def IP:List V->Option V
 |[.str s,.int .u8 c]=>some (.int .i64 (Lib.indexByte s (UInt8.ofNat c.toNat)))
 | _=>none
def strs:List V->Option (List (List UInt8))
 |[]=>some []
 | .str s::r=>(strs r).map (s:: ·)
 | _=>none
def Ea:List V->Option V
 |[.aY,.str _]=>some (.str [])
 |[.list es ds,.str sep]=>match strs ds with
  |some l=>if es=1/\l≠[]/\l.length<=4096/\(Lib.join l sep).length<=1000000 then some (.str (Lib.join l sep))else none
  |none=>none
 | _=>none
def Eb:List V->Option V
 |[.int .i64 n]=>if 0<=n/\n<10 then some (.str [UInt8.ofNat (48+n.toNat)])else if -9223372036854775808<=n/\n<=9223372036854775807 then some (.str (Lib.itoa n))else none
 | _=>none
def ND:List V->Option V
 |[.int .u64 n]=>if n=0 then some (.int .i64 0)else if n=1 then some (.int .i64 1)else if n=2 then some (.int .i64 2)else none
 | _=>none
def NF:List V->Option V
 |[.str s,.str [c]]=>if c<128 then some (.str (s.dropWhile (· ==c)))else none
 | _=>none
def UJ:List (List V × V):=[([D5],D5),([D6],D6),([Ny],Ny),([D7],D7),([NA],NA),([.list 2 [.agg [J 0,J (-1)],.agg [J 1,J 1]]],.list 2 [.agg [J 0,J (-1)],.agg [J 1,J 1]])]
def UK:List (List V × V):=[([rv,J 0,.list 1 [J 0]],.bd [.agg [D6,.aY,.aY],J 0]),([rv,J 0,.list 1 [J 1]],.bd [UH,J 0]),([rv,J 1,.aY],.bd [UI,J 0])]
end Go.Abs.bZ
namespace Go.Abs
open Go
structure Home where
 b:Nat
 tag:Nat
 fB:Nat
 ej:Bool
structure cc where
 β:Nat->Option Home
 I:Nat->Prop
def iv (w:World)(b o:Nat)(vals:List Value):Prop:=
 ∀(j:Nat) (x:Value),vals[j]? =some x->w.cell? ⟨b,o+j,none⟩=some x
mutual
inductive fW (w:World) (I:Nat->Prop):V->Value->Prop
 |bool (b:Bool):fW w I (.bool b) (.bool b)
 |int (k:IntKind) (n:Int):fW w I (.int k n) (.int k n)
 |str (s:List UInt8):fW w I (.str s) (.string ⟨⟨s⟩⟩)
 |aY:fW w I .aY (.slice none 0 0)
 |emp (a:Addr):fW w I .emp (.slice (some a) 0 0)
 |u7 (es:Nat) (a:Addr) (cap:Nat):fW w I (.list es []) (.slice (some a) 0 cap)
 |list (es:Nat) (ds:List V) (b o cap:Nat) (vals:List Value) (a7:I b) (hc:iv w b o vals) (hu:∀d∈ds,(aF d).length=es)
  (hr:dn w I (ds.flatMap aF) vals) (hl:ds.length<=cap):fW w I (.list es ds) (.slice (some ⟨b,o,none⟩) ds.length cap)
 |iY:fW w I .iY (.pointer none)
 |h7:fW w I .h7 (.map none)
 |kA:fW w I .kA .nilFunc
 |jL:fW w I .jL .nilIface
 |agg (vs:List V) (vals:List Value) (hr:dn w I vs vals):fW w I (.agg vs) (.agg ⟨vals⟩)
 |bd (vs:List V) (vals:List Value) (hr:dn w I vs vals):fW w I (.bd vs) (.tuple ⟨vals⟩)
 |iface (t:Nat) (v:V) (x:Value) (hr:fW w I v x):fW w I (.iface t v) (.iface t x)
 |fn (i:Nat) (fs cs:List V) (xs cL:List Value) (ae:dn w I fs xs) (hc:dn w I cs cL):fW w I (.fn i fs cs) (.func (.func i) ⟨xs⟩ ⟨cL⟩)
inductive dn (w:World) (I:Nat->Prop):List V->List Value->Prop
 |nil:dn w I [] []
 |cons (v:V) (x:Value) (vs:List V) (xs:List Value) (h:fW w I v x) (hs:dn w I vs xs):dn w I (v::vs) (x::xs)
end
section
mutual
inductive bq (fid:Nat->Nat) (G:cc) (w:World):V->Value->Prop
 |p (v:V) (x:Value) (h:fW w G.I v x):bq fid G w v x
 |ptr (l o:Nat) (h:Home) (hb:G.β l=some h) (ht:h.tag=0):bq fid G w (.ptr l o) (.pointer (some ⟨h.b,o,none⟩))
 |hg (l es i f tag:Nat) (h:Home) (a:Addr) (hb:G.β l=some h) (hle:tag<=h.tag) (ao:h.tag=tag->a=⟨h.b,i*es+f,none⟩):
  bq fid G w (.hg l es i f tag) (.pointer (some a))
 |dW (vs:List V) (f b o:Nat) (vals:List Value) (a7:G.I b) (hc:iv w b o vals) (hr:dn w G.I vs vals):bq fid G w (.dW vs f) (.pointer (some ⟨b,o+f,none⟩))
 |b7 (l es off len tag:Nat) (h:Home) (a:Addr) (n cap:Nat) (hb:G.β l=some h) (hle:tag<=h.tag)
  (ao:h.tag=tag->a=⟨h.b,off*es,none⟩/\n=len/\(off+cap)*es<=h.fB/\len<=cap):bq fid G w (.b7 l es off len tag) (.slice (some a) n cap)
 |map (l:Nat) (h:Home) (hb:G.β l=some h) (ht:h.tag=0):bq fid G w (.map l) (.map (some h.b))
 |fn (i:Nat) (fs cs:List V) (xs cL:List Value) (ae:bk fid G w fs xs) (hc:bk fid G w cs cL):bq fid G w (.fn i fs cs) (.func (.func i) ⟨xs⟩ ⟨cL⟩)
 |yield (l:Nat) (h:Home) (hb:G.β l=some h) (ht:h.tag=0):bq fid G w (.yield l) (.func (.yield h.b) #[] #[])
 |agg (vs:List V) (vals:List Value) (hr:bk fid G w vs vals):bq fid G w (.agg vs) (.agg ⟨vals⟩)
 |bd (vs:List V) (vals:List Value) (hr:bk fid G w vs vals):bq fid G w (.bd vs) (.tuple ⟨vals⟩)
 |iface (t:Nat) (v:V) (x:Value) (hr:bq fid G w v x):bq fid G w (.iface t v) (.iface t x)
 |undef (x:Value):bq fid G w .undef x
inductive bk (fid:Nat->Nat) (G:cc) (w:World):List V->List Value->Prop
 |nil:bk fid G w [] []
 |cons (v:V) (x:Value) (vs:List V) (xs:List Value) (h:bq fid G w v x) (hs:bk fid G w vs xs):bk fid G w (v::vs) (x::xs)
end
end
variable{fid:Nat->Nat}{w w':World}{G G':cc}{I ry:Nat->Prop}
theorem NG{b:Nat}(h:w'.heap[b]? =w.heap[b]?)(o:Nat):w'.cell? ⟨b,o,none⟩=w.cell? ⟨b,o,none⟩:=by
 simp[World.cell?,h]
theorem iv.ey{b o:Nat}{vals:List Value}(h:iv w b o vals)(hb:w'.heap[b]? =w.heap[b]?):iv w' b o vals:=
 fun j x hx=>by rw[NG hb];exact h j x hx
mutual
theorem fW.mono (a7:∀b,I b->ry b/\w'.heap[b]? =w.heap[b]?):∀{v:V} {x:Value},fW w I v x->fW w' ry v x
 | _,_,.bool b=>.bool b
 | _,_,.int k n=>.int k n
 | _,_,.str s=>.str s
 | _,_,.aY=>.aY
 | _,_,.emp a=>.emp a
 | _,_,.u7 es a cap=>.u7 es a cap
 | _,_,.list es ds b o cap vals h hc hu hr hl=>.list es ds b o cap vals (a7 b h).1 (hc.ey (a7 b h).2) hu (dn.mono a7 hr) hl
 | _,_,.iY=>.iY
 | _,_,.h7=>.h7
 | _,_,.kA=>.kA
 | _,_,.jL=>.jL
 | _,_,.agg vs vals hr=>.agg vs vals (dn.mono a7 hr)
 | _,_,.bd vs vals hr=>.bd vs vals (dn.mono a7 hr)
 | _,_,.iface t v x hr=>.iface t v x (fW.mono a7 hr)
 | _,_,.fn i fs cs xs cL ae hc=>.fn i fs cs xs cL (dn.mono a7 ae) (dn.mono a7 hc)
theorem dn.mono (a7:∀b,I b->ry b/\w'.heap[b]? =w.heap[b]?):∀{vs:List V} {xs:List Value},dn w I vs xs->dn w' ry vs xs
 | _,_,.nil=>.nil
 | _,_,.cons v x vs xs h hs=>.cons v x vs xs (fW.mono a7 h) (dn.mono a7 hs)
end
def mj (β agF:Nat->Option Home):Prop:=
 ∀l h,β l=some h->∃h',agF l=some h'/\h.tag<=h'.tag/\(h.tag=0->h'.tag=0)/\(h'.tag=h.tag->h'.b=h.b/\h'.fB=h.fB)/\(h.ej=true->h'=h)
theorem mj.refl (β:Nat->Option Home):mj β β:=fun _ h hb=>⟨h,hb,aM _,id,fun _=>⟨rfl,rfl⟩,fun _=>rfl⟩
theorem mj.trans{a b c:Nat->Option Home}(h:mj a b)(k:mj b c):mj a c:=by
 intro l h₀ hb;obtain⟨h₁,agG,agH,agI,m₁,agJ⟩:=h l h₀ hb;obtain⟨h₂,NH,agK,agL,m₂,agM⟩:=k l h₁ agG;refine⟨h₂,NH,dc agH agK,fun z=>agL (agI z),fun ht=> ?_,fun f=> ?_⟩
 ·have e:h₁.tag=h₀.tag:=by omega
  have e':h₂.tag=h₁.tag:=by omega
  exact⟨(m₂ e').1.trans (m₁ e).1,(m₂ e').2.trans (m₁ e).2⟩
 ·have:=agJ f;subst this;exact agM f
mutual
theorem bq.mono (fo:mj G.β G'.β)(a7:∀b,G.I b->G'.I b/\w'.heap[b]? =w.heap[b]?):∀{v:V} {x:Value},bq fid G w v x->bq fid G' w' v x
 | _,_,.p v x h=>.p v x (fW.mono a7 h)
 | _,_,.ptr l o h hb ht=>by
   obtain⟨h',e,-,z,m,-⟩:=fo l h hb;have:=(m ((z ht).trans ht.symm)).1;rw[<-this];exact .ptr l o h' e (z ht)
 | _,_,.hg l es i f tag h a hb hle ao=>by
   obtain⟨h',e,t,z,m,-⟩:=fo l h hb;refine .hg l es i f tag h' a e (dc hle t) (fun hx=> ?_);have ht:h'.tag=h.tag:=by omega
   rw[(m ht).1];exact ao (by omega)
 | _,_,.dW vs f b o vals h hc hr=>.dW vs f b o vals (a7 b h).1 (hc.ey (a7 b h).2) (dn.mono a7 hr)
 | _,_,.b7 l es off len tag h a n cap hb hle ao=>by
   obtain⟨h',e,t,z,m,-⟩:=fo l h hb;refine .b7 l es off len tag h' a n cap e (dc hle t) (fun hx=> ?_);have ht:h'.tag=h.tag:=by omega
   rw[(m ht).1,(m ht).2];exact ao (by omega)
 | _,_,.map l h hb ht=>by
   obtain⟨h',e,-,z,m,-⟩:=fo l h hb;have:=(m ((z ht).trans ht.symm)).1;rw[<-this];exact .map l h' e (z ht)
 | _,_,.fn i fs cs xs cL ae hc=>.fn i fs cs xs cL (bk.mono fo a7 ae) (bk.mono fo a7 hc)
 | _,_,.yield l h hb ht=>by
   obtain⟨h',e,-,z,m,-⟩:=fo l h hb;have:=(m ((z ht).trans ht.symm)).1;rw[<-this];exact .yield l h' e (z ht)
 | _,_,.agg vs vals hr=>.agg vs vals (bk.mono fo a7 hr)
 | _,_,.bd vs vals hr=>.bd vs vals (bk.mono fo a7 hr)
 | _,_,.iface t v x hr=>.iface t v x (bq.mono fo a7 hr)
 | _,_,.undef x=>.undef x
theorem bk.mono (fo:mj G.β G'.β)(a7:∀b,G.I b->G'.I b/\w'.heap[b]? =w.heap[b]?):∀{vs:List V} {xs:List Value},bk fid G w vs xs->bk fid G' w' vs xs
 | _,_,.nil=>.nil
 | _,_,.cons v x vs xs h hs=>.cons v x vs xs (bq.mono fo a7 h) (bk.mono fo a7 hs)
end
mutual
theorem bq.restrict{n:Nat}(fo:∀l h,l<n->G.β l=some h->∃h',G'.β l=some h'/\h'=h)(a7:∀b,G.I b->G'.I b/\w'.heap[b]? =w.heap[b]?):
  ∀{v:V} {x:Value},bq fid G w v x->old n v=true\/(bQ v=true)->bq fid G' w' v x
 | _,_,.p v x h,_=>.p v x (fW.mono a7 h)
 | _,_,.ptr l o h hb ht,ho=>by
   obtain⟨h',e,rfl⟩:=fo l h (by simpa[old,bQ]using ho) hb;exact .ptr l o _ e ht
 | _,_,.hg l es i f tag h a hb hle ao,ho=>by
   obtain⟨h',e,rfl⟩:=fo l h (by simpa[old,bQ]using ho) hb;exact .hg l es i f tag _ a e hle ao
 | _,_,.dW vs f b o vals h hc hr,_=>.dW vs f b o vals (a7 b h).1 (hc.ey (a7 b h).2) (dn.mono a7 hr)
 | _,_,.b7 l es off len tag h a n cap hb hle ao,ho=>by
   obtain⟨h',e,rfl⟩:=fo l h (by simpa[old,bQ]using ho) hb;exact .b7 l es off len tag _ a n cap e hle ao
 | _,_,.map l h hb ht,ho=>by
   obtain⟨h',e,rfl⟩:=fo l h (by simpa[old,bQ]using ho) hb;exact .map l _ e ht
 | _,_,.fn i fs cs xs cL ae hc,ho=>by
   simp only[old,bQ,ca]at ho;exact .fn i fs cs xs cL (bk.restrict fo a7 ae (ho.imp And.left And.left)) (bk.restrict fo a7 hc (ho.imp And.right And.right))
 | _,_,.yield l h hb ht,ho=>by
   obtain⟨h',e,rfl⟩:=fo l h (by simpa[old,bQ]using ho) hb;exact .yield l _ e ht
 | _,_,.agg vs vals hr,ho=>.agg vs vals (bk.restrict fo a7 hr (by simpa[old,bQ]using ho))
 | _,_,.bd vs vals hr,ho=>.bd vs vals (bk.restrict fo a7 hr (by simpa[old,bQ]using ho))
 | _,_,.iface t v x hr,ho=>.iface t v x (bq.restrict fo a7 hr (by simpa[old,bQ]using ho))
 | _,_,.undef x,_=>.undef x
theorem bk.restrict{n:Nat}(fo:∀l h,l<n->G.β l=some h->∃h',G'.β l=some h'/\h'=h)(a7:∀b,G.I b->G'.I b/\w'.heap[b]? =w.heap[b]?):
  ∀{vs:List V} {xs:List Value},bk fid G w vs xs->olds n vs=true\/cx vs=true->bk fid G' w' vs xs
 | _,_,.nil,_=>.nil
 | _,_,.cons v x vs xs h hs,ho=>by
   have h1:old n v=true\/bQ v=true:=by rcases ho with ho|ho<;>simp_all [olds,cx]
   have h2:olds n vs=true\/cx vs=true:=by rcases ho with ho|ho<;>simp_all [olds,cx]
   exact .cons v x vs xs (bq.restrict fo a7 h h1) (bk.restrict fo a7 hs h2)
end
mutual
theorem bq.pM:∀{v:V} {x:Value},bq fid G w v x->bQ v=true->fW w G.I v x
 | _,_,.p v x h,_=>h
 | _,_,.agg vs vals hr,ho=>.agg vs vals (bk.pM hr (by simpa[bQ]using ho))
 | _,_,.bd vs vals hr,ho=>.bd vs vals (bk.pM hr (by simpa[bQ]using ho))
 | _,_,.iface t v x hr,ho=>.iface t v x (bq.pM hr (by simpa[bQ]using ho))
 | _,_,.fn i fs cs xs cL ae hc,ho=>by
   simp only[bQ,ca]at ho;exact .fn i fs cs xs cL (bk.pM ae ho.1) (bk.pM hc ho.2)
 | _,_,.ptr ..,ho| _,_,.hg ..,ho| _,_,.dW ..,ho| _,_,.b7 ..,ho| _,_,.map ..,ho| _,_,.yield ..,ho| _,_,.undef ..,ho=>by simp[bQ]at ho
theorem bk.pM:∀{vs:List V} {xs:List Value},bk fid G w vs xs->cx vs=true->dn w G.I vs xs
 | _,_,.nil,_=>.nil
 | _,_,.cons v x vs xs h hs,ho=>by
   simp only[cx,ca]at ho;exact .cons v x vs xs (bq.pM h ho.1) (bk.pM hs ho.2)
end
theorem dn.oP:∀{vs:List V} {xs:List Value},dn w G.I vs xs->bk fid G w vs xs
 | _,_,.nil=>.nil
 | _,_,.cons v x vs xs h hs=>.cons v x vs xs (.p v x h) (dn.oP hs)
mutual
theorem fW.flat:∀{v:V} {x:Value},fW w I v x->Abs.flat v=true->fW w' ry v x
 | _,_,.bool b,_=>.bool b
 | _,_,.int k n,_=>.int k n
 | _,_,.str s,_=>.str s
 | _,_,.aY,_=>.aY
 | _,_,.emp a,_=>.emp a
 | _,_,.iY,_=>.iY
 | _,_,.h7,_=>.h7
 | _,_,.kA,_=>.kA
 | _,_,.jL,_=>.jL
 | _,_,.agg vs vals hr,h=>.agg vs vals (dn.flat hr (by simpa[Abs.flat]using h))
 | _,_,.bd vs vals hr,h=>.bd vs vals (dn.flat hr (by simpa[Abs.flat]using h))
 | _,_,.u7 ..,h| _,_,.list ..,h| _,_,.iface ..,h| _,_,.fn ..,h=>by simp[Abs.flat]at h
theorem dn.flat:∀{vs:List V} {xs:List Value},dn w I vs xs->u2 vs=true->dn w' ry vs xs
 | _,_,.nil,_=>.nil
 | _,_,.cons v x vs xs h hs,ho=>by
   simp only[u2,ca]at ho;exact .cons v x vs xs (fW.flat h ho.1) (dn.flat hs ho.2)
end
mutual
theorem UL:∀{v:V},Abs.flat v=true->bQ v=true
 | .bool _,_| .int _ _,_| .str _,_| .aY,_| .emp,_| .iY,_| .h7,_| .kA,_| .jL,_=>rfl
 | .agg vs,h=>by simp only[bQ];exact NI (by simpa[Abs.flat]using h)
 | .bd vs,h=>by simp only[bQ];exact NI (by simpa[Abs.flat]using h)
 | .list ..,h| .ptr ..,h| .hg ..,h| .dW ..,h| .b7 ..,h| .map ..,h| .fn ..,h| .yield ..,h| .iface ..,h| .undef,h=>by simp[Abs.flat]at h
theorem NI:∀{vs:List V},u2 vs=true->cx vs=true
 |[],_=>rfl
 |v::vs,h=>by
  simp only[u2,ca]at h;simp only[cx,ca];exact⟨UL h.1,NI h.2⟩
end
theorem bq.flat{v:V}{x:Value}(h:bq fid G w v x)(ae:Abs.flat v=true):bq fid G' w' v x:=.p _ _ ((h.pM (UL ae)).flat ae)
theorem bk.length:∀{vs:List V} {xs:List Value},bk fid G w vs xs->xs.length=vs.length
 | _,_,.nil=>rfl
 | _,_,.cons _ _ _ _ _ hs=>by simp[bk.length hs]
theorem bk.get:∀{vs:List V} {xs:List Value},bk fid G w vs xs->∀{i:Nat} {v:V},vs[i]? =some v->∃x,xs[i]? =some x/\bq fid G w v x
 | _,_,.nil,i,v,h=>by simp at h
 | _,_,.cons v x vs xs h hs,0,u,e=>by simp at e;subst e;exact⟨x,by simp,h⟩
 | _,_,.cons v x vs xs h hs,i+1,u,e=>by simpa using bk.get hs (by simpa using e)
theorem bk.append:∀{vs us:List V} {xs cL:List Value},bk fid G w vs xs->bk fid G w us cL->bk fid G w (vs++us) (xs++cL)
 | _,_,_,_,.nil,k=>k
 | _,_,_,_,.cons v x vs xs h hs,k=>.cons v x _ _ h (bk.append hs k)
theorem bk.split:∀{vs us:List V} {dj:List Value},bk fid G w (vs++us) dj->∃xs cL,dj=xs++cL/\bk fid G w vs xs/\bk fid G w us cL
 |[],us,dj,h=>⟨[],dj,rfl,.nil,h⟩
 |v::vs,us,_,.cons _ x _ xs h hs=>by
  obtain⟨aU,aJ,rfl,h1,h2⟩:=bk.split (vs:=vs) hs;exact⟨x::aU,aJ,rfl,.cons v x vs aU h h1,h2⟩
theorem bk.set:∀{vs:List V} {xs:List Value},bk fid G w vs xs->∀(i:Nat) {v:V} {x:Value},bq fid G w v x->bk fid G w (vs.set i v) (xs.set i x)
 | _,_,.nil,_,_,_,_=>.nil
 | _,_,.cons v x vs xs h hs,0,u,y,k=>.cons u y vs xs k hs
 | _,_,.cons v x vs xs h hs,i+1,u,y,k=>.cons v x _ _ h (bk.set hs i k)
theorem bk.drop:∀{vs:List V} {xs:List Value},bk fid G w vs xs->∀(n:Nat),bk fid G w (vs.drop n) (xs.drop n)
 | _,_,h,0=>by simpa using h
 | _,_,.nil,n+1=>.nil
 | _,_,.cons v x vs xs h hs,n+1=>by simpa using bk.drop hs n
theorem bk.take:∀{vs:List V} {xs:List Value},bk fid G w vs xs->∀(n:Nat),bk fid G w (vs.take n) (xs.take n)
 | _,_,h,0=>by simpa using bk.nil
 | _,_,.nil,n+1=>.nil
 | _,_,.cons v x vs xs h hs,n+1=>.cons v x _ _ h (bk.take hs n)
theorem bk.agN{vs:List V}{xs:List Value}(hl:xs.length=vs.length)(h:∀(i:Nat) v x,vs[i]? =some v->xs[i]? =some x->bq fid G w v x):bk fid G w vs xs:=by
 induction vs generalizing xs with
 |nil=>cases xs with
  |nil=>exact .nil
  |cons=>simp at hl
 |cons v vs ih=>cases xs with
  |nil=>simp at hl
  |cons x xs=>exact .cons v x vs xs (h 0 v x rfl rfl) (ih (by simpa using hl) (fun i v x a b=>h (i+1) v x (by simpa using a) (by simpa using b)))
theorem dn.drop:∀{vs:List V} {xs:List Value},dn w I vs xs->∀(n:Nat),dn w I (vs.drop n) (xs.drop n)
 | _,_,h,0=>by simpa using h
 | _,_,.nil,n+1=>.nil
 | _,_,.cons _ _ _ _ _ hs,n+1=>by simpa using dn.drop hs n
theorem dn.take:∀{vs:List V} {xs:List Value},dn w I vs xs->∀(n:Nat),dn w I (vs.take n) (xs.take n)
 | _,_,_,0=>by simpa using dn.nil
 | _,_,.nil,n+1=>.nil
 | _,_,.cons v x _ _ h hs,n+1=>.cons v x _ _ h (dn.take hs n)
theorem dn.length{vs:List V}{xs:List Value}(h:dn w I vs xs):xs.length=vs.length:=bk.length (fid:=id) (G:=⟨fun _=>none,I⟩) (dn.oP h)
def NJ:X->Option Code->Prop
 | .normal,none=>True
 | .exit id,some (.exit tE)=>tE=id
 | .ret,some .ret=>True
 | _,_=>False
def oQ (es:Array MapEntry)(bT:Nat):Prop:=(∀x∈es.toList,x.born<bT)/\(es.toList.map (·.born)).Nodup
def Ec (C:Ctx)(w:World)(b:Nat)(vs:List V):Prop:=∀v,vs=[.undef,v]->∃c e,w.heap[b]? =some (.cells c e (0,0))/\C.Io=some e/\(c[0]? =some (.pointer none)\/c[0]? =some (.pointer (some ⟨b,0,none⟩)))
def jQ (C:Ctx)(fid:Nat->Nat)(G:cc)(w:World)(h:Home):cD->Prop
 | .cells vs=>(h.tag=0/\Ec C w h.b vs)/\h.ej=false/\∃c e,w.heap[h.b]? =some (.cells c e (0,0))/\bk fid G w vs c.toList
 | .row es ds ej=>h.tag=ds.length/\0<ds.length/\h.ej=ej/\0<es/\(∀d∈ds,(aF d).length=es)/\
  ∃c e vals rest,w.heap[h.b]? =some (.cells c e (0,0))/\h.fB=c.size/\c.toList=vals++rest/\bk fid G w (ds.flatMap aF) vals
 | .map bs=>h.tag=0/\h.ej=false/\∃es bT,w.heap[h.b]? =some (.map es bT)/\
  bk fid G w (bs.map (·.1)) (es.toList.map (·.key))/\bk fid G w (bs.map (·.2)) (es.toList.map (·.val))/\oQ es bT
 | .loop st tD env params assign body=>h.tag=0/\h.ej=false/\∃L vars,w.heap[h.b]? =some (.loop L)/\L.state=st/\NJ tD L.pending/\
  L.params.toList=params/\(∀t∈params,t∈vars/\t<L.tmps.size)/\
  C.code vars L.tmps.size L.assign=some assign/\C.code vars L.tmps.size L.body=some body/\∀t∈vars,bq fid G w (bR env t) (L.tmps.getD t undef)
 | .sj s=>h.ej=false/\h.tag=s.length/\0<s.length/\∃c rest,w.heap[h.b]? =some (.cells c C.Br (0,0))/\h.fB=c.size/\c.toList=(s.map fun b=>Value.int .u8 b.toNat)++rest
 | .dead n=>h.ej=false/\h.tag=n
 | .gone=>h.tag=0/\h.ej=false
structure bf (C:Ctx) (fid:Nat->Nat) (G:cc) (H:Heap) (w:World):Prop where
 obj:∀l h,G.β l=some h->∃o,H[l]? =some o/\jQ C fid G w h o
 inj:∀l fS h h',G.β l=some h->G.β fS=some h'->h.b=h'.b->l=fS
 blk:∀l h,G.β l=some h->h.b<w.heap.size
 dd:∀b,G.I b->b<w.heap.size/\∀l h,G.β l=some h->h.b=b->h.ej=true
 kX:∀l h,G.β l=some h->h.ej=true->G.I h.b
 fG:∀b o,C.fG b=some o->G.I b/\w.heap[b]? =some o
structure Ext (G:cc) (w:World) (G':cc) (w':World) (m n:Nat):Prop where
 size:w.heap.size<=w'.heap.size
 os:w'.os=w.os
 output:w'.output=w.output
 ey:∀b,b<w.heap.size->(∀l h,G.β l=some h->h.b=b->h.ej=true\/l<m)->w'.heap[b]? =w.heap[b]?
 homes:mj G.β G'.β
 n7:∀l h',G'.β l=some h'->(∃h,G.β l=some h/\(h.b=h'.b\/w.heap.size<=h'.b))\/(n<=l/\w.heap.size<=h'.b)
 dd:∀b,G.I b->G'.I b
 oR:∀b,G'.I b->G.I b\/w.heap.size<=b\/∃l h,G.β l=some h/\h.b=b
theorem Ext.NK{m n:Nat}(h:Ext G w G' w' m n)(l:Nat)(h':Home)(e:G'.β l=some h'):(∃h,G.β l=some h/\h.b=h'.b)\/w.heap.size<=h'.b:=by
 rcases h.n7 l h' e with⟨h0,eW,q|q⟩|⟨_,q⟩
 ·exact .inl ⟨h0,eW,q⟩
 ·exact .inr q
 ·exact .inr q
theorem Ext.refl (G:cc)(w:World)(m n:Nat):Ext G w G w m n:=
 ⟨aM _,rfl,rfl,fun _ _ _=>rfl,.refl _,fun _ h hb=>.inl ⟨h,hb,.inl rfl⟩,fun _ h=>h,fun _ h=>.inl h⟩
theorem Ext.le{m m' n UM:Nat}(h:Ext G w G' w' m n)(hm:m'<=m)(hn:UM<=n):Ext G w G' w' m' UM:=
 {h with ey:=fun b hb k=>h.ey b hb fun l x ag e2=>(k l x ag e2).imp id fun q=>rj q hm
         n7:=fun l h' e=>(h.n7 l h' e).imp id fun q=>⟨dc hn q.1,q.2⟩}
theorem Ext.trans{UN:cc}{gv:World}{m n:Nat}(h:Ext G w G' w' m n)(k:Ext G' w' UN gv m n):Ext G w UN gv m n where
 size:=dc h.size k.size
 os:=k.os.trans h.os
 output:=k.output.trans h.output
 ey b hb ah:=by
  rw[k.ey b (rj hb h.size) ?_,h.ey b hb ah];intro l h1 ag e2;rcases h.NK l h1 ag with⟨h0,eW,eb⟩|hn
  ·rcases ah l h0 eW (eb.trans e2)with ae|hl
   ·obtain⟨h',e',-,-,-,mg⟩:=h.homes l h0 eW
    rw[ag]at e';cases e';rw[mg ae];exact .inl ae
   ·exact .inr hl
  ·omega
 homes:=h.homes.trans k.homes
 n7 l h2 e:=by
  have hs:=h.size;rcases k.n7 l h2 e with⟨h1,ag,eb⟩|⟨hn,hb⟩
  ·rcases h.n7 l h1 ag with⟨h0,eW,BC⟩|⟨hn,hb⟩
   ·refine .inl ⟨h0,eW,?_⟩
    rcases eb with eb|eb<;>rcases BC with BC|BC
    ·exact .inl (BC.trans eb)
    ·exact .inr (by omega)
    ·exact .inr (by omega)
    ·exact .inr (by omega)
   ·exact .inr ⟨hn,by rcases eb with eb|eb<;>omega⟩
  ·exact .inr ⟨hn,by omega⟩
 dd b hb:=k.dd b (h.dd b hb)
 oR b hb:=by
  rcases k.oR b hb with h1|h1|⟨l,h1,ag,eb⟩
  ·exact h.oR b h1
  ·exact .inr (.inl (dc h.size h1))
  ·rcases h.NK l h1 ag with⟨h0,eW,BC⟩|hn
   ·exact .inr (.inr ⟨l,h0,eW,BC.trans eb⟩)
   ·exact .inr (.inl (by omega))
theorem bf.UO{C:Ctx}{H:Heap}{m n:Nat}(aa:bf C fid G H w)(h:Ext G w G' w' m n):∀b,G.I b->G'.I b/\w'.heap[b]? =w.heap[b]? :=fun b hb=>
 ⟨h.dd b hb,h.ey b (aa.dd b hb).1 fun l x ag e2=>.inl ((aa.dd b hb).2 l x ag e2)⟩
theorem bq.ext{C:Ctx}{H:Heap}{m n:Nat}(aa:bf C fid G H w)(h:Ext G w G' w' m n){v:V}{x:Value}(k:bq fid G w v x):bq fid G' w' v x:=
 k.mono h.homes (aa.UO h)
theorem bk.ext{C:Ctx}{H:Heap}{m n:Nat}(aa:bf C fid G H w)(h:Ext G w G' w' m n){v:List V}{x:List Value}(k:bk fid G w v x):bk fid G' w' v x:=
 k.mono h.homes (aa.UO h)
theorem jQ.mono{C:Ctx}(fo:mj G.β G'.β)(a7:∀b,G.I b->G'.I b/\w'.heap[b]? =w.heap[b]?){h:Home}(hb:w'.heap[h.b]? =w.heap[h.b]?):∀{o:cD},jQ C fid G w h o->jQ C fid G' w' h o
 | .cells vs,⟨a,b,c,e,hc,hr⟩=>⟨⟨a.1,fun v af=>by rw[hb];exact a.2 v af⟩,b,c,e,by rw[hb];exact hc,hr.mono fo a7⟩
 | .row es ds ej,⟨a,b,c,d,u,UP,e,vals,rest,hc,hs,hl,hr⟩=>⟨a,b,c,d,u,UP,e,vals,rest,by rw[hb];exact hc,hs,hl,hr.mono fo a7⟩
 | .map bs,⟨a,b,es,bT,hc,ah,af,hs⟩=>⟨a,b,es,bT,by rw[hb];exact hc,ah.mono fo a7,af.mono fo a7,hs⟩
 | .loop ..,⟨a,b,L,vars,hc,hs,hp,u9,hin,ao,agO,he⟩=>⟨a,b,L,vars,by rw[hb];exact hc,hs,hp,u9,hin,ao,agO,fun t ht=>(he t ht).mono fo a7⟩
 | .sj s,⟨a,b,d,c,rest,hc,hs,hl⟩=>⟨a,b,d,c,rest,by rw[hb];exact hc,hs,hl⟩
 | .dead _,h=>h
 | .gone,h=>h
end Go.Abs
