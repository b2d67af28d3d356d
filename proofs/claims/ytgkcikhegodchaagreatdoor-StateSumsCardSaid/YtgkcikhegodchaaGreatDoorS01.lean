/- Texts of this claim, joined and written short by a program. -/
import Derived.Test.YtgkcikhegodchaaGreatDoorS00
import Derived.KernelRfl
import Derived.Shelf.Small.Bits
import Derived.Lib.Fields
import Derived.Lib.Atoi
import Derived.Lib.Bytealg
import Derived.Lib.Join
import Derived.Lib.ItoaNum
import Derived.Laws.World
set_option linter.unusedVariables false
set_option linter.unusedSimpArgs false
set_option linter.unusedSectionVars false
namespace Go.Abs
def ue (a b:cP):Prop:=∀f args H r,a f args H=some r->b f args H=some r
variable{call pY:cP}
theorem va (h:ue call pY){ag:ai->V}{H:Heap}{low:Nat}{op:cN}{r:V × Heap × Nat}(he:b3 call ag H low op=some r):b3 pY ag H low op=some r:=by
 cases op with
 |call raw f args=>
  cases raw
  ·simp only[b3]at he⊢
   split at he
   ·rename_i vs H1 bG h1
    split at he
    ·rename_i u H2 l h2
     rw[h _ _ _ _ h2];exact he
    ·cases he
   ·cases he
  ·simp only[b3]at he⊢
   split at he
   ·rename_i u H2 l h2
    rw[h _ _ _ _ h2];exact he
   ·cases he
 | _=>exact he
theorem yU (h:ue call pY):∀(ops:List bI) (st:av) (wr:List Bool) (r:av × List Bool),cY call ops st wr=some r->cY pY ops st wr=some r
 |[],st,wr,r,he=>he
 |o::ops,st,wr,r,he=>by
  simp only[cY]at he⊢;split at he
  ·rename_i hw
   try simp only[hw]
   split at he
   ·rename_i v H' low' h1
    rw[va h h1];exact yU h ops _ _ _ he
   ·cases he
  ·rename_i hw
   try simp only[hw]
   exact yU h ops _ _ _ he
  ·cases he
theorem yV (h:ue call pY):∀(ops:List bI) (st:av) (r:List av),fm call ops st=some r->fm pY ops st=some r
 |[],st,r,he=>he
 |o::ops,st,r,he=>by
  simp only[fm]at he⊢;split at he
  ·rename_i hw
   try simp only[hw]
   split at he
   ·rename_i v H' low' h1
    rw[va h h1];obtain⟨x,hx,rfl⟩:=cj.1 he;simp only[];rw[yV h ops _ _ hx];rfl
   ·cases he
  ·rename_i hw
   try simp only[hw]
   obtain⟨x,hx,rfl⟩:=cj.1 he;rw[yV h ops _ _ hx];rfl
  ·cases he
theorem Bt (h:ue call pY){q:bI × av × Heap}(he:jx call q=true):jx pY q=true:=by
 unfold jx at he⊢;split at he
 ·rename_i hw;try simp only[hw]
 ·rename_i hw
  try simp only[hw]
  split at he
  ·rename_i v H1 bG h1
   rw[va h h1];simp only[];split at he
   ·rename_i v2 H2 dB h2
    rw[va h h2];exact he
   ·cases he
  ·cases he
 ·cases he
theorem afA (h:ue call pY){dT:List Nat}{ops:List bI}{wr:List Bool}{st:av}(he:rI call dT ops wr st=true):rI pY dT ops wr st=true:=by
 unfold rI at he⊢;split at he
 ·rename_i cb ht
  rw[yV h _ _ _ ht];simp only[cn,eU]at he⊢;exact⟨he.1,fun q bg=>Bt h (he.2 q bg)⟩
 ·cases he
theorem My (h:ue call pY){dT:List Nat}{ops:List bI}{wr:List Bool}{st:av}(he:o2 call dT ops wr st=true):o2 pY dT ops wr st=true:=by
 unfold o2 at he⊢;simp only[jN]at he⊢;rcases he with he|he
 ·exact .inl (afA h he)
 ·right
  split at he
  ·rename_i cb ht
   rw[yV h _ _ _ ht];simp only[cn,eU]at he⊢;exact⟨he.1,fun q bg=>Bt h (he.2 q bg)⟩
  ·cases he
theorem H5{f me:av->Option (X × av)}(h:∀st r,f st=some r->me st=some r):∀(n m:Nat) (st:av) (r:X × av),n<=m->iter f n st=some r->iter me m st=some r
 |0,_,_,_,_,he=>by cases he
 |n+1,0,_,_,hle,_=>by omega
 |n+1,m+1,st,r,hle,he=>by
  simp only[iter]at he⊢;split at he
  ·rename_i st1 h1
   rw[h _ _ h1];exact H5 h n m _ _ (by omega) he
  ·rename_i aZ
   rw[h _ _ he];split
   ·rename_i aV e;cases e;exact absurd he (aZ _)
   ·rfl
theorem sM (h:ue call pY){n m:Nat}(hle:n<=m):∀(c:cm) (st:av) (r:X × av),exec call n c st=some r->exec pY m c st=some r
 | .skip,st,r,he=>he
 | .yM ops ok f,st,r,he=>by
   simp only[exec]at he⊢;split at he
   ·rename_i st1 wr h1
    rw[yU h _ _ _ _ h1];exact he
   ·cases he
 | .region ops dT,st,r,he=>by
   simp only[exec,av.fo]at he⊢;split at he
   ·rename_i st1 wr h1
    rw[yU h _ _ _ _ h1];cases dT with
    |none=>exact he
    |some b=>
     simp only at he⊢;split at he
     ·rename_i hb
      rw[if_pos]
      ·exact he
      ·simp only[jN]at hb⊢
       exact hb.imp id (My h)
     ·cases he
   ·cases he
 | .seq a b,st,r,he=>by
   simp only[exec,av.fo]at he⊢;split at he
   ·rename_i st1 h1
    rw[sM h hle a _ _ h1];exact sM h hle b _ _ he
   ·rename_i aZ
    rw[sM h hle a _ _ he];split
    ·rename_i st1 e;cases e;exact absurd he (aZ _)
    ·rfl
 | .cond c t e,st,r,he=>by
   simp only[exec,av.fo]at he⊢;split at he
   ·exact sM h hle t _ _ he
   ·exact sM h hle e _ _ he
   ·cases he
 | .block id c,st,r,he=>by
   simp only[exec,av.fo]at he⊢;split at he
   ·rename_i ud st1 h1
    rw[sM h hle c _ _ h1];exact he
   ·rename_i aZ
    rw[sM h hle c _ _ he];split
    ·rename_i ud st1 e;cases e;exact absurd he (aZ _ _)
    ·rfl
 | .loop c,st,r,he=>by
   simp only[exec,av.fo]at he⊢;exact H5 (fun st r hr=>sM h hle c st r hr) n m st r hle he
 | .rangeFunc f ps a b,st,r,he=>by
   simp only[exec,av.fo]at he⊢;split at he
   ·cases he
   ·rename_i hc
    try rw[if_neg hc]
    split at he
    ·rename_i u H1 bG h1
     rw[h _ _ _ _ h1];exact he
    ·cases he
 | .exit id,st,r,he=>he
 | .ret,st,r,he=>he
 | .fail,st,r,he=>he
def Mz (ex ex':cm->av->Option (X × av)):Prop:=∀c st r,ex c st=some r->ex' c st=some r
theorem Tc{ex ex':cm->av->Option (X × av)}(h:Mz ex ex'){f:jv}{args:List V}{H:Heap}{r:V × Heap × Nat}(he:iP ex f args H=some r):iP ex' f args H=some r:=by
 unfold iP at he⊢;split at he
 ·rename_i hl
  rw[if_pos hl];split at he
  ·rename_i st h1;rw[h _ _ _ h1];exact he
  ·rename_i st h1;rw[h _ _ _ h1];exact he
  ·cases he
 ·cases he
theorem Td{ex ex':cm->av->Option (X × av)}(h:Mz ex ex'){l:Nat}{args:List V}{H:Heap}{r:V × Heap × Nat}(he:pW ex l args H=some r):pW ex' l args H=some r:=by
 unfold pW at he⊢;split at he
 ·split at he
  ·rename_i hl
   simp only[hl,if_true];split at he
   ·rename_i st h1
    simp only[h _ _ _ h1];split at he
    ·rename_i h2
     try simp only[h2]
     split at he
     ·rename_i ar
      simp only[h _ _ _ ar];exact he
     ·cases he
    ·cases he
   ·cases he
  ·cases he
 ·cases he
theorem Te (aa:Nat->Option bV):∀n,ue (bD aa n) (bD aa (n+1))
 |0=>fun f args H r he=>by simp[bD]at he
 |n+1=>fun f args H r he=>by
  have hx:Mz (exec (bD aa n) n) (exec (bD aa (n+1)) (n+1)):=fun c st r hr=>sM (Te aa n) (DN n) c st r hr;show qE aa (bD aa (n+1)) (n+1) f args H=some r;change qE aa (bD aa n) n f args H=some r at he;unfold qE at he⊢;split at he
  ·split at he
   ·rename_i h1;try simp only[h1]
    exact Tc hx he
   ·rename_i h1;try simp only[h1]
    exact he
   ·rename_i h1;try simp only[h1]
    exact he
   ·cases he
  ·exact Td hx he
  ·cases he
theorem mU (aa:Nat->Option bV){n:Nat}:∀{m:Nat},n<=m->ue (bD aa n) (bD aa m)
 |0,h=>by have:n=0:=by omega
          subst this;exact fun _ _ _ _ h=>h
 |m+1,h=>by
  rcases fV n (m+1)with h1|h1
  ·exact fun f args H r he=>Te aa m f args H r (mU aa (m:=m) (by omega) f args H r he)
  ·have:n=m+1:=by omega
   subst this;exact fun _ _ _ _ h=>h
open Classical in
noncomputable def bY (aa:Nat->Option bV):cP:=fun f args H=>if h:∃r n,bD aa n f args H=some r then some h.choose else none
open Classical in
noncomputable def dq (aa:Nat->Option bV)(c:cm)(st:av):Option (X × av):=if h:∃r n,exec (bD aa n) n c st=some r then some h.choose else none
variable{aa:Nat->Option bV}
theorem vb{f:V}{args:List V}{H:Heap}{r:V × Heap × Nat}:bY aa f args H=some r↔∃n,bD aa n f args H=some r:=by
 unfold bY;constructor
 ·intro h
  split at h
  ·rename_i hex;cases h;exact hex.choose_spec
  ·cases h
 ·rintro⟨n,hn⟩
  have hex:∃r n,bD aa n f args H=some r:=⟨r,n,hn⟩;rw[dif_pos hex];obtain⟨m,hm⟩:=hex.choose_spec;have a:=mU aa (sF n m) _ _ _ _ hn;have b:=mU aa (rC n m) _ _ _ _ hm;rw[a]at b;exact b.symm
theorem vc{n m:Nat}(hle:n<=m){c:cm}{st:av}{r:X × av}(h:exec (bD aa n) n c st=some r):exec (bD aa m) m c st=some r:=sM (mU aa hle) hle c st r h
theorem gv{c:cm}{st:av}{r:X × av}:dq aa c st=some r↔∃n,exec (bD aa n) n c st=some r:=by
 unfold dq;constructor
 ·intro h
  split at h
  ·rename_i hex;cases h;exact hex.choose_spec
  ·cases h
 ·rintro⟨n,hn⟩
  have hex:∃r n,exec (bD aa n) n c st=some r:=⟨r,n,hn⟩;rw[dif_pos hex];obtain⟨m,hm⟩:=hex.choose_spec;have a:=vc (sF n m) hn;have b:=vc (rC n m) hm;rw[a]at b;exact b.symm
theorem DV (n:Nat):ue (bD aa n) (bY aa):=fun _ _ _ _ h=>vb.2 ⟨n,h⟩
theorem xo{α:Type}{a b:Option α}(h:∀r,a=some r↔b=some r):a=b:=by
 cases a with
 |none=>cases b with
  |none=>rfl
  |some y=>exact absurd ((h y).2 rfl) (by simp)
 |some x=>exact((h x).1 rfl).symm
theorem H6{ag:ai->V}{H:Heap}{low:Nat}{op:cN}{r:V × Heap × Nat}:b3 (bY aa) ag H low op=some r↔∃n,b3 (bD aa n) ag H low op=some r:=by
 constructor
 ·intro he
  cases op with
  |call raw f args=>
   cases raw
   ·simp only[b3]at he⊢
    split at he
    ·rename_i vs H1 bG h1
     split at he
     ·rename_i u H2 l h2
      obtain⟨n,hn⟩:=vb.1 h2;exact⟨n,by rw[hn];exact he⟩
     ·cases he
    ·cases he
   ·simp only[b3]at he⊢
    split at he
    ·rename_i u H2 l h2
     obtain⟨n,hn⟩:=vb.1 h2;exact⟨n,by rw[hn];exact he⟩
    ·cases he
  | _=>exact⟨0,he⟩
 ·rintro⟨n,hn⟩;exact va (DV n) hn
theorem MA:∀(ops:List bI) (st:av) (wr:List Bool) (r:av × List Bool),cY (bY aa) ops st wr=some r->∃n,cY (bD aa n) ops st wr=some r
 |[],st,wr,r,he=>⟨0,he⟩
 |o::ops,st,wr,r,he=>by
  simp only[cY]at he⊢;split at he
  ·rename_i hw
   split at he
   ·rename_i v H' low' h1
    obtain⟨n,hn⟩:=H6.1 h1;obtain⟨m,hm⟩:=MA ops _ _ _ he;refine⟨max n m,?_⟩;rw[va (mU aa (sF n m)) hn];exact yU (mU aa (rC n m)) ops _ _ _ hm
   ·cases he
  ·rename_i hw
   obtain⟨m,hm⟩:=MA ops _ _ _ he;exact⟨m,hm⟩
  ·cases he
theorem nD (st:av):dq aa .skip st=some (.normal,st):=gv.2 ⟨0,rfl⟩
theorem qF (id:Nat)(st:av):dq aa (.exit id) st=some (.exit id,st):=gv.2 ⟨0,rfl⟩
theorem nE (st:av):dq aa .ret st=some (.ret,st):=gv.2 ⟨0,rfl⟩
theorem H7:∀(ops:List bI) (st:av) (r:List av),fm (bY aa) ops st=some r->∃n,fm (bD aa n) ops st=some r
 |[],st,r,he=>⟨0,he⟩
 |o::ops,st,r,he=>by
  simp only[fm]at he⊢;split at he
  ·rename_i hw
   split at he
   ·rename_i v H' low' h1
    obtain⟨n,hn⟩:=H6.1 h1;obtain⟨x,hx,rfl⟩:=cj.1 he;obtain⟨m,hm⟩:=H7 ops _ _ hx;refine⟨max n m,?_⟩;rw[va (mU aa (sF n m)) hn];simp only[];rw[yV (mU aa (rC n m)) ops _ _ hm];rfl
   ·cases he
  ·rename_i hw
   obtain⟨x,hx,rfl⟩:=cj.1 he;obtain⟨m,hm⟩:=H7 ops _ _ hx;exact⟨m,by rw[hm];rfl⟩
  ·cases he
theorem afB{q:bI × av × Heap}(he:jx (bY aa) q=true):∃n,jx (bD aa n) q=true:=by
 unfold jx at he⊢;split at he
 ·rename_i hw;exact⟨0,by try simp only[hw]⟩
 ·rename_i hw
  try simp only[hw]
  split at he
  ·rename_i v H1 bG h1
   split at he
   ·rename_i v2 H2 dB h2
    obtain⟨n,hn⟩:=H6.1 h1;obtain⟨m,hm⟩:=H6.1 h2;refine⟨max n m,?_⟩;rw[va (mU aa (sF n m)) hn,va (mU aa (rC n m)) hm];exact he
   ·cases he
  ·cases he
 ·cases he
theorem MB:∀(l:List (bI × av × Heap)),l.all (jx (bY aa))=true->∃n,l.all (jx (bD aa n))=true
 |[],_=>⟨0,rfl⟩
 |q::l,he=>by
  simp only[Mt,cn]at he;obtain⟨n,hn⟩:=afB he.1;obtain⟨m,hm⟩:=MB l he.2;refine⟨max n m,?_⟩;simp only[Mt,cn];refine⟨Bt (mU aa (sF n m)) hn,?_⟩;rw[eU]at hm⊢;exact fun q bg=>Bt (mU aa (rC n m)) (hm q bg)
theorem afC{dT:List Nat}{ops:List bI}{wr:List Bool}{st:av}(he:rI (bY aa) dT ops wr st=true):∃n,rI (bD aa n) dT ops wr st=true:=by
 unfold rI at he;split at he
 ·rename_i cb ht
  simp only[cn]at he;obtain⟨n,hn⟩:=H7 _ _ _ ht;obtain⟨m,hm⟩:=MB _ he.2;refine⟨max n m,?_⟩;unfold rI;rw[yV (mU aa (sF n m)) _ _ _ hn];simp only[cn];refine⟨he.1,?_⟩;rw[eU]at hm⊢;exact fun q bg=>Bt (mU aa (rC n m)) (hm q bg)
 ·cases he
theorem afD{dT:List Nat}{ops:List bI}{wr:List Bool}{st:av}(he:o2 (bY aa) dT ops wr st=true):∃n,o2 (bD aa n) dT ops wr st=true:=by
 unfold o2 at he;simp only[jN]at he;rcases he with he|he
 ·obtain⟨n,hn⟩:=afC he
  exact⟨n,by unfold o2;rw[hn];rfl⟩
 ·split at he
  ·rename_i cb ht
   simp only[cn]at he;obtain⟨n,hn⟩:=H7 _ _ _ ht;obtain⟨m,hm⟩:=MB _ he.2;refine⟨max n m,?_⟩;unfold o2;rw[yV (mU aa (sF n m)) _ _ _ hn];simp only[jN,cn];refine .inr ⟨he.1,?_⟩;rw[eU]at hm⊢;exact fun q bg=>Bt (mU aa (rC n m)) (hm q bg)
  ·cases he
theorem kW (ops:List bI)(dT:Option (List Nat))(st:av):dq aa (.region ops dT) st=match cY (bY aa) ops {st with aC:=[]} []with
  |some (aV,wr)=>match dT with
   |none=>some (.normal,{aV with aC:=[]})
   |some b=>if rH b ops wr||o2 (bY aa) b ops wr {st with aC:=[]}then some (.normal,{aV with aC:=[]})else none
  |none=>none:=by
 refine xo fun r=> ?_;rw[gv];constructor
 ·rintro⟨n,hn⟩
  simp only[exec,av.fo]at hn;split at hn
  ·rename_i st1 wr h1
   rw[yU (DV n) _ _ _ _ h1];cases dT with
   |none=>exact hn
   |some b=>
    simp only at hn⊢;split at hn
    ·rename_i hb
     rw[if_pos]
     ·exact hn
     ·simp only[jN]at hb⊢
      exact hb.imp id (My (DV n))
    ·cases hn
  ·cases hn
 ·intro h
  split at h
  ·rename_i st1 wr h1
   obtain⟨n,hn⟩:=MA _ _ _ _ h1;cases dT with
   |none=>exact⟨n,by simp only[exec,av.fo];rw[hn];exact h⟩
   |some b=>
    simp only at h;split at h
    ·rename_i hb
     simp only[jN]at hb;rcases hb with hb|hb
     ·exact⟨n,by simp only[exec,av.fo];rw[hn];simp only[];rw[hb];exact h⟩
     ·obtain⟨m,hm⟩:=afD hb
      refine⟨max n m,?_⟩;simp only[exec,av.fo];rw[yU (mU aa (sF n m)) _ _ _ _ hn];simp only[];rw[My (mU aa (rC n m)) hm,Bool.or_true];exact h
    ·cases h
  ·cases h
theorem iy (a b:cm)(st:av):dq aa (.seq a b) st=match dq aa a st with
  |some (.normal,aV)=>dq aa b aV
  |r=>r:=by
 refine xo fun r=> ?_;rw[gv];constructor
 ·rintro⟨n,hn⟩
  simp only[exec,av.fo]at hn;split at hn
  ·rename_i st1 h1
   rw[gv.2 ⟨n,h1⟩];exact gv.2 ⟨n,hn⟩
  ·rename_i aZ
   rw[gv.2 ⟨n,hn⟩];split
   ·rename_i st1 e;cases e;exact absurd hn (aZ _)
   ·rfl
 ·intro h
  split at h
  ·rename_i st1 h1
   obtain⟨n,hn⟩:=gv.1 h1;obtain⟨m,hm⟩:=gv.1 h;exact⟨max n m,by simp only[exec,av.fo];rw[vc (sF n m) hn];exact vc (rC n m) hm⟩
  ·rename_i aZ
   obtain⟨n,hn⟩:=gv.1 h;refine⟨n,?_⟩;simp only[exec,av.fo];rw[hn];split
   ·rename_i st1 e;cases e;exact absurd h (aZ _)
   ·rfl
theorem mg (c:ai)(t e:cm)(st:av):dq aa (.cond c t e) st=match c.ag st.aC st.au with
  | .bool true=>dq aa t st
  | .bool false=>dq aa e st
  | _=>none:=by
 refine xo fun r=> ?_;rw[gv];constructor
 ·rintro⟨n,hn⟩
  simp only[exec,av.fo]at hn;split at hn
  ·rename_i hc
   try simp only[hc]
   exact gv.2 ⟨n,hn⟩
  ·rename_i hc
   try simp only[hc]
   exact gv.2 ⟨n,hn⟩
  ·cases hn
 ·intro h
  split at h
  ·rename_i hc
   obtain⟨n,hn⟩:=gv.1 h;exact⟨n,by simp only[exec,hc];exact hn⟩
  ·rename_i hc
   obtain⟨n,hn⟩:=gv.1 h;exact⟨n,by simp only[exec,hc];exact hn⟩
  ·cases h
theorem nF (id:Nat)(c:cm)(st:av):dq aa (.block id c) st=match dq aa c st with
  |some (.exit ud,aV)=>if ud=id then some (.normal,aV)else some (.exit ud,aV)
  |r=>r:=by
 refine xo fun r=> ?_;rw[gv];constructor
 ·rintro⟨n,hn⟩
  simp only[exec,av.fo]at hn;split at hn
  ·rename_i h1
   rw[gv.2 ⟨n,h1⟩];exact hn
  ·rename_i aZ
   rw[gv.2 ⟨n,hn⟩];split
   ·rename_i e;cases e;exact absurd hn (aZ _ _)
   ·rfl
 ·intro h
  split at h
  ·rename_i h1
   obtain⟨n,hn⟩:=gv.1 h1;exact⟨n,by simp only[exec,av.fo];rw[hn];exact h⟩
  ·rename_i aZ
   obtain⟨n,hn⟩:=gv.1 h;refine⟨n,?_⟩;simp only[exec,av.fo];rw[hn];split
   ·rename_i e;cases e;exact absurd h (aZ _ _)
   ·rfl
theorem afE{f:av->Option (X × av)}{n m:Nat}{st:av}{r:X × av}(hle:n<=m)(h:iter f n st=some r):iter f m st=some r:=H5 (fun _ _ h=>h) n m st r hle h
theorem sN (c:cm)(st:av):dq aa (.loop c) st=match dq aa c st with
  |some (.normal,aV)=>dq aa (.loop c) aV
  |r=>r:=by
 refine xo fun r=> ?_;rw[gv];constructor
 ·rintro⟨n,hn⟩
  simp only[exec,av.fo]at hn;cases n with
  |zero=>cases hn
  |succ n=>
   simp only[iter]at hn;split at hn
   ·rename_i st1 h1
    rw[gv.2 ⟨n+1,h1⟩];exact gv.2 ⟨n+1,by simp only[exec,av.fo];exact afE (DN n) hn⟩
   ·rename_i aZ
    rw[gv.2 ⟨n+1,hn⟩];split
    ·rename_i e;cases e;exact absurd hn (aZ _)
    ·rfl
 ·intro h
  split at h
  ·rename_i st1 h1
   obtain⟨n,hn⟩:=gv.1 h1;obtain⟨m,hm⟩:=gv.1 h;simp only[exec,av.fo]at hm;refine⟨max n m+1,?_⟩;simp only[exec,iter];rw[vc (show n<=max n m+1 by omega) hn];exact H5 (fun st r hr=>vc (show m<=max n m+1 by omega) hr) m (max n m) _ _ (rC n m) hm
  ·rename_i aZ
   obtain⟨n,hn⟩:=gv.1 h;refine⟨n+1,?_⟩;simp only[exec,iter];rw[vc (DN n) hn];split
   ·rename_i e;cases e;exact absurd h (aZ _)
   ·rfl
theorem Tf (f:ai)(ps:List Nat)(a b:cm)(st:av):dq aa (.rangeFunc f ps a b) st=
  if(DS st.H st.ro&&Bq (f.ag st.aC st.au))=false then none else
  match bY aa (f.ag st.aC st.au) [.yield st.H.length] (st.H++[.loop .ready .normal st.au ps a b])with
  |some (_,H',low')=>match H'[st.H.length]? with
   |some (.loop ls ub _ _ _ _)=>if ls=.busy then none else some (ub,{st with H:=H'.set st.H.length .gone,low:=min st.low low'})
   | _=>none
  |none=>none:=by
 refine xo fun r=> ?_;rw[gv];constructor
 ·rintro⟨n,hn⟩
  simp only[exec,av.fo]at hn;split at hn
  ·cases hn
  ·rename_i hc
   rw[if_neg hc];split at hn
   ·rename_i h1
    rw[DV n _ _ _ _ h1];exact hn
   ·cases hn
 ·intro h
  split at h
  ·cases h
  ·rename_i hc
   split at h
   ·rename_i h1
    obtain⟨n,hn⟩:=vb.1 h1;exact⟨n,by simp only[exec,av.fo];rw[if_neg hc,hn];exact h⟩
   ·cases h
theorem ou (i:Nat)(first caps args:List V)(H:Heap):bY aa (.fn i first caps) args H=match aa i with
  |some (.code fn)=>iP (dq aa) fn (first++args++caps) H
  |some (.ext spec)=>if cg (first++args++caps)then(spec (first++args++caps)).map fun v=>(v,H,H.length)else none
  |some (.o3 spec)=>u9 spec (first++args++caps) H
  |none=>none:=by
 refine xo fun r=> ?_;rw[vb];constructor
 ·rintro⟨n,hn⟩
  cases n with
  |zero=>simp[bD]at hn
  |succ n=>
   simp only[bD,qE]at hn;split at hn
   ·rename_i h1;try simp only[h1]
    exact Tc (ex':=dq aa) (fun c st r h=>gv.2 ⟨n,h⟩) hn
   ·rename_i h1;try simp only[h1]
    exact hn
   ·rename_i h1;try simp only[h1]
    exact hn
   ·cases hn
 ·intro h
  cases ht:aa i with
  |none=>rw[ht]at h;cases h
  |some F=>
   rw[ht]at h;cases F with
   |ext spec=>exact⟨1,by simp only[bD,qE,ht];exact h⟩
   |o3 spec=>exact⟨1,by simp only[bD,qE,ht];exact h⟩
   |code fn=>
    simp only at h;unfold iP at h;split at h
    ·rename_i hl
     split at h
     ·rename_i st h1
      obtain⟨n,hn⟩:=gv.1 h1;exact⟨n+1,by simp only[bD,qE,ht,iP];rw[if_pos hl,hn];exact h⟩
     ·rename_i st h1
      obtain⟨n,hn⟩:=gv.1 h1;exact⟨n+1,by simp only[bD,qE,ht,iP];rw[if_pos hl,hn];exact h⟩
     ·cases h
    ·cases h
theorem afF (l:Nat)(args:List V)(H:Heap):bY aa (.yield l) args H=pW (dq aa) l args H:=by
 refine xo fun r=> ?_;rw[vb];constructor
 ·rintro⟨n,hn⟩
  cases n with
  |zero=>simp[bD]at hn
  |succ n=>exact Td (fun c st r h=>gv.2 ⟨n,h⟩) hn
 ·intro h
  unfold pW at h;split at h
  ·rename_i hl
   split at h
   ·rename_i hlen
    split at h
    ·rename_i st h1
     split at h
     ·rename_i h2
      split at h
      ·rename_i ar
       obtain⟨n,hn⟩:=gv.1 h1;obtain⟨m,hm⟩:=gv.1 ar;refine⟨max n m+1,?_⟩;simp only[bD,qE,pW,hl,hlen,if_true];simp only[vc (sF n m) hn,h2,vc (rC n m) hm];exact h
      ·cases h
     ·cases h
    ·cases h
   ·cases h
  ·cases h
end Go.Abs
namespace Go.Abs
inductive H8 where
 |leaf
 |node (l:H8) (k:Nat) (f:bV) (r:H8)
def H8.get:H8->Nat->Option bV
 | .leaf,_=>none
 | .node l k f r,i=>bif Nat.blt i k then l.get i else bif Nat.blt k i then r.get i else some f
def jy (l:List (List V × V)):List V->Option V:=fun args=>match l with
 |[]=>none
 |(aQ,v)::r=>bif nC args aQ then some v else jy r args
def over (aa:Nat->Option bV)(k:Nat)(spec:List V->Option V):Nat->Option bV:=fun i=>bif Nat.beq i k then some (.ext spec)else aa i
def jz (aa:Nat->Option bV)(n i:Nat):List (List V × V)->Prop
 |[]=>True
 |(aQ,v)::r=>(bx v=true/\bD aa n (.fn i [] []) aQ []=some (v,[],0))/\jz aa n i r
end Go.Abs
namespace Go.Abs.bs
open Go Go.Abs
abbrev ak (n:Int):V:=.int .i64 n
def Tg:V:=.agg [ak 36,.str [50],ak 7,ak 8,.bX]
def afG:V:=.list 5 [Tg]
def Th:V:=.agg [ak 3,.str [115],ak 0,ak 9,afG]
def Ti:V:=.agg [ak 35,.str [115],ak 24,ak 25,.bX]
def afH:V:=.list 5 [Ti]
def Tj:V:=.agg [ak 11,.str [97],ak 21,ak 25,afH]
def afI:V:=.list 5 [Tj]
def Tk:V:=.agg [ak 10,.str [],ak 20,ak 26,afI]
def afJ:V:=.list 5 [Tk]
def Tl:V:=.agg [ak 4,.str [114],ak 10,ak 27,afJ]
def Tm:V:=.agg [ak 10,.str [],ak 37,ak 39,.bX]
def Tn:V:=.agg [ak 37,.str [49],ak 43,ak 44,.bX]
def To:V:=.agg [ak 37,.str [51],ak 46,ak 47,.bX]
def afK:V:=.list 5 [Tn,To]
def Tp:V:=.agg [ak 12,.str [],ak 43,ak 47,afK]
def afL:V:=.list 5 [Tm,Tp]
def Tq:V:=.agg [ak 5,.str [99],ak 28,ak 48,afL]
def Tr:V:=.agg [ak 10,.str [],ak 65,ak 67,.bX]
def Ts:V:=.agg [ak 1,.str [],ak 67,ak 67,.bX]
def Tt:V:=.agg [ak 35,.str [115],ak 75,ak 76,.bX]
def afM:V:=.list 5 [Tt]
def Tu:V:=.agg [ak 11,.str [120],ak 72,ak 76,afM]
def afN:V:=.list 5 [Tu]
def Tv:V:=.agg [ak 10,.str [],ak 71,ak 77,afN]
def Tw:V:=.agg [ak 35,.str [120],ak 80,ak 81,.bX]
def afO:V:=.list 5 [Tw]
def Tx:V:=.agg [ak 22,.str [114],ak 78,ak 82,afO]
def afP:V:=.list 5 [Ts,Tv,Tx]
def Ty:V:=.agg [ak 21,.str [43],ak 68,ak 82,afP]
def MC:V:=.agg [ak 1,.str [],ak 84,ak 84,.bX]
def Tz:V:=.agg [ak 22,.str [99],ak 85,ak 88,.bX]
def afQ:V:=.list 5 [MC,MC,Tz]
def TA:V:=.agg [ak 21,.str [45],ak 83,ak 88,afQ]
def afR:V:=.list 5 [Ty,TA]
def TB:V:=.agg [ak 20,.str [],ak 68,ak 88,afR]
def TC:V:=.agg [ak 37,.str [48],ak 92,ak 93,.bX]
def afS:V:=.list 5 [TC]
def TD:V:=.agg [ak 19,.str [60,61],ak 89,ak 93,afS]
def afT:V:=.list 5 [Tr,TB,TD]
def TE:V:=.agg [ak 17,.str [],ak 62,ak 93,afT]
def afU:V:=.list 5 [TE]
def TF:V:=.agg [ak 8,.str [105],ak 49,ak 94,afU]
def TG:V:=.list 5 [Th,Tl,Tq,TF]
def xp:V:=.agg [ak 2,.str [],ak 0,ak 94,TG]
def afV:V:=.agg [.str [115],ak 2]
def afW:V:=.list 2 [afV]
def afX:V:=.agg [.str [114],ak 0,.list 1 [ak 0],ak 0,ak 1,ak 0]
def afY:V:=.agg [.str [99],ak 1,.bX,ak 1,ak 3,ak 2]
def MD:V:=.list 6 [afX,afY]
def afZ:V:=.agg [.str [105],ak 12]
def af0:V:=.list 2 [afZ]
def H9:V:=.agg [ak 2,.str [],ak 0,ak 94,TG,afW,MD,af0,.bX]
def TH:V:=.str [115,111,114,116,32,115,32,50,59,32,114,101,108,97,116,105,111,110,32,114,40,97,58,32,115,41,59,32,99,111,117,110,116,101,114,32,99,40,41,32,105,110,32,49,46,46,51,59,32,105,110,118,97,114,105,97,110,116,32,105,58,32,97,108,108,40,41,32,115,117,109,40,120,58,32,115,41,32,114,40,120,41,32,45,32,99,40,41,32,60,61,32,48,59]
def af1:V:=.agg [ak 0,ak (-1)]
def ME:V:=.list 2 [af1]
def MF:V:=.agg [ak 0,ak 0,ME,ak 0,ak 0,ak 0]
def TI:V:=.agg [ak 0,ak 1]
def MG:V:=.list 2 [TI]
def MH:V:=.agg [ak 0,ak 0,MG,ak 1,ak 0,ak 0]
def af2:V:=.agg [ak 1,ak (-1)]
def MI:V:=.list 2 [af2]
def MJ:V:=.agg [ak 0,ak 0,MI,ak 0,ak 0,ak 0]
def TJ:V:=.agg [ak 1,ak 1]
def MK:V:=.list 2 [TJ]
def ML:V:=.agg [ak 0,ak 0,MK,ak 1,ak 0,ak 0]
def TK:V:=.agg [ak 2,ak (-1)]
def MM:V:=.list 2 [TK]
def MN:V:=.agg [ak 0,ak 1,MM,ak (-1),ak 0,ak 0]
def af3:V:=.agg [ak 2,ak 1]
def MO:V:=.list 2 [af3]
def MP:V:=.agg [ak 0,ak 1,MO,ak 3,ak 0,ak 0]
def MQ:V:=.list 2 [TI,TJ,TK]
def MR:V:=.agg [ak 0,ak 2,MQ,ak 0,ak 0,ak 0]
def TL:V:=.list 6 [MF,MH,MJ,ML,MN,MP,MR]
def af4:V:=.list 1 [.str [114],.str [99],.str [105]]
def Bu:V:=.agg [.list 1 [ak 2],MD,af4,TL,.bX,.bX,.bX]
def TM:V:=.str [99,40,41,61,50,59,114,32,40,32,48,32,41,32,61,32,49,32,59]
def vd:V:=.list 1 [ak 1,ak 1,ak 1]
def xq:V:=.list 1 [ak 1,ak 0,ak 1]
end Go.Abs.bs
namespace Go.Abs.bs
open Go Go.Abs
def yW:List V->Option V
 |[.str s]=>if s.all (fun b=>b<128)&&decide (s.length<4294967281)then some (if(Lib.fields s).isEmpty then .emp else .list 1 ((Lib.fields s).map .str))else none
 | _=>none
def DW:List V->Option V
 |[.str s]=>if s.length<=18 then(Lib.atoi s).map fun n=>.aU [.int .i64 n,.jQ]else none
 | _=>none
def yX:List V->Option V
 |[.str s,.int .u8 c]=>some (.int .i64 (Lib.indexByte s (UInt8.ofNat c.toNat)))
 | _=>none
def strs:List V->Option (List (List UInt8))
 |[]=>some []
 | .str s::r=>(strs r).map (s:: ·)
 | _=>none
def DX:List V->Option V
 |[.bX,.str _]=>some (.str [])
 |[.list es ds,.str sep]=>match strs ds with
  |some l=>if es=1/\l≠[]/\l.length<=4096/\(Lib.join l sep).length<=1000000 then some (.str (Lib.join l sep))else none
  |none=>none
 | _=>none
def DY:List V->Option V
 |[.int .i64 n]=>if 0<=n/\n<10 then some (.str [UInt8.ofNat (48+n.toNat)])else if -100000<n/\n<100000 then some (.str (Lib.itoa n))else none
 | _=>none
def DZ:List V->Option V
 |[.int .u64 n]=>if 0<=n/\n<=7 then some (.int .i64 (Lib.bitLen n.toNat))else none
 | _=>none
def D0:List V->Option V
 |[.str s,.str [c]]=>if c<128 then some (.str (s.dropWhile (· ==c)))else none
 | _=>none
def TN:List (List V × V):=[([ME],ME),([MG],MG),([MI],MI),([MK],MK),([MM],MM),([MO],MO),([MQ],MQ)]
end Go.Abs.bs
namespace Go.Abs
open Go
structure Home where
 b:Nat
 tag:Nat
 fp:Nat
 fz:Bool
structure bT where
 β:Nat->Option Home
 I:Nat->Prop
def iz (w:World)(b o:Nat)(vals:List Value):Prop:=
 ∀(j:Nat) (x:Value),vals[j]? =some x->w.cell? ⟨b,o+j,none⟩=some x
mutual
inductive fG (w:World) (I:Nat->Prop):V->Value->Prop
 |bool (b:Bool):fG w I (.bool b) (.bool b)
 |int (k:IntKind) (n:Int):fG w I (.int k n) (.int k n)
 |str (s:List UInt8):fG w I (.str s) (.string ⟨⟨s⟩⟩)
 |bX:fG w I .bX (.slice none 0 0)
 |emp (a:Addr):fG w I .emp (.slice (some a) 0 0)
 |ve (es:Nat) (a:Addr) (cap:Nat):fG w I (.list es []) (.slice (some a) 0 cap)
 |list (es:Nat) (ds:List V) (b o cap:Nat) (vals:List Value) (bk:I b) (hc:iz w b o vals) (hu:∀d∈ds,(aE d).length=es)
  (hr:c8 w I (ds.flatMap aE) vals) (hl:ds.length<=cap):fG w I (.list es ds) (.slice (some ⟨b,o,none⟩) ds.length cap)
 |jd:fG w I .jd (.pointer none)
 |jt:fG w I .jt (.map none)
 |kt:fG w I .kt .nilFunc
 |jQ:fG w I .jQ .nilIface
 |agg (vs:List V) (vals:List Value) (hr:c8 w I vs vals):fG w I (.agg vs) (.agg ⟨vals⟩)
 |aU (vs:List V) (vals:List Value) (hr:c8 w I vs vals):fG w I (.aU vs) (.tuple ⟨vals⟩)
 |iface (t:Nat) (v:V) (x:Value) (hr:fG w I v x):fG w I (.iface t v) (.iface t x)
 |fn (i:Nat) (fs cs:List V) (xs cB:List Value) (ae:c8 w I fs xs) (hc:c8 w I cs cB):fG w I (.fn i fs cs) (.func (.func i) ⟨xs⟩ ⟨cB⟩)
inductive c8 (w:World) (I:Nat->Prop):List V->List Value->Prop
 |nil:c8 w I [] []
 |cons (v:V) (x:Value) (vs:List V) (xs:List Value) (h:fG w I v x) (hs:c8 w I vs xs):c8 w I (v::vs) (x::xs)
end
section
mutual
inductive bd (fid:Nat->Nat) (G:bT) (w:World):V->Value->Prop
 |p (v:V) (x:Value) (h:fG w G.I v x):bd fid G w v x
 |ptr (l o:Nat) (h:Home) (hb:G.β l=some h) (ht:h.tag=0):bd fid G w (.ptr l o) (.pointer (some ⟨h.b,o,none⟩))
 |gW (l es i f tag:Nat) (h:Home) (a:Addr) (hb:G.β l=some h) (hle:tag<=h.tag) (ha:h.tag=tag->a=⟨h.b,i*es+f,none⟩):
  bd fid G w (.gW l es i f tag) (.pointer (some a))
 |dH (vs:List V) (f b o:Nat) (vals:List Value) (bk:G.I b) (hc:iz w b o vals) (hr:c8 w G.I vs vals):bd fid G w (.dH vs f) (.pointer (some ⟨b,o+f,none⟩))
 |ca (l es off len tag:Nat) (h:Home) (a:Addr) (n cap:Nat) (hb:G.β l=some h) (hle:tag<=h.tag)
  (ha:h.tag=tag->a=⟨h.b,off*es,none⟩/\n=len/\(off+cap)*es<=h.fp/\len<=cap):bd fid G w (.ca l es off len tag) (.slice (some a) n cap)
 |map (l:Nat) (h:Home) (hb:G.β l=some h) (ht:h.tag=0):bd fid G w (.map l) (.map (some h.b))
 |fn (i:Nat) (fs cs:List V) (xs cB:List Value) (ae:a1 fid G w fs xs) (hc:a1 fid G w cs cB):bd fid G w (.fn i fs cs) (.func (.func i) ⟨xs⟩ ⟨cB⟩)
 |yield (l:Nat) (h:Home) (hb:G.β l=some h) (ht:h.tag=0):bd fid G w (.yield l) (.func (.yield h.b) #[] #[])
 |agg (vs:List V) (vals:List Value) (hr:a1 fid G w vs vals):bd fid G w (.agg vs) (.agg ⟨vals⟩)
 |aU (vs:List V) (vals:List Value) (hr:a1 fid G w vs vals):bd fid G w (.aU vs) (.tuple ⟨vals⟩)
 |iface (t:Nat) (v:V) (x:Value) (hr:bd fid G w v x):bd fid G w (.iface t v) (.iface t x)
 |undef (x:Value):bd fid G w .undef x
inductive a1 (fid:Nat->Nat) (G:bT) (w:World):List V->List Value->Prop
 |nil:a1 fid G w [] []
 |cons (v:V) (x:Value) (vs:List V) (xs:List Value) (h:bd fid G w v x) (hs:a1 fid G w vs xs):a1 fid G w (v::vs) (x::xs)
end
end
variable{fid:Nat->Nat}{w w':World}{G G':bT}{I rK:Nat->Prop}
theorem MS{b:Nat}(h:w'.heap[b]? =w.heap[b]?)(o:Nat):w'.cell? ⟨b,o,none⟩=w.cell? ⟨b,o,none⟩:=by
 simp[World.cell?,h]
theorem iz.ek{b o:Nat}{vals:List Value}(h:iz w b o vals)(hb:w'.heap[b]? =w.heap[b]?):iz w' b o vals:=
 fun j x hx=>by rw[MS hb];exact h j x hx
mutual
theorem fG.mono (bk:∀b,I b->rK b/\w'.heap[b]? =w.heap[b]?):∀{v:V} {x:Value},fG w I v x->fG w' rK v x
 | _,_,.bool b=>.bool b
 | _,_,.int k n=>.int k n
 | _,_,.str s=>.str s
 | _,_,.bX=>.bX
 | _,_,.emp a=>.emp a
 | _,_,.ve es a cap=>.ve es a cap
 | _,_,.list es ds b o cap vals h hc hu hr hl=>.list es ds b o cap vals (bk b h).1 (hc.ek (bk b h).2) hu (c8.mono bk hr) hl
 | _,_,.jd=>.jd
 | _,_,.jt=>.jt
 | _,_,.kt=>.kt
 | _,_,.jQ=>.jQ
 | _,_,.agg vs vals hr=>.agg vs vals (c8.mono bk hr)
 | _,_,.aU vs vals hr=>.aU vs vals (c8.mono bk hr)
 | _,_,.iface t v x hr=>.iface t v x (fG.mono bk hr)
 | _,_,.fn i fs cs xs cB ae hc=>.fn i fs cs xs cB (c8.mono bk ae) (c8.mono bk hc)
theorem c8.mono (bk:∀b,I b->rK b/\w'.heap[b]? =w.heap[b]?):∀{vs:List V} {xs:List Value},c8 w I vs xs->c8 w' rK vs xs
 | _,_,.nil=>.nil
 | _,_,.cons v x vs xs h hs=>.cons v x vs xs (fG.mono bk h) (c8.mono bk hs)
end
def mh (β af5:Nat->Option Home):Prop:=
 ∀l h,β l=some h->∃h',af5 l=some h'/\h.tag<=h'.tag/\(h.tag=0->h'.tag=0)/\(h'.tag=h.tag->h'.b=h.b/\h'.fp=h.fp)/\(h.fz=true->h'=h)
theorem mh.refl (β:Nat->Option Home):mh β β:=fun _ h hb=>⟨h,hb,aF _,id,fun _=>⟨rfl,rfl⟩,fun _=>rfl⟩
theorem mh.trans{a b c:Nat->Option Home}(h:mh a b)(k:mh b c):mh a c:=by
 intro l h₀ hb;obtain⟨h₁,af6,af7,af8,m₁,af9⟩:=h l h₀ hb;obtain⟨h₂,MT,aga,agb,m₂,agc⟩:=k l h₁ af6;refine⟨h₂,MT,cM af7 aga,fun z=>agb (af8 z),fun ht=> ?_,fun f=> ?_⟩
 ·have e:h₁.tag=h₀.tag:=by omega
  have e':h₂.tag=h₁.tag:=by omega
  exact⟨(m₂ e').1.trans (m₁ e).1,(m₂ e').2.trans (m₁ e).2⟩
 ·have:=af9 f;subst this;exact agc f
mutual
theorem bd.mono (hH:mh G.β G'.β)(bk:∀b,G.I b->G'.I b/\w'.heap[b]? =w.heap[b]?):∀{v:V} {x:Value},bd fid G w v x->bd fid G' w' v x
 | _,_,.p v x h=>.p v x (fG.mono bk h)
 | _,_,.ptr l o h hb ht=>by
   obtain⟨h',e,-,z,m,-⟩:=hH l h hb;have:=(m ((z ht).trans ht.symm)).1;rw[<-this];exact .ptr l o h' e (z ht)
 | _,_,.gW l es i f tag h a hb hle ha=>by
   obtain⟨h',e,t,z,m,-⟩:=hH l h hb;refine .gW l es i f tag h' a e (cM hle t) (fun hx=> ?_);have ht:h'.tag=h.tag:=by omega
   rw[(m ht).1];exact ha (by omega)
 | _,_,.dH vs f b o vals h hc hr=>.dH vs f b o vals (bk b h).1 (hc.ek (bk b h).2) (c8.mono bk hr)
 | _,_,.ca l es off len tag h a n cap hb hle ha=>by
   obtain⟨h',e,t,z,m,-⟩:=hH l h hb;refine .ca l es off len tag h' a n cap e (cM hle t) (fun hx=> ?_);have ht:h'.tag=h.tag:=by omega
   rw[(m ht).1,(m ht).2];exact ha (by omega)
 | _,_,.map l h hb ht=>by
   obtain⟨h',e,-,z,m,-⟩:=hH l h hb;have:=(m ((z ht).trans ht.symm)).1;rw[<-this];exact .map l h' e (z ht)
 | _,_,.fn i fs cs xs cB ae hc=>.fn i fs cs xs cB (a1.mono hH bk ae) (a1.mono hH bk hc)
 | _,_,.yield l h hb ht=>by
   obtain⟨h',e,-,z,m,-⟩:=hH l h hb;have:=(m ((z ht).trans ht.symm)).1;rw[<-this];exact .yield l h' e (z ht)
 | _,_,.agg vs vals hr=>.agg vs vals (a1.mono hH bk hr)
 | _,_,.aU vs vals hr=>.aU vs vals (a1.mono hH bk hr)
 | _,_,.iface t v x hr=>.iface t v x (bd.mono hH bk hr)
 | _,_,.undef x=>.undef x
theorem a1.mono (hH:mh G.β G'.β)(bk:∀b,G.I b->G'.I b/\w'.heap[b]? =w.heap[b]?):∀{vs:List V} {xs:List Value},a1 fid G w vs xs->a1 fid G' w' vs xs
 | _,_,.nil=>.nil
 | _,_,.cons v x vs xs h hs=>.cons v x vs xs (bd.mono hH bk h) (a1.mono hH bk hs)
end
mutual
theorem bd.restrict{n:Nat}(hH:∀l h,l<n->G.β l=some h->∃h',G'.β l=some h'/\h'=h)(bk:∀b,G.I b->G'.I b/\w'.heap[b]? =w.heap[b]?):
  ∀{v:V} {x:Value},bd fid G w v x->old n v=true\/(bx v=true)->bd fid G' w' v x
 | _,_,.p v x h,_=>.p v x (fG.mono bk h)
 | _,_,.ptr l o h hb ht,ho=>by
   obtain⟨h',e,rfl⟩:=hH l h (by simpa[old,bx]using ho) hb;exact .ptr l o _ e ht
 | _,_,.gW l es i f tag h a hb hle ha,ho=>by
   obtain⟨h',e,rfl⟩:=hH l h (by simpa[old,bx]using ho) hb;exact .gW l es i f tag _ a e hle ha
 | _,_,.dH vs f b o vals h hc hr,_=>.dH vs f b o vals (bk b h).1 (hc.ek (bk b h).2) (c8.mono bk hr)
 | _,_,.ca l es off len tag h a n cap hb hle ha,ho=>by
   obtain⟨h',e,rfl⟩:=hH l h (by simpa[old,bx]using ho) hb;exact .ca l es off len tag _ a n cap e hle ha
 | _,_,.map l h hb ht,ho=>by
   obtain⟨h',e,rfl⟩:=hH l h (by simpa[old,bx]using ho) hb;exact .map l _ e ht
 | _,_,.fn i fs cs xs cB ae hc,ho=>by
   simp only[old,bx,cn]at ho;exact .fn i fs cs xs cB (a1.restrict hH bk ae (ho.imp And.left And.left)) (a1.restrict hH bk hc (ho.imp And.right And.right))
 | _,_,.yield l h hb ht,ho=>by
   obtain⟨h',e,rfl⟩:=hH l h (by simpa[old,bx]using ho) hb;exact .yield l _ e ht
 | _,_,.agg vs vals hr,ho=>.agg vs vals (a1.restrict hH bk hr (by simpa[old,bx]using ho))
 | _,_,.aU vs vals hr,ho=>.aU vs vals (a1.restrict hH bk hr (by simpa[old,bx]using ho))
 | _,_,.iface t v x hr,ho=>.iface t v x (bd.restrict hH bk hr (by simpa[old,bx]using ho))
 | _,_,.undef x,_=>.undef x
theorem a1.restrict{n:Nat}(hH:∀l h,l<n->G.β l=some h->∃h',G'.β l=some h'/\h'=h)(bk:∀b,G.I b->G'.I b/\w'.heap[b]? =w.heap[b]?):
  ∀{vs:List V} {xs:List Value},a1 fid G w vs xs->olds n vs=true\/cg vs=true->a1 fid G' w' vs xs
 | _,_,.nil,_=>.nil
 | _,_,.cons v x vs xs h hs,ho=>by
   have h1:old n v=true\/bx v=true:=by rcases ho with ho|ho<;>simp_all [olds,cg]
   have h2:olds n vs=true\/cg vs=true:=by rcases ho with ho|ho<;>simp_all [olds,cg]
   exact .cons v x vs xs (bd.restrict hH bk h h1) (a1.restrict hH bk hs h2)
end
mutual
theorem bd.pZ:∀{v:V} {x:Value},bd fid G w v x->bx v=true->fG w G.I v x
 | _,_,.p v x h,_=>h
 | _,_,.agg vs vals hr,ho=>.agg vs vals (a1.pZ hr (by simpa[bx]using ho))
 | _,_,.aU vs vals hr,ho=>.aU vs vals (a1.pZ hr (by simpa[bx]using ho))
 | _,_,.iface t v x hr,ho=>.iface t v x (bd.pZ hr (by simpa[bx]using ho))
 | _,_,.fn i fs cs xs cB ae hc,ho=>by
   simp only[bx,cn]at ho;exact .fn i fs cs xs cB (a1.pZ ae ho.1) (a1.pZ hc ho.2)
 | _,_,.ptr ..,ho| _,_,.gW ..,ho| _,_,.dH ..,ho| _,_,.ca ..,ho| _,_,.map ..,ho| _,_,.yield ..,ho| _,_,.undef ..,ho=>by simp[bx]at ho
theorem a1.pZ:∀{vs:List V} {xs:List Value},a1 fid G w vs xs->cg vs=true->c8 w G.I vs xs
 | _,_,.nil,_=>.nil
 | _,_,.cons v x vs xs h hs,ho=>by
   simp only[cg,cn]at ho;exact .cons v x vs xs (bd.pZ h ho.1) (a1.pZ hs ho.2)
end
theorem c8.ov:∀{vs:List V} {xs:List Value},c8 w G.I vs xs->a1 fid G w vs xs
 | _,_,.nil=>.nil
 | _,_,.cons v x vs xs h hs=>.cons v x vs xs (.p v x h) (c8.ov hs)
mutual
theorem fG.flat:∀{v:V} {x:Value},fG w I v x->Abs.flat v=true->fG w' rK v x
 | _,_,.bool b,_=>.bool b
 | _,_,.int k n,_=>.int k n
 | _,_,.str s,_=>.str s
 | _,_,.bX,_=>.bX
 | _,_,.emp a,_=>.emp a
 | _,_,.jd,_=>.jd
 | _,_,.jt,_=>.jt
 | _,_,.kt,_=>.kt
 | _,_,.jQ,_=>.jQ
 | _,_,.agg vs vals hr,h=>.agg vs vals (c8.flat hr (by simpa[Abs.flat]using h))
 | _,_,.aU vs vals hr,h=>.aU vs vals (c8.flat hr (by simpa[Abs.flat]using h))
 | _,_,.ve ..,h| _,_,.list ..,h| _,_,.iface ..,h| _,_,.fn ..,h=>by simp[Abs.flat]at h
theorem c8.flat:∀{vs:List V} {xs:List Value},c8 w I vs xs->u7 vs=true->c8 w' rK vs xs
 | _,_,.nil,_=>.nil
 | _,_,.cons v x vs xs h hs,ho=>by
   simp only[u7,cn]at ho;exact .cons v x vs xs (fG.flat h ho.1) (c8.flat hs ho.2)
end
mutual
theorem TP:∀{v:V},Abs.flat v=true->bx v=true
 | .bool _,_| .int _ _,_| .str _,_| .bX,_| .emp,_| .jd,_| .jt,_| .kt,_| .jQ,_=>rfl
 | .agg vs,h=>by simp only[bx];exact MU (by simpa[Abs.flat]using h)
 | .aU vs,h=>by simp only[bx];exact MU (by simpa[Abs.flat]using h)
 | .list ..,h| .ptr ..,h| .gW ..,h| .dH ..,h| .ca ..,h| .map ..,h| .fn ..,h| .yield ..,h| .iface ..,h| .undef,h=>by simp[Abs.flat]at h
theorem MU:∀{vs:List V},u7 vs=true->cg vs=true
 |[],_=>rfl
 |v::vs,h=>by
  simp only[u7,cn]at h;simp only[cg,cn];exact⟨TP h.1,MU h.2⟩
end
theorem bd.flat{v:V}{x:Value}(h:bd fid G w v x)(ae:Abs.flat v=true):bd fid G' w' v x:=.p _ _ ((h.pZ (TP ae)).flat ae)
theorem a1.length:∀{vs:List V} {xs:List Value},a1 fid G w vs xs->xs.length=vs.length
 | _,_,.nil=>rfl
 | _,_,.cons _ _ _ _ _ hs=>by simp[a1.length hs]
theorem a1.get:∀{vs:List V} {xs:List Value},a1 fid G w vs xs->∀{i:Nat} {v:V},vs[i]? =some v->∃x,xs[i]? =some x/\bd fid G w v x
 | _,_,.nil,i,v,h=>by simp at h
 | _,_,.cons v x vs xs h hs,0,u,e=>by simp at e;subst e;exact⟨x,by simp,h⟩
 | _,_,.cons v x vs xs h hs,i+1,u,e=>by simpa using a1.get hs (by simpa using e)
theorem a1.append:∀{vs us:List V} {xs cB:List Value},a1 fid G w vs xs->a1 fid G w us cB->a1 fid G w (vs++us) (xs++cB)
 | _,_,_,_,.nil,k=>k
 | _,_,_,_,.cons v x vs xs h hs,k=>.cons v x _ _ h (a1.append hs k)
theorem a1.split:∀{vs us:List V} {c1:List Value},a1 fid G w (vs++us) c1->∃xs cB,c1=xs++cB/\a1 fid G w vs xs/\a1 fid G w us cB
 |[],us,c1,h=>⟨[],c1,rfl,.nil,h⟩
 |v::vs,us,_,.cons _ x _ xs h hs=>by
  obtain⟨aQ,aH,rfl,h1,h2⟩:=a1.split (vs:=vs) hs;exact⟨x::aQ,aH,rfl,.cons v x vs aQ h h1,h2⟩
theorem a1.set:∀{vs:List V} {xs:List Value},a1 fid G w vs xs->∀(i:Nat) {v:V} {x:Value},bd fid G w v x->a1 fid G w (vs.set i v) (xs.set i x)
 | _,_,.nil,_,_,_,_=>.nil
 | _,_,.cons v x vs xs h hs,0,u,y,k=>.cons u y vs xs k hs
 | _,_,.cons v x vs xs h hs,i+1,u,y,k=>.cons v x _ _ h (a1.set hs i k)
theorem a1.drop:∀{vs:List V} {xs:List Value},a1 fid G w vs xs->∀(n:Nat),a1 fid G w (vs.drop n) (xs.drop n)
 | _,_,h,0=>by simpa using h
 | _,_,.nil,n+1=>.nil
 | _,_,.cons v x vs xs h hs,n+1=>by simpa using a1.drop hs n
theorem a1.take:∀{vs:List V} {xs:List Value},a1 fid G w vs xs->∀(n:Nat),a1 fid G w (vs.take n) (xs.take n)
 | _,_,h,0=>by simpa using a1.nil
 | _,_,.nil,n+1=>.nil
 | _,_,.cons v x vs xs h hs,n+1=>.cons v x _ _ h (a1.take hs n)
theorem a1.agd{vs:List V}{xs:List Value}(hl:xs.length=vs.length)(h:∀(i:Nat) v x,vs[i]? =some v->xs[i]? =some x->bd fid G w v x):a1 fid G w vs xs:=by
 induction vs generalizing xs with
 |nil=>cases xs with
  |nil=>exact .nil
  |cons=>simp at hl
 |cons v vs ih=>cases xs with
  |nil=>simp at hl
  |cons x xs=>exact .cons v x vs xs (h 0 v x rfl rfl) (ih (by simpa using hl) (fun i v x a b=>h (i+1) v x (by simpa using a) (by simpa using b)))
theorem c8.drop:∀{vs:List V} {xs:List Value},c8 w I vs xs->∀(n:Nat),c8 w I (vs.drop n) (xs.drop n)
 | _,_,h,0=>by simpa using h
 | _,_,.nil,n+1=>.nil
 | _,_,.cons _ _ _ _ _ hs,n+1=>by simpa using c8.drop hs n
theorem c8.take:∀{vs:List V} {xs:List Value},c8 w I vs xs->∀(n:Nat),c8 w I (vs.take n) (xs.take n)
 | _,_,_,0=>by simpa using c8.nil
 | _,_,.nil,n+1=>.nil
 | _,_,.cons v x _ _ h hs,n+1=>.cons v x _ _ h (c8.take hs n)
theorem c8.length{vs:List V}{xs:List Value}(h:c8 w I vs xs):xs.length=vs.length:=a1.length (fid:=id) (G:=⟨fun _=>none,I⟩) (c8.ov h)
def MV:X->Option Code->Prop
 | .normal,none=>True
 | .exit id,some (.exit ud)=>ud=id
 | .ret,some .ret=>True
 | _,_=>False
def o4 (es:Array MapEntry)(bL:Nat):Prop:=(∀x∈es.toList,x.born<bL)/\(es.toList.map (·.born)).Nodup
def D1 (C:Ctx)(w:World)(b:Nat)(vs:List V):Prop:=∀v,vs=[.undef,v]->∃c e,w.heap[b]? =some (.cells c e (0,0))/\C.yQ=some e/\(c[0]? =some (.pointer none)\/c[0]? =some (.pointer (some ⟨b,0,none⟩)))
def jT (C:Ctx)(fid:Nat->Nat)(G:bT)(w:World)(h:Home):bU->Prop
 | .cells vs=>(h.tag=0/\D1 C w h.b vs)/\h.fz=false/\∃c e,w.heap[h.b]? =some (.cells c e (0,0))/\a1 fid G w vs c.toList
 | .row es ds fz=>h.tag=ds.length/\0<ds.length/\h.fz=fz/\0<es/\(∀d∈ds,(aE d).length=es)/\
  ∃c e vals rest,w.heap[h.b]? =some (.cells c e (0,0))/\h.fp=c.size/\c.toList=vals++rest/\a1 fid G w (ds.flatMap aE) vals
 | .map bf=>h.tag=0/\h.fz=false/\∃es bL,w.heap[h.b]? =some (.map es bL)/\
  a1 fid G w (bf.map (·.1)) (es.toList.map (·.key))/\a1 fid G w (bf.map (·.2)) (es.toList.map (·.val))/\o4 es bL
 | .loop st ub env params assign body=>h.tag=0/\h.fz=false/\∃L vars,w.heap[h.b]? =some (.loop L)/\L.state=st/\MV ub L.pending/\
  L.params.toList=params/\(∀t∈params,t∈vars/\t<L.tmps.size)/\
  C.code vars L.tmps.size L.assign=some assign/\C.code vars L.tmps.size L.body=some body/\∀t∈vars,bd fid G w (bA env t) (L.tmps.getD t undef)
 | .qC s=>h.fz=false/\h.tag=s.length/\0<s.length/\∃c rest,w.heap[h.b]? =some (.cells c C.xl (0,0))/\h.fp=c.size/\c.toList=(s.map fun b=>Value.int .u8 b.toNat)++rest
 | .dead n=>h.fz=false/\h.tag=n
 | .gone=>h.tag=0/\h.fz=false
structure aX (C:Ctx) (fid:Nat->Nat) (G:bT) (H:Heap) (w:World):Prop where
 obj:∀l h,G.β l=some h->∃o,H[l]? =some o/\jT C fid G w h o
 inj:∀l fc h h',G.β l=some h->G.β fc=some h'->h.b=h'.b->l=fc
 blk:∀l h,G.β l=some h->h.b<w.heap.size
 c0:∀b,G.I b->b<w.heap.size/\∀l h,G.β l=some h->h.b=b->h.fz=true
 ky:∀l h,G.β l=some h->h.fz=true->G.I h.b
 e2:∀b o,C.e2 b=some o->G.I b/\w.heap[b]? =some o
structure Ext (G:bT) (w:World) (G':bT) (w':World) (m n:Nat):Prop where
 size:w.heap.size<=w'.heap.size
 os:w'.os=w.os
 output:w'.output=w.output
 ek:∀b,b<w.heap.size->(∀l h,G.β l=some h->h.b=b->h.fz=true\/l<m)->w'.heap[b]? =w.heap[b]?
 homes:mh G.β G'.β
 ow:∀l h',G'.β l=some h'->(∃h,G.β l=some h/\(h.b=h'.b\/w.heap.size<=h'.b))\/(n<=l/\w.heap.size<=h'.b)
 c0:∀b,G.I b->G'.I b
 o5:∀b,G'.I b->G.I b\/w.heap.size<=b\/∃l h,G.β l=some h/\h.b=b
theorem Ext.MW{m n:Nat}(h:Ext G w G' w' m n)(l:Nat)(h':Home)(e:G'.β l=some h'):(∃h,G.β l=some h/\h.b=h'.b)\/w.heap.size<=h'.b:=by
 rcases h.ow l h' e with⟨h0,eL,q|q⟩|⟨_,q⟩
 ·exact .inl ⟨h0,eL,q⟩
 ·exact .inr q
 ·exact .inr q
theorem Ext.refl (G:bT)(w:World)(m n:Nat):Ext G w G w m n:=
 ⟨aF _,rfl,rfl,fun _ _ _=>rfl,.refl _,fun _ h hb=>.inl ⟨h,hb,.inl rfl⟩,fun _ h=>h,fun _ h=>.inl h⟩
theorem Ext.le{m m' n TQ:Nat}(h:Ext G w G' w' m n)(hm:m'<=m)(hn:TQ<=n):Ext G w G' w' m' TQ:=
 {h with ek:=fun b hb k=>h.ek b hb fun l x ab aj=>(k l x ab aj).imp id fun q=>rB q hm
         ow:=fun l h' e=>(h.ow l h' e).imp id fun q=>⟨cM hn q.1,q.2⟩}
theorem Ext.trans{TR:bT}{gl:World}{m n:Nat}(h:Ext G w G' w' m n)(k:Ext G' w' TR gl m n):Ext G w TR gl m n where
 size:=cM h.size k.size
 os:=k.os.trans h.os
 output:=k.output.trans h.output
 ek b hb hk:=by
  rw[k.ek b (rB hb h.size) ?_,h.ek b hb hk];intro l h1 ab aj;rcases h.MW l h1 ab with⟨h0,eL,eb⟩|hn
  ·rcases hk l h0 eL (eb.trans aj)with ae|hl
   ·obtain⟨h',e',-,-,-,me⟩:=h.homes l h0 eL
    rw[ab]at e';cases e';rw[me ae];exact .inl ae
   ·exact .inr hl
  ·omega
 homes:=h.homes.trans k.homes
 ow l h2 e:=by
  have hs:=h.size;rcases k.ow l h2 e with⟨h1,ab,eb⟩|⟨hn,hb⟩
  ·rcases h.ow l h1 ab with⟨h0,eL,Bv⟩|⟨hn,hb⟩
   ·refine .inl ⟨h0,eL,?_⟩
    rcases eb with eb|eb<;>rcases Bv with Bv|Bv
    ·exact .inl (Bv.trans eb)
    ·exact .inr (by omega)
    ·exact .inr (by omega)
    ·exact .inr (by omega)
   ·exact .inr ⟨hn,by rcases eb with eb|eb<;>omega⟩
  ·exact .inr ⟨hn,by omega⟩
 c0 b hb:=k.c0 b (h.c0 b hb)
 o5 b hb:=by
  rcases k.o5 b hb with h1|h1|⟨l,h1,ab,eb⟩
  ·exact h.o5 b h1
  ·exact .inr (.inl (cM h.size h1))
  ·rcases h.MW l h1 ab with⟨h0,eL,Bv⟩|hn
   ·exact .inr (.inr ⟨l,h0,eL,Bv.trans eb⟩)
   ·exact .inr (.inl (by omega))
theorem aX.TS{C:Ctx}{H:Heap}{m n:Nat}(U:aX C fid G H w)(h:Ext G w G' w' m n):∀b,G.I b->G'.I b/\w'.heap[b]? =w.heap[b]? :=fun b hb=>
 ⟨h.c0 b hb,h.ek b (U.c0 b hb).1 fun l x ab aj=>.inl ((U.c0 b hb).2 l x ab aj)⟩
theorem bd.ext{C:Ctx}{H:Heap}{m n:Nat}(U:aX C fid G H w)(h:Ext G w G' w' m n){v:V}{x:Value}(k:bd fid G w v x):bd fid G' w' v x:=
 k.mono h.homes (U.TS h)
theorem a1.ext{C:Ctx}{H:Heap}{m n:Nat}(U:aX C fid G H w)(h:Ext G w G' w' m n){v:List V}{x:List Value}(k:a1 fid G w v x):a1 fid G' w' v x:=
 k.mono h.homes (U.TS h)
theorem jT.mono{C:Ctx}(hH:mh G.β G'.β)(bk:∀b,G.I b->G'.I b/\w'.heap[b]? =w.heap[b]?){h:Home}(hb:w'.heap[h.b]? =w.heap[h.b]?):∀{o:bU},jT C fid G w h o->jT C fid G' w' h o
 | .cells vs,⟨a,b,c,e,hc,hr⟩=>⟨⟨a.1,fun v af=>by rw[hb];exact a.2 v af⟩,b,c,e,by rw[hb];exact hc,hr.mono hH bk⟩
 | .row es ds fz,⟨a,b,c,d,u,TT,e,vals,rest,hc,hs,hl,hr⟩=>⟨a,b,c,d,u,TT,e,vals,rest,by rw[hb];exact hc,hs,hl,hr.mono hH bk⟩
 | .map bf,⟨a,b,es,bL,hc,hk,af,hs⟩=>⟨a,b,es,bL,by rw[hb];exact hc,hk.mono hH bk,af.mono hH bk,hs⟩
 | .loop ..,⟨a,b,L,vars,hc,hs,hp,nG,hin,ha,age,he⟩=>⟨a,b,L,vars,by rw[hb];exact hc,hs,hp,nG,hin,ha,age,fun t ht=>(he t ht).mono hH bk⟩
 | .qC s,⟨a,b,d,c,rest,hc,hs,hl⟩=>⟨a,b,d,c,rest,by rw[hb];exact hc,hs,hl⟩
 | .dead _,h=>h
 | .gone,h=>h
end Go.Abs
