/- Texts of this claim, joined and written short by a program. -/
import Derived.Test.YtonmjjfciemcoaaGreatDoorP09
import Derived.Lib.ItoaNum
import Derived.Below
import Derived.Test.YtonmjjfciemcoaaGreatDoorP01
import Derived.Test.YtonmjjfciemcoaaGreatDoorP00
set_option linter.unusedVariables false
set_option linter.unusedSimpArgs false
set_option linter.unusedSectionVars false
namespace Go.Abs.bz
open Go Go.Abs Go.Proofs
variable{fid:Nat->Nat}{g:Nat->Option Obj}
set_option maxRecDepth 100000 in
theorem w0{i:Nat}{fn:Func}(ag:Tryz.prog.funcs[i]? =some fn)(hb:fn.body.isSome=true)(hn:(fn.name== "runtime.NumGoroutine")=false){R:Value->World->Prop}{xs:List Value}{w:World}
  (h:Calls Tryz.prog i ⟨xs⟩ w fun e w'=>∃x,e=.returned x/\R x w'):ss (C g).P R ((callFunc i ⟨xs⟩).run (C g).P w):=by
 obtain⟨c,hc⟩:=Option.isSome_iff_exists.1 hb;rw[DF (C:=C g) ag hc hn];exact h
theorem yD{w:World}{I:Nat->Prop}{s:List UInt8}{x:Value}(h:fN w I (.str s) x):x=.string ⟨⟨s⟩⟩:=by cases h;rfl
theorem Zv:Tryz.f356.body.isSome=true:=by kernel_rfl
theorem Zw:(Tryz.f356.name== "runtime.NumGoroutine")=false:=by kernel_rfl
theorem aoi:Tryz.f452.body.isSome=true:=by kernel_rfl
theorem aoj:(Tryz.f452.name== "runtime.NumGoroutine")=false:=by kernel_rfl
theorem aok:Tryz.f260.body.isSome=true:=by kernel_rfl
theorem aol:(Tryz.f260.name== "runtime.NumGoroutine")=false:=by kernel_rfl
theorem aom:Tryz.f449.body.isSome=true:=by kernel_rfl
theorem aon:(Tryz.f449.name== "runtime.NumGoroutine")=false:=by kernel_rfl
theorem aoo{ds:List V}{l:List (List UInt8)}(h:strs ds=some l):ds=l.map .str:=by
 induction ds generalizing l with
 |nil=>cases h;rfl
 |cons v r ih=>
  cases v<;>first|(cases h;done)|skip
  simp only[strs]at h;obtain⟨m,hm,rfl⟩:=cA.1 h;rw[ih hm];rfl
theorem Zx{w:World}{I:Nat->Prop}:∀{l:List (List UInt8)} {vals:List Value},dh w I ((l.map V.str).flatMap aC) vals->vals=l.map fun s=>Value.string ⟨⟨s⟩⟩
 |[],vals,h=>by cases h;rfl
 |s::r,vals,h=>by
  rw[dv,im]at h;cases h with
  |cons _ x _ xs h1 h2=>
   obtain rfl:=yD h1;rw[Zx h2];rfl
set_option maxRecDepth 100000 in
theorem aop:nY (C g) id 356 OV:=by
 intro G H w args v xs ab eN hs;unfold OV at hs;split at hs
 ·rename_i sep
  cases hs;cases eN with
  |cons _ x _ xs h1 gw=>
   cases gw with
   |cons _ y _ cK h2 my=>
    cases my;cases h1;obtain rfl:=yD h2;refine w0 Tryz.func356 Zv Zw ((Tryz.strings_Join_none none 0 _ w).mono ?_);rintro e w' ⟨rfl,rfl⟩;exact⟨_,rfl,G,ab,fun m _=>.refl _ _ _ _,.p _ _ (.str [])⟩
 ·rename_i es ds sep
  split at hs
  ·rename_i l hl
   split at hs
   ·rename_i hc
    obtain⟨rfl,bg,jZ,oJ⟩:=hc;cases hs;obtain rfl:=aoo hl;cases eN with
    |cons _ x _ xs h1 gw=>
     cases gw with
     |cons _ y _ cK h2 my=>
      cases my;obtain rfl:=yD h2;generalize n1:l.map V.str=D at h1;cases h1 with
      |vY _ a cap=>exact absurd (List.map_eq_nil_iff.1 n1) bg
      |list _ _ b o cap vals bq fm hu hr aoq=>
       subst n1;obtain rfl:=Zx hr;have AU:((l.map fun s=>(⟨⟨s⟩⟩:ByteArray)).map (·.data.toList))=l:=by rw[kX];exact List.map_id l
       have hj:=Tryz.strings_Join b o cap (l.map fun s=>⟨⟨s⟩⟩) ⟨⟨sep⟩⟩ w (fun j y hy=>by
        refine fm j _ ?_;simp only[hL]at hy⊢;cases aR:l[j]? with
        |none=>rw[aR]at hy;cases hy
        |some z=>rw[aR]at hy;cases hy;rfl) (ab.da b bq).1 (by simp;omega) (by simpa using aoq) (by rw[AU];simp only[CF];omega)
       rw[AU]at hj;simp only[eL]at hj⊢;refine w0 Tryz.func356 Zv Zw (hj.mono ?_);rintro e w' ⟨rfl,hb⟩;exact⟨_,rfl,G,ab.restore hb.size hb.block,fun m _=>.restore hb.size hb.block hb.os hb.output m _,.p _ _ (.str (Lib.join l sep))⟩
   ·cases hs
  ·cases hs
 ·cases hs
theorem Zy:Tryz.f132.body.isSome=true:=by kernel_rfl
theorem Zz:(Tryz.f132.name== "runtime.NumGoroutine")=false:=by kernel_rfl
set_option maxRecDepth 100000 in
theorem aor (pB:∀(G:bX) (H:Heap) (w:World),a8 (C g) id G H w->Lib.TabIs Tryz.prog w "internal/strconv.uint64pow10" .u64 Lib.pow10Tab):nY (C g) id 132 OW:=by
 intro G H w args v xs ab eN hs;unfold OW at hs;split at hs
 ·rename_i n
  split at hs
  ·rename_i hn
   cases hs;obtain⟨k,rfl⟩:=zw hn.1;cases eN with
   |cons _ x _ xs h1 gw=>
    cases gw;cases h1;have hk:k<10:=by omega
    refine w0 Tryz.func132 Zy Zz ((Tryz.strconv_Itoa_small k (by omega) w).mono ?_);rintro e w' ⟨rfl,rfl⟩;rw[Lib.decDigits_one hk];exact⟨_,rfl,G,ab,fun m _=>.refl _ _ _ _,.p _ _ (.str _)⟩
  ·split at hs
   ·rename_i hn
    cases hs;cases eN with
    |cons _ x _ xs h1 gw=>
     cases gw;cases h1;refine w0 Tryz.func132 Zy Zz ((Tryz.strconv_Itoa n (by omega) (by omega) w (pB G H w ab)).mono ?_);rintro e w' ⟨rfl,q,os,rfl⟩
     have af:Lib.itoa n=[45,UInt8.ofNat (48+n.natAbs)]:=by
      unfold Lib.itoa;rw[if_pos hn.2,Lib.decDigits_one (by omega)]
     have de:w.heap.size<=(Sort.grow (w.drewN q) os).heap.size:=by simp[Sort.grow,World.drewN]
     have hk:∀b,b<w.heap.size->(Sort.grow (w.drewN q) os).heap[b]? =w.heap[b]? :=fun b hb=>by
      simp only[Sort.grow,World.drewN];rw[Wm hb]
     rw[af];exact⟨_,rfl,G,ab.restore de hk,fun m _=>.restore de hk rfl rfl m _,.p _ _ (.str _)⟩
   ·cases hs
 ·cases hs
set_option maxRecDepth 100000 in
theorem aos:nY (C g) id 452 FR:=by
 intro G H w args v xs ab eN hs;unfold FR at hs;split at hs
 ·rename_i s c
  cases hs;cases eN with
  |cons _ x _ xs h1 gw=>
   cases gw with
   |cons _ y _ cK h2 my=>
    cases my;cases h2;obtain rfl:=yD h1;refine w0 Tryz.func452 aoi aoj ((Tryz.strings_IndexByte _ c w).mono ?_);rintro e w' ⟨rfl,rfl⟩;exact⟨_,rfl,G,ab,fun m _=>.refl _ _ _ _,.p _ _ (.int .i64 _)⟩
 ·cases hs
set_option maxRecDepth 100000 in
theorem aot:nY (C g) id 260 OU:=by
 intro G H w args v xs ab eN hs;unfold OU at hs;split at hs
 ·rename_i s
  split at hs
  ·rename_i hl
   obtain⟨n,hn,rfl⟩:=cA.1 hs;cases eN with
   |cons _ x _ xs h1 gw=>
    cases gw;obtain rfl:=yD h1;refine w0 Tryz.func260 aok aol ((Tryz.strconv_Atoi ⟨⟨s⟩⟩ n hl hn w).mono ?_);rintro e w' ⟨rfl,t,rfl⟩
    have de:w.heap.size<=(Lib.bytesWorld w 5 t).heap.size:=by
     unfold Lib.bytesWorld World.freeze;have h0:w.drew.heap=w.heap:=rfl;split<;>simp[h0]
    have hk:∀b,b<w.heap.size->(Lib.bytesWorld w 5 t).heap[b]? =w.heap[b]? :=fun b hb=>by
     have h1:(w.drew.alloc (.cells (Lib.bytesCells w 5 t) 5)).heap[b]? =w.heap[b]? :=alloc_old (w:=w.drew) hb;unfold Lib.bytesWorld World.freeze;split
     ·exact h1
     ·show(Array.modify _ _ _)[b]? =_
      rw[CD,if_neg (fun e=>by have e':w.heap.size=b:=e;omega)];exact h1
    have C3:(Lib.bytesWorld w 5 t).os=w.os/\(Lib.bytesWorld w 5 t).tape=w.tape/\(Lib.bytesWorld w 5 t).output=w.output:=by
     unfold Lib.bytesWorld World.freeze;split<;>exact⟨rfl,rfl,rfl⟩
    refine⟨_,rfl,G,ab.restore de hk,fun m _=>.restore de hk C3.1 C3.2.2 m _,.p _ _ (.aU _ _ (.cons _ _ _ _ (.int .i64 n) (.cons _ _ _ _ .jO .nil)))⟩
  ·cases hs
 ·cases hs
theorem ZA{w:World}{I:Nat->Prop}:∀(l:List (List UInt8)),dh w I ((l.map V.str).flatMap aC) (l.map fun x=>Value.string ⟨x.toArray⟩)
 |[]=>.nil
 |a::l=>.cons _ _ _ _ (.str a) (ZA l)
set_option maxRecDepth 100000 in
theorem aou (pB:∀(G:bX) (H:Heap) (w:World),a8 (C g) id G H w->Lib.TabIs Tryz.prog w "strings.asciiSpace" .u8 Lib.asciiSpaceTab):nY (C g) id 449 FQ:=by
 intro G H w args v xs ab eN hs;unfold FQ at hs;split at hs
 ·rename_i s
  split at hs
  ·rename_i hc
   simp only[b6,decide_eq_true_eq]at hc;cases hs;cases eN with
   |cons _ x _ xs h1 gw=>
    cases gw;obtain rfl:=yD h1;refine w0 Tryz.func449 aom aon ((Tryz.strings_Fields ⟨⟨s⟩⟩ w hc.2 (fun j b hb=> ?_) (pB G H w ab)).mono ?_)
    ·have:=ev.1 hc.1 b (gg hb)
     have h':=UInt8.lt_iff_toNat_lt.1 (of_decide_eq_true this);simpa using h'
    rintro e w' ⟨rfl,rfl⟩;refine⟨_,rfl,⟨G.β,fun b=>G.I b\/(b=w.heap.size/\True)⟩,ab.sn _ True,fun m _=>.sn _ True m _,?_⟩;refine .p _ _ ?_;cases ag:Lib.fields s with
    |nil=>simp only[Oq,if_true,nL];exact .emp _
    |cons a r=>
     simp only[List.isEmpty_cons,gq,if_false];rw[<-eL (f:=V.str)];refine .list 1 _ _ 0 _ _ (.inr ⟨rfl,trivial⟩) ?_ (fun d hd=> ?_) (ZA (a::r)) (aH _)
     ·intro j x hx
      rw[Xo (mr w _),dA,<-fM];exact hx
     ·obtain⟨y,-,rfl⟩:=dZ.1 hd
      rfl
  ·cases hs
 ·cases hs
theorem aov:Tryz.f142.body.isSome=true:=by kernel_rfl
theorem aow:(Tryz.f142.name== "runtime.NumGoroutine")=false:=by kernel_rfl
set_option maxRecDepth 100000 in
theorem aox:nY (C g) id 142 OX:=by
 intro G H w args v xs ab eN hs;unfold OX at hs;split at hs
 ·rename_i n
  have key:∀k:Nat,(k=0\/k=1\/k=2)->n=(k:Int)->v=.int .i64 (k:Int)->ss (C g).P (k7 (C g) id G H w v H H.length) ((callFunc 142 ⟨xs⟩).run (C g).P w):=fun k hk hn ad=>by
   subst hn;subst ad;cases eN with
   |cons _ x _ xs h1 gw=>
    cases gw;cases h1;refine w0 Tryz.func142 aov aow ((Tryz.bits_Len (k:Int) w (by omega) (by omega)).mono ?_);rintro e w' ⟨rfl,rfl⟩;have:(Lib.bitLen (k:Int).toNat:Int)=(k:Int):=by rcases hk with rfl|rfl|rfl<;>rfl
    exact⟨_,rfl,G,ab,fun m _=>.refl _ _ _ _,by rw[this];exact .p _ _ (.int .i64 _)⟩
  split at hs
  ·rename_i h;cases hs;exact key 0 (.inl rfl) h rfl
  ·split at hs
   ·rename_i h;cases hs;exact key 1 (.inr (.inl rfl)) h rfl
   ·split at hs
    ·rename_i h;cases hs;exact key 2 (.inr (.inr rfl)) h rfl
    ·cases hs
 ·cases hs
theorem aoy:Tryz.f389.body.isSome=true:=by kernel_rfl
theorem aoz:(Tryz.f389.name== "runtime.NumGoroutine")=false:=by kernel_rfl
set_option maxRecDepth 100000 in
theorem aoA:nY (C g) id 389 OY:=by
 intro G H w args v xs ab eN hs;unfold OY at hs;split at hs
 ·rename_i s c
  split at hs
  ·rename_i hc
   cases hs;cases eN with
   |cons _ x _ xs h1 gw=>
    cases gw with
    |cons _ y _ cK h2 my=>
     cases my;obtain rfl:=yD h1;obtain rfl:=yD h2;have tr:c.toNat<128:=by simpa using UInt8.lt_iff_toNat_lt.1 hc
     refine w0 Tryz.func389 aoy aoz ((Tryz.strings_TrimLeft_one ⟨⟨s⟩⟩ c tr w).mono ?_);rintro e w' ⟨rfl,rfl⟩;exact⟨_,rfl,G,ab,fun m _=>.refl _ _ _ _,.p _ _ (.str _)⟩
  ·cases hs
 ·cases hs
end Go.Abs.bz
namespace Go.Abs
open Go
def AV (es:Nat):V->Bool
 | .aN| .emp=>true
 | .list bN _=>bN==es
 | _=>false
def el:V->List V
 | .list _ ds=>ds
 | _=>[]
section
variable{call:cW}{ah:aj->V}{H:Heap}{low:Nat}
theorem rp (x:aj):cc call ah H low (.mv x)=some (ah x,H,low):=rfl
theorem pC (c a b:aj):cc call ah H low (.pick c a b)=(p9 (ah c)).map fun t=>(if t then ah a else ah b,H,low):=rfl
theorem sE (z:List V):cc call ah H low (.alloc z)=some (.ptr H.length 0,H++[.cells z],low):=rfl
theorem w1 (x:aj):cc call ah H low (.box x)=if bL (aC (ah x))then some (.ptr H.length 0,H++[.cells (aC (ah x))],low)else none:=rfl
theorem n2 (sh:Option Nat)(x:aj):cc call ah H low (.load sh x)=(jQ H sh (ah x)).map fun v=>(v,H,low):=rfl
theorem l3 (n:Nat)(a x:aj):cc call ah H low (.store n a x)=(jy H n (ah a) (ah x)).map fun(H',l)=>(.undef,H',min low l):=rfl
theorem nv (op:BinOp)(x y:aj):cc call ah H low (.bin op x y)=(en op (ah x) (ah y)).map fun v=>(v,H,low):=rfl
theorem qB (op:UnOp)(x:aj):cc call ah H low (.un op x)=(qa op (ah x)).map fun v=>(v,H,low):=rfl
theorem rq (k:Nat)(neg:Bool)(x y:aj):cc call ah H low (.r5 k neg x y)=(qY k (ah x) (ah y)).map fun e=>(.bool (if neg then !e else e),H,low):=rfl
theorem QZ (i:Nat)(a b:List aj):cc call ah H low (.uY i a b)=some (.fn i (a.map ah) (b.map ah),H,low):=rfl
theorem Q0:cc call ah H low .mkMap=some (.map H.length,H++[.map []],low):=rfl
theorem sF (x:aj)(i:Nat):cc call ah H low (.extract x i)=match ah x with
 | .aU vs=>(vs[i]?).map fun v=>(v,H,low)
 | _=>none:=rfl
theorem aoB (off:Nat)(sh:Option Nat)(x:aj):cc call ah H low (.field off sh x)=match ah x with
 | .agg vs=>(iJ vs off sh).map fun v=>(v,H,low)
 | _=>none:=rfl
theorem n3 (off:Nat)(x:aj):cc call ah H low (.fieldAddr off x)=match ah x with
 | .ptr l o=>some (.ptr l (o+off),H,low)
 | .hz l es i f tag=>some (.hz l es i (f+off) tag,H,low)
 | .dO vs f=>some (.dO vs (f+off),H,low)
 | _=>none:=rfl
theorem qC (f:aj)(args:List aj):cc call ah H low (.call false f args)=match e0 H low (args.map ah)with
 |some (vs,H',low')=>match call (ah f) vs H' with
  |some (v,J8,l)=>if flat v=true/\H'.length<=l then some (v,H,low)else some (v,J8,min low' l)
  |none=>none
 |none=>none:=rfl
theorem nw (f:aj)(args:List aj):cc call ah H low (.call true f args)=match call (ah f) (args.map ah) H with
 |some (v,H',l)=>some (v,H',min low l)
 |none=>none:=rfl
theorem n4 (es bytes:Nat)(a b:aj):cc call ah H low (.append es bytes a b)=step ah H low (.append es bytes a b):=rfl
theorem Lq (es:Nat)(z:List V)(n:Nat)(ps:List (Nat × aj))(jP:Bool):cc call ah H low (.lit es z n ps jP)=step ah H low (.lit es z n ps jP):=rfl
theorem Q1 (es:Nat)(z:List V)(b:Nat)(l c:aj):cc call ah H low (.mkSlice es z b l c)=step ah H low (.mkSlice es z b l c):=rfl
theorem DL (es:Nat)(x:aj)(lo hi mx:Option aj):cc call ah H low (.ti es x lo hi mx)=step ah H low (.ti es x lo hi mx):=rfl
theorem GX (k:Nat)(z:V)(x i:aj)(ok:Bool):cc call ah H low (.lookup k z x i ok)=step ah H low (.lookup k z x i ok):=rfl
theorem Q2 (k:Nat)(m x v:aj):cc call ah H low (.p8 k m x v)=step ah H low (.p8 k m x v):=rfl
theorem ZB (m:Bool)(x y:aj):cc call ah H low (.vU m x y)=step ah H low (.vU m x y):=rfl
theorem ZC{x:aj}(es:Nat)(h:AV es (ah x)=true):cc call ah H low (.len 1 x)=some (.int .i64 (el (ah x)).length,H,low):=by
 show step ah H low (.len 1 x)=_;cases hx:ah x<;>simp_all [AV,step,el]
theorem aoC{es:Nat}{x i:aj}(h:AV es (ah x)=true):cc call ah H low (.indexAddr es x i)=match kE (ah i)with
  |some k=>((el (ah x))[k]?).map fun d=>(.dO (aC d) 0,H,low)
  |none=>none:=by
 show step ah H low (.indexAddr es x i)=_;cases hx:ah x<;>simp_all [AV,step,el]<;>cases kE (ah i)<;>rfl
end
@[simp] theorem aDG (k : IntKind) (n : Nat) : kE (.int k (n : Int)) = some n := by simp [kE]
@[simp] theorem lJ (H : Heap) : ew H H H.length = false := by simp [ew]
theorem wrap_small{n:Int}(h1:-9223372036854775808<=n)(h2:n<9223372036854775808):IntKind.i64.wrap n=n:=by
 have e:(2^IntKind.i64.bits:Int)=18446744073709551616:=rfl;have e':(2^(IntKind.i64.bits-1):Int)=9223372036854775808:=rfl;have s:IntKind.i64.signed=true:=rfl;simp only[IntKind.wrap,e,e',s,fU,decide_eq_true_eq];split<;>omega
theorem gn (e:Env)(t ey:Nat)(v:V):bG (dD e t v) ey=if ey=t then v else bG e ey:=by
 induction e with
 |nil=>
  by_cases h:ey=t
  ·subst h;simp[dD,bG]
  ·simp[dD,bG,h,ly h]
 |cons p r ih=>
  obtain⟨k,u⟩:=p;simp only[dD];split
  ·rename_i hk
   subst hk;by_cases h:ey=k
   ·subst h;simp[bG]
   ·simp[bG,h,ly h]
  ·rename_i hk
   simp only[bG];split
   ·rename_i h
    rw[if_neg (by omega)]
   ·exact ih
def tV (b n i t blk ex:Nat)(body:bZ):bZ:=
 .seq (.region [⟨some (b,true),.bin .lss (.var i) (.var n),none⟩] none) (.seq (.cond (.var b) (.skip) (.exit ex)) (.seq (.block blk body)
  (.region [⟨some (t,false),.bin .add (.var i) (.const (.int .i64 1)),none⟩,⟨some (i,true),.mv (.tmp t),none⟩] none)))
theorem ZD{aa:Nat->Option bU}{b n i t blk ex:Nat}{body:bZ}{I:Nat->av->Prop}{Q:X->av->Prop}{N:Nat}(dG:N<4611686018427387904)(Yl:b≠i)(hex:ex≠blk)
  (bq:∀k st,I k st->bG st.au i=.int .i64 k/\bG st.au n=.int .i64 N/\st.low<=st.H.length)
  (round:∀k st,k<N->I k st->∃x st2,c4 aa body {st with aF:=[],au:=dD st.au b (.bool true)}=some (x,st2)/\
    if x=.normal\/x=.exit blk then bG st2.au i=.int .i64 k/\st2.low<=st2.H.length/\I (k+1) {st2 with aF:=[],au:=dD st2.au i (.int .i64 ((k+1:Nat):Int))}else Q x st2)
  (done:∀st,I N st->Q (.exit ex) {st with aF:=[],au:=dD st.au b (.bool false)}):
  ∀j k st,k+j=N->I k st->∃x aQ,c4 aa (.loop (tV b n i t blk ex body)) st=some (x,aQ)/\Q x aQ:=by
 have aT:∀k st,I k st->c4 aa (.region [⟨some (b,true),.bin .lss (.var i) (.var n),none⟩] none) st=some (.normal,{st with aF:=[],au:=dD st.au b (.bool (decide (k<N)))}):=fun k st h=>by
  obtain⟨h1,h2,ar⟩:=bq k st h;rw[k2];simp[c3,gE,nv,aj.ah,h1,h2,en,av.put,qU ar]
 intro j
 induction j with
 |zero=>
  intro k st hk h;have:k=N:=by omega
  subst this;refine⟨.exit ex,_,?_,done st h⟩;rw[sa];simp only[tV];rw[hM,aT k st h];simp only[];rw[hM,mn];simp[aj.ah,gn,q3]
 |succ j ih=>
  intro k st hk h;obtain⟨x,st2,h1,h2⟩:=round k st (by omega) h
  have yC:∀r,c4 aa (.seq (.block blk body) (.region [⟨some (t,false),.bin .add (.var i) (.const (.int .i64 1)),none⟩,⟨some (i,true),.mv (.tmp t),none⟩] none)) {st with aF:=[],au:=dD st.au b (.bool true)}=r->
    c4 aa (tV b n i t blk ex body) st=r:=fun r hr=>by
   simp only[tV];rw[hM,aT k st h];simp only[];rw[hM,mn];have hd:decide (k<N)=true:=by simp;omega
   simp[aj.ah,gn,nO,hd,hr]
  by_cases hx:x=.normal\/x=.exit blk
  ·rw[if_pos hx]at h2
   obtain⟨h2,aS,ar⟩:=h2
   have hblk:c4 aa (.block blk body) {st with aF:=[],au:=dD st.au b (.bool true)}=some (.normal,st2):=by
    rw[mo,h1];rcases hx with rfl|rfl
    ·rfl
    ·simp
   have aoD:c4 aa (.region [⟨some (t,false),.bin .add (.var i) (.const (.int .i64 1)),none⟩,⟨some (i,true),.mv (.tmp t),none⟩] none) st2=some (.normal,{st2 with aF:=[],au:=dD st2.au i (.int .i64 ((k+1:Nat):Int))}):=by
    have hw:IntKind.i64.wrap ((k:Int)+1)=((k+1:Nat):Int):=by rw[wrap_small]<;>omega
    rw[k2];simp[c3,gE,nv,rp,aj.ah,h2,en,hw,av.put,bG,qU aS]
   have oV:=yC _ (by rw[hM,hblk]);simp only[aoD]at oV;obtain⟨fQ,aQ,h5,eA⟩:=ih (k+1) _ (by omega) ar;exact⟨fQ,aQ,by rw[sa,oV];exact h5,eA⟩
  ·rw[if_neg hx]at h2
   have hblk:c4 aa (.block blk body) {st with aF:=[],au:=dD st.au b (.bool true)}=some (x,st2):=by
    rw[mo,h1];cases x with
    |normal=>exact absurd (.inl rfl) hx
    |exit id=>
     have:id≠blk:=fun e=>hx (.inr (by rw[e]));simp[this]
    |ret=>rfl
   have oV:=yC (some (x,st2)) (by
    rw[hM,hblk];cases x with
    |normal=>exact absurd (.inl rfl) hx
    |exit id=>rfl
    |ret=>rfl)
   refine⟨x,st2,?_,h2⟩;rw[sa,oV];cases x with
   |normal=>exact absurd (.inl rfl) hx
   |exit id=>rfl
   |ret=>rfl
end Go.Abs
namespace Go.Abs
open Go
end Go.Abs
namespace Go.Abs.S
open Go Go.Abs
abbrev t0:aj:=.tmp 0
abbrev v0:aj:=.var 0
abbrev t1:aj:=.tmp 1
abbrev v1:aj:=.var 1
abbrev t2:aj:=.tmp 2
abbrev v2:aj:=.var 2
abbrev t3:aj:=.tmp 3
abbrev v3:aj:=.var 3
abbrev t4:aj:=.tmp 4
abbrev v4:aj:=.var 4
abbrev t5:aj:=.tmp 5
abbrev v5:aj:=.var 5
abbrev t6:aj:=.tmp 6
abbrev v6:aj:=.var 6
abbrev t7:aj:=.tmp 7
abbrev lf:aj:=.var 7
abbrev t8:aj:=.tmp 8
abbrev sG:aj:=.var 8
abbrev t9:aj:=.tmp 9
abbrev v9:aj:=.var 9
abbrev t10:aj:=.tmp 10
abbrev v10:aj:=.var 10
abbrev t11:aj:=.tmp 11
abbrev v11:aj:=.var 11
abbrev t12:aj:=.tmp 12
abbrev v12:aj:=.var 12
abbrev t13:aj:=.tmp 13
abbrev ZE:aj:=.var 13
abbrev t14:aj:=.tmp 14
abbrev yE:aj:=.var 14
abbrev t15:aj:=.tmp 15
abbrev aoE:aj:=.var 15
abbrev t16:aj:=.tmp 16
abbrev ZF:aj:=.var 16
abbrev t17:aj:=.tmp 17
abbrev t18:aj:=.tmp 18
abbrev ZG:aj:=.var 18
abbrev t19:aj:=.tmp 19
abbrev t20:aj:=.tmp 20
abbrev v20:aj:=.var 20
abbrev t21:aj:=.tmp 21
abbrev t22:aj:=.tmp 22
abbrev v22:aj:=.var 22
abbrev t23:aj:=.tmp 23
abbrev v23:aj:=.var 23
abbrev t24:aj:=.tmp 24
abbrev t25:aj:=.tmp 25
abbrev v25:aj:=.var 25
abbrev t26:aj:=.tmp 26
abbrev v26:aj:=.var 26
abbrev t27:aj:=.tmp 27
abbrev ZH:aj:=.var 27
abbrev t28:aj:=.tmp 28
abbrev t29:aj:=.tmp 29
abbrev aoF:aj:=.var 29
abbrev t30:aj:=.tmp 30
abbrev t31:aj:=.tmp 31
abbrev t32:aj:=.tmp 32
abbrev v32:aj:=.var 32
abbrev t33:aj:=.tmp 33
abbrev t34:aj:=.tmp 34
abbrev t35:aj:=.tmp 35
abbrev t36:aj:=.tmp 36
abbrev t37:aj:=.tmp 37
abbrev v37:aj:=.var 37
abbrev t38:aj:=.tmp 38
abbrev t39:aj:=.tmp 39
abbrev v39:aj:=.var 39
abbrev t40:aj:=.tmp 40
abbrev t41:aj:=.tmp 41
abbrev t42:aj:=.tmp 42
abbrev t43:aj:=.tmp 43
abbrev t44:aj:=.tmp 44
abbrev v44:aj:=.var 44
abbrev t45:aj:=.tmp 45
abbrev v45:aj:=.var 45
abbrev t46:aj:=.tmp 46
abbrev v46:aj:=.var 46
abbrev t47:aj:=.tmp 47
abbrev t48:aj:=.tmp 48
abbrev aoG:aj:=.var 48
abbrev t49:aj:=.tmp 49
abbrev t50:aj:=.tmp 50
abbrev v50:aj:=.var 50
abbrev t51:aj:=.tmp 51
abbrev t52:aj:=.tmp 52
abbrev t53:aj:=.tmp 53
abbrev v53:aj:=.var 53
abbrev t54:aj:=.tmp 54
abbrev t55:aj:=.tmp 55
abbrev v55:aj:=.var 55
abbrev t56:aj:=.tmp 56
abbrev t57:aj:=.tmp 57
abbrev t58:aj:=.tmp 58
abbrev t59:aj:=.tmp 59
abbrev t60:aj:=.tmp 60
abbrev t61:aj:=.tmp 61
abbrev t62:aj:=.tmp 62
abbrev t63:aj:=.tmp 63
abbrev t64:aj:=.tmp 64
abbrev t65:aj:=.tmp 65
abbrev t66:aj:=.tmp 66
abbrev v66:aj:=.var 66
abbrev t67:aj:=.tmp 67
abbrev t68:aj:=.tmp 68
abbrev t69:aj:=.tmp 69
abbrev t70:aj:=.tmp 70
abbrev v70:aj:=.var 70
abbrev t71:aj:=.tmp 71
abbrev t72:aj:=.tmp 72
abbrev t73:aj:=.tmp 73
abbrev t74:aj:=.tmp 74
abbrev t75:aj:=.tmp 75
abbrev t76:aj:=.tmp 76
abbrev v76:aj:=.var 76
abbrev t77:aj:=.tmp 77
abbrev v77:aj:=.var 77
abbrev t78:aj:=.tmp 78
abbrev t79:aj:=.tmp 79
abbrev t80:aj:=.tmp 80
abbrev t81:aj:=.tmp 81
abbrev aoH:aj:=.var 81
abbrev t82:aj:=.tmp 82
abbrev t83:aj:=.tmp 83
abbrev t84:aj:=.tmp 84
abbrev t85:aj:=.tmp 85
abbrev t86:aj:=.tmp 86
abbrev t87:aj:=.tmp 87
abbrev t88:aj:=.tmp 88
abbrev t89:aj:=.tmp 89
abbrev t90:aj:=.tmp 90
abbrev t91:aj:=.tmp 91
abbrev t92:aj:=.tmp 92
abbrev t93:aj:=.tmp 93
abbrev t94:aj:=.tmp 94
abbrev t95:aj:=.tmp 95
abbrev t96:aj:=.tmp 96
abbrev t97:aj:=.tmp 97
abbrev t98:aj:=.tmp 98
abbrev aoI:aj:=.var 98
abbrev t99:aj:=.tmp 99
abbrev t100:aj:=.tmp 100
abbrev t101:aj:=.tmp 101
abbrev t102:aj:=.tmp 102
abbrev t103:aj:=.tmp 103
abbrev ZI:aj:=.var 103
abbrev t104:aj:=.tmp 104
abbrev t105:aj:=.tmp 105
abbrev v105:aj:=.var 105
abbrev t107:aj:=.tmp 107
abbrev t108:aj:=.tmp 108
abbrev t109:aj:=.tmp 109
abbrev t110:aj:=.tmp 110
abbrev t111:aj:=.tmp 111
abbrev t113:aj:=.tmp 113
abbrev t114:aj:=.tmp 114
abbrev t115:aj:=.tmp 115
abbrev t121:aj:=.tmp 121
abbrev t122:aj:=.tmp 122
abbrev aoJ:aj:=.var 122
abbrev t123:aj:=.tmp 123
abbrev t124:aj:=.tmp 124
abbrev t125:aj:=.tmp 125
abbrev t126:aj:=.tmp 126
abbrev t127:aj:=.tmp 127
abbrev t128:aj:=.tmp 128
abbrev t129:aj:=.tmp 129
abbrev t130:aj:=.tmp 130
abbrev v130:aj:=.var 130
abbrev t131:aj:=.tmp 131
abbrev t132:aj:=.tmp 132
abbrev t134:aj:=.tmp 134
abbrev t135:aj:=.tmp 135
abbrev t136:aj:=.tmp 136
abbrev t139:aj:=.tmp 139
abbrev t140:aj:=.tmp 140
abbrev t143:aj:=.tmp 143
abbrev c (n:Int):aj:=.const (.int .i64 n)
abbrev cs (l:List UInt8):aj:=.const (.str l)
abbrev kr:aj:=.const (.bool true)
abbrev lg:aj:=.const (.bool false)
abbrev qD:aj:=.const .aN
abbrev fn (i:Nat):aj:=.func i
def r (n:Nat)(o:cV):bS:=⟨some (n,false),o,none⟩
def o (n:Nat)(p:cV):bS:=⟨some (n,true),p,none⟩
def n (o:cV):bS:=⟨none,o,none⟩
def rg (n:Nat)(x:aj)(w:Bool)(o:cV):bS:=⟨some (n,false),o,some (x,w)⟩
def m (x:aj):cV:=.mv x
def cb (x:aj):cV:=.load none x
def ls (k:Nat)(x:aj):cV:=.load (some k) x
def st (k:Nat)(a x:aj):cV:=.store k a x
def dw (k:Nat)(x:aj):cV:=.fieldAddr k x
def kM (k:Nat)(x i:aj):cV:=.indexAddr k x i
def fs (k n:Nat)(x:aj):cV:=.field k (some n) x
def ex (x:aj)(i:Nat):cV:=.extract x i
def ix (k:Nat)(x:aj):cV:=.len k x
def eq (x y:aj):cV:=.bin .eql x y
def ne (x y:aj):cV:=.bin .neq x y
def lt (x y:aj):cV:=.bin .lss x y
def gt (x y:aj):cV:=.bin .gtr x y
def le (x y:aj):cV:=.bin .leq x y
def c8 (x y:aj):cV:=.bin .add x y
def no (x:aj):cV:=.un .not x
def j3 (x y z:aj):cV:=.pick x y z
def hF (f:aj)(l:List aj):cV:=.call false f l
def ap (e b:Nat)(x y:aj):cV:=.append e b x y
def jA (x:aj):cV:=.box x
def AW (x:aj):cV:=.nilCheck x
def q (a b:bZ):bZ:=.seq a b
def R (l:List bS):bZ:=.region l none
def qE (l:List bS)(b:List Nat):bZ:=.region l (some b)
def i7 (x:aj)(a b:bZ):bZ:=.cond x a b
def cw (i:Nat)(a:bZ):bZ:=.block i a
def k:bZ:=.skip
def e (i:Nat):bZ:=.exit i
def rt:bZ:=.ret
abbrev nl:V:=.aN
abbrev z:V:=.int .i64 0
abbrev mw:V:=.str []
abbrev em:V:=.emp
end Go.Abs.S
set_option maxRecDepth 100000
namespace Go.Abs.bz
open Go Go.Abs Go.Proofs Go.Abs.S
noncomputable section
def fR:Code->Code| .seq a _=>a|c=>c
def cB:Code->Code| .seq _ a=>a|c=>c
def aoK:bZ:=q (R [r 14 (kM 2 v10 v12),r 15 (ls 2 t14),o 5 (.alloc [z,z]),n (st 2 v5 t15)]) (R [r 16 (m v3),r 17 (dw 0 v5),r 18 (cb t17),r 19 (.lookup 0 (.int .i64 0) t16 t18 false),r 20 (dw 1 v5),r 21 (cb t20),r 22 (c8 t19 t21),n (.p8 0 t16 t18 t22)])
def ZJ:lb:=⟨[R [o 2 (m qD)],R [r 9 (.mkMap),o 3 (m t9)],q (R [o 10 (m v0),o 11 (ix 1 v10),o 12 (m (c 0))]) (cw 0 (.loop (tV 13 11 12 23 1 0 aoK))),R [o 6 (m qD)]],⟨[r 24 (m v3)],t24,25,(26,false),[o 27 (ex t26 0)],ZH,3,(28,false),[r 29 (ex t28 0),r 30 (ex t28 1),o 7 (m t29),o 8 (m t30)],q (R [r 31 (m sG),o 32 (ne t31 (c 0))]) (i7 v32 (R [r 33 (m v6),r 34 (m lf),r 35 (m sG),r 36 (.build [z,z] [(0,1,t34),(1,1,t35)]),r 37 (.lit 2 [z,z] 1 [(0,t36)] true),r 38 (ap 2 16 t33 t37),o 6 (m t38)]) k)⟩,q (R [r 39 (m v6),r 40 (.call true (fn 84) [t39,(fn 85)])]) (q (R [r 41 (m v6),o 2 (m t41)]) rt),[.tmp 2]⟩
def iy:Code:=Tryz.f52.body.getD .skip
theorem aoL (g:Nat->Option Obj):AR (C g) Tryz.f52 ZJ:=⟨[fR iy,fR (cB iy),fR (cB (cB iy)),fR (cB (cB (cB iy)))],fR (cB (cB (cB (cB iy)))),cB (cB (cB (cB (cB iy)))),by kernel_rfl,by kernel_rfl,by kernel_rfl,by kernel_rfl,by kernel_rfl,by kernel_rfl⟩
def ZK:lb:=⟨[R [o 3 (jA v0),o 6 (.alloc [nl,nl,nl]),o 7 (m (c 0))],R [r 18 (ls 9 v3),r 19 (m v1),r 20 (m v2),r 21 (hF (fn 112) [t18,t19,t20]),r 17 (m t21),r 22 (ex t17 0),r 23 (ex t17 1),o 8 (m t22),o 9 (m t23)],q (R [r 24 (m v9),o 25 (ne t24 (c 0))]) (i7 v25 (q (R [r 26 (.build [nl,nl,nl] []),r 27 (m v9),n (st 3 v6 t26),o 7 (m t27)]) rt) k),q (R [r 28 (m sG),o 29 (no t28)]) (i7 aoF (q (R [r 30 (.build [nl,nl,nl] []),n (st 3 v6 t30),o 7 (m (c 9))]) rt) k),qE [r 32 (dw 0 v3),r 33 (ls 5 t32),r 34 (dw 8 v3),r 35 (cb t34),r 36 (m v1),r 37 (kM 4 t35 t36),r 38 (dw 3 t37),r 39 (cb t38),r 40 (hF (fn 113) [t33,t39]),r 31 (m t40),r 41 (ex t31 0),r 42 (ex t31 1),o 10 (m t41),r 11 (m t42)] [0,1,0,4,0,28,60,124,255,511,1023,1023,2047,8191],R [r 44 (dw 0 v3),r 45 (ls 5 t44),r 46 (m v10),r 47 (hF (fn 114) [t45,t46]),r 43 (m t47),r 48 (ex t43 0),r 49 (ex t43 1),o 12 (.alloc [z,mw,z,z,nl]),n (st 5 v12 t48),r 13 (m t49)],R [r 50 (ls 9 v3),r 51 (.mkMap),r 52 (.build [nl,nl,nl,z,mw,z,z,nl,nl,nl,nl,nl,nl,.iu] [(3,9,t50),(13,1,t51)]),r 53 (jA t52),o 14 (m t53)],qE [r 54 (m yE),r 55 (dw 4 v12),r 56 (cb t55),r 57 (kM 5 t56 (c 2)),r 58 (ls 5 t57),r 59 (ls 9 v3),r 60 (m v1),r 61 (hF (fn 117) [t59,t60]),r 62 (m v2),r 63 (hF (fn 116) [t61,t62]),r 64 (hF (fn 115) [t54,t58,t63])] [0,0,2,6,14,0,0,96,0,480,1023],R [r 65 (m yE),r 66 (m yE),r 67 (AW t66),r 68 (dw 12 t67),r 69 (cb t68),r 70 (.lit 1 [nl] 1 [(0,t69)] true),r 71 (hF (fn 28) [t70]),r 72 (AW t65),r 73 (dw 0 t72),r 74 (dw 0 t73),n (st 1 t74 t71)]],⟨[r 75 (m yE),r 76 (AW t75),r 77 (dw 13 t76),r 78 (cb t77)],t78,79,(80,false),[o 81 (ex t80 0)],aoH,1,(82,false),[r 83 (ex t82 1),o 16 (.alloc [z,z,z]),n (st 3 ZF t83)],qE [r 84 (m yE),r 85 (m yE),r 86 (AW t85),r 87 (dw 0 t86),r 88 (dw 2 t87),r 89 (cb t88),r 90 (ls 3 ZF),r 91 (.lit 3 [z,z,z] 1 [(0,t90)] true),r 92 (ap 3 24 t89 t91),r 93 (AW t84),r 94 (dw 0 t93),r 95 (dw 2 t94),n (st 1 t95 t92)] [0,0,2,6,14,30,0,64,254,511,1023,2047,4095]⟩,q (R [r 96 (m yE),r 97 (AW t96),r 98 (dw 0 t97),r 99 (dw 2 t98),r 100 (cb t99),r 101 (hF (fn 118) [t100,(fn 119)])]) (q (R [r 102 (m yE),r 103 (AW t102),r 104 (dw 0 t103),r 105 (ls 3 t104),n (st 3 v6 t105),o 7 (m (c 0))]) rt),[.cell 6 (some 3),.tmp 7]⟩
def tW:Code:=Tryz.f61.body.getD .skip
theorem aoM (g:Nat->Option Obj):AR (C g) Tryz.f61 ZK:=⟨[fR tW,fR (cB tW),fR (cB (cB tW)),fR (cB (cB (cB tW))),fR (cB (cB (cB (cB tW)))),fR (cB (cB (cB (cB (cB tW))))),fR (cB (cB (cB (cB (cB (cB tW)))))),fR (cB (cB (cB (cB (cB (cB (cB tW))))))),fR (cB (cB (cB (cB (cB (cB (cB (cB tW))))))))],fR (cB (cB (cB (cB (cB (cB (cB (cB (cB tW))))))))),cB (cB (cB (cB (cB (cB (cB (cB (cB (cB tW))))))))),by kernel_rfl,by kernel_rfl,by kernel_rfl,by kernel_rfl,by kernel_rfl,by kernel_rfl⟩
variable (g:Nat->Option Obj)
theorem aoN:ZJ.hC (bm (eS g) 95) 60 Tryz.f52.ntmps Xh:=⟨⟨by kernel_rfl,by kernel_rfl,by kernel_rfl⟩,⟨⟨by kernel_rfl,by kernel_rfl,by kernel_rfl⟩,⟨⟨by kernel_rfl,by kernel_rfl,by kernel_rfl⟩,⟨⟨by kernel_rfl,by kernel_rfl,by kernel_rfl⟩,⟨⟨by kernel_rfl,by kernel_rfl,by kernel_rfl⟩,⟨⟨by kernel_rfl,by kernel_rfl,by kernel_rfl⟩,trivial⟩⟩⟩⟩⟩⟩
def Q3:Nat->Option bU:=over (eS g) 52 (hB Xh)
end
end Go.Abs.bz
