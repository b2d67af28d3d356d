/- Texts of this claim, joined and written short by a program. -/
import Derived.Test.YtdoflpjbdlgciaaGreatDoorP09
import Derived.Lib.ItoaNum
import Derived.Below
import Derived.Test.YtdoflpjbdlgciaaGreatDoorP01
import Derived.Test.YtdoflpjbdlgciaaGreatDoorP00
set_option linter.unusedVariables false
set_option linter.unusedSimpArgs false
set_option linter.unusedSectionVars false
namespace Go.Abs.bZ
open Go Go.Abs Go.Proofs
variable{fid:Nat->Nat}{g:Nat->Option Obj}
set_option maxRecDepth 100000 in
theorem vS{i:Nat}{fn:Func}(ae:Tryz.prog.funcs[i]? =some fn)(hb:fn.body.isSome=true)(hn:(fn.name== "runtime.NumGoroutine")=false){R:Value->World->Prop}{xs:List Value}{w:World}
  (h:Calls Tryz.prog i ⟨xs⟩ w fun e w'=>∃x,e=.returned x/\R x w'):rI (C g).P R ((callFunc i ⟨xs⟩).run (C g).P w):=by
 obtain⟨c,hc⟩:=Option.isSome_iff_exists.1 hb;rw[EZ (C:=C g) ae hc hn];exact h
theorem xG{w:World}{I:Nat->Prop}{s:List UInt8}{x:Value}(h:fW w I (.str s) x):x=.string ⟨⟨s⟩⟩:=by cases h;rfl
theorem W3:Tryz.f244.body.isSome=true:=by kernel_rfl
theorem W4:(Tryz.f244.name== "runtime.NumGoroutine")=false:=by kernel_rfl
theorem akx:Tryz.f427.body.isSome=true:=by kernel_rfl
theorem aky:(Tryz.f427.name== "runtime.NumGoroutine")=false:=by kernel_rfl
theorem akz:Tryz.f252.body.isSome=true:=by kernel_rfl
theorem akA:(Tryz.f252.name== "runtime.NumGoroutine")=false:=by kernel_rfl
theorem akB:Tryz.f424.body.isSome=true:=by kernel_rfl
theorem akC:(Tryz.f424.name== "runtime.NumGoroutine")=false:=by kernel_rfl
theorem akD{ds:List V}{l:List (List UInt8)}(h:strs ds=some l):ds=l.map .str:=by
 induction ds generalizing l with
 |nil=>cases h;rfl
 |cons v r ih=>
  cases v<;>first|(cases h;done)|skip
  simp only[strs]at h;obtain⟨m,hm,rfl⟩:=cG.1 h;rw[ih hm];rfl
theorem W5{w:World}{I:Nat->Prop}:∀{l:List (List UInt8)} {vals:List Value},dn w I ((l.map V.str).flatMap aF) vals->vals=l.map fun s=>Value.string ⟨⟨s⟩⟩
 |[],vals,h=>by cases h;rfl
 |s::r,vals,h=>by
  rw[eG,lH]at h;cases h with
  |cons _ x _ xs h1 h2=>
   obtain rfl:=xG h1;rw[W5 h2];rfl
set_option maxRecDepth 100000 in
theorem akE:o6 (C g) id 244 Ea:=by
 intro G H w args v xs aa eX hs;unfold Ea at hs;split at hs
 ·rename_i sep
  cases hs;cases eX with
  |cons _ x _ xs h1 fy=>
   cases fy with
   |cons _ y _ cL h2 lN=>
    cases lN;cases h1;obtain rfl:=xG h2;refine vS Tryz.func244 W3 W4 ((Tryz.strings_Join_none none 0 _ w).mono ?_);rintro e w' ⟨rfl,rfl⟩;exact⟨_,rfl,G,aa,fun m _=>.refl _ _ _ _,.p _ _ (.str [])⟩
 ·rename_i es ds sep
  split at hs
  ·rename_i l hl
   split at hs
   ·rename_i hc
    obtain⟨rfl,bu,jX,ob⟩:=hc;cases hs;obtain rfl:=akD hl;cases eX with
    |cons _ x _ xs h1 fy=>
     cases fy with
     |cons _ y _ cL h2 lN=>
      cases lN;obtain rfl:=xG h2;generalize lW:l.map V.str=D at h1;cases h1 with
      |u7 _ a cap=>exact absurd (List.map_eq_nil_iff.1 lW) bu
      |list _ _ b o cap vals a7 h8 hu hr akF=>
       subst lW;obtain rfl:=W5 hr;have Fi:((l.map fun s=>(⟨⟨s⟩⟩:ByteArray)).map (·.data.toList))=l:=by rw[sf];exact List.map_id l
       have hj:=Tryz.strings_Join b o cap (l.map fun s=>⟨⟨s⟩⟩) ⟨⟨sep⟩⟩ w (fun j y hy=>by
        refine h8 j _ ?_;simp only[kR]at hy⊢;cases aI:l[j]? with
        |none=>rw[aI]at hy;cases hy
        |some z=>rw[aI]at hy;cases hy;rfl) (aa.dd b a7).1 (by simp;omega) (by simpa using akF) (by rw[Fi];simp only[MZ];omega)
       rw[Fi]at hj;simp only[jn]at hj⊢;refine vS Tryz.func244 W3 W4 (hj.mono ?_);rintro e w' ⟨rfl,hb⟩;exact⟨_,rfl,G,aa.restore hb.size hb.block,fun m _=>.restore hb.size hb.block hb.os hb.output m _,.p _ _ (.str (Lib.join l sep))⟩
   ·cases hs
  ·cases hs
 ·cases hs
theorem W6:Tryz.f55.body.isSome=true:=by kernel_rfl
theorem W7:(Tryz.f55.name== "runtime.NumGoroutine")=false:=by kernel_rfl
set_option maxRecDepth 100000 in
theorem akG (o7:∀(G:cc) (H:Heap) (w:World),bf (C g) id G H w->Lib.TabIs Tryz.prog w "internal/strconv.uint64pow10" .u64 Lib.pow10Tab):o6 (C g) id 55 Eb:=by
 intro G H w args v xs aa eX hs;unfold Eb at hs;split at hs
 ·rename_i n
  split at hs
  ·rename_i hn
   cases hs;obtain⟨k,rfl⟩:=DF hn.1;cases eX with
   |cons _ x _ xs h1 fy=>
    cases fy;cases h1;have ah:k<10:=by omega
    refine vS Tryz.func55 W6 W7 ((Tryz.strconv_Itoa_small k (by omega) w).mono ?_);rintro e w' ⟨rfl,rfl⟩;rw[Lib.decDigits_one ah];exact⟨_,rfl,G,aa,fun m _=>.refl _ _ _ _,.p _ _ (.str _)⟩
  ·split at hs
   ·rename_i hn
    cases hs;cases eX with
    |cons _ x _ xs h1 fy=>
     cases fy;cases h1;refine vS Tryz.func55 W6 W7 ((Tryz.strconv_Itoa n (by omega) (by omega) w (o7 G H w aa)).mono ?_);rintro e w' ⟨rfl,q,os,rfl⟩;have ea:w.heap.size<=(Sort.grow (w.drewN q) os).heap.size:=by simp[Sort.grow,World.drewN]
     have ah:∀b,b<w.heap.size->(Sort.grow (w.drewN q) os).heap[b]? =w.heap[b]? :=fun b hb=>by
      simp only[Sort.grow,World.drewN];rw[af7 hb]
     exact⟨_,rfl,G,aa.restore ea ah,fun m _=>.restore ea ah rfl rfl m _,.p _ _ (.str _)⟩
   ·cases hs
 ·cases hs
set_option maxRecDepth 100000 in
theorem akH:o6 (C g) id 427 IP:=by
 intro G H w args v xs aa eX hs;unfold IP at hs;split at hs
 ·rename_i s c
  cases hs;cases eX with
  |cons _ x _ xs h1 fy=>
   cases fy with
   |cons _ y _ cL h2 lN=>
    cases lN;cases h2;obtain rfl:=xG h1;refine vS Tryz.func427 akx aky ((Tryz.strings_IndexByte _ c w).mono ?_);rintro e w' ⟨rfl,rfl⟩;exact⟨_,rfl,G,aa,fun m _=>.refl _ _ _ _,.p _ _ (.int .i64 _)⟩
 ·cases hs
set_option maxRecDepth 100000 in
theorem akI:o6 (C g) id 252 NC:=by
 intro G H w args v xs aa eX hs;unfold NC at hs;split at hs
 ·rename_i s
  split at hs
  ·rename_i hl
   obtain⟨n,hn,rfl⟩:=cG.1 hs;cases eX with
   |cons _ x _ xs h1 fy=>
    cases fy;obtain rfl:=xG h1;refine vS Tryz.func252 akz akA ((Tryz.strconv_Atoi ⟨⟨s⟩⟩ n hl hn w).mono ?_);rintro e w' ⟨rfl,t,rfl⟩
    have ea:w.heap.size<=(Lib.bytesWorld w 5 t).heap.size:=by
     unfold Lib.bytesWorld World.freeze;have h0:w.drew.heap=w.heap:=rfl;split<;>simp[h0]
    have ah:∀b,b<w.heap.size->(Lib.bytesWorld w 5 t).heap[b]? =w.heap[b]? :=fun b hb=>by
     have h1:(w.drew.alloc (.cells (Lib.bytesCells w 5 t) 5)).heap[b]? =w.heap[b]? :=alloc_old (w:=w.drew) hb;unfold Lib.bytesWorld World.freeze;split
     ·exact h1
     ·show(Array.modify _ _ _)[b]? =_
      rw[Array.getElem?_modify,if_neg (fun e=>by have e':w.heap.size=b:=e;omega)];exact h1
    have BF:(Lib.bytesWorld w 5 t).os=w.os/\(Lib.bytesWorld w 5 t).tape=w.tape/\(Lib.bytesWorld w 5 t).output=w.output:=by
     unfold Lib.bytesWorld World.freeze;split<;>exact⟨rfl,rfl,rfl⟩
    refine⟨_,rfl,G,aa.restore ea ah,fun m _=>.restore ea ah BF.1 BF.2.2 m _,.p _ _ (.bd _ _ (.cons _ _ _ _ (.int .i64 n) (.cons _ _ _ _ .jL .nil)))⟩
  ·cases hs
 ·cases hs
theorem W8{w:World}{I:Nat->Prop}:∀(l:List (List UInt8)),dn w I ((l.map V.str).flatMap aF) (l.map fun x=>Value.string ⟨x.toArray⟩)
 |[]=>.nil
 |a::l=>.cons _ _ _ _ (.str a) (W8 l)
set_option maxRecDepth 100000 in
theorem akJ (o7:∀(G:cc) (H:Heap) (w:World),bf (C g) id G H w->Lib.TabIs Tryz.prog w "strings.asciiSpace" .u8 Lib.asciiSpaceTab):o6 (C g) id 424 IM:=by
 intro G H w args v xs aa eX hs;unfold IM at hs;split at hs
 ·rename_i s
  split at hs
  ·rename_i hc
   simp only[ca,decide_eq_true_eq]at hc;cases hs;cases eX with
   |cons _ x _ xs h1 fy=>
    cases fy;obtain rfl:=xG h1;refine vS Tryz.func424 akB akC ((Tryz.strings_Fields ⟨⟨s⟩⟩ w hc.2 (fun j b hb=> ?_) (o7 G H w aa)).mono ?_)
    ·have:=eV.1 hc.1 b (e0 hb)
     have h':=UInt8.lt_iff_toNat_lt.1 (of_decide_eq_true this);simpa using h'
    rintro e w' ⟨rfl,rfl⟩;refine⟨_,rfl,⟨G.β,fun b=>G.I b\/(b=w.heap.size/\True)⟩,aa.rG _ True,fun m _=>.rG _ True m _,?_⟩;refine .p _ _ ?_;cases ae:Lib.fields s with
    |nil=>simp only[List.isEmpty_nil,if_true,eF];exact .emp _
    |cons a r=>
     simp only[List.isEmpty_cons,gN,if_false];rw[<-jn (f:=V.str)];refine .list 1 _ _ 0 _ _ (.inr ⟨rfl,trivial⟩) ?_ (fun d hd=> ?_) (W8 (a::r)) (aM _)
     ·intro j x hx
      rw[UR (ml w _),er,<-iX];exact hx
     ·obtain⟨y,-,rfl⟩:=eM.1 hd
      rfl
  ·cases hs
 ·cases hs
theorem akK:Tryz.f219.body.isSome=true:=by kernel_rfl
theorem akL:(Tryz.f219.name== "runtime.NumGoroutine")=false:=by kernel_rfl
set_option maxRecDepth 100000 in
theorem akM:o6 (C g) id 219 ND:=by
 intro G H w args v xs aa eX hs;unfold ND at hs;split at hs
 ·rename_i n
  have key:∀k:Nat,(k=0\/k=1\/k=2)->n=(k:Int)->v=.int .i64 (k:Int)->rI (C g).P (lq (C g) id G H w v H H.length) ((callFunc 219 ⟨xs⟩).run (C g).P w):=fun k ah hn af=>by
   subst hn;subst af;cases eX with
   |cons _ x _ xs h1 fy=>
    cases fy;cases h1;refine vS Tryz.func219 akK akL ((Tryz.bits_Len (k:Int) w (by omega) (by omega)).mono ?_);rintro e w' ⟨rfl,rfl⟩;have:(Lib.bitLen (k:Int).toNat:Int)=(k:Int):=by rcases ah with rfl|rfl|rfl<;>rfl
    exact⟨_,rfl,G,aa,fun m _=>.refl _ _ _ _,by rw[this];exact .p _ _ (.int .i64 _)⟩
  split at hs
  ·rename_i h;cases hs;exact key 0 (.inl rfl) h rfl
  ·split at hs
   ·rename_i h;cases hs;exact key 1 (.inr (.inl rfl)) h rfl
   ·split at hs
    ·rename_i h;cases hs;exact key 2 (.inr (.inr rfl)) h rfl
    ·cases hs
 ·cases hs
theorem akN:Tryz.f369.body.isSome=true:=by kernel_rfl
theorem akO:(Tryz.f369.name== "runtime.NumGoroutine")=false:=by kernel_rfl
set_option maxRecDepth 100000 in
theorem akP:o6 (C g) id 369 NF:=by
 intro G H w args v xs aa eX hs;unfold NF at hs;split at hs
 ·rename_i s c
  split at hs
  ·rename_i hc
   cases hs;cases eX with
   |cons _ x _ xs h1 fy=>
    cases fy with
    |cons _ y _ cL h2 lN=>
     cases lN;obtain rfl:=xG h1;obtain rfl:=xG h2;have vd:c.toNat<128:=by simpa using UInt8.lt_iff_toNat_lt.1 hc
     refine vS Tryz.func369 akN akO ((Tryz.strings_TrimLeft_one ⟨⟨s⟩⟩ c vd w).mono ?_);rintro e w' ⟨rfl,rfl⟩;exact⟨_,rfl,G,aa,fun m _=>.refl _ _ _ _,.p _ _ (.str _)⟩
  ·cases hs
 ·cases hs
end Go.Abs.bZ
namespace Go.Abs
open Go
def zt (es:Nat):V->Bool
 | .aY| .emp=>true
 | .list bN _=>bN==es
 | _=>false
def el:V->List V
 | .list _ ds=>ds
 | _=>[]
section
variable{call:c1}{ai:aj->V}{H:Heap}{low:Nat}
theorem qN (x:aj):cf call ai H low (.mv x)=some (ai x,H,low):=rfl
theorem o8 (c a b:aj):cf call ai H low (.pick c a b)=(pE (ai c)).map fun t=>(if t then ai a else ai b,H,low):=rfl
theorem rU (z:List V):cf call ai H low (.alloc z)=some (.ptr H.length 0,H++[.cells z],low):=rfl
theorem vT (x:aj):cf call ai H low (.box x)=if bX (aF (ai x))then some (.ptr H.length 0,H++[.cells (aF (ai x))],low)else none:=rfl
theorem nJ (sh:Option Nat)(x:aj):cf call ai H low (.load sh x)=(jN H sh (ai x)).map fun v=>(v,H,low):=rfl
theorem mH (n:Nat)(a x:aj):cf call ai H low (.store n a x)=(jO H n (ai a) (ai x)).map fun(H',l)=>(.undef,H',min low l):=rfl
theorem nj (op:BinOp)(x y:aj):cf call ai H low (.bin op x y)=(et op (ai x) (ai y)).map fun v=>(v,H,low):=rfl
theorem p5 (op:UnOp)(x:aj):cf call ai H low (.un op x)=(pF op (ai x)).map fun v=>(v,H,low):=rfl
theorem qO (k:Nat)(neg:Bool)(x y:aj):cf call ai H low (.rm k neg x y)=(qv k (ai x) (ai y)).map fun e=>(.bool (if neg then !e else e),H,low):=rfl
theorem PO (i:Nat)(a b:List aj):cf call ai H low (.tB i a b)=some (.fn i (a.map ai) (b.map ai),H,low):=rfl
theorem W9:cf call ai H low .mkMap=some (.map H.length,H++[.map []],low):=rfl
theorem rV (x:aj)(i:Nat):cf call ai H low (.extract x i)=match ai x with
 | .bd vs=>(vs[i]?).map fun v=>(v,H,low)
 | _=>none:=rfl
theorem akQ (off:Nat)(sh:Option Nat)(x:aj):cf call ai H low (.field off sh x)=match ai x with
 | .agg vs=>(iq vs off sh).map fun v=>(v,H,low)
 | _=>none:=rfl
theorem ox (off:Nat)(x:aj):cf call ai H low (.fieldAddr off x)=match ai x with
 | .ptr l o=>some (.ptr l (o+off),H,low)
 | .hg l es i f tag=>some (.hg l es i (f+off) tag,H,low)
 | .dW vs f=>some (.dW vs (f+off),H,low)
 | _=>none:=rfl
theorem p6 (f:aj)(args:List aj):cf call ai H low (.call false f args)=match e4 H low (args.map ai)with
 |some (vs,H',low')=>match call (ai f) vs H' with
  |some (v,Ig,l)=>if flat v=true/\H'.length<=l then some (v,H,low)else some (v,Ig,min low' l)
  |none=>none
 |none=>none:=rfl
theorem qP (f:aj)(args:List aj):cf call ai H low (.call true f args)=match call (ai f) (args.map ai) H with
 |some (v,H',l)=>some (v,H',min low l)
 |none=>none:=rfl
theorem xH (es bytes:Nat)(a b:aj):cf call ai H low (.append es bytes a b)=step ai H low (.append es bytes a b):=rfl
theorem JP (es:Nat)(z:List V)(n:Nat)(ps:List (Nat × aj))(jM:Bool):cf call ai H low (.lit es z n ps jM)=step ai H low (.lit es z n ps jM):=rfl
theorem PQ (es:Nat)(z:List V)(b:Nat)(l c:aj):cf call ai H low (.mkSlice es z b l c)=step ai H low (.mkSlice es z b l c):=rfl
theorem Xa (es:Nat)(x:aj)(lo hi mx:Option aj):cf call ai H low (.tC es x lo hi mx)=step ai H low (.tC es x lo hi mx):=rfl
theorem JQ (k:Nat)(z:V)(x i:aj)(ok:Bool):cf call ai H low (.lookup k z x i ok)=step ai H low (.lookup k z x i ok):=rfl
theorem Xb (k:Nat)(m x v:aj):cf call ai H low (.qt k m x v)=step ai H low (.qt k m x v):=rfl
theorem Xc (m:Bool)(x y:aj):cf call ai H low (.u1 m x y)=step ai H low (.u1 m x y):=rfl
theorem Xd{x:aj}(es:Nat)(h:zt es (ai x)=true):cf call ai H low (.len 1 x)=some (.int .i64 (el (ai x)).length,H,low):=by
 show step ai H low (.len 1 x)=_;cases hx:ai x<;>simp_all [zt,step,el]
theorem akR{es:Nat}{x i:aj}(h:zt es (ai x)=true):cf call ai H low (.indexAddr es x i)=match kU (ai i)with
  |some k=>((el (ai x))[k]?).map fun d=>(.dW (aF d) 0,H,low)
  |none=>none:=by
 show step ai H low (.indexAddr es x i)=_;cases hx:ai x<;>simp_all [zt,step,el]<;>cases kU (ai i)<;>rfl
end
@[simp] theorem aA3 (k : IntKind) (n : Nat) : kU (.int k (n : Int)) = some n := by simp [kU]
@[simp] theorem lx (H : Heap) : fm H H H.length = false := by simp [fm]
theorem wrap_small{n:Int}(h1:-9223372036854775808<=n)(h2:n<9223372036854775808):IntKind.i64.wrap n=n:=by
 have e:(2^IntKind.i64.bits:Int)=18446744073709551616:=rfl;have e':(2^(IntKind.i64.bits-1):Int)=9223372036854775808:=rfl;have s:IntKind.i64.signed=true:=rfl;simp only[IntKind.wrap,e,e',s,dC,decide_eq_true_eq];split<;>omega
theorem gy (e:Env)(t e9:Nat)(v:V):bR (fN e t v) e9=if e9=t then v else bR e e9:=by
 induction e with
 |nil=>
  by_cases h:e9=t
  ·subst h;simp[fN,bR]
  ·simp[fN,bR,h,lj h]
 |cons p r ih=>
  obtain⟨k,u⟩:=p;simp only[fN];split
  ·rename_i ah
   subst ah;by_cases h:e9=k
   ·subst h;simp[bR]
   ·simp[bR,h,lj h]
  ·rename_i ah
   simp only[bR];split
   ·rename_i h
    rw[if_neg (by omega)]
   ·exact ih
def vU (b n i t blk ex:Nat)(body:b8):b8:=
 .seq (.region [⟨some (b,true),.bin .lss (.var i) (.var n),none⟩] none) (.seq (.cond (.var b) (.skip) (.exit ex)) (.seq (.block blk body)
  (.region [⟨some (t,false),.bin .add (.var i) (.const (.int .i64 1)),none⟩,⟨some (i,true),.mv (.tmp t),none⟩] none)))
theorem akS{ad:Nat->Option cb}{b n i t blk ex:Nat}{body:b8}{I:Nat->au->Prop}{Q:X->au->Prop}{N:Nat}(hZ:N<4611686018427387904)(VP:b≠i)(hex:ex≠blk)
  (a7:∀k st,I k st->bR st.aw i=.int .i64 k/\bR st.aw n=.int .i64 N/\st.low<=st.H.length)
  (round:∀k st,k<N->I k st->∃x gP,dz ad body {st with aG:=[],aw:=fN st.aw b (.bool true)}=some (x,gP)/\
    if x=.normal\/x=.exit blk then bR gP.aw i=.int .i64 k/\gP.low<=gP.H.length/\I (k+1) {gP with aG:=[],aw:=fN gP.aw i (.int .i64 ((k+1:Nat):Int))}else Q x gP)
  (done:∀st,I N st->Q (.exit ex) {st with aG:=[],aw:=fN st.aw b (.bool false)}):
  ∀j k st,k+j=N->I k st->∃x aX,dz ad (.loop (vU b n i t blk ex body)) st=some (x,aX)/\Q x aX:=by
 have aH:∀k st,I k st->dz ad (.region [⟨some (b,true),.bin .lss (.var i) (.var n),none⟩] none) st=some (.normal,{st with aG:=[],aw:=fN st.aw b (.bool (decide (k<N)))}):=fun k st h=>by
  obtain⟨h1,h2,av⟩:=a7 k st h;rw[kW];simp[c5,gE,nj,aj.ai,h1,h2,et,au.put,n6 av]
 intro j
 induction j with
 |zero=>
  intro k st ah h;have:k=N:=by omega
  subst this;refine⟨.exit ex,_,?_,done st h⟩;rw[ru];simp only[vU];rw[hR,aH k st h];simp only[];rw[hR,mi];simp[aj.ai,gy,qy]
 |succ j ih=>
  intro k st ah h;obtain⟨x,gP,h1,h2⟩:=round k st (by omega) h
  have JN:∀r,dz ad (.seq (.block blk body) (.region [⟨some (t,false),.bin .add (.var i) (.const (.int .i64 1)),none⟩,⟨some (i,true),.mv (.tmp t),none⟩] none)) {st with aG:=[],aw:=fN st.aw b (.bool true)}=r->
    dz ad (vU b n i t blk ex body) st=r:=fun r hr=>by
   simp only[vU];rw[hR,aH k st h];simp only[];rw[hR,mi];have hd:decide (k<N)=true:=by simp;omega
   simp[aj.ai,gy,nw,hd,hr]
  by_cases hx:x=.normal\/x=.exit blk
  ·rw[if_pos hx]at h2
   obtain⟨h2,bc,av⟩:=h2
   have PR:dz ad (.block blk body) {st with aG:=[],aw:=fN st.aw b (.bool true)}=some (.normal,gP):=by
    rw[mY,h1];rcases hx with rfl|rfl
    ·rfl
    ·simp
   have akT:dz ad (.region [⟨some (t,false),.bin .add (.var i) (.const (.int .i64 1)),none⟩,⟨some (i,true),.mv (.tmp t),none⟩] none) gP=some (.normal,{gP with aG:=[],aw:=fN gP.aw i (.int .i64 ((k+1:Nat):Int))}):=by
    have hw:IntKind.i64.wrap ((k:Int)+1)=((k+1:Nat):Int):=by rw[wrap_small]<;>omega
    rw[kW];simp[c5,gE,nj,qN,aj.ai,h2,et,hw,au.put,bR,n6 bc]
   have pZ:=JN _ (by rw[hR,PR]);simp only[akT]at pZ;obtain⟨gx,aX,h5,gb⟩:=ih (k+1) _ (by omega) av;exact⟨gx,aX,by rw[ru,pZ];exact h5,gb⟩
  ·rw[if_neg hx]at h2
   have PR:dz ad (.block blk body) {st with aG:=[],aw:=fN st.aw b (.bool true)}=some (x,gP):=by
    rw[mY,h1];cases x with
    |normal=>exact absurd (.inl rfl) hx
    |exit id=>
     have:id≠blk:=fun e=>hx (.inr (by rw[e]));simp[this]
    |ret=>rfl
   have pZ:=JN (some (x,gP)) (by
    rw[hR,PR];cases x with
    |normal=>exact absurd (.inl rfl) hx
    |exit id=>rfl
    |ret=>rfl)
   refine⟨x,gP,?_,h2⟩;rw[ru,pZ];cases x with
   |normal=>exact absurd (.inl rfl) hx
   |exit id=>rfl
   |ret=>rfl
end Go.Abs
namespace Go.Abs
open Go
end Go.Abs
namespace Go.Abs.S
open Go Go.Abs
abbrev t0:aj:=.tmp 0
abbrev v0:aj:=.var 0
abbrev t1:aj:=.tmp 1
abbrev v1:aj:=.var 1
abbrev t2:aj:=.tmp 2
abbrev v2:aj:=.var 2
abbrev t3:aj:=.tmp 3
abbrev v3:aj:=.var 3
abbrev t4:aj:=.tmp 4
abbrev v4:aj:=.var 4
abbrev t5:aj:=.tmp 5
abbrev v5:aj:=.var 5
abbrev t6:aj:=.tmp 6
abbrev v6:aj:=.var 6
abbrev t7:aj:=.tmp 7
abbrev ly:aj:=.var 7
abbrev t8:aj:=.tmp 8
abbrev tX:aj:=.var 8
abbrev t9:aj:=.tmp 9
abbrev v9:aj:=.var 9
abbrev t10:aj:=.tmp 10
abbrev v10:aj:=.var 10
abbrev t11:aj:=.tmp 11
abbrev v11:aj:=.var 11
abbrev t12:aj:=.tmp 12
abbrev v12:aj:=.var 12
abbrev t13:aj:=.tmp 13
abbrev Xe:aj:=.var 13
abbrev t14:aj:=.tmp 14
abbrev xI:aj:=.var 14
abbrev t15:aj:=.tmp 15
abbrev akU:aj:=.var 15
abbrev t16:aj:=.tmp 16
abbrev Xf:aj:=.var 16
abbrev t17:aj:=.tmp 17
abbrev t18:aj:=.tmp 18
abbrev Xg:aj:=.var 18
abbrev t19:aj:=.tmp 19
abbrev t20:aj:=.tmp 20
abbrev v20:aj:=.var 20
abbrev t21:aj:=.tmp 21
abbrev t22:aj:=.tmp 22
abbrev t23:aj:=.tmp 23
abbrev akV:aj:=.var 23
abbrev t24:aj:=.tmp 24
abbrev t25:aj:=.tmp 25
abbrev akW:aj:=.var 25
abbrev t26:aj:=.tmp 26
abbrev akX:aj:=.var 26
abbrev t27:aj:=.tmp 27
abbrev akY:aj:=.var 27
abbrev t28:aj:=.tmp 28
abbrev t29:aj:=.tmp 29
abbrev akZ:aj:=.var 29
abbrev t30:aj:=.tmp 30
abbrev t31:aj:=.tmp 31
abbrev t32:aj:=.tmp 32
abbrev ak0:aj:=.var 32
abbrev t33:aj:=.tmp 33
abbrev t34:aj:=.tmp 34
abbrev t35:aj:=.tmp 35
abbrev t36:aj:=.tmp 36
abbrev t37:aj:=.tmp 37
abbrev v37:aj:=.var 37
abbrev t38:aj:=.tmp 38
abbrev t39:aj:=.tmp 39
abbrev t40:aj:=.tmp 40
abbrev t41:aj:=.tmp 41
abbrev t42:aj:=.tmp 42
abbrev t43:aj:=.tmp 43
abbrev t44:aj:=.tmp 44
abbrev ak1:aj:=.var 44
abbrev t45:aj:=.tmp 45
abbrev t46:aj:=.tmp 46
abbrev t47:aj:=.tmp 47
abbrev t48:aj:=.tmp 48
abbrev ak2:aj:=.var 48
abbrev t49:aj:=.tmp 49
abbrev t50:aj:=.tmp 50
abbrev t51:aj:=.tmp 51
abbrev t52:aj:=.tmp 52
abbrev t53:aj:=.tmp 53
abbrev t54:aj:=.tmp 54
abbrev t55:aj:=.tmp 55
abbrev t56:aj:=.tmp 56
abbrev t57:aj:=.tmp 57
abbrev t58:aj:=.tmp 58
abbrev t59:aj:=.tmp 59
abbrev t60:aj:=.tmp 60
abbrev t61:aj:=.tmp 61
abbrev t62:aj:=.tmp 62
abbrev t63:aj:=.tmp 63
abbrev t64:aj:=.tmp 64
abbrev t65:aj:=.tmp 65
abbrev t66:aj:=.tmp 66
abbrev t67:aj:=.tmp 67
abbrev t68:aj:=.tmp 68
abbrev t69:aj:=.tmp 69
abbrev t70:aj:=.tmp 70
abbrev t71:aj:=.tmp 71
abbrev t72:aj:=.tmp 72
abbrev t73:aj:=.tmp 73
abbrev t74:aj:=.tmp 74
abbrev t75:aj:=.tmp 75
abbrev t76:aj:=.tmp 76
abbrev t77:aj:=.tmp 77
abbrev t78:aj:=.tmp 78
abbrev t79:aj:=.tmp 79
abbrev t80:aj:=.tmp 80
abbrev t81:aj:=.tmp 81
abbrev ak3:aj:=.var 81
abbrev t82:aj:=.tmp 82
abbrev t83:aj:=.tmp 83
abbrev t84:aj:=.tmp 84
abbrev t85:aj:=.tmp 85
abbrev t86:aj:=.tmp 86
abbrev t87:aj:=.tmp 87
abbrev t88:aj:=.tmp 88
abbrev t89:aj:=.tmp 89
abbrev t90:aj:=.tmp 90
abbrev t91:aj:=.tmp 91
abbrev t92:aj:=.tmp 92
abbrev t93:aj:=.tmp 93
abbrev t94:aj:=.tmp 94
abbrev t95:aj:=.tmp 95
abbrev t96:aj:=.tmp 96
abbrev t97:aj:=.tmp 97
abbrev t98:aj:=.tmp 98
abbrev ak4:aj:=.var 98
abbrev t99:aj:=.tmp 99
abbrev t100:aj:=.tmp 100
abbrev t101:aj:=.tmp 101
abbrev t102:aj:=.tmp 102
abbrev t103:aj:=.tmp 103
abbrev Xh:aj:=.var 103
abbrev t104:aj:=.tmp 104
abbrev t105:aj:=.tmp 105
abbrev v105:aj:=.var 105
abbrev t107:aj:=.tmp 107
abbrev t108:aj:=.tmp 108
abbrev t109:aj:=.tmp 109
abbrev t110:aj:=.tmp 110
abbrev t111:aj:=.tmp 111
abbrev t112:aj:=.tmp 112
abbrev t113:aj:=.tmp 113
abbrev t114:aj:=.tmp 114
abbrev t115:aj:=.tmp 115
abbrev t116:aj:=.tmp 116
abbrev t117:aj:=.tmp 117
abbrev t118:aj:=.tmp 118
abbrev t119:aj:=.tmp 119
abbrev t120:aj:=.tmp 120
abbrev t121:aj:=.tmp 121
abbrev t122:aj:=.tmp 122
abbrev ak5:aj:=.var 122
abbrev t123:aj:=.tmp 123
abbrev t124:aj:=.tmp 124
abbrev t125:aj:=.tmp 125
abbrev t126:aj:=.tmp 126
abbrev t127:aj:=.tmp 127
abbrev t128:aj:=.tmp 128
abbrev t129:aj:=.tmp 129
abbrev t130:aj:=.tmp 130
abbrev v130:aj:=.var 130
abbrev t131:aj:=.tmp 131
abbrev t132:aj:=.tmp 132
abbrev t133:aj:=.tmp 133
abbrev t134:aj:=.tmp 134
abbrev t135:aj:=.tmp 135
abbrev t136:aj:=.tmp 136
abbrev t137:aj:=.tmp 137
abbrev t138:aj:=.tmp 138
abbrev t139:aj:=.tmp 139
abbrev t140:aj:=.tmp 140
abbrev t141:aj:=.tmp 141
abbrev t142:aj:=.tmp 142
abbrev t143:aj:=.tmp 143
abbrev t144:aj:=.tmp 144
abbrev t145:aj:=.tmp 145
abbrev t146:aj:=.tmp 146
abbrev t147:aj:=.tmp 147
abbrev c (n:Int):aj:=.const (.int .i64 n)
abbrev cs (l:List UInt8):aj:=.const (.str l)
abbrev km:aj:=.const (.bool true)
abbrev k6:aj:=.const (.bool false)
abbrev tY:aj:=.const .aY
abbrev fn (i:Nat):aj:=.func i
def r (n:Nat)(o:cS):bP:=⟨some (n,false),o,none⟩
def o (n:Nat)(p:cS):bP:=⟨some (n,true),p,none⟩
def n (o:cS):bP:=⟨none,o,none⟩
def rg (n:Nat)(x:aj)(w:Bool)(o:cS):bP:=⟨some (n,false),o,some (x,w)⟩
def m (x:aj):cS:=.mv x
def ck (x:aj):cS:=.load none x
def ls (k:Nat)(x:aj):cS:=.load (some k) x
def st (k:Nat)(a x:aj):cS:=.store k a x
def dA (k:Nat)(x:aj):cS:=.fieldAddr k x
def k7 (k:Nat)(x i:aj):cS:=.indexAddr k x i
def fs (k n:Nat)(x:aj):cS:=.field k (some n) x
def ex (x:aj)(i:Nat):cS:=.extract x i
def iK (k:Nat)(x:aj):cS:=.len k x
def eq (x y:aj):cS:=.bin .eql x y
def ne (x y:aj):cS:=.bin .neq x y
def lt (x y:aj):cS:=.bin .lss x y
def gt (x y:aj):cS:=.bin .gtr x y
def ge (x y:aj):cS:=.bin .geq x y
def le (x y:aj):cS:=.bin .leq x y
def dh (x y:aj):cS:=.bin .add x y
def no (x:aj):cS:=.un .not x
def j1 (x y z:aj):cS:=.pick x y z
def gX (f:aj)(l:List aj):cS:=.call false f l
def ap (e b:Nat)(x y:aj):cS:=.append e b x y
def jr (x:aj):cS:=.box x
def zu (x:aj):cS:=.nilCheck x
def q (a b:b8):b8:=.seq a b
def R (l:List bP):b8:=.region l none
def p7 (l:List bP)(b:List Nat):b8:=.region l (some b)
def iL (x:aj)(a b:b8):b8:=.cond x a b
def cy (i:Nat)(a:b8):b8:=.block i a
def k:b8:=.skip
def e (i:Nat):b8:=.exit i
def rt:b8:=.ret
abbrev nl:V:=.aY
abbrev z:V:=.int .i64 0
abbrev mn:V:=.str []
abbrev em:V:=.emp
end Go.Abs.S
set_option maxRecDepth 100000
namespace Go.Abs.bZ
open Go Go.Abs Go.Proofs Go.Abs.S
noncomputable section
def gI:Code->Code| .seq a _=>a|c=>c
def c0:Code->Code| .seq _ a=>a|c=>c
def ak6:b8:=q (R [r 14 (k7 2 v10 v12),r 15 (ls 2 t14),o 5 (.alloc [z,z]),n (st 2 v5 t15)]) (R [r 16 (m v3),r 17 (dA 0 v5),r 18 (ck t17),r 19 (.lookup 0 (.int .i64 0) t16 t18 false),r 20 (dA 1 v5),r 21 (ck t20),r 22 (dh t19 t21),n (.qt 0 t16 t18 t22)])
def Xi:ni:=⟨[R [o 2 (m tY)],R [r 9 (.mkMap),o 3 (m t9)],q (R [o 10 (m v0),o 11 (iK 1 v10),o 12 (m (c 0))]) (cy 0 (.loop (vU 13 11 12 23 1 0 ak6))),R [o 6 (m tY)]],⟨[r 24 (m v3)],t24,25,(26,false),[o 27 (ex t26 0)],akY,3,(28,false),[r 29 (ex t28 0),r 30 (ex t28 1),o 7 (m t29),o 8 (m t30)],q (R [r 31 (m tX),o 32 (ne t31 (c 0))]) (iL ak0 (R [r 33 (m v6),r 34 (m ly),r 35 (m tX),r 36 (.build [z,z] [(0,1,t34),(1,1,t35)]),r 37 (.lit 2 [z,z] 1 [(0,t36)] true),r 38 (ap 2 16 t33 t37),o 6 (m t38)]) k)⟩,q (R [r 39 (m v6),r 40 (.call true (fn 306) [t39,(fn 307)])]) (q (R [r 41 (m v6),o 2 (m t41)]) rt),[.tmp 2]⟩
def Cj:Code:=Tryz.f197.body.getD .skip
theorem ak7 (g:Nat->Option Obj):JK (C g) Tryz.f197 Xi:=⟨[gI Cj,gI (c0 Cj),gI (c0 (c0 Cj)),gI (c0 (c0 (c0 Cj)))],gI (c0 (c0 (c0 (c0 Cj)))),c0 (c0 (c0 (c0 (c0 Cj)))),by kernel_rfl,by kernel_rfl,by kernel_rfl,by kernel_rfl,by kernel_rfl,by kernel_rfl⟩
def Xj:ni:=⟨[R [o 3 (jr v0),o 6 (.alloc [nl,nl,nl]),o 7 (m (c 0))],R [r 18 (ls 9 v3),r 19 (m v1),r 20 (m v2),r 21 (gX (fn 91) [t18,t19,t20]),r 17 (m t21),r 22 (ex t17 0),r 23 (ex t17 1),o 8 (m t22),o 9 (m t23)],q (R [r 24 (m v9),o 25 (ne t24 (c 0))]) (iL akW (q (R [r 26 (.build [nl,nl,nl] []),r 27 (m v9),n (st 3 v6 t26),o 7 (m t27)]) rt) k),q (R [r 28 (m tX),o 29 (no t28)]) (iL akZ (q (R [r 30 (.build [nl,nl,nl] []),n (st 3 v6 t30),o 7 (m (c 9))]) rt) k),p7 [r 32 (dA 0 v3),r 33 (ls 5 t32),r 34 (dA 8 v3),r 35 (ck t34),r 36 (m v1),r 37 (k7 4 t35 t36),r 38 (dA 3 t37),r 39 (ck t38),r 40 (gX (fn 92) [t33,t39]),r 31 (m t40),r 41 (ex t31 0),r 42 (ex t31 1),o 10 (m t41),r 11 (m t42)] [0,1,0,4,0,28,60,124,255,511,1023,1023,2047,8191],R [r 44 (dA 0 v3),r 45 (ls 5 t44),r 46 (m v10),r 47 (gX (fn 93) [t45,t46]),r 43 (m t47),r 48 (ex t43 0),r 49 (ex t43 1),o 12 (.alloc [z,mn,z,z,nl]),n (st 5 v12 t48),r 13 (m t49)],R [r 50 (ls 9 v3),r 51 (.mkMap),r 52 (.build [nl,nl,nl,z,mn,z,z,nl,nl,nl,nl,nl,nl,.h7] [(3,9,t50),(13,1,t51)]),r 53 (jr t52),o 14 (m t53)],p7 [r 54 (m xI),r 55 (dA 4 v12),r 56 (ck t55),r 57 (k7 5 t56 (c 2)),r 58 (ls 5 t57),r 59 (ls 9 v3),r 60 (m v1),r 61 (gX (fn 96) [t59,t60]),r 62 (m v2),r 63 (gX (fn 95) [t61,t62]),r 64 (gX (fn 94) [t54,t58,t63])] [0,0,2,6,14,0,0,96,0,480,1023],R [r 65 (m xI),r 66 (m xI),r 67 (zu t66),r 68 (dA 12 t67),r 69 (ck t68),r 70 (.lit 1 [nl] 1 [(0,t69)] true),r 71 (gX (fn 97) [t70]),r 72 (zu t65),r 73 (dA 0 t72),r 74 (dA 0 t73),n (st 1 t74 t71)]],⟨[r 75 (m xI),r 76 (zu t75),r 77 (dA 13 t76),r 78 (ck t77)],t78,79,(80,false),[o 81 (ex t80 0)],ak3,1,(82,false),[r 83 (ex t82 1),o 16 (.alloc [z,z,z]),n (st 3 Xf t83)],p7 [r 84 (m xI),r 85 (m xI),r 86 (zu t85),r 87 (dA 0 t86),r 88 (dA 2 t87),r 89 (ck t88),r 90 (ls 3 Xf),r 91 (.lit 3 [z,z,z] 1 [(0,t90)] true),r 92 (ap 3 24 t89 t91),r 93 (zu t84),r 94 (dA 0 t93),r 95 (dA 2 t94),n (st 1 t95 t92)] [0,0,2,6,14,30,0,64,254,511,1023,2047,4095]⟩,q (R [r 96 (m xI),r 97 (zu t96),r 98 (dA 0 t97),r 99 (dA 2 t98),r 100 (ck t99),r 101 (gX (fn 98) [t100,(fn 99)])]) (q (R [r 102 (m xI),r 103 (zu t102),r 104 (dA 0 t103),r 105 (ls 3 t104),n (st 3 v6 t105),o 7 (m (c 0))]) rt),[.cell 6 (some 3),.tmp 7]⟩
def o9:Code:=Tryz.f35.body.getD .skip
theorem ak8 (g:Nat->Option Obj):JK (C g) Tryz.f35 Xj:=⟨[gI o9,gI (c0 o9),gI (c0 (c0 o9)),gI (c0 (c0 (c0 o9))),gI (c0 (c0 (c0 (c0 o9)))),gI (c0 (c0 (c0 (c0 (c0 o9))))),gI (c0 (c0 (c0 (c0 (c0 (c0 o9)))))),gI (c0 (c0 (c0 (c0 (c0 (c0 (c0 o9))))))),gI (c0 (c0 (c0 (c0 (c0 (c0 (c0 (c0 o9))))))))],gI (c0 (c0 (c0 (c0 (c0 (c0 (c0 (c0 (c0 o9))))))))),c0 (c0 (c0 (c0 (c0 (c0 (c0 (c0 (c0 (c0 o9))))))))),by kernel_rfl,by kernel_rfl,by kernel_rfl,by kernel_rfl,by kernel_rfl,by kernel_rfl⟩
variable (g:Nat->Option Obj)
theorem ak9:Xi.hq (bm (fw g) 95) 60 Tryz.f197.ntmps UJ:=⟨⟨by kernel_rfl,by kernel_rfl,by kernel_rfl⟩,⟨⟨by kernel_rfl,by kernel_rfl,by kernel_rfl⟩,⟨⟨by kernel_rfl,by kernel_rfl,by kernel_rfl⟩,⟨⟨by kernel_rfl,by kernel_rfl,by kernel_rfl⟩,⟨⟨by kernel_rfl,by kernel_rfl,by kernel_rfl⟩,⟨⟨by kernel_rfl,by kernel_rfl,by kernel_rfl⟩,trivial⟩⟩⟩⟩⟩⟩
def PS:Nat->Option cb:=over (fw g) 197 (hk UJ)
end
end Go.Abs.bZ
