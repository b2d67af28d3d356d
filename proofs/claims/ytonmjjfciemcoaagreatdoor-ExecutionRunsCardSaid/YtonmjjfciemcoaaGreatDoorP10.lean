/- Texts of this claim, joined and written short by a program. -/
import Derived.Test.YtonmjjfciemcoaaGreatDoorP09
import Derived.Lib.ItoaNum
import Derived.Below
import Derived.Test.YtonmjjfciemcoaaGreatDoorP01
import Derived.Test.YtonmjjfciemcoaaGreatDoorP00
set_option linter.unusedVariables false
set_option linter.unusedSimpArgs false
set_option linter.unusedSectionVars false
namespace Go.Abs.hk
open Go Go.Abs Go.Proofs
variable{fid:Nat->Nat}{g:Nat->Option Obj}
set_option maxRecDepth 100000 in
theorem vc{i:Nat}{fn:Func}(ab:Tryz.prog.funcs[i]? =some fn)(hb:fn.body.isSome=true)(hn:(fn.name== "runtime.NumGoroutine")=false){R:Value->World->Prop}{xs:List Value}{w:World}
  (h:Calls Tryz.prog i ⟨xs⟩ w fun e w'=>∃x,e=.returned x/\R x w'):rQ (C g).P R ((callFunc i ⟨xs⟩).run (C g).P w):=by
 obtain⟨c,hc⟩:=Option.isSome_iff_exists.1 hb;rw[Da (C:=C g) ab hc hn];exact h
theorem wR{w:World}{I:Nat->Prop}{s:List UInt8}{x:Value}(h:fz w I (.str s) x):x=.string ⟨⟨s⟩⟩:=by cases h;rfl
theorem azz:Tryz.f356.body.isSome=true:=by kernel_rfl
theorem azA:(Tryz.f356.name== "runtime.NumGoroutine")=false:=by kernel_rfl
theorem aFj:Tryz.f452.body.isSome=true:=by kernel_rfl
theorem aFk:(Tryz.f452.name== "runtime.NumGoroutine")=false:=by kernel_rfl
theorem aFl:Tryz.f260.body.isSome=true:=by kernel_rfl
theorem aFm:(Tryz.f260.name== "runtime.NumGoroutine")=false:=by kernel_rfl
theorem aFn:Tryz.f449.body.isSome=true:=by kernel_rfl
theorem aFo:(Tryz.f449.name== "runtime.NumGoroutine")=false:=by kernel_rfl
theorem afJ{ds:List V}{l:List (List UInt8)}(h:strs ds=some l):ds=l.map .str:=by
 induction ds generalizing l with
 |nil=>cases h;rfl
 |cons v r ih=>
  cases v<;>first|(cases h;done)|skip
  simp only[strs]at h;obtain⟨m,hm,rfl⟩:=ct.1 h;rw[ih hm];rfl
theorem TT{w:World}{I:Nat->Prop}:∀{l:List (List UInt8)} {vals:List Value},c7 w I ((l.map V.str).flatMap aE) vals->vals=l.map fun s=>Value.string ⟨⟨s⟩⟩
 |[],vals,h=>by cases h;rfl
 |s::r,vals,h=>by
  rw[eo,kn]at h;cases h with
  |cons _ x _ xs h1 h2=>
   obtain rfl:=wR h1;rw[TT h2];rfl
set_option maxRecDepth 100000 in
theorem afK:og (C g) id 356 Cq:=by
 intro G H w args v xs U eQ hs;unfold Cq at hs;split at hs
 ·rename_i sep
  cases hs;cases eQ with
  |cons _ x _ xs h1 fJ=>
   cases fJ with
   |cons _ y _ cR h2 oT=>
    cases oT;cases h1;obtain rfl:=wR h2;refine vc Tryz.func356 azz azA ((Tryz.strings_Join_none none 0 _ w).mono ?_);rintro e w' ⟨rfl,rfl⟩;exact⟨_,rfl,G,U,fun m _=>.refl _ _ _ _,.p _ _ (.str [])⟩
 ·rename_i es ds sep
  split at hs
  ·rename_i l hl
   split at hs
   ·rename_i hc
    obtain⟨rfl,bf,jl,mF⟩:=hc;cases hs;obtain rfl:=afJ hl;cases eQ with
    |cons _ x _ xs h1 fJ=>
     cases fJ with
     |cons _ y _ cR h2 oT=>
      cases oT;obtain rfl:=wR h2;generalize lx:l.map V.str=D at h1;cases h1 with
      |ur _ a cap=>exact absurd (List.map_eq_nil_iff.1 lx) bf
      |list _ _ b o cap vals aW hG hu hr MF=>
       subst lx;obtain rfl:=TT hr;have Du:((l.map fun s=>(⟨⟨s⟩⟩:ByteArray)).map (·.data.toList))=l:=by rw[rB];exact List.map_id l
       have hj:=Tryz.strings_Join b o cap (l.map fun s=>⟨⟨s⟩⟩) ⟨⟨sep⟩⟩ w (fun j y hy=>by
        refine hG j _ ?_;simp only[jy]at hy⊢;cases aT:l[j]? with
        |none=>rw[aT]at hy;cases hy
        |some z=>rw[aT]at hy;cases hy;rfl) (U.cX b aW).1 (by simp;omega) (by simpa using MF) (by rw[Du];simp only[QJ];omega)
       rw[Du]at hj;simp only[oG]at hj⊢;refine vc Tryz.func356 azz azA (hj.mono ?_);rintro e w' ⟨rfl,hb⟩;exact⟨_,rfl,G,U.restore hb.size hb.block,fun m _=>.restore hb.size hb.block hb.os hb.output m _,.p _ _ (.str (Lib.join l sep))⟩
   ·cases hs
  ·cases hs
 ·cases hs
theorem azB:Tryz.f132.body.isSome=true:=by kernel_rfl
theorem azC:(Tryz.f132.name== "runtime.NumGoroutine")=false:=by kernel_rfl
set_option maxRecDepth 100000 in
theorem afL (pM:∀(G:bX) (H:Heap) (w:World),aZ (C g) id G H w->Lib.TabIs Tryz.prog w "internal/strconv.uint64pow10" .u64 Lib.pow10Tab):og (C g) id 132 Cr:=by
 intro G H w args v xs U eQ hs;unfold Cr at hs;split at hs
 ·rename_i n
  split at hs
  ·rename_i hn
   cases hs;obtain⟨k,rfl⟩:=Kg hn.1;cases eQ with
   |cons _ x _ xs h1 fJ=>
    cases fJ;cases h1;have cW:k<10:=by omega
    refine vc Tryz.func132 azB azC ((Tryz.strconv_Itoa_small k (by omega) w).mono ?_);rintro e w' ⟨rfl,rfl⟩;rw[Lib.decDigits_one cW];exact⟨_,rfl,G,U,fun m _=>.refl _ _ _ _,.p _ _ (.str _)⟩
  ·split at hs
   ·rename_i hn
    cases hs;cases eQ with
    |cons _ x _ xs h1 fJ=>
     cases fJ;cases h1;refine vc Tryz.func132 azB azC ((Tryz.strconv_Itoa n (by omega) (by omega) w (pM G H w U)).mono ?_);rintro e w' ⟨rfl,q,os,rfl⟩
     have af:Lib.itoa n=[45,UInt8.ofNat (48+n.natAbs)]:=by
      unfold Lib.itoa;rw[if_pos hn.2,Lib.decDigits_one (by omega)]
     have dJ:w.heap.size<=(Sort.grow (w.drewN q) os).heap.size:=by simp[Sort.grow,World.drewN]
     have cW:∀b,b<w.heap.size->(Sort.grow (w.drewN q) os).heap[b]? =w.heap[b]? :=fun b hb=>by
      simp only[Sort.grow,World.drewN];rw[aaZ hb]
     rw[af];exact⟨_,rfl,G,U.restore dJ cW,fun m _=>.restore dJ cW rfl rfl m _,.p _ _ (.str _)⟩
   ·cases hs
 ·cases hs
set_option maxRecDepth 100000 in
theorem afM:og (C g) id 452 F8:=by
 intro G H w args v xs U eQ hs;unfold F8 at hs;split at hs
 ·rename_i s c
  cases hs;cases eQ with
  |cons _ x _ xs h1 fJ=>
   cases fJ with
   |cons _ y _ cR h2 oT=>
    cases oT;cases h2;obtain rfl:=wR h1;refine vc Tryz.func452 aFj aFk ((Tryz.strings_IndexByte _ c w).mono ?_);rintro e w' ⟨rfl,rfl⟩;exact⟨_,rfl,G,U,fun m _=>.refl _ _ _ _,.p _ _ (.int .i64 _)⟩
 ·cases hs
set_option maxRecDepth 100000 in
theorem afN:og (C g) id 260 Cp:=by
 intro G H w args v xs U eQ hs;unfold Cp at hs;split at hs
 ·rename_i s
  split at hs
  ·rename_i hl
   obtain⟨n,hn,rfl⟩:=ct.1 hs;cases eQ with
   |cons _ x _ xs h1 fJ=>
    cases fJ;obtain rfl:=wR h1;refine vc Tryz.func260 aFl aFm ((Tryz.strconv_Atoi ⟨⟨s⟩⟩ n hl hn w).mono ?_);rintro e w' ⟨rfl,t,rfl⟩
    have dJ:w.heap.size<=(Lib.bytesWorld w 5 t).heap.size:=by
     unfold Lib.bytesWorld World.freeze;have h0:w.drew.heap=w.heap:=rfl;split<;>simp[h0]
    have cW:∀b,b<w.heap.size->(Lib.bytesWorld w 5 t).heap[b]? =w.heap[b]? :=fun b hb=>by
     have h1:(w.drew.alloc (.cells (Lib.bytesCells w 5 t) 5)).heap[b]? =w.heap[b]? :=alloc_old (w:=w.drew) hb;unfold Lib.bytesWorld World.freeze;split
     ·exact h1
     ·show(Array.modify _ _ _)[b]? =_
      rw[Array.getElem?_modify,if_neg (fun e=>by have e':w.heap.size=b:=e
                                                 omega)]
      exact h1
    have Af:(Lib.bytesWorld w 5 t).os=w.os/\(Lib.bytesWorld w 5 t).tape=w.tape/\(Lib.bytesWorld w 5 t).output=w.output:=by
     unfold Lib.bytesWorld World.freeze;split<;>exact⟨rfl,rfl,rfl⟩
    refine⟨_,rfl,G,U.restore dJ cW,fun m _=>.restore dJ cW Af.1 Af.2.2 m _,.p _ _ (.aU _ _ (.cons _ _ _ _ (.int .i64 n) (.cons _ _ _ _ .ig .nil)))⟩
  ·cases hs
 ·cases hs
theorem TW{w:World}{I:Nat->Prop}:∀(l:List (List UInt8)),c7 w I ((l.map V.str).flatMap aE) (l.map fun x=>Value.string ⟨x.toArray⟩)
 |[]=>.nil
 |a::l=>.cons _ _ _ _ (.str a) (TW l)
set_option maxRecDepth 100000 in
theorem afO (pM:∀(G:bX) (H:Heap) (w:World),aZ (C g) id G H w->Lib.TabIs Tryz.prog w "strings.asciiSpace" .u8 Lib.asciiSpaceTab):og (C g) id 449 Co:=by
 intro G H w args v xs U eQ hs;unfold Co at hs;split at hs
 ·rename_i s
  split at hs
  ·rename_i hc
   simp only[b8,decide_eq_true_eq]at hc;cases hs;cases eQ with
   |cons _ x _ xs h1 fJ=>
    cases fJ;obtain rfl:=wR h1;refine vc Tryz.func449 aFn aFo ((Tryz.strings_Fields ⟨⟨s⟩⟩ w hc.2 (fun j b hb=> ?_) (pM G H w U)).mono ?_)
    ·have:=eV.1 hc.1 b (hz hb)
     have h':=UInt8.lt_iff_toNat_lt.1 (of_decide_eq_true this);simpa using h'
    rintro e w' ⟨rfl,rfl⟩;refine⟨_,rfl,⟨G.β,fun b=>G.I b\/(b=w.heap.size/\True)⟩,U.sY _ True,fun m _=>.sY _ True m _,?_⟩;refine .p _ _ ?_;cases ab:Lib.fields s with
    |nil=>simp only[List.isEmpty_nil,if_true,ja];exact .emp _
    |cons a r=>
     simp only[List.isEmpty_cons,hY,if_false];rw[<-oG (f:=V.str)];refine .list 1 _ _ 0 _ _ (.inr ⟨rfl,trivial⟩) ?_ (fun d hd=> ?_) (TW (a::r)) (aK _)
     ·intro j x hx
      rw[RA (oQ w _),eO,<-auF];exact hx
     ·obtain⟨y,-,rfl⟩:=ey.1 hd
      rfl
  ·cases hs
 ·cases hs
theorem afD:Tryz.f142.body.isSome=true:=by kernel_rfl
theorem afE:(Tryz.f142.name== "runtime.NumGoroutine")=false:=by kernel_rfl
set_option maxRecDepth 100000 in
theorem afR:og (C g) id 142 KF:=by
 intro G H w args v xs U eQ hs;unfold KF at hs;split at hs
 ·rename_i n
  have key:∀k:Nat,(k=0\/k=1\/k=2)->n=(k:Int)->v=.int .i64 (k:Int)->rQ (C g).P (ll (C g) id G H w v H H.length) ((callFunc 142 ⟨xs⟩).run (C g).P w):=fun k cW hn ad=>by
   subst hn;subst ad;cases eQ with
   |cons _ x _ xs h1 fJ=>
    cases fJ;cases h1;refine vc Tryz.func142 afD afE ((Tryz.bits_Len (k:Int) w (by omega) (by omega)).mono ?_);rintro e w' ⟨rfl,rfl⟩;have:(Lib.bitLen (k:Int).toNat:Int)=(k:Int):=by rcases cW with rfl|rfl|rfl<;>rfl
    exact⟨_,rfl,G,U,fun m _=>.refl _ _ _ _,by rw[this];exact .p _ _ (.int .i64 _)⟩
  split at hs
  ·rename_i h;cases hs;exact key 0 (.inl rfl) h rfl
  ·split at hs
   ·rename_i h;cases hs;exact key 1 (.inr (.inl rfl)) h rfl
   ·split at hs
    ·rename_i h;cases hs;exact key 2 (.inr (.inr rfl)) h rfl
    ·cases hs
 ·cases hs
theorem aFp:Tryz.f389.body.isSome=true:=by kernel_rfl
theorem aFq:(Tryz.f389.name== "runtime.NumGoroutine")=false:=by kernel_rfl
set_option maxRecDepth 100000 in
theorem afU:og (C g) id 389 KG:=by
 intro G H w args v xs U eQ hs;unfold KG at hs;split at hs
 ·rename_i s c
  split at hs
  ·rename_i hc
   cases hs;cases eQ with
   |cons _ x _ xs h1 fJ=>
    cases fJ with
    |cons _ y _ cR h2 oT=>
     cases oT;obtain rfl:=wR h1;obtain rfl:=wR h2;have ux:c.toNat<128:=by simpa using UInt8.lt_iff_toNat_lt.1 hc
     refine vc Tryz.func389 aFp aFq ((Tryz.strings_TrimLeft_one ⟨⟨s⟩⟩ c ux w).mono ?_);rintro e w' ⟨rfl,rfl⟩;exact⟨_,rfl,G,U,fun m _=>.refl _ _ _ _,.p _ _ (.str _)⟩
  ·cases hs
 ·cases hs
end Go.Abs.hk
namespace Go.Abs
open Go
def yD (es:Nat):V->Bool
 | .cp| .emp=>true
 | .list bD _=>bD==es
 | _=>false
def el:V->List V
 | .list _ ds=>ds
 | _=>[]
section
variable{call:cU}{ae:ag->V}{H:Heap}{low:Nat}
theorem ly (x:ag):b2 call ae H low (.mv x)=some (ae x,H,low):=rfl
theorem kG (c a b:ag):b2 call ae H low (.pick c a b)=(kR (ae c)).map fun t=>(if t then ae a else ae b,H,low):=rfl
theorem mc (z:List V):b2 call ae H low (.alloc z)=some (.ptr H.length 0,H++[.cells z],low):=rfl
theorem nH (x:ag):b2 call ae H low (.box x)=if bS (aE (ae x))then some (.ptr H.length 0,H++[.cells (aE (ae x))],low)else none:=rfl
theorem jK (sh:Option Nat)(x:ag):b2 call ae H low (.load sh x)=(gN H sh (ae x)).map fun v=>(v,H,low):=rfl
theorem jL (n:Nat)(a x:ag):b2 call ae H low (.store n a x)=(hD H n (ae a) (ae x)).map fun(H',l)=>(.undef,H',min low l):=rfl
theorem jq (op:BinOp)(x y:ag):b2 call ae H low (.bin op x y)=(dB op (ae x) (ae y)).map fun v=>(v,H,low):=rfl
theorem k2 (op:UnOp)(x:ag):b2 call ae H low (.un op x)=(kS op (ae x)).map fun v=>(v,H,low):=rfl
theorem lz (k:Nat)(neg:Bool)(x y:ag):b2 call ae H low (.pt k neg x y)=(oJ k (ae x) (ae y)).map fun e=>(.bool (if neg then !e else e),H,low):=rfl
theorem MG (i:Nat)(a b:List ag):b2 call ae H low (.sS i a b)=some (.fn i (a.map ae) (b.map ae),H,low):=rfl
theorem TX:b2 call ae H low .mkMap=some (.map H.length,H++[.map []],low):=rfl
theorem me (x:ag)(i:Nat):b2 call ae H low (.extract x i)=match ae x with
 | .aU vs=>(vs[i]?).map fun v=>(v,H,low)
 | _=>none:=rfl
theorem afV (off:Nat)(sh:Option Nat)(x:ag):b2 call ae H low (.field off sh x)=match ae x with
 | .agg vs=>(fY vs off sh).map fun v=>(v,H,low)
 | _=>none:=rfl
theorem mf (off:Nat)(x:ag):b2 call ae H low (.fieldAddr off x)=match ae x with
 | .ptr l o=>some (.ptr l (o+off),H,low)
 | .gF l es i f tag=>some (.gF l es i (f+off) tag,H,low)
 | .dn vs f=>some (.dn vs (f+off),H,low)
 | _=>none:=rfl
theorem k3 (f:ag)(args:List ag):b2 call ae H low (.call false f args)=match dX H low (args.map ae)with
 |some (vs,H',low')=>match call (ae f) vs H' with
  |some (v,FV,l)=>if flat v=true/\H'.length<=l then some (v,H,low)else some (v,FV,min low' l)
  |none=>none
 |none=>none:=rfl
theorem lA (f:ag)(args:List ag):b2 call ae H low (.call true f args)=match call (ae f) (args.map ae) H with
 |some (v,H',l)=>some (v,H',min low l)
 |none=>none:=rfl
theorem th (es bytes:Nat)(a b:ag):b2 call ae H low (.append es bytes a b)=step ae H low (.append es bytes a b):=rfl
theorem Dv (es:Nat)(z:List V)(n:Nat)(ps:List (Nat × ag))(jc:Bool):b2 call ae H low (.lit es z n ps jc)=step ae H low (.lit es z n ps jc):=rfl
theorem MH (es:Nat)(z:List V)(b:Nat)(l c:ag):b2 call ae H low (.mkSlice es z b l c)=step ae H low (.mkSlice es z b l c):=rfl
theorem TY (es:Nat)(x:ag)(lo hi mx:Option ag):b2 call ae H low (.pw es x lo hi mx)=step ae H low (.pw es x lo hi mx):=rfl
theorem Hd (k:Nat)(z:V)(x i:ag)(ok:Bool):b2 call ae H low (.lookup k z x i ok)=step ae H low (.lookup k z x i ok):=rfl
theorem TZ (k:Nat)(m x v:ag):b2 call ae H low (.px k m x v)=step ae H low (.px k m x v):=rfl
theorem T0 (m:Bool)(x y:ag):b2 call ae H low (.ug m x y)=step ae H low (.ug m x y):=rfl
theorem T1{x:ag}(es:Nat)(h:yD es (ae x)=true):b2 call ae H low (.len 1 x)=some (.int .i64 (el (ae x)).length,H,low):=by
 show step ae H low (.len 1 x)=_;cases hx:ae x<;>simp_all [yD,step,el]
theorem afW{es:Nat}{x i:ag}(h:yD es (ae x)=true):b2 call ae H low (.indexAddr es x i)=match kr (ae i)with
  |some k=>((el (ae x))[k]?).map fun d=>(.dn (aE d) 0,H,low)
  |none=>none:=by
 show step ae H low (.indexAddr es x i)=_;cases hx:ae x<;>simp_all [yD,step,el]<;>cases kr (ae i)<;>rfl
end
@[simp] theorem as9 (k : IntKind) (n : Nat) : kr (.int k (n : Int)) = some n := by simp [kr]
@[simp] theorem iT (H : Heap) : eG H H H.length = false := by simp [eG]
theorem wrap_small{n:Int}(h1:-9223372036854775808<=n)(h2:n<9223372036854775808):IntKind.i64.wrap n=n:=by
 have e:(2^IntKind.i64.bits:Int)=18446744073709551616:=rfl;have e':(2^(IntKind.i64.bits-1):Int)=9223372036854775808:=rfl;have s:IntKind.i64.signed=true:=rfl;simp only[IntKind.wrap,e,e',s,fI,decide_eq_true_eq];split<;>omega
theorem fB (e:Env)(t eY:Nat)(v:V):bk (ec e t v) eY=if eY=t then v else bk e eY:=by
 induction e with
 |nil=>
  by_cases h:eY=t
  ·subst h;simp[ec,bk]
  ·simp[ec,bk,h,kp h]
 |cons p r ih=>
  obtain⟨k,u⟩:=p;simp only[ec];split
  ·rename_i cW
   subst cW;by_cases h:eY=k
   ·subst h;simp[bk]
   ·simp[bk,h,kp h]
  ·rename_i cW
   simp only[bk];split
   ·rename_i h
    rw[if_neg (by omega)]
   ·exact ih
def vd (b n i t blk ex:Nat)(body:cj):cj:=
 .seq (.region [⟨some (b,true),.bin .lss (.var i) (.var n),none⟩] none) (.seq (.cond (.var b) (.skip) (.exit ex)) (.seq (.block blk body)
  (.region [⟨some (t,false),.bin .add (.var i) (.const (.int .i64 1)),none⟩,⟨some (i,true),.mv (.tmp t),none⟩] none)))
theorem afX{aa:Nat->Option bY}{b n i t blk ex:Nat}{body:cj}{I:Nat->aq->Prop}{Q:X->aq->Prop}{N:Nat}(wN:N<4611686018427387904)(Sz:b≠i)(hex:ex≠blk)
  (aW:∀k st,I k st->bk st.av i=.int .i64 k/\bk st.av n=.int .i64 N/\st.low<=st.H.length)
  (round:∀k st,k<N->I k st->∃x fU,dx aa body {st with aG:=[],av:=ec st.av b (.bool true)}=some (x,fU)/\
    if x=.normal\/x=.exit blk then bk fU.av i=.int .i64 k/\fU.low<=fU.H.length/\I (k+1) {fU with aG:=[],av:=ec fU.av i (.int .i64 ((k+1:Nat):Int))}else Q x fU)
  (done:∀st,I N st->Q (.exit ex) {st with aG:=[],av:=ec st.av b (.bool false)}):
  ∀j k st,k+j=N->I k st->∃x aF,dx aa (.loop (vd b n i t blk ex body)) st=some (x,aF)/\Q x aF:=by
 have aX:∀k st,I k st->dx aa (.region [⟨some (b,true),.bin .lss (.var i) (.var n),none⟩] none) st=some (.normal,{st with aG:=[],av:=ec st.av b (.bool (decide (k<N)))}):=fun k st h=>by
  obtain⟨h1,h2,ar⟩:=aW k st h;rw[h6];simp[cQ,e3,jq,ag.ae,h1,h2,dB,aq.put,lP ar]
 intro j
 induction j with
 |zero=>
  intro k st cW h;have:k=N:=by omega
  subst this;refine⟨.exit ex,_,?_,done st h⟩;rw[py];simp only[vd];rw[gn,aX k st h];simp only[];rw[gn,iO];simp[ag.ae,fB,lf]
 |succ j ih=>
  intro k st cW h;obtain⟨x,fU,h1,h2⟩:=round k st (by omega) h
  have G9:∀r,dx aa (.seq (.block blk body) (.region [⟨some (t,false),.bin .add (.var i) (.const (.int .i64 1)),none⟩,⟨some (i,true),.mv (.tmp t),none⟩] none)) {st with aG:=[],av:=ec st.av b (.bool true)}=r->
    dx aa (vd b n i t blk ex body) st=r:=fun r hr=>by
   simp only[vd];rw[gn,aX k st h];simp only[];rw[gn,iO];have hd:decide (k<N)=true:=by simp;omega
   simp[ag.ae,fB,jC,hd,hr]
  by_cases hx:x=.normal\/x=.exit blk
  ·rw[if_pos hx]at h2
   obtain⟨h2,aQ,ar⟩:=h2
   have MI:dx aa (.block blk body) {st with aG:=[],av:=ec st.av b (.bool true)}=some (.normal,fU):=by
    rw[jY,h1];rcases hx with rfl|rfl
    ·rfl
    ·simp
   have afY:dx aa (.region [⟨some (t,false),.bin .add (.var i) (.const (.int .i64 1)),none⟩,⟨some (i,true),.mv (.tmp t),none⟩] none) fU=some (.normal,{fU with aG:=[],av:=ec fU.av i (.int .i64 ((k+1:Nat):Int))}):=by
    have hw:IntKind.i64.wrap ((k:Int)+1)=((k+1:Nat):Int):=by rw[wrap_small]<;>omega
    rw[h6];simp[cQ,e3,jq,ly,ag.ae,h2,dB,hw,aq.put,bk,lP aQ]
   have o4:=G9 _ (by rw[gn,MI]);simp only[afY]at o4;obtain⟨eI,aF,h5,ft⟩:=ih (k+1) _ (by omega) ar;exact⟨eI,aF,by rw[py,o4];exact h5,ft⟩
  ·rw[if_neg hx]at h2
   have MI:dx aa (.block blk body) {st with aG:=[],av:=ec st.av b (.bool true)}=some (x,fU):=by
    rw[jY,h1];cases x with
    |normal=>exact absurd (.inl rfl) hx
    |exit id=>
     have:id≠blk:=fun e=>hx (.inr (by rw[e]));simp[this]
    |ret=>rfl
   have o4:=G9 (some (x,fU)) (by
    rw[gn,MI];cases x with
    |normal=>exact absurd (.inl rfl) hx
    |exit id=>rfl
    |ret=>rfl)
   refine⟨x,fU,?_,h2⟩;rw[py,o4];cases x with
   |normal=>exact absurd (.inl rfl) hx
   |exit id=>rfl
   |ret=>rfl
end Go.Abs
namespace Go.Abs
open Go
end Go.Abs
namespace Go.Abs.S
open Go Go.Abs
abbrev t0:ag:=.tmp 0
abbrev v0:ag:=.var 0
abbrev t1:ag:=.tmp 1
abbrev v1:ag:=.var 1
abbrev t2:ag:=.tmp 2
abbrev v2:ag:=.var 2
abbrev t3:ag:=.tmp 3
abbrev v3:ag:=.var 3
abbrev t4:ag:=.tmp 4
abbrev v4:ag:=.var 4
abbrev t5:ag:=.tmp 5
abbrev v5:ag:=.var 5
abbrev t6:ag:=.tmp 6
abbrev v6:ag:=.var 6
abbrev t7:ag:=.tmp 7
abbrev ka:ag:=.var 7
abbrev t8:ag:=.tmp 8
abbrev r7:ag:=.var 8
abbrev t9:ag:=.tmp 9
abbrev v9:ag:=.var 9
abbrev t10:ag:=.tmp 10
abbrev v10:ag:=.var 10
abbrev t11:ag:=.tmp 11
abbrev v11:ag:=.var 11
abbrev t12:ag:=.tmp 12
abbrev v12:ag:=.var 12
abbrev t13:ag:=.tmp 13
abbrev He:ag:=.var 13
abbrev t14:ag:=.tmp 14
abbrev wS:ag:=.var 14
abbrev t15:ag:=.tmp 15
abbrev r8:ag:=.var 15
abbrev t16:ag:=.tmp 16
abbrev T2:ag:=.var 16
abbrev t17:ag:=.tmp 17
abbrev t18:ag:=.tmp 18
abbrev T3:ag:=.var 18
abbrev t19:ag:=.tmp 19
abbrev t20:ag:=.tmp 20
abbrev v20:ag:=.var 20
abbrev t21:ag:=.tmp 21
abbrev t22:ag:=.tmp 22
abbrev t23:ag:=.tmp 23
abbrev af0:ag:=.var 23
abbrev t24:ag:=.tmp 24
abbrev t25:ag:=.tmp 25
abbrev af1:ag:=.var 25
abbrev t26:ag:=.tmp 26
abbrev af2:ag:=.var 26
abbrev t27:ag:=.tmp 27
abbrev af3:ag:=.var 27
abbrev t28:ag:=.tmp 28
abbrev t29:ag:=.tmp 29
abbrev af4:ag:=.var 29
abbrev t30:ag:=.tmp 30
abbrev t31:ag:=.tmp 31
abbrev t32:ag:=.tmp 32
abbrev af5:ag:=.var 32
abbrev t33:ag:=.tmp 33
abbrev t34:ag:=.tmp 34
abbrev t35:ag:=.tmp 35
abbrev t36:ag:=.tmp 36
abbrev t37:ag:=.tmp 37
abbrev v37:ag:=.var 37
abbrev t38:ag:=.tmp 38
abbrev t39:ag:=.tmp 39
abbrev t40:ag:=.tmp 40
abbrev t41:ag:=.tmp 41
abbrev t42:ag:=.tmp 42
abbrev t43:ag:=.tmp 43
abbrev t44:ag:=.tmp 44
abbrev af7:ag:=.var 44
abbrev t45:ag:=.tmp 45
abbrev t46:ag:=.tmp 46
abbrev t47:ag:=.tmp 47
abbrev t48:ag:=.tmp 48
abbrev af8:ag:=.var 48
abbrev t49:ag:=.tmp 49
abbrev t50:ag:=.tmp 50
abbrev t51:ag:=.tmp 51
abbrev t52:ag:=.tmp 52
abbrev t53:ag:=.tmp 53
abbrev t54:ag:=.tmp 54
abbrev t55:ag:=.tmp 55
abbrev t56:ag:=.tmp 56
abbrev t57:ag:=.tmp 57
abbrev t58:ag:=.tmp 58
abbrev t59:ag:=.tmp 59
abbrev t60:ag:=.tmp 60
abbrev t61:ag:=.tmp 61
abbrev t62:ag:=.tmp 62
abbrev t63:ag:=.tmp 63
abbrev t64:ag:=.tmp 64
abbrev t65:ag:=.tmp 65
abbrev t66:ag:=.tmp 66
abbrev t67:ag:=.tmp 67
abbrev t68:ag:=.tmp 68
abbrev t69:ag:=.tmp 69
abbrev t70:ag:=.tmp 70
abbrev t71:ag:=.tmp 71
abbrev t72:ag:=.tmp 72
abbrev t73:ag:=.tmp 73
abbrev t74:ag:=.tmp 74
abbrev t75:ag:=.tmp 75
abbrev t76:ag:=.tmp 76
abbrev t77:ag:=.tmp 77
abbrev t78:ag:=.tmp 78
abbrev t79:ag:=.tmp 79
abbrev t80:ag:=.tmp 80
abbrev t81:ag:=.tmp 81
abbrev af9:ag:=.var 81
abbrev t82:ag:=.tmp 82
abbrev t83:ag:=.tmp 83
abbrev t84:ag:=.tmp 84
abbrev t85:ag:=.tmp 85
abbrev t86:ag:=.tmp 86
abbrev t87:ag:=.tmp 87
abbrev t88:ag:=.tmp 88
abbrev t89:ag:=.tmp 89
abbrev t90:ag:=.tmp 90
abbrev t91:ag:=.tmp 91
abbrev t92:ag:=.tmp 92
abbrev t93:ag:=.tmp 93
abbrev t94:ag:=.tmp 94
abbrev t95:ag:=.tmp 95
abbrev t96:ag:=.tmp 96
abbrev t97:ag:=.tmp 97
abbrev t98:ag:=.tmp 98
abbrev aga:ag:=.var 98
abbrev t99:ag:=.tmp 99
abbrev t100:ag:=.tmp 100
abbrev t101:ag:=.tmp 101
abbrev t102:ag:=.tmp 102
abbrev t103:ag:=.tmp 103
abbrev T4:ag:=.var 103
abbrev t104:ag:=.tmp 104
abbrev t105:ag:=.tmp 105
abbrev v105:ag:=.var 105
abbrev t107:ag:=.tmp 107
abbrev t108:ag:=.tmp 108
abbrev t109:ag:=.tmp 109
abbrev t110:ag:=.tmp 110
abbrev t111:ag:=.tmp 111
abbrev t113:ag:=.tmp 113
abbrev t114:ag:=.tmp 114
abbrev t115:ag:=.tmp 115
abbrev t121:ag:=.tmp 121
abbrev t122:ag:=.tmp 122
abbrev agb:ag:=.var 122
abbrev t123:ag:=.tmp 123
abbrev t124:ag:=.tmp 124
abbrev t125:ag:=.tmp 125
abbrev t126:ag:=.tmp 126
abbrev t127:ag:=.tmp 127
abbrev t128:ag:=.tmp 128
abbrev t129:ag:=.tmp 129
abbrev v130:ag:=.var 130
abbrev t131:ag:=.tmp 131
abbrev t132:ag:=.tmp 132
abbrev t134:ag:=.tmp 134
abbrev t135:ag:=.tmp 135
abbrev t136:ag:=.tmp 136
abbrev t137:ag:=.tmp 137
abbrev t138:ag:=.tmp 138
abbrev t139:ag:=.tmp 139
abbrev t140:ag:=.tmp 140
abbrev t143:ag:=.tmp 143
abbrev c (n:Int):ag:=.const (.int .i64 n)
abbrev cs (l:List UInt8):ag:=.const (.str l)
abbrev h7:ag:=.const (.bool true)
abbrev gI:ag:=.const (.bool false)
abbrev nc:ag:=.const .cp
abbrev fn (i:Nat):ag:=.func i
def r (n:Nat)(o:cH):bO:=⟨some (n,false),o,none⟩
def o (n:Nat)(p:cH):bO:=⟨some (n,true),p,none⟩
def n (o:cH):bO:=⟨none,o,none⟩
def rg (n:Nat)(x:ag)(w:Bool)(o:cH):bO:=⟨some (n,false),o,some (x,w)⟩
def m (x:ag):cH:=.mv x
def bF (x:ag):cH:=.load none x
def ls (k:Nat)(x:ag):cH:=.load (some k) x
def st (k:Nat)(a x:ag):cH:=.store k a x
def c9 (k:Nat)(x:ag):cH:=.fieldAddr k x
def iG (k:Nat)(x i:ag):cH:=.indexAddr k x i
def fs (k n:Nat)(x:ag):cH:=.field k (some n) x
def ex (x:ag)(i:Nat):cH:=.extract x i
def gq (k:Nat)(x:ag):cH:=.len k x
def eq (x y:ag):cH:=.bin .eql x y
def ne (x y:ag):cH:=.bin .neq x y
def lt (x y:ag):cH:=.bin .lss x y
def gt (x y:ag):cH:=.bin .gtr x y
def le (x y:ag):cH:=.bin .leq x y
def dc (x y:ag):cH:=.bin .add x y
def no (x:ag):cH:=.un .not x
def hI (x y z:ag):cH:=.pick x y z
def fA (f:ag)(l:List ag):cH:=.call false f l
def ap (e b:Nat)(x y:ag):cH:=.append e b x y
def ij (x:ag):cH:=.box x
def yE (x:ag):cH:=.nilCheck x
def q (a b:cj):cj:=.seq a b
def R (l:List bO):cj:=.region l none
def lB (l:List bO)(b:List Nat):cj:=.region l (some b)
def gg (x:ag)(a b:cj):cj:=.cond x a b
def b0 (i:Nat)(a:cj):cj:=.block i a
def k:cj:=.skip
def e (i:Nat):cj:=.exit i
def rt:cj:=.ret
abbrev nl:V:=.cp
abbrev z:V:=.int .i64 0
abbrev kV:V:=.str []
abbrev em:V:=.emp
end Go.Abs.S
set_option maxRecDepth 100000
namespace Go.Abs.hk
open Go Go.Abs Go.Proofs Go.Abs.S
noncomputable section
def gh:Code->Code| .seq a _=>a|c=>c
def cM:Code->Code| .seq _ a=>a|c=>c
def aFr:cj:=q (R [r 14 (iG 2 v10 v12),r 15 (ls 2 t14),o 5 (.alloc [z,z]),n (st 2 v5 t15)]) (R [r 16 (m v3),r 17 (c9 0 v5),r 18 (bF t17),r 19 (.lookup 0 (.int .i64 0) t16 t18 false),r 20 (c9 1 v5),r 21 (bF t20),r 22 (dc t19 t21),n (.px 0 t16 t18 t22)])
def azD:mK:=⟨[R [o 2 (m nc)],R [r 9 (.mkMap),o 3 (m t9)],q (R [o 10 (m v0),o 11 (gq 1 v10),o 12 (m (c 0))]) (b0 0 (.loop (vd 13 11 12 23 1 0 aFr))),R [o 6 (m nc)]],⟨[r 24 (m v3)],t24,25,(26,false),[o 27 (ex t26 0)],af3,3,(28,false),[r 29 (ex t28 0),r 30 (ex t28 1),o 7 (m t29),o 8 (m t30)],q (R [r 31 (m r7),o 32 (ne t31 (c 0))]) (gg af5 (R [r 33 (m v6),r 34 (m ka),r 35 (m r7),r 36 (.build [z,z] [(0,1,t34),(1,1,t35)]),r 37 (.lit 2 [z,z] 1 [(0,t36)] true),r 38 (ap 2 16 t33 t37),o 6 (m t38)]) k)⟩,q (R [r 39 (m v6),r 40 (.call true (fn 84) [t39,(fn 85)])]) (q (R [r 41 (m v6),o 2 (m t41)]) rt),[.tmp 2]⟩
def nk:Code:=Tryz.f52.body.getD .skip
theorem aFs (g:Nat->Option Obj):G6 (C g) Tryz.f52 azD:=⟨[gh nk,gh (cM nk),gh (cM (cM nk)),gh (cM (cM (cM nk)))],gh (cM (cM (cM (cM nk)))),cM (cM (cM (cM (cM nk)))),by kernel_rfl,by kernel_rfl,by kernel_rfl,by kernel_rfl,by kernel_rfl,by kernel_rfl⟩
def azE:mK:=⟨[R [o 3 (ij v0),o 6 (.alloc [nl,nl,nl]),o 7 (m (c 0))],R [r 18 (ls 9 v3),r 19 (m v1),r 20 (m v2),r 21 (fA (fn 112) [t18,t19,t20]),r 17 (m t21),r 22 (ex t17 0),r 23 (ex t17 1),o 8 (m t22),o 9 (m t23)],q (R [r 24 (m v9),o 25 (ne t24 (c 0))]) (gg af1 (q (R [r 26 (.build [nl,nl,nl] []),r 27 (m v9),n (st 3 v6 t26),o 7 (m t27)]) rt) k),q (R [r 28 (m r7),o 29 (no t28)]) (gg af4 (q (R [r 30 (.build [nl,nl,nl] []),n (st 3 v6 t30),o 7 (m (c 9))]) rt) k),lB [r 32 (c9 0 v3),r 33 (ls 5 t32),r 34 (c9 8 v3),r 35 (bF t34),r 36 (m v1),r 37 (iG 4 t35 t36),r 38 (c9 3 t37),r 39 (bF t38),r 40 (fA (fn 113) [t33,t39]),r 31 (m t40),r 41 (ex t31 0),r 42 (ex t31 1),o 10 (m t41),r 11 (m t42)] [0,1,0,4,0,28,60,124,255,511,1023,1023,2047,8191],R [r 44 (c9 0 v3),r 45 (ls 5 t44),r 46 (m v10),r 47 (fA (fn 114) [t45,t46]),r 43 (m t47),r 48 (ex t43 0),r 49 (ex t43 1),o 12 (.alloc [z,kV,z,z,nl]),n (st 5 v12 t48),r 13 (m t49)],R [r 50 (ls 9 v3),r 51 (.mkMap),r 52 (.build [nl,nl,nl,z,kV,z,z,nl,nl,nl,nl,nl,nl,.iw] [(3,9,t50),(13,1,t51)]),r 53 (ij t52),o 14 (m t53)],lB [r 54 (m wS),r 55 (c9 4 v12),r 56 (bF t55),r 57 (iG 5 t56 (c 2)),r 58 (ls 5 t57),r 59 (ls 9 v3),r 60 (m v1),r 61 (fA (fn 117) [t59,t60]),r 62 (m v2),r 63 (fA (fn 116) [t61,t62]),r 64 (fA (fn 115) [t54,t58,t63])] [0,0,2,6,14,0,0,96,0,480,1023],R [r 65 (m wS),r 66 (m wS),r 67 (yE t66),r 68 (c9 12 t67),r 69 (bF t68),r 70 (.lit 1 [nl] 1 [(0,t69)] true),r 71 (fA (fn 28) [t70]),r 72 (yE t65),r 73 (c9 0 t72),r 74 (c9 0 t73),n (st 1 t74 t71)]],⟨[r 75 (m wS),r 76 (yE t75),r 77 (c9 13 t76),r 78 (bF t77)],t78,79,(80,false),[o 81 (ex t80 0)],af9,1,(82,false),[r 83 (ex t82 1),o 16 (.alloc [z,z,z]),n (st 3 T2 t83)],lB [r 84 (m wS),r 85 (m wS),r 86 (yE t85),r 87 (c9 0 t86),r 88 (c9 2 t87),r 89 (bF t88),r 90 (ls 3 T2),r 91 (.lit 3 [z,z,z] 1 [(0,t90)] true),r 92 (ap 3 24 t89 t91),r 93 (yE t84),r 94 (c9 0 t93),r 95 (c9 2 t94),n (st 1 t95 t92)] [0,0,2,6,14,30,0,64,254,511,1023,2047,4095]⟩,q (R [r 96 (m wS),r 97 (yE t96),r 98 (c9 0 t97),r 99 (c9 2 t98),r 100 (bF t99),r 101 (fA (fn 118) [t100,(fn 119)])]) (q (R [r 102 (m wS),r 103 (yE t102),r 104 (c9 0 t103),r 105 (ls 3 t104),n (st 3 v6 t105),o 7 (m (c 0))]) rt),[.cell 6 (some 3),.tmp 7]⟩
def auW:Code:=Tryz.f61.body.getD .skip
theorem aFt (g:Nat->Option Obj):G6 (C g) Tryz.f61 azE:=⟨[gh auW,gh (cM auW),gh (cM (cM auW)),gh (cM (cM (cM auW))),gh (cM (cM (cM (cM auW)))),gh (cM (cM (cM (cM (cM auW))))),gh (cM (cM (cM (cM (cM (cM auW)))))),gh (cM (cM (cM (cM (cM (cM (cM auW))))))),gh (cM (cM (cM (cM (cM (cM (cM (cM auW))))))))],gh (cM (cM (cM (cM (cM (cM (cM (cM (cM auW))))))))),cM (cM (cM (cM (cM (cM (cM (cM (cM (cM auW))))))))),by kernel_rfl,by kernel_rfl,by kernel_rfl,by kernel_rfl,by kernel_rfl,by kernel_rfl⟩
variable (g:Nat->Option Obj)
theorem agf:azD.jf (cu (gf g) 95) 60 Tryz.f52.ntmps Rr:=⟨⟨by kernel_rfl,by kernel_rfl,by kernel_rfl⟩,⟨⟨by kernel_rfl,by kernel_rfl,by kernel_rfl⟩,⟨⟨by kernel_rfl,by kernel_rfl,by kernel_rfl⟩,⟨⟨by kernel_rfl,by kernel_rfl,by kernel_rfl⟩,⟨⟨by kernel_rfl,by kernel_rfl,by kernel_rfl⟩,⟨⟨by kernel_rfl,by kernel_rfl,by kernel_rfl⟩,trivial⟩⟩⟩⟩⟩⟩
def sa:Nat->Option bY:=over (gf g) 52 (je Rr)
end
end Go.Abs.hk
set_option maxRecDepth 100000
namespace Go.Abs.hk
open Go Go.Abs Go.Proofs
noncomputable section
variable (g:Nat->Option Obj)
def Bk (n:Nat):List UInt8:=(match awa with| .str l=>l| _=>[]).drop n
def azF:List (List V × V):=[([.str (Bk 8)],au 1),([.str (Bk 20)],au 1),([.str (Bk 22)],au 1),([.str (Bk 25)],au 1),([.str (Bk 26)],au 1),([.str (Bk 39)],au 1),([.str (Bk 48)],au 1),([.str (Bk 49)],au 1),([.str (Bk 51)],au 2),([.str (Bk 55)],au 1),([.str (Bk 68)],au 1),([.str (Bk 70)],au 1),([.str (Bk 73)],au 1),([.str (Bk 75)],au 1),([.str (Bk 85)],au 1),([.str (Bk 87)],au 1),([.str (Bk 88)],au 1),([.str (Bk 90)],au 1),([.str (Bk 103)],au 1),([.str (Bk 104)],au 1),([.str (Bk 106)],au 1),([.str (Bk 114)],au 1),([.str (Bk 116)],au 1),([.str (Bk 118)],au 2),([.str (Bk 122)],au 1),([.str (Bk 132)],au 1),([.str (Bk 134)],au 1),([.str (Bk 135)],au 1),([.str (Bk 145)],au 1),([.str [41,59,32,125]],au 1),([.str [59,32,125]],au 1),([.str [125]],au 1)]
theorem aFu:jf (sa g) 200 383 azF:=by repeat first|exact trivial|refine⟨⟨by kernel_rfl,by kernel_rfl⟩,?_⟩
def Hg:Nat->Option bY:=over (sa g) 383 (je azF)
def azG:List (List V × V):=[]
theorem aFv:jf (Hg g) 200 385 azG:=trivial
def Hh:Nat->Option bY:=over (Hg g) 385 (je azG)
def azH:List V:=[.str [50]]
def azI:V:=au 3
theorem aFw:cu (Hh g) 200 (.fn 259 [] []) azH []=some (azI,[],0):=by kernel_rfl
def azJ:List V:=[.str [49]]
def azK:V:=au 3
theorem aFx:cu (Hh g) 200 (.fn 259 [] []) azJ []=some (azK,[],0):=by kernel_rfl
def azL:List V:=[.str [48]]
def azM:V:=au 3
theorem aFy:cu (Hh g) 200 (.fn 259 [] []) azL []=some (azM,[],0):=by kernel_rfl
def azN:List V:=[.str [115]]
def azO:V:=au 1
theorem aFz:cu (Hh g) 200 (.fn 259 [] []) azN []=some (azO,[],0):=by kernel_rfl
def azP:List V:=[.str [114]]
def azQ:V:=au 1
theorem aFA:cu (Hh g) 200 (.fn 259 [] []) azP []=some (azQ,[],0):=by kernel_rfl
def azR:List V:=[.str [97]]
def azS:V:=au 1
theorem aFB:cu (Hh g) 200 (.fn 259 [] []) azR []=some (azS,[],0):=by kernel_rfl
def azT:List V:=[.str [105]]
def azU:V:=au 1
theorem aFC:cu (Hh g) 200 (.fn 259 [] []) azT []=some (azU,[],0):=by kernel_rfl
def azV:List V:=[.str [111]]
def azW:V:=au 1
theorem aFD:cu (Hh g) 200 (.fn 259 [] []) azV []=some (azW,[],0):=by kernel_rfl
def azX:List V:=[.str [112]]
def azY:V:=au 1
theorem aFE:cu (Hh g) 200 (.fn 259 [] []) azX []=some (azY,[],0):=by kernel_rfl
def azZ:List V:=[.str [107]]
def az0:V:=au 1
theorem aFF:cu (Hh g) 200 (.fn 259 [] []) azZ []=some (az0,[],0):=by kernel_rfl
def az1:List (List V × V):=[(azH,azI),(azJ,azK),(azL,azM),(azN,azO),(azP,azQ),(azR,azS),(azT,azU),(azV,azW),(azX,azY),(azZ,az0)]
theorem aFG:jf (Hh g) 200 259 az1:=⟨⟨by kernel_rfl,aFw g⟩,⟨⟨by kernel_rfl,aFx g⟩,⟨⟨by kernel_rfl,aFy g⟩,⟨⟨by kernel_rfl,aFz g⟩,⟨⟨by kernel_rfl,aFA g⟩,⟨⟨by kernel_rfl,aFB g⟩,⟨⟨by kernel_rfl,aFC g⟩,⟨⟨by kernel_rfl,aFD g⟩,⟨⟨by kernel_rfl,aFE g⟩,⟨⟨by kernel_rfl,aFF g⟩,trivial⟩⟩⟩⟩⟩⟩⟩⟩⟩⟩
def Hi:Nat->Option bY:=over (Hh g) 259 (je az1)
def az2:List V:=[abJ]
def az3:V:=.bool true
theorem aFH:cu (Hi g) 200 (.fn 91 [] []) az2 []=some (az3,[],0):=by kernel_rfl
def az4:List (List V × V):=[(az2,az3)]
theorem aFI:jf (Hi g) 200 91 az4:=⟨⟨by kernel_rfl,aFH g⟩,trivial⟩
def Dw:Nat->Option bY:=over (Hi g) 91 (je az4)
end
end Go.Abs.hk
set_option maxRecDepth 100000
namespace Go.Abs.hk
open Go Go.Abs Go.Proofs
noncomputable section
variable (g:Nat->Option Obj)
def az5:List V:=[abJ]
def az6:V:=.aU [.agg [.list 4 [.agg [au 0,.str [115],au 1,au (-1)],.agg [au 1,.str [114],au 3,au (-1)],.agg [au 4,.str [97],au 5,au 3],.agg [au 2,.str [105],au 7,au (-1)],.agg [au 3,.str [111],au 12,au (-1)],.agg [au 6,.str [112],au 14,au 12],.agg [au 3,.str [107],au 21,au (-1)]],.list 1 [au (-1),au 0,au (-1),au 1,au (-1),au 2,au 0,au 3,au 1,au (-1),au (-1),au (-1),au 4,au (-1),au 5,au 0,au (-1),au (-1),au (-1),au 1,au 5,au 6,au (-1),au (-1),au (-1),au (-1),au (-1),au (-1),au (-1),au (-1),au 1,au (-1),au (-1),au (-1),au (-1),au 1,au (-1),au (-1),au 1,au (-1)]],.cp,au 0]
theorem aFJ:cu (Dw g) 200 (.fn 95 [] []) az5 []=some (az6,[],0):=by kernel_rfl
def az7:List (List V × V):=[(az5,az6)]
theorem aFK:jf (Dw g) 200 95 az7:=⟨⟨by kernel_rfl,aFJ g⟩,trivial⟩
def Hj:Nat->Option bY:=over (Dw g) 95 (je az7)
def az8:List V:=[abJ,au 33]
def az9:V:=.cp
theorem aFL:cu (Hj g) 200 (.fn 309 [] []) az8 []=some (az9,[],0):=by kernel_rfl
def aAa:List (List V × V):=[(az8,az9)]
theorem aFM:jf (Hj g) 200 309 aAa:=⟨⟨by kernel_rfl,aFL g⟩,trivial⟩
def kb:Nat->Option bY:=over (Hj g) 309 (je aAa)
def aAb:List V:=[abw,.cp,abL]
def aAc:V:=.aU [.agg [au 36,.str [49],au 121,au 122,.cp,au 0,au (-1),au 1,au 1],.cp]
theorem aFN:cu (kb g) 200 (.fn 415 [] []) aAb []=some (aAc,[],0):=by kernel_rfl
def aAd:List (List V × V):=[(aAb,aAc)]
theorem aFO:jf (kb g) 200 415 aAd:=⟨⟨by kernel_rfl,aFN g⟩,trivial⟩
def Hk:Nat->Option bY:=over (kb g) 415 (je aAd)
def aAe:List V:=[abJ,.cp,abJ]
def aAf:V:=.aU [abJ,au 0]
theorem aFP:cu (Hk g) 200 (.fn 189 [] []) aAe []=some (aAf,[],0):=by kernel_rfl
def aAg:List (List V × V):=[(aAe,aAf)]
theorem aFQ:jf (Hk g) 200 189 aAg:=⟨⟨by kernel_rfl,aFP g⟩,trivial⟩
def Hl:Nat->Option bY:=over (Hk g) 189 (je aAg)
def Ur:List V:=[Q2]
def Us:V:=au 1
theorem ags:cu (Hl g) 200 (.fn 94 [] []) Ur []=some (Us,[],0):=by kernel_rfl
def aAh:List V:=[Q3]
def aAi:V:=au 2
theorem aFR:cu (Hl g) 200 (.fn 94 [] []) aAh []=some (aAi,[],0):=by kernel_rfl
def aAj:List V:=[Q4]
def aAk:V:=au 1
theorem aFS:cu (Hl g) 200 (.fn 94 [] []) aAj []=some (aAk,[],0):=by kernel_rfl
def aAl:List V:=[Q5]
def aAm:V:=au 2
theorem aFT:cu (Hl g) 200 (.fn 94 [] []) aAl []=some (aAm,[],0):=by kernel_rfl
def aAn:List V:=[Q6]
def aAo:V:=au 3
theorem aFU:cu (Hl g) 200 (.fn 94 [] []) aAn []=some (aAo,[],0):=by kernel_rfl
def aAp:List V:=[Q7]
def aAq:V:=au 4
theorem aFV:cu (Hl g) 200 (.fn 94 [] []) aAp []=some (aAq,[],0):=by kernel_rfl
def aAr:List V:=[Q8]
def aAs:V:=au 1
theorem aFW:cu (Hl g) 200 (.fn 94 [] []) aAr []=some (aAs,[],0):=by kernel_rfl
def aAt:List V:=[abj]
def aAu:V:=au 1
theorem aFX:cu (Hl g) 200 (.fn 94 [] []) aAt []=some (aAu,[],0):=by kernel_rfl
def aAv:List V:=[abk]
def aAw:V:=au 2
theorem aFY:cu (Hl g) 200 (.fn 94 [] []) aAv []=some (aAw,[],0):=by kernel_rfl
def aAx:List V:=[Rb]
def aAy:V:=au 3
theorem aFZ:cu (Hl g) 200 (.fn 94 [] []) aAx []=some (aAy,[],0):=by kernel_rfl
def aAz:List V:=[Rd]
def aAA:V:=au 4
theorem aF0:cu (Hl g) 200 (.fn 94 [] []) aAz []=some (aAA,[],0):=by kernel_rfl
def aAB:List V:=[Re]
def aAC:V:=au 1
theorem aF1:cu (Hl g) 200 (.fn 94 [] []) aAB []=some (aAC,[],0):=by kernel_rfl
def aAD:List V:=[abl]
def aAE:V:=au 2
theorem aF2:cu (Hl g) 200 (.fn 94 [] []) aAD []=some (aAE,[],0):=by kernel_rfl
def aAF:List V:=[Rg]
def aAG:V:=au 3
theorem aF3:cu (Hl g) 200 (.fn 94 [] []) aAF []=some (aAG,[],0):=by kernel_rfl
def aAH:List V:=[abm]
def aAI:V:=au 1
theorem aF4:cu (Hl g) 200 (.fn 94 [] []) aAH []=some (aAI,[],0):=by kernel_rfl
def aAJ:List V:=[Rh]
def aAK:V:=au 1
theorem aF5:cu (Hl g) 200 (.fn 94 [] []) aAJ []=some (aAK,[],0):=by kernel_rfl
def aAL:List V:=[Ri]
def aAM:V:=au 2
theorem aF6:cu (Hl g) 200 (.fn 94 [] []) aAL []=some (aAM,[],0):=by kernel_rfl
def aAN:List V:=[F7]
def aAO:V:=au 3
theorem aF7:cu (Hl g) 200 (.fn 94 [] []) aAN []=some (aAO,[],0):=by kernel_rfl
def aAP:List V:=[Rj]
def aAQ:V:=au 4
theorem aF8:cu (Hl g) 200 (.fn 94 [] []) aAP []=some (aAQ,[],0):=by kernel_rfl
def aAR:List V:=[uq]
def aAS:V:=au 5
theorem aF9:cu (Hl g) 200 (.fn 94 [] []) aAR []=some (aAS,[],0):=by kernel_rfl
def aAT:List V:=[abq]
def aAU:V:=au 1
theorem aGa:cu (Hl g) 200 (.fn 94 [] []) aAT []=some (aAU,[],0):=by kernel_rfl
def aAV:List V:=[Rl]
def aAW:V:=au 1
theorem aGb:cu (Hl g) 200 (.fn 94 [] []) aAV []=some (aAW,[],0):=by kernel_rfl
def aAX:List V:=[abr]
def aAY:V:=au 1
theorem aGc:cu (Hl g) 200 (.fn 94 [] []) aAX []=some (aAY,[],0):=by kernel_rfl
def aAZ:List V:=[KA]
def aA0:V:=au 1
theorem aGd:cu (Hl g) 200 (.fn 94 [] []) aAZ []=some (aA0,[],0):=by kernel_rfl
def aA1:List V:=[Rm]
def aA2:V:=au 2
theorem aGe:cu (Hl g) 200 (.fn 94 [] []) aA1 []=some (aA2,[],0):=by kernel_rfl
def aA3:List V:=[Rn]
def aA4:V:=au 3
theorem aGf:cu (Hl g) 200 (.fn 94 [] []) aA3 []=some (aA4,[],0):=by kernel_rfl
def aA5:List V:=[KB]
def aA6:V:=au 4
theorem aGg:cu (Hl g) 200 (.fn 94 [] []) aA5 []=some (aA6,[],0):=by kernel_rfl
def aA7:List V:=[abw]
def aA8:V:=au 1
theorem aGh:cu (Hl g) 200 (.fn 94 [] []) aA7 []=some (aA8,[],0):=by kernel_rfl
def aA9:List V:=[aby]
def aBa:V:=au 2
theorem aGi:cu (Hl g) 200 (.fn 94 [] []) aA9 []=some (aBa,[],0):=by kernel_rfl
def aBb:List V:=[wv]
def aBc:V:=au 5
theorem aGj:cu (Hl g) 200 (.fn 94 [] []) aBb []=some (aBc,[],0):=by kernel_rfl
def aBd:List V:=[Ro]
def aBe:V:=au 1
theorem aGk:cu (Hl g) 200 (.fn 94 [] []) aBd []=some (aBe,[],0):=by kernel_rfl
def aBf:List V:=[KC]
def aBg:V:=au 2
theorem aGl:cu (Hl g) 200 (.fn 94 [] []) aBf []=some (aBg,[],0):=by kernel_rfl
def aBh:List V:=[abC]
def aBi:V:=au 3
theorem aGm:cu (Hl g) 200 (.fn 94 [] []) aBh []=some (aBi,[],0):=by kernel_rfl
def aBj:List V:=[KD]
def aBk:V:=au 1
theorem aGn:cu (Hl g) 200 (.fn 94 [] []) aBj []=some (aBk,[],0):=by kernel_rfl
def aBl:List V:=[abE]
def aBm:V:=au 2
theorem aGo:cu (Hl g) 200 (.fn 94 [] []) aBl []=some (aBm,[],0):=by kernel_rfl
def aBn:List V:=[abF]
def aBo:V:=au 3
theorem aGp:cu (Hl g) 200 (.fn 94 [] []) aBn []=some (aBo,[],0):=by kernel_rfl
def aBp:List V:=[Cn]
def aBq:V:=au 6
theorem aGq:cu (Hl g) 200 (.fn 94 [] []) aBp []=some (aBq,[],0):=by kernel_rfl
def aBr:List V:=[Rp]
def aBs:V:=au 7
theorem aGr:cu (Hl g) 200 (.fn 94 [] []) aBr []=some (aBs,[],0):=by kernel_rfl
def aBt:List V:=[abJ]
def aBu:V:=au 8
theorem aGs:cu (Hl g) 200 (.fn 94 [] []) aBt []=some (aBu,[],0):=by kernel_rfl
def Ut:List (List V × V):=[(Ur,Us),(aAh,aAi),(aAj,aAk),(aAl,aAm),(aAn,aAo),(aAp,aAq),(aAr,aAs),(aAt,aAu),(aAv,aAw),(aAx,aAy),(aAz,aAA),(aAB,aAC),(aAD,aAE),(aAF,aAG),(aAH,aAI),(aAJ,aAK),(aAL,aAM),(aAN,aAO),(aAP,aAQ),(aAR,aAS),(aAT,aAU),(aAV,aAW),(aAX,aAY),(aAZ,aA0),(aA1,aA2),(aA3,aA4),(aA5,aA6),(aA7,aA8),(aA9,aBa),(aBb,aBc),(aBd,aBe),(aBf,aBg),(aBh,aBi),(aBj,aBk),(aBl,aBm),(aBn,aBo),(aBp,aBq),(aBr,aBs),(aBt,aBu)]
theorem agt:jf (Hl g) 200 94 Ut:=⟨⟨by kernel_rfl,ags g⟩,⟨⟨by kernel_rfl,aFR g⟩,⟨⟨by kernel_rfl,aFS g⟩,⟨⟨by kernel_rfl,aFT g⟩,⟨⟨by kernel_rfl,aFU g⟩,⟨⟨by kernel_rfl,aFV g⟩,⟨⟨by kernel_rfl,aFW g⟩,⟨⟨by kernel_rfl,aFX g⟩,⟨⟨by kernel_rfl,aFY g⟩,⟨⟨by kernel_rfl,aFZ g⟩,⟨⟨by kernel_rfl,aF0 g⟩,⟨⟨by kernel_rfl,aF1 g⟩,⟨⟨by kernel_rfl,aF2 g⟩,⟨⟨by kernel_rfl,aF3 g⟩,⟨⟨by kernel_rfl,aF4 g⟩,⟨⟨by kernel_rfl,aF5 g⟩,⟨⟨by kernel_rfl,aF6 g⟩,⟨⟨by kernel_rfl,aF7 g⟩,⟨⟨by kernel_rfl,aF8 g⟩,⟨⟨by kernel_rfl,aF9 g⟩,⟨⟨by kernel_rfl,aGa g⟩,⟨⟨by kernel_rfl,aGb g⟩,⟨⟨by kernel_rfl,aGc g⟩,⟨⟨by kernel_rfl,aGd g⟩,⟨⟨by kernel_rfl,aGe g⟩,⟨⟨by kernel_rfl,aGf g⟩,⟨⟨by kernel_rfl,aGg g⟩,⟨⟨by kernel_rfl,aGh g⟩,⟨⟨by kernel_rfl,aGi g⟩,⟨⟨by kernel_rfl,aGj g⟩,⟨⟨by kernel_rfl,aGk g⟩,⟨⟨by kernel_rfl,aGl g⟩,⟨⟨by kernel_rfl,aGm g⟩,⟨⟨by kernel_rfl,aGn g⟩,⟨⟨by kernel_rfl,aGo g⟩,⟨⟨by kernel_rfl,aGp g⟩,⟨⟨by kernel_rfl,aGq g⟩,⟨⟨by kernel_rfl,aGr g⟩,⟨⟨by kernel_rfl,aGs g⟩,trivial⟩⟩⟩⟩⟩⟩⟩⟩⟩⟩⟩⟩⟩⟩⟩⟩⟩⟩⟩⟩⟩⟩⟩⟩⟩⟩⟩⟩⟩⟩⟩⟩⟩⟩⟩⟩⟩⟩⟩
def Hm:Nat->Option bY:=over (Hl g) 94 (je Ut)
end
end Go.Abs.hk
namespace Go.Abs
def aBv:Option bY->h3
 |some (.code f)=>f
 | _=>⟨0,.skip,[],false⟩
def au4:cj->cj| .seq a _=>a|c=>c
def El:cj->cj| .seq _ a=>a|c=>c
def aGt:cj->cj| .block _ (.loop c)=>c|c=>c
def avt:List cj->cj->cj
 |[],c=>c
 |a::r,c=>.seq a (avt r c)
variable{aa:Nat->Option bY}
theorem ayB{n:Nat}{c:cj}:∀{l:List cj} {st aF:aq},Dt (cu aa n) n l st=some aF->dx aa (avt l c) st=dx aa c aF
 |[],st,aF,h=>by cases h;rfl
 |a::r,st,aF,h=>by
  simp only[Dt]at h;split at h
  ·rename_i s hs
   simp only[avt,gn,ga.2 ⟨n,hs⟩];exact ayB h
  ·cases h
theorem aBw{n i:Nat}{X R:cj}:∀{k:Nat} {st aF:aq},Dt (cu aa n) n (List.replicate k X) st=some aF->dx aa (.seq (.block i (.loop X)) R) st=dx aa (.seq (.block i (.loop X)) R) aF
 |0,st,aF,h=>by cases h;rfl
 |k+1,st,aF,h=>by
  simp only[List.replicate,Dt]at h;split at h
  ·rename_i s hs
   rw[<-aBw h,gn,gn,jY,jY,py X st,ga.2 ⟨n,hs⟩]
  ·cases h
theorem aBx{call:cU}{n:Nat}{m:List cj}{aF:aq}:∀{l:List cj} {st:aq},Dt call n (l++m) st=some aF->∃s,Dt call n l st=some s/\Dt call n m s=some aF
 |[],st,h=>⟨st,rfl,h⟩
 |a::r,st,h=>by
  simp only[jz,Dt]at h;split at h
  ·rename_i s hs
   obtain⟨u,h1,h2⟩:=aBx h;exact⟨u,by simp only[Dt,hs];exact h1,h2⟩
  ·cases h
theorem aGu{i b n l:Nat}{fn:h3}{ps:List cj}{X R:cj}{aO:List V}{au5:aq}{r:V × Heap × Nat}(hc:aa i=some (.code fn))(hb:fn.body=avt ps (.seq (.block b (.loop X)) R))
  (h1:Dt (cu aa n) n (ps++List.replicate l X) ⟨[],fQ 0 aO,[],0,none⟩=some au5)
  (h2:fZ (fun _ _=>Abs.exec (cu aa n) n (.seq (.block b (.loop X)) R) au5) fn aO []=some r):∃n,cu aa n (.fn i [] []) aO []=some r:=by
 rw[<-um,mE,hc];obtain⟨s,q1,aS⟩:=aBx h1;have he:dx aa fn.body ⟨[],fQ 0 aO,[],0,none⟩=dx aa (.seq (.block b (.loop X)) R) au5:=by rw[hb,ayB q1,aBw aS]
 have ar:=QY (ex':=fun _ _=>dx aa (.seq (.block b (.loop X)) R) au5) (fun c st r h=>ga.2 ⟨n,h⟩) h2;show fZ (dx aa) fn ([]++aO++[]) []=_;rw[jB,rz,<-ar];unfold fZ;rw[show(([]:Heap).length)=0 from rfl,he]
theorem aGv{i n:Nat}{fn:h3}{ps:List cj}{R:cj}{aO:List V}{au5:aq}{r:V × Heap × Nat}(hc:aa i=some (.code fn))(hb:fn.body=avt ps R)(h1:Dt (cu aa n) n ps ⟨[],fQ 0 aO,[],0,none⟩=some au5)
  (h2:fZ (fun _ _=>Abs.exec (cu aa n) n R au5) fn aO []=some r):∃n,cu aa n (.fn i [] []) aO []=some r:=by
 rw[<-um,mE,hc];have he:dx aa fn.body ⟨[],fQ 0 aO,[],0,none⟩=dx aa R au5:=by rw[hb,ayB h1]
 have ar:=QY (ex':=fun _ _=>dx aa R au5) (fun c st r h=>ga.2 ⟨n,h⟩) h2;show fZ (dx aa) fn ([]++aO++[]) []=_;rw[jB,rz,<-ar];unfold fZ;rw[show(([]:Heap).length)=0 from rfl,he]
end Go.Abs
