/- Texts of this claim, joined and written short by a program. -/
import Derived.Test.YtoimeckpnnkbpaaGreatDoorP09
import Derived.Test.YtoimeckpnnkbpaaGreatDoorP02
import Derived.Tactics
import Derived.Tactics2
import Derived.Defers
import Derived.Recover
import Derived.Laws.Pointers
import Derived.TacticsInMore
import Derived.RegionIn
import Derived.LoopNIn
import Derived.RecoverIn
import Derived.Shelf.Strings.OnBuilder
import Derived.Shelf.Strings.Trim
import Derived.Shelf.Small.Bits
import Derived.Shelf.Small.Strs
import Derived.Shelf.Strconv.Atoi
import Derived.Shelf.Strconv.Itoa3
import Derived.Shelf.Strings.Fields
import Derived.Test.YtoimeckpnnkbpaaGreatDoorProg
import Derived.Lib.ItoaNum
import Derived.Below
import Derived.Test.YtoimeckpnnkbpaaGreatDoorP10
import Derived.Test.YtoimeckpnnkbpaaGreatDoorP08
import Derived.Test.YtoimeckpnnkbpaaGreatDoorP00
set_option linter.unusedVariables false
set_option linter.unusedSimpArgs false
set_option linter.unusedSectionVars false
namespace Go.Abs.hk
open Go Go.Abs Go.Proofs
set_option maxRecDepth 100000
theorem aB6 (caps:Array Value):Gd Tryz.prog {target:=.fn (.func 498) caps,args:= #[]}:=by
 refine⟨_,caps,498,caps,rfl,fun w=>⟨by simp[invoke,go_sem],?_⟩⟩;refine callsDIn_of_wpSIn Tryz.func498 rfl trivial fun as6 cs hu=> ?_;have hn:Tryz.f498.ntmps=18:=by kernel_rfl
 rw[hn];generalize hT:caps++Array.replicate (18-caps.size) undef=T;have hs:18<=T.size:=by rw[<-hT,Cb,Array.size_replicate];omega
 clear hT;apply wpSIn_seq;apply wpSIn_region;simp[wpOpsSIn,go_sem,recoverD,hu,Exit.thenS];apply wpSIn_seq;apply wpSIn_region;have as7:∀(A:Array Value) (i:Nat),A.getD i undef=(A[i]?).getD undef:=fun A i=>v8 ..;have h1:1<T.size:=by omega
 have aQ:4<T.size:=by omega
 have h5:5<T.size:=by omega
 have ft:6<T.size:=by omega
 simp[wpOpsSIn,go_sem,Exit.thenS,Act.eval,Act.put,Array.getElem?_setIfInBounds,h1,aQ,h5,ft];refine wpSIn_cond (t:=false) (by simp[Act.eval,Array.getElem?_setIfInBounds,h1,aQ,h5,ft]) ?_;simp only[hY,if_false];refine wpSIn_of_wpIn rfl (wpIn_skip ?_);have hr:Tryz.f498.results= #[]:=by kernel_rfl
 have as8:Tryz.f498.resultTypes= #[]:=by kernel_rfl
 simp_all [bodyPostS,results];rw[<-hu]
theorem tg{g:Nat->Option Obj}:eZ (C g) id:=⟨fun f i h=>by cases h;rfl,fun i hi caps=>by
 have s3:i∈[498]:=hi;simp only[dA,sP,or_false]at s3;subst s3;exact aB6 caps⟩
theorem avP{g:Nat->Option Obj}:eZ (A g) id:=⟨fun f i h=>by cases h;rfl,fun i hi caps=>by
 have s3:i∈[498]:=hi;simp only[dA,sP,or_false]at s3;subst s3;exact aB6 caps⟩
theorem avX{g:Nat->Option Obj}:(A g).P.follows .mixedOrders=true:=by kernel_rfl
theorem mixed{g:Nat->Option Obj}:(C g).P.follows .mixedOrders=true:=by kernel_rfl
end Go.Abs.hk
namespace Go.Proofs
open Go.Shelf
def Tryz.TN:Go.Shelf.Ren:=⟨fun|156=>207|165=>340|166=>47|169=>51|240=>104|241=>412|276=>206|277=>474|n=>n,fun|31=>24|9=>9|3=>3|4=>4|0=>0|20=>20|72=>110|76=>113|70=>107|37=>108|75=>112|127=>212|164=>280|5=>5|80=>118|n=>n,fun|n=>n⟩
theorem Tryz.TP:Go.Proofs.Lays.n156 Tryz.prog Tryz.TN:=by constructor<;>intros<;>kernel_rfl
theorem Tryz.TQ:Builder.Extra Tryz.prog Tryz.TN:={
 sizeBuilder:=by kernel_rfl
 liesBuilder:=by kernel_rfl
 t5:=Tryz.underlying5
 a5:=Tryz.isAgg5
 z5:=Tryz.sizeOf5
 v5:=Tryz.zeroValue5
 infoByte:=by kernel_rfl
 cellsByte:=by kernel_rfl
 sizeByte:=by kernel_rfl
 neB5:=by decide}
theorem Tryz.aFx:Go.Proofs.Lays.n169 Tryz.prog Tryz.TN:=by constructor<;>intros<;>kernel_rfl
theorem Tryz.aFy:Go.Proofs.Lays.n240 Tryz.prog Tryz.TN:=by constructor<;>intros<;>kernel_rfl
open Go.RowKit in
theorem Tryz.strings_Join_none (a:Option Addr)(c:Nat)(sep:ByteArray)(w:World):
 Calls Tryz.prog 207 #[.slice a 0 c,.string sep] w fun e w'=>e=.returned (.string ⟨#[]⟩)/\w'=w:=Any.strings_Join_none Tryz.TP Tryz.TQ a c sep w
open Go.RowKit in
theorem Tryz.strings_Join (Ha o c:Nat)(xs:List ByteArray)(sep:ByteArray)(w:World)(xX:∀(j:Nat) x,xs[j]? =some x->w.cell? ⟨Ha,o+j,none⟩=some (.string x))(afn:Ha<w.heap.size)(wN:xs.length<=140737488355328)(e4:xs.length<=c)(hlen:(Lib.join (xs.map (·.data.toList)) sep.data.toList).length<=140737488355328):
 Calls Tryz.prog 207 #[.slice (some ⟨Ha,o,none⟩) xs.length c,.string sep] w fun e w'=>e=.returned (.string ⟨(Lib.join (xs.map (·.data.toList)) sep.data.toList).toArray⟩)/\Below w.heap.size w w':=Any.strings_Join Tryz.TP Tryz.TQ Ha o c xs sep w xX afn wN e4 hlen
def Tryz.afo:Go.Shelf.Ren:=⟨fun|161=>368|231=>432|227=>433|233=>434|235=>435|228=>484|197=>485|151=>486|260=>514|152=>515|137=>360|119=>529|224=>530|225=>531|217=>429|266=>481|n=>n,fun|9=>9|4=>4|3=>3|5=>5|117=>447|116=>446|0=>0|124=>450|105=>491|21=>21|119=>440|46=>230|139=>540|138=>539|n=>n,fun|3=>8|4=>9|n=>n⟩
theorem Tryz.afp:Go.Proofs.Lays.n161 Tryz.prog Tryz.afo:=by constructor<;>intros<;>kernel_rfl
open Go.RowKit in
theorem Tryz.strings_TrimLeft_one (s:ByteArray)(c:UInt8)(hc:c.toNat<128)(w:World):
 Calls Tryz.prog 368 #[.string s,.string ⟨#[c]⟩] w fun e w'=>e=.returned (.string ⟨(Lib.trimLeftB s.data.toList c).toArray⟩)/\w'=w:=Any.strings_TrimLeft_one Tryz.afp s c hc w
def Tryz.afq:Go.Shelf.Ren:=⟨fun|125=>204|128=>338|129=>339|n=>n,fun|46=>230|3=>3|51=>368|53=>370|4=>4|5=>5|9=>9|n=>n,fun|n=>n⟩
theorem Tryz.afr:Go.Proofs.Lays.n125 Tryz.prog Tryz.afq:=by constructor<;>intros<;>kernel_rfl
theorem Tryz.bits_Len (x:Int)(w:World)(h0:0<=x)(h1:x<=18446744073709551615):
 Calls Tryz.prog 204 #[.int .u64 x] w fun e w'=>e=.returned (.int .i64 (Lib.bitLen x.toNat))/\w'=w:=Any.bits_Len Tryz.afr x w h0 h1
def Tryz.afs:Go.Shelf.Ren:=⟨fun|137=>360|217=>429|266=>481|n=>n,fun|9=>9|5=>5|3=>3|n=>n,fun|n=>n⟩
theorem Tryz.aft:Go.Proofs.Lays.n137 Tryz.prog Tryz.afs:=by constructor<;>intros<;>kernel_rfl
open Go.RowKit in
theorem Tryz.strings_IndexByte (s:ByteArray)(c:Int)(w:World):
 Calls Tryz.prog 360 #[.string s,.int .u8 c] w fun e w'=>e=.returned (.int .i64 (Lib.indexByte s.data.toList c.toNat.toUInt8))/\w'=w:=Any.strings_IndexByte Tryz.aft s c w
def Tryz.afu:Go.Shelf.Ren:=⟨fun|172=>226|244=>355|245=>356|247=>421|279=>422|280=>423|281=>424|282=>425|287=>477|316=>478|171=>49|205=>479|321=>505|322=>506|243=>106|246=>208|283=>341|284=>342|285=>343|286=>344|129=>339|317=>413|318=>414|319=>415|320=>416|337=>475|338=>476|n=>n,fun|9=>9|3=>3|75=>112|76=>113|4=>4|5=>5|167=>434|37=>108|0=>0|85=>435|2=>2|168=>437|53=>370|175=>478|46=>230|210=>482|127=>212|145=>513|143=>511|21=>21|171=>371|173=>373|212=>426|51=>368|20=>20|213=>427|232=>508|233=>509|80=>118|n=>n,fun|15=>2|16=>3|17=>0|18=>6|19=>7|n=>n⟩
theorem Tryz.afv:Go.Proofs.Lays.n172 Tryz.prog Tryz.afu:=by constructor<;>intros<;>kernel_rfl
open Go.RowKit in
theorem Tryz.strconv_Atoi (s:ByteArray)(n:Int)(hl:s.size<=18)(h:Lib.atoi s.data.toList=some n)(w:World):
 Calls Tryz.prog 226 #[.string s] w fun e w'=>e=.returned (.tuple #[.int .i64 n,.nilIface])/\∃t,w'=Lib.bytesWorld w 5 t:=Any.strconv_Atoi Tryz.afv s n hl h w
def Tryz.afw:Go.Shelf.Ren:=⟨fun|171=>49|243=>106|246=>208|283=>341|284=>342|285=>343|286=>344|129=>339|317=>413|318=>414|319=>415|320=>416|337=>475|338=>476|n=>n,fun|3=>3|9=>9|2=>2|4=>4|171=>371|0=>0|53=>370|37=>108|5=>5|173=>373|212=>426|51=>368|20=>20|213=>427|46=>230|232=>508|233=>509|n=>n,fun|17=>0|18=>6|19=>7|n=>n⟩
theorem Tryz.afx:Go.Proofs.LaysM.n171 Tryz.prog Tryz.afw:=by constructor<;>intros<;>first|kernel_rfl|(constructor<;>intros<;>kernel_rfl)
open Go.RowKit Go.Sort Go.Lib in
theorem Tryz.strconv_Itoa (n:Int)(h0:-9223372036854775808<=n)(h1:n<=9223372036854775807)(w:World)(pM:Lib.TabIs Tryz.prog w "internal/strconv.uint64pow10" .u64 Lib.pow10Tab):
 Calls Tryz.prog 49 #[.int .i64 n] w fun e w'=>e=.returned (.string ⟨(Lib.itoa n).toArray⟩)/\∃k os,w'=grow (w.drewN k) os:=Any.strconv_Itoa Tryz.afx n h0 h1 w pM
def Tryz.afy:Go.Shelf.Ren:=⟨fun|171=>49|243=>106|246=>208|283=>341|284=>342|285=>343|286=>344|129=>339|317=>413|318=>414|319=>415|320=>416|337=>475|338=>476|n=>n,fun|3=>3|9=>9|2=>2|4=>4|171=>371|0=>0|53=>370|37=>108|5=>5|173=>373|212=>426|51=>368|20=>20|213=>427|46=>230|232=>508|233=>509|n=>n,fun|17=>0|18=>6|19=>7|n=>n⟩
theorem Tryz.afz:Go.Proofs.Lays.n171 Tryz.prog Tryz.afy:=by constructor<;>intros<;>kernel_rfl
open Go.RowKit Go.Sort Go.Lib in
theorem Tryz.strconv_Itoa_small (i:Nat)(hi:i<100)(w:World):
 Calls Tryz.prog 49 #[.int .i64 i] w fun e w'=>e=.returned (.string ⟨(Lib.decDigits i).toArray⟩)/\w'=w:=Any.strconv_Itoa_small Tryz.afz i hi w
def Tryz.afA:Go.Shelf.Ren:=⟨fun|157=>357|229=>426|199=>427|261=>480|311=>507|312=>508|n=>n,fun|9=>9|31=>24|3=>3|5=>5|4=>4|119=>440|0=>0|40=>442|152=>484|21=>21|154=>486|51=>368|141=>488|196=>517|193=>514|198=>520|49=>518|194=>515|201=>523|226=>536|46=>230|227=>537|n=>n,fun|0=>1|6=>4|n=>n⟩
theorem Tryz.afB:Go.Proofs.Lays.n157 Tryz.prog Tryz.afA:=by constructor<;>intros<;>kernel_rfl
open Go.RowKit Go.Lib in
theorem Tryz.strings_Fields (s:ByteArray)(w:World)(hs:s.size<4294967281)(afC:∀(j:Nat) b,s.data.toList[j]? =some b->b.toNat<128)(pM:Lib.TabIs Tryz.prog w "strings.asciiSpace" .u8 Lib.asciiSpaceTab):
 Calls Tryz.prog 357 #[.string s] w fun e w'=>
  e=.returned (.slice (some ⟨w.heap.size,0,none⟩) (Lib.fields s.data.toList).length (Lib.fields s.data.toList).length)/\w'=w.alloc (.cells ((Lib.fields s.data.toList).map fun l=>Value.string ⟨l.toArray⟩).toArray 9):=Any.strings_Fields Tryz.afB (by kernel_rfl) (by kernel_rfl) s w hs afC pM
end Go.Proofs
namespace Go.Abs.hk
open Go Go.Abs Go.Proofs
variable{fid:Nat->Nat}{g:Nat->Option Obj}
set_option maxRecDepth 100000 in
theorem vc{i:Nat}{fn:Func}(ab:Tryz.prog.funcs[i]? =some fn)(hb:fn.body.isSome=true)(hn:(fn.name== "runtime.NumGoroutine")=false){R:Value->World->Prop}{xs:List Value}{w:World}
  (h:Calls Tryz.prog i ⟨xs⟩ w fun e w'=>∃x,e=.returned x/\R x w'):rQ (C g).P R ((callFunc i ⟨xs⟩).run (C g).P w):=by
 obtain⟨c,hc⟩:=Option.isSome_iff_exists.1 hb;rw[Da (C:=C g) ab hc hn];exact h
theorem wR{w:World}{I:Nat->Prop}{s:List UInt8}{x:Value}(h:fz w I (.str s) x):x=.string ⟨⟨s⟩⟩:=by cases h;rfl
theorem aB7:Tryz.f207.body.isSome=true:=by kernel_rfl
theorem aB8:(Tryz.f207.name== "runtime.NumGoroutine")=false:=by kernel_rfl
theorem aFz:Tryz.f360.body.isSome=true:=by kernel_rfl
theorem aFA:(Tryz.f360.name== "runtime.NumGoroutine")=false:=by kernel_rfl
theorem aFB:Tryz.f226.body.isSome=true:=by kernel_rfl
theorem aFC:(Tryz.f226.name== "runtime.NumGoroutine")=false:=by kernel_rfl
theorem aFD:Tryz.f357.body.isSome=true:=by kernel_rfl
theorem aFE:(Tryz.f357.name== "runtime.NumGoroutine")=false:=by kernel_rfl
theorem afJ{ds:List V}{l:List (List UInt8)}(h:strs ds=some l):ds=l.map .str:=by
 induction ds generalizing l with
 |nil=>cases h;rfl
 |cons v r ih=>
  cases v<;>first|(cases h;done)|skip
  simp only[strs]at h;obtain⟨m,hm,rfl⟩:=ct.1 h;rw[ih hm];rfl
theorem TT{w:World}{I:Nat->Prop}:∀{l:List (List UInt8)} {vals:List Value},c7 w I ((l.map V.str).flatMap aE) vals->vals=l.map fun s=>Value.string ⟨⟨s⟩⟩
 |[],vals,h=>by cases h;rfl
 |s::r,vals,h=>by
  rw[eo,kn]at h;cases h with
  |cons _ x _ xs h1 h2=>
   obtain rfl:=wR h1;rw[TT h2];rfl
set_option maxRecDepth 100000 in
theorem afK:og (C g) id 207 Cq:=by
 intro G H w args v xs U eQ hs;unfold Cq at hs;split at hs
 ·rename_i sep
  cases hs;cases eQ with
  |cons _ x _ xs h1 fJ=>
   cases fJ with
   |cons _ y _ cR h2 oT=>
    cases oT;cases h1;obtain rfl:=wR h2;refine vc Tryz.func207 aB7 aB8 ((Tryz.strings_Join_none none 0 _ w).mono ?_);rintro e w' ⟨rfl,rfl⟩;exact⟨_,rfl,G,U,fun m _=>.refl _ _ _ _,.p _ _ (.str [])⟩
 ·rename_i es ds sep
  split at hs
  ·rename_i l hl
   split at hs
   ·rename_i hc
    obtain⟨rfl,bf,jl,mF⟩:=hc;cases hs;obtain rfl:=afJ hl;cases eQ with
    |cons _ x _ xs h1 fJ=>
     cases fJ with
     |cons _ y _ cR h2 oT=>
      cases oT;obtain rfl:=wR h2;generalize lx:l.map V.str=D at h1;cases h1 with
      |ur _ a cap=>exact absurd (List.map_eq_nil_iff.1 lx) bf
      |list _ _ b o cap vals aW hG hu hr MF=>
       subst lx;obtain rfl:=TT hr;have Du:((l.map fun s=>(⟨⟨s⟩⟩:ByteArray)).map (·.data.toList))=l:=by rw[rB];exact List.map_id l
       have hj:=Tryz.strings_Join b o cap (l.map fun s=>⟨⟨s⟩⟩) ⟨⟨sep⟩⟩ w (fun j y hy=>by
        refine hG j _ ?_;simp only[jy]at hy⊢;cases aT:l[j]? with
        |none=>rw[aT]at hy;cases hy
        |some z=>rw[aT]at hy;cases hy;rfl) (U.cX b aW).1 (by simp;omega) (by simpa using MF) (by rw[Du];simp only[QJ];omega)
       rw[Du]at hj;simp only[oG]at hj⊢;refine vc Tryz.func207 aB7 aB8 (hj.mono ?_);rintro e w' ⟨rfl,hb⟩;exact⟨_,rfl,G,U.restore hb.size hb.block,fun m _=>.restore hb.size hb.block hb.os hb.output m _,.p _ _ (.str (Lib.join l sep))⟩
   ·cases hs
  ·cases hs
 ·cases hs
theorem aB9:Tryz.f49.body.isSome=true:=by kernel_rfl
theorem aCc:(Tryz.f49.name== "runtime.NumGoroutine")=false:=by kernel_rfl
set_option maxRecDepth 100000 in
theorem afL (pM:∀(G:bX) (H:Heap) (w:World),aZ (C g) id G H w->Lib.TabIs Tryz.prog w "internal/strconv.uint64pow10" .u64 Lib.pow10Tab):og (C g) id 49 Cr:=by
 intro G H w args v xs U eQ hs;unfold Cr at hs;split at hs
 ·rename_i n
  split at hs
  ·rename_i hn
   cases hs;obtain⟨k,rfl⟩:=Kg hn.1;cases eQ with
   |cons _ x _ xs h1 fJ=>
    cases fJ;cases h1;have cW:k<10:=by omega
    refine vc Tryz.func49 aB9 aCc ((Tryz.strconv_Itoa_small k (by omega) w).mono ?_);rintro e w' ⟨rfl,rfl⟩;rw[Lib.decDigits_one cW];exact⟨_,rfl,G,U,fun m _=>.refl _ _ _ _,.p _ _ (.str _)⟩
  ·split at hs
   ·rename_i hn
    cases hs;cases eQ with
    |cons _ x _ xs h1 fJ=>
     cases fJ;cases h1;refine vc Tryz.func49 aB9 aCc ((Tryz.strconv_Itoa n (by omega) (by omega) w (pM G H w U)).mono ?_);rintro e w' ⟨rfl,q,os,rfl⟩;have dJ:w.heap.size<=(Sort.grow (w.drewN q) os).heap.size:=by simp[Sort.grow,World.drewN]
     have cW:∀b,b<w.heap.size->(Sort.grow (w.drewN q) os).heap[b]? =w.heap[b]? :=fun b hb=>by
      simp only[Sort.grow,World.drewN];rw[aaZ hb]
     exact⟨_,rfl,G,U.restore dJ cW,fun m _=>.restore dJ cW rfl rfl m _,.p _ _ (.str _)⟩
   ·cases hs
 ·cases hs
set_option maxRecDepth 100000 in
theorem afM:og (C g) id 360 F8:=by
 intro G H w args v xs U eQ hs;unfold F8 at hs;split at hs
 ·rename_i s c
  cases hs;cases eQ with
  |cons _ x _ xs h1 fJ=>
   cases fJ with
   |cons _ y _ cR h2 oT=>
    cases oT;cases h2;obtain rfl:=wR h1;refine vc Tryz.func360 aFz aFA ((Tryz.strings_IndexByte _ c w).mono ?_);rintro e w' ⟨rfl,rfl⟩;exact⟨_,rfl,G,U,fun m _=>.refl _ _ _ _,.p _ _ (.int .i64 _)⟩
 ·cases hs
set_option maxRecDepth 100000 in
theorem afN:og (C g) id 226 Cp:=by
 intro G H w args v xs U eQ hs;unfold Cp at hs;split at hs
 ·rename_i s
  split at hs
  ·rename_i hl
   obtain⟨n,hn,rfl⟩:=ct.1 hs;cases eQ with
   |cons _ x _ xs h1 fJ=>
    cases fJ;obtain rfl:=wR h1;refine vc Tryz.func226 aFB aFC ((Tryz.strconv_Atoi ⟨⟨s⟩⟩ n hl hn w).mono ?_);rintro e w' ⟨rfl,t,rfl⟩
    have dJ:w.heap.size<=(Lib.bytesWorld w 5 t).heap.size:=by
     unfold Lib.bytesWorld World.freeze;have h0:w.drew.heap=w.heap:=rfl;split<;>simp[h0]
    have cW:∀b,b<w.heap.size->(Lib.bytesWorld w 5 t).heap[b]? =w.heap[b]? :=fun b hb=>by
     have h1:(w.drew.alloc (.cells (Lib.bytesCells w 5 t) 5)).heap[b]? =w.heap[b]? :=alloc_old (w:=w.drew) hb;unfold Lib.bytesWorld World.freeze;split
     ·exact h1
     ·show(Array.modify _ _ _)[b]? =_
      rw[axd,if_neg (fun e=>by have e':w.heap.size=b:=e;omega)];exact h1
    have Af:(Lib.bytesWorld w 5 t).os=w.os/\(Lib.bytesWorld w 5 t).tape=w.tape/\(Lib.bytesWorld w 5 t).output=w.output:=by
     unfold Lib.bytesWorld World.freeze;split<;>exact⟨rfl,rfl,rfl⟩
    refine⟨_,rfl,G,U.restore dJ cW,fun m _=>.restore dJ cW Af.1 Af.2.2 m _,.p _ _ (.aU _ _ (.cons _ _ _ _ (.int .i64 n) (.cons _ _ _ _ .ig .nil)))⟩
  ·cases hs
 ·cases hs
theorem TW{w:World}{I:Nat->Prop}:∀(l:List (List UInt8)),c7 w I ((l.map V.str).flatMap aE) (l.map fun x=>Value.string ⟨x.toArray⟩)
 |[]=>.nil
 |a::l=>.cons _ _ _ _ (.str a) (TW l)
set_option maxRecDepth 100000 in
theorem afO (pM:∀(G:bX) (H:Heap) (w:World),aZ (C g) id G H w->Lib.TabIs Tryz.prog w "strings.asciiSpace" .u8 Lib.asciiSpaceTab):og (C g) id 357 Co:=by
 intro G H w args v xs U eQ hs;unfold Co at hs;split at hs
 ·rename_i s
  split at hs
  ·rename_i hc
   simp only[b8,decide_eq_true_eq]at hc;cases hs;cases eQ with
   |cons _ x _ xs h1 fJ=>
    cases fJ;obtain rfl:=wR h1;refine vc Tryz.func357 aFD aFE ((Tryz.strings_Fields ⟨⟨s⟩⟩ w hc.2 (fun j b hb=> ?_) (pM G H w U)).mono ?_)
    ·have:=eV.1 hc.1 b (hz hb)
     have h':=UInt8.lt_iff_toNat_lt.1 (of_decide_eq_true this);simpa using h'
    rintro e w' ⟨rfl,rfl⟩;refine⟨_,rfl,⟨G.β,fun b=>G.I b\/(b=w.heap.size/\True)⟩,U.sY _ True,fun m _=>.sY _ True m _,?_⟩;refine .p _ _ ?_;cases ab:Lib.fields s with
    |nil=>simp only[List.isEmpty_nil,if_true,ja];exact .emp _
    |cons a r=>
     simp only[List.isEmpty_cons,hY,if_false];rw[<-oG (f:=V.str)];refine .list 1 _ _ 0 _ _ (.inr ⟨rfl,trivial⟩) ?_ (fun d hd=> ?_) (TW (a::r)) (aK _)
     ·intro j x hx
      rw[RA (oQ w _),eO,<-auF];exact hx
     ·obtain⟨y,-,rfl⟩:=ey.1 hd
      rfl
  ·cases hs
 ·cases hs
theorem aFF:Tryz.f204.body.isSome=true:=by kernel_rfl
theorem aFG:(Tryz.f204.name== "runtime.NumGoroutine")=false:=by kernel_rfl
set_option maxRecDepth 100000 in
theorem afR:og (C g) id 204 KF:=by
 intro G H w args v xs U eQ hs;unfold KF at hs;split at hs
 ·rename_i n
  split at hs
  ·rename_i hn
   cases hs;cases eQ with
   |cons _ x _ xs h1 fJ=>
    cases fJ;cases h1;refine vc Tryz.func204 aFF aFG ((Tryz.bits_Len n w (by omega) (by omega)).mono ?_);rintro e w' ⟨rfl,rfl⟩;exact⟨_,rfl,G,U,fun m _=>.refl _ _ _ _,.p _ _ (.int .i64 _)⟩
  ·cases hs
 ·cases hs
theorem aFJ:Tryz.f368.body.isSome=true:=by kernel_rfl
theorem aFK:(Tryz.f368.name== "runtime.NumGoroutine")=false:=by kernel_rfl
set_option maxRecDepth 100000 in
theorem afU:og (C g) id 368 KG:=by
 intro G H w args v xs U eQ hs;unfold KG at hs;split at hs
 ·rename_i s c
  split at hs
  ·rename_i hc
   cases hs;cases eQ with
   |cons _ x _ xs h1 fJ=>
    cases fJ with
    |cons _ y _ cR h2 oT=>
     cases oT;obtain rfl:=wR h1;obtain rfl:=wR h2;have ux:c.toNat<128:=by simpa using UInt8.lt_iff_toNat_lt.1 hc
     refine vc Tryz.func368 aFJ aFK ((Tryz.strings_TrimLeft_one ⟨⟨s⟩⟩ c ux w).mono ?_);rintro e w' ⟨rfl,rfl⟩;exact⟨_,rfl,G,U,fun m _=>.refl _ _ _ _,.p _ _ (.str _)⟩
  ·cases hs
 ·cases hs
end Go.Abs.hk
namespace Go.Abs
open Go
end Go.Abs
namespace Go.Abs
open Go
variable{C:Ctx}{fid:Nat->Nat}{w w':World}{G G':bX}{H H':Heap}
theorem Dy{aa:Nat->Option bY}{i:Nat}{spec:List V->Option V}(h:aa i=some (.ext spec)){args:List V}(hp:bW args=true){v:V}(ad:spec args=some v)(H:Heap):bZ aa (.fn i [] []) args H=some (v,H,H.length):=by
 rw[mE,h];simp[hp,ad]
end Go.Abs
namespace Go.Abs
open Go
variable{C:Ctx}{fid:Nat->Nat}
end Go.Abs
namespace Go.Abs
open Go
abbrev bV:=Nat->V
def up (σ:bV)(t:Nat)(v:V):bV:=fun k=>match Nat.beq k t with
 |true=>v
 |false=>σ k
def mL:bV:=fun _=>.undef
theorem ve (σ:bV)(t:Nat)(v:V):up σ t v t=v:=by simp[up,zX]
theorem iU (σ:bV){t k:Nat}(v:V)(h:k≠t):up σ t v k=σ k:=by
 unfold up;cases hb:Nat.beq k t with
 |true=>exact absurd (e8 hb) h
 |false=>rfl
theorem ahj{σ:bV}{t:Nat}{v:V}(h:σ t=v):up σ t v=σ:=by
 funext k;by_cases e:k=t
 ·subst e;rw[ve,h]
 ·rw[iU _ _ e]
def bN (aw σ:bV):ag->V
 | .tmp t=>aw t
 | .var t=>σ t
 | .const v=>v
 | .func i=>.fn i [] []
def Fits (e:Env)(σ:bV):Prop:=∀t,bk e t=σ t
theorem sb:Fits [] mL:=fun _=>rfl
theorem vf{aG av:Env}{aw σ:bV}(ht:Fits aG aw)(hs:Fits av σ):ag.ae aG av=bN aw σ:=by
 funext x;cases x with
 |tmp t=>exact ht t
 |var t=>exact hs t
 |const v=>rfl
 |func i=>rfl
theorem VO{av:Env}{σ:bV}(h:Fits av σ)(t:Nat)(v:V):Fits (ec av t v) (up σ t v):=fun k=>by
 rw[fB];by_cases e:k=t
 ·rw[if_pos e,e,ve]
 ·rw[if_neg e,iU _ _ e];exact h k
theorem VP{aG:Env}{aw:bV}(h:Fits aG aw)(t:Nat)(v:V):Fits ((t,v)::aG) (up aw t v):=fun k=>by
 by_cases e:k=t
 ·subst e;simp[bk,ve]
 ·rw[iU _ _ e];simp[bk,kp e];exact h k
section
variable (aa:Nat->Option bY)(b:Nat)
def eS (c:cj)(σ:bV)(H:Heap)(Q:X->bV->Heap->Prop):Prop:=
 ∀av low,Fits av σ->b<=low->b<=H.length->∃x dD H' low' aN,dx aa c ⟨[],av,H,low,none⟩=some (x,⟨[],dD,H',low',none⟩)/\Fits dD aN/\b<=low'/\b<=H'.length/\Q x aN H'
def Op (ops:List bO)(aw σ:bV)(H:Heap)(wr:List Bool)(Q:bV->Heap->List Bool->Prop):Prop:=
 ∀aG av low,Fits aG aw->Fits av σ->b<=low->b<=H.length->∃mM dD H' low' e6 aN,cQ (bZ aa) ops ⟨aG,av,H,low,none⟩ wr=some (⟨mM,dD,H',low',none⟩,e6)/\Fits dD aN/\b<=low'/\b<=H'.length/\Q aN H' e6
end
section
variable{aa:Nat->Option bY}{b:Nat}{aw σ:bV}{H:Heap}{Q:X->bV->Heap->Prop}
theorem eS.mono{c:cj}{VQ:X->bV->Heap->Prop}(h:eS aa b c σ H Q)(k:∀x aN H',Q x aN H'->VQ x aN H'):eS aa b c σ H VQ:=fun av low h1 h2 ar=>by
 obtain⟨x,dD,H',low',aN,af,e2,bT,cF,ej⟩:=h av low h1 h2 ar;exact⟨x,dD,H',low',aN,af,e2,bT,cF,k _ _ _ ej⟩
theorem qV (h:Q .normal σ H):eS aa b .skip σ H Q:=fun av low h1 h2 ar=>⟨_,_,_,_,σ,jC _,h1,h2,ar,h⟩
theorem ti (h:Q .ret σ H):eS aa b .ret σ H Q:=fun av low h1 h2 ar=>⟨_,_,_,_,σ,jD _,h1,h2,ar,h⟩
theorem Dz{i:Nat}(h:Q (.exit i) σ H):eS aa b (.exit i) σ H Q:=fun av low h1 h2 ar=>⟨_,_,_,_,σ,lf _ _,h1,h2,ar,h⟩
def andThen (aa:Nat->Option bY)(b:Nat)(c:cj)(Q:X->bV->Heap->Prop):X->bV->Heap->Prop
 | .normal,σ,H=>eS aa b c σ H Q
 |x,σ,H=>Q x σ H
theorem kc{a c:cj}(h:eS aa b a σ H (andThen aa b c Q)):eS aa b (.seq a c) σ H Q:=fun av low h1 h2 ar=>by
 obtain⟨x,dD,H',low',aN,af,e2,bT,cF,ej⟩:=h av low h1 h2 ar;rw[gn,af];cases x with
 |normal=>exact ej dD low' e2 bT cF
 |exit i=>exact⟨_,_,_,_,aN,rfl,e2,bT,cF,ej⟩
 |ret=>exact⟨_,_,_,_,aN,rfl,e2,bT,cF,ej⟩
theorem qW{x:ag}{t e:cj}{β:Bool}(hx:bN mL σ x=.bool β)(oi:β=true)(h:eS aa b t σ H Q):eS aa b (.cond x t e) σ H Q:=fun av low h1 h2 ar=>by
 obtain⟨eI,dD,H',low',aN,af,e2⟩:=h av low h1 h2 ar;refine⟨eI,dD,H',low',aN,?_,e2⟩;rw[iO,vf sb h1,hx,oi];exact af
theorem qX{x:ag}{t e:cj}{β:Bool}(hx:bN mL σ x=.bool β)(oi:β=false)(h:eS aa b e σ H Q):eS aa b (.cond x t e) σ H Q:=fun av low h1 h2 ar=>by
 obtain⟨eI,dD,H',low',aN,af,e2⟩:=h av low h1 h2 ar;refine⟨eI,dD,H',low',aN,?_,e2⟩;rw[iO,vf sb h1,hx,oi];exact af
def AZ (id:Nat):X->X
 | .exit j=>match Nat.beq j id with
   |true=>.normal
   |false=>.exit j
 |x=>x
theorem yF{id:Nat}{c:cj}(h:eS aa b c σ H (fun x=>Q (AZ id x))):eS aa b (.block id c) σ H Q:=fun av low h1 h2 ar=>by
 obtain⟨x,dD,H',low',aN,af,e2,bT,cF,ej⟩:=h av low h1 h2 ar;refine⟨AZ id x,dD,H',low',aN,?_,e2,bT,cF,ej⟩;rw[jY,af];cases x with
 |normal=>rfl
 |exit j=>
  simp only[AZ];cases hb:Nat.beq j id with
  |true=>rw[if_pos (e8 hb)]
  |false=>rw[if_neg (fun e=>by rw[e,zX]at hb;cases hb)]
 |ret=>rfl
theorem o6{ops:List bO}(h:Op aa b ops mL σ H [] (fun aN H' _=>Q .normal aN H')):eS aa b (.region ops none) σ H Q:=fun av low h1 h2 ar=>by
 obtain⟨mM,dD,H',low',e6,aN,af,e2,bT,cF,ej⟩:=h [] av low sb h1 h2 ar;exact⟨.normal,dD,H',low',aN,by rw[h6];simp only[af,aq.fp],e2,bT,cF,ej⟩
theorem MN{ops:List bO}{dE:List Nat}(h:Op aa b ops mL σ H [] (fun aN H' wr=>nX dE ops wr=true/\Q .normal aN H')):eS aa b (.region ops (some dE)) σ H Q:=fun av low h1 h2 ar=>by
 obtain⟨mM,dD,H',low',e6,aN,af,e2,bT,cF,ej,j2⟩:=h [] av low sb h1 h2 ar;exact⟨.normal,dD,H',low',aN,by rw[h6];simp only[af,ej,Bool.true_or,if_true,aq.fp],e2,bT,cF,j2⟩
end
section
variable{aa:Nat->Option bY}{b:Nat}{aw σ:bV}{H:Heap}{wr:List Bool}{Q:bV->Heap->List Bool->Prop}{rest:List bO}
theorem dV (h:Q σ H wr.reverse):Op aa b [] aw σ H wr Q:=fun aG av low h1 h2 ar aQ=>⟨_,_,_,_,_,σ,rfl,h2,ar,aQ,h⟩
def fV (aw:bV):Option (Nat × Bool)->V->bV
 |some (t,false),v=>up aw t v
 | _,_=>aw
def fW (σ:bV):Option (Nat × Bool)->V->bV
 |some (t,true),v=>up σ t v
 | _,_=>σ
theorem yG{aG av:Env}(ht:Fits aG aw)(hs:Fits av σ)(H:Heap)(low:Nat)(d:Option (Nat × Bool))(v:V):
  ∃mM dD,aq.put ⟨aG,av,H,low,none⟩ d v=⟨mM,dD,H,low,none⟩/\Fits mM (fV aw d v)/\Fits dD (fW σ d v):=by
 match d with
 |none=>exact⟨_,_,rfl,ht,hs⟩
 |some (t,true)=>exact⟨_,_,rfl,ht,VO hs t v⟩
 |some (t,false)=>exact⟨_,_,rfl,VP ht t v,hs⟩
def gJ (aw σ:bV):Option (ag × Bool)->Option Bool
 |none=>some true
 |some (t,w)=>match bN aw σ t with
  | .bool c=>some (c==w)
  | .aU []=>some false
  | _=>none
theorem DA{aG av:Env}(ht:Fits aG aw)(hs:Fits av σ):∀g:Option (ag × Bool),e3 aG av g=gJ aw σ g
 |none=>rfl
 |some (t,w)=>by unfold e3 gJ;rw[vf ht hs];rfl
theorem hJ{t:ag}{β w:Bool}(h:bN aw σ t=.bool β)(oi:β=w):gJ aw σ (some (t,w))=some true:=by
 subst oi;simp[gJ,h]
theorem Ht{t:ag}{β:Bool}(h:bN aw σ t=.bool β)(oi:β=false):gJ aw σ (some (t,true))=some false:=by
 subst oi;simp[gJ,h]
theorem Hu{t:ag}{β:Bool}(h:bN aw σ t=.bool β)(oi:β=true):gJ aw σ (some (t,false))=some false:=by
 subst oi;simp[gJ,h]
theorem VR{t:ag}{w:Bool}(h:bN aw σ t=.aU []):gJ aw σ (some (t,w))=some false:=by
 simp[gJ,h]
theorem nI{o:bO}{v:V}{H1:Heap}{mv:Bool}(hw:gJ aw σ o.guard=some true)
  (h:b<=H.length->b<=H1.length/\∃bI,b<=bI/\b2 (bZ aa) (bN aw σ) H H.length o.op=some (v,H1,bI)/\eG H H1 bI=mv)
  (k:Op aa b rest (fV aw o.dst v) (fW σ o.dst v) H1 (mv::wr) Q):Op aa b (o::rest) aw σ H wr Q:=fun aG av low h1 h2 ar aQ=>by
 obtain⟨hb,bI,ai,a2,a3⟩:=h aQ;simp only[cQ];rw[DA h1 h2,hw,vf h1 h2];simp only[];rw[a2];simp only[];obtain⟨nJ,lC,af,e2,bT⟩:=yG h1 h2 H1 (min low bI) o.dst v;rw[af,a3];exact k nJ lC _ e2 bT (by omega) hb
theorem MO{o:bO}(hw:gJ aw σ o.guard=some false)(k:Op aa b rest (fV aw o.dst (.aU [])) (fW σ o.dst (.aU [])) H (false::wr) Q):Op aa b (o::rest) aw σ H wr Q:=fun aG av low h1 h2 ar aQ=>by
 simp only[cQ];rw[DA h1 h2,hw];simp only[];obtain⟨nJ,lC,af,e2,bT⟩:=yG h1 h2 H low o.dst (.aU []);rw[af];exact k nJ lC _ e2 bT ar aQ
theorem ha{d:Option (Nat × Bool)}{op:cH}{g:Option (ag × Bool)}{v:V}(hw:gJ aw σ g=some true)(h:b2 (bZ aa) (bN aw σ) H H.length op=some (v,H,H.length))
  (k:Op aa b rest (fV aw d v) (fW σ d v) H (false::wr) Q):Op aa b (⟨d,op,g⟩::rest) aw σ H wr Q:=
 nI (o:=⟨d,op,g⟩) hw (fun hb=>⟨hb,H.length,hb,h,iT H⟩) k
abbrev cN:=List (List (Nat × cc))
def Own (H:Heap)(ms:cN):Prop:=(∀m∈ms,∀p∈m,H[p.1]? =some p.2)/\(ms.map (·.map Prod.fst)).Pairwise (fun x y=>∀a∈x,a∉y)
theorem Own.nil (H:Heap):Own H []:=⟨by simp,by simp⟩
theorem Own.get{ms:cN}(h:Own H ms)(k:Nat){a:Nat}{o:cc}(cW:ms[k]? =some [(a,o)]):H[a]? =some o:=
 h.1 _ (hz cW) (a,o) (by simp)
theorem wT{H:Heap}{a:Nat}{o:cc}(h:H[a]? =some o):a<H.length:=by
 rcases fX a H.length with q|q
 ·exact q
 ·rw[lb q]at h;cases h
theorem Own.lt{ms:cN}(h:Own H ms){m:List (Nat × cc)}(hm:m∈ms){p:Nat × cc}(hp:p∈m):p.1<H.length:=wT (h.1 m hm p hp)
theorem Own.keys{ms:cN}(h:Own H ms){x:List Nat}(hx:x∈ms.map (·.map Prod.fst)){a:Nat}(ao:a∈x):a<H.length:=by
 obtain⟨m,hm,rfl⟩:=ey.1 hx;obtain⟨p,hp,rfl⟩:=ey.1 ao;exact h.lt hm hp
theorem Own.grow{ms:cN}(h:Own H ms)(o:cc):Own (H++[o]) ([(H.length,o)]::ms):=by
 refine⟨fun m hm p hp=> ?_,?_⟩
 ·rcases dA.1 hm with rfl|hm
  ·simp at hp;subst hp;simp
  ·rw[gE (h.lt hm hp)];exact h.1 m hm p hp
 ·rw[eo,FK]
  refine⟨fun y hy a ao ahk=> ?_,h.2⟩;have:=h.keys hy ahk;simp at ao;omega
theorem Own.Hv{ms:cN}(h:Own H ms){i j:Nat}{m m':List (Nat × cc)}(hi:ms[i]? =some m)(hj:ms[j]? =some m')(cK:i≠j){p q:Nat × cc}(hp:p∈m)(bc:q∈m'):p.1≠q.1:=by
 have key:∀{i j:Nat} {m m':List (Nat × cc)},ms[i]? =some m->ms[j]? =some m'->i<j->∀{p q:Nat × cc},p∈m->q∈m'->p.1≠q.1:=by
  intro i j m m' hi hj cK p q hp bc e;obtain⟨s3,hi⟩:=pY.1 hi;obtain⟨ahl,hj⟩:=pY.1 hj;have:=QD.1 h.2 i j (by simpa using s3) (by simpa using ahl) cK;simp only[FP]at this;refine this p.1 (by rw[hi];exact sL hp) ?_;rw[hj,e];exact sL bc
 rcases Nat.lt_or_gt_of_ne cK with q1|q1
 ·exact key hi hj q1 hp bc
 ·exact fun e=>key hj hi q1 bc hp e.symm
theorem ahm{ms:cN}{k:Nat}{m m':List (Nat × cc)}(cW:ms[k]? =some m)(hm:m'.map Prod.fst=m.map Prod.fst):(ms.set k m').map (·.map Prod.fst)=ms.map (·.map Prod.fst):=by
 rw[List.map_set,hm];apply wg;intro i;by_cases e:k=i
 ·subst e
  have:=(pY.1 cW).1;rw[nU (by simpa using this),jy,cW];rfl
 ·rw[gm e]
theorem Own.put{ms:cN}(h:Own H ms)(k:Nat){a:Nat}{o o':cc}(cW:ms[k]? =some [(a,o)]):Own (H.set a o') (ms.set k [(a,o')]):=by
 refine⟨fun m hm p hp=> ?_,by rw[ahm (m':=[(a,o')]) cW rfl];exact h.2⟩;obtain⟨i,hi⟩:=ns.1 hm;by_cases e:k=i
 ·subst e
  rw[nU (pY.1 cW).1]at hi;cases hi;simp at hp;subst hp;rw[nU (wT (h.get k cW))]
 ·rw[gm e]at hi
  have:=h.Hv cW hi e (p:=(a,o)) (by simp) hp;rw[gm this];exact h.1 m (hz hi) p hp
theorem Own.fill{ms:cN}(h:Own H ms)(k:Nat){o:cc}(cW:ms[k]? =some []):Own (H++[o]) (ms.set k [(H.length,o)]):=by
 refine⟨fun m hm p hp=> ?_,?_⟩
 ·obtain⟨i,hi⟩:=ns.1 hm
  by_cases e:k=i
  ·subst e
   rw[nU (pY.1 cW).1]at hi;cases hi;simp at hp;subst hp;simp
  ·rw[gm e]at hi
   have mY:=hz hi;rw[gE (h.lt mY hp)];exact h.1 m mY p hp
 ·have:=h.2
  rw[QD]at this⊢;intro i j hi hj cK a ao gv;simp only[oG,zT]at hi hj;simp only[FP,List.getElem_set]at ao gv;have hb:∀{i:Nat} (hi:i<ms.length) {a:Nat},a∈(ms[i]).map Prod.fst->a<H.length:=fun hi a ao=>h.keys (sL (Kp hi)) ao;by_cases af:k=i
  ·have e2:k≠j:=by omega
   rw[if_pos af]at ao;rw[if_neg e2]at gv;have:=hb hj gv;simp at ao;omega
  ·by_cases e2:k=j
   ·rw[if_neg af]at ao;rw[if_pos e2]at gv
    have:=hb hi ao;simp at gv;omega
   ·rw[if_neg af]at ao;rw[if_neg e2]at gv
    exact this i j (by simpa using hi) (by simpa using hj) cK a (by simpa using ao) (by simpa using gv)
theorem Own.drop{ms:cN}(h:Own H ms)(k:Nat):Own H (ms.eraseIdx k):=by
 have hs:=List.eraseIdx_sublist ms k;exact⟨fun m hm=>h.1 m (hs.subset hm),h.2.sublist (hs.map _)⟩
theorem MP{α:Type}{x a:α}:∀{l:List α} {k:Nat},x∈l.insertIdx k a->x=a\/x∈l
 |l,0,h=>by simpa using h
 |[],k+1,h=>by simp at h
 |b::l,k+1,h=>by
  rw[List.insertIdx_succ_cons]at h;rcases dA.1 h with rfl|h
  ·exact .inr (by simp)
  ·rcases MP h with rfl|h
   ·exact .inl rfl
   ·exact .inr (kQ _ h)
theorem Own.ins{ms:cN}(h:Own H ms)(k:Nat):Own H (ms.insertIdx k []):=by
 refine⟨fun m hm p hp=> ?_,?_⟩
 ·rcases MP hm with rfl|hm
  ·cases hp
  ·exact h.1 m hm p hp
 ·have:∀(ms:List (List Nat)) (k:Nat),ms.Pairwise (fun x y=>∀a∈x,a∉y)->(ms.insertIdx k []).Pairwise (fun x y=>∀a∈x,a∉y):=by
   intro ms
   induction ms with
   |nil=>intro k _;cases k<;>simp
   |cons m ms ih=>
    intro k hp;cases k with
    |zero=>simp only[List.insertIdx_zero,FK];exact⟨by simp,FK.1 hp⟩
    |succ k=>
     rw[List.insertIdx_succ_cons,FK];obtain⟨h1,h2⟩:=FK.1 hp;refine⟨fun y hy=> ?_,ih k h2⟩;rcases MP hy with rfl|hy
     ·simp
     ·exact h1 y hy
  have h2:=this _ k h.2
  have e:(ms.insertIdx k []).map (·.map Prod.fst)=(ms.map (·.map Prod.fst)).insertIdx k []:=by
   clear h2 this h
   induction ms generalizing k with
   |nil=>cases k<;>simp
   |cons m ms ih=>cases k<;>simp[*]
  rw[e];exact h2
theorem Own.VS{ms:cN}(h:Own H ms)(ks:List Nat)(cW:ks.Nodup):Own H (ks.map fun k=>ms.getD k []):=by
 refine⟨fun m hm p hp=> ?_,?_⟩
 ·obtain⟨k,-,rfl⟩:=ey.1 hm
  simp only[tY]at hp;cases hx:ms[k]? with
  |none=>rw[hx]at hp;cases hp
  |some m=>rw[hx]at hp;exact h.1 m (hz hx) p hp
 ·rw[rB,List.pairwise_map]
  refine List.Pairwise.imp ?_ cW;intro i j cK a ao gv;simp only[Function.comp,tY]at ao gv;cases hi:ms[i]? with
  |none=>rw[hi]at ao;cases ao
  |some m=>cases hj:ms[j]? with
   |none=>rw[hj]at gv;cases gv
   |some m'=>
    rw[hi]at ao;rw[hj]at gv;obtain⟨p,hp,rfl⟩:=ey.1 ao;obtain⟨q,bc,e⟩:=ey.1 gv;exact h.Hv hi hj cK hp bc e.symm
end
end Go.Abs
namespace Go.Abs
open Go
inductive ak (α:Type) where
 |nil
 |emp
 |mk (l:List α)
 deriving Inhabited
def ak.l{α:Type}:ak α->List α
 | .mk l=>l
 | _=>[]
def ak.len{α:Type}(x:ak α):Int:=(x.l.length:Int)
def bg{α:Type}(es:Nat)(f:α->V):ak α->V
 | .nil=>.cp
 | .emp=>.emp
 | .mk l=>.list es (l.map f)
abbrev bJ (n:Int):Int:=IntKind.i64.wrap n
abbrev aD (n:Int):V:=.int .i64 n
def bQ{α:Type}(l:List α)(i:Int):Option α:=if 0<=i then l[i.toNat]? else none
inductive dM (S O:Type) where
 |next (s:S)
 |out (o:O)
inductive cP (S R:Type) where
 |go (s:S)
 |ret (r:R)
def qY{S O:Type}(f:S->Option (dM S O)):Nat->S->Option O
 |0,_=>none
 |n+1,s=>match f s with
  |some (.next al)=>qY f n al
  |some (.out o)=>some o
  |none=>none
theorem MQ{S O:Type}{f:S->Option (dM S O)}:∀{n m:Nat} {s:S} {o:O},n<=m->qY f n s=some o->qY f m s=some o
 |0,_,_,_,_,h=>by cases h
 |n+1,0,_,_,hm,h=>by omega
 |n+1,m+1,s,o,hm,h=>by
  simp only[qY]at h⊢;split at h
  ·exact MQ (by omega) h
  ·exact h
  ·cases h
open Classical in
noncomputable def c0{S O:Type}(f:S->Option (dM S O))(s:S):Option O:=
 if h:∃n o,qY f n s=some o then some h.choose_spec.choose else none
theorem yH{S O:Type}{f:S->Option (dM S O)}{s:S}{o:O}:c0 f s=some o↔∃n,qY f n s=some o:=by
 unfold c0;constructor
 ·intro h
  split at h
  ·rename_i hx
   cases h;exact⟨_,hx.choose_spec.choose_spec⟩
  ·cases h
 ·rintro⟨n,hn⟩
  have hx:∃n o,qY f n s=some o:=⟨n,o,hn⟩;rw[dif_pos hx];have h1:=MQ (sQ n hx.choose) hn;have h2:=MQ (rv n hx.choose) hx.choose_spec.choose_spec;rw[h1]at h2;exact h2.symm
theorem k4{S O:Type}(f:S->Option (dM S O))(s:S):c0 f s=match f s with
  |some (.next al)=>c0 f al
  |some (.out o)=>some o
  |none=>none:=by
 cases ab:f s with
 |none=>
  simp only[];cases h:c0 f s with
  |none=>rfl
  |some o=>
   obtain⟨n,hn⟩:=yH.1 h;cases n with
   |zero=>cases hn
   |succ n=>simp[qY,ab]at hn
 |some r=>cases r with
  |out o=>exact yH.2 ⟨1,by simp[qY,ab]⟩
  |next al=>
   simp only[];cases h:c0 f al with
   |some o=>
    obtain⟨n,hn⟩:=yH.1 h;exact yH.2 ⟨n+1,by simp[qY,ab,hn]⟩
   |none=>
    cases h':c0 f s with
    |none=>rfl
    |some o=>
     obtain⟨n,hn⟩:=yH.1 h';cases n with
     |zero=>cases hn
     |succ n=>
      simp only[qY,ab]at hn;rw[yH.2 ⟨n,hn⟩]at h;cases h
section
variable{aa:Nat->Option bY}{b:Nat}{aw σ:bV}{H:Heap}
theorem ahn{S O:Type}{c:cj}(f:S->Option (dM S O))(I:S->bV->Heap->Prop)(P:O->X->bV->Heap->Prop)
  (round:∀s σ H r,I s σ H->f s=some r->eS aa b c σ H fun x aN H'=>match r with
    | .next al=>x=.normal/\I al aN H'
    | .out o=>x≠ .normal/\P o x aN H') {s:S} {o:O} (h:c0 f s=some o) (aW:I s σ H):eS aa b (.loop c) σ H (P o):=by
 obtain⟨n,hn⟩:=yH.1 h;clear h
 induction n generalizing s σ H with
 |zero=>cases hn
 |succ n ih=>
  intro av low h1 h2 ar;simp only[qY]at hn;cases ab:f s with
  |none=>rw[ab]at hn;cases hn
  |some r=>
   rw[ab]at hn;obtain⟨x,dD,H',low',aN,af,e2,bT,cF,ej⟩:=round s σ H r aW ab av low h1 h2 ar;rw[py,af];cases r with
   |next al=>
    obtain⟨rfl,yt⟩:=ej;exact ih yt hn dD low' e2 bT cF
   |out o'=>
    cases hn;obtain⟨hx,gr⟩:=ej;refine⟨x,dD,H',low',aN,?_,e2,bT,cF,gr⟩;cases x<;>first|rfl|exact absurd rfl hx
theorem bind_some{α β:Type}{a:Option α}{f:α->Option β}{r:β}(h:a.bind f=some r):∃x,a=some x/\f x=some r:=dZ.1 h
theorem lD{α:Type}{c:Bool}{p q:Option α}{r:α}(h:(bif c then p else q)=some r):(c=true/\p=some r)\/(c=false/\q=some r):=by
 cases c
 ·exact .inr ⟨rfl,h⟩
 ·exact .inl ⟨rfl,h⟩
variable{α:Type}{es:Nat}{f:α->V}{ae:ag->V}
theorem qZ{call:cU}{x:ag}{s:ak α}(h:ae x=bg es f s)(low:Nat):b2 call ae H low (.len 1 x)=some (aD s.len,H,low):=by
 show step ae H low (.len 1 x)=_;cases s<;>simp[step,h,bg,ak.len,ak.l]
theorem sc{call:cU}{x i:ag}{s:ak α}{n:Int}{a:α}{k:IntKind}(h:ae x=bg es f s)(hi:ae i=.int k n)(hx:bQ s.l n=some a)(low:Nat):b2 call ae H low (.indexAddr es x i)=some (.dn (aE (f a)) 0,H,low):=by
 show step ae H low (.indexAddr es x i)=_;unfold bQ at hx;split at hx
 ·rename_i hn
  cases s<;>simp_all [step,bg,ak.l,kr]
 ·cases hx
end
end Go.Abs
namespace Go.Abs
open Go
abbrev bH:=List UInt8
theorem lE{b:Bool}(h:b=true):(!b)=false:=by rw[h];rfl
theorem lF{b:Bool}(h:b=false):(!b)=true:=by rw[h];rfl
@[simp] theorem o7 {α : Type} (es : Nat) (f : α -> V) (s : ak α) : bs (bg es f s) = true := by cases s <;> rfl
@[simp] theorem ata (k : IntKind) (n : Int) : bs (.int k n) = true := rfl
@[simp] theorem atb (b : Bool) : bs (.bool b) = true := rfl
@[simp] theorem atc (b : List UInt8) : bs (.str b) = true := rfl
@[simp] theorem MR (k : IntKind) (n : Int) : aE (.int k n) = [.int k n] := rfl
@[simp] theorem atd (b : Bool) : aE (.bool b) = [.bool b] := rfl
@[simp] theorem ate (b : List UInt8) : aE (.str b) = [.str b] := rfl
@[simp] theorem aho {α : Type} (es : Nat) (f : α -> V) (s : ak α) : ed (bg es f s) = true := by cases s <;> rfl
@[simp] theorem atf (k : IntKind) (n : Int) : ed (.int k n) = true := rfl
@[simp] theorem atg (b : Bool) : ed (.bool b) = true := rfl
@[simp] theorem ath (b : List UInt8) : ed (.str b) = true := rfl
@[simp] theorem ati : ed .cp = true := rfl
@[simp] theorem atj : ed .emp = true := rfl
@[simp] theorem atk : ed .jb = true := rfl
@[simp] theorem atl : ed .ig = true := rfl
@[simp] theorem atm : ed .jV = true := rfl
@[simp] theorem atn : ed .iw = true := rfl
@[simp] theorem ato (a o : Nat) : ed (.ptr a o) = true := rfl
@[simp] theorem atp (a : Nat) : ed (.map a) = true := rfl
@[simp] theorem atq (a : Nat) (x y : List V) : ed (.fn a x y) = true := rfl
@[simp] theorem atr (a : Nat) (x : List V) : ed (.list a x) = true := rfl
@[simp] theorem VT {α : Type} (es : Nat) (f : α -> V) (s : ak α) : aE (bg es f s) = [bg es f s] := by cases s <;> rfl
def DB (a b:Int):Option Int:=if b=0 then none else some (bJ (a.tdiv b))
def DC (a b:Int):Option Int:=if b=0 then none else some (a.tmod b)
def vg (a b:bH):Option bH:=if a.length+b.length<=2^40 then some (a++b)else none
inductive jr (b es:Nat):V->ak V->List (Nat × cc)->Prop
 |nil:jr b es .cp .nil []
 |emp:jr b es .emp .emp []
 |row (l:Nat) (ds:List V) (h:ds≠[]) (hb:b<=l):jr b es (.cz l es 0 ds.length ds.length) (.mk ds) [(l,.row es ds false)]
def ak.map{α β:Type}(f:α->β):ak α->ak β
 | .nil=>.nil
 | .emp=>.emp
 | .mk l=>.mk (l.map f)
abbrev hf{α:Type}(b es:Nat)(f:α->V)(v:V)(s:ak α)(m:List (Nat × cc)):Prop:=jr b es v (s.map f) m
theorem ahp{α:Type}(es:Nat)(f:α->V)(s:ak α):bg es f s=bg es id (s.map f):=by cases s<;>simp[bg,ak.map]
def lG{α:Type}(bytes:Nat)(s y:ak α):Option (ak α):=
 if y.l=[]then some s else if(s.l.length+y.l.length)*(bytes+1)<=2^40 then some (.mk (s.l++y.l))else none
def o8{α:Type}(s:ak α)(a c:Int):Option (ak α):=match s with
 | .nil=>if a=0/\c=0 then some .nil else none
 | .emp=>if a=0/\c=0 then some .emp else none
 | .mk l=>if 0<=a/\a<=c/\c<=l.length then some (.mk ((l.take c.toNat).drop a.toNat))else none
def q0 (s:bH)(a c:Int):Option bH:=if 0<=a/\a<=c/\c<=s.length then some ((s.take c.toNat).drop a.toNat)else none
def ak.isNil{α:Type}:ak α->Bool
 | .nil=>true
 | _=>false
def iH{K W:Type}[BEq K](m:List (K × W))(k:K):Option W:=(m.find? fun p=>k==p.1).map (·.2)
def mg{K W:Type}[BEq K]:List (K × W)->K->W->List (K × W)
 |[],k,w=>[(k,w)]
 |p::r,k,w=>if k==p.1 then(k,w)::r else p::mg r k w
def yI{α:Type}(bytes:Nat)(z:α)(n:Int):Option (ak α):=if 0<=n/\n*(bytes+1)<=2^40 then some (if n=0 then .emp else .mk (List.replicate n.toNat z))else none
def o9{α:Type}(s:ak α)(i:Int)(e:α):ak α:=.mk (s.l.set i.toNat e)
mutual
theorem MS{n:Nat}:∀{v:V},bs v=true->old n v=true
 | .bool _,_| .int _ _,_| .str _,_| .cp,_| .emp,_| .jb,_| .iw,_| .jV,_| .ig,_| .list _ _,_=>rfl
 | .agg vs,h=>by simp only[bs]at h;simp only[old];exact A0 h
 | .aU vs,h=>by simp only[bs]at h;simp only[old];exact A0 h
 | .fn i a b,h=>by simp only[bs,b8]at h;simp only[old,b8];exact⟨A0 h.1,A0 h.2⟩
 | .iface t v,h=>by simp only[bs]at h;simp only[old];exact MS h
 | .ptr ..,h| .gF ..,h| .dn ..,h| .cz ..,h| .map ..,h| .yield ..,h| .undef,h=>by simp[bs]at h
theorem A0{n:Nat}:∀{vs:List V},bW vs=true->olds n vs=true
 |[],_=>rfl
 |v::vs,h=>by
  simp only[bW,b8]at h;simp only[olds,b8];exact⟨MS h.1,A0 h.2⟩
end
section
variable{aa:Nat->Option bY}{b:Nat}{aw σ:bV}{H:Heap}{wr:List Bool}{rest:List bO}{call:cU}{ae:ag->V}
theorem wU{c:cj}{Q:X->bV->Heap->Prop}(P:X->bV->Heap->Prop)(h:eS aa b c σ H P)(k:∀x aN H',P x aN H'->Q x aN H'):eS aa b c σ H Q:=h.mono k
theorem nK{c a d:ag}{β:Bool}(h:ae c=.bool β)(oi:β=true):b2 call ae H H.length (.pick c a d)=some (ae a,H,H.length):=by rw[kG,h,oi];rfl
theorem vh{c a d:ag}{β:Bool}(h:ae c=.bool β)(oi:β=false):b2 call ae H H.length (.pick c a d)=some (ae d,H,H.length):=by rw[kG,h,oi];rfl
theorem hK{x:ag}{sh:Option Nat}{a o:Nat}{cs:List V}{v:V}(h:ae x=.ptr a o)(bj:H[a]? =some (.cells cs))(hr:fY cs o sh=some v):b2 call ae H H.length (.load sh x)=some (v,H,H.length):=by
 rw[jK,h];simp[gN,bj,hr]
theorem ahq{x i:ag}{s:bH}{k:IntKind}{n:Int}{c:UInt8}(h:ae x=.str s)(hi:ae i=.int k n)(hx:bQ s n=some c)(low:Nat):b2 call ae H low (.qw x i)=some (.int .u8 c.toNat,H,low):=by
 show step ae H low (.qw x i)=_;unfold bQ at hx;split at hx
 ·rename_i hn
  simp_all [step,kr]
 ·cases hx
theorem ahr{z:List V}{parts:List (Nat × Nat × ag)}{cs:List V}(h:uj z (parts.map fun p=>(p.1,p.2.1,ae p.2.2))=some cs):b2 call ae H H.length (.build z parts)=some (.agg cs,H,H.length):=by
 show step ae H H.length (.build z parts)=_;simp only[step,h];rfl
theorem tj:∀{vs:List V} {low:Nat},bW vs=true->dX H low vs=some (vs,H,low)
 |[],_,_=>rfl
 |v::r,low,h=>by
  simp only[bW,b8]at h;simp only[dX,eP,dF,h.1,if_true,tj h.2]
theorem yJ{d:Option (Nat × Bool)}{g:Option (ag × Bool)}{z:List V}{Q:bV->Heap->List Bool->Prop}{ms:cN}(hw:gJ aw σ g=some true)(aA:Own H ms)
  (k:∀H' a,b<=a->Own H' ([(a,.cells z)]::ms)->Op aa b rest (fV aw d (.ptr a 0)) (fW σ d (.ptr a 0)) H' (true::wr) Q):Op aa b (⟨d,.alloc z,g⟩::rest) aw σ H wr Q:=by
 intro aG av low h1 h2 ar aQ;exact nI (o:=⟨d,.alloc z,g⟩) (mv:=true) hw (fun hb=>⟨by simp;omega,H.length,hb,mc z,by simp[eG]⟩) (k _ _ aQ (aA.grow _)) aG av low h1 h2 ar aQ
theorem MT{d:Option (Nat × Bool)}{g:Option (ag × Bool)}{x:ag}{cs:List V}{Q:bV->Heap->List Bool->Prop}{ms:cN}(hw:gJ aw σ g=some true)(aA:Own H ms)(hx:aE (bN aw σ x)=cs)(hc:bS cs=true)
  (k:∀H' a,b<=a->Own H' ([(a,.cells cs)]::ms)->Op aa b rest (fV aw d (.ptr a 0)) (fW σ d (.ptr a 0)) H' (true::wr) Q):Op aa b (⟨d,.box x,g⟩::rest) aw σ H wr Q:=by
 intro aG av low h1 h2 ar aQ;exact nI (o:=⟨d,.box x,g⟩) (mv:=true) hw (fun hb=>⟨by simp;omega,H.length,hb,by simp only[];rw[nH,hx,if_pos hc],by simp[eG]⟩) (k _ _ aQ (aA.grow _)) aG av low h1 h2 ar aQ
theorem VU{d:Option (Nat × Bool)}{g:Option (ag × Bool)}{Q:bV->Heap->List Bool->Prop}{ms:cN}(hw:gJ aw σ g=some true)(aA:Own H ms)
  (k:∀H' a,b<=a->Own H' ([(a,.map [])]::ms)->Op aa b rest (fV aw d (.map a)) (fW σ d (.map a)) H' (true::wr) Q):Op aa b (⟨d,.mkMap,g⟩::rest) aw σ H wr Q:=by
 intro aG av low h1 h2 ar aQ;exact nI (o:=⟨d,.mkMap,g⟩) (mv:=true) hw (fun hb=>⟨by simp;omega,H.length,hb,TX,by simp[eG]⟩) (k _ _ aQ (aA.grow _)) aG av low h1 h2 ar aQ
theorem yK{d:Option (Nat × Bool)}{g:Option (ag × Bool)}{n o a:Nat}{x y:ag}{cs vs cs':List V}{Q:bV->Heap->List Bool->Prop}{ms:cN}(hw:gJ aw σ g=some true)(aA:Own H ms)(k:Nat)
  (cW:ms[k]? =some [(a,.cells cs)]) (hb:b<=a) (hx:bN aw σ x=.ptr a o) (hy:aE (bN aw σ y)=vs) (hn:vs.length=n/\o+n<=cs.length) (hc:bS vs=true) (hs:setCells cs o vs=cs')
  (cA:∀H',Own H' (ms.set k [(a,.cells cs')])->Op aa b rest (fV aw d .undef) (fW σ d .undef) H' (true::wr) Q):Op aa b (⟨d,.store n x y,g⟩::rest) aw σ H wr Q:=by
 have bj:=aA.get k cW;have aX:=wT bj;refine nI (o:=⟨d,.store n x y,g⟩) (mv:=true) (H1:=H.set a (.cells cs')) hw (fun cY=>⟨by simpa using cY,a,hb,?_,by simp[eG,aX]⟩) (cA _ (aA.put k cW));simp only[jL,hx,hD,bj,hy];rw[if_pos ⟨hn.1,by omega,hc⟩];subst hs;simp[xI aX]
theorem wV{f:ag}{aO:List ag}{fv v:V}{vs:List V}(hc:call fv vs H=some (v,H,H.length))(aT:dX H H.length vs=some (vs,H,H.length))(ao:aO.map ae=vs)(ab:ae f=fv):b2 call ae H H.length (.call false f aO)=some (v,H,H.length):=by
 subst ao;subst ab;rw[k3,aT];simp[hc]
theorem ahs{low:Nat}:dX H low []=some ([],H,low):=rfl
theorem VV{low:Nat}{v:V}{vs:List V}(h:bs v=true)(r:dX H low vs=some (vs,H,low)):dX H low (v::vs)=some (v::vs,H,low):=by
 simp only[dX,eP,dF,h,if_true,r]
theorem VW{low:Nat}{v:V}{vs:List V}(h:∀H low,eP H low v=some (v,H,low))(r:dX H low vs=some (vs,H,low)):dX H low (v::vs)=some (v::vs,H,low):=by
 simp only[dX,h,r]
theorem MU{es:Nat}{z:V}:∀(vs pre:List V),(∀v∈vs,(aE v).length=es/\bS (aE v)=true)->oK es (pre++List.replicate vs.length z) ((List.range' pre.length vs.length).zip vs)=some (pre++vs)
 |[],pre,_=>by simp[oK]
 |v::vs,pre,h=>by
  have ad:=h v (by simp);simp only[ev,ub,zQ,oK];rw[if_pos ⟨ad.1,by simp,ad.2⟩]
  have e:(pre++List.replicate (vs.length+1) z).set pre.length v=(pre++[v])++List.replicate vs.length z:=by
   rw[Ca];simp
  rw[e];have:=MU (es:=es) (z:=z) vs (pre++[v]) (fun u hu=>h u (by simp[hu]));simp only[gM,ev,ja,eO]at this;rw[this];simp
theorem VX{es n:Nat}{z vs:List V}{parts:List (Nat × ag)}(ad:(parts.map fun p=>ae p.2)=vs)(hi:parts.map Prod.fst=List.range' 0 vs.length)(hn:vs.length=n)(h0:(n=0)=False)(hp:bW vs=true)(hc:∀v∈vs,(aE v).length=es/\bS (aE v)=true):
  b2 call ae H H.length (.lit es z n parts true)=some (.list es vs,H,H.length):=by
 have aT:(parts.zip vs).map (fun(p,v)=>(p.1,v))=(List.range' 0 vs.length).zip vs:=by
  rw[<-hi];clear hi hp hc hn;subst ad
  induction parts with
  |nil=>rfl
  |cons p ps ih=>simp[ih]
 have ab:=MU (es:=es) (z:=kT z) vs [] hc;simp only[jB,ja]at ab;rw[Dv];simp only[step,ad,tj hp];rw[aT,<-hn,ab];simp only[hp,if_true,hn,h0,if_false]
theorem aht{es:Nat}{z:List V}{x:V}(h:x=V.emp):b2 call ae H H.length (.lit es z 0 [] true)=some (x,H,H.length):=by
 rw[Dv,h];simp[step,dX,oK,bW]
def yL (ae:ag->V)(x:Option ag)(Kt a:Int):Prop:=(x=none/\a=Kt)\/∃o,x=some o/\ae o=aD a
theorem yL.eq{x:Option ag}{d a:Int}(h:yL ae x d a){n:Nat}(hd:d=n)(ao:0<=a):eF ae n x=some a.toNat:=by
 rcases h with⟨rfl,rfl⟩|⟨o,rfl,e⟩
 ·subst hd;rfl
 ·simp[eF,e,kr,ao]
theorem yM{α:Type}{es:Nat}{f:α->V}{s al:ak α}{x:ag}{lo hi:Option ag}{a c:Int}(hs:o8 s a c=some al)(ao:yL ae lo 0 a)(hc:yL ae hi s.len c)(h:ae x=bg es f s):b2 call ae H H.length (.pw es x lo hi none)=some (bg es f al,H,H.length):=by
 rw[TY];cases s with
 |nil=>
  simp only[o8]at hs;split at hs
  ·rename_i q;obtain⟨rfl,rfl⟩:=q;cases hs
   simp only[step,h,bg];rw[ao.eq (n:=0) rfl (Int.le_refl _),hc.eq (n:=0) rfl (Int.le_refl _)];rfl
  ·cases hs
 |emp=>
  simp only[o8]at hs;split at hs
  ·rename_i q;obtain⟨rfl,rfl⟩:=q;cases hs
   simp only[step,h,bg];rw[ao.eq (n:=0) rfl (Int.le_refl _),hc.eq (n:=0) rfl (Int.le_refl _)];rfl
  ·cases hs
 |mk l=>
  simp only[o8]at hs;split at hs
  ·rename_i q;obtain⟨q1,aS,b1⟩:=q;cases hs
   have af:=ao.eq (n:=0) rfl q1;have e2:=hc.eq (n:=(l.map f).length) (by simp[ak.len,ak.l]) (by omega);simp only[step,h,bg,af,e2];rw[if_pos ⟨by omega,by simp;omega,trivial⟩];simp
  ·cases hs
theorem Hw{s al:bH}{x:ag}{lo hi:Option ag}{a c:Int}(hs:q0 s a c=some al)(ao:yL ae lo 0 a)(hc:yL ae hi (s.length:Int) c)(h:ae x=.str s):b2 call ae H H.length (.oI x lo hi)=some (.str al,H,H.length):=by
 show step ae H H.length (.oI x lo hi)=_;unfold q0 at hs;split at hs
 ·rename_i q;obtain⟨q1,aS,b1⟩:=q;cases hs
  simp only[step,h,ao.eq (n:=0) rfl q1,hc.eq (n:=s.length) rfl (by omega)];rw[if_pos ⟨by omega,by omega⟩]
 ·cases hs
theorem jr.cells{b es:Nat}{v:V}{s:ak V}{m:List (Nat × cc)}(h:jr b es v s m):aE v=[v]:=by cases h<;>rfl
theorem jr.ed{b es:Nat}{v:V}{s:ak V}{m:List (Nat × cc)}(h:jr b es v s m):Abs.ed v=true:=by cases h<;>rfl
theorem wW{α:Type}(es:Nat)(f:α->V)(s:ak α):elems H es (bg es f s)=some (s.l.map f):=by cases s<;>simp[elems,bg,ak.l]
theorem A1{α:Type}{f:α->V}(h:∀a,bs (f a)=true):∀l:List α,bW (l.map f)=true
 |[]=>rfl
 |a::l=>by simp[bW,h a,A1 h l]
theorem Hx{α:Type}{f:α->V}(h:∀a,bS (aE (f a))=true):∀l:List α,bS ((l.map f).flatMap aE)=true
 |[]=>rfl
 |a::l=>by
  have app:∀x y:List V,bS (x++y)=(bS x&&bS y):=fun x y=>by
   induction x with
   |nil=>simp[bS]
   |cons c x ih=>simp[bS,ih,Cf]
  simp[app,h a,Hx h l]
theorem VY{α:Type}{es bytes:Nat}{f:α->V}{s y al:ak α}{d:Option (Nat × Bool)}{g:Option (ag × Bool)}{iV lj:ag}{ek:V}{m:List (Nat × cc)}{Q:bV->Heap->List Bool->Prop}{ms:cN}(hw:gJ aw σ g=some true)(k:Nat)
  (hs:lG bytes s y=some al) (aA:Own H ms) (cW:ms[k]? =some m) (hr:hf b es f ek s m) (ao:bN aw σ iV=ek) (hb:bN aw σ lj=bg es f y) (hp:∀a,bs (f a)=true) (hc:∀a,bS (aE (f a))=true)
  (cA:∀H' v' m' mv,hf b es f v' al m'->Own H' (ms.set k m')->Op aa b rest (fV aw d v') (fW σ d v') H' (mv::wr) Q):Op aa b (⟨d,.append es bytes iV lj,g⟩::rest) aw σ H wr Q:=by
 intro aG av low h1 h2 ar aQ
 have tc:ms.set k m=ms:=by
  apply wg;intro i;by_cases e:k=i
  ·subst e;rw[nU (pY.1 cW).1,cW]
  ·rw[gm e]
 have hfz:dX H H.length (y.l.map f)=some (y.l.map f,H,H.length):=tj (A1 hp _);have yN:=Hx hc y.l;unfold lG at hs;by_cases hy:y.l=[]
 ·rw[if_pos hy]at hs
  cases hs;refine nI (o:=⟨d,.append es bytes iV lj,g⟩) (mv:=false) (v:=ek) (H1:=H) hw (fun cY=>⟨cY,H.length,cY,?_,iT H⟩) (cA H ek m false hr (by rw[tc];exact aA)) aG av low h1 h2 ar aQ;rw[th];simp only[step,hb,wW];rw[hfz,hy];simp only[mT,List.isEmpty_nil,if_true,ao];have gu:jr b es ek (s.map f) m:=hr;generalize vi:s.map f=k5 at gu;cases gu with
  |nil=>rfl
  |emp=>rfl
  |row l ds h j1=>simp[aA.get k cW]
 ·rw[if_neg hy]at hs
  split at hs
  ·rename_i e4
   cases hs
   have bf:(y.l.map f).isEmpty=false:=by cases MV:y.l with
    |nil=>exact absurd MV hy
    |cons=>rfl
   have yO:(bS ((y.l.map f).flatMap aE)=false)=False:=by rw[yN];simp
   have gu:jr b es ek (s.map f) m:=hr;generalize vi:s.map f=k5 at gu;cases gu with
   |nil=>
    have gY:s.l=[]:=by cases s<;>simp_all [ak.map,ak.l]
    have yP:(y.l.map f).length*(bytes+1)<=2^40:=by simpa[gY]using e4
    refine nI (o:=⟨d,.append es bytes iV lj,g⟩) (mv:=true) (v:=.cz H.length es 0 (y.l.map f).length (y.l.map f).length) (H1:=H++[.row es (y.l.map f) false]) hw
     (fun cY=>⟨by simp;omega,H.length,cY,?_,by simp[eG]⟩) (cA _ _ [(H.length,.row es (y.l.map f) false)] true ?_ (aA.fill k cW)) aG av low h1 h2 ar aQ
    ·rw[th]
     simp only[step,hb,wW];rw[hfz];simp only[bf,hY,if_false,yO,ao,yP,if_true]
    ·simp only[gY,jB,ak.map]
     exact .row _ _ (by simpa using hy) aQ
   |emp=>
    have gY:s.l=[]:=by cases s<;>simp_all [ak.map,ak.l]
    have yP:(y.l.map f).length*(bytes+1)<=2^40:=by simpa[gY]using e4
    refine nI (o:=⟨d,.append es bytes iV lj,g⟩) (mv:=true) (v:=.cz H.length es 0 (y.l.map f).length (y.l.map f).length) (H1:=H++[.row es (y.l.map f) false]) hw
     (fun cY=>⟨by simp;omega,H.length,cY,?_,by simp[eG]⟩) (cA _ _ [(H.length,.row es (y.l.map f) false)] true ?_ (aA.fill k cW)) aG av low h1 h2 ar aQ
    ·rw[th]
     simp only[step,hb,wW];rw[hfz];simp only[bf,hY,if_false,yO,ao,yP,if_true]
    ·simp only[gY,jB,ak.map]
     exact .row _ _ (by simpa using hy) aQ
   |row l ds hd j1=>
    have gY:s.l.map f=ds:=by cases s<;>simp_all [ak.map,ak.l]
    have hlen:s.l.length=ds.length:=by rw[<-gY,oG]
    have bj:=aA.get k cW;have aX:=wT bj
    refine nI (o:=⟨d,.append es bytes iV lj,g⟩) (mv:=true) (v:=.cz l es 0 (ds++y.l.map f).length (ds++y.l.map f).length) (H1:=H.set l (.row es (ds++y.l.map f) false)) hw
     (fun cY=>⟨by simpa using cY,l,j1,?_,by simp[eG,aX]⟩) (cA _ _ [(l,.row es (ds++y.l.map f) false)] true ?_ (aA.put k cW)) aG av low h1 h2 ar aQ
    ·rw[th]
     simp only[step,hb,wW];rw[hfz];simp only[bf,hY,if_false,yO,ao,bj,gM];rw[if_pos ⟨trivial,trivial,trivial,trivial,trivial,by rw[hlen]at e4;simpa using e4⟩,uc (xI aX)]
     done
    ·show jr b es _ (.mk ((s.l++y.l).map f)) _
     rw[nW,gY];exact .row _ _ (by simp[hd]) j1
  ·cases hs
def vj:Nat->List V->bV
 | _,[]=>mL
 |i,v::r=>up (vj (i+1) r) i v
theorem MW:∀(i:Nat) (vs:List V),Fits (fQ i vs) (vj i vs)
 | _,[]=>sb
 |i,v::r=>VP (MW (i+1) r) i v
inductive sd (σ:bV) (H:Heap):List mB->List V->Prop
 |nil:sd σ H [] []
 |tmp {t:Nat} {v:V} {rs:List mB} {vs:List V} (h:σ t=v) (r:sd σ H rs vs):sd σ H (.tmp t::rs) (v::vs)
 |cell {a l o:Nat} {sh:Option Nat} {cs:List V} {v:V} {rs:List mB} {vs:List V} (h:σ a=.ptr l o) (bj:H[l]? =some (.cells cs)) (hr:fY cs o sh=some v) (r:sd σ H rs vs):sd σ H (.cell a sh::rs) (v::vs)
theorem sd.eq{av:Env}(ab:Fits av σ):∀{rs:List mB} {vs:List V},sd σ H rs vs->fy av H rs=some vs
 | _,_,.nil=>rfl
 | _,_,.tmp h r=>by simp only[fy,hE,r.eq ab,ab _,h]
 | _,_,.cell h bj hr r=>by simp only[fy,hE,ab _,h,gN,bj,hr,r.eq ab]
@[simp] theorem ats {α : Type} {es : Nat} {f : α -> V} {s : ak α} {l n : Nat} : bs (.cz l es 0 n n) = false := rfl
def mh (b n:Nat)(ms:cN)(v v':V)(fO:cN):Prop:=∀H low,Own H ms->b<=low->∃H' low',dF n H low v=some (v',H',low')/\Own H' fO/\b<=low'
def nL (b n:Nat)(ms:cN)(vs vs':List V)(fO:cN):Prop:=∀H low,Own H ms->b<=low->∃H' low',kq (dF n) H low vs=some (vs',H',low')/\Own H' fO/\b<=low'
theorem mh.plain{n:Nat}{ms:cN}{v:V}(h:bs v=true):mh b n ms v v ms:=fun H low aA hb=>⟨H,low,by cases n<;>simp[dF,h],aA,hb⟩
theorem nL.nil{n:Nat}{ms:cN}:nL b n ms [] [] ms:=fun H low aA hb=>⟨H,low,rfl,aA,hb⟩
theorem nL.cons{n:Nat}{ms VZ V0:cN}{v v':V}{vs vs':List V}(h:mh b n ms v v' VZ)(r:nL b n VZ vs vs' V0):nL b n ms (v::vs) (v'::vs') V0:=fun H low aA hb=>by
 obtain⟨H1,bI,af,hg,dm⟩:=h H low aA hb;obtain⟨H2,c5,e2,ahu,gy⟩:=r H1 bI hg dm;exact⟨H2,c5,by simp only[kq,af,e2],ahu,gy⟩
theorem mh.aU{n:Nat}{ms fO:cN}{vs vs':List V}(h:nL b n ms vs vs' fO)(hp:bW vs=false):mh b (n+1) ms (.aU vs) (.aU vs') fO:=fun H low aA hb=>by
 obtain⟨H1,bI,af,hg,dm⟩:=h H low aA hb;exact⟨H1,bI,by simp only[dF,bs,hp,hY,if_false,af],hg,dm⟩
theorem mh.agg{n:Nat}{ms fO:cN}{vs vs':List V}(h:nL b n ms vs vs' fO)(hp:bW vs=false):mh b (n+1) ms (.agg vs) (.agg vs') fO:=fun H low aA hb=>by
 obtain⟨H1,bI,af,hg,dm⟩:=h H low aA hb;exact⟨H1,bI,by simp only[dF,bs,hp,hY,if_false,af],hg,dm⟩
def pP (m:List (Nat × cc)):List (Nat × cc):=m.map fun p=>(p.1,match p.2 with| .row es ds _=>.row es ds true|o=>o)
theorem mh.row{α:Type}{n es:Nat}{f:α->V}{s:ak α}{v:V}{m:List (Nat × cc)}{ms:cN}(k:Nat)(cW:ms[k]? =some m)(hr:hf b es f v s m)(hp:∀a,bs (f a)=true):mh b (n+1) ms v (bg es f s) (ms.set k (pP m)):=fun H low aA hb=>by
 have tc:∀m',m'=m->ms.set k m'=ms:=fun m' hm=>by
  apply wg;intro i;by_cases e:k=i
  ·subst e;rw[nU (pY.1 cW).1,cW,hm]
  ·rw[gm e]
 rw[ahp];have gu:jr b es v (s.map f) m:=hr;generalize vi:s.map f=k5 at gu;clear hr;cases gu with
 |nil=>exact⟨H,low,rfl,by rw[tc (pP []) rfl];exact aA,hb⟩
 |emp=>exact⟨H,low,rfl,by rw[tc (pP []) rfl];exact aA,hb⟩
 |row l ds h j1=>
  have sX:bW ds=true:=by
   cases s<;>simp[ak.map]at vi;rw[<-vi];exact A1 hp _
  refine⟨H.set l (.row es ds true),min low l,?_,aA.put k cW,by omega⟩;simp[dF,bs,aA.get k cW,sX,bg]
def one:List V->V
 |[x]=>x
 |us=>.aU us
def Hy (rs:List mB)(σ:bV)(H:Heap)(b:Nat)(v:V):Prop:=
 ∃(us:List V) (u:V) (ms fO:cN),sd σ H rs us/\one us=u/\Own H ms/\mh b 16 ms u v fO
theorem MX{rs:List mB}{us:List V}{v:V}(h:sd σ H rs us)(he:one us=v)(hp:bs v=true):Hy rs σ H b v:=
 ⟨us,v,[],[],h,he,.nil H,.plain hp⟩
theorem MY{rs:List mB}{us:List V}{u v:V}{ms fO:cN}(h:sd σ H rs us)(he:one us=u)(aA:Own H ms)(hp:mh b 16 ms u v fO):Hy rs σ H b v:=
 ⟨us,u,ms,fO,h,he,aA,hp⟩
theorem MZ{i:Nat}{f:h3}{args caps:List V}{v:V}(cZ:aa i=some (.code f))(hl:(args++caps).length<=f.xM)(er:f.fresh=false)
  (h:eS aa H.length f.body (vj 0 (args++caps)) H fun x aN H'=>(x=.normal\/x=.ret)/\Hy f.results aN H' H.length v) (hp:bs v=true):
  bZ aa (.fn i [] caps) args H=some (v,H,H.length):=by
 obtain⟨x,dD,H',low',aN,af,e2,bT,cF,ej,us,u,ms,fO,j2,wX,ahv,uD⟩:=h _ H.length (MW 0 _) (aK _) (aK _);obtain⟨H2,c5,b9,-,eD⟩:=uD H' low' ahv bT;have cS:=j2.eq e2;have hold:old H.length v=true:=MS hp
 have iF:∀w,w=u->finish f.fresh H w H' low'=some (v,H,H.length):=fun w hw=>by
  subst hw;rw[er];unfold finish;split
  ·simp_all
  ·simp only[eP,b9,eD,hold,and_self,if_true]
 rw[mE,cZ];simp only[jB,fZ];rw[if_pos hl,af];rcases ej with rfl|rfl
 ·simp only[cS]
  match us,wX with
  |[w],hu=>exact iF w hu
  |[],hu=>exact iF _ hu
  |a::b::r,hu=>exact iF _ hu
 ·simp only[cS]
  match us,wX with
  |[w],hu=>exact iF w hu
  |[],hu=>exact iF _ hu
  |a::b::r,hu=>exact iF _ hu
end
end Go.Abs
