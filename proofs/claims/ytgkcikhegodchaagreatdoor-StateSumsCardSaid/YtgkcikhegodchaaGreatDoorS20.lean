/- Texts of this claim, joined and written short by a program. -/
import Derived.Test.YtgkcikhegodchaaGreatDoorS09
import Derived.Test.YtgkcikhegodchaaGreatDoorS02
import Derived.Tactics
import Derived.Tactics2
import Derived.Defers
import Derived.Recover
import Derived.Laws.Pointers
import Derived.TacticsInMore
import Derived.RegionIn
import Derived.LoopNIn
import Derived.RecoverIn
import Derived.Shelf.Strings.OnBuilder
import Derived.Shelf.Strings.Trim
import Derived.Shelf.Small.Bits
import Derived.Shelf.Small.Strs
import Derived.Shelf.Strconv.Atoi
import Derived.Shelf.Strconv.Itoa3
import Derived.Shelf.Strings.Fields
import Derived.Test.YtgkcikhegodchaaGreatDoorProg
import Derived.Lib.ItoaNum
import Derived.Below
import Derived.Test.YtgkcikhegodchaaGreatDoorS10
import Derived.Test.YtgkcikhegodchaaGreatDoorS08
import Derived.Test.YtgkcikhegodchaaGreatDoorS00
set_option linter.unusedVariables false
set_option linter.unusedSimpArgs false
set_option linter.unusedSectionVars false
namespace Go.Abs.bs
open Go Go.Abs Go.Proofs
set_option maxRecDepth 100000
theorem ZI (caps:Array Value):Ig Tryz.prog {target:=.fn (.func 496) caps,args:= #[]}:=by
 refine⟨_,caps,496,caps,rfl,fun w=>⟨by simp[invoke,go_sem],?_⟩⟩;refine callsDIn_of_wpSIn Tryz.func496 rfl trivial fun az0 cs hu=> ?_;have hn:Tryz.f496.ntmps=18:=by kernel_rfl
 rw[hn];generalize hT:caps++Array.replicate (18-caps.size) undef=T;have hs:18<=T.size:=by rw[<-hT,yB,Array.size_replicate];omega
 clear hT;apply wpSIn_seq;apply wpSIn_region;simp[wpOpsSIn,go_sem,recoverD,hu,Exit.thenS];apply wpSIn_seq;apply wpSIn_region;have az1:∀(A:Array Value) (i:Nat),A.getD i undef=(A[i]?).getD undef:=fun A i=>w8 ..;have h1:1<T.size:=by omega
 have aR:4<T.size:=by omega
 have h5:5<T.size:=by omega
 have eo:6<T.size:=by omega
 simp[wpOpsSIn,go_sem,Exit.thenS,Act.eval,Act.put,Array.getElem?_setIfInBounds,h1,aR,h5,eo];refine wpSIn_cond (t:=false) (by simp[Act.eval,Array.getElem?_setIfInBounds,h1,aR,h5,eo]) ?_;simp only[fE,if_false];refine wpSIn_of_wpIn rfl (wpIn_skip ?_);have hr:Tryz.f496.results= #[]:=by kernel_rfl
 have az2:Tryz.f496.resultTypes= #[]:=by kernel_rfl
 simp_all [bodyPostS,results];rw[<-hu]
theorem E7{g:Nat->Option Obj}:eW (C g) id:=⟨fun f i h=>by cases h;rfl,fun i hi caps=>by
 have qN:i∈[496]:=hi;simp only[dp,rE,or_false]at qN;subst qN;exact ZI caps⟩
theorem Jl{g:Nat->Option Obj}:eW (A g) id:=⟨fun f i h=>by cases h;rfl,fun i hi caps=>by
 have qN:i∈[496]:=hi;simp only[dp,rE,or_false]at qN;subst qN;exact ZI caps⟩
theorem Jm{g:Nat->Option Obj}:(A g).P.follows .mixedOrders=true:=by kernel_rfl
theorem mixed{g:Nat->Option Obj}:(C g).P.follows .mixedOrders=true:=by kernel_rfl
end Go.Abs.bs
namespace Go.Proofs
open Go.Shelf
def Tryz.Jn:Go.Shelf.Ren:=⟨fun|156=>238|165=>361|166=>59|169=>63|240=>132|241=>422|276=>237|277=>472|n=>n,fun|31=>24|9=>9|3=>3|4=>4|0=>0|20=>20|72=>133|76=>136|70=>130|37=>131|75=>135|127=>235|164=>305|5=>5|80=>141|n=>n,fun|n=>n⟩
theorem Tryz.ZJ:Go.Proofs.Lays.n156 Tryz.prog Tryz.Jn:=by constructor<;>intros<;>kernel_rfl
theorem Tryz.Jo:Builder.Extra Tryz.prog Tryz.Jn:={
 sizeBuilder:=by kernel_rfl
 liesBuilder:=by kernel_rfl
 t5:=Tryz.underlying5
 a5:=Tryz.isAgg5
 z5:=Tryz.sizeOf5
 v5:=Tryz.zeroValue5
 infoByte:=by kernel_rfl
 cellsByte:=by kernel_rfl
 sizeByte:=by kernel_rfl
 neB5:=by decide}
theorem Tryz.alM:Go.Proofs.Lays.n169 Tryz.prog Tryz.Jn:=by constructor<;>intros<;>kernel_rfl
theorem Tryz.alN:Go.Proofs.Lays.n240 Tryz.prog Tryz.Jn:=by constructor<;>intros<;>kernel_rfl
open Go.RowKit in
theorem Tryz.strings_Join_none (a:Option Addr)(c:Nat)(sep:ByteArray)(w:World):
 Calls Tryz.prog 238 #[.slice a 0 c,.string sep] w fun e w'=>e=.returned (.string ⟨#[]⟩)/\w'=w:=Any.strings_Join_none Tryz.ZJ Tryz.Jo a c sep w
open Go.RowKit in
theorem Tryz.strings_Join (Jp o c:Nat)(xs:List ByteArray)(sep:ByteArray)(w:World)(vi:∀(j:Nat) x,xs[j]? =some x->w.cell? ⟨Jp,o+j,none⟩=some (.string x))(E4:Jp<w.heap.size)(jk:xs.length<=140737488355328)(ec:xs.length<=c)(hlen:(Lib.join (xs.map (·.data.toList)) sep.data.toList).length<=140737488355328):
 Calls Tryz.prog 238 #[.slice (some ⟨Jp,o,none⟩) xs.length c,.string sep] w fun e w'=>e=.returned (.string ⟨(Lib.join (xs.map (·.data.toList)) sep.data.toList).toArray⟩)/\Below w.heap.size w w':=Any.strings_Join Tryz.ZJ Tryz.Jo Jp o c xs sep w vi E4 jk ec hlen
def Tryz.alO:Go.Shelf.Ren:=⟨fun|161=>381|231=>438|227=>439|233=>440|235=>441|228=>482|197=>483|151=>484|260=>509|152=>510|137=>371|119=>523|224=>524|225=>525|217=>435|266=>479|n=>n,fun|9=>9|4=>4|3=>3|5=>5|117=>456|116=>455|0=>0|124=>459|105=>493|21=>21|119=>447|46=>250|139=>539|138=>538|n=>n,fun|3=>8|4=>9|n=>n⟩
theorem Tryz.alP:Go.Proofs.Lays.n161 Tryz.prog Tryz.alO:=by constructor<;>intros<;>kernel_rfl
open Go.RowKit in
theorem Tryz.strings_TrimLeft_one (s:ByteArray)(c:UInt8)(hc:c.toNat<128)(w:World):
 Calls Tryz.prog 381 #[.string s,.string ⟨#[c]⟩] w fun e w'=>e=.returned (.string ⟨(Lib.trimLeftB s.data.toList c).toArray⟩)/\w'=w:=Any.strings_TrimLeft_one Tryz.alP s c hc w
def Tryz.alQ:Go.Shelf.Ren:=⟨fun|125=>166|128=>276|129=>277|n=>n,fun|46=>250|3=>3|51=>320|53=>323|4=>4|5=>5|9=>9|n=>n,fun|n=>n⟩
theorem Tryz.alR:Go.Proofs.Lays.n125 Tryz.prog Tryz.alQ:=by constructor<;>intros<;>kernel_rfl
theorem Tryz.bits_Len (x:Int)(w:World)(h0:0<=x)(h1:x<=18446744073709551615):
 Calls Tryz.prog 166 #[.int .u64 x] w fun e w'=>e=.returned (.int .i64 (Lib.bitLen x.toNat))/\w'=w:=Any.bits_Len Tryz.alR x w h0 h1
def Tryz.alS:Go.Shelf.Ren:=⟨fun|137=>371|217=>435|266=>479|n=>n,fun|9=>9|5=>5|3=>3|n=>n,fun|n=>n⟩
theorem Tryz.alT:Go.Proofs.Lays.n137 Tryz.prog Tryz.alS:=by constructor<;>intros<;>kernel_rfl
open Go.RowKit in
theorem Tryz.strings_IndexByte (s:ByteArray)(c:Int)(w:World):
 Calls Tryz.prog 371 #[.string s,.int .u8 c] w fun e w'=>e=.returned (.int .i64 (Lib.indexByte s.data.toList c.toNat.toUInt8))/\w'=w:=Any.strings_IndexByte Tryz.alT s c w
def Tryz.alU:Go.Shelf.Ren:=⟨fun|172=>241|244=>366|245=>367|247=>427|279=>428|280=>429|281=>430|282=>431|287=>475|316=>476|171=>61|205=>477|321=>500|322=>501|243=>134|246=>239|283=>362|284=>363|285=>364|286=>365|129=>277|317=>423|318=>424|319=>425|320=>426|337=>473|338=>474|n=>n,fun|9=>9|3=>3|75=>135|76=>136|4=>4|5=>5|167=>441|37=>131|0=>0|85=>442|2=>2|168=>444|53=>323|175=>480|46=>250|210=>484|127=>235|145=>513|143=>511|21=>21|171=>393|173=>395|212=>439|51=>320|20=>20|213=>440|232=>508|233=>509|80=>141|n=>n,fun|15=>2|16=>3|17=>0|18=>6|19=>7|n=>n⟩
theorem Tryz.alV:Go.Proofs.Lays.n172 Tryz.prog Tryz.alU:=by constructor<;>intros<;>kernel_rfl
open Go.RowKit in
theorem Tryz.strconv_Atoi (s:ByteArray)(n:Int)(hl:s.size<=18)(h:Lib.atoi s.data.toList=some n)(w:World):
 Calls Tryz.prog 241 #[.string s] w fun e w'=>e=.returned (.tuple #[.int .i64 n,.nilIface])/\∃t,w'=Lib.bytesWorld w 5 t:=Any.strconv_Atoi Tryz.alV s n hl h w
def Tryz.alW:Go.Shelf.Ren:=⟨fun|171=>61|243=>134|246=>239|283=>362|284=>363|285=>364|286=>365|129=>277|317=>423|318=>424|319=>425|320=>426|337=>473|338=>474|n=>n,fun|3=>3|9=>9|2=>2|4=>4|171=>393|0=>0|53=>323|37=>131|5=>5|173=>395|212=>439|51=>320|20=>20|213=>440|46=>250|232=>508|233=>509|n=>n,fun|17=>0|18=>6|19=>7|n=>n⟩
theorem Tryz.alX:Go.Proofs.LaysM.n171 Tryz.prog Tryz.alW:=by constructor<;>intros<;>first|kernel_rfl|(constructor<;>intros<;>kernel_rfl)
open Go.RowKit Go.Sort Go.Lib in
theorem Tryz.strconv_Itoa (n:Int)(h0:-9223372036854775808<=n)(h1:n<=9223372036854775807)(w:World)(nV:Lib.TabIs Tryz.prog w "internal/strconv.uint64pow10" .u64 Lib.pow10Tab):
 Calls Tryz.prog 61 #[.int .i64 n] w fun e w'=>e=.returned (.string ⟨(Lib.itoa n).toArray⟩)/\∃k os,w'=grow (w.drewN k) os:=Any.strconv_Itoa Tryz.alX n h0 h1 w nV
def Tryz.alY:Go.Shelf.Ren:=⟨fun|171=>61|243=>134|246=>239|283=>362|284=>363|285=>364|286=>365|129=>277|317=>423|318=>424|319=>425|320=>426|337=>473|338=>474|n=>n,fun|3=>3|9=>9|2=>2|4=>4|171=>393|0=>0|53=>323|37=>131|5=>5|173=>395|212=>439|51=>320|20=>20|213=>440|46=>250|232=>508|233=>509|n=>n,fun|17=>0|18=>6|19=>7|n=>n⟩
theorem Tryz.alZ:Go.Proofs.Lays.n171 Tryz.prog Tryz.alY:=by constructor<;>intros<;>kernel_rfl
open Go.RowKit Go.Sort Go.Lib in
theorem Tryz.strconv_Itoa_small (i:Nat)(hi:i<100)(w:World):
 Calls Tryz.prog 61 #[.int .i64 i] w fun e w'=>e=.returned (.string ⟨(Lib.decDigits i).toArray⟩)/\w'=w:=Any.strconv_Itoa_small Tryz.alZ i hi w
def Tryz.al0:Go.Shelf.Ren:=⟨fun|157=>368|229=>432|199=>433|261=>478|311=>502|312=>503|n=>n,fun|9=>9|31=>24|3=>3|5=>5|4=>4|119=>447|0=>0|40=>449|152=>486|21=>21|154=>488|51=>320|141=>490|196=>517|193=>514|198=>520|49=>518|194=>515|201=>523|226=>535|46=>250|227=>536|n=>n,fun|0=>1|6=>4|n=>n⟩
theorem Tryz.al1:Go.Proofs.Lays.n157 Tryz.prog Tryz.al0:=by constructor<;>intros<;>kernel_rfl
open Go.RowKit Go.Lib in
theorem Tryz.strings_Fields (s:ByteArray)(w:World)(hs:s.size<4294967281)(al2:∀(j:Nat) b,s.data.toList[j]? =some b->b.toNat<128)(nV:Lib.TabIs Tryz.prog w "strings.asciiSpace" .u8 Lib.asciiSpaceTab):
 Calls Tryz.prog 368 #[.string s] w fun e w'=>
  e=.returned (.slice (some ⟨w.heap.size,0,none⟩) (Lib.fields s.data.toList).length (Lib.fields s.data.toList).length)/\w'=w.alloc (.cells ((Lib.fields s.data.toList).map fun l=>Value.string ⟨l.toArray⟩).toArray 9):=Any.strings_Fields Tryz.al1 (by kernel_rfl) (by kernel_rfl) s w hs al2 nV
end Go.Proofs
namespace Go.Abs.bs
open Go Go.Abs Go.Proofs
variable{fid:Nat->Nat}{g:Nat->Option Obj}
set_option maxRecDepth 100000 in
theorem v7{i:Nat}{fn:Func}(ae:Tryz.prog.funcs[i]? =some fn)(hb:fn.body.isSome=true)(hn:(fn.name== "runtime.NumGoroutine")=false){R:Value->World->Prop}{xs:List Value}{w:World}
  (h:Calls Tryz.prog i ⟨xs⟩ w fun e w'=>∃x,e=.returned x/\R x w'):sZ (C g).P R ((callFunc i ⟨xs⟩).run (C g).P w):=by
 obtain⟨c,hc⟩:=Option.isSome_iff_exists.1 hb;rw[Cc (C:=C g) ae hc hn];exact h
theorem xN{w:World}{I:Nat->Prop}{s:List UInt8}{x:Value}(h:fG w I (.str s) x):x=.string ⟨⟨s⟩⟩:=by cases h;rfl
theorem ZK:Tryz.f238.body.isSome=true:=by kernel_rfl
theorem ZL:(Tryz.f238.name== "runtime.NumGoroutine")=false:=by kernel_rfl
theorem al3:Tryz.f371.body.isSome=true:=by kernel_rfl
theorem al4:(Tryz.f371.name== "runtime.NumGoroutine")=false:=by kernel_rfl
theorem al5:Tryz.f241.body.isSome=true:=by kernel_rfl
theorem al6:(Tryz.f241.name== "runtime.NumGoroutine")=false:=by kernel_rfl
theorem al7:Tryz.f368.body.isSome=true:=by kernel_rfl
theorem al8:(Tryz.f368.name== "runtime.NumGoroutine")=false:=by kernel_rfl
theorem al9{ds:List V}{l:List (List UInt8)}(h:strs ds=some l):ds=l.map .str:=by
 induction ds generalizing l with
 |nil=>cases h;rfl
 |cons v r ih=>
  cases v<;>first|(cases h;done)|skip
  simp only[strs]at h;obtain⟨m,hm,rfl⟩:=cj.1 h;rw[ih hm];rfl
theorem ZM{w:World}{I:Nat->Prop}:∀{l:List (List UInt8)} {vals:List Value},c8 w I ((l.map V.str).flatMap aE) vals->vals=l.map fun s=>Value.string ⟨⟨s⟩⟩
 |[],vals,h=>by cases h;rfl
 |s::r,vals,h=>by
  rw[de,kd]at h;cases h with
  |cons _ x _ xs h1 h2=>
   obtain rfl:=xN h1;rw[ZM h2];rfl
set_option maxRecDepth 100000 in
theorem ama:iS (C g) id 238 DX:=by
 intro G H w args v xs U eC hs;unfold DX at hs;split at hs
 ·rename_i sep
  cases hs;cases eC with
  |cons _ x _ xs h1 gI=>
   cases gI with
   |cons _ y _ cB h2 nL=>
    cases nL;cases h1;obtain rfl:=xN h2;refine v7 Tryz.func238 ZK ZL ((Tryz.strings_Join_none none 0 _ w).mono ?_);rintro e w' ⟨rfl,rfl⟩;exact⟨_,rfl,G,U,fun m _=>.refl _ _ _ _,.p _ _ (.str [])⟩
 ·rename_i es ds sep
  split at hs
  ·rename_i l hl
   split at hs
   ·rename_i hc
    obtain⟨rfl,aZ,jZ,nP⟩:=hc;cases hs;obtain rfl:=al9 hl;cases eC with
    |cons _ x _ xs h1 gI=>
     cases gI with
     |cons _ y _ cB h2 nL=>
      cases nL;obtain rfl:=xN h2;generalize n2:l.map V.str=D at h1;cases h1 with
      |ve _ a cap=>exact absurd (List.map_eq_nil_iff.1 n2) aZ
      |list _ _ b o cap vals bk fe hu hr amb=>
       subst n2;obtain rfl:=ZM hr;have zG:((l.map fun s=>(⟨⟨s⟩⟩:ByteArray)).map (·.data.toList))=l:=by rw[kR];exact List.map_id l
       have hj:=Tryz.strings_Join b o cap (l.map fun s=>⟨⟨s⟩⟩) ⟨⟨sep⟩⟩ w (fun j y hy=>by
        refine fe j _ ?_;simp only[h8]at hy⊢;cases aO:l[j]? with
        |none=>rw[aO]at hy;cases hy
        |some z=>rw[aO]at hy;cases hy;rfl) (U.c0 b bk).1 (by simp;omega) (by simpa using amb) (by rw[zG];simp only[Mf];omega)
       rw[zG]at hj;simp only[ef]at hj⊢;refine v7 Tryz.func238 ZK ZL (hj.mono ?_);rintro e w' ⟨rfl,hb⟩;exact⟨_,rfl,G,U.restore hb.size hb.block,fun m _=>.restore hb.size hb.block hb.os hb.output m _,.p _ _ (.str (Lib.join l sep))⟩
   ·cases hs
  ·cases hs
 ·cases hs
theorem ZN:Tryz.f61.body.isSome=true:=by kernel_rfl
theorem ZO:(Tryz.f61.name== "runtime.NumGoroutine")=false:=by kernel_rfl
set_option maxRecDepth 100000 in
theorem amc (nV:∀(G:bT) (H:Heap) (w:World),aX (C g) id G H w->Lib.TabIs Tryz.prog w "internal/strconv.uint64pow10" .u64 Lib.pow10Tab):iS (C g) id 61 DY:=by
 intro G H w args v xs U eC hs;unfold DY at hs;split at hs
 ·rename_i n
  split at hs
  ·rename_i hn
   cases hs;obtain⟨k,rfl⟩:=HD hn.1;cases eC with
   |cons _ x _ xs h1 gI=>
    cases gI;cases h1;have hk:k<10:=by omega
    refine v7 Tryz.func61 ZN ZO ((Tryz.strconv_Itoa_small k (by omega) w).mono ?_);rintro e w' ⟨rfl,rfl⟩;rw[Lib.decDigits_one hk];exact⟨_,rfl,G,U,fun m _=>.refl _ _ _ _,.p _ _ (.str _)⟩
  ·split at hs
   ·rename_i hn
    cases hs;cases eC with
    |cons _ x _ xs h1 gI=>
     cases gI;cases h1;refine v7 Tryz.func61 ZN ZO ((Tryz.strconv_Itoa n (by omega) (by omega) w (nV G H w U)).mono ?_);rintro e w' ⟨rfl,q,os,rfl⟩;have dk:w.heap.size<=(Sort.grow (w.drewN q) os).heap.size:=by simp[Sort.grow,World.drewN]
     have hk:∀b,b<w.heap.size->(Sort.grow (w.drewN q) os).heap[b]? =w.heap[b]? :=fun b hb=>by
      simp only[Sort.grow,World.drewN];rw[SU hb]
     exact⟨_,rfl,G,U.restore dk hk,fun m _=>.restore dk hk rfl rfl m _,.p _ _ (.str _)⟩
   ·cases hs
 ·cases hs
set_option maxRecDepth 100000 in
theorem ZP:iS (C g) id 371 yX:=by
 intro G H w args v xs U eC hs;unfold yX at hs;split at hs
 ·rename_i s c
  cases hs;cases eC with
  |cons _ x _ xs h1 gI=>
   cases gI with
   |cons _ y _ cB h2 nL=>
    cases nL;cases h2;obtain rfl:=xN h1;refine v7 Tryz.func371 al3 al4 ((Tryz.strings_IndexByte _ c w).mono ?_);rintro e w' ⟨rfl,rfl⟩;exact⟨_,rfl,G,U,fun m _=>.refl _ _ _ _,.p _ _ (.int .i64 _)⟩
 ·cases hs
set_option maxRecDepth 100000 in
theorem amd:iS (C g) id 241 DW:=by
 intro G H w args v xs U eC hs;unfold DW at hs;split at hs
 ·rename_i s
  split at hs
  ·rename_i hl
   obtain⟨n,hn,rfl⟩:=cj.1 hs;cases eC with
   |cons _ x _ xs h1 gI=>
    cases gI;obtain rfl:=xN h1;refine v7 Tryz.func241 al5 al6 ((Tryz.strconv_Atoi ⟨⟨s⟩⟩ n hl hn w).mono ?_);rintro e w' ⟨rfl,t,rfl⟩
    have dk:w.heap.size<=(Lib.bytesWorld w 5 t).heap.size:=by
     unfold Lib.bytesWorld World.freeze;have h0:w.drew.heap=w.heap:=rfl;split<;>simp[h0]
    have hk:∀b,b<w.heap.size->(Lib.bytesWorld w 5 t).heap[b]? =w.heap[b]? :=fun b hb=>by
     have h1:(w.drew.alloc (.cells (Lib.bytesCells w 5 t) 5)).heap[b]? =w.heap[b]? :=alloc_old (w:=w.drew) hb;unfold Lib.bytesWorld World.freeze;split
     ·exact h1
     ·show(Array.modify _ _ _)[b]? =_
      rw[DB,if_neg (fun e=>by have e':w.heap.size=b:=e;omega)];exact h1
    have Bx:(Lib.bytesWorld w 5 t).os=w.os/\(Lib.bytesWorld w 5 t).tape=w.tape/\(Lib.bytesWorld w 5 t).output=w.output:=by
     unfold Lib.bytesWorld World.freeze;split<;>exact⟨rfl,rfl,rfl⟩
    refine⟨_,rfl,G,U.restore dk hk,fun m _=>.restore dk hk Bx.1 Bx.2.2 m _,.p _ _ (.aU _ _ (.cons _ _ _ _ (.int .i64 n) (.cons _ _ _ _ .jQ .nil)))⟩
  ·cases hs
 ·cases hs
theorem ZQ{w:World}{I:Nat->Prop}:∀(l:List (List UInt8)),c8 w I ((l.map V.str).flatMap aE) (l.map fun x=>Value.string ⟨x.toArray⟩)
 |[]=>.nil
 |a::l=>.cons _ _ _ _ (.str a) (ZQ l)
set_option maxRecDepth 100000 in
theorem ZR (nV:∀(G:bT) (H:Heap) (w:World),aX (C g) id G H w->Lib.TabIs Tryz.prog w "strings.asciiSpace" .u8 Lib.asciiSpaceTab):iS (C g) id 368 yW:=by
 intro G H w args v xs U eC hs;unfold yW at hs;split at hs
 ·rename_i s
  split at hs
  ·rename_i hc
   simp only[cn,decide_eq_true_eq]at hc;cases hs;cases eC with
   |cons _ x _ xs h1 gI=>
    cases gI;obtain rfl:=xN h1;refine v7 Tryz.func368 al7 al8 ((Tryz.strings_Fields ⟨⟨s⟩⟩ w hc.2 (fun j b hb=> ?_) (nV G H w U)).mono ?_)
    ·have:=eU.1 hc.1 b (gV hb)
     have h':=UInt8.lt_iff_toNat_lt.1 (of_decide_eq_true this);simpa using h'
    rintro e w' ⟨rfl,rfl⟩;refine⟨_,rfl,⟨G.β,fun b=>G.I b\/(b=w.heap.size/\True)⟩,U.rT _ True,fun m _=>.rT _ True m _,?_⟩;refine .p _ _ ?_;cases ae:Lib.fields s with
    |nil=>simp only[Mp,if_true,mQ];exact .emp _
    |cons a r=>
     simp only[List.isEmpty_cons,fE,if_false];rw[<-ef (f:=V.str)];refine .list 1 _ _ 0 _ _ (.inr ⟨rfl,trivial⟩) ?_ (fun d hd=> ?_) (ZQ (a::r)) (aF _)
     ·intro j x hx
      rw[TV (mi w _),dP,<-gr];exact hx
     ·obtain⟨y,-,rfl⟩:=dX.1 hd
      rfl
  ·cases hs
 ·cases hs
theorem ame:Tryz.f166.body.isSome=true:=by kernel_rfl
theorem amf:(Tryz.f166.name== "runtime.NumGoroutine")=false:=by kernel_rfl
set_option maxRecDepth 100000 in
theorem amg:iS (C g) id 166 DZ:=by
 intro G H w args v xs U eC hs;unfold DZ at hs;split at hs
 ·rename_i n
  split at hs
  ·rename_i hn
   cases hs;cases eC with
   |cons _ x _ xs h1 gI=>
    cases gI;cases h1;refine v7 Tryz.func166 ame amf ((Tryz.bits_Len n w (by omega) (by omega)).mono ?_);rintro e w' ⟨rfl,rfl⟩;exact⟨_,rfl,G,U,fun m _=>.refl _ _ _ _,.p _ _ (.int .i64 _)⟩
  ·cases hs
 ·cases hs
theorem amh:Tryz.f381.body.isSome=true:=by kernel_rfl
theorem ami:(Tryz.f381.name== "runtime.NumGoroutine")=false:=by kernel_rfl
set_option maxRecDepth 100000 in
theorem amj:iS (C g) id 381 D0:=by
 intro G H w args v xs U eC hs;unfold D0 at hs;split at hs
 ·rename_i s c
  split at hs
  ·rename_i hc
   cases hs;cases eC with
   |cons _ x _ xs h1 gI=>
    cases gI with
    |cons _ y _ cB h2 nL=>
     cases nL;obtain rfl:=xN h1;obtain rfl:=xN h2;have o8:c.toNat<128:=by simpa using UInt8.lt_iff_toNat_lt.1 hc
     refine v7 Tryz.func381 amh ami ((Tryz.strings_TrimLeft_one ⟨⟨s⟩⟩ c o8 w).mono ?_);rintro e w' ⟨rfl,rfl⟩;exact⟨_,rfl,G,U,fun m _=>.refl _ _ _ _,.p _ _ (.str _)⟩
  ·cases hs
 ·cases hs
end Go.Abs.bs
namespace Go.Abs
open Go
end Go.Abs
namespace Go.Abs
open Go
variable{C:Ctx}{fid:Nat->Nat}{w w':World}{G G':bT}{H H':Heap}
theorem Jq{aa:Nat->Option bV}{i:Nat}{spec:List V->Option V}(h:aa i=some (.ext spec)){args:List V}(hp:cg args=true){v:V}(af:spec args=some v)(H:Heap):bY aa (.fn i [] []) args H=some (v,H,H.length):=by
 rw[ou,h];simp[hp,af]
end Go.Abs
namespace Go.Abs
open Go
variable{C:Ctx}{fid:Nat->Nat}
end Go.Abs
namespace Go.Abs
open Go
abbrev bN:=Nat->V
def up (σ:bN)(t:Nat)(v:V):bN:=fun k=>match Nat.beq k t with
 |true=>v
 |false=>σ k
def n3:bN:=fun _=>.undef
theorem v8 (σ:bN)(t:Nat)(v:V):up σ t v t=v:=by simp[up,yI]
theorem jG (σ:bN){t k:Nat}(v:V)(h:k≠t):up σ t v k=σ k:=by
 unfold up;cases hb:Nat.beq k t with
 |true=>exact absurd (ey hb) h
 |false=>rfl
theorem amk{σ:bN}{t:Nat}{v:V}(h:σ t=v):up σ t v=σ:=by
 funext k;by_cases e:k=t
 ·subst e;rw[v8,h]
 ·rw[jG _ _ e]
def bn (aq σ:bN):ai->V
 | .tmp t=>aq t
 | .var t=>σ t
 | .const v=>v
 | .func i=>.fn i [] []
def Fits (e:Env)(σ:bN):Prop:=∀t,bA e t=σ t
theorem tn:Fits [] n3:=fun _=>rfl
theorem tp{aC au:Env}{aq σ:bN}(ht:Fits aC aq)(hs:Fits au σ):ai.ag aC au=bn aq σ:=by
 funext x;cases x with
 |tmp t=>exact ht t
 |var t=>exact hs t
 |const v=>rfl
 |func i=>rfl
theorem ZS{au:Env}{σ:bN}(h:Fits au σ)(t:Nat)(v:V):Fits (dw au t v) (up σ t v):=fun k=>by
 rw[gh];by_cases e:k=t
 ·rw[if_pos e,e,v8]
 ·rw[if_neg e,jG _ _ e];exact h k
theorem ZT{aC:Env}{aq:bN}(h:Fits aC aq)(t:Nat)(v:V):Fits ((t,v)::aC) (up aq t v):=fun k=>by
 by_cases e:k=t
 ·subst e;simp[bA,v8]
 ·rw[jG _ _ e];simp[bA,kS e];exact h k
section
variable (aa:Nat->Option bV)(b:Nat)
def e8 (c:cm)(σ:bN)(H:Heap)(Q:X->bN->Heap->Prop):Prop:=
 ∀au low,Fits au σ->b<=low->b<=H.length->∃x di H' low' aS,dq aa c ⟨[],au,H,low,none⟩=some (x,⟨[],di,H',low',none⟩)/\Fits di aS/\b<=low'/\b<=H'.length/\Q x aS H'
def Op (ops:List bI)(aq σ:bN)(H:Heap)(wr:List Bool)(Q:bN->Heap->List Bool->Prop):Prop:=
 ∀aC au low,Fits aC aq->Fits au σ->b<=low->b<=H.length->∃iT di H' low' fh aS,cY (bY aa) ops ⟨aC,au,H,low,none⟩ wr=some (⟨iT,di,H',low',none⟩,fh)/\Fits di aS/\b<=low'/\b<=H'.length/\Q aS H' fh
end
section
variable{aa:Nat->Option bV}{b:Nat}{aq σ:bN}{H:Heap}{Q:X->bN->Heap->Prop}
theorem e8.mono{c:cm}{ZU:X->bN->Heap->Prop}(h:e8 aa b c σ H Q)(k:∀x aS H',Q x aS H'->ZU x aS H'):e8 aa b c σ H ZU:=fun au low h1 h2 ar=>by
 obtain⟨x,di,H',low',aS,ab,aj,bC,cu,dv⟩:=h au low h1 h2 ar;exact⟨x,di,H',low',aS,ab,aj,bC,cu,k _ _ _ dv⟩
theorem zH (h:Q .normal σ H):e8 aa b .skip σ H Q:=fun au low h1 h2 ar=>⟨_,_,_,_,σ,nD _,h1,h2,ar,h⟩
theorem zI (h:Q .ret σ H):e8 aa b .ret σ H Q:=fun au low h1 h2 ar=>⟨_,_,_,_,σ,nE _,h1,h2,ar,h⟩
theorem Jr{i:Nat}(h:Q (.exit i) σ H):e8 aa b (.exit i) σ H Q:=fun au low h1 h2 ar=>⟨_,_,_,_,σ,qF _ _,h1,h2,ar,h⟩
def andThen (aa:Nat->Option bV)(b:Nat)(c:cm)(Q:X->bN->Heap->Prop):X->bN->Heap->Prop
 | .normal,σ,H=>e8 aa b c σ H Q
 |x,σ,H=>Q x σ H
theorem qk{a c:cm}(h:e8 aa b a σ H (andThen aa b c Q)):e8 aa b (.seq a c) σ H Q:=fun au low h1 h2 ar=>by
 obtain⟨x,di,H',low',aS,ab,aj,bC,cu,dv⟩:=h au low h1 h2 ar;rw[iy,ab];cases x with
 |normal=>exact dv di low' aj bC cu
 |exit i=>exact⟨_,_,_,_,aS,rfl,aj,bC,cu,dv⟩
 |ret=>exact⟨_,_,_,_,aS,rfl,aj,bC,cu,dv⟩
theorem zJ{x:ai}{t e:cm}{β:Bool}(hx:bn n3 σ x=.bool β)(pw:β=true)(h:e8 aa b t σ H Q):e8 aa b (.cond x t e) σ H Q:=fun au low h1 h2 ar=>by
 obtain⟨fJ,di,H',low',aS,ab,aj⟩:=h au low h1 h2 ar;refine⟨fJ,di,H',low',aS,?_,aj⟩;rw[mg,tp tn h1,hx,pw];exact ab
theorem zK{x:ai}{t e:cm}{β:Bool}(hx:bn n3 σ x=.bool β)(pw:β=false)(h:e8 aa b e σ H Q):e8 aa b (.cond x t e) σ H Q:=fun au low h1 h2 ar=>by
 obtain⟨fJ,di,H',low',aS,ab,aj⟩:=h au low h1 h2 ar;refine⟨fJ,di,H',low',aS,?_,aj⟩;rw[mg,tp tn h1,hx,pw];exact ab
def Cn (id:Nat):X->X
 | .exit j=>match Nat.beq j id with
   |true=>.normal
   |false=>.exit j
 |x=>x
theorem E8{id:Nat}{c:cm}(h:e8 aa b c σ H (fun x=>Q (Cn id x))):e8 aa b (.block id c) σ H Q:=fun au low h1 h2 ar=>by
 obtain⟨x,di,H',low',aS,ab,aj,bC,cu,dv⟩:=h au low h1 h2 ar;refine⟨Cn id x,di,H',low',aS,?_,aj,bC,cu,dv⟩;rw[nF,ab];cases x with
 |normal=>rfl
 |exit j=>
  simp only[Cn];cases hb:Nat.beq j id with
  |true=>rw[if_pos (ey hb)]
  |false=>rw[if_neg (fun e=>by rw[e,yI]at hb;cases hb)]
 |ret=>rfl
theorem uv{ops:List bI}(h:Op aa b ops n3 σ H [] (fun aS H' _=>Q .normal aS H')):e8 aa b (.region ops none) σ H Q:=fun au low h1 h2 ar=>by
 obtain⟨iT,di,H',low',fh,aS,ab,aj,bC,cu,dv⟩:=h [] au low tn h1 h2 ar;exact⟨.normal,di,H',low',aS,by rw[kW];simp only[ab,av.fo],aj,bC,cu,dv⟩
theorem ZV{ops:List bI}{er:List Nat}(h:Op aa b ops n3 σ H [] (fun aS H' wr=>rH er ops wr=true/\Q .normal aS H')):e8 aa b (.region ops (some er)) σ H Q:=fun au low h1 h2 ar=>by
 obtain⟨iT,di,H',low',fh,aS,ab,aj,bC,cu,dv,gY⟩:=h [] au low tn h1 h2 ar;exact⟨.normal,di,H',low',aS,by rw[kW];simp only[ab,dv,Bool.true_or,if_true,av.fo],aj,bC,cu,gY⟩
end
section
variable{aa:Nat->Option bV}{b:Nat}{aq σ:bN}{H:Heap}{wr:List Bool}{Q:bN->Heap->List Bool->Prop}{rest:List bI}
theorem gB (h:Q σ H wr.reverse):Op aa b [] aq σ H wr Q:=fun aC au low h1 h2 ar aR=>⟨_,_,_,_,_,σ,rfl,h2,ar,aR,h⟩
def fw (aq:bN):Option (Nat × Bool)->V->bN
 |some (t,false),v=>up aq t v
 | _,_=>aq
def fx (σ:bN):Option (Nat × Bool)->V->bN
 |some (t,true),v=>up σ t v
 | _,_=>σ
theorem wc{aC au:Env}(ht:Fits aC aq)(hs:Fits au σ)(H:Heap)(low:Nat)(d:Option (Nat × Bool))(v:V):
  ∃iT di,av.put ⟨aC,au,H,low,none⟩ d v=⟨iT,di,H,low,none⟩/\Fits iT (fw aq d v)/\Fits di (fx σ d v):=by
 match d with
 |none=>exact⟨_,_,rfl,ht,hs⟩
 |some (t,true)=>exact⟨_,_,rfl,ht,ZS hs t v⟩
 |some (t,false)=>exact⟨_,_,rfl,ZT ht t v,hs⟩
def ga (aq σ:bN):Option (ai × Bool)->Option Bool
 |none=>some true
 |some (t,w)=>match bn aq σ t with
  | .bool c=>some (c==w)
  | .aU []=>some false
  | _=>none
theorem zL{aC au:Env}(ht:Fits aC aq)(hs:Fits au σ):∀g:Option (ai × Bool),gu aC au g=ga aq σ g
 |none=>rfl
 |some (t,w)=>by unfold gu ga;rw[tp ht hs];rfl
theorem jl{t:ai}{β w:Bool}(h:bn aq σ t=.bool β)(pw:β=w):ga aq σ (some (t,w))=some true:=by
 subst pw;simp[ga,h]
theorem Js{t:ai}{β:Bool}(h:bn aq σ t=.bool β)(pw:β=false):ga aq σ (some (t,true))=some false:=by
 subst pw;simp[ga,h]
theorem Jt{t:ai}{β:Bool}(h:bn aq σ t=.bool β)(pw:β=true):ga aq σ (some (t,false))=some false:=by
 subst pw;simp[ga,h]
theorem ZW{t:ai}{w:Bool}(h:bn aq σ t=.aU []):ga aq σ (some (t,w))=some false:=by
 simp[ga,h]
theorem j4{o:bI}{v:V}{H1:Heap}{mv:Bool}(hw:ga aq σ o.guard=some true)
  (h:b<=H.length->b<=H1.length/\∃bG,b<=bG/\b3 (bY aa) (bn aq σ) H H.length o.op=some (v,H1,bG)/\ei H H1 bG=mv)
  (k:Op aa b rest (fw aq o.dst v) (fx σ o.dst v) H1 (mv::wr) Q):Op aa b (o::rest) aq σ H wr Q:=fun aC au low h1 h2 ar aR=>by
 obtain⟨hb,bG,al,a2,a3⟩:=h aR;simp only[cY];rw[zL h1 h2,hw,tp h1 h2];simp only[];rw[a2];simp only[];obtain⟨nh,k9,ab,aj,bC⟩:=wc h1 h2 H1 (min low bG) o.dst v;rw[ab,a3];exact k nh k9 _ aj bC (by omega) hb
theorem O8{o:bI}(hw:ga aq σ o.guard=some false)(k:Op aa b rest (fw aq o.dst (.aU [])) (fx σ o.dst (.aU [])) H (false::wr) Q):Op aa b (o::rest) aq σ H wr Q:=fun aC au low h1 h2 ar aR=>by
 simp only[cY];rw[zL h1 h2,hw];simp only[];obtain⟨nh,k9,ab,aj,bC⟩:=wc h1 h2 H low o.dst (.aU []);rw[ab];exact k nh k9 _ aj bC ar aR
theorem iU{d:Option (Nat × Bool)}{op:cN}{g:Option (ai × Bool)}{v:V}(hw:ga aq σ g=some true)(h:b3 (bY aa) (bn aq σ) H H.length op=some (v,H,H.length))
  (k:Op aa b rest (fw aq d v) (fx σ d v) H (false::wr) Q):Op aa b (⟨d,op,g⟩::rest) aq σ H wr Q:=
 j4 (o:=⟨d,op,g⟩) hw (fun hb=>⟨hb,H.length,hb,h,lD H⟩) k
abbrev cy:=List (List (Nat × bU))
def Own (H:Heap)(ms:cy):Prop:=(∀m∈ms,∀p∈m,H[p.1]? =some p.2)/\(ms.map (·.map Prod.fst)).Pairwise (fun x y=>∀a∈x,a∉y)
theorem Own.nil (H:Heap):Own H []:=⟨by simp,by simp⟩
theorem Own.get{ms:cy}(h:Own H ms)(k:Nat){a:Nat}{o:bU}(hk:ms[k]? =some [(a,o)]):H[a]? =some o:=
 h.1 _ (gV hk) (a,o) (by simp)
theorem sc{H:Heap}{a:Nat}{o:bU}(h:H[a]? =some o):a<H.length:=by
 rcases fV a H.length with q|q
 ·exact q
 ·rw[nA q]at h;cases h
theorem Own.lt{ms:cy}(h:Own H ms){m:List (Nat × bU)}(hm:m∈ms){p:Nat × bU}(hp:p∈m):p.1<H.length:=sc (h.1 m hm p hp)
theorem Own.keys{ms:cy}(h:Own H ms){x:List Nat}(hx:x∈ms.map (·.map Prod.fst)){a:Nat}(ha:a∈x):a<H.length:=by
 obtain⟨m,hm,rfl⟩:=dX.1 hx;obtain⟨p,hp,rfl⟩:=dX.1 ha;exact h.lt hm hp
theorem Own.grow{ms:cy}(h:Own H ms)(o:bU):Own (H++[o]) ([(H.length,o)]::ms):=by
 refine⟨fun m hm p hp=> ?_,?_⟩
 ·rcases dp.1 hm with rfl|hm
  ·simp at hp;subst hp;simp
  ·rw[fB (h.lt hm hp)];exact h.1 m hm p hp
 ·rw[de,HK]
  refine⟨fun y hy a ha aml=> ?_,h.2⟩;have:=h.keys hy aml;simp at ha;omega
theorem Own.Ju{ms:cy}(h:Own H ms){i j:Nat}{m m':List (Nat × bU)}(hi:ms[i]? =some m)(hj:ms[j]? =some m')(cK:i≠j){p q:Nat × bU}(hp:p∈m)(bg:q∈m'):p.1≠q.1:=by
 have key:∀{i j:Nat} {m m':List (Nat × bU)},ms[i]? =some m->ms[j]? =some m'->i<j->∀{p q:Nat × bU},p∈m->q∈m'->p.1≠q.1:=by
  intro i j m m' hi hj cK p q hp bg e;obtain⟨qN,hi⟩:=e0.1 hi;obtain⟨O9,hj⟩:=e0.1 hj;have:=Mb.1 h.2 i j (by simpa using qN) (by simpa using O9) cK;simp only[HQ]at this;refine this p.1 (by rw[hi];exact rA hp) ?_;rw[hj,e];exact rA bg
 rcases Nat.lt_or_gt_of_ne cK with q1|q1
 ·exact key hi hj q1 hp bg
 ·exact fun e=>key hj hi q1 bg hp e.symm
theorem amm{ms:cy}{k:Nat}{m m':List (Nat × bU)}(hk:ms[k]? =some m)(hm:m'.map Prod.fst=m.map Prod.fst):(ms.set k m').map (·.map Prod.fst)=ms.map (·.map Prod.fst):=by
 rw[List.map_set,hm];apply o0;intro i;by_cases e:k=i
 ·subst e
  have:=(e0.1 hk).1;rw[mP (by simpa using this),h8,hk];rfl
 ·rw[iv e]
theorem Own.put{ms:cy}(h:Own H ms)(k:Nat){a:Nat}{o o':bU}(hk:ms[k]? =some [(a,o)]):Own (H.set a o') (ms.set k [(a,o')]):=by
 refine⟨fun m hm p hp=> ?_,by rw[amm (m':=[(a,o')]) hk rfl];exact h.2⟩;obtain⟨i,hi⟩:=pL.1 hm;by_cases e:k=i
 ·subst e
  rw[mP (e0.1 hk).1]at hi;cases hi;simp at hp;subst hp;rw[mP (sc (h.get k hk))]
 ·rw[iv e]at hi
  have:=h.Ju hk hi e (p:=(a,o)) (by simp) hp;rw[iv this];exact h.1 m (gV hi) p hp
theorem Own.fill{ms:cy}(h:Own H ms)(k:Nat){o:bU}(hk:ms[k]? =some []):Own (H++[o]) (ms.set k [(H.length,o)]):=by
 refine⟨fun m hm p hp=> ?_,?_⟩
 ·obtain⟨i,hi⟩:=pL.1 hm
  by_cases e:k=i
  ·subst e
   rw[mP (e0.1 hk).1]at hi;cases hi;simp at hp;subst hp;simp
  ·rw[iv e]at hi
   have jB:=gV hi;rw[fB (h.lt jB hp)];exact h.1 m jB p hp
 ·have:=h.2
  rw[Mb]at this⊢;intro i j hi hj cK a ha gJ;simp only[ef,yD]at hi hj;simp only[HQ,List.getElem_set]at ha gJ;have hb:∀{i:Nat} (hi:i<ms.length) {a:Nat},a∈(ms[i]).map Prod.fst->a<H.length:=fun hi a ha=>h.keys (rA (Mq hi)) ha;by_cases ab:k=i
  ·have aj:k≠j:=by omega
   rw[if_pos ab]at ha;rw[if_neg aj]at gJ;have:=hb hj gJ;simp at ha;omega
  ·by_cases aj:k=j
   ·rw[if_neg ab]at ha;rw[if_pos aj]at gJ
    have:=hb hi ha;simp at gJ;omega
   ·rw[if_neg ab]at ha;rw[if_neg aj]at gJ
    exact this i j (by simpa using hi) (by simpa using hj) cK a (by simpa using ha) (by simpa using gJ)
theorem Own.drop{ms:cy}(h:Own H ms)(k:Nat):Own H (ms.eraseIdx k):=by
 have hs:=List.eraseIdx_sublist ms k;exact⟨fun m hm=>h.1 m (hs.subset hm),h.2.sublist (hs.map _)⟩
theorem Pa{α:Type}{x a:α}:∀{l:List α} {k:Nat},x∈l.insertIdx k a->x=a\/x∈l
 |l,0,h=>by simpa using h
 |[],k+1,h=>by simp at h
 |b::l,k+1,h=>by
  rw[List.insertIdx_succ_cons]at h;rcases dp.1 h with rfl|h
  ·exact .inr (by simp)
  ·rcases Pa h with rfl|h
   ·exact .inl rfl
   ·exact .inr (kQ _ h)
theorem Own.ins{ms:cy}(h:Own H ms)(k:Nat):Own H (ms.insertIdx k []):=by
 refine⟨fun m hm p hp=> ?_,?_⟩
 ·rcases Pa hm with rfl|hm
  ·cases hp
  ·exact h.1 m hm p hp
 ·have:∀(ms:List (List Nat)) (k:Nat),ms.Pairwise (fun x y=>∀a∈x,a∉y)->(ms.insertIdx k []).Pairwise (fun x y=>∀a∈x,a∉y):=by
   intro ms
   induction ms with
   |nil=>intro k _;cases k<;>simp
   |cons m ms ih=>
    intro k hp;cases k with
    |zero=>simp only[List.insertIdx_zero,HK];exact⟨by simp,HK.1 hp⟩
    |succ k=>
     rw[List.insertIdx_succ_cons,HK];obtain⟨h1,h2⟩:=HK.1 hp;refine⟨fun y hy=> ?_,ih k h2⟩;rcases Pa hy with rfl|hy
     ·simp
     ·exact h1 y hy
  have h2:=this _ k h.2
  have e:(ms.insertIdx k []).map (·.map Prod.fst)=(ms.map (·.map Prod.fst)).insertIdx k []:=by
   clear h2 this h
   induction ms generalizing k with
   |nil=>cases k<;>simp
   |cons m ms ih=>cases k<;>simp[*]
  rw[e];exact h2
theorem Own.ZX{ms:cy}(h:Own H ms)(ks:List Nat)(hk:ks.Nodup):Own H (ks.map fun k=>ms.getD k []):=by
 refine⟨fun m hm p hp=> ?_,?_⟩
 ·obtain⟨k,-,rfl⟩:=dX.1 hm
  simp only[iL]at hp;cases hx:ms[k]? with
  |none=>rw[hx]at hp;cases hp
  |some m=>rw[hx]at hp;exact h.1 m (gV hx) p hp
 ·rw[kR,List.pairwise_map]
  refine List.Pairwise.imp ?_ hk;intro i j cK a ha gJ;simp only[Function.comp,iL]at ha gJ;cases hi:ms[i]? with
  |none=>rw[hi]at ha;cases ha
  |some m=>cases hj:ms[j]? with
   |none=>rw[hj]at gJ;cases gJ
   |some m'=>
    rw[hi]at ha;rw[hj]at gJ;obtain⟨p,hp,rfl⟩:=dX.1 ha;obtain⟨q,bg,e⟩:=dX.1 gJ;exact h.Ju hi hj cK hp bg e.symm
end
end Go.Abs
namespace Go.Abs
open Go
inductive ad (α:Type) where
 |nil
 |emp
 |mk (l:List α)
 deriving Inhabited
def ad.l{α:Type}:ad α->List α
 | .mk l=>l
 | _=>[]
def ad.len{α:Type}(x:ad α):Int:=(x.l.length:Int)
def bb{α:Type}(es:Nat)(f:α->V):ad α->V
 | .nil=>.bX
 | .emp=>.emp
 | .mk l=>.list es (l.map f)
abbrev aM (n:Int):Int:=IntKind.i64.wrap n
abbrev aI (n:Int):V:=.int .i64 n
def bj{α:Type}(l:List α)(i:Int):Option α:=if 0<=i then l[i.toNat]? else none
inductive cU (S O:Type) where
 |next (s:S)
 |out (o:O)
inductive cz (S R:Type) where
 |go (s:S)
 |ret (r:R)
def sd{S O:Type}(f:S->Option (cU S O)):Nat->S->Option O
 |0,_=>none
 |n+1,s=>match f s with
  |some (.next ao)=>sd f n ao
  |some (.out o)=>some o
  |none=>none
theorem Pb{S O:Type}{f:S->Option (cU S O)}:∀{n m:Nat} {s:S} {o:O},n<=m->sd f n s=some o->sd f m s=some o
 |0,_,_,_,_,h=>by cases h
 |n+1,0,_,_,hm,h=>by omega
 |n+1,m+1,s,o,hm,h=>by
  simp only[sd]at h⊢;split at h
  ·exact Pb (by omega) h
  ·exact h
  ·cases h
open Classical in
noncomputable def bZ{S O:Type}(f:S->Option (cU S O))(s:S):Option O:=
 if h:∃n o,sd f n s=some o then some h.choose_spec.choose else none
theorem zM{S O:Type}{f:S->Option (cU S O)}{s:S}{o:O}:bZ f s=some o↔∃n,sd f n s=some o:=by
 unfold bZ;constructor
 ·intro h
  split at h
  ·rename_i hx
   cases h;exact⟨_,hx.choose_spec.choose_spec⟩
  ·cases h
 ·rintro⟨n,hn⟩
  have hx:∃n o,sd f n s=some o:=⟨n,o,hn⟩;rw[dif_pos hx];have h1:=Pb (sF n hx.choose) hn;have h2:=Pb (rC n hx.choose) hx.choose_spec.choose_spec;rw[h1]at h2;exact h2.symm
theorem fK{S O:Type}(f:S->Option (cU S O))(s:S):bZ f s=match f s with
  |some (.next ao)=>bZ f ao
  |some (.out o)=>some o
  |none=>none:=by
 cases ae:f s with
 |none=>
  simp only[];cases h:bZ f s with
  |none=>rfl
  |some o=>
   obtain⟨n,hn⟩:=zM.1 h;cases n with
   |zero=>cases hn
   |succ n=>simp[sd,ae]at hn
 |some r=>cases r with
  |out o=>exact zM.2 ⟨1,by simp[sd,ae]⟩
  |next ao=>
   simp only[];cases h:bZ f ao with
   |some o=>
    obtain⟨n,hn⟩:=zM.1 h;exact zM.2 ⟨n+1,by simp[sd,ae,hn]⟩
   |none=>
    cases h':bZ f s with
    |none=>rfl
    |some o=>
     obtain⟨n,hn⟩:=zM.1 h';cases n with
     |zero=>cases hn
     |succ n=>
      simp only[sd,ae]at hn;rw[zM.2 ⟨n,hn⟩]at h;cases h
section
variable{aa:Nat->Option bV}{b:Nat}{aq σ:bN}{H:Heap}
theorem amn{S O:Type}{c:cm}(f:S->Option (cU S O))(I:S->bN->Heap->Prop)(P:O->X->bN->Heap->Prop)
  (round:∀s σ H r,I s σ H->f s=some r->e8 aa b c σ H fun x aS H'=>match r with
    | .next ao=>x=.normal/\I ao aS H'
    | .out o=>x≠ .normal/\P o x aS H') {s:S} {o:O} (h:bZ f s=some o) (bk:I s σ H):e8 aa b (.loop c) σ H (P o):=by
 obtain⟨n,hn⟩:=zM.1 h;clear h
 induction n generalizing s σ H with
 |zero=>cases hn
 |succ n ih=>
  intro au low h1 h2 ar;simp only[sd]at hn;cases ae:f s with
  |none=>rw[ae]at hn;cases hn
  |some r=>
   rw[ae]at hn;obtain⟨x,di,H',low',aS,ab,aj,bC,cu,dv⟩:=round s σ H r bk ae au low h1 h2 ar;rw[sN,ab];cases r with
   |next ao=>
    obtain⟨rfl,zw⟩:=dv;exact ih zw hn di low' aj bC cu
   |out o'=>
    cases hn;obtain⟨hx,mC⟩:=dv;refine⟨x,di,H',low',aS,?_,aj,bC,cu,mC⟩;cases x<;>first|rfl|exact absurd rfl hx
theorem bind_some{α β:Type}{a:Option α}{f:α->Option β}{r:β}(h:a.bind f=some r):∃x,a=some x/\f x=some r:=dW.1 h
theorem qX{α:Type}{c:Bool}{p q:Option α}{r:α}(h:(bif c then p else q)=some r):(c=true/\p=some r)\/(c=false/\q=some r):=by
 cases c
 ·exact .inr ⟨rfl,h⟩
 ·exact .inl ⟨rfl,h⟩
variable{α:Type}{es:Nat}{f:α->V}{ag:ai->V}
theorem we{call:cP}{x:ai}{s:ad α}(h:ag x=bb es f s)(low:Nat):b3 call ag H low (.len 1 x)=some (aI s.len,H,low):=by
 show step ag H low (.len 1 x)=_;cases s<;>simp[step,h,bb,ad.len,ad.l]
theorem zN{call:cP}{x i:ai}{s:ad α}{n:Int}{a:α}{k:IntKind}(h:ag x=bb es f s)(hi:ag i=.int k n)(hx:bj s.l n=some a)(low:Nat):b3 call ag H low (.indexAddr es x i)=some (.dH (aE (f a)) 0,H,low):=by
 show step ag H low (.indexAddr es x i)=_;unfold bj at hx;split at hx
 ·rename_i hn
  cases s<;>simp_all [step,bb,ad.l,ku]
 ·cases hx
end
end Go.Abs
namespace Go.Abs
open Go
abbrev cf:=List UInt8
theorem lX{b:Bool}(h:b=true):(!b)=false:=by rw[h];rfl
theorem lY{b:Bool}(h:b=false):(!b)=true:=by rw[h];rfl
@[simp] theorem n4 {α : Type} (es : Nat) (f : α -> V) (s : ad α) : bx (bb es f s) = true := by cases s <;> rfl
@[simp] theorem az3 (k : IntKind) (n : Int) : bx (.int k n) = true := rfl
@[simp] theorem az4 (b : Bool) : bx (.bool b) = true := rfl
@[simp] theorem az5 (b : List UInt8) : bx (.str b) = true := rfl
@[simp] theorem Pc (k : IntKind) (n : Int) : aE (.int k n) = [.int k n] := rfl
@[simp] theorem az6 (b : Bool) : aE (.bool b) = [.bool b] := rfl
@[simp] theorem az7 (b : List UInt8) : aE (.str b) = [.str b] := rfl
@[simp] theorem amo {α : Type} (es : Nat) (f : α -> V) (s : ad α) : ez (bb es f s) = true := by cases s <;> rfl
@[simp] theorem az8 (k : IntKind) (n : Int) : ez (.int k n) = true := rfl
@[simp] theorem az9 (b : Bool) : ez (.bool b) = true := rfl
@[simp] theorem aAa (b : List UInt8) : ez (.str b) = true := rfl
@[simp] theorem aAb : ez .bX = true := rfl
@[simp] theorem aAc : ez .emp = true := rfl
@[simp] theorem aAd : ez .jd = true := rfl
@[simp] theorem aAe : ez .jQ = true := rfl
@[simp] theorem aAf : ez .kt = true := rfl
@[simp] theorem aAg : ez .jt = true := rfl
@[simp] theorem aAh (a o : Nat) : ez (.ptr a o) = true := rfl
@[simp] theorem aAi (a : Nat) : ez (.map a) = true := rfl
@[simp] theorem aAj (a : Nat) (x y : List V) : ez (.fn a x y) = true := rfl
@[simp] theorem aAk (a : Nat) (x : List V) : ez (.list a x) = true := rfl
@[simp] theorem ZY {α : Type} (es : Nat) (f : α -> V) (s : ad α) : aE (bb es f s) = [bb es f s] := by cases s <;> rfl
def E9 (a b:Int):Option Int:=if b=0 then none else some (aM (a.tdiv b))
def Fa (a b:Int):Option Int:=if b=0 then none else some (a.tmod b)
def ZZ (a b:cf):Option cf:=if a.length+b.length<=2^40 then some (a++b)else none
inductive e9 (b es:Nat):V->ad V->List (Nat × bU)->Prop
 |nil:e9 b es .bX .nil []
 |emp:e9 b es .emp .emp []
 |row (l:Nat) (ds:List V) (h:ds≠[]) (hb:b<=l):e9 b es (.ca l es 0 ds.length ds.length) (.mk ds) [(l,.row es ds false)]
def ad.map{α β:Type}(f:α->β):ad α->ad β
 | .nil=>.nil
 | .emp=>.emp
 | .mk l=>.mk (l.map f)
abbrev ft{α:Type}(b es:Nat)(f:α->V)(v:V)(s:ad α)(m:List (Nat × bU)):Prop:=e9 b es v (s.map f) m
theorem Z0{α:Type}(es:Nat)(f:α->V)(s:ad α):bb es f s=bb es id (s.map f):=by cases s<;>simp[bb,ad.map]
def gn{α:Type}(bytes:Nat)(s y:ad α):Option (ad α):=
 if y.l=[]then some s else if(s.l.length+y.l.length)*(bytes+1)<=2^40 then some (.mk (s.l++y.l))else none
def lZ{α:Type}(s:ad α)(a c:Int):Option (ad α):=match s with
 | .nil=>if a=0/\c=0 then some .nil else none
 | .emp=>if a=0/\c=0 then some .emp else none
 | .mk l=>if 0<=a/\a<=c/\c<=l.length then some (.mk ((l.take c.toNat).drop a.toNat))else none
def ql (s:cf)(a c:Int):Option cf:=if 0<=a/\a<=c/\c<=s.length then some ((s.take c.toNat).drop a.toNat)else none
def ad.isNil{α:Type}:ad α->Bool
 | .nil=>true
 | _=>false
def ie{K W:Type}[BEq K](m:List (K × W))(k:K):Option W:=(m.find? fun p=>k==p.1).map (·.2)
def lF{K W:Type}[BEq K]:List (K × W)->K->W->List (K × W)
 |[],k,w=>[(k,w)]
 |p::r,k,w=>if k==p.1 then(k,w)::r else p::lF r k w
def zO{α:Type}(bytes:Nat)(z:α)(n:Int):Option (ad α):=if 0<=n/\n*(bytes+1)<=2^40 then some (if n=0 then .emp else .mk (List.replicate n.toNat z))else none
def px{α:Type}(s:ad α)(i:Int)(e:α):ad α:=.mk (s.l.set i.toNat e)
mutual
theorem Pf{n:Nat}:∀{v:V},bx v=true->old n v=true
 | .bool _,_| .int _ _,_| .str _,_| .bX,_| .emp,_| .jd,_| .jt,_| .kt,_| .jQ,_| .list _ _,_=>rfl
 | .agg vs,h=>by simp only[bx]at h;simp only[old];exact Co h
 | .aU vs,h=>by simp only[bx]at h;simp only[old];exact Co h
 | .fn i a b,h=>by simp only[bx,cn]at h;simp only[old,cn];exact⟨Co h.1,Co h.2⟩
 | .iface t v,h=>by simp only[bx]at h;simp only[old];exact Pf h
 | .ptr ..,h| .gW ..,h| .dH ..,h| .ca ..,h| .map ..,h| .yield ..,h| .undef,h=>by simp[bx]at h
theorem Co{n:Nat}:∀{vs:List V},cg vs=true->olds n vs=true
 |[],_=>rfl
 |v::vs,h=>by
  simp only[cg,cn]at h;simp only[olds,cn];exact⟨Pf h.1,Co h.2⟩
end
section
variable{aa:Nat->Option bV}{b:Nat}{aq σ:bN}{H:Heap}{wr:List Bool}{rest:List bI}{call:cP}{ag:ai->V}
theorem Pg{c:cm}{Q:X->bN->Heap->Prop}(P:X->bN->Heap->Prop)(h:e8 aa b c σ H P)(k:∀x aS H',P x aS H'->Q x aS H'):e8 aa b c σ H Q:=h.mono k
theorem qY{c a d:ai}{β:Bool}(h:ag c=.bool β)(pw:β=true):b3 call ag H H.length (.pick c a d)=some (ag a,H,H.length):=by rw[pt,h,pw];rfl
theorem Cp{c a d:ai}{β:Bool}(h:ag c=.bool β)(pw:β=false):b3 call ag H H.length (.pick c a d)=some (ag d,H,H.length):=by rw[pt,h,pw];rfl
theorem ig{x:ai}{sh:Option Nat}{a o:Nat}{cs:List V}{v:V}(h:ag x=.ptr a o)(a6:H[a]? =some (.cells cs))(hr:iw cs o sh=some v):b3 call ag H H.length (.load sh x)=some (v,H,H.length):=by
 rw[nY,h];simp[jR,a6,hr]
theorem amp{x i:ai}{s:cf}{k:IntKind}{n:Int}{c:UInt8}(h:ag x=.str s)(hi:ag i=.int k n)(hx:bj s n=some c)(low:Nat):b3 call ag H low (.rG x i)=some (.int .u8 c.toNat,H,low):=by
 show step ag H low (.rG x i)=_;unfold bj at hx;split at hx
 ·rename_i hn
  simp_all [step,ku]
 ·cases hx
theorem amq{z:List V}{parts:List (Nat × Nat × ai)}{cs:List V}(h:sJ z (parts.map fun p=>(p.1,p.2.1,ag p.2.2))=some cs):b3 call ag H H.length (.build z parts)=some (.agg cs,H,H.length):=by
 show step ag H H.length (.build z parts)=_;simp only[step,h];rfl
theorem uw:∀{vs:List V} {low:Nat},cg vs=true->eV H low vs=some (vs,H,low)
 |[],_,_=>rfl
 |v::r,low,h=>by
  simp only[cg,cn]at h;simp only[eV,fN,dQ,h.1,if_true,uw h.2]
theorem zP{d:Option (Nat × Bool)}{g:Option (ai × Bool)}{z:List V}{Q:bN->Heap->List Bool->Prop}{ms:cy}(hw:ga aq σ g=some true)(aw:Own H ms)
  (k:∀H' a,b<=a->Own H' ([(a,.cells z)]::ms)->Op aa b rest (fw aq d (.ptr a 0)) (fx σ d (.ptr a 0)) H' (true::wr) Q):Op aa b (⟨d,.alloc z,g⟩::rest) aq σ H wr Q:=by
 intro aC au low h1 h2 ar aR;exact j4 (o:=⟨d,.alloc z,g⟩) (mv:=true) hw (fun hb=>⟨by simp;omega,H.length,hb,r9 z,by simp[ei]⟩) (k _ _ aR (aw.grow _)) aC au low h1 h2 ar aR
theorem Ph{d:Option (Nat × Bool)}{g:Option (ai × Bool)}{x:ai}{cs:List V}{Q:bN->Heap->List Bool->Prop}{ms:cy}(hw:ga aq σ g=some true)(aw:Own H ms)(hx:aE (bn aq σ x)=cs)(hc:bM cs=true)
  (k:∀H' a,b<=a->Own H' ([(a,.cells cs)]::ms)->Op aa b rest (fw aq d (.ptr a 0)) (fx σ d (.ptr a 0)) H' (true::wr) Q):Op aa b (⟨d,.box x,g⟩::rest) aq σ H wr Q:=by
 intro aC au low h1 h2 ar aR;exact j4 (o:=⟨d,.box x,g⟩) (mv:=true) hw (fun hb=>⟨by simp;omega,H.length,hb,by simp only[];rw[vZ,hx,if_pos hc],by simp[ei]⟩) (k _ _ aR (aw.grow _)) aC au low h1 h2 ar aR
theorem Z1{d:Option (Nat × Bool)}{g:Option (ai × Bool)}{Q:bN->Heap->List Bool->Prop}{ms:cy}(hw:ga aq σ g=some true)(aw:Own H ms)
  (k:∀H' a,b<=a->Own H' ([(a,.map [])]::ms)->Op aa b rest (fw aq d (.map a)) (fx σ d (.map a)) H' (true::wr) Q):Op aa b (⟨d,.mkMap,g⟩::rest) aq σ H wr Q:=by
 intro aC au low h1 h2 ar aR;exact j4 (o:=⟨d,.mkMap,g⟩) (mv:=true) hw (fun hb=>⟨by simp;omega,H.length,hb,O4,by simp[ei]⟩) (k _ _ aR (aw.grow _)) aC au low h1 h2 ar aR
theorem zQ{d:Option (Nat × Bool)}{g:Option (ai × Bool)}{n o a:Nat}{x y:ai}{cs vs cs':List V}{Q:bN->Heap->List Bool->Prop}{ms:cy}(hw:ga aq σ g=some true)(aw:Own H ms)(k:Nat)
  (hk:ms[k]? =some [(a,.cells cs)]) (hb:b<=a) (hx:bn aq σ x=.ptr a o) (hy:aE (bn aq σ y)=vs) (hn:vs.length=n/\o+n<=cs.length) (hc:bM vs=true) (hs:setCells cs o vs=cs')
  (cl:∀H',Own H' (ms.set k [(a,.cells cs')])->Op aa b rest (fw aq d .undef) (fx σ d .undef) H' (true::wr) Q):Op aa b (⟨d,.store n x y,g⟩::rest) aq σ H wr Q:=by
 have a6:=aw.get k hk;have aK:=sc a6;refine j4 (o:=⟨d,.store n x y,g⟩) (mv:=true) (H1:=H.set a (.cells cs')) hw (fun cp=>⟨by simpa using cp,a,hb,?_,by simp[ei,aK]⟩) (cl _ (aw.put k hk));simp only[lW,hx,jw,a6,hy];rw[if_pos ⟨hn.1,by omega,hc⟩];subst hs;simp[qz aK]
theorem Cq{f:ai}{aQ:List ai}{fv v:V}{vs:List V}(hc:call fv vs H=some (v,H,H.length))(aO:eV H H.length vs=some (vs,H,H.length))(ha:aQ.map ag=vs)(ae:ag f=fv):b3 call ag H H.length (.call false f aQ)=some (v,H,H.length):=by
 subst ha;subst ae;rw[qi,aO];simp[hc]
theorem amr{low:Nat}:eV H low []=some ([],H,low):=rfl
theorem Z2{low:Nat}{v:V}{vs:List V}(h:bx v=true)(r:eV H low vs=some (vs,H,low)):eV H low (v::vs)=some (v::vs,H,low):=by
 simp only[eV,fN,dQ,h,if_true,r]
theorem Z3{low:Nat}{v:V}{vs:List V}(h:∀H low,fN H low v=some (v,H,low))(r:eV H low vs=some (vs,H,low)):eV H low (v::vs)=some (v::vs,H,low):=by
 simp only[eV,h,r]
theorem Pj{es:Nat}{z:V}:∀(vs pre:List V),(∀v∈vs,(aE v).length=es/\bM (aE v)=true)->pT es (pre++List.replicate vs.length z) ((List.range' pre.length vs.length).zip vs)=some (pre++vs)
 |[],pre,_=>by simp[pT]
 |v::vs,pre,h=>by
  have af:=h v (by simp);simp only[fl,qw,DG,pT];rw[if_pos ⟨af.1,by simp,af.2⟩]
  have e:(pre++List.replicate (vs.length+1) z).set pre.length v=(pre++[v])++List.replicate vs.length z:=by
   rw[DF];simp
  rw[e];have:=Pj (es:=es) (z:=z) vs (pre++[v]) (fun u hu=>h u (by simp[hu]));simp only[fD,fl,mQ,dP]at this;rw[this];simp
theorem ams{es n:Nat}{z vs:List V}{parts:List (Nat × ai)}(af:(parts.map fun p=>ag p.2)=vs)(hi:parts.map Prod.fst=List.range' 0 vs.length)(hn:vs.length=n)(h0:(n=0)=False)(hp:cg vs=true)(hc:∀v∈vs,(aE v).length=es/\bM (aE v)=true):
  b3 call ag H H.length (.lit es z n parts true)=some (.list es vs,H,H.length):=by
 have aO:(parts.zip vs).map (fun(p,v)=>(p.1,v))=(List.range' 0 vs.length).zip vs:=by
  rw[<-hi];clear hi hp hc hn;subst af
  induction parts with
  |nil=>rfl
  |cons p ps ih=>simp[ih]
 have ae:=Pj (es:=es) (z:=lr z) vs [] hc;simp only[iM,mQ]at ae;rw[I6];simp only[step,af,uw hp];rw[aO,<-hn,ae];simp only[hp,if_true,hn,h0,if_false]
theorem amt{es:Nat}{z:List V}{x:V}(h:x=V.emp):b3 call ag H H.length (.lit es z 0 [] true)=some (x,H,H.length):=by
 rw[I6,h];simp[step,eV,pT,cg]
def wg (ag:ai->V)(x:Option ai)(Mu a:Int):Prop:=(x=none/\a=Mu)\/∃o,x=some o/\ag o=aI a
theorem wg.eq{x:Option ai}{d a:Int}(h:wg ag x d a){n:Nat}(hd:d=n)(ha:0<=a):e1 ag n x=some a.toNat:=by
 rcases h with⟨rfl,rfl⟩|⟨o,rfl,e⟩
 ·subst hd;rfl
 ·simp[e1,e,ku,ha]
theorem Jv{α:Type}{es:Nat}{f:α->V}{s ao:ad α}{x:ai}{lo hi:Option ai}{a c:Int}(hs:lZ s a c=some ao)(ha:wg ag lo 0 a)(hc:wg ag hi s.len c)(h:ag x=bb es f s):b3 call ag H H.length (.sI es x lo hi none)=some (bb es f ao,H,H.length):=by
 rw[Cm];cases s with
 |nil=>
  simp only[lZ]at hs;split at hs
  ·rename_i q;obtain⟨rfl,rfl⟩:=q;cases hs
   simp only[step,h,bb];rw[ha.eq (n:=0) rfl (yJ _),hc.eq (n:=0) rfl (yJ _)];rfl
  ·cases hs
 |emp=>
  simp only[lZ]at hs;split at hs
  ·rename_i q;obtain⟨rfl,rfl⟩:=q;cases hs
   simp only[step,h,bb];rw[ha.eq (n:=0) rfl (yJ _),hc.eq (n:=0) rfl (yJ _)];rfl
  ·cases hs
 |mk l=>
  simp only[lZ]at hs;split at hs
  ·rename_i q;obtain⟨q1,q2,cd⟩:=q;cases hs
   have ab:=ha.eq (n:=0) rfl q1;have aj:=hc.eq (n:=(l.map f).length) (by simp[ad.len,ad.l]) (by omega);simp only[step,h,bb,ab,aj];rw[if_pos ⟨by omega,by simp;omega,trivial⟩];simp
  ·cases hs
theorem Jw{s ao:cf}{x:ai}{lo hi:Option ai}{a c:Int}(hs:ql s a c=some ao)(ha:wg ag lo 0 a)(hc:wg ag hi (s.length:Int) c)(h:ag x=.str s):b3 call ag H H.length (.qB x lo hi)=some (.str ao,H,H.length):=by
 show step ag H H.length (.qB x lo hi)=_;unfold ql at hs;split at hs
 ·rename_i q;obtain⟨q1,q2,cd⟩:=q;cases hs
  simp only[step,h,ha.eq (n:=0) rfl q1,hc.eq (n:=s.length) rfl (by omega)];rw[if_pos ⟨by omega,by omega⟩]
 ·cases hs
theorem e9.cells{b es:Nat}{v:V}{s:ad V}{m:List (Nat × bU)}(h:e9 b es v s m):aE v=[v]:=by cases h<;>rfl
theorem e9.ez{b es:Nat}{v:V}{s:ad V}{m:List (Nat × bU)}(h:e9 b es v s m):Abs.ez v=true:=by cases h<;>rfl
theorem wh{α:Type}(es:Nat)(f:α->V)(s:ad α):elems H es (bb es f s)=some (s.l.map f):=by cases s<;>simp[elems,bb,ad.l]
theorem tq{α:Type}{f:α->V}(h:∀a,bx (f a)=true):∀l:List α,cg (l.map f)=true
 |[]=>rfl
 |a::l=>by simp[cg,h a,tq h l]
theorem wi{α:Type}{f:α->V}(h:∀a,bM (aE (f a))=true):∀l:List α,bM ((l.map f).flatMap aE)=true
 |[]=>rfl
 |a::l=>by
  have app:∀x y:List V,bM (x++y)=(bM x&&bM y):=fun x y=>by
   induction x with
   |nil=>simp[bM]
   |cons c x ih=>simp[bM,ih,yF]
  simp[app,h a,wi h l]
theorem Z4{α:Type}{es bytes:Nat}{f:α->V}{s y ao:ad α}{d:Option (Nat × Bool)}{g:Option (ai × Bool)}{dr fH:ai}{dt:V}{m:List (Nat × bU)}{Q:bN->Heap->List Bool->Prop}{ms:cy}(hw:ga aq σ g=some true)(k:Nat)
  (hs:gn bytes s y=some ao) (aw:Own H ms) (hk:ms[k]? =some m) (hr:ft b es f dt s m) (ha:bn aq σ dr=dt) (hb:bn aq σ fH=bb es f y) (hp:∀a,bx (f a)=true) (hc:∀a,bM (aE (f a))=true)
  (cl:∀H' v' m' mv,ft b es f v' ao m'->Own H' (ms.set k m')->Op aa b rest (fw aq d v') (fx σ d v') H' (mv::wr) Q):Op aa b (⟨d,.append es bytes dr fH,g⟩::rest) aq σ H wr Q:=by
 intro aC au low h1 h2 ar aR
 have nb:ms.set k m=ms:=by
  apply o0;intro i;by_cases e:k=i
  ·subst e;rw[mP (e0.1 hk).1,hk]
  ·rw[iv e]
 have hfz:eV H H.length (y.l.map f)=some (y.l.map f,H,H.length):=uw (tq hp _);have qZ:=wi hc y.l;unfold gn at hs;by_cases hy:y.l=[]
 ·rw[if_pos hy]at hs
  cases hs;refine j4 (o:=⟨d,.append es bytes dr fH,g⟩) (mv:=false) (v:=dt) (H1:=H) hw (fun cp=>⟨cp,H.length,cp,?_,lD H⟩) (cl H dt m false hr (by rw[nb];exact aw)) aC au low h1 h2 ar aR;rw[n0];simp only[step,hb,wh];rw[hfz,hy];simp only[iO,Mp,if_true,ha];have da:e9 b es dt (s.map f) m:=hr;generalize oM:s.map f=gZ at da;cases da with
  |nil=>rfl
  |emp=>rfl
  |row l ds h gX=>simp[aw.get k hk]
 ·rw[if_neg hy]at hs
  split at hs
  ·rename_i ec
   cases hs
   have aZ:(y.l.map f).isEmpty=false:=by cases wj:y.l with
    |nil=>exact absurd wj hy
    |cons=>rfl
   have py:(bM ((y.l.map f).flatMap aE)=false)=False:=by rw[qZ];simp
   have da:e9 b es dt (s.map f) m:=hr;generalize oM:s.map f=gZ at da;cases da with
   |nil=>
    have dY:s.l=[]:=by cases s<;>simp_all [ad.map,ad.l]
    have n9:(y.l.map f).length*(bytes+1)<=2^40:=by simpa[dY]using ec
    refine j4 (o:=⟨d,.append es bytes dr fH,g⟩) (mv:=true) (v:=.ca H.length es 0 (y.l.map f).length (y.l.map f).length) (H1:=H++[.row es (y.l.map f) false]) hw
     (fun cp=>⟨by simp;omega,H.length,cp,?_,by simp[ei]⟩) (cl _ _ [(H.length,.row es (y.l.map f) false)] true ?_ (aw.fill k hk)) aC au low h1 h2 ar aR
    ·rw[n0]
     simp only[step,hb,wh];rw[hfz];simp only[aZ,fE,if_false,py,ha,n9,if_true]
    ·simp only[dY,iM,ad.map]
     exact .row _ _ (by simpa using hy) aR
   |emp=>
    have dY:s.l=[]:=by cases s<;>simp_all [ad.map,ad.l]
    have n9:(y.l.map f).length*(bytes+1)<=2^40:=by simpa[dY]using ec
    refine j4 (o:=⟨d,.append es bytes dr fH,g⟩) (mv:=true) (v:=.ca H.length es 0 (y.l.map f).length (y.l.map f).length) (H1:=H++[.row es (y.l.map f) false]) hw
     (fun cp=>⟨by simp;omega,H.length,cp,?_,by simp[ei]⟩) (cl _ _ [(H.length,.row es (y.l.map f) false)] true ?_ (aw.fill k hk)) aC au low h1 h2 ar aR
    ·rw[n0]
     simp only[step,hb,wh];rw[hfz];simp only[aZ,fE,if_false,py,ha,n9,if_true]
    ·simp only[dY,iM,ad.map]
     exact .row _ _ (by simpa using hy) aR
   |row l ds hd gX=>
    have dY:s.l.map f=ds:=by cases s<;>simp_all [ad.map,ad.l]
    have hlen:s.l.length=ds.length:=by rw[<-dY,ef]
    have a6:=aw.get k hk;have aK:=sc a6
    refine j4 (o:=⟨d,.append es bytes dr fH,g⟩) (mv:=true) (v:=.ca l es 0 (ds++y.l.map f).length (ds++y.l.map f).length) (H1:=H.set l (.row es (ds++y.l.map f) false)) hw
     (fun cp=>⟨by simpa using cp,l,gX,?_,by simp[ei,aK]⟩) (cl _ _ [(l,.row es (ds++y.l.map f) false)] true ?_ (aw.put k hk)) aC au low h1 h2 ar aR
    ·rw[n0]
     simp only[step,hb,wh];rw[hfz];simp only[aZ,fE,if_false,py,ha,a6,fD];rw[if_pos ⟨trivial,trivial,trivial,trivial,trivial,by rw[hlen]at ec;simpa using ec⟩,tX (qz aK)]
     done
    ·show e9 b es _ (.mk ((s.l++y.l).map f)) _
     rw[jP,dY];exact .row _ _ (by simp[hd]) gX
  ·cases hs
def wk:Nat->List V->bN
 | _,[]=>n3
 |i,v::r=>up (wk (i+1) r) i v
theorem Pk:∀(i:Nat) (vs:List V),Fits (fW i vs) (wk i vs)
 | _,[]=>tn
 |i,v::r=>ZT (Pk (i+1) r) i v
inductive tr (σ:bN) (H:Heap):List mR->List V->Prop
 |nil:tr σ H [] []
 |tmp {t:Nat} {v:V} {rs:List mR} {vs:List V} (h:σ t=v) (r:tr σ H rs vs):tr σ H (.tmp t::rs) (v::vs)
 |cell {a l o:Nat} {sh:Option Nat} {cs:List V} {v:V} {rs:List mR} {vs:List V} (h:σ a=.ptr l o) (a6:H[l]? =some (.cells cs)) (hr:iw cs o sh=some v) (r:tr σ H rs vs):tr σ H (.cell a sh::rs) (v::vs)
theorem tr.eq{au:Env}(ae:Fits au σ):∀{rs:List mR} {vs:List V},tr σ H rs vs->gH au H rs=some vs
 | _,_,.nil=>rfl
 | _,_,.tmp h r=>by simp only[gH,ke,r.eq ae,ae _,h]
 | _,_,.cell h a6 hr r=>by simp only[gH,ke,ae _,h,jR,a6,hr,r.eq ae]
@[simp] theorem aAl {α : Type} {es : Nat} {f : α -> V} {s : ad α} {l n : Nat} : bx (.ca l es 0 n n) = false := rfl
def lG (b n:Nat)(ms:cy)(v v':V)(gN:cy):Prop:=∀H low,Own H ms->b<=low->∃H' low',dQ n H low v=some (v',H',low')/\Own H' gN/\b<=low'
def pz (b n:Nat)(ms:cy)(vs vs':List V)(gN:cy):Prop:=∀H low,Own H ms->b<=low->∃H' low',kT (dQ n) H low vs=some (vs',H',low')/\Own H' gN/\b<=low'
theorem lG.plain{n:Nat}{ms:cy}{v:V}(h:bx v=true):lG b n ms v v ms:=fun H low aw hb=>⟨H,low,by cases n<;>simp[dQ,h],aw,hb⟩
theorem pz.nil{n:Nat}{ms:cy}:pz b n ms [] [] ms:=fun H low aw hb=>⟨H,low,rfl,aw,hb⟩
theorem pz.cons{n:Nat}{ms Z5 Z6:cy}{v v':V}{vs vs':List V}(h:lG b n ms v v' Z5)(r:pz b n Z5 vs vs' Z6):pz b n ms (v::vs) (v'::vs') Z6:=fun H low aw hb=>by
 obtain⟨H1,bG,ab,h3,b1⟩:=h H low aw hb;obtain⟨H2,dB,aj,Pl,ff⟩:=r H1 bG h3 b1;exact⟨H2,dB,by simp only[kT,ab,aj],Pl,ff⟩
theorem lG.aU{n:Nat}{ms gN:cy}{vs vs':List V}(h:pz b n ms vs vs' gN)(hp:cg vs=false):lG b (n+1) ms (.aU vs) (.aU vs') gN:=fun H low aw hb=>by
 obtain⟨H1,bG,ab,h3,b1⟩:=h H low aw hb;exact⟨H1,bG,by simp only[dQ,bx,hp,fE,if_false,ab],h3,b1⟩
theorem lG.agg{n:Nat}{ms gN:cy}{vs vs':List V}(h:pz b n ms vs vs' gN)(hp:cg vs=false):lG b (n+1) ms (.agg vs) (.agg vs') gN:=fun H low aw hb=>by
 obtain⟨H1,bG,ab,h3,b1⟩:=h H low aw hb;exact⟨H1,bG,by simp only[dQ,bx,hp,fE,if_false,ab],h3,b1⟩
def l0 (m:List (Nat × bU)):List (Nat × bU):=m.map fun p=>(p.1,match p.2 with| .row es ds _=>.row es ds true|o=>o)
theorem lG.row{α:Type}{n es:Nat}{f:α->V}{s:ad α}{v:V}{m:List (Nat × bU)}{ms:cy}(k:Nat)(hk:ms[k]? =some m)(hr:ft b es f v s m)(hp:∀a,bx (f a)=true):lG b (n+1) ms v (bb es f s) (ms.set k (l0 m)):=fun H low aw hb=>by
 have nb:∀m',m'=m->ms.set k m'=ms:=fun m' hm=>by
  apply o0;intro i;by_cases e:k=i
  ·subst e;rw[mP (e0.1 hk).1,hk,hm]
  ·rw[iv e]
 rw[Z0];have da:e9 b es v (s.map f) m:=hr;generalize oM:s.map f=gZ at da;clear hr;cases da with
 |nil=>exact⟨H,low,rfl,by rw[nb (l0 []) rfl];exact aw,hb⟩
 |emp=>exact⟨H,low,rfl,by rw[nb (l0 []) rfl];exact aw,hb⟩
 |row l ds h gX=>
  have rL:cg ds=true:=by
   cases s<;>simp[ad.map]at oM;rw[<-oM];exact tq hp _
  refine⟨H.set l (.row es ds true),min low l,?_,aw.put k hk,by omega⟩;simp[dQ,bx,aw.get k hk,rL,bb]
def one:List V->V
 |[x]=>x
 |us=>.aU us
def Jx (rs:List mR)(σ:bN)(H:Heap)(b:Nat)(v:V):Prop:=
 ∃(us:List V) (u:V) (ms gN:cy),tr σ H rs us/\one us=u/\Own H ms/\lG b 16 ms u v gN
theorem Z7{rs:List mR}{us:List V}{v:V}(h:tr σ H rs us)(he:one us=v)(hp:bx v=true):Jx rs σ H b v:=
 ⟨us,v,[],[],h,he,.nil H,.plain hp⟩
theorem Z8{rs:List mR}{us:List V}{u v:V}{ms gN:cy}(h:tr σ H rs us)(he:one us=u)(aw:Own H ms)(hp:lG b 16 ms u v gN):Jx rs σ H b v:=
 ⟨us,u,ms,gN,h,he,aw,hp⟩
theorem Z9{i:Nat}{f:jv}{args caps:List V}{v:V}(cR:aa i=some (.code f))(hl:(args++caps).length<=f.yN)(eN:f.fresh=false)
  (h:e8 aa H.length f.body (wk 0 (args++caps)) H fun x aS H'=>(x=.normal\/x=.ret)/\Jx f.results aS H' H.length v) (hp:bx v=true):
  bY aa (.fn i [] caps) args H=some (v,H,H.length):=by
 obtain⟨x,di,H',low',aS,ab,aj,bC,cu,dv,us,u,ms,gN,gY,oa,amu,vn⟩:=h _ H.length (Pk 0 _) (aF _) (aF _);obtain⟨H2,dB,b4,-,eI⟩:=vn H' low' amu bC;have cW:=gY.eq aj;have hold:old H.length v=true:=Pf hp
 have iC:∀w,w=u->finish f.fresh H w H' low'=some (v,H,H.length):=fun w hw=>by
  subst hw;rw[eN];unfold finish;split
  ·simp_all
  ·simp only[fN,b4,eI,hold,and_self,if_true]
 rw[ou,cR];simp only[iM,iP];rw[if_pos hl,ab];rcases dv with rfl|rfl
 ·simp only[cW]
  match us,oa with
  |[w],hu=>exact iC w hu
  |[],hu=>exact iC _ hu
  |a::b::r,hu=>exact iC _ hu
 ·simp only[cW]
  match us,oa with
  |[w],hu=>exact iC w hu
  |[],hu=>exact iC _ hu
  |a::b::r,hu=>exact iC _ hu
end
end Go.Abs
