/- Texts of this claim, joined and written short by a program. -/
import Derived.Test.YtdiodnpdllkbaaaGreatDoorP13
import Derived.Test.YtdiodnpdllkbaaaGreatDoorP01
import Derived.Test.YtdiodnpdllkbaaaGreatDoorProg
import Derived.Test.YtdiodnpdllkbaaaGreatDoorP04
import Derived.Tactics
import Derived.Tactics2
import Derived.Defers
import Derived.Recover
import Derived.Laws.Pointers
import Derived.TacticsInMore
import Derived.RegionIn
import Derived.LoopNIn
import Derived.RecoverIn
import Derived.Shelf.Strings.OnBuilder
import Derived.Shelf.Strings.Trim
import Derived.Shelf.Small.Bits
import Derived.Shelf.Small.Strs
import Derived.Shelf.Strconv.Atoi
import Derived.Shelf.Strconv.Itoa3
import Derived.Shelf.Strings.Fields
import Derived.Lib.ItoaNum
import Derived.Below
import Derived.Test.YtdiodnpdllkbaaaGreatDoorP00
set_option linter.unusedVariables false
set_option linter.unusedSimpArgs false
set_option linter.unusedSectionVars false
namespace Go.Abs
open Go
variable{C:Ctx}{fid:Nat->Nat}{w w':World}{G G':bX}{H H':Heap}
section
variable{vars:List Nat}{N:Nat}{call:cU}{n:Nat}
theorem c3.pre (cD:C.P.follows .mixedOrders=true)(bu:eZ C fid)(a6:gH C fid call){c d:Code}{ac:cj}(hc:C.code vars N c=some ac){st aF:aq}(he:Abs.exec call n ac st=some (.normal,aF))
  {Out:X->aq->Prop} (h:c3 C fid vars N d aF Out):c3 C fid vars N (.seq c d) st Out:=
 c3.seq (c3.exec cD bu a6 hc he) (fun s hs=>by rw[hs.2];exact h) fun x s hx hs=>absurd hs.1 hx
def ME:List Code->Code->Code
 |[],d=>d
 |c::r,d=>.seq c (ME r d)
def Dt (call:cU)(n:Nat):List cj->aq->Option aq
 |[],st=>some st
 |c::r,st=>match Abs.exec call n c st with
  |some (.normal,s)=>Dt call n r s
  | _=>none
theorem c3.TL (cD:C.P.follows .mixedOrders=true)(bu:eZ C fid)(a6:gH C fid call){d:Code}{Out:X->aq->Prop}:∀{cs:List Code} {G5:List cj},dH (C.code vars N) cs=some G5->∀{st aF:aq},Dt call n G5 st=some aF->
  c3 C fid vars N d aF Out->c3 C fid vars N (ME cs d) st Out
 |[],G5,hm,st,aF,he,h=>by
  simp only[dH,az]at hm
  subst hm
  simp only[Dt,az]at he
  subst he
  exact h
 |c::cs,G5,hm,st,aF,he,h=>by
  simp only[dH]at hm
  split at hm
  ·rename_i a ao
   split at hm
   ·rename_i aO has
    cases hm
    simp only[Dt]at he
    split at he
    ·rename_i s hs
     exact c3.pre cD bu a6 ao hs (c3.TL cD bu a6 has he h)
    ·cases he
   ·cases hm
  ·cases hm
end
structure mK where
 pre:List cj
 R:fc
 post:cj
 o2:List mB
def afg:X->Bool
 | .normal| .ret=>true
 | _=>false
def mK.ends (B:mK)(v:V):X × aq->Bool:=fun(x,s)=>afg x&&match fy s.av s.H B.o2 with
 |some vs=>match finish false [] (jk vs) s.H s.low with
  |some (u,H',l)=>dP u v&&H'.isEmpty&&Nat.beq l 0
  |none=>false
 |none=>false
def mK.ok (B:mK)(call:cU)(n:Nat)(args:List V)(v:V):Bool:=
 match Dt call n B.pre {aG:=[],av:=fQ 0 args,H:=[],low:=0}with
 |some iS=>match cQ call B.R.t0 {iS with aG:=[]} []with
  |some (st,_)=>match B.R.src.ae st.aG st.av with
   | .map l=>match st.H[l]? with
     |some (.map bb)=>match B.R.all call n bb st.H.length n [] (h8 B.R.it st)with
      |some outs=>outs.all fun al=>match exec call n B.post {al with low:=min st.low st.H.length}with
       |some p=>B.ends v p
       |none=>false
      |none=>false
     | _=>false
   | _=>false
  |none=>false
 |none=>false
structure G6 (C:Ctx) (fn:Func) (B:mK):Prop where
 ok:∃(cs:List Code) (G7 G8:Code),fn.body=some (ME cs (.seq G7 G8))/\dH (C.code (Ctx.varsOf fn) fn.ntmps) cs=some B.pre/\yA C (Ctx.varsOf fn) fn.ntmps G7=some B.R/\C.code (Ctx.varsOf fn) fn.ntmps G8=some B.post/\
  dH C.res fn.results.toList=some B.o2/\(fn.name== "runtime.NumGoroutine")=false
theorem mK.calls (cD:C.P.follows .mixedOrders=true)(bu:eZ C fid){call:cU}(a6:gH C fid call){n nD:Nat}{fn:Func}{B:mK}(ab:C.P.funcs[nD]? =some fn)(dr:G6 C fn B){args:List V}{v:V}(hlen:args.length<=fn.ntmps)
  (bx:B.ok call n args v=true) {xs:List Value} (U:aZ C fid G [] w) (ad:aY fid G w args xs):Calls C.P nD ⟨xs⟩ w (fun e w'=>∃x,e=.returned x/\ll C fid G [] w v [] 0 x w'):=by
 obtain⟨cs,G7,G8,hb,G9,afh,afi,s9,-⟩:=dr.ok
 refine TK bu ab hb s9 (fresh:=false) hlen ?_ U ad
 unfold mK.ok at bx
 split at bx
 case h_2=>cases bx
 rename_i iS cd
 split at bx
 case h_2=>cases bx
 rename_i st wr hex
 split at bx
 case h_2=>cases bx
 rename_i l hl
 split at bx
 case h_2=>cases bx
 rename_i bb afj
 split at bx
 case h_2=>cases bx
 rename_i outs afk
 refine c3.TL cD bu a6 G9 cd ?_
 refine c3.seq (c3.aff cD bu a6 (TH afh) hex hl afj afk) (fun s hs=> ?_) fun x s hx hs=>absurd hs.1 hx
 obtain⟨-,al,yC,rfl⟩:=hs
 have h1:=eV.1 bx al yC
 split at h1
 case h_2=>cases h1
 rename_i p hp
 obtain⟨x,s2⟩:=p
 refine(c3.exec cD bu a6 afi hp).mono fun y dL hy=> ?_
 obtain⟨rfl,rfl⟩:=hy
 unfold mK.ends at h1
 simp only[b8]at h1
 obtain⟨h2,ar⟩:=h1
 refine⟨?_,?_⟩
 ·cases y with
  |normal=>exact .inl rfl
  |ret=>exact .inr rfl
  |exit i=>cases h2
 ·split at ar
  case h_2=>cases ar
  rename_i vs cS
  split at ar
  case h_2=>cases ar
  rename_i u H' k iF
  simp only[b8]at ar
  obtain⟨⟨aQ,h5⟩,ft⟩:=ar
  have af:=uO _ _ aQ
  have aj:H'=[]:=by cases H' with
   |nil=>rfl
   |cons=>cases h5
  have bT:k=0:=e8 ft
  subst af;subst aj;subst bT
  exact⟨vs,cS,iF⟩
def mK.jf (B:mK)(call:cU)(n:Nat)(N:Nat):List (List V × V)->Prop
 |[]=>True
 |(aO,v)::r=>(bs v=true/\Nat.ble aO.length N=true/\B.ok call n aO v=true)/\B.jf call n N r
theorem mK.GY (cD:C.P.follows .mixedOrders=true)(bu:eZ C fid){call:cU}(a6:gH C fid call){n nD:Nat}{fn:Func}{B:mK}(ab:C.P.funcs[nD]? =some fn)(dr:G6 C fn B):∀{l:List (List V × V)},B.jf call n fn.ntmps l->og C fid nD (je l):=by
 intro l hl G H w args v xs U eQ lu
 obtain⟨cs,G7,G8,hb,-,-,-,-,Dc⟩:=dr.ok
 rw[Da ab hb Dc]
 induction l with
 |nil=>cases lu
 |cons p r ih=>
  obtain⟨aO,u⟩:=p
  simp only[je]at lu
  cases e:mV args aO with
  |true=>
   rw[e]at lu
   have h':some u=some v:=lu
   cases h'
   have e':=s8 _ _ e
   subst e'
   obtain⟨⟨h1,h2,ar⟩,-⟩:=hl
   have hc:=mK.calls cD bu a6 ab dr (km h2) ar U.apart (c7.oP eQ)
   exact Ci hc fun e w'=>fun⟨x,af,aj⟩=>⟨x,af,aj.beside U h1⟩
  |false=>rw[e]at lu;exact ih hl.2 lu
end Go.Abs
namespace Go.Abs.bw
open Go Go.Abs Go.Proofs
noncomputable section
def C (g:Nat->Option Obj):Ctx:={P:=Tryz.prog,FZ:=some,raw:=fun i=>i==103||i==104||i==211||i==249||i==284||i==356||i==358||i==398||i==402||i==403||i==404||i==405||i==406||i==407||i==408||i==409||i==434||i==435||i==436||i==437||i==438||i==439||i==441||i==442||i==446||i==447||i==448||i==454||i==455||i==456||i==463||i==468,e9:=g,jc:=fun p=>!(p== "names.go:37" ||p== "parser.go:280"),Aa:=[443]}
def afl (i:Nat):Bool:=i==103||i==104||i==211
def TM (i:Nat):Option (List V->Option V):=match i with
 |9=>some Cq
 |27=>some Cr
 |136=>some Cp
 |139=>some Co
 |142=>some F8
 |213=>some KF
 |330=>some KG
 | _=>none
def gf (g:Nat->Option Obj):Nat->Option bY:=fun i=>match TM i with
 |some s=>some (.ext s)
 |none=>match Tryz.prog.funcs[i]? with
  |some f=>match(C g).func f (afl i)with
   |some a=>some (.code a)
   |none=>none
  |none=>none
end
end Go.Abs.bw
namespace Go.Abs.bw
open Go Go.Abs Go.Proofs
set_option maxRecDepth 100000
theorem afm (caps:Array Value):Gd Tryz.prog {target:=.fn (.func 443) caps,args:= #[]}:=by
 refine⟨_,caps,443,caps,rfl,fun w=>⟨by simp[invoke,go_sem],?_⟩⟩
 refine callsDIn_of_wpSIn Tryz.func443 rfl trivial fun as6 cs hu=> ?_
 have hn:Tryz.f443.ntmps=18:=by kernel_rfl
 rw[hn]
 generalize hT:caps++Array.replicate (18-caps.size) undef=T
 have hs:18<=T.size:=by rw[<-hT,Cb,Array.size_replicate];omega
 clear hT
 apply wpSIn_seq
 apply wpSIn_region
 simp[wpOpsSIn,go_sem,recoverD,hu,Exit.thenS]
 apply wpSIn_seq
 apply wpSIn_region
 have as7:∀(A:Array Value) (i:Nat),A.getD i undef=(A[i]?).getD undef:=fun A i=>v8 ..
 have h1:1<T.size:=by omega
 have aQ:4<T.size:=by omega
 have h5:5<T.size:=by omega
 have ft:6<T.size:=by omega
 simp[wpOpsSIn,go_sem,Exit.thenS,Act.eval,Act.put,Array.getElem?_setIfInBounds,h1,aQ,h5,ft]
 refine wpSIn_cond (t:=false) (by simp[Act.eval,Array.getElem?_setIfInBounds,h1,aQ,h5,ft]) ?_
 simp only[hY,if_false]
 refine wpSIn_of_wpIn rfl (wpIn_skip ?_)
 have hr:Tryz.f443.results= #[]:=by kernel_rfl
 have as8:Tryz.f443.resultTypes= #[]:=by kernel_rfl
 simp_all [bodyPostS,results]
 rw[<-hu]
theorem tg{g:Nat->Option Obj}:eZ (C g) id:=⟨fun f i h=>by cases h;rfl,fun i hi caps=>by
 have s3:i∈[443]:=hi
 simp only[dA,sP,or_false]at s3
 subst s3
 exact afm caps⟩
theorem mixed{g:Nat->Option Obj}:(C g).P.follows .mixedOrders=true:=by kernel_rfl
end Go.Abs.bw
namespace Go.Proofs
open Go.Shelf
def Tryz.TN:Go.Shelf.Ren:=⟨fun|156=>9|165=>35|166=>36|169=>37|240=>73|241=>74|276=>137|277=>138|n=>n,fun|31=>24|9=>9|3=>3|4=>4|0=>0|20=>20|72=>91|76=>95|70=>88|37=>89|75=>94|127=>152|164=>238|5=>5|80=>97|n=>n,fun|n=>n⟩
theorem Tryz.TP:Go.Proofs.Lays.n156 Tryz.prog Tryz.TN:=by constructor<;>intros<;>kernel_rfl
theorem Tryz.TQ:Builder.Extra Tryz.prog Tryz.TN:={
 sizeBuilder:=by kernel_rfl
 liesBuilder:=by kernel_rfl
 t5:=Tryz.underlying5
 a5:=Tryz.isAgg5
 z5:=Tryz.sizeOf5
 v5:=Tryz.zeroValue5
 infoByte:=by kernel_rfl
 cellsByte:=by kernel_rfl
 sizeByte:=by kernel_rfl
 neB5:=by decide}
open Go.RowKit in
theorem Tryz.strings_Join_none (a:Option Addr)(c:Nat)(sep:ByteArray)(w:World):
 Calls Tryz.prog 9 #[.slice a 0 c,.string sep] w fun e w'=>e=.returned (.string ⟨#[]⟩)/\w'=w:=Any.strings_Join_none Tryz.TP Tryz.TQ a c sep w
open Go.RowKit in
theorem Tryz.strings_Join (Ha o c:Nat)(xs:List ByteArray)(sep:ByteArray)(w:World)(xX:∀(j:Nat) x,xs[j]? =some x->w.cell? ⟨Ha,o+j,none⟩=some (.string x))(afn:Ha<w.heap.size)(wN:xs.length<=140737488355328)(e4:xs.length<=c)(hlen:(Lib.join (xs.map (·.data.toList)) sep.data.toList).length<=140737488355328):
 Calls Tryz.prog 9 #[.slice (some ⟨Ha,o,none⟩) xs.length c,.string sep] w fun e w'=>e=.returned (.string ⟨(Lib.join (xs.map (·.data.toList)) sep.data.toList).toArray⟩)/\Below w.heap.size w w':=Any.strings_Join Tryz.TP Tryz.TQ Ha o c xs sep w xX afn wN e4 hlen
def Tryz.afo:Go.Shelf.Ren:=⟨fun|161=>330|231=>384|227=>385|233=>386|235=>387|228=>429|197=>430|151=>431|260=>450|152=>451|137=>142|119=>464|224=>465|225=>466|217=>229|266=>327|n=>n,fun|9=>9|4=>4|3=>3|5=>5|117=>445|116=>444|0=>0|124=>448|105=>484|21=>21|119=>304|46=>228|139=>513|138=>512|n=>n,fun|3=>8|4=>9|n=>n⟩
theorem Tryz.afp:Go.Proofs.Lays.n161 Tryz.prog Tryz.afo:=by constructor<;>intros<;>kernel_rfl
open Go.RowKit in
theorem Tryz.strings_TrimLeft_one (s:ByteArray)(c:UInt8)(hc:c.toNat<128)(w:World):
 Calls Tryz.prog 330 #[.string s,.string ⟨#[c]⟩] w fun e w'=>e=.returned (.string ⟨(Lib.trimLeftB s.data.toList c).toArray⟩)/\w'=w:=Any.strings_TrimLeft_one Tryz.afp s c hc w
def Tryz.afq:Go.Shelf.Ren:=⟨fun|125=>213|128=>315|129=>316|n=>n,fun|46=>228|3=>3|51=>291|53=>294|4=>4|5=>5|9=>9|n=>n,fun|n=>n⟩
theorem Tryz.afr:Go.Proofs.Lays.n125 Tryz.prog Tryz.afq:=by constructor<;>intros<;>kernel_rfl
theorem Tryz.bits_Len (x:Int)(w:World)(h0:0<=x)(h1:x<=18446744073709551615):
 Calls Tryz.prog 213 #[.int .u64 x] w fun e w'=>e=.returned (.int .i64 (Lib.bitLen x.toNat))/\w'=w:=Any.bits_Len Tryz.afr x w h0 h1
def Tryz.afs:Go.Shelf.Ren:=⟨fun|137=>142|217=>229|266=>327|n=>n,fun|9=>9|5=>5|3=>3|n=>n,fun|n=>n⟩
theorem Tryz.aft:Go.Proofs.Lays.n137 Tryz.prog Tryz.afs:=by constructor<;>intros<;>kernel_rfl
open Go.RowKit in
theorem Tryz.strings_IndexByte (s:ByteArray)(c:Int)(w:World):
 Calls Tryz.prog 142 #[.string s,.int .u8 c] w fun e w'=>e=.returned (.int .i64 (Lib.indexByte s.data.toList c.toNat.toUInt8))/\w'=w:=Any.strings_IndexByte Tryz.aft s c w
def Tryz.afu:Go.Shelf.Ren:=⟨fun|172=>136|244=>224|245=>225|247=>321|279=>322|280=>323|281=>324|282=>325|287=>378|316=>379|171=>27|205=>380|321=>427|322=>428|243=>71|246=>135|283=>220|284=>221|285=>222|286=>223|129=>316|317=>317|318=>318|319=>319|320=>320|337=>376|338=>377|n=>n,fun|9=>9|3=>3|75=>94|76=>95|4=>4|5=>5|167=>373|37=>89|0=>0|85=>374|2=>2|168=>376|53=>294|175=>424|46=>228|210=>428|127=>152|145=>481|143=>479|21=>21|171=>298|173=>301|212=>371|51=>291|20=>20|213=>372|232=>476|233=>477|80=>97|n=>n,fun|15=>4|16=>5|17=>2|18=>6|19=>7|n=>n⟩
theorem Tryz.afv:Go.Proofs.Lays.n172 Tryz.prog Tryz.afu:=by constructor<;>intros<;>kernel_rfl
open Go.RowKit in
theorem Tryz.strconv_Atoi (s:ByteArray)(n:Int)(hl:s.size<=18)(h:Lib.atoi s.data.toList=some n)(w:World):
 Calls Tryz.prog 136 #[.string s] w fun e w'=>e=.returned (.tuple #[.int .i64 n,.nilIface])/\∃t,w'=Lib.bytesWorld w 5 t:=Any.strconv_Atoi Tryz.afv s n hl h w
def Tryz.afw:Go.Shelf.Ren:=⟨fun|171=>27|243=>71|246=>135|283=>220|284=>221|285=>222|286=>223|129=>316|317=>317|318=>318|319=>319|320=>320|337=>376|338=>377|n=>n,fun|3=>3|9=>9|2=>2|4=>4|171=>298|0=>0|53=>294|37=>89|5=>5|173=>301|212=>371|51=>291|20=>20|213=>372|46=>228|232=>476|233=>477|n=>n,fun|17=>2|18=>6|19=>7|n=>n⟩
theorem Tryz.afx:Go.Proofs.LaysM.n171 Tryz.prog Tryz.afw:=by constructor<;>intros<;>first|kernel_rfl|(constructor<;>intros<;>kernel_rfl)
open Go.RowKit Go.Sort Go.Lib in
theorem Tryz.strconv_Itoa (n:Int)(h0:-9223372036854775808<=n)(h1:n<=9223372036854775807)(w:World)(pM:Lib.TabIs Tryz.prog w "internal/strconv.uint64pow10" .u64 Lib.pow10Tab):
 Calls Tryz.prog 27 #[.int .i64 n] w fun e w'=>e=.returned (.string ⟨(Lib.itoa n).toArray⟩)/\∃k os,w'=grow (w.drewN k) os:=Any.strconv_Itoa Tryz.afx n h0 h1 w pM
def Tryz.afy:Go.Shelf.Ren:=⟨fun|171=>27|243=>71|246=>135|283=>220|284=>221|285=>222|286=>223|129=>316|317=>317|318=>318|319=>319|320=>320|337=>376|338=>377|n=>n,fun|3=>3|9=>9|2=>2|4=>4|171=>298|0=>0|53=>294|37=>89|5=>5|173=>301|212=>371|51=>291|20=>20|213=>372|46=>228|232=>476|233=>477|n=>n,fun|17=>2|18=>6|19=>7|n=>n⟩
theorem Tryz.afz:Go.Proofs.Lays.n171 Tryz.prog Tryz.afy:=by constructor<;>intros<;>kernel_rfl
open Go.RowKit Go.Sort Go.Lib in
theorem Tryz.strconv_Itoa_small (i:Nat)(hi:i<100)(w:World):
 Calls Tryz.prog 27 #[.int .i64 i] w fun e w'=>e=.returned (.string ⟨(Lib.decDigits i).toArray⟩)/\w'=w:=Any.strconv_Itoa_small Tryz.afz i hi w
def Tryz.afA:Go.Shelf.Ren:=⟨fun|157=>139|229=>226|199=>227|261=>326|311=>381|312=>382|n=>n,fun|9=>9|31=>24|3=>3|5=>5|4=>4|119=>304|0=>0|40=>306|152=>379|21=>21|154=>381|51=>291|141=>383|196=>433|193=>430|198=>436|49=>434|194=>431|201=>439|226=>482|46=>228|227=>483|n=>n,fun|0=>1|6=>3|n=>n⟩
theorem Tryz.afB:Go.Proofs.Lays.n157 Tryz.prog Tryz.afA:=by constructor<;>intros<;>kernel_rfl
open Go.RowKit Go.Lib in
theorem Tryz.strings_Fields (s:ByteArray)(w:World)(hs:s.size<4294967281)(afC:∀(j:Nat) b,s.data.toList[j]? =some b->b.toNat<128)(pM:Lib.TabIs Tryz.prog w "strings.asciiSpace" .u8 Lib.asciiSpaceTab):
 Calls Tryz.prog 139 #[.string s] w fun e w'=>
  e=.returned (.slice (some ⟨w.heap.size,0,none⟩) (Lib.fields s.data.toList).length (Lib.fields s.data.toList).length)/\w'=w.alloc (.cells ((Lib.fields s.data.toList).map fun l=>Value.string ⟨l.toArray⟩).toArray 9):=Any.strings_Fields Tryz.afB (by kernel_rfl) (by kernel_rfl) s w hs afC pM
end Go.Proofs
namespace Go.Abs.bw
open Go Go.Abs Go.Proofs
variable{fid:Nat->Nat}{g:Nat->Option Obj}
set_option maxRecDepth 100000 in
theorem vc{i:Nat}{fn:Func}(ab:Tryz.prog.funcs[i]? =some fn)(hb:fn.body.isSome=true)(hn:(fn.name== "runtime.NumGoroutine")=false){R:Value->World->Prop}{xs:List Value}{w:World}
  (h:Calls Tryz.prog i ⟨xs⟩ w fun e w'=>∃x,e=.returned x/\R x w'):rQ (C g).P R ((callFunc i ⟨xs⟩).run (C g).P w):=by
 obtain⟨c,hc⟩:=Option.isSome_iff_exists.1 hb
 rw[Da (C:=C g) ab hc hn];exact h
theorem wR{w:World}{I:Nat->Prop}{s:List UInt8}{x:Value}(h:fz w I (.str s) x):x=.string ⟨⟨s⟩⟩:=by cases h;rfl
theorem TR:Tryz.f9.body.isSome=true:=by kernel_rfl
theorem TS:(Tryz.f9.name== "runtime.NumGoroutine")=false:=by kernel_rfl
theorem afD:Tryz.f142.body.isSome=true:=by kernel_rfl
theorem afE:(Tryz.f142.name== "runtime.NumGoroutine")=false:=by kernel_rfl
theorem afF:Tryz.f136.body.isSome=true:=by kernel_rfl
theorem afG:(Tryz.f136.name== "runtime.NumGoroutine")=false:=by kernel_rfl
theorem afH:Tryz.f139.body.isSome=true:=by kernel_rfl
theorem afI:(Tryz.f139.name== "runtime.NumGoroutine")=false:=by kernel_rfl
theorem afJ{ds:List V}{l:List (List UInt8)}(h:strs ds=some l):ds=l.map .str:=by
 induction ds generalizing l with
 |nil=>cases h;rfl
 |cons v r ih=>
  cases v<;>first|(cases h;done)|skip
  simp only[strs]at h
  obtain⟨m,hm,rfl⟩:=ct.1 h
  rw[ih hm];rfl
theorem TT{w:World}{I:Nat->Prop}:∀{l:List (List UInt8)} {vals:List Value},c7 w I ((l.map V.str).flatMap aE) vals->vals=l.map fun s=>Value.string ⟨⟨s⟩⟩
 |[],vals,h=>by cases h;rfl
 |s::r,vals,h=>by
  rw[eo,kn]at h
  cases h with
  |cons _ x _ xs h1 h2=>
   obtain rfl:=wR h1
   rw[TT h2];rfl
set_option maxRecDepth 100000 in
theorem afK:og (C g) id 9 Cq:=by
 intro G H w args v xs U eQ hs
 unfold Cq at hs
 split at hs
 ·rename_i sep
  cases hs
  cases eQ with
  |cons _ x _ xs h1 fJ=>
   cases fJ with
   |cons _ y _ cR h2 oT=>
    cases oT
    cases h1
    obtain rfl:=wR h2
    refine vc Tryz.func9 TR TS ((Tryz.strings_Join_none none 0 _ w).mono ?_)
    rintro e w' ⟨rfl,rfl⟩
    exact⟨_,rfl,G,U,fun m _=>.refl _ _ _ _,.p _ _ (.str [])⟩
 ·rename_i es ds sep
  split at hs
  ·rename_i l hl
   split at hs
   ·rename_i hc
    obtain⟨rfl,bf,jl,mF⟩:=hc
    cases hs
    obtain rfl:=afJ hl
    cases eQ with
    |cons _ x _ xs h1 fJ=>
     cases fJ with
     |cons _ y _ cR h2 oT=>
      cases oT
      obtain rfl:=wR h2
      generalize lx:l.map V.str=D at h1
      cases h1 with
      |ur _ a cap=>exact absurd (List.map_eq_nil_iff.1 lx) bf
      |list _ _ b o cap vals aW hG hu hr MF=>
       subst lx
       obtain rfl:=TT hr
       have Du:((l.map fun s=>(⟨⟨s⟩⟩:ByteArray)).map (·.data.toList))=l:=by rw[rB];exact List.map_id l
       have hj:=Tryz.strings_Join b o cap (l.map fun s=>⟨⟨s⟩⟩) ⟨⟨sep⟩⟩ w (fun j y hy=>by
        refine hG j _ ?_
        simp only[jy]at hy⊢
        cases aT:l[j]? with
        |none=>rw[aT]at hy;cases hy
        |some z=>rw[aT]at hy;cases hy;rfl) (U.cX b aW).1 (by simp;omega) (by simpa using MF) (by rw[Du];simp only[QJ];omega)
       rw[Du]at hj
       simp only[oG]at hj⊢
       refine vc Tryz.func9 TR TS (hj.mono ?_)
       rintro e w' ⟨rfl,hb⟩
       exact⟨_,rfl,G,U.restore hb.size hb.block,fun m _=>.restore hb.size hb.block hb.os hb.output m _,.p _ _ (.str (Lib.join l sep))⟩
   ·cases hs
  ·cases hs
 ·cases hs
theorem TU:Tryz.f27.body.isSome=true:=by kernel_rfl
theorem TV:(Tryz.f27.name== "runtime.NumGoroutine")=false:=by kernel_rfl
set_option maxRecDepth 100000 in
theorem afL (pM:∀(G:bX) (H:Heap) (w:World),aZ (C g) id G H w->Lib.TabIs Tryz.prog w "internal/strconv.uint64pow10" .u64 Lib.pow10Tab):og (C g) id 27 Cr:=by
 intro G H w args v xs U eQ hs
 unfold Cr at hs
 split at hs
 ·rename_i n
  split at hs
  ·rename_i hn
   cases hs
   obtain⟨k,rfl⟩:=Kg hn.1
   cases eQ with
   |cons _ x _ xs h1 fJ=>
    cases fJ
    cases h1
    have hk:k<10:=by omega
    refine vc Tryz.func27 TU TV ((Tryz.strconv_Itoa_small k (by omega) w).mono ?_)
    rintro e w' ⟨rfl,rfl⟩
    rw[Lib.decDigits_one hk]
    exact⟨_,rfl,G,U,fun m _=>.refl _ _ _ _,.p _ _ (.str _)⟩
  ·split at hs
   ·rename_i hn
    cases hs
    cases eQ with
    |cons _ x _ xs h1 fJ=>
     cases fJ
     cases h1
     refine vc Tryz.func27 TU TV ((Tryz.strconv_Itoa n (by omega) (by omega) w (pM G H w U)).mono ?_)
     rintro e w' ⟨rfl,q,os,rfl⟩
     have dJ:w.heap.size<=(Sort.grow (w.drewN q) os).heap.size:=by simp[Sort.grow,World.drewN]
     have hk:∀b,b<w.heap.size->(Sort.grow (w.drewN q) os).heap[b]? =w.heap[b]? :=fun b hb=>by
      simp only[Sort.grow,World.drewN]
      rw[aaZ hb]
     exact⟨_,rfl,G,U.restore dJ hk,fun m _=>.restore dJ hk rfl rfl m _,.p _ _ (.str _)⟩
   ·cases hs
 ·cases hs
set_option maxRecDepth 100000 in
theorem afM:og (C g) id 142 F8:=by
 intro G H w args v xs U eQ hs
 unfold F8 at hs
 split at hs
 ·rename_i s c
  cases hs
  cases eQ with
  |cons _ x _ xs h1 fJ=>
   cases fJ with
   |cons _ y _ cR h2 oT=>
    cases oT
    cases h2
    obtain rfl:=wR h1
    refine vc Tryz.func142 afD afE ((Tryz.strings_IndexByte _ c w).mono ?_)
    rintro e w' ⟨rfl,rfl⟩
    exact⟨_,rfl,G,U,fun m _=>.refl _ _ _ _,.p _ _ (.int .i64 _)⟩
 ·cases hs
set_option maxRecDepth 100000 in
theorem afN:og (C g) id 136 Cp:=by
 intro G H w args v xs U eQ hs
 unfold Cp at hs
 split at hs
 ·rename_i s
  split at hs
  ·rename_i hl
   obtain⟨n,hn,rfl⟩:=ct.1 hs
   cases eQ with
   |cons _ x _ xs h1 fJ=>
    cases fJ
    obtain rfl:=wR h1
    refine vc Tryz.func136 afF afG ((Tryz.strconv_Atoi ⟨⟨s⟩⟩ n hl hn w).mono ?_)
    rintro e w' ⟨rfl,t,rfl⟩
    have dJ:w.heap.size<=(Lib.bytesWorld w 5 t).heap.size:=by
     unfold Lib.bytesWorld World.freeze
     have h0:w.drew.heap=w.heap:=rfl
     split<;>simp[h0]
    have hk:∀b,b<w.heap.size->(Lib.bytesWorld w 5 t).heap[b]? =w.heap[b]? :=fun b hb=>by
     have h1:(w.drew.alloc (.cells (Lib.bytesCells w 5 t) 5)).heap[b]? =w.heap[b]? :=alloc_old (w:=w.drew) hb
     unfold Lib.bytesWorld World.freeze
     split
     ·exact h1
     ·show(Array.modify _ _ _)[b]? =_
      rw[Array.getElem?_modify,if_neg (fun e=>by have e':w.heap.size=b:=e
                                                 omega)]
      exact h1
    have Af:(Lib.bytesWorld w 5 t).os=w.os/\(Lib.bytesWorld w 5 t).tape=w.tape/\(Lib.bytesWorld w 5 t).output=w.output:=by
     unfold Lib.bytesWorld World.freeze
     split<;>exact⟨rfl,rfl,rfl⟩
    refine⟨_,rfl,G,U.restore dJ hk,fun m _=>.restore dJ hk Af.1 Af.2.2 m _,.p _ _ (.aU _ _ (.cons _ _ _ _ (.int .i64 n) (.cons _ _ _ _ .ig .nil)))⟩
  ·cases hs
 ·cases hs
theorem TW{w:World}{I:Nat->Prop}:∀(l:List (List UInt8)),c7 w I ((l.map V.str).flatMap aE) (l.map fun x=>Value.string ⟨x.toArray⟩)
 |[]=>.nil
 |a::l=>.cons _ _ _ _ (.str a) (TW l)
set_option maxRecDepth 100000 in
theorem afO (pM:∀(G:bX) (H:Heap) (w:World),aZ (C g) id G H w->Lib.TabIs Tryz.prog w "strings.asciiSpace" .u8 Lib.asciiSpaceTab):og (C g) id 139 Co:=by
 intro G H w args v xs U eQ hs
 unfold Co at hs
 split at hs
 ·rename_i s
  split at hs
  ·rename_i hc
   simp only[b8,decide_eq_true_eq]at hc
   cases hs
   cases eQ with
   |cons _ x _ xs h1 fJ=>
    cases fJ
    obtain rfl:=wR h1
    refine vc Tryz.func139 afH afI ((Tryz.strings_Fields ⟨⟨s⟩⟩ w hc.2 (fun j b hb=> ?_) (pM G H w U)).mono ?_)
    ·have:=eV.1 hc.1 b (hz hb)
     have h':=UInt8.lt_iff_toNat_lt.1 (of_decide_eq_true this)
     simpa using h'
    rintro e w' ⟨rfl,rfl⟩
    refine⟨_,rfl,⟨G.β,fun b=>G.I b\/(b=w.heap.size/\True)⟩,U.sY _ True,fun m _=>.sY _ True m _,?_⟩
    refine .p _ _ ?_
    cases ab:Lib.fields s with
    |nil=>simp only[List.isEmpty_nil,if_true,ja];exact .emp _
    |cons a r=>
     simp only[List.isEmpty_cons,hY,if_false]
     rw[<-oG (f:=V.str)]
     refine .list 1 _ _ 0 _ _ (.inr ⟨rfl,trivial⟩) ?_ (fun d hd=> ?_) (TW (a::r)) (aK _)
     ·intro j x hx
      rw[RA (oQ w _),eO,<-auF]
      exact hx
     ·obtain⟨y,-,rfl⟩:=ey.1 hd
      rfl
  ·cases hs
 ·cases hs
theorem afP:Tryz.f213.body.isSome=true:=by kernel_rfl
theorem afQ:(Tryz.f213.name== "runtime.NumGoroutine")=false:=by kernel_rfl
set_option maxRecDepth 100000 in
theorem afR:og (C g) id 213 KF:=by
 intro G H w args v xs U eQ hs
 unfold KF at hs
 split at hs
 ·rename_i n
  have key:∀k:Nat,(k=0\/k=1\/k=2)->n=(k:Int)->v=.int .i64 (k:Int)->rQ (C g).P (ll (C g) id G H w v H H.length) ((callFunc 213 ⟨xs⟩).run (C g).P w):=fun k hk hn ad=>by
   subst hn;subst ad
   cases eQ with
   |cons _ x _ xs h1 fJ=>
    cases fJ
    cases h1
    refine vc Tryz.func213 afP afQ ((Tryz.bits_Len (k:Int) w (by omega) (by omega)).mono ?_)
    rintro e w' ⟨rfl,rfl⟩
    have:(Lib.bitLen (k:Int).toNat:Int)=(k:Int):=by rcases hk with rfl|rfl|rfl<;>rfl
    exact⟨_,rfl,G,U,fun m _=>.refl _ _ _ _,by rw[this];exact .p _ _ (.int .i64 _)⟩
  split at hs
  ·rename_i h;cases hs;exact key 0 (.inl rfl) h rfl
  ·split at hs
   ·rename_i h;cases hs;exact key 1 (.inr (.inl rfl)) h rfl
   ·split at hs
    ·rename_i h;cases hs;exact key 2 (.inr (.inr rfl)) h rfl
    ·cases hs
 ·cases hs
theorem afS:Tryz.f330.body.isSome=true:=by kernel_rfl
theorem afT:(Tryz.f330.name== "runtime.NumGoroutine")=false:=by kernel_rfl
set_option maxRecDepth 100000 in
theorem afU:og (C g) id 330 KG:=by
 intro G H w args v xs U eQ hs
 unfold KG at hs
 split at hs
 ·rename_i s c
  split at hs
  ·rename_i hc
   cases hs
   cases eQ with
   |cons _ x _ xs h1 fJ=>
    cases fJ with
    |cons _ y _ cR h2 oT=>
     cases oT
     obtain rfl:=wR h1
     obtain rfl:=wR h2
     have ux:c.toNat<128:=by simpa using UInt8.lt_iff_toNat_lt.1 hc
     refine vc Tryz.func330 afS afT ((Tryz.strings_TrimLeft_one ⟨⟨s⟩⟩ c ux w).mono ?_)
     rintro e w' ⟨rfl,rfl⟩
     exact⟨_,rfl,G,U,fun m _=>.refl _ _ _ _,.p _ _ (.str _)⟩
  ·cases hs
 ·cases hs
end Go.Abs.bw
namespace Go.Abs
open Go
def yD (es:Nat):V->Bool
 | .cp| .emp=>true
 | .list bD _=>bD==es
 | _=>false
def el:V->List V
 | .list _ ds=>ds
 | _=>[]
section
variable{call:cU}{ae:ag->V}{H:Heap}{low:Nat}
theorem ly (x:ag):b2 call ae H low (.mv x)=some (ae x,H,low):=rfl
theorem kG (c a b:ag):b2 call ae H low (.pick c a b)=(kR (ae c)).map fun t=>(if t then ae a else ae b,H,low):=rfl
theorem mc (z:List V):b2 call ae H low (.alloc z)=some (.ptr H.length 0,H++[.cells z],low):=rfl
theorem nH (x:ag):b2 call ae H low (.box x)=if bS (aE (ae x))then some (.ptr H.length 0,H++[.cells (aE (ae x))],low)else none:=rfl
theorem jK (sh:Option Nat)(x:ag):b2 call ae H low (.load sh x)=(gN H sh (ae x)).map fun v=>(v,H,low):=rfl
theorem jL (n:Nat)(a x:ag):b2 call ae H low (.store n a x)=(hD H n (ae a) (ae x)).map fun(H',l)=>(.undef,H',min low l):=rfl
theorem jq (op:BinOp)(x y:ag):b2 call ae H low (.bin op x y)=(dB op (ae x) (ae y)).map fun v=>(v,H,low):=rfl
theorem k2 (op:UnOp)(x:ag):b2 call ae H low (.un op x)=(kS op (ae x)).map fun v=>(v,H,low):=rfl
theorem lz (k:Nat)(neg:Bool)(x y:ag):b2 call ae H low (.pt k neg x y)=(oJ k (ae x) (ae y)).map fun e=>(.bool (if neg then !e else e),H,low):=rfl
theorem MG (i:Nat)(a b:List ag):b2 call ae H low (.sS i a b)=some (.fn i (a.map ae) (b.map ae),H,low):=rfl
theorem TX:b2 call ae H low .mkMap=some (.map H.length,H++[.map []],low):=rfl
theorem me (x:ag)(i:Nat):b2 call ae H low (.extract x i)=match ae x with
 | .aU vs=>(vs[i]?).map fun v=>(v,H,low)
 | _=>none:=rfl
theorem afV (off:Nat)(sh:Option Nat)(x:ag):b2 call ae H low (.field off sh x)=match ae x with
 | .agg vs=>(fY vs off sh).map fun v=>(v,H,low)
 | _=>none:=rfl
theorem mf (off:Nat)(x:ag):b2 call ae H low (.fieldAddr off x)=match ae x with
 | .ptr l o=>some (.ptr l (o+off),H,low)
 | .gF l es i f tag=>some (.gF l es i (f+off) tag,H,low)
 | .dn vs f=>some (.dn vs (f+off),H,low)
 | _=>none:=rfl
theorem k3 (f:ag)(args:List ag):b2 call ae H low (.call false f args)=match dX H low (args.map ae)with
 |some (vs,H',low')=>match call (ae f) vs H' with
  |some (v,FV,l)=>if flat v=true/\H'.length<=l then some (v,H,low)else some (v,FV,min low' l)
  |none=>none
 |none=>none:=rfl
theorem lA (f:ag)(args:List ag):b2 call ae H low (.call true f args)=match call (ae f) (args.map ae) H with
 |some (v,H',l)=>some (v,H',min low l)
 |none=>none:=rfl
theorem th (es bytes:Nat)(a b:ag):b2 call ae H low (.append es bytes a b)=step ae H low (.append es bytes a b):=rfl
theorem Dv (es:Nat)(z:List V)(n:Nat)(ps:List (Nat × ag))(jc:Bool):b2 call ae H low (.lit es z n ps jc)=step ae H low (.lit es z n ps jc):=rfl
theorem MH (es:Nat)(z:List V)(b:Nat)(l c:ag):b2 call ae H low (.mkSlice es z b l c)=step ae H low (.mkSlice es z b l c):=rfl
theorem TY (es:Nat)(x:ag)(lo hi mx:Option ag):b2 call ae H low (.pw es x lo hi mx)=step ae H low (.pw es x lo hi mx):=rfl
theorem Hd (k:Nat)(z:V)(x i:ag)(ok:Bool):b2 call ae H low (.lookup k z x i ok)=step ae H low (.lookup k z x i ok):=rfl
theorem TZ (k:Nat)(m x v:ag):b2 call ae H low (.px k m x v)=step ae H low (.px k m x v):=rfl
theorem T0 (m:Bool)(x y:ag):b2 call ae H low (.ug m x y)=step ae H low (.ug m x y):=rfl
theorem T1{x:ag}(es:Nat)(h:yD es (ae x)=true):b2 call ae H low (.len 1 x)=some (.int .i64 (el (ae x)).length,H,low):=by
 show step ae H low (.len 1 x)=_
 cases hx:ae x<;>simp_all [yD,step,el]
theorem afW{es:Nat}{x i:ag}(h:yD es (ae x)=true):b2 call ae H low (.indexAddr es x i)=match kr (ae i)with
  |some k=>((el (ae x))[k]?).map fun d=>(.dn (aE d) 0,H,low)
  |none=>none:=by
 show step ae H low (.indexAddr es x i)=_
 cases hx:ae x<;>simp_all [yD,step,el]<;>cases kr (ae i)<;>rfl
end
@[simp] theorem as9 (k : IntKind) (n : Nat) : kr (.int k (n : Int)) = some n := by simp [kr]
@[simp] theorem iT (H : Heap) : eG H H H.length = false := by simp [eG]
theorem wrap_small{n:Int}(h1:-9223372036854775808<=n)(h2:n<9223372036854775808):IntKind.i64.wrap n=n:=by
 have e:(2^IntKind.i64.bits:Int)=18446744073709551616:=rfl
 have e':(2^(IntKind.i64.bits-1):Int)=9223372036854775808:=rfl
 have s:IntKind.i64.signed=true:=rfl
 simp only[IntKind.wrap,e,e',s,fI,decide_eq_true_eq]
 split<;>omega
theorem fB (e:Env)(t eY:Nat)(v:V):bk (ec e t v) eY=if eY=t then v else bk e eY:=by
 induction e with
 |nil=>
  by_cases h:eY=t
  ·subst h;simp[ec,bk]
  ·simp[ec,bk,h,kp h]
 |cons p r ih=>
  obtain⟨k,u⟩:=p
  simp only[ec]
  split
  ·rename_i hk
   subst hk
   by_cases h:eY=k
   ·subst h;simp[bk]
   ·simp[bk,h,kp h]
  ·rename_i hk
   simp only[bk]
   split
   ·rename_i h
    rw[if_neg (by omega)]
   ·exact ih
def vd (b n i t blk ex:Nat)(body:cj):cj:=
 .seq (.region [⟨some (b,true),.bin .lss (.var i) (.var n),none⟩] none) (.seq (.cond (.var b) (.skip) (.exit ex)) (.seq (.block blk body)
  (.region [⟨some (t,false),.bin .add (.var i) (.const (.int .i64 1)),none⟩,⟨some (i,true),.mv (.tmp t),none⟩] none)))
theorem afX{aa:Nat->Option bY}{b n i t blk ex:Nat}{body:cj}{I:Nat->aq->Prop}{Q:X->aq->Prop}{N:Nat}(wN:N<4611686018427387904)(Sz:b≠i)(hex:ex≠blk)
  (aW:∀k st,I k st->bk st.av i=.int .i64 k/\bk st.av n=.int .i64 N/\st.low<=st.H.length)
  (round:∀k st,k<N->I k st->∃x fU,dx aa body {st with aG:=[],av:=ec st.av b (.bool true)}=some (x,fU)/\
    if x=.normal\/x=.exit blk then bk fU.av i=.int .i64 k/\fU.low<=fU.H.length/\I (k+1) {fU with aG:=[],av:=ec fU.av i (.int .i64 ((k+1:Nat):Int))}else Q x fU)
  (done:∀st,I N st->Q (.exit ex) {st with aG:=[],av:=ec st.av b (.bool false)}):
  ∀j k st,k+j=N->I k st->∃x aF,dx aa (.loop (vd b n i t blk ex body)) st=some (x,aF)/\Q x aF:=by
 have aX:∀k st,I k st->dx aa (.region [⟨some (b,true),.bin .lss (.var i) (.var n),none⟩] none) st=some (.normal,{st with aG:=[],av:=ec st.av b (.bool (decide (k<N)))}):=fun k st h=>by
  obtain⟨h1,h2,ar⟩:=aW k st h
  rw[h6]
  simp[cQ,e3,jq,ag.ae,h1,h2,dB,aq.put,lP ar]
 intro j
 induction j with
 |zero=>
  intro k st hk h
  have:k=N:=by omega
  subst this
  refine⟨.exit ex,_,?_,done st h⟩
  rw[py]
  simp only[vd]
  rw[gn,aX k st h]
  simp only[]
  rw[gn,iO]
  simp[ag.ae,fB,lf]
 |succ j ih=>
  intro k st hk h
  obtain⟨x,fU,h1,h2⟩:=round k st (by omega) h
  have G9:∀r,dx aa (.seq (.block blk body) (.region [⟨some (t,false),.bin .add (.var i) (.const (.int .i64 1)),none⟩,⟨some (i,true),.mv (.tmp t),none⟩] none)) {st with aG:=[],av:=ec st.av b (.bool true)}=r->
    dx aa (vd b n i t blk ex body) st=r:=fun r hr=>by
   simp only[vd]
   rw[gn,aX k st h]
   simp only[]
   rw[gn,iO]
   have hd:decide (k<N)=true:=by simp;omega
   simp[ag.ae,fB,jC,hd,hr]
  by_cases hx:x=.normal\/x=.exit blk
  ·rw[if_pos hx]at h2
   obtain⟨h2,aQ,ar⟩:=h2
   have MI:dx aa (.block blk body) {st with aG:=[],av:=ec st.av b (.bool true)}=some (.normal,fU):=by
    rw[jY,h1]
    rcases hx with rfl|rfl
    ·rfl
    ·simp
   have afY:dx aa (.region [⟨some (t,false),.bin .add (.var i) (.const (.int .i64 1)),none⟩,⟨some (i,true),.mv (.tmp t),none⟩] none) fU=some (.normal,{fU with aG:=[],av:=ec fU.av i (.int .i64 ((k+1:Nat):Int))}):=by
    have hw:IntKind.i64.wrap ((k:Int)+1)=((k+1:Nat):Int):=by rw[wrap_small]<;>omega
    rw[h6]
    simp[cQ,e3,jq,ly,ag.ae,h2,dB,hw,aq.put,bk,lP aQ]
   have o4:=G9 _ (by rw[gn,MI])
   simp only[afY]at o4
   obtain⟨eI,aF,h5,ft⟩:=ih (k+1) _ (by omega) ar
   exact⟨eI,aF,by rw[py,o4];exact h5,ft⟩
  ·rw[if_neg hx]at h2
   have MI:dx aa (.block blk body) {st with aG:=[],av:=ec st.av b (.bool true)}=some (x,fU):=by
    rw[jY,h1]
    cases x with
    |normal=>exact absurd (.inl rfl) hx
    |exit id=>
     have:id≠blk:=fun e=>hx (.inr (by rw[e]))
     simp[this]
    |ret=>rfl
   have o4:=G9 (some (x,fU)) (by
    rw[gn,MI]
    cases x with
    |normal=>exact absurd (.inl rfl) hx
    |exit id=>rfl
    |ret=>rfl)
   refine⟨x,fU,?_,h2⟩
   rw[py,o4]
   cases x with
   |normal=>exact absurd (.inl rfl) hx
   |exit id=>rfl
   |ret=>rfl
end Go.Abs
namespace Go.Abs
open Go
end Go.Abs
namespace Go.Abs.S
open Go Go.Abs
abbrev t0:ag:=.tmp 0
abbrev v0:ag:=.var 0
abbrev t1:ag:=.tmp 1
abbrev v1:ag:=.var 1
abbrev t2:ag:=.tmp 2
abbrev v2:ag:=.var 2
abbrev t3:ag:=.tmp 3
abbrev v3:ag:=.var 3
abbrev t4:ag:=.tmp 4
abbrev v4:ag:=.var 4
abbrev t5:ag:=.tmp 5
abbrev v5:ag:=.var 5
abbrev t6:ag:=.tmp 6
abbrev v6:ag:=.var 6
abbrev t7:ag:=.tmp 7
abbrev ka:ag:=.var 7
abbrev t8:ag:=.tmp 8
abbrev r7:ag:=.var 8
abbrev t9:ag:=.tmp 9
abbrev v9:ag:=.var 9
abbrev t10:ag:=.tmp 10
abbrev v10:ag:=.var 10
abbrev t11:ag:=.tmp 11
abbrev v11:ag:=.var 11
abbrev t12:ag:=.tmp 12
abbrev v12:ag:=.var 12
abbrev t13:ag:=.tmp 13
abbrev He:ag:=.var 13
abbrev t14:ag:=.tmp 14
abbrev wS:ag:=.var 14
abbrev t15:ag:=.tmp 15
abbrev r8:ag:=.var 15
abbrev t16:ag:=.tmp 16
abbrev T2:ag:=.var 16
abbrev t17:ag:=.tmp 17
abbrev t18:ag:=.tmp 18
abbrev T3:ag:=.var 18
abbrev t19:ag:=.tmp 19
abbrev afZ:ag:=.var 19
abbrev t20:ag:=.tmp 20
abbrev v20:ag:=.var 20
abbrev t21:ag:=.tmp 21
abbrev t22:ag:=.tmp 22
abbrev t23:ag:=.tmp 23
abbrev af0:ag:=.var 23
abbrev t24:ag:=.tmp 24
abbrev t25:ag:=.tmp 25
abbrev af1:ag:=.var 25
abbrev t26:ag:=.tmp 26
abbrev af2:ag:=.var 26
abbrev t27:ag:=.tmp 27
abbrev af3:ag:=.var 27
abbrev t28:ag:=.tmp 28
abbrev t29:ag:=.tmp 29
abbrev af4:ag:=.var 29
abbrev t30:ag:=.tmp 30
abbrev v30:ag:=.var 30
abbrev t31:ag:=.tmp 31
abbrev t32:ag:=.tmp 32
abbrev af5:ag:=.var 32
abbrev t33:ag:=.tmp 33
abbrev t34:ag:=.tmp 34
abbrev t35:ag:=.tmp 35
abbrev t36:ag:=.tmp 36
abbrev t37:ag:=.tmp 37
abbrev v37:ag:=.var 37
abbrev t38:ag:=.tmp 38
abbrev t39:ag:=.tmp 39
abbrev t40:ag:=.tmp 40
abbrev t41:ag:=.tmp 41
abbrev t42:ag:=.tmp 42
abbrev af6:ag:=.var 42
abbrev t43:ag:=.tmp 43
abbrev t44:ag:=.tmp 44
abbrev af7:ag:=.var 44
abbrev t45:ag:=.tmp 45
abbrev t46:ag:=.tmp 46
abbrev t47:ag:=.tmp 47
abbrev t48:ag:=.tmp 48
abbrev af8:ag:=.var 48
abbrev t49:ag:=.tmp 49
abbrev t50:ag:=.tmp 50
abbrev t51:ag:=.tmp 51
abbrev t52:ag:=.tmp 52
abbrev t53:ag:=.tmp 53
abbrev t54:ag:=.tmp 54
abbrev t55:ag:=.tmp 55
abbrev t56:ag:=.tmp 56
abbrev t57:ag:=.tmp 57
abbrev t58:ag:=.tmp 58
abbrev t59:ag:=.tmp 59
abbrev t60:ag:=.tmp 60
abbrev t61:ag:=.tmp 61
abbrev t62:ag:=.tmp 62
abbrev t63:ag:=.tmp 63
abbrev t64:ag:=.tmp 64
abbrev t65:ag:=.tmp 65
abbrev t66:ag:=.tmp 66
abbrev t67:ag:=.tmp 67
abbrev t68:ag:=.tmp 68
abbrev t69:ag:=.tmp 69
abbrev t70:ag:=.tmp 70
abbrev t71:ag:=.tmp 71
abbrev t72:ag:=.tmp 72
abbrev t73:ag:=.tmp 73
abbrev MJ:ag:=.var 73
abbrev t74:ag:=.tmp 74
abbrev t75:ag:=.tmp 75
abbrev t76:ag:=.tmp 76
abbrev t77:ag:=.tmp 77
abbrev t78:ag:=.tmp 78
abbrev t79:ag:=.tmp 79
abbrev t80:ag:=.tmp 80
abbrev t81:ag:=.tmp 81
abbrev af9:ag:=.var 81
abbrev t82:ag:=.tmp 82
abbrev MK:ag:=.var 82
abbrev t83:ag:=.tmp 83
abbrev t84:ag:=.tmp 84
abbrev t85:ag:=.tmp 85
abbrev t86:ag:=.tmp 86
abbrev t87:ag:=.tmp 87
abbrev v87:ag:=.var 87
abbrev t88:ag:=.tmp 88
abbrev t89:ag:=.tmp 89
abbrev t90:ag:=.tmp 90
abbrev t91:ag:=.tmp 91
abbrev t92:ag:=.tmp 92
abbrev t93:ag:=.tmp 93
abbrev t94:ag:=.tmp 94
abbrev t95:ag:=.tmp 95
abbrev t96:ag:=.tmp 96
abbrev Hf:ag:=.var 96
abbrev t97:ag:=.tmp 97
abbrev t98:ag:=.tmp 98
abbrev aga:ag:=.var 98
abbrev t99:ag:=.tmp 99
abbrev t100:ag:=.tmp 100
abbrev t101:ag:=.tmp 101
abbrev t102:ag:=.tmp 102
abbrev t103:ag:=.tmp 103
abbrev T4:ag:=.var 103
abbrev t104:ag:=.tmp 104
abbrev t105:ag:=.tmp 105
abbrev v105:ag:=.var 105
abbrev t107:ag:=.tmp 107
abbrev t108:ag:=.tmp 108
abbrev t109:ag:=.tmp 109
abbrev t110:ag:=.tmp 110
abbrev t111:ag:=.tmp 111
abbrev t113:ag:=.tmp 113
abbrev t114:ag:=.tmp 114
abbrev t115:ag:=.tmp 115
abbrev t121:ag:=.tmp 121
abbrev agb:ag:=.var 122
abbrev t123:ag:=.tmp 123
abbrev t124:ag:=.tmp 124
abbrev t125:ag:=.tmp 125
abbrev t126:ag:=.tmp 126
abbrev t127:ag:=.tmp 127
abbrev t128:ag:=.tmp 128
abbrev t129:ag:=.tmp 129
abbrev t130:ag:=.tmp 130
abbrev v130:ag:=.var 130
abbrev t131:ag:=.tmp 131
abbrev t132:ag:=.tmp 132
abbrev t133:ag:=.tmp 133
abbrev t134:ag:=.tmp 134
abbrev t135:ag:=.tmp 135
abbrev t136:ag:=.tmp 136
abbrev t140:ag:=.tmp 140
abbrev t141:ag:=.tmp 141
abbrev t142:ag:=.tmp 142
abbrev c (n:Int):ag:=.const (.int .i64 n)
abbrev cs (l:List UInt8):ag:=.const (.str l)
abbrev h7:ag:=.const (.bool true)
abbrev gI:ag:=.const (.bool false)
abbrev nc:ag:=.const .cp
abbrev fn (i:Nat):ag:=.func i
def r (n:Nat)(o:cH):bO:=⟨some (n,false),o,none⟩
def o (n:Nat)(p:cH):bO:=⟨some (n,true),p,none⟩
def n (o:cH):bO:=⟨none,o,none⟩
def rg (n:Nat)(x:ag)(w:Bool)(o:cH):bO:=⟨some (n,false),o,some (x,w)⟩
def m (x:ag):cH:=.mv x
def bF (x:ag):cH:=.load none x
def ls (k:Nat)(x:ag):cH:=.load (some k) x
def st (k:Nat)(a x:ag):cH:=.store k a x
def c9 (k:Nat)(x:ag):cH:=.fieldAddr k x
def iG (k:Nat)(x i:ag):cH:=.indexAddr k x i
def fs (k n:Nat)(x:ag):cH:=.field k (some n) x
def ex (x:ag)(i:Nat):cH:=.extract x i
def gq (k:Nat)(x:ag):cH:=.len k x
def eq (x y:ag):cH:=.bin .eql x y
def ne (x y:ag):cH:=.bin .neq x y
def lt (x y:ag):cH:=.bin .lss x y
def gt (x y:ag):cH:=.bin .gtr x y
def le (x y:ag):cH:=.bin .leq x y
def dc (x y:ag):cH:=.bin .add x y
def no (x:ag):cH:=.un .not x
def hI (x y z:ag):cH:=.pick x y z
def fA (f:ag)(l:List ag):cH:=.call false f l
def ap (e b:Nat)(x y:ag):cH:=.append e b x y
def ij (x:ag):cH:=.box x
def yE (x:ag):cH:=.nilCheck x
def q (a b:cj):cj:=.seq a b
def R (l:List bO):cj:=.region l none
def lB (l:List bO)(b:List Nat):cj:=.region l (some b)
def gg (x:ag)(a b:cj):cj:=.cond x a b
def b0 (i:Nat)(a:cj):cj:=.block i a
def k:cj:=.skip
def e (i:Nat):cj:=.exit i
def rt:cj:=.ret
abbrev nl:V:=.cp
abbrev z:V:=.int .i64 0
abbrev kV:V:=.str []
abbrev em:V:=.emp
end Go.Abs.S
set_option maxRecDepth 100000
namespace Go.Abs.bw
open Go Go.Abs Go.Proofs Go.Abs.S
noncomputable section
def gh:Code->Code| .seq a _=>a|c=>c
def cM:Code->Code| .seq _ a=>a|c=>c
def agc:cj:=q (R [r 14 (iG 2 v10 v12),r 15 (ls 2 t14),o 5 (.alloc [z,z]),n (st 2 v5 t15)]) (R [r 16 (m v3),r 17 (c9 0 v5),r 18 (bF t17),r 19 (.lookup 0 (.int .i64 0) t16 t18 false),r 20 (c9 1 v5),r 21 (bF t20),r 22 (dc t19 t21),n (.px 0 t16 t18 t22)])
def T5:mK:=⟨[R [o 2 (m nc)],R [r 9 (.mkMap),o 3 (m t9)],q (R [o 10 (m v0),o 11 (gq 1 v10),o 12 (m (c 0))]) (b0 0 (.loop (vd 13 11 12 23 1 0 agc))),R [o 6 (m nc)]],⟨[r 24 (m v3)],t24,25,(26,false),[o 27 (ex t26 0)],af3,3,(28,false),[r 29 (ex t28 0),r 30 (ex t28 1),o 7 (m t29),o 8 (m t30)],q (R [r 31 (m r7),o 32 (ne t31 (c 0))]) (gg af5 (R [r 33 (m v6),r 34 (m ka),r 35 (m r7),r 36 (.build [z,z] [(0,1,t34),(1,1,t35)]),r 37 (.lit 2 [z,z] 1 [(0,t36)] true),r 38 (ap 2 16 t33 t37),o 6 (m t38)]) k)⟩,q (R [r 39 (m v6),r 40 (.call true (fn 284) [t39,(fn 285)])]) (q (R [r 41 (m v6),o 2 (m t41)]) rt),[.tmp 2]⟩
def AY:Code:=Tryz.f191.body.getD .skip
theorem agd (g:Nat->Option Obj):G6 (C g) Tryz.f191 T5:=⟨[gh AY,gh (cM AY),gh (cM (cM AY)),gh (cM (cM (cM AY)))],gh (cM (cM (cM (cM AY)))),cM (cM (cM (cM (cM AY)))),by kernel_rfl,by kernel_rfl,by kernel_rfl,by kernel_rfl,by kernel_rfl,by kernel_rfl⟩
def T6:mK:=⟨[R [o 3 (ij v0),o 6 (.alloc [nl,nl,nl]),o 7 (m (c 0))],R [r 18 (ls 9 v3),r 19 (m v1),r 20 (m v2),r 21 (fA (fn 112) [t18,t19,t20]),r 17 (m t21),r 22 (ex t17 0),r 23 (ex t17 1),o 8 (m t22),o 9 (m t23)],q (R [r 24 (m v9),o 25 (ne t24 (c 0))]) (gg af1 (q (R [r 26 (.build [nl,nl,nl] []),r 27 (m v9),n (st 3 v6 t26),o 7 (m t27)]) rt) k),q (R [r 28 (m r7),o 29 (no t28)]) (gg af4 (q (R [r 30 (.build [nl,nl,nl] []),n (st 3 v6 t30),o 7 (m (c 9))]) rt) k),lB [r 32 (c9 0 v3),r 33 (ls 5 t32),r 34 (c9 8 v3),r 35 (bF t34),r 36 (m v1),r 37 (iG 4 t35 t36),r 38 (c9 3 t37),r 39 (bF t38),r 40 (fA (fn 113) [t33,t39]),r 31 (m t40),r 41 (ex t31 0),r 42 (ex t31 1),o 10 (m t41),r 11 (m t42)] [0,1,0,4,0,28,60,124,255,511,1023,1023,2047,8191],R [r 44 (c9 0 v3),r 45 (ls 5 t44),r 46 (m v10),r 47 (fA (fn 114) [t45,t46]),r 43 (m t47),r 48 (ex t43 0),r 49 (ex t43 1),o 12 (.alloc [z,kV,z,z,nl]),n (st 5 v12 t48),r 13 (m t49)],R [r 50 (ls 9 v3),r 51 (.mkMap),r 52 (.build [nl,nl,nl,z,kV,z,z,nl,nl,nl,nl,nl,nl,.iw] [(3,9,t50),(13,1,t51)]),r 53 (ij t52),o 14 (m t53)],lB [r 54 (m wS),r 55 (c9 4 v12),r 56 (bF t55),r 57 (iG 5 t56 (c 2)),r 58 (ls 5 t57),r 59 (ls 9 v3),r 60 (m v1),r 61 (fA (fn 117) [t59,t60]),r 62 (m v2),r 63 (fA (fn 116) [t61,t62]),r 64 (fA (fn 115) [t54,t58,t63])] [0,0,2,6,14,0,0,96,0,480,1023],R [r 65 (m wS),r 66 (m wS),r 67 (yE t66),r 68 (c9 12 t67),r 69 (bF t68),r 70 (.lit 1 [nl] 1 [(0,t69)] true),r 71 (fA (fn 118) [t70]),r 72 (yE t65),r 73 (c9 0 t72),r 74 (c9 0 t73),n (st 1 t74 t71)]],⟨[r 75 (m wS),r 76 (yE t75),r 77 (c9 13 t76),r 78 (bF t77)],t78,79,(80,false),[o 81 (ex t80 0)],af9,1,(82,false),[r 83 (ex t82 1),o 16 (.alloc [z,z,z]),n (st 3 T2 t83)],lB [r 84 (m wS),r 85 (m wS),r 86 (yE t85),r 87 (c9 0 t86),r 88 (c9 2 t87),r 89 (bF t88),r 90 (ls 3 T2),r 91 (.lit 3 [z,z,z] 1 [(0,t90)] true),r 92 (ap 3 24 t89 t91),r 93 (yE t84),r 94 (c9 0 t93),r 95 (c9 2 t94),n (st 1 t95 t92)] [0,0,2,6,14,30,0,64,254,511,1023,2047,4095]⟩,q (R [r 96 (m wS),r 97 (yE t96),r 98 (c9 0 t97),r 99 (c9 2 t98),r 100 (bF t99),r 101 (fA (fn 119) [t100,(fn 120)])]) (q (R [r 102 (m wS),r 103 (yE t102),r 104 (c9 0 t103),r 105 (ls 3 t104),n (st 3 v6 t105),o 7 (m (c 0))]) rt),[.cell 6 (some 3),.tmp 7]⟩
def r9:Code:=Tryz.f49.body.getD .skip
theorem age (g:Nat->Option Obj):G6 (C g) Tryz.f49 T6:=⟨[gh r9,gh (cM r9),gh (cM (cM r9)),gh (cM (cM (cM r9))),gh (cM (cM (cM (cM r9)))),gh (cM (cM (cM (cM (cM r9))))),gh (cM (cM (cM (cM (cM (cM r9)))))),gh (cM (cM (cM (cM (cM (cM (cM r9))))))),gh (cM (cM (cM (cM (cM (cM (cM (cM r9))))))))],gh (cM (cM (cM (cM (cM (cM (cM (cM (cM r9))))))))),cM (cM (cM (cM (cM (cM (cM (cM (cM (cM r9))))))))),by kernel_rfl,by kernel_rfl,by kernel_rfl,by kernel_rfl,by kernel_rfl,by kernel_rfl⟩
variable (g:Nat->Option Obj)
theorem agf:T5.jf (cu (gf g) 60) 60 Tryz.f191.ntmps Rr:=⟨⟨by kernel_rfl,by kernel_rfl,by kernel_rfl⟩,⟨by kernel_rfl,by kernel_rfl,by kernel_rfl⟩,⟨by kernel_rfl,by kernel_rfl,by kernel_rfl⟩,⟨by kernel_rfl,by kernel_rfl,by kernel_rfl⟩,trivial⟩
def sa:Nat->Option bY:=over (gf g) 191 (je Rr)
end
end Go.Abs.bw
set_option maxRecDepth 100000
namespace Go.Abs.bw
open Go Go.Abs Go.Proofs
noncomputable section
variable (g:Nat->Option Obj)
def T7:List V:=[.str [50]]
def T8:V:=au 3
theorem agh:cu (sa g) 200 (.fn 28 [] []) T7 []=some (T8,[],0):=by kernel_rfl
def T9:List V:=[.str [48]]
def Ua:V:=au 3
theorem agi:cu (sa g) 200 (.fn 28 [] []) T9 []=some (Ua,[],0):=by kernel_rfl
def Ub:List V:=[.str [115]]
def Uc:V:=au 1
theorem agj:cu (sa g) 200 (.fn 28 [] []) Ub []=some (Uc,[],0):=by kernel_rfl
def Ud:List V:=[.str [114]]
def Ue:V:=au 1
theorem agk:cu (sa g) 200 (.fn 28 [] []) Ud []=some (Ue,[],0):=by kernel_rfl
def Uf:List V:=[.str [97]]
def Ug:V:=au 1
theorem agl:cu (sa g) 200 (.fn 28 [] []) Uf []=some (Ug,[],0):=by kernel_rfl
def Uh:List V:=[.str [111]]
def Ui:V:=au 1
theorem agm:cu (sa g) 200 (.fn 28 [] []) Uh []=some (Ui,[],0):=by kernel_rfl
def Uj:List V:=[.str [112]]
def Uk:V:=au 1
theorem agn:cu (sa g) 200 (.fn 28 [] []) Uj []=some (Uk,[],0):=by kernel_rfl
def Ul:List V:=[.str [49]]
def Um:V:=au 3
theorem ago:cu (sa g) 200 (.fn 28 [] []) Ul []=some (Um,[],0):=by kernel_rfl
def Un:List (List V × V):=[(T7,T8),(T9,Ua),(Ub,Uc),(Ud,Ue),(Uf,Ug),(Uh,Ui),(Uj,Uk),(Ul,Um)]
theorem agp:jf (sa g) 200 28 Un:=⟨⟨by kernel_rfl,agh g⟩,⟨⟨by kernel_rfl,agi g⟩,⟨⟨by kernel_rfl,agj g⟩,⟨⟨by kernel_rfl,agk g⟩,⟨⟨by kernel_rfl,agl g⟩,⟨⟨by kernel_rfl,agm g⟩,⟨⟨by kernel_rfl,agn g⟩,⟨⟨by kernel_rfl,ago g⟩,trivial⟩⟩⟩⟩⟩⟩⟩⟩
def Hg:Nat->Option bY:=over (sa g) 28 (je Un)
def Uo:List V:=[uq]
def Up:V:=.bool true
theorem agq:cu (Hg g) 200 (.fn 90 [] []) Uo []=some (Up,[],0):=by kernel_rfl
def Uq:List (List V × V):=[(Uo,Up)]
theorem agr:jf (Hg g) 200 90 Uq:=⟨⟨by kernel_rfl,agq g⟩,trivial⟩
def Hh:Nat->Option bY:=over (Hg g) 90 (je Uq)
end
end Go.Abs.bw
set_option maxRecDepth 100000
namespace Go.Abs.bw
open Go Go.Abs Go.Proofs
noncomputable section
variable (g:Nat->Option Obj)
def Ur:List V:=[uq]
def Us:V:=.aU [.agg [.list 4 [.agg [au 0,.str [115],au 1,au (-1)],.agg [au 1,.str [114],au 3,au (-1)],.agg [au 4,.str [97],au 5,au 3],.agg [au 3,.str [111],au 7,au (-1)],.agg [au 6,.str [112],au 9,au 7]],.list 1 [au (-1),au 0,au (-1),au 1,au (-1),au 2,au 0,au 3,au (-1),au 4,au 0,au (-1),au (-1),au (-1),au (-1),au 4,au (-1),au (-1),au 1,au 4]],.cp,au 0]
theorem ags:cu (Hh g) 200 (.fn 94 [] []) Ur []=some (Us,[],0):=by kernel_rfl
def Ut:List (List V × V):=[(Ur,Us)]
theorem agt:jf (Hh g) 200 94 Ut:=⟨⟨by kernel_rfl,ags g⟩,trivial⟩
def Hi:Nat->Option bY:=over (Hh g) 94 (je Ut)
def Uu:List V:=[uq,au 14]
def Uv:V:=.list 1 [au 4]
theorem agu:cu (Hi g) 200 (.fn 279 [] []) Uu []=some (Uv,[],0):=by kernel_rfl
def Uw:List (List V × V):=[(Uu,Uv)]
theorem agv:jf (Hi g) 200 279 Uw:=⟨⟨by kernel_rfl,agu g⟩,trivial⟩
def Dw:Nat->Option bY:=over (Hi g) 279 (je Uw)
end
end Go.Abs.bw
