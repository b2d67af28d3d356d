/- Texts of this claim, joined and written short by a program. -/
import Derived.Test.YtemakagmboeodaaGreatDoorP04
import Derived.Laws.BytesString
import Derived.Test.YtemakagmboeodaaGreatDoorP00
import Derived.RangeFuncRecord
import Derived.OrdersIn
set_option linter.unusedVariables false
set_option linter.unusedSimpArgs false
set_option linter.unusedSectionVars false
namespace Go.Abs
open Go
variable{C:Ctx}{fid:Nat->Nat}{w w':World}{G G':bw}{H:Heap}
variable{vars:List Nat}{ag:ah->V}{ρ:Operand->Value}{low low':Nat}{v:V}{H':Heap}{pos:String}{cF:b8}{o:Oper}
theorem KD:∀{ds:List V} {s:List UInt8} {vals:List Value},bytesOf ds=some s->aW fid G w (ds.flatMap aL) vals->∃ko:List Int,vals=ko.map (Value.int .u8)/\s=ko.map fun n=>UInt8.ofNat n.toNat
 |[],s,vals,h,hr=>by
  simp only[bytesOf,ay]at h;subst h;cases hr;exact⟨[],rfl,rfl⟩
 |d::ds,s,vals,h,hr=>by
  unfold bytesOf at h;split at h
  ·rename_i q;cases q
  ·rename_i n r q
   cases q;obtain⟨t,ht,rfl⟩:=bW.1 h;simp only[j0,aL,kE,ij]at hr;cases hr with
   |cons _ x _ xs hx hs=>
    obtain⟨ko,rfl,rfl⟩:=KD ht hs;exact⟨n::ko,by rw[hx.gH];rfl,rfl⟩
  ·cases h
theorem KE:∀(ko:List Int) (b:ByteArray),ko.foldl (fun r n=>r.push (UInt8.ofNat n.toNat)) b=⟨(b.data.toList++ko.map fun n=>UInt8.ofNat n.toNat).toArray⟩
 |[],b=>by simp
 |n::ko,b=>by
  simp only[xl,KE ko,cW];congr 1;simp[ByteArray.push]
theorem Wd (aa:aQ C fid G H w)(aE:eo C fid vars G w ag ρ){s d:TypeId}{x:Operand}(ho:o.op=.convert s d x){bY:ah}(hc:C.ca vars pos o.op=some (.p2 bY))(he:step ag H low (.p2 bY)=some (v,H',low')):
  cv C fid G H w low ((execOp ρ o).run C.P w) v H' low':=by
 rw[ho]at hc;simp only[Ctx.ca]at hc;split at hc
 ·cases hc
 ·rename_i e We h1 h2 aq
  split at hc
  ·rename_i bf
   simp only[ay,b8.p2.injEq]at hc;subst hc;have ad:=aE x We aq;simp only[step]at he;split at he
   ·rename_i ds hd
    obtain⟨t,ht,he⟩:=bW.1 he;simp only[a6]at he;obtain⟨rfl,rfl,rfl⟩:=he;obtain⟨dd,cap,hx,a8⟩:=xU aa ad hd
    have bR:(convert s d (ρ x)).run C.P w=.ok (.string ⟨t.toArray⟩) w:=by
     rw[hx,run_convert_bytes_string w s d e dd ds.length cap h1 bf h2];cases dd with
     |none=>
      have:ds=[]:=by
       cases nn:ds with
       |nil=>rfl
       |cons a r=>
        obtain⟨b,off,vals,hb,-⟩:=a8 (by rw[nn];simp);cases hb
      subst this;simp only[bytesOf,ay]at ht;subst ht;simp[Conv.bytesToString,Sem.run_pure];rfl
     |some a=>
      have key:∃ko:List Int,(loadCells a ds.length).run C.P w=.ok (ko.map (Value.int .u8)).toArray w/\t=ko.map fun n=>UInt8.ofNat n.toNat:=by
       by_cases bb:ds=[]
       ·subst bb
        simp only[bytesOf,ay]at ht;subst ht;exact⟨[],by simp[loadCells,loadCellsFrom,Sem.run_pure],rfl⟩
       ·obtain⟨b,off,vals,hb,ew,dU,hu⟩:=a8 bb
        cases hb;obtain⟨ko,rfl,hs⟩:=KD ht dU;refine⟨ko,?_,hs⟩
        have hl:ds.length=(ko.map (Value.int .u8)).length:=by
         have:=dU.length;rw[j5 hu]at this;simpa using this.symm
        rw[hl];exact run_loadCells_list (P:=C.P) w ⟨b,off,none⟩ _ (fun j v hj=>by rw[Addr.add_lit];exact ew j v hj)
      obtain⟨ko,fe,rfl⟩:=key;rw[run_bytesToString w a ds.length cap ko fe,KE];simp
    exact .same aa (x:=.string ⟨t.toArray⟩) (by unfold execOp;rw[ho];simp only[Sem.run_bind,bR];rfl) (by
     have:=aZ.p (fid:=fid) (G:=G) (w:=w) (.str t) _ (.str t);exact this)
   ·cases he
  ·cases hc
 ·cases hc
theorem EM{bI:Nat}{k:V}:∀{bA:List (V × V)},iP bI k bA=some none->nb bI k bA=bA
 |[],_=>rfl
 |(bJ,v)::r,h=>by
  simp only[iP]at h;split at h
  ·cases h
  ·rename_i he
   simp[nb,he,EM h]
  ·cases h
theorem KF{k:TypeId}{bI:Nat}{d:TypeDesc}(hk:C.iQ k=some bI)(hd:C.P.underlying k=some d){a:V}{x:Value}(ha:aZ fid G w a x):∀{bA:List (V × V)} {es:List MapEntry} (i:Nat) {r:V} {j:Nat} {z:Value},
  aW fid G w (bA.map (·.1)) (es.map (·.key))->aW fid G w (bA.map (·.2)) (es.map (·.val))->iP bI a bA=some (some r)->Instr.findNow d x es i=some (some (i+j,z))->
  aW fid G w ((nb bI a bA).map (·.1)) ((es.eraseIdx j).map (·.key))/\aW fid G w ((nb bI a bA).map (·.2)) ((es.eraseIdx j).map (·.val))
 |[],[],i,r,j,z,_,_,h,_=>by simp[iP]at h
 |[],_::_,_,_,_,_,h,_,_,_=>by simp at h;cases h
 | _::_,[],_,_,_,_,h,_,_,_=>by simp at h;cases h
 |(bJ,u')::bA,e::es,i,r,j,z,eO,cO,h,af=>by
  simp only[cW]at eO cO;cases eO with
  |cons _ _ _ _ gJ eO=>
   cases cO with
   |cons _ _ _ _ oq cO=>
    simp only[iP]at h;split at h
    ·rename_i he
     obtain⟨hs,-⟩:=vJ hk hd ha gJ he;simp only[Instr.findNow,hs,ay,a6]at af;obtain rfl:j=0:=by omega
     simp only[nb,he,if_true,List.eraseIdx_cons_zero];exact⟨eO,cO⟩
    ·rename_i he
     obtain⟨hs,-⟩:=vJ hk hd ha gJ he;simp only[Instr.findNow,hs]at af;have fx:=qp hk hd ha (i+1) eO cO h;obtain⟨xZ,kO,h1,-,-⟩:=fx;rw[h1]at af;simp only[ay,a6]at af;obtain⟨hj,rfl⟩:=af;obtain rfl:j=xZ+1:=by omega
     have ih:=KF hk hd ha (i+1) eO cO h h1;have bb:¬(gS bI a bJ=some true):=by rw[he];simp
     simp only[nb,bb,if_false,cW,List.eraseIdx_cons_succ];exact⟨.cons _ _ _ _ gJ ih.1,.cons _ _ _ _ oq ih.2⟩
    ·cases h
theorem mr.erase{es:Array MapEntry}{b3:Nat}(h:mr es b3)(j:Nat):mr (es.eraseIdxIfInBounds j) b3:=by
 have hs:(es.eraseIdxIfInBounds j).toList.Sublist es.toList:=by
  rw[Array.toList_eraseIdxIfInBounds];exact List.eraseIdx_sublist _ _
 exact⟨fun x hx=>h.1 x (hs.subset hx),h.2.sublist (hs.map _)⟩
theorem Wf (aa:aQ C fid G H w)(aE:eo C fid vars G w ag ρ){m k:Operand}{t ek x0:TypeId}{u:TypeId}{bc:Array TypeId}(hd:C.P.underlying t=some (.map ek x0))(ht:bc= #[t,u]){am l4:ah}{bI:Nat}(ho:o.op=.call {callee:=.builtin .delete,args:= #[m,k],argTypes:=bc})
  (h1:C.bF vars m=some am) (h2:C.bF vars k=some l4) (h4:C.iQ ek=some bI) (he:step ag H low (.xq bI am l4)=some (v,H',low')):cv C fid G H w low ((execOp ρ o).run C.P w) v H' low':=by
 subst ht;have hm:=aE m am h1;have hk:=aE k l4 h2;obtain⟨Ky,km⟩:=EI h4
 have bR:(execOp ρ o).run C.P w=((Builtin.delete_ #[t,u] o.type #[ρ m,ρ k]).run C.P w).andThen fun z w'=>.ok (.value z) w':=by
  rw[rM ho];simp only[builtin,Sem.run_bind,zU,cW,hP];rfl
 simp only[step]at he;split at he
 ·rename_i ae
  simp only[ay,a6]at he;obtain⟨rfl,rfl,rfl⟩:=he;rw[ae]at hm;have hx:=hm.Ej;refine .same aa (x:=.tuple #[]) ?_ (.aR [] [] .nil);rw[bR,hx];unfold Builtin.delete_;simp[run_underlying hd,rQ h4,Sem.run_pure]
 ·rename_i l ae
  rw[ae]at hm;obtain⟨h0,bN,V8,c8⟩:=hm.mapInv;split at he
  ·rename_i bA hl
   obtain⟨aJ,dF,hr⟩:=aa.obj l h0 bN;rw[hl]at dF;cases dF;obtain⟨tH,js,es,b3,gg,eO,cO,cG⟩:=hr;split at he
   ·rename_i bD kn
    simp only[ay,a6]at he;obtain⟨rfl,rfl,rfl⟩:=he;have aY:h0.b<w.heap.size:=aa.cL l h0 bN
    have fin:∀(pk:Obj) (bG:Array MapEntry),pk=.map bG b3->(Builtin.delete_ #[t,u] o.type #[ρ m,ρ k]).run C.P w=.ok (.tuple #[]) {w with heap:=w.heap.setIfInBounds h0.b pk}->
      aW fid G w ((nb bI (ag l4) bA).map (·.1)) (bG.toList.map (·.key))->aW fid G w ((nb bI (ag l4) bA).map (·.2)) (bG.toList.map (·.val))->mr bG b3->
      cv C fid G H w low ((execOp ρ o).run C.P w) (.aR []) (H.set l (.map (nb bI (ag l4) bA))) (min low l):=by
     rintro pk bG rfl iX x1 x2 EK
     have x3:∀b,b≠h0.b->({w with heap:=w.heap.setIfInBounds h0.b (.map bG b3)}:World).heap[b]? =w.heap[b]? :=fun b bb=>by
      show(w.heap.setIfInBounds h0.b _)[b]? =_;rw[Ui (jn bb)]
     have EL:({w with heap:=w.heap.setIfInBounds h0.b (.map bG b3)}:World).heap[h0.b]? =some (.map bG b3):=by
      show(w.heap.setIfInBounds h0.b _)[h0.b]? =_;simp[aY]
     have du:({w with heap:=w.heap.setIfInBounds h0.b (.map bG b3)}:World).heap.size=w.heap.size:=by simp
     have dV:Ext G w ⟨b0 G.β l h0,G.I⟩ {w with heap:=w.heap.setIfInBounds h0.b (.map bG b3)} l H.length:=
      Ext.write aa bN js rfl (aI _) id rfl du x3 rfl rfl
     refine⟨.tuple #[],_,_,.inl (by rw[bR,iX];rfl),aQ.write aa bN js rfl js (aI _) id rfl du x3 (.map (nb bI (ag l4) bA)) ⟨tH,js,bG,b3,EL,x1.ext aa dV,x2.ext aa dV,EK⟩,
      fun m hm=>dV.le (cA hm (mn _ _)) (aI _),.aR [] [] .nil,ig _ _,by simp⟩
    cases bD with
    |none=>
     have af:=qp h4 km hk 0 eO cO kn;refine fin _ es rfl ?_ (by rw[EM kn];exact eO) (by rw[EM kn];exact cO) cG;unfold Builtin.delete_;simp only[c8];simp[run_underlying hd,vK gg,rQ h4,tG (C:=C) km af,AF _ gg,Sem.run_pure]
    |some r=>
     obtain⟨j,y,af,-,-⟩:=qp h4 km hk 0 eO cO kn;obtain⟨s1,s2⟩:=KF h4 km hk 0 eO cO kn af;rw[dK]at af;refine fin _ (es.eraseIdxIfInBounds j) rfl ?_ (by simpa using s1) (by simpa using s2) (cG.erase _);unfold Builtin.delete_;simp only[c8];simp[run_underlying hd,vK gg,rQ h4,tG (C:=C) km af,AF _ gg,Sem.run_pure]
   ·cases he
  ·cases he
 ·cases he
theorem EN{P:Program}{w:World}(s:ByteArray):(Builtin.lenOf (.string s)).run P w=.ok s.size w:=rfl
theorem AH{P:Program}{t u ty e:TypeId}{i:TypeInfo}(hd:P.underlying t=some (.slice e))(hu:P.underlying u=some .string)(hi:P.info? e=some i){base:Option Addr}{sLen sCap n:Nat}{s:ByteArray}{news:List Value}(hn:s.size=n)
  (hx:(Builtin.firstCells i.size n (.string s)).run P w=.ok news.toArray w) (fG:sLen+n<=sCap):
  (Builtin.append_ #[t,u] ty #[.slice base sLen sCap,.string s]).run P w=
    ((match base with|some a=>storeCells (a.add (sLen*i.size)) news|none=>pure ()).run P w).andThen fun _ w'=>.ok (.slice base (sLen+n) sCap) w':=by
 subst hn;cases base with
 |none=>simp[Builtin.append_,run_underlying hd,run_underlying hu,sizeOf,typeInfo,hi,EN,fG,hx]
 |some a=>simp[Builtin.append_,run_underlying hd,run_underlying hu,sizeOf,typeInfo,hi,EN,fG,hx]
theorem AJ{P:Program}{t u ty e:TypeId}{i:TypeInfo}{bO:Value}(hd:P.underlying t=some (.slice e))(hu:P.underlying u=some .string)(hi:P.info? e=some i)(aP:i.zero=some bO)
  {base:Option Addr} {sLen sCap n:Nat} {s:ByteArray} {olds news:List Value} (hn:s.size=n)
  (hx:(Builtin.firstCells i.size n (.string s)).run P w.drew=.ok news.toArray w.drew) (ho:(Builtin.firstCells i.size sLen (.slice base sLen sCap)).run P w.drew=.ok olds.toArray w.drew)
  (fG:sCap<sLen+n) (hb:(sLen+n)*(i.bytes+1)<=1099511627776):
  ∃eX,sLen+n<=eX/\(Builtin.append_ #[t,u] ty #[.slice base sLen sCap,.string s]).run P w=
   .ok (.slice (some ⟨w.heap.size,0,none⟩) (sLen+n) eX) (w.drew.alloc (.cells (olds.toArray++news.toArray++Builtin.zeroCells bO.cells (eX-(sLen+n))) e)):=by
 subst hn;have h1:¬sLen+s.size<=sCap:=by omega
 have hm:(sLen+s.size)*i.bytes+(sLen+s.size)=(sLen+s.size)*(i.bytes+1):=by rw[Nat.mul_succ]
 have h2:¬(((sLen+s.size:Nat):Int)>9223372036854775807):=by omega
 have aq:=growslice_fits (need:=sLen+s.size) (old:=sCap) (bytes:=i.bytes) fG (by omega);have bf:¬(281474976710656<Builtin.nextslicecap (sLen+s.size) sCap*i.bytes):=by omega
 refine⟨sLen+s.size+(w.tape w.drawn (.appendCap (sLen+s.size) sCap e))%(9223372036854775808-(sLen+s.size)),Da _ _,?_⟩;have EF:¬(9223372036854775807<(sLen:Int)+(s.size:Int)):=by omega
 simp[Builtin.append_,run_underlying hd,run_underlying hu,sizeOf,typeInfo,hi,EN,h1,EF,bf,Question.forced,Question.cut,hx,ho,zeroValue,aP,newRow];congr 2;apply Array.ext';simp
theorem vL{P:Program}{w:World}(size:Nat)(s:List UInt8):(Builtin.firstCells size s.length (.string ⟨⟨s⟩⟩)).run P w=.ok (s.map fun b=>Value.int .u8 b.toNat).toArray w:=by
 have:(ByteArray.extract ⟨⟨s⟩⟩ 0 s.length)=⟨⟨s⟩⟩:=by
  apply ByteArray.ext;simp
 simp[Builtin.firstCells,this,Sem.run_pure]
theorem Wg (aa:aQ C fid G H w)(aE:eo C fid vars G w ag ρ){a b:Operand}{t u e:TypeId}{i:TypeInfo}{bO:Value}{args:Array Operand}{bc:Array TypeId}(ho:o.op=.call {callee:=.builtin .append,args,argTypes:=bc})
  (ha:args= #[a,b]) (ht:bc= #[t,u]) {hD fH:ah} (h1:C.bF vars a=some hD) (h2:C.bF vars b=some fH) (hd:C.P.underlying t=some (.slice e)) (hu:C.P.underlying u=some .string) (hi:C.P.info? e=some i)
  (aP:i.zero=some bO) (ln:bO.cells.size=i.size) (jG:i.size=1) (x4:i.bytes=1) (he:step ag H low (.xr hD fH)=some (v,H',low')):cv C fid G H w low ((execOp ρ o).run C.P w) v H' low':=by
 subst ha;subst ht;have hx:=aE a hD h1;have hy:=aE b fH h2;have iT:0<i.size:=by omega
 have EO:(execOp ρ o).run C.P w=((Builtin.append_ #[t,u] o.type #[ρ a,ρ b]).run C.P w).andThen fun z w'=>.ok (.value z) w':=by
  rw[rM ho];simp only[builtin,Sem.run_bind,zU,cW,hP];rfl
 simp only[step]at he;split at he
 ·rename_i s KG
  rw[KG]at hy;have bR:=EO;rw[hy.kK]at bR;have hn:(⟨⟨s⟩⟩:ByteArray).size=s.length:=rfl;split at he
  ·rename_i lo
   have lp:s=[]:=by simpa using lo
   subst lp
   have same:∀base n cap,ρ a=.slice base n cap->n<=cap->(execOp ρ o).run C.P w=.ok (.value (ρ a)) w:=by
    intro base n cap hs hle;rw[bR,hs,AH (P:=C.P) hd hu hi (n:=0) rfl (vL i.size []) (by simpa using hle)];cases base<;>simp[storeCells]
   split at he
   ·rename_i ae
    simp only[ay,a6]at he;obtain⟨rfl,rfl,rfl⟩:=he;rw[ae]at hx;exact .same aa (same _ _ _ hx.gz (aI _)) hx
   ·rename_i ae
    simp only[ay,a6]at he;obtain⟨rfl,rfl,rfl⟩:=he;rw[ae]at hx;obtain⟨dd,c8⟩:=hx.ns;exact .same aa (same _ _ _ c8 (aI _)) hx
   ·rename_i l bG off len tag ae
    rw[ae]at hx;split at he
    ·rename_i dZ ds fz hl
     split at he
     ·rename_i eD
      simp only[ay,a6]at he;obtain⟨rfl,rfl,rfl⟩:=he;obtain⟨h0,dd,b5,cap,bN,l1,fQ,c8⟩:=hx.kL;obtain⟨aJ,dF,hr⟩:=aa.obj l h0 bN;rw[hl]at dF;cases dF;obtain⟨rfl,rfl,-,lj⟩:=fQ (hr.1.trans eD);exact .same aa (same _ _ _ c8 lj) hx
     ·cases he
    ·cases he
   ·cases he
  ·rename_i lo
   have lp:s≠[]:=by simpa using lo
   generalize dW:(s.map fun c=>V.int .u8 c.toNat)=dR at he;generalize cO:(s.map fun c=>Value.int .u8 c.toNat)=vals;obtain⟨xs,dH⟩:∃xs:List V,dR.length=xs.length:=⟨dR,rfl⟩;have ed:s.length=xs.length:=by rw[<-dH,<-dW,eA]
   have bb:0<dR.length:=by rw[<-dW,eA];exact List.length_pos_iff.2 lp
   have bM:aW fid G w (dR.flatMap aL) vals:=by
    subst dW;subst cO;clear lp lo ed bb dH he KG hy bR hn
    induction s with
    |nil=>exact .nil
    |cons c s ih=>exact .cons _ _ _ _ (.p _ _ (.int _ _)) ih
   have gf:∀d∈dR,(aL d).length=i.size:=by
    intro d hd;rw[<-dW]at hd;obtain⟨c,-,rfl⟩:=dn.1 hd;rw[jG];rfl
   have bx:b7 (dR.flatMap aL)=true:=by
    subst dW
    have key:∀q:List UInt8,b7 ((q.map fun c=>V.int .u8 c.toNat).flatMap aL)=true:=fun q=>by
     induction q with
     |nil=>rfl
     |cons c s ih=>exact(cH _ _).mpr ⟨rfl,ih⟩
    exact key s
   have ot:∀eW:World,eW.heap=w.heap->(Builtin.firstCells i.size xs.length (.string ⟨⟨s⟩⟩)).run C.P eW=.ok vals.toArray eW:=fun eW _=>by
    rw[<-ed,<-cO];exact vL i.size s
   have lq:(⟨⟨s⟩⟩:ByteArray).size=xs.length:=hn.trans ed;have EP:i.bytes+1=2:=by omega
   rw[<-jG]at he;have xW:=Ku bM bx;have jH:vals.length=xs.length*i.size:=by rw[bM.length,j5 gf,dH]
   have fresh:∀base,ρ a=.slice base 0 0->dR.length*(i.bytes+1)<=1099511627776->cv C fid G H w low ((execOp ρ o).run C.P w) (.aN H.length i.size 0 dR.length dR.length) (H++[.row i.size dR false]) low:=by
    intro base hs hb
    have hold:(Builtin.firstCells i.size 0 (.slice base 0 0)).run C.P w.drew=.ok ([]:List Value).toArray w.drew:=by
     cases base<;>simp[Builtin.firstCells,loadCells,loadCellsFrom]
    obtain⟨eX,dB,iX⟩:=AJ (P:=C.P) (t:=t) (u:=u) (ty:=o.type) hd hu hi aP lq (ot w.drew rfl) hold (by omega) (by rw[dK,<-dH];exact hb);rw[dK,<-dH]at iX dB;refine cv.newRow aa (cap:=eX) (e:=e) iT bb gf (vals:=vals) (rest:=(Builtin.zeroCells bO.cells (eX-dR.length)).toList) ?_ bM ?_ dB (by rw[bR,hs,iX];rfl)
    ·simp
    ·simp only[sH,pW,n3,dK,vG,jH,ln,<-dH,<-pY]
     rw[Nat.add_sub_cancel' dB];exact aI _
   split at he
   ·rename_i ae
    split at he
    ·rename_i hb
     simp only[ay,a6]at he;obtain⟨rfl,rfl,rfl⟩:=he;rw[ae]at hx;exact fresh _ hx.gz (by rw[EP];exact hb)
    ·cases he
   ·rename_i ae
    split at he
    ·rename_i hb
     simp only[ay,a6]at he;obtain⟨rfl,rfl,rfl⟩:=he;rw[ae]at hx;obtain⟨dd,c8⟩:=hx.ns;exact fresh _ c8 (by rw[EP];exact hb)
    ·cases he
   ·rename_i l bG off len tag ae
    rw[ae]at hx;split at he
    ·rename_i dZ ds hl
     split at he
     ·rename_i dy
      obtain⟨rfl,rfl,eD,rfl,rfl,hb⟩:=dy;simp only[ay,a6]at he;obtain⟨rfl,rfl,rfl⟩:=he;obtain⟨h0,dd,b5,cap,bN,l1,fQ,c8⟩:=hx.kL;obtain⟨aJ,dF,hr⟩:=aa.obj l h0 bN;rw[hl]at dF;cases dF;obtain⟨ou,xX,hfz,dT,j7,c,qn,iy,rest,hc,en,gd,dU⟩:=hr;obtain⟨rfl,rfl,kN,lj⟩:=fQ (ou.trans eD);rw[Nat.zero_mul]at c8;rw[dK]at kN;have kM:ds.length=b5:=eD;have pf:iy.length=b5*i.size:=by rw[dU.length,j5 j7,kM]
      have ew:c.size=iy.length+rest.length:=by rw[<-e9,gd,fO]
      have rP:∀d∈ds++dR,(aL d).length=i.size:=fun d hd=>by
       rcases hN.1 hd with q|q
       ·exact j7 d q
       ·exact gf d q
      have xY:aW fid G w ((ds++dR).flatMap aL) (iy++vals):=by rw[C1];exact dU.append bM
      by_cases fG:b5+xs.length<=cap
      ·
       have hmul:(b5+xs.length)*i.size<=c.size:=cA (CZ _ fG) (by rw[<-en];exact kN);rw[pY]at hmul;have cG:=run_storeCells_at C.P h0.b (b5*i.size) qn vals 0 c w hc (by omega) xW
       have hval:(execOp ρ o).run C.P w=.ok (.value (.slice (some ⟨h0.b,0,none⟩) (b5+xs.length) cap)) (w.setRow h0.b (c.toList.take (b5*i.size)++vals++c.toList.drop (b5*i.size+vals.length)).toArray):=by
        rw[bR,c8,AH (P:=C.P) hd hu hi lq (ot w rfl) fG];simp only[Addr.add_lit,dK];simp only[sN]at cG;rw[cG];rfl
       have dV:Ext G w ⟨b0 G.β l {h0 with tag:=b5+dR.length},G.I⟩ (w.setRow h0.b (c.toList.take (b5*i.size)++vals++c.toList.drop (b5*i.size+vals.length)).toArray) l H.length:=
        Ext.write aa bN hfz rfl (by simp only;omega) (fun q=>by omega) rfl (setRow_size _ _) (fun b bb=>setRow_other bb _) rfl rfl
       refine⟨_,_,_,.inl hval,aQ.write aa bN hfz (h':={h0 with tag:=b5+dR.length}) rfl hfz (by simp only;omega) (fun q=>by omega) rfl (setRow_size _ _) (fun b bb=>setRow_other bb _) (.row i.size (ds++dR) false) ?_,
        fun m hm=>dV.le (cA hm (mn _ _)) (aI _),?_,ig _ _,by simp⟩
       ·refine⟨by simp[kM],by simp;omega,hfz,dT,rP,_,qn,iy++vals,rest.drop vals.length,setRow_heap w h0.b c _ qn _ hc,?_,?_,xY.ext aa dV⟩
        ·show h0.ef=_
         rw[en];simp only[pW,fO,sI,xj,e9];omega
        ·rw[IM,gd,<-pf,List.take_left,IY,jl,jl]
         congr 2;rw[CW (by omega),ij];congr 1;omega
       ·rw[<-dH]
        exact .aN l i.size 0 _ _ {h0 with tag:=b5+dR.length} _ _ _ (cM _ _ _) (aI _) (fun _=>⟨by simp,rfl,by rw[dK];exact kN,by omega⟩)
      ·
       have hold:(Builtin.firstCells i.size b5 (.slice (some ⟨h0.b,0,none⟩) b5 cap)).run C.P w.drew=.ok iy.toArray w.drew:=
        xV (gb.qc (w:=w.drew) hc gd) pf
       obtain⟨eX,dB,iX⟩:=AJ (P:=C.P) (t:=t) (u:=u) (ty:=o.type) hd hu hi aP lq (ot w.drew rfl) hold (by omega) (by rw[<-dH,EP];exact hb);have qo:aQ C fid G H w.drew:=aa.hZ rfl;have cP:∀m n,Ext G w G w.drew m n:=fun m n=>Ext.hZ (w:=w) (w':=w.drew) rfl rfl rfl m n
       obtain⟨bq,cc⟩:=aQ.move qo bN hfz (.cells (iy.toArray++vals.toArray++Builtin.zeroCells bO.cells (eX-(b5+xs.length))) e) (b5+dR.length)
        (iy.toArray++vals.toArray++Builtin.zeroCells bO.cells (eX-(b5+xs.length))).size (by omega) (by omega) (.row i.size (ds++dR) false)
        ⟨by simp[kM],by simp;omega,rfl,dT,rP,_,e,iy++vals,(Builtin.zeroCells bO.cells (eX-(b5+xs.length))).toList,j4 _ _,rfl,by simp,aW.mono (G:=G) (w:=w.drew) (G':=⟨b0 G.β l ⟨w.drew.heap.size,b5+dR.length,(iy.toArray++vals.toArray++Builtin.zeroCells bO.cells (eX-(b5+xs.length))).size,false⟩,G.I⟩) (by
         intro x h3 fa;by_cases iW:x=l
         ·subst iW;rw[bN]at fa;cases fa
          exact⟨_,cM _ _ _,by simp only;omega,fun q=>by omega,fun q=>by simp only at q;omega,fun q=>by rw[hfz]at q;cases q⟩
         ·exact⟨h3,by simp only[cZ iW];exact fa,aI _,id,fun _=>⟨rfl,rfl⟩,fun _=>rfl⟩) (fun b pj=>⟨pj,alloc_old (w:=w.drew) (qo.cu b pj).1⟩) (xY.ext aa (cP 0 0))⟩
       refine⟨_,_,_,.inl (by rw[bR,c8,iX];rfl),bq,fun m hm=>(cP m H.length).trans (cc.le (cA hm (mn _ _)) (aI _)),?_,ig _ _,by simp⟩;rw[<-dH];refine .aN l i.size 0 _ _ ⟨w.drew.heap.size,b5+dR.length,_,false⟩ _ _ _ (cM _ _ _) (aI _) (fun _=>⟨by simp,rfl,?_,by omega⟩);simp only[sH,pW,vG,jH,pf,ln,<-pY,dK];have qj:b5+xs.length+(eX-(b5+dR.length))=eX:=by omega
       rw[qj];exact aI _
     ·cases he
    ·cases he
   ·cases he
 ·cases he
end Go.Abs
namespace Go.Abs
open Go
variable{C:Ctx}{fid:Nat->Nat}{w w':World}{G G':bw}{H:Heap}
section
variable{vars:List Nat}{ag:ah->V}{ρ:Operand->Value}{low low':Nat}{v:V}{H':Heap}{o:Oper}
theorem cv.Wh (aa:aQ C fid G H w){low:Nat}{r:Result Next}{s:List UInt8}{c:Array Value}{rest:List Value}{cap:Nat}(hn:0<s.length)
  (hc:c.toList=(s.map fun b=>Value.int .u8 b.toNat)++rest) (dB:cap<=c.size) (hle:s.length<=cap)
  (hr:r=.ok (.value (.slice (some ⟨w.heap.size,0,none⟩) s.length cap)) (w.drew.alloc (.cells c C.vf))):
  cv C fid G H w low r (.aN H.length 1 0 s.length s.length) (H++[.o5 s]) low:=by
 have hC:aQ C fid G H w.drew:=aa.hZ rfl;have cP:∀m n,Ext G w G w.drew m n:=fun m n=>Ext.hZ (w:=w) (w':=w.drew) rfl rfl rfl m n;refine⟨_,_,⟨b0 G.β H.length ⟨w.drew.heap.size,s.length,c.size,false⟩,G.I⟩,.inl hr,hC.push _ _ s.length c.size ⟨rfl,rfl,hn,c,rest,j4 _ _,rfl,hc⟩,fun m _=>(cP m H.length).trans (Ext.push hC _ _ _ m),?_,aI _,by simp⟩;exact .aN _ 1 0 _ _ ⟨w.drew.heap.size,s.length,c.size,false⟩ _ _ _ (cM _ _ _) (aI _) (fun _=>⟨by simp,rfl,by rw[dK,Nat.mul_one];exact dB,hle⟩)
theorem Wi (aa:aQ C fid G H w)(aE:eo C fid vars G w ag ρ){a b:Operand}{t u e:TypeId}{i:TypeInfo}{bO:Value}{args:Array Operand}{bc:Array TypeId}(ho:o.op=.call {callee:=.builtin .append,args,argTypes:=bc})
  (ha:args= #[a,b]) (ht:bc= #[t,u]) {hD fH:ah} (h1:C.bF vars a=some hD) (h2:C.bF vars b=some fH) (hd:C.P.underlying t=some (.slice e)) (hu:C.P.underlying u=some .string) (hi:C.P.info? e=some i)
  (aP:i.zero=some bO) (ln:bO.cells.size=i.size) (jG:i.size=1) (x4:i.bytes=1) (tI:e=C.vf) (he:step ag H low (.xt hD fH)=some (v,H',low')):cv C fid G H w low ((execOp ρ o).run C.P w) v H' low':=by
 subst ha;subst ht;subst tI;have hx:=aE a hD h1;have hy:=aE b fH h2
 have bR:(execOp ρ o).run C.P w=((Builtin.append_ #[t,u] o.type #[ρ a,ρ b]).run C.P w).andThen fun z w'=>.ok (.value z) w':=by
  rw[rM ho];simp only[builtin,Sem.run_bind,zU,cW,hP];rfl
 have xW:∀s:List UInt8,∀x∈s.map (fun b=>Value.int .u8 b.toNat),x.oneCell'=true:=fun s x hx=>by
  obtain⟨b,-,rfl⟩:=dn.1 hx;rfl
 simp only[step]at he;split at he
 ·rename_i s ae ai
  rw[ae]at hx;rw[ai]at hy;rw[hy.kK,hx.gz]at bR;split at he
  ·rename_i lo
   have lp:s=[]:=by simpa using lo
   subst lp;simp only[ay,a6]at he;obtain⟨rfl,rfl,rfl⟩:=he;refine .same aa (x:=.slice none 0 0) ?_ (.p _ _ .ak);rw[bR,AH (P:=C.P) hd hu hi (n:=0) rfl (vL i.size []) (by simp)];rfl
  ·rename_i lo
   have lp:s≠[]:=by simpa using lo
   split at he
   ·rename_i hb
    simp only[ay,a6]at he;obtain⟨rfl,rfl,rfl⟩:=he;have iT:0<s.length:=List.length_pos_iff.2 lp
    obtain⟨eX,dB,iX⟩:=AJ (P:=C.P) (t:=t) (u:=u) (ty:=o.type) (w:=w) (base:=none) (sLen:=0) (sCap:=0) (n:=s.length) (s:=⟨⟨s⟩⟩) (olds:=[]) hd hu hi aP rfl (vL i.size s)
     (by simp[Builtin.firstCells,loadCells,loadCellsFrom]) (by omega) (by rw[x4];omega)
    rw[dK]at iX dB;refine cv.Wh aa (cap:=eX) (rest:=(Builtin.zeroCells bO.cells (eX-s.length)).toList) iT ?_ ?_ dB (by rw[bR,iX];rfl)
    ·simp
    ·simp only[sH,pW,n3,eA,dK,vG,ln,jG]
     omega
   ·cases he
 ·rename_i l es off len tag s ae ai
  rw[ae]at hx;rw[ai]at hy;rw[hy.kK]at bR;split at he
  ·rename_i r hl
   split at he
   ·rename_i dy
    obtain⟨lo,rfl,rfl,rfl,eD,hb⟩:=dy;have lp:s≠[]:=by simpa using lo
    have iT:0<s.length:=List.length_pos_iff.2 lp;simp only[ay,a6]at he;obtain⟨rfl,rfl,rfl⟩:=he;obtain⟨h0,dd,b5,cap,bN,l1,fQ,c8⟩:=hx.kL;obtain⟨aJ,dF,hr⟩:=aa.obj l h0 bN;rw[hl]at dF;cases dF;obtain⟨hfz,ou,ah9,c,rest,hc,en,gd⟩:=hr;obtain⟨rfl,rfl,kN,lj⟩:=fQ (ou.trans eD);rw[Nat.zero_mul]at c8;rw[dK,Nat.mul_one]at kN;subst eD;have ew:c.size=r.length+rest.length:=by rw[<-e9,gd,fO,eA]
    by_cases fG:r.length+s.length<=cap
    ·have cG:=run_storeCells_at C.P h0.b (r.length*i.size) C.vf (s.map fun b=>Value.int .u8 b.toNat) 0 c w hc (by rw[eA,jG];omega) (xW s)
     have hval:(execOp ρ o).run C.P w=.ok (.value (.slice (some ⟨h0.b,0,none⟩) (r.length+s.length) cap)) (w.setRow h0.b (c.toList.take (r.length*i.size)++(s.map fun b=>Value.int .u8 b.toNat)++c.toList.drop (r.length*i.size+(s.map fun b=>Value.int .u8 b.toNat).length)).toArray):=by
      rw[bR,c8,AH (P:=C.P) hd hu hi (n:=s.length) rfl (vL i.size s) fG];simp only[Addr.add_lit,dK];simp only[sN]at cG;rw[cG];rfl
     have dV:Ext G w ⟨b0 G.β l {h0 with tag:=r.length+s.length},G.I⟩ (w.setRow h0.b (c.toList.take (r.length*i.size)++(s.map fun b=>Value.int .u8 b.toNat)++c.toList.drop (r.length*i.size+(s.map fun b=>Value.int .u8 b.toNat).length)).toArray) l H.length:=
      Ext.write aa bN hfz rfl (by simp only;omega) (fun q=>by omega) rfl (setRow_size _ _) (fun b bb=>setRow_other bb _) rfl rfl
     refine⟨_,_,_,.inl hval,aQ.write aa bN hfz (h':={h0 with tag:=r.length+s.length}) rfl hfz (by simp only;omega) (fun q=>by omega) rfl (setRow_size _ _) (fun b bb=>setRow_other bb _) (.o5 (r++s)) ?_,
      fun m hm=>dV.le (cA hm (mn _ _)) (aI _),?_,ig _ _,by simp⟩
     ·refine⟨hfz,by simp,by simp;omega,_,rest.drop s.length,setRow_heap w h0.b c _ _ _ hc,?_,?_⟩
      ·show h0.ef=_
       rw[en];simp only[pW,fO,sI,xj,e9,eA,jG];omega
      ·have bz:r.length*i.size=(r.map fun b=>Value.int .u8 b.toNat).length:=by rw[jG,eA,Nat.mul_one]
       rw[IM,gd,bz,List.take_left,IY,hM,jl,jl];congr 2;rw[CW (by omega),ij,eA,eA];congr 1;omega
     ·exact .aN l 1 0 _ _ {h0 with tag:=r.length+s.length} _ _ _ (cM _ _ _) (aI _) (fun _=>⟨by simp,rfl,by rw[dK,Nat.mul_one];exact kN,fG⟩)
    ·have hold:(Builtin.firstCells i.size r.length (.slice (some ⟨h0.b,0,none⟩) r.length cap)).run C.P w.drew=.ok (r.map fun b=>Value.int .u8 b.toNat).toArray w.drew:=
      xV (gb.qc (w:=w.drew) hc gd) (by rw[eA,jG,Nat.mul_one])
     obtain⟨eX,dB,iX⟩:=AJ (P:=C.P) (t:=t) (u:=u) (ty:=o.type) (w:=w) (n:=s.length) (s:=⟨⟨s⟩⟩) hd hu hi aP rfl (vL i.size s) hold (by omega) (by rw[x4];exact hb);have qo:aQ C fid G H w.drew:=aa.hZ rfl;have cP:∀m n,Ext G w G w.drew m n:=fun m n=>Ext.hZ (w:=w) (w':=w.drew) rfl rfl rfl m n
     obtain⟨bq,cc⟩:=aQ.move qo bN hfz (.cells ((r.map fun b=>Value.int .u8 b.toNat).toArray++(s.map fun b=>Value.int .u8 b.toNat).toArray++Builtin.zeroCells bO.cells (eX-(r.length+s.length))) C.vf) (r.length+s.length)
      ((r.map fun b=>Value.int .u8 b.toNat).toArray++(s.map fun b=>Value.int .u8 b.toNat).toArray++Builtin.zeroCells bO.cells (eX-(r.length+s.length))).size (by omega) (by omega) (.o5 (r++s))
      ⟨rfl,by simp,by simp;omega,_,(Builtin.zeroCells bO.cells (eX-(r.length+s.length))).toList,j4 _ _,rfl,by simp⟩
     refine⟨_,_,_,.inl (by rw[bR,c8,iX];rfl),bq,fun m hm=>(cP m H.length).trans (cc.le (cA hm (mn _ _)) (aI _)),?_,ig _ _,by simp⟩;refine .aN l 1 0 _ _ ⟨w.drew.heap.size,r.length+s.length,_,false⟩ _ _ _ (cM _ _ _) (aI _) (fun _=>⟨by simp,rfl,?_,dB⟩);simp only[sH,pW,eA,vG,ln,jG];omega
   ·cases he
  ·cases he
 ·cases he
end
end Go.Abs
namespace Go.Abs
open Go
variable{C:Ctx}{fid:Nat->Nat}{w w':World}{G G':bw}{H:Heap}
section
variable{vars:List Nat}{ag:ah->V}{ρ:Operand->Value}{low low':Nat}{v:V}{H':Heap}{pos:String}{cF:b8}{o:Oper}
theorem l5{α:Type}{a:Array α}{x y:α}(h:a.toList=[x,y]):a= #[x,y]:=by cases a;simp_all
theorem vM{α:Type}{a:Array α}{x:α}(h:a.toList=[x]):a= #[x]:=by cases a;simp_all
theorem Wj (aa:aQ C fid G H w)(aE:eo C fid vars G w ag ρ){b:Builtin}{args:Array Operand}{bc:Array TypeId}(ho:o.op=.call {callee:=.builtin b,args,argTypes:=bc})
  (hc:C.builtin vars pos b args bc=some cF) (he:step ag H low cF=some (v,H',low')):cv C fid G H w low ((execOp ρ o).run C.P w) v H' low':=by
 unfold Ctx.builtin at hc;split at hc
 ·rename_i x t ha ht
  split at hc
  ·rename_i hu
   obtain⟨bY,hx,rfl⟩:=bW.1 hc;exact Ex aa aE ho (vM ha) (vM ht) hx (by simpa using hu) he
  ·rename_i e hu
   obtain⟨bY,hx,rfl⟩:=bW.1 hc;exact Ex aa aE ho (vM ha) (vM ht) hx (by simpa using⟨e,hu⟩) he
  ·rename_i k e hu
   obtain⟨bY,hx,rfl⟩:=bW.1 hc;exact Ex aa aE ho (vM ha) (vM ht) hx (by simpa using⟨k,e,hu⟩) he
  ·cases hc
 ·rename_i a b t u ha ht
  split at hc
  ·rename_i e e' h1 h2
   split at hc
   ·rename_i i hD fH hi hx hy
    split at hc
    ·cases hc
    ·rename_i hn
     simp only[ay]at hc
     have qq:i.size≠0/\i.zero.map (fun z=>z.cells.size)=some i.size:=by
      simp only[iO,decide_eq_true_eq,bne_iff_ne,ne_eq,not_or,Decidable.not_not]at hn;exact hn
     obtain⟨bO,aP,ln⟩:=bW.1 qq.2;split at hc
     ·subst hc;exact V2 aa aE ho (l5 ha) (l5 ht) hx hy h1 h2 hi aP ln (C5 qq.1) he
     ·subst hc;exact V0 aa aE ho (l5 ha) (l5 ht) hx hy h1 h2 hi aP ln (C5 qq.1) he
   ·cases hc
  ·rename_i e h1 h2
   split at hc
   ·rename_i i hD fH hi hx hy
    split at hc
    ·rename_i hn
     simp only[ay]at hc;simp only[cH,beq_iff_eq]at hn;obtain⟨⟨vN,KH⟩,Wk⟩:=hn;have vN:i.size=1:=by simpa using vN
     obtain⟨bO,aP,ln⟩:=bW.1 Wk;split at hc
     ·rename_i tI
      subst hc;simp only[cH,beq_iff_eq]at tI;exact Wi aa aE ho (l5 ha) (l5 ht) hx hy h1 h2 hi aP (by rw[ln,vN]) vN KH tI.2 he
     subst hc;exact Wg aa aE ho (l5 ha) (l5 ht) hx hy h1 h2 hi aP (by rw[ln,vN]) vN KH he
    ·cases hc
   ·cases hc
  ·cases hc
 ·rename_i m k t u ha ht
  split at hc
  ·rename_i ek x0 am l4 h1 h2 aq
   obtain⟨bI,h4,rfl⟩:=bW.1 hc;have ff:=l5 ha;subst ff;exact Wf aa aE h1 (l5 ht) ho h2 aq h4 he
  ·cases hc
 ·cases hc
 ·rename_i a b ha
  split at hc
  ·rename_i hD fH hx hy
   simp only[ay]at hc;subst hc;exact Kk aa aE ho (l5 ha) (mx:=true) rfl hx hy he
  ·cases hc
 ·rename_i a b t u ha ht
  split at hc
  ·rename_i e e' h1 h2
   split at hc
   ·rename_i n hD fH hi hx hy
    split at hc
    ·cases hc
    ·simp only[ay]at hc;subst hc
     exact V3 (e':=e') aa aE ho (l5 ha) (l5 ht) hx hy h1 hi he
   ·cases hc
  ·cases hc
 ·rename_i a b ha
  split at hc
  ·rename_i hD fH hx hy
   simp only[ay]at hc;subst hc;exact Kk aa aE ho (l5 ha) (mx:=false) rfl hx hy he
  ·cases hc
 ·cases hc
theorem Wl (bu:eh C fid)(aa:aQ C fid G H w)(aE:eo C fid vars G w ag ρ)(jI:low<=H.length)
  (he:step ag H low (C.op vars pos o.op)=some (v,H',low')):cv C fid G H w low ((execOp ρ o).run C.P w) v H' low':=by
 unfold Ctx.op at he;cases hc:C.ca vars pos o.op with
 |none=>rw[hc]at he;simp[step]at he
 |some cF=>
  rw[hc]at he;simp only[sJ]at he;cases c5:o.op with
  |move x=>exact J6 aa aE (.inl c5) hc he
  |assign x=>exact J6 aa aE (.inr c5) hc he
  |pick c a b=>exact U8 aa aE c5 hc he
  |alloc t=>exact Vk aa c5 hc he
  |box t x=>exact Vl aa aE c5 hc he
  |build t parts=>exact VU aa aE c5 hc he
  |buildSlice t l parts=>exact VV aa aE c5 hc he
  |load t a=>exact Vh aa aE c5 hc he
  |store t a x=>exact Vi aa aE c5 hc jI he
  |nilCheck x=>exact U9 aa aE c5 hc he
  |binOp a b c d e=>exact Vx aa aE c5 hc he
  |unOp a b c=>exact Va aa aE c5 hc he
  |convert a b c=>
   rcases(show(∃x,cF=.p2 x)\/∀x,cF≠ .p2 x from by
    cases cF<;>first|exact .inl ⟨_,rfl⟩|exact .inr (by simp))with⟨x,rfl⟩|hnb
   ·exact Wd aa aE c5 hc he
   ·exact Vb aa aE c5 hnb hc he
  |makeInterface a b=>exact Vc aa aE c5 hc he
  |makeFunc a b c=>exact Vd bu aa aE c5 hc he
  |makeMap a b=>exact Vm aa c5 hc he
  |makeSlice a b c=>exact VZ aa aE c5 hc he
  |slice a b c d e=>exact VH aa aE c5 hc he
  |fieldAddr a b c=>exact Vg aa aE c5 hc he
  |field a b c=>exact Vf aa aE c5 hc he
  |indexAddr a b c=>exact VK aa aE c5 hc he
  |index a b c=>exact Vn aa aE c5 hc he
  |lookup a b c d=>exact V6 aa aE c5 hc he
  |mapUpdate a b c d=>exact KB aa aE (.inl c5) hc he
  |insert a b c d=>exact KB aa aE (.inr c5) hc he
  |extract a b=>exact Ve aa aE c5 hc he
  |call c=>
   rw[c5]at hc;obtain⟨callee,args,c6⟩:=c;cases callee with
   |builtin b=>exact Wj aa aE c5 hc he
   |value f=>
    simp only[Ctx.ca]at hc;split at hc
    ·simp only[ay]at hc;subst hc;simp[step]at he
    ·cases hc
   | _=>simp[Ctx.ca]at hc
  | _=>rw[c5]at hc;simp[Ctx.ca]at hc
end
end Go.Abs
namespace Go.Abs
open Go
structure Fr (H:Heap) (low:Nat) (H':Heap) (low':Nat):Prop where
 len:H.length<=H'.length
 low:low'<=low
 same:∀l,l<low'->H'[l]? =H[l]?
variable{H H' H1 cT:Heap}{low low' bm eH:Nat}{ag:ah->V}{v v':V}
theorem Fr.refl (H:Heap)(low:Nat):Fr H low H low:=⟨aI _,aI _,fun _ _=>rfl⟩
theorem Fr.trans (h:Fr H low H1 bm)(k:Fr H1 bm cT eH):Fr H low cT eH:=
 ⟨cA h.len k.len,cA k.low h.low,fun l hl=>(k.same l hl).trans (h.same l (mX hl k.low))⟩
theorem Fr.push (hl:low<=H.length)(o:bd):Fr H low (H++[o]) low:=
 ⟨by simp,aI _,fun l h=>by rw[ft (by omega)]⟩
theorem Fr.set (l:Nat)(o:bd):Fr H low (H.set l o) (min low l):=
 ⟨by simp,ig _ _,fun x h=>by rw[iL (by omega)]⟩
theorem Fr.lift (h:Fr H bm H' eH)(low:Nat):Fr H low H' (min low eH):=
 ⟨h.len,ig _ _,fun l hl=>h.same l (by omega)⟩
theorem Fr.eq (h:Fr H low H' low')(hl:H.length<=low')(he:H'.length=H.length):H'=H:=by
 apply lP;intro l;rcases fF l low' with q|q
 ·exact h.same l q
 ·rw[k6 (by omega),k6 (by omega)]
theorem ER (h:Fr H low H' low')(hm:ec H H' low'=false):H'=H:=by
 simp only[ec,IJ,decide_eq_false_iff_not,bne_eq_false_iff_eq]at hm;exact h.eq (by omega) hm.2
structure x5 (f:Heap->Nat->V->Option (V × Heap × Nat)):Prop where
 ok:∀{H H':Heap} {low low':Nat} {v v':V},f H low v=some (v',H',low')->Fr H low H' low'/\H'.length=H.length
theorem ES{f:Heap->Nat->V->Option (V × Heap × Nat)}(af:x5 f):∀{vs vs':List V} {H H':Heap} {low low':Nat},il f H low vs=some (vs',H',low')->Fr H low H' low'/\H'.length=H.length
 |[],_,_,_,_,_,he=>by
  simp only[il,ay,a6]at he;obtain⟨-,rfl,rfl⟩:=he;exact⟨.refl _ _,rfl⟩
 |v::r,_,_,_,_,_,he=>by
  simp only[il]at he;split at he
  ·rename_i h1
   split at he
   ·rename_i h2
    simp only[ay,a6]at he;obtain⟨-,rfl,rfl⟩:=he;have a:=af.ok h1;have b:=ES af h2;exact⟨a.1.trans b.1,b.2.trans a.2⟩
   ·cases he
  ·cases he
theorem ET:∀(n:Nat),x5 (ea n)
 |0=>by
  refine⟨fun {H H' low low' v v'} he=> ?_⟩;simp only[ea]at he;split at he
  ·simp only[ay,a6]at he
   obtain⟨-,rfl,rfl⟩:=he;exact⟨.refl _ _,rfl⟩
  ·cases he
 |n+1=>by
  refine⟨fun {H H' low low' v v'} he=> ?_⟩;have ih:=fun {vs vs' H H' low low'}=>ES (ET n) (vs:=vs) (vs':=vs') (H:=H) (H':=H') (low:=low) (low':=low');simp only[ea]at he;split at he
  ·simp only[ay,a6]at he
   obtain⟨-,rfl,rfl⟩:=he;exact⟨.refl _ _,rfl⟩
  ·split at he
   ·split at he
    ·rename_i h
     simp only[ay,a6]at he;obtain⟨-,rfl,rfl⟩:=he;exact ih h
    ·cases he
   ·split at he
    ·rename_i h
     simp only[ay,a6]at he;obtain⟨-,rfl,rfl⟩:=he;exact ih h
    ·cases he
   ·split at he
    ·split at he
     ·split at he
      ·simp only[ay,a6]at he
       obtain⟨-,rfl,rfl⟩:=he;split
       ·exact⟨.refl _ _,rfl⟩
       ·exact⟨.set _ _,by simp⟩
      ·split at he
       ·rename_i h
        split at he
        ·split at he
         ·simp only[ay,a6]at he
          obtain⟨-,rfl,rfl⟩:=he;have:=ih h;exact⟨this.1.trans (.set _ _),by simp[this.2]⟩
         ·cases he
        ·cases he
       ·cases he
     ·cases he
    ·cases he
   ·simp only[ay,a6]at he
    obtain⟨-,rfl,rfl⟩:=he;exact⟨.refl _ _,rfl⟩
theorem vO (he:hR H low v=some (v',H',low')):Fr H low H' low'/\H'.length=H.length:=(ET 16).ok he
theorem AK:∀{vs vs':List V} {H H':Heap} {low low':Nat},eL H low vs=some (vs',H',low')->Fr H low H' low'/\H'.length=H.length
 |[],_,_,_,_,_,he=>by
  simp only[eL,ay,a6]at he;obtain⟨-,rfl,rfl⟩:=he;exact⟨.refl _ _,rfl⟩
 |v::r,_,_,_,_,_,he=>by
  simp only[eL]at he;split at he
  ·rename_i h1
   split at he
   ·rename_i h2
    simp only[ay,a6]at he;obtain⟨-,rfl,rfl⟩:=he;have a:=vO h1;have b:=AK h2;exact⟨a.1.trans b.1,b.2.trans a.2⟩
   ·cases he
  ·cases he
theorem Wm{n:Nat}{a x:V}{l:Nat}(he:p6 H n a x=some (H',l)):∃o,H'=H.set l o:=by
 unfold p6 at he
 repeat' split at he
 all_goals first
  |(simp only[ay,a6]at he;obtain⟨rfl,rfl⟩:=he;exact⟨_,rfl⟩)
  |cases he
set_option maxHeartbeats 1000000 in
theorem Wn{op:b8}(hl:low<=H.length)(he:step ag H low op=some (v,H',low')):Fr H low H' low':=by
 cases op with
 |alloc z=>
  simp only[step,ay,a6]at he;obtain⟨-,rfl,rfl⟩:=he;exact .push hl _
 |box x=>
  simp only[step]at he;split at he
  ·simp only[ay,a6]at he
   obtain⟨-,rfl,rfl⟩:=he;exact .push hl _
  ·cases he
 |build z parts=>
  simp only[step]at he;obtain⟨cs,-,he⟩:=bW.1 he;simp only[a6]at he;obtain⟨-,rfl,rfl⟩:=he;exact .refl _ _
 |lit es z len parts gQ=>
  simp only[step]at he;split at he
  ·rename_i h
   have af:=AK h;have nk:low'<=low':=aI _;split at he
   ·split at he
    ·split at he
     ·simp only[ay,a6]at he
      obtain⟨-,rfl,rfl⟩:=he;exact af.1
     ·cases he
    ·split at he
     ·simp only[ay,a6]at he
      obtain⟨-,rfl,rfl⟩:=he;exact af.1
     ·simp only[ay,a6]at he
      obtain⟨-,rfl,rfl⟩:=he;exact af.1.trans (.push (by have:=af.1.low;have:=af.1.len;omega) _)
   ·cases he
  ·cases he
 |store n a x=>
  simp only[step]at he;obtain⟨⟨H1,l⟩,h,he⟩:=bW.1 he;simp only[a6]at he;obtain⟨-,rfl,rfl⟩:=he;obtain⟨o,rfl⟩:=Wm h;exact .set _ _
 |z7 t x=>
  simp only[step]at he;split at he
  ·rename_i h
   simp only[ay,a6]at he;obtain⟨-,rfl,rfl⟩:=he;exact(vO h).1
  ·cases he
 |mkMap=>
  simp only[step,ay,a6]at he;obtain⟨-,rfl,rfl⟩:=he;exact .push hl _
 |mkSlice es z bytes l c=>
  simp only[step]at he
  repeat' split at he
  all_goals first
   |(simp only[ay,a6]at he;obtain⟨-,rfl,rfl⟩:=he;first|exact .refl _ _|exact .push hl _)
   |cases he
 |mZ kind m k x=>
  simp only[step]at he;split at he
  ·rename_i h
   have af:=(vO h).1
   repeat' split at he
   all_goals first
    |(simp only[ay,a6]at he;obtain⟨-,rfl,rfl⟩:=he;exact af.trans (.set _ _))
    |cases he
  ·cases he
 |rh es bytes a b=>
  simp only[step]at he
  repeat' split at he
  all_goals first
   |(simp only[ay,a6]at he;obtain⟨-,rfl,rfl⟩:=he;exact .refl _ _)
   |cases he
 |append es bytes a b=>
  simp only[step]at he;split at he
  ·split at he
   ·rename_i h
    have af:=(AK h).1;have hle:∀x,x<=low->x<=H.length:=fun x hx=>cA hx hl
    repeat' split at he
    all_goals first
     |(simp only[ay,a6]at he;obtain⟨-,rfl,rfl⟩:=he
       first
        |exact af
        |exact af.trans (.push (by have:=af.low;have:=af.len;omega) _)
        |exact af.trans (.set _ _))
     |cases he
   ·cases he
  ·cases he
 |xq kind m k=>
  simp only[step]at he
  repeat' split at he
  all_goals first
   |(simp only[ay,a6]at he;obtain⟨-,rfl,rfl⟩:=he;first|exact .refl _ _|exact .set _ _)
   |cases he
 |xr a b=>
  simp only[step]at he
  repeat' split at he
  all_goals first
   |(simp only[ay,a6]at he;obtain⟨-,rfl,rfl⟩:=he;first|exact .refl _ _|exact .push hl _|exact .set _ _)
   |cases he
 |xt a b=>
  simp only[step]at he
  repeat' split at he
  all_goals first
   |(simp only[ay,a6]at he;obtain⟨-,rfl,rfl⟩:=he;first|exact .refl _ _|exact .push hl _|exact .set _ _)
   |cases he
 |copy es a b=>
  simp only[step]at he
  repeat' split at he
  all_goals first
   |(simp only[ay,a6]at he;obtain⟨-,rfl,rfl⟩:=he;first|exact .refl _ _|exact .set _ _)
   |cases he
 |call raw f args=>simp[step]at he
 |fail=>simp[step]at he
 | _=>
   simp only[step]at he
   repeat' split at he
   all_goals first
    |(cases he;done)
    |(cases he;exact .refl _ _)
    |(simp only[ay,a6]at he;obtain⟨-,rfl,rfl⟩:=he;exact .refl _ _)
    |(obtain⟨_,-,he⟩:=bW.1 he;simp only[a6]at he;obtain⟨-,rfl,rfl⟩:=he;exact .refl _ _)
theorem KI{op:b8}(ht:e2 op=false)(he:step ag H low op=some (v,H',low')):H'=H/\low'=low/\∀cT eH,step ag cT eH op=some (v,cT,eH):=by
 cases op<;>first
  |(simp[e2]at ht;done)
  |skip
 all_goals
  simp only[step]at he⊢
  repeat' split at he
  all_goals first
   |(cases he;done)
   |(simp only[ay,a6]at he;obtain⟨rfl,rfl,rfl⟩:=he;simp_all;done)
   |(obtain⟨x,hx,he⟩:=bW.1 he;simp only[a6]at he;obtain⟨rfl,rfl,rfl⟩:=he;simp_all;done)
theorem x6{ag fy:ah->V}{d:Nat}{x:Option ah}(h:∀y∈x.toList,ag y=fy y):eM ag d x=eM fy d x:=by
 cases x with
 |none=>rfl
 |some y=>simp[eM,h y (by simp)]
theorem Wo{ag fy:ah->V}{op:b8}(h:∀x∈op.operands,ag x=fy x):step ag H low op=step fy H low op:=by
 cases op with
 |build z parts=>
  have:(parts.map fun p=>(p.1,p.2.1,ag p.2.2))=parts.map fun p=>(p.1,p.2.1,fy p.2.2):=mW fun p hp=>by rw[h _ (by simp only[b8.operands,dn];exact⟨p,hp,rfl⟩)]
  simp only[step,this]
 |lit es z len parts gQ=>
  have:(parts.map fun p=>ag p.2)=parts.map fun p=>fy p.2:=mW fun p hp=>h _ (by simp only[b8.operands,dn];exact⟨p,hp,rfl⟩);simp only[step,this]
 |sR i a b=>
  have h1:a.map ag=a.map fy:=mW fun p hp=>h _ (by simp[b8.operands,hp]);have h2:b.map ag=b.map fy:=mW fun p hp=>h _ (by simp[b8.operands,hp]);simp only[step,h1,h2]
 |rf x cS hi=>
  have h0:=h x (by simp[b8.operands]);have h1:∀d,eM ag d cS=eM fy d cS:=fun d=>x6 fun y hy=>h y (by simp only[b8.operands,cY,hN];exact .inr (.inl hy));have h2:∀d,eM ag d hi=eM fy d hi:=fun d=>x6 fun y hy=>h y (by simp only[b8.operands,cY,hN];exact .inr (.inr hy));simp only[step,h0,h1,h2]
 |pZ es x cS hi mx=>
  have h0:=h x (by simp[b8.operands]);have h1:∀d,eM ag d cS=eM fy d cS:=fun d=>x6 fun y hy=>h y (by simp only[b8.operands,cY,hN];exact .inr (.inl (.inl hy)));have h2:∀d,eM ag d hi=eM fy d hi:=fun d=>x6 fun y hy=>h y (by simp only[b8.operands,cY,hN];exact .inr (.inl (.inr hy)));have aq:∀d,eM ag d mx=eM fy d mx:=fun d=>x6 fun y hy=>h y (by simp only[b8.operands,cY,hN];exact .inr (.inr hy));cases mx with
  |none=>simp only[step,h0,h1,h2,aq]
  |some m=>
   have bf:=h m (by simp[b8.operands]);simp only[step,h0,h1,h2,aq,bf]
 |call raw f args=>rfl
 |fail=>rfl
 |alloc z=>rfl
 |mkMap=>rfl
 | _=>simp only[step];simp only[b8.operands,cY,u7,or_false,forall_eq_or_imp,forall_eq]at h;simp only[h]
theorem tJ{call:cj}{op:b8}(h:∀raw f args,op≠ .call raw f args):bK call ag H low op=step ag H low op:=by
 cases op<;>first|rfl|exact absurd rfl (h _ _ _)
theorem Wp{call:cj}{ag fy:ah->V}{op:b8}(h:∀x∈op.operands,ag x=fy x):bK call ag H low op=bK call fy H low op:=by
 cases op with
 |call raw f args=>
  have h0:=h f (by simp[b8.operands]);have h1:args.map ag=args.map fy:=mW fun p hp=>h _ (by simp[b8.operands,hp]);cases raw<;>simp only[bK,h0,h1]
 | _=>rw[tJ (by simp),tJ (by simp)];exact Wo h
def jM (call:cj):Prop:=∀(f:V) (args:List V) (H:Heap) (v:V) (H':Heap) (low':Nat),call f args H=some (v,H',low')->Fr H H.length H' low'
theorem tK{call:cj}{op:b8}(hc:jM call)(hl:low<=H.length)(he:bK call ag H low op=some (v,H',low')):Fr H low H' low':=by
 cases op with
 |call raw f args=>
  cases raw
  ·simp only[bK]at he
   split at he
   ·rename_i vs H1 bm h1
    have af:=AK h1;split at he
    ·rename_i u cT l h2
     have hk:=hc _ _ _ _ _ _ h2;split at he
     ·cases he;exact .refl _ _
     ·cases he;exact af.1.trans (hk.lift _)
    ·cases he
   ·cases he
  ·simp only[bK]at he
   split at he
   ·rename_i u cT l h2
    cases he;exact(hc _ _ _ _ _ _ h2).lift _
   ·cases he
 | _=>rw[tJ (by simp)]at he;exact Wn hl he
theorem jt (st:au)(d:Option (Nat × Bool))(v:V):(st.put d v).H=st.H/\(st.put d v).low=st.low/\(st.put d v).ro=st.ro:=by
 rcases d with _|⟨t,b⟩
 ·exact⟨rfl,rfl,rfl⟩
 ·cases b<;>exact⟨rfl,rfl,rfl⟩
def fh (st aV:au):Prop:=Fr st.H st.low aV.H aV.low/\aV.ro=st.ro
theorem fh.refl (st:au):fh st st:=⟨.refl _ _,rfl⟩
theorem fh.trans{a b c:au}(h:fh a b)(k:fh b c):fh a c:=⟨h.1.trans k.1,k.2.trans h.2⟩
theorem fh.bound{a b:au}(h:fh a b)(hl:a.low<=a.H.length):b.low<=b.H.length:=by
 have:=h.1.low;have:=h.1.len;omega
theorem po{call:cj}(hc:jM call):∀(ops:List bl) (st aV:au) (wr ep:List Bool),st.low<=st.H.length->cX call ops st wr=some (aV,ep)->fh st aV
 |[],st,aV,wr,ep,_,he=>by
  simp only[cX,ay,a6]at he;obtain⟨rfl,-⟩:=he;exact .refl _
 |o::r,st,aV,wr,ep,hl,he=>by
  simp only[cX]at he;split at he
  ·split at he
   ·rename_i v H' low' h
    have af:=tK hc (aI _) h;have hp:=jt {st with H:=H',low:=min st.low low'} o.dst v;have h1:fh st ({st with H:=H',low:=min st.low low'}.put o.dst v):=⟨by rw[hp.1,hp.2.1];exact af.lift _,hp.2.2⟩;exact h1.trans (po hc r _ _ _ _ (h1.bound hl) he)
   ·cases he
  ·have hp:=jt st o.dst (.aR [])
   have h1:fh st (st.put o.dst (.aR [])):=⟨by rw[hp.1,hp.2.1];exact .refl _ _,hp.2.2⟩;exact h1.trans (po hc r _ _ _ _ (h1.bound hl) he)
  ·cases he
theorem KJ{f:au->Option (X × au)}(af:∀st x aV,st.low<=st.H.length->f st=some (x,aV)->fh st aV):∀(n:Nat) (st:au) (x:X) (aV:au),st.low<=st.H.length->iter f n st=some (x,aV)->fh st aV
 |0,_,_,_,_,he=>by cases he
 |n+1,st,x,aV,hl,he=>by
  simp only[iter]at he;split at he
  ·rename_i st1 h1
   have a:=af _ _ _ hl h1;exact a.trans (KJ af n _ _ _ (a.bound hl) he)
  ·exact af _ _ _ hl he
theorem j9{call:cj}(hc:jM call)(n:Nat):∀(c:bP) (st:au) (x:X) (aV:au),st.low<=st.H.length->exec call n c st=some (x,aV)->fh st aV
 | .skip,st,x,aV,hl,he=>by simp only[exec,ay,a6]at he;obtain⟨-,rfl⟩:=he;exact .refl _
 | .region ops dc,st,x,aV,hl,he=>by
   simp only[exec,au.eu]at he;split at he
   ·rename_i st1 wr h1
    have a:fh {st with aH:=[]} st1:=po hc _ _ _ _ _ hl h1;have bg:fh st st1:=a
    repeat' split at he
    all_goals first
     |(cases he;exact bg)
     |cases he
   ·cases he
 | .sT ops ok f,st,x,aV,hl,he=>by
   simp only[exec,au.eu]at he;split at he
   ·rename_i st1 wr h1
    have a:fh {st with aH:=[]} st1:=po hc _ _ _ _ _ hl h1;have bg:fh st st1:=a;split at he
    ·cases he;exact bg
    ·cases he
   ·cases he
 | .seq a b,st,x,aV,hl,he=>by
   simp only[exec,au.eu]at he;split at he
   ·rename_i st1 h1
    have k:=j9 hc n a _ _ _ hl h1;exact k.trans (j9 hc n b _ _ _ (k.bound hl) he)
   ·exact j9 hc n a _ _ _ hl he
 | .cond c t e,st,x,aV,hl,he=>by
   simp only[exec,au.eu]at he;split at he
   ·exact j9 hc n t _ _ _ hl he
   ·exact j9 hc n e _ _ _ hl he
   ·cases he
 | .block id c,st,x,aV,hl,he=>by
   simp only[exec,au.eu]at he;split at he
   ·rename_i st1 h1
    have k:=j9 hc n c _ _ _ hl h1;split at he<;>(cases he;exact k)
   ·exact j9 hc n c _ _ _ hl he
 | .loop c,st,x,aV,hl,he=>by
   simp only[exec,au.eu]at he;exact KJ (fun st x aV h1 h2=>j9 hc n c st x aV h1 h2) n _ _ _ hl he
 | .rangeFunc f ps a b,st,x,aV,hl,he=>by
   simp only[exec,au.eu]at he;split at he
   ·cases he
   ·split at he
    ·rename_i u H1 bm h1
     have k:=hc _ _ _ _ _ _ h1;split at he
     ·split at he
      ·cases he
      ·cases he
       refine⟨⟨?_,ig _ _,fun l h=> ?_⟩,rfl⟩
       ·have:=k.len;simp at this⊢; omega
       ·simp only at h⊢
        rw[iL (by omega),k.same l (by omega),ft (by omega)]
     ·cases he
    ·cases he
 | .exit id,st,x,aV,hl,he=>by simp only[exec,ay,a6]at he;obtain⟨-,rfl⟩:=he;exact .refl _
 | .ret,st,x,aV,hl,he=>by simp only[exec,ay,a6]at he;obtain⟨-,rfl⟩:=he;exact .refl _
 | .fail,st,x,aV,hl,he=>by simp[exec]at he
theorem AL{fresh:Bool}{fc:Heap}(h:Fr fc fc.length H low)(he:finish fresh fc v H low=some (v',H',low')):Fr fc fc.length H' low':=by
 unfold finish at he;split at he
 ·split at he
  ·split at he
   ·cases he;exact .push (aI _) _
   ·split at he
    ·cases he;exact h
    ·cases he
  ·cases he
 ·split at he
  ·rename_i h1
   split at he
   ·cases he;exact .refl _ _
   ·cases he;exact h.trans (vO h1).1
  ·cases he
theorem Wq{ex:bP->au->Option (X × au)}(hx:∀c st x aV,st.low<=st.H.length->ex c st=some (x,aV)->fh st aV){f:gR}{args:List V}
  (he:fP ex f args H=some (v,H',low')):Fr H H.length H' low':=by
 unfold fP at he;split at he
 ·split at he
  ·rename_i st h1
   have k:=(hx _ _ _ _ (aI _) h1).1;split at he
   ·exact AL k he
   ·exact AL k he
   ·cases he
  ·rename_i st h1
   have k:=(hx _ _ _ _ (aI _) h1).1;split at he
   ·exact AL k he
   ·exact AL k he
   ·cases he
  ·cases he
 ·cases he
theorem Wr{ex:bP->au->Option (X × au)}(hx:∀c st x aV,st.low<=st.H.length->ex c st=some (x,aV)->fh st aV){l:Nat}{args:List V}
  (he:rn ex l args H=some (v,H',low')):Fr H H.length H' low':=by
 unfold rn at he;split at he
 ·split at he
  ·split at he
   ·rename_i st h1
    have k:=(hx _ _ _ _ (aI _) h1).1;split at he
    ·split at he
     ·rename_i x st2 h2
      have dC:=(hx _ _ _ _ (by have q:=k.low;have q':=k.len;simp only[List.length_set]at q q'⊢; omega) h2).1;split at he
      ·cases he
       exact(k.trans (.set _ _)).trans (dC.trans (.set _ _))
      ·cases he
     ·cases he
    ·cases he
   ·cases he
  ·cases he
 ·cases he
theorem KK:∀(l:List (Nat × bd)) (H:Heap) (low:Nat),Fr H low (rm H l) (sW low l)
 |[],H,low=>.refl _ _
 |p::r,H,low=>(Fr.set p.1 p.2).trans (KK r _ _)
theorem Ws{spec:o8}{args:List V}(he:o9 spec args H=some (v,H',low')):Fr H H.length H' low':=by
 obtain⟨r,-,he⟩:=bW.1 he;cases he;have h:=KK r.2.1 H H.length;refine h.trans ⟨by simp,aI _,fun l hl=> ?_⟩;rw[ft];have:=h.low;have:=h.len;omega
theorem AM (ab:Nat->Option bQ):∀(n:Nat),jM (aS ab n)
 |0=>fun f args H v H' low' he=>by simp[aS]at he
 |n+1=>fun f args H v H' low' he=>by
  have hx:=fun c st x aV (h1:st.low<=st.H.length) h2=>j9 (AM ab n) n c st x aV h1 h2;simp only[aS,nf]at he;split at he
  ·split at he
   ·exact Wq hx he
   ·split at he
    ·obtain⟨u,-,he⟩:=bW.1 he
     cases he;exact .refl _ _
    ·cases he
   ·exact Ws he
   ·cases he
  ·exact Wr hx he
  ·cases he
end Go.Abs
namespace Go.Abs
open Go
variable{C:Ctx}{fid:Nat->Nat}{w w':World}{G G':bw}{H H':Heap}
def dO (ro:Option Nat):Fence:={fn:=fun _=>True,depth:=none,alive:=false,round:=ro}
def iY (C:Ctx)(fid:Nat->Nat)(G:bw)(H:Heap)(w:World)(v:V)(H':Heap)(low':Nat)(x:Value)(w':World):Prop:=
 ∃G',aQ C fid G' H' w'/\(∀m,m<=low'->Ext G w G' w' m H.length)/\aZ fid G' w' v x
def ow (P:Program)(R:Value->World->Prop):Result Next->Prop
 | .ok (.value x) w'=>R x w'
 | .ok .skip w'=>R undef w'
 | .ok (.enter f args) w'=>Calls P f args w' (fun e eW=>∃x,e=.returned x/\R x eW)
 | .ok (.row row args) w'=>Rows P row args w' R
 | .ok (.round l f tmps aC bL) w'=>RoundIn Fence.wide 0 P l f tmps aC bL w' (fun e eW=>∃x,e=.returned x/\R x eW)
 | _=>False
theorem ow.mono{P:Program}{R kR:Value->World->Prop}(h:∀x w,R x w->kR x w):∀{r:Result Next},ow P R r->ow P kR r
 | .ok (.value x) w',k=>h _ _ k
 | .ok .skip w',k=>h _ _ k
 | .ok (.enter f args) w',k=>sP k fun e eW=>fun⟨x,ae,ai⟩=>⟨x,ae,h _ _ ai⟩
 | .ok (.row row args) w',k=>Rows.mono k h
 | .ok (.round l f tmps aC bL) w',k=>RoundIn.mono k fun e eW=>fun⟨x,ae,ai⟩=>⟨x,ae,h _ _ ai⟩
 | .ok (.defer _) _,k| .ok .recover _,k| .ok (.spawn _) _,k| .ok (.comm ..) _,k| .ok .numGoroutine _,k| .ok .collect _,k| .ok (.watch _) _,k| .ok (.newcoro ..) _,k| .ok (.coroswitch ..) _,k
 | .ok (.sleep _) _,k| .ok (.timer _) _,k| .ok (.alone ..) _,k| .ok (.callThen ..) _,k| .ok (.stack ..) _,k| .halt ..,k=>k.elim
theorem EU{P:Program}{R:Value->World->Prop}{ro:Option Nat}{o:Oper}{a:Act}{next:Act->World->Prop}{Q:Exit->Act->World->Prop}(hn:∀x w,R x w->next (a.put o.dst x) w):
  ∀{r:Result Next},ow P R r->o.uponIn (dO ro) 0 P a next Q r
 | .ok (.value x) w',k=>hn _ _ k
 | .ok .skip w',k=>hn _ _ k
 | .ok (.enter f args) w',k=>by
   have bM:CallsIn Fence.wide 0 P f args w' fun
    | .returned v,eW=>next (a.put o.dst v) eW
    | .panicked chain,eW=>Q (.panic chain) a eW
    | .outgrown,_=>LetsOut Q:=callsIn_wide.2 (sP k fun e eW=>by rintro⟨x,rfl,ai⟩;exact hn _ _ ai)
   exact⟨fun h=>by simp[dO]at h,bM⟩
 | .ok (.row row args) w',k=>by
   refine⟨fun h=>by simp[dO]at h,fun c cs _=> ?_⟩;obtain⟨v,bs,h1,h2⟩:=k c cs;exact⟨v,bs,hn _ _ h1,(stepsIn_wide.2 h2:StepsIn (Machine.fenced P Fence.wide) P _ _)⟩
 | .ok (.round l f tmps aC bL) w',k=>by
   have bM:RoundIn Fence.wide 0 P l f tmps aC bL w' fun
    | .returned v,eW=>next (a.put o.dst v) eW
    | .panicked chain,eW=>Q (.panic chain) a eW
    | .outgrown,_=>LetsOut Q:=RoundIn.mono k fun e eW=>by rintro⟨x,rfl,ai⟩;exact hn _ _ ai
   exact⟨fun h=>by simp[dO]at h,bM⟩
 | .ok (.defer _) _,k| .ok .recover _,k| .ok (.spawn _) _,k| .ok (.comm ..) _,k| .ok .numGoroutine _,k| .ok .collect _,k| .ok (.watch _) _,k| .ok (.newcoro ..) _,k| .ok (.coroswitch ..) _,k
 | .ok (.sleep _) _,k| .ok (.timer _) _,k| .ok (.alone ..) _,k| .ok (.callThen ..) _,k| .ok (.stack ..) _,k| .halt ..,k=>k.elim
structure gh (C:Ctx) (fid:Nat->Nat) (call:cj):Prop where
 bD:jM call
 run:∀{G:bw} {H:Heap} {w:World} {f:V} {args:List V} {v:V} {H':Heap} {low':Nat} {EV:Value} {xs:List Value},aQ C fid G H w->aZ fid G w f EV->aW fid G w args xs->
  call f args H=some (v,H',low')->∃d,(Deferred.ofValue EV ⟨xs⟩).run C.P w=.ok d w/\ow C.P (iY C fid G H w v H' low') ((invoke d.target d.args).run C.P w)/\
   (Di f=true->cB args=false->∃g aC,(invoke d.target d.args).run C.P w=.ok (.enter g aC) w)
theorem aQ.restore (aa:aQ C fid G H w)(hs:w.heap.size<=w'.heap.size)(hk:∀b,b<w.heap.size->w'.heap[b]? =w.heap[b]?):aQ C fid G H w' where
 obj l h e:=by
  obtain⟨o,ho,hr⟩:=aa.obj l h e;exact⟨o,ho,hr.mono (.refl _) (fun b hb=>⟨hb,hk b (aa.cu b hb).1⟩) (hk _ (aa.cL l h e))⟩
 inj:=aa.inj
 cL l h e:=mX (aa.cL l h e) hs
 cu b hb:=⟨mX (aa.cu b hb).1 hs,(aa.cu b hb).2⟩
 iq:=aa.iq
 ej b o aT:=⟨(aa.ej b o aT).1,by rw[hk b (aa.cu b (aa.ej b o aT).1).1];exact(aa.ej b o aT).2⟩
theorem Ext.restore (hs:w.heap.size<=w'.heap.size)(hk:∀b,b<w.heap.size->w'.heap[b]? =w.heap[b]?)(h1:w'.os=w.os)(aq:w'.output=w.output)(m n:Nat):Ext G w G w' m n:=
 ⟨hs,h1,aq,fun b hb _=>hk b hb,.refl _,fun _ h hb=>.inl ⟨h,hb,.inl rfl⟩,fun _ h=>h,fun _ h=>.inl h⟩
theorem Ext.KL{m n:Nat}(aa:aQ C fid G H w)(h:Ext G w G' w' m n)(hm:H.length<=m):∀b,b<w.heap.size->w'.heap[b]? =w.heap[b]? :=fun b hb=>
 h.eg b hb fun l x e _=>.inr (mX (aa.lt e) hm)
theorem KM{o:Oper}{ρ:Operand->Value}{f:Operand}{args:Array Operand}{bc:Array TypeId}(ho:o.op=.call {callee:=.value f,args,argTypes:=bc}){P:Program}{w:World}{d:Deferred}
  (hd:(Deferred.ofValue (ρ f) (args.map ρ)).run P w=.ok d w):(execOp ρ o).run P w=(invoke d.target d.args).run P w:=by
 unfold execOp;simp only[ho,resolve,Sem.run_bind,hd,Result.andThen]
section
variable{vars:List Nat}{ag:ah->V}{ρ:Operand->Value}{low low':Nat}{v:V}{o:Oper}{call:cj}
theorem EW (bu:eh C fid)(bh:gh C fid call)(aa:aQ C fid G H w)(aE:eo C fid vars G w ag ρ)(jI:low<=H.length)
  (he:bK call ag H low (C.op vars o.pos o.op)=some (v,H',low')):ow C.P (iY C fid G H w v H' low') ((execOp ρ o).run C.P w):=by
 have Wt:(∀raw f args,C.op vars o.pos o.op≠ .call raw f args)->ow C.P (iY C fid G H w v H' low') ((execOp ρ o).run C.P w):=fun bb=>by
  rw[tJ bb]at he;obtain⟨x,aG,az,hr,h1,h2,aq,-,-⟩:=Wl bu aa aE jI he;rcases hr with hr|⟨hr,rfl⟩
  ·rw[hr];exact⟨az,h1,h2,aq⟩
  ·rw[hr];exact⟨az,h1,h2,aq⟩
 by_cases bb:∃raw f args,C.op vars o.pos o.op=.call raw f args
 ·obtain⟨raw,j2,EX,c5⟩:=bb
  have bZ:C.ca vars o.pos o.op=some (.call raw j2 EX):=by
   unfold Ctx.op at c5;cases h:C.ca vars o.pos o.op with
   |none=>rw[h]at c5;cases c5
   |some a=>rw[h]at c5;simp only[sJ]at c5;rw[c5]
  obtain⟨f,args,bc,ho,af,mA⟩:∃f args bc,o.op=.call {callee:=.value f,args,argTypes:=bc}/\C.bF vars f=some j2/\c7 (C.bF vars) args.toList=some EX:=by
   cases ho:o.op with
   |call c=>
    rw[ho]at bZ;obtain⟨callee,args,c6⟩:=c;cases callee with
    |value f=>
     simp only[Ctx.ca]at bZ;split at bZ
     ·rename_i h1 h2
      simp only[ay,b8.call.injEq]at bZ;obtain⟨-,rfl,rfl⟩:=bZ;exact⟨f,args,c6,rfl,h1,h2⟩
     ·cases bZ
    |builtin b=>
     exfalso;simp only[Ctx.ca]at bZ;unfold Ctx.builtin at bZ
     repeat' split at bZ
     all_goals first
      |(cases bZ;done)
      |(simp only[ay,reduceCtorEq]at bZ;done)
      |(obtain⟨_,_,h⟩:=bW.1 bZ;cases h;done)
    |invoke r n=>simp[Ctx.ca]at bZ
   |binOp a b c d e=>
    exfalso;rw[ho]at bZ;simp only[Ctx.ca,Ctx.sX]at bZ
    repeat' split at bZ
    all_goals first
     |(cases bZ;done)
     |(obtain⟨_,_,h⟩:=bW.1 bZ;cases h;done)
   |makeFunc g a b=>
    exfalso;rw[ho]at bZ;cases g with
    |func f=>
     simp only[Ctx.ca]at bZ;split at bZ<;>simp at bZ
    | _=>simp[Ctx.ca]at bZ
   |makeMap t r=>
    exfalso;rw[ho]at bZ;cases r<;>simp[Ctx.ca]at bZ
   | _=>
     exfalso;rw[ho]at bZ;simp only[Ctx.ca]at bZ
     repeat' split at bZ
     all_goals first
      |(cases bZ;done)
      |(obtain⟨_,_,h⟩:=bW.1 bZ;cases h;done)
  have tL:=aE f j2 af;have fR:aW fid G w (EX.map ag) (args.map ρ).toList:=by rw[Array.toList_map];exact Ay aE mA
  rw[c5]at he;have ox:(⟨(args.map ρ).toList⟩:Array Value)=args.map ρ:=rfl;cases raw with
  |true=>
   simp only[bK]at he;split at he
   ·rename_i u cT l h1
    cases he;obtain⟨d,hd,hn,-⟩:=bh.run aa tL fR h1;rw[ox]at hd;rw[KM ho hd];refine hn.mono fun x bs hp=> ?_;obtain⟨a7,p1,cN,ei⟩:=hp;exact⟨a7,p1,fun m hm=>cN m (by omega),ei⟩
   ·cases he
  |false=>
   simp only[bK]at he;split at he
   ·rename_i vs H1 bm aP
    obtain⟨az,fz,oq⟩:=Ea aa fR aP;have EY:=tL.ext aa (fz.ext 0 (by omega));split at he
    ·rename_i u cT l h1
     obtain⟨d,hd,hn,-⟩:=bh.run fz.rel EY oq h1;rw[ox]at hd;rw[KM ho hd];refine hn.mono fun x bs hp=> ?_;obtain⟨a7,p1,cN,ei⟩:=hp;split at he
     ·rename_i hc
      cases he;have cP:=cN H1.length hc.2;have hk:=cP.KL fz.rel (aI _);exact⟨G,aa.restore cP.size hk,fun m _=>.restore cP.size hk cP.os cP.output m _,ei.flat hc.1⟩
     ·cases he
      exact⟨a7,p1,fun m hm=>(fz.ext m (by omega)).trans ((cN m (by omega)).le (aI _) (Nat.le_of_eq fz.len.symm)),ei⟩
    ·cases he
   ·cases he
 ·exact Wt fun raw f args h=>bb ⟨raw,f,args,h⟩
end
end Go.Abs
