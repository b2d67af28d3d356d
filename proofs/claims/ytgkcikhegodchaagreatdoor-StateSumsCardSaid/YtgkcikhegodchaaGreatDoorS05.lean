/- Texts of this claim, joined and written short by a program. -/
import Derived.Test.YtgkcikhegodchaaGreatDoorS04
import Derived.Laws.BytesString
import Derived.Test.YtgkcikhegodchaaGreatDoorS00
import Derived.RangeFuncRecord
import Derived.OrdersIn
set_option linter.unusedVariables false
set_option linter.unusedSimpArgs false
set_option linter.unusedSectionVars false
namespace Go.Abs
open Go
variable{C:Ctx}{fid:Nat->Nat}{w w':World}{G G':bT}{H:Heap}
variable{vars:List Nat}{ag:ai->V}{ρ:Operand->Value}{low low':Nat}{v:V}{H':Heap}{pos:String}{df:cN}{o:Oper}
theorem UE:∀{ds:List V} {s:List UInt8} {vals:List Value},bytesOf ds=some s->a1 fid G w (ds.flatMap aE) vals->∃nQ:List Int,vals=nQ.map (Value.int .u8)/\s=nQ.map fun n=>UInt8.ofNat n.toNat
 |[],s,vals,h,hr=>by
  simp only[bytesOf,aA]at h;subst h;cases hr;exact⟨[],rfl,rfl⟩
 |d::ds,s,vals,h,hr=>by
  unfold bytesOf at h;split at h
  ·rename_i q;cases q
  ·rename_i n r q
   cases q;obtain⟨t,ht,rfl⟩:=cj.1 h;simp only[kd,aE,lN,iM]at hr;cases hr with
   |cons _ x _ xs hx hs=>
    obtain⟨nQ,rfl,rfl⟩:=UE ht hs;exact⟨n::nQ,by rw[hx.jA];rfl,rfl⟩
  ·cases h
theorem UF:∀(nQ:List Int) (b:ByteArray),nQ.foldl (fun r n=>r.push (UInt8.ofNat n.toNat)) b=⟨(b.data.toList++nQ.map fun n=>UInt8.ofNat n.toNat).toArray⟩
 |[],b=>by simp
 |n::nQ,b=>by
  simp only[ot,UF nQ,de];congr 1;simp[ByteArray.push]
theorem ahA (U:aX C fid G H w)(aN:fr C fid vars G w ag ρ){s d:TypeId}{x:Operand}(ho:o.op=.convert s d x){cE:ai}(hc:C.cO vars pos o.op=some (.u5 cE))(he:step ag H low (.u5 cE)=some (v,H',low')):
  c3 C fid G H w low ((execOp ρ o).run C.P w) v H' low':=by
 rw[ho]at hc;simp only[Ctx.cO]at hc;split at hc
 ·cases hc
 ·rename_i e ahB h1 h2 ar
  split at hc
  ·rename_i aR
   simp only[aA,cN.u5.injEq]at hc;subst hc;have af:=aN x ahB ar;simp only[step]at he;split at he
   ·rename_i ds hd
    obtain⟨t,ht,he⟩:=cj.1 he;simp only[bq]at he;obtain⟨rfl,rfl,rfl⟩:=he;obtain⟨c4,cap,hx,bg⟩:=Ek U af hd
    have cc:(convert s d (ρ x)).run C.P w=.ok (.string ⟨t.toArray⟩) w:=by
     rw[hx,run_convert_bytes_string w s d e c4 ds.length cap h1 aR h2];cases c4 with
     |none=>
      have:ds=[]:=by
       cases rL:ds with
       |nil=>rfl
       |cons a r=>
        obtain⟨b,off,vals,hb,-⟩:=bg (by rw[rL];simp);cases hb
      subst this;simp only[bytesOf,aA]at ht;subst ht;simp[Conv.bytesToString,Sem.run_pure];rfl
     |some a=>
      have key:∃nQ:List Int,(loadCells a ds.length).run C.P w=.ok (nQ.map (Value.int .u8)).toArray w/\t=nQ.map fun n=>UInt8.ofNat n.toNat:=by
       by_cases aZ:ds=[]
       ·subst aZ
        simp only[bytesOf,aA]at ht;subst ht;exact⟨[],by simp[loadCells,loadCellsFrom,Sem.run_pure],rfl⟩
       ·obtain⟨b,off,vals,hb,fe,e5,hu⟩:=bg aZ
        cases hb;obtain⟨nQ,rfl,hs⟩:=UE ht e5;refine⟨nQ,?_,hs⟩
        have hl:ds.length=(nQ.map (Value.int .u8)).length:=by
         have:=e5.length;rw[mV hu]at this;simpa using this.symm
        rw[hl];exact run_loadCells_list (P:=C.P) w ⟨b,off,none⟩ _ (fun j v hj=>by rw[Addr.add_lit];exact fe j v hj)
      obtain⟨nQ,h5,rfl⟩:=key;rw[run_bytesToString w a ds.length cap nQ h5,UF];simp
    exact .same U (x:=.string ⟨t.toArray⟩) (by unfold execOp;rw[ho];simp only[Sem.run_bind,cc];rfl) (by
     have:=bd.p (fid:=fid) (G:=G) (w:=w) (.str t) _ (.str t);exact this)
   ·cases he
  ·cases hc
 ·cases hc
theorem BT{bP:Nat}{k:V}:∀{bf:List (V × V)},hK bP k bf=some none->je bP k bf=bf
 |[],_=>rfl
 |(bz,v)::r,h=>by
  simp only[hK]at h;split at h
  ·cases h
  ·rename_i he
   simp[je,he,BT h]
  ·cases h
theorem NG{k:TypeId}{bP:Nat}{d:TypeDesc}(hk:C.jS k=some bP)(hd:C.P.underlying k=some d){a:V}{x:Value}(ha:bd fid G w a x):∀{bf:List (V × V)} {es:List MapEntry} (i:Nat) {r:V} {j:Nat} {z:Value},
  a1 fid G w (bf.map (·.1)) (es.map (·.key))->a1 fid G w (bf.map (·.2)) (es.map (·.val))->hK bP a bf=some (some r)->Instr.findNow d x es i=some (some (i+j,z))->
  a1 fid G w ((je bP a bf).map (·.1)) ((es.eraseIdx j).map (·.key))/\a1 fid G w ((je bP a bf).map (·.2)) ((es.eraseIdx j).map (·.val))
 |[],[],i,r,j,z,_,_,h,_=>by simp[hK]at h
 |[],_::_,_,_,_,_,h,_,_,_=>by simp at h;cases h
 | _::_,[],_,_,_,_,h,_,_,_=>by simp at h;cases h
 |(bz,u')::bf,e::es,i,r,j,z,eD,cW,h,ae=>by
  simp only[de]at eD cW;cases eD with
  |cons _ _ _ _ gx eD=>
   cases cW with
   |cons _ _ _ _ qL cW=>
    simp only[hK]at h;split at h
    ·rename_i he
     obtain⟨hs,-⟩:=xy hk hd ha gx he;simp only[Instr.findNow,hs,aA,bq]at ae;obtain rfl:j=0:=by omega
     simp only[je,he,if_true,afw];exact⟨eD,cW⟩
    ·rename_i he
     obtain⟨hs,-⟩:=xy hk hd ha gx he;simp only[Instr.findNow,hs]at ae;have h9:=rV hk hd ha (i+1) eD cW h;obtain⟨vx,oy,h1,-,-⟩:=h9;rw[h1]at ae;simp only[aA,bq]at ae;obtain⟨hj,rfl⟩:=ae;obtain rfl:j=vx+1:=by omega
     have ih:=NG hk hd ha (i+1) eD cW h h1;have aZ:¬(ix bP a bz=some true):=by rw[he];simp
     simp only[je,aZ,if_false,de,afx];exact⟨.cons _ _ _ _ gx ih.1,.cons _ _ _ _ qL ih.2⟩
    ·cases h
theorem o4.erase{es:Array MapEntry}{bL:Nat}(h:o4 es bL)(j:Nat):o4 (es.eraseIdxIfInBounds j) bL:=by
 have hs:(es.eraseIdxIfInBounds j).toList.Sublist es.toList:=by
  rw[aft];exact List.eraseIdx_sublist _ _
 exact⟨fun x hx=>h.1 x (hs.subset hx),h.2.sublist (hs.map _)⟩
theorem ahC (U:aX C fid G H w)(aN:fr C fid vars G w ag ρ){m k:Operand}{t eB sW:TypeId}{u:TypeId}{ts:Array TypeId}(hd:C.P.underlying t=some (.map eB sW))(ht:ts= #[t,u]){am hR:ai}{bP:Nat}(ho:o.op=.call {callee:=.builtin .delete,args:= #[m,k],argTypes:=ts})
  (h1:C.b5 vars m=some am) (h2:C.b5 vars k=some hR) (gK:C.jS eB=some bP) (he:step ag H low (.yL bP am hR)=some (v,H',low')):c3 C fid G H w low ((execOp ρ o).run C.P w) v H' low':=by
 subst ht;have hm:=aN m am h1;have hk:=aN k hR h2;obtain⟨Ir,jC⟩:=Iq gK
 have cc:(execOp ρ o).run C.P w=((Builtin.delete_ #[t,u] o.type #[ρ m,ρ k]).run C.P w).andThen fun z w'=>.ok (.value z) w':=by
  rw[vq ho];simp only[builtin,Sem.run_bind,DH,de,iO];rfl
 simp only[step]at he;split at he
 ·rename_i ab
  simp only[aA,bq]at he;obtain⟨rfl,rfl,rfl⟩:=he;rw[ab]at hm;have hx:=hm.Ng;refine .same U (x:=.tuple #[]) ?_ (.aU [] [] .nil);rw[cc,hx];unfold Builtin.delete_;simp[run_underlying hd,uj gK,Sem.run_pure]
 ·rename_i l ab
  rw[ab]at hm;obtain⟨h0,cp,UD,dG⟩:=hm.mapInv;split at he
  ·rename_i bf hl
   obtain⟨aP,en,hr⟩:=U.obj l h0 cp;rw[hl]at en;cases en;obtain⟨oC,jW,es,bL,eQ,eD,cW,b7⟩:=hr;split at he
   ·rename_i bQ ji
    simp only[aA,bq]at he;obtain⟨rfl,rfl,rfl⟩:=he;have aK:h0.b<w.heap.size:=U.blk l h0 cp
    have fin:∀(uk:Obj) (bK:Array MapEntry),uk=.map bK bL->(Builtin.delete_ #[t,u] o.type #[ρ m,ρ k]).run C.P w=.ok (.tuple #[]) {w with heap:=w.heap.setIfInBounds h0.b uk}->
      a1 fid G w ((je bP (ag hR) bf).map (·.1)) (bK.toList.map (·.key))->a1 fid G w ((je bP (ag hR) bf).map (·.2)) (bK.toList.map (·.val))->o4 bK bL->
      c3 C fid G H w low ((execOp ρ o).run C.P w) (.aU []) (H.set l (.map (je bP (ag hR) bf))) (min low l):=by
     rintro uk bK rfl lA xA y8 y9
     have vy:∀b,b≠h0.b->({w with heap:=w.heap.setIfInBounds h0.b (.map bK bL)}:World).heap[b]? =w.heap[b]? :=fun b aZ=>by
      show(w.heap.setIfInBounds h0.b _)[b]? =_;rw[SS (kS aZ)]
     have BS:({w with heap:=w.heap.setIfInBounds h0.b (.map bK bL)}:World).heap[h0.b]? =some (.map bK bL):=by
      show(w.heap.setIfInBounds h0.b _)[h0.b]? =_;simp[aK]
     have dk:({w with heap:=w.heap.setIfInBounds h0.b (.map bK bL)}:World).heap.size=w.heap.size:=by simp
     have dM:Ext G w ⟨ck G.β l h0,G.I⟩ {w with heap:=w.heap.setIfInBounds h0.b (.map bK bL)} l H.length:=
      Ext.write U cp jW rfl (aF _) id rfl dk vy rfl rfl
     refine⟨.tuple #[],_,_,.inl (by rw[cc,lA];rfl),aX.write U cp jW rfl jW (aF _) id rfl dk vy (.map (je bP (ag hR) bf)) ⟨oC,jW,bK,bL,BS,xA.ext U dM,y8.ext U dM,y9⟩,
      fun m hm=>dM.le (cM hm (nB _ _)) (aF _),.aU [] [] .nil,jO _ _,by simp⟩
    cases bQ with
    |none=>
     have ae:=rV gK jC hk 0 eD cW ji;refine fin _ es rfl ?_ (by rw[BT ji];exact eD) (by rw[BT ji];exact cW) b7;unfold Builtin.delete_;simp only[dG];simp[run_underlying hd,xz eQ,uj gK,vw (C:=C) jC ae,BR _ eQ,Sem.run_pure]
    |some r=>
     obtain⟨j,y,ae,-,-⟩:=rV gK jC hk 0 eD cW ji;obtain⟨s1,s2⟩:=NG gK jC hk 0 eD cW ji ae;rw[dP]at ae;refine fin _ (es.eraseIdxIfInBounds j) rfl ?_ (by simpa using s1) (by simpa using s2) (b7.erase _);unfold Builtin.delete_;simp only[dG];simp[run_underlying hd,xz eQ,uj gK,vw (C:=C) jC ae,BR _ eQ,Sem.run_pure]
   ·cases he
  ·cases he
 ·cases he
theorem NH{P:Program}{w:World}(s:ByteArray):(Builtin.lenOf (.string s)).run P w=.ok s.size w:=rfl
theorem It{P:Program}{t u ty e:TypeId}{i:TypeInfo}(hd:P.underlying t=some (.slice e))(hu:P.underlying u=some .string)(hi:P.info? e=some i){base:Option Addr}{sLen sCap n:Nat}{s:ByteArray}{news:List Value}(hn:s.size=n)
  (hx:(Builtin.firstCells i.size n (.string s)).run P w=.ok news.toArray w) (hN:sLen+n<=sCap):
  (Builtin.append_ #[t,u] ty #[.slice base sLen sCap,.string s]).run P w=
    ((match base with|some a=>storeCells (a.add (sLen*i.size)) news|none=>pure ()).run P w).andThen fun _ w'=>.ok (.slice base (sLen+n) sCap) w':=by
 subst hn;cases base with
 |none=>simp[Builtin.append_,run_underlying hd,run_underlying hu,sizeOf,typeInfo,hi,NH,hN,hx]
 |some a=>simp[Builtin.append_,run_underlying hd,run_underlying hu,sizeOf,typeInfo,hi,NH,hN,hx]
theorem Iu{P:Program}{t u ty e:TypeId}{i:TypeInfo}{cv:Value}(hd:P.underlying t=some (.slice e))(hu:P.underlying u=some .string)(hi:P.info? e=some i)(aO:i.zero=some cv)
  {base:Option Addr} {sLen sCap n:Nat} {s:ByteArray} {olds news:List Value} (hn:s.size=n)
  (hx:(Builtin.firstCells i.size n (.string s)).run P w.drew=.ok news.toArray w.drew) (ho:(Builtin.firstCells i.size sLen (.slice base sLen sCap)).run P w.drew=.ok olds.toArray w.drew)
  (hN:sCap<sLen+n) (hb:(sLen+n)*(i.bytes+1)<=1099511627776):
  ∃gm,sLen+n<=gm/\(Builtin.append_ #[t,u] ty #[.slice base sLen sCap,.string s]).run P w=
   .ok (.slice (some ⟨w.heap.size,0,none⟩) (sLen+n) gm) (w.drew.alloc (.cells (olds.toArray++news.toArray++Builtin.zeroCells cv.cells (gm-(sLen+n))) e)):=by
 subst hn;have h1:¬sLen+s.size<=sCap:=by omega
 have hm:(sLen+s.size)*i.bytes+(sLen+s.size)=(sLen+s.size)*(i.bytes+1):=by rw[Nat.mul_succ]
 have h2:¬(((sLen+s.size:Nat):Int)>9223372036854775807):=by omega
 have ar:=growslice_fits (need:=sLen+s.size) (old:=sCap) (bytes:=i.bytes) hN (by omega);have aR:¬(281474976710656<Builtin.nextslicecap (sLen+s.size) sCap*i.bytes):=by omega
 refine⟨sLen+s.size+(w.tape w.drawn (.appendCap (sLen+s.size) sCap e))%(9223372036854775808-(sLen+s.size)),Mn _ _,?_⟩;have xx:¬(9223372036854775807<(sLen:Int)+(s.size:Int)):=by omega
 simp[Builtin.append_,run_underlying hd,run_underlying hu,sizeOf,typeInfo,hi,NH,h1,xx,aR,Question.forced,Question.cut,hx,ho,zeroValue,aO,newRow];congr 2;apply Array.ext';simp
theorem BU{P:Program}{w:World}(size:Nat)(s:List UInt8):(Builtin.firstCells size s.length (.string ⟨⟨s⟩⟩)).run P w=.ok (s.map fun b=>Value.int .u8 b.toNat).toArray w:=by
 have:(ByteArray.extract ⟨⟨s⟩⟩ 0 s.length)=⟨⟨s⟩⟩:=by
  apply ByteArray.ext;simp
 simp[Builtin.firstCells,this,Sem.run_pure]
theorem ahD (U:aX C fid G H w)(aN:fr C fid vars G w ag ρ){a b:Operand}{t u e:TypeId}{i:TypeInfo}{cv:Value}{args:Array Operand}{ts:Array TypeId}(ho:o.op=.call {callee:=.builtin .append,args,argTypes:=ts})
  (ha:args= #[a,b]) (ht:ts= #[t,u]) {ki hP:ai} (h1:C.b5 vars a=some ki) (h2:C.b5 vars b=some hP) (hd:C.P.underlying t=some (.slice e)) (hu:C.P.underlying u=some .string) (hi:C.P.info? e=some i)
  (aO:i.zero=some cv) (pg:cv.cells.size=i.size) (kA:i.size=1) (Ep:i.bytes=1) (he:step ag H low (.DP ki hP)=some (v,H',low')):c3 C fid G H w low ((execOp ρ o).run C.P w) v H' low':=by
 subst ha;subst ht;have hx:=aN a ki h1;have hy:=aN b hP h2;have hC:0<i.size:=by omega
 have Er:(execOp ρ o).run C.P w=((Builtin.append_ #[t,u] o.type #[ρ a,ρ b]).run C.P w).andThen fun z w'=>.ok (.value z) w':=by
  rw[vq ho];simp only[builtin,Sem.run_bind,DH,de,iO];rfl
 simp only[step]at he;split at he
 ·rename_i s NI
  rw[NI]at hy;have cc:=Er;rw[hy.ox]at cc;have hn:(⟨⟨s⟩⟩:ByteArray).size=s.length:=rfl;split at he
  ·rename_i pj
   have lQ:s=[]:=by simpa using pj
   subst lQ
   have same:∀base n cap,ρ a=.slice base n cap->n<=cap->(execOp ρ o).run C.P w=.ok (.value (ρ a)) w:=by
    intro base n cap hs hle;rw[cc,hs,It (P:=C.P) hd hu hi (n:=0) rfl (BU i.size []) (by simpa using hle)];cases base<;>simp[storeCells]
   split at he
   ·rename_i ab
    simp only[aA,bq]at he;obtain⟨rfl,rfl,rfl⟩:=he;rw[ab]at hx;exact .same U (same _ _ _ hx.jh (aF _)) hx
   ·rename_i ab
    simp only[aA,bq]at he;obtain⟨rfl,rfl,rfl⟩:=he;rw[ab]at hx;obtain⟨c4,dG⟩:=hx.rO;exact .same U (same _ _ _ dG (aF _)) hx
   ·rename_i l bK off len tag ab
    rw[ab]at hx;split at he
    ·rename_i fb ds fz hl
     split at he
     ·rename_i fP
      simp only[aA,bq]at he;obtain⟨rfl,rfl,rfl⟩:=he;obtain⟨h0,c4,cI,cap,cp,o9,hD,dG⟩:=hx.nI;obtain⟨aP,en,hr⟩:=U.obj l h0 cp;rw[hl]at en;cases en;obtain⟨rfl,rfl,-,nO⟩:=hD (hr.1.trans fP);exact .same U (same _ _ _ dG nO) hx
     ·cases he
    ·cases he
   ·cases he
  ·rename_i pj
   have lQ:s≠[]:=by simpa using pj
   generalize eC:(s.map fun c=>V.int .u8 c.toNat)=e4 at he;generalize cW:(s.map fun c=>Value.int .u8 c.toNat)=vals;obtain⟨xs,ch⟩:∃xs:List V,e4.length=xs.length:=⟨e4,rfl⟩;have dY:s.length=xs.length:=by rw[<-ch,<-eC,ef]
   have aZ:0<e4.length:=by rw[<-eC,ef];exact Bg.2 lQ
   have b6:a1 fid G w (e4.flatMap aE) vals:=by
    subst eC;subst cW;clear lQ pj dY aZ ch he NI hy cc hn
    induction s with
    |nil=>exact .nil
    |cons c s ih=>exact .cons _ _ _ _ (.p _ _ (.int _ _)) ih
   have jV:∀d∈e4,(aE d).length=i.size:=by
    intro d hd;rw[<-eC]at hd;obtain⟨c,-,rfl⟩:=dX.1 hd;rw[kA];rfl
   have bh:bM (e4.flatMap aE)=true:=by
    subst eC
    have key:∀q:List UInt8,bM ((q.map fun c=>V.int .u8 c.toNat).flatMap aE)=true:=fun q=>by
     induction q with
     |nil=>rfl
     |cons c s ih=>exact(cn _ _).mpr ⟨rfl,ih⟩
    exact key s
   have sV:∀gl:World,gl.heap=w.heap->(Builtin.firstCells i.size xs.length (.string ⟨⟨s⟩⟩)).run C.P gl=.ok vals.toArray gl:=fun gl _=>by
    rw[<-dY,<-cW];exact BU i.size s
   have oD:(⟨⟨s⟩⟩:ByteArray).size=xs.length:=hn.trans dY;have NJ:i.bytes+1=2:=by omega
   rw[<-kA]at he;have Em:=Ux b6 bh;have lv:vals.length=xs.length*i.size:=by rw[b6.length,mV jV,ch]
   have fresh:∀base,ρ a=.slice base 0 0->e4.length*(i.bytes+1)<=1099511627776->c3 C fid G H w low ((execOp ρ o).run C.P w) (.ca H.length i.size 0 e4.length e4.length) (H++[.row i.size e4 false]) low:=by
    intro base hs hb
    have hold:(Builtin.firstCells i.size 0 (.slice base 0 0)).run C.P w.drew=.ok ([]:List Value).toArray w.drew:=by
     cases base<;>simp[Builtin.firstCells,loadCells,loadCellsFrom]
    obtain⟨gm,ec,lA⟩:=Iu (P:=C.P) (t:=t) (u:=u) (ty:=o.type) hd hu hi aO oD (sV w.drew rfl) hold (by omega) (by rw[dP,<-ch];exact hb);rw[dP,<-ch]at lA ec;refine c3.newRow U (cap:=gm) (e:=e) hC aZ jV (vals:=vals) (rest:=(Builtin.zeroCells cv.cells (gm-e4.length)).toList) ?_ b6 ?_ ec (by rw[cc,hs,lA];rfl)
    ·simp
    ·simp only[yB,u2,mQ,dP,BO,lv,pg,<-ch,<-u4]
     rw[Nat.add_sub_cancel' ec];exact aF _
   split at he
   ·rename_i ab
    split at he
    ·rename_i hb
     simp only[aA,bq]at he;obtain⟨rfl,rfl,rfl⟩:=he;rw[ab]at hx;exact fresh _ hx.jh (by rw[NJ];exact hb)
    ·cases he
   ·rename_i ab
    split at he
    ·rename_i hb
     simp only[aA,bq]at he;obtain⟨rfl,rfl,rfl⟩:=he;rw[ab]at hx;obtain⟨c4,dG⟩:=hx.rO;exact fresh _ dG (by rw[NJ];exact hb)
    ·cases he
   ·rename_i l bK off len tag ab
    rw[ab]at hx;split at he
    ·rename_i fb ds hl
     split at he
     ·rename_i eh
      obtain⟨rfl,rfl,fP,rfl,rfl,hb⟩:=eh;simp only[aA,bq]at he;obtain⟨rfl,rfl,rfl⟩:=he;obtain⟨h0,c4,cI,cap,cp,o9,hD,dG⟩:=hx.nI;obtain⟨aP,en,hr⟩:=U.obj l h0 cp;rw[hl]at en;cases en;obtain⟨p6,En,hfz,eM,mX,c,vv,kZ,rest,hc,fq,hM,e5⟩:=hr;obtain⟨rfl,rfl,nK,nO⟩:=hD (p6.trans fP);rw[HV]at dG;rw[dP]at nK;have lP:ds.length=cI:=fP;have rR:kZ.length=cI*i.size:=by rw[e5.length,mV mX,lP]
      have fe:c.size=kZ.length+rest.length:=by rw[<-fC,hM,fD]
      have ui:∀d∈ds++e4,(aE d).length=i.size:=fun d hd=>by
       rcases jc.1 hd with q|q
       ·exact mX d q
       ·exact jV d q
      have Eo:a1 fid G w ((ds++e4).flatMap aE) (kZ++vals):=by rw[Mg];exact e5.append b6
      by_cases hN:cI+xs.length<=cap
      ·
       have hmul:(cI+xs.length)*i.size<=c.size:=cM (HH _ hN) (by rw[<-fq];exact nK);rw[u4]at hmul;have b7:=run_storeCells_at C.P h0.b (cI*i.size) vv vals 0 c w hc (by omega) Em
       have hval:(execOp ρ o).run C.P w=.ok (.value (.slice (some ⟨h0.b,0,none⟩) (cI+xs.length) cap)) (w.setRow h0.b (c.toList.take (cI*i.size)++vals++c.toList.drop (cI*i.size+vals.length)).toArray):=by
        rw[cc,dG,It (P:=C.P) hd hu hi oD (sV w rfl) hN];simp only[Addr.add_lit,dP];simp only[yH]at b7;rw[b7];rfl
       have dM:Ext G w ⟨ck G.β l {h0 with tag:=cI+e4.length},G.I⟩ (w.setRow h0.b (c.toList.take (cI*i.size)++vals++c.toList.drop (cI*i.size+vals.length)).toArray) l H.length:=
        Ext.write U cp hfz rfl (by simp only;omega) (fun q=>by omega) rfl (setRow_size _ _) (fun b aZ=>setRow_other aZ _) rfl rfl
       refine⟨_,_,_,.inl hval,aX.write U cp hfz (h':={h0 with tag:=cI+e4.length}) rfl hfz (by simp only;omega) (fun q=>by omega) rfl (setRow_size _ _) (fun b aZ=>setRow_other aZ _) (.row i.size (ds++e4) false) ?_,
        fun m hm=>dM.le (cM hm (nB _ _)) (aF _),?_,jO _ _,by simp⟩
       ·refine⟨by simp[lP],by simp;omega,hfz,eM,ui,_,vv,kZ++vals,rest.drop vals.length,setRow_heap w h0.b c _ vv _ hc,?_,?_,Eo.ext U dM⟩
        ·show h0.fp=_
         rw[fq];simp only[u2,fD,tV,qv,fC];omega
        ·rw[Mf,hM,<-rR,List.take_left,Mo,kr,kr]
         congr 2;rw[Mc (by omega),iM];congr 1;omega
       ·rw[<-ch]
        exact .ca l i.size 0 _ _ {h0 with tag:=cI+e4.length} _ _ _ (dh _ _ _) (aF _) (fun _=>⟨by simp,rfl,by rw[dP];exact nK,by omega⟩)
      ·
       have hold:(Builtin.firstCells i.size cI (.slice (some ⟨h0.b,0,none⟩) cI cap)).run C.P w.drew=.ok kZ.toArray w.drew:=
        El (iz.vf (w:=w.drew) hc hM) rR
       obtain⟨gm,ec,lA⟩:=Iu (P:=C.P) (t:=t) (u:=u) (ty:=o.type) hd hu hi aO oD (sV w.drew rfl) hold (by omega) (by rw[<-ch,NJ];exact hb);have rU:aX C fid G H w.drew:=U.jf rfl;have c7:∀m n,Ext G w G w.drew m n:=fun m n=>Ext.jf (w:=w) (w':=w.drew) rfl rfl rfl m n
       obtain⟨bB,b4⟩:=aX.move rU cp hfz (.cells (kZ.toArray++vals.toArray++Builtin.zeroCells cv.cells (gm-(cI+xs.length))) e) (cI+e4.length)
        (kZ.toArray++vals.toArray++Builtin.zeroCells cv.cells (gm-(cI+xs.length))).size (by omega) (by omega) (.row i.size (ds++e4) false)
        ⟨by simp[lP],by simp;omega,rfl,eM,ui,_,e,kZ++vals,(Builtin.zeroCells cv.cells (gm-(cI+xs.length))).toList,mi _ _,rfl,by simp,a1.mono (G:=G) (w:=w.drew) (G':=⟨ck G.β l ⟨w.drew.heap.size,cI+e4.length,(kZ.toArray++vals.toArray++Builtin.zeroCells cv.cells (gm-(cI+xs.length))).size,false⟩,G.I⟩) (by
         intro x fY eL;by_cases ly:x=l
         ·subst ly;rw[cp]at eL;cases eL
          exact⟨_,dh _ _ _,by simp only;omega,fun q=>by omega,fun q=>by simp only at q;omega,fun q=>by rw[hfz]at q;cases q⟩
         ·exact⟨fY,by simp only[dx ly];exact eL,aF _,id,fun _=>⟨rfl,rfl⟩,fun _=>rfl⟩) (fun b qN=>⟨qN,alloc_old (w:=w.drew) (rU.c0 b qN).1⟩) (Eo.ext U (c7 0 0))⟩
       refine⟨_,_,_,.inl (by rw[cc,dG,lA];rfl),bB,fun m hm=>(c7 m H.length).trans (b4.le (cM hm (nB _ _)) (aF _)),?_,jO _ _,by simp⟩;rw[<-ch];refine .ca l i.size 0 _ _ ⟨w.drew.heap.size,cI+e4.length,_,false⟩ _ _ _ (dh _ _ _) (aF _) (fun _=>⟨by simp,rfl,?_,by omega⟩);simp only[yB,u2,BO,lv,rR,pg,<-u4,dP];have vn:cI+xs.length+(gm-(cI+e4.length))=gm:=by omega
       rw[vn];exact aF _
     ·cases he
    ·cases he
   ·cases he
 ·cases he
end Go.Abs
namespace Go.Abs
open Go
variable{C:Ctx}{fid:Nat->Nat}{w w':World}{G G':bT}{H:Heap}
section
variable{vars:List Nat}{ag:ai->V}{ρ:Operand->Value}{low low':Nat}{v:V}{H':Heap}{o:Oper}
theorem c3.ahE (U:aX C fid G H w){low:Nat}{r:Result Next}{s:List UInt8}{c:Array Value}{rest:List Value}{cap:Nat}(hn:0<s.length)
  (hc:c.toList=(s.map fun b=>Value.int .u8 b.toNat)++rest) (ec:cap<=c.size) (hle:s.length<=cap)
  (hr:r=.ok (.value (.slice (some ⟨w.heap.size,0,none⟩) s.length cap)) (w.drew.alloc (.cells c C.xl))):
  c3 C fid G H w low r (.ca H.length 1 0 s.length s.length) (H++[.qC s]) low:=by
 have kh:aX C fid G H w.drew:=U.jf rfl;have c7:∀m n,Ext G w G w.drew m n:=fun m n=>Ext.jf (w:=w) (w':=w.drew) rfl rfl rfl m n;refine⟨_,_,⟨ck G.β H.length ⟨w.drew.heap.size,s.length,c.size,false⟩,G.I⟩,.inl hr,kh.push _ _ s.length c.size ⟨rfl,rfl,hn,c,rest,mi _ _,rfl,hc⟩,fun m _=>(c7 m H.length).trans (Ext.push kh _ _ _ m),?_,aF _,by simp⟩;exact .ca _ 1 0 _ _ ⟨w.drew.heap.size,s.length,c.size,false⟩ _ _ _ (dh _ _ _) (aF _) (fun _=>⟨by simp,rfl,by rw[dP,HW];exact ec,hle⟩)
theorem ahF (U:aX C fid G H w)(aN:fr C fid vars G w ag ρ){a b:Operand}{t u e:TypeId}{i:TypeInfo}{cv:Value}{args:Array Operand}{ts:Array TypeId}(ho:o.op=.call {callee:=.builtin .append,args,argTypes:=ts})
  (ha:args= #[a,b]) (ht:ts= #[t,u]) {ki hP:ai} (h1:C.b5 vars a=some ki) (h2:C.b5 vars b=some hP) (hd:C.P.underlying t=some (.slice e)) (hu:C.P.underlying u=some .string) (hi:C.P.info? e=some i)
  (aO:i.zero=some cv) (pg:cv.cells.size=i.size) (kA:i.size=1) (Ep:i.bytes=1) (vz:e=C.xl) (he:step ag H low (.DQ ki hP)=some (v,H',low')):c3 C fid G H w low ((execOp ρ o).run C.P w) v H' low':=by
 subst ha;subst ht;subst vz;have hx:=aN a ki h1;have hy:=aN b hP h2
 have cc:(execOp ρ o).run C.P w=((Builtin.append_ #[t,u] o.type #[ρ a,ρ b]).run C.P w).andThen fun z w'=>.ok (.value z) w':=by
  rw[vq ho];simp only[builtin,Sem.run_bind,DH,de,iO];rfl
 have Em:∀s:List UInt8,∀x∈s.map (fun b=>Value.int .u8 b.toNat),x.oneCell'=true:=fun s x hx=>by
  obtain⟨b,-,rfl⟩:=dX.1 hx;rfl
 simp only[step]at he;split at he
 ·rename_i s ab aj
  rw[ab]at hx;rw[aj]at hy;rw[hy.ox,hx.jh]at cc;split at he
  ·rename_i pj
   have lQ:s=[]:=by simpa using pj
   subst lQ;simp only[aA,bq]at he;obtain⟨rfl,rfl,rfl⟩:=he;refine .same U (x:=.slice none 0 0) ?_ (.p _ _ .bX);rw[cc,It (P:=C.P) hd hu hi (n:=0) rfl (BU i.size []) (by simp)];rfl
  ·rename_i pj
   have lQ:s≠[]:=by simpa using pj
   split at he
   ·rename_i hb
    simp only[aA,bq]at he;obtain⟨rfl,rfl,rfl⟩:=he;have hC:0<s.length:=Bg.2 lQ
    obtain⟨gm,ec,lA⟩:=Iu (P:=C.P) (t:=t) (u:=u) (ty:=o.type) (w:=w) (base:=none) (sLen:=0) (sCap:=0) (n:=s.length) (s:=⟨⟨s⟩⟩) (olds:=[]) hd hu hi aO rfl (BU i.size s)
     (by simp[Builtin.firstCells,loadCells,loadCellsFrom]) (by omega) (by rw[Ep];omega)
    rw[dP]at lA ec;refine c3.ahE U (cap:=gm) (rest:=(Builtin.zeroCells cv.cells (gm-s.length)).toList) hC ?_ ?_ ec (by rw[cc,lA];rfl)
    ·simp
    ·simp only[yB,u2,mQ,ef,dP,BO,pg,kA]
     omega
   ·cases he
 ·rename_i l es off len tag s ab aj
  rw[ab]at hx;rw[aj]at hy;rw[hy.ox]at cc;split at he
  ·rename_i r hl
   split at he
   ·rename_i eh
    obtain⟨pj,rfl,rfl,rfl,fP,hb⟩:=eh;have lQ:s≠[]:=by simpa using pj
    have hC:0<s.length:=Bg.2 lQ;simp only[aA,bq]at he;obtain⟨rfl,rfl,rfl⟩:=he;obtain⟨h0,c4,cI,cap,cp,o9,hD,dG⟩:=hx.nI;obtain⟨aP,en,hr⟩:=U.obj l h0 cp;rw[hl]at en;cases en;obtain⟨hfz,p6,UG,c,rest,hc,fq,hM⟩:=hr;obtain⟨rfl,rfl,nK,nO⟩:=hD (p6.trans fP);rw[HV]at dG;rw[dP,HW]at nK;subst fP;have fe:c.size=r.length+rest.length:=by rw[<-fC,hM,fD,ef]
    by_cases hN:r.length+s.length<=cap
    ·have b7:=run_storeCells_at C.P h0.b (r.length*i.size) C.xl (s.map fun b=>Value.int .u8 b.toNat) 0 c w hc (by rw[ef,kA];omega) (Em s)
     have hval:(execOp ρ o).run C.P w=.ok (.value (.slice (some ⟨h0.b,0,none⟩) (r.length+s.length) cap)) (w.setRow h0.b (c.toList.take (r.length*i.size)++(s.map fun b=>Value.int .u8 b.toNat)++c.toList.drop (r.length*i.size+(s.map fun b=>Value.int .u8 b.toNat).length)).toArray):=by
      rw[cc,dG,It (P:=C.P) hd hu hi (n:=s.length) rfl (BU i.size s) hN];simp only[Addr.add_lit,dP];simp only[yH]at b7;rw[b7];rfl
     have dM:Ext G w ⟨ck G.β l {h0 with tag:=r.length+s.length},G.I⟩ (w.setRow h0.b (c.toList.take (r.length*i.size)++(s.map fun b=>Value.int .u8 b.toNat)++c.toList.drop (r.length*i.size+(s.map fun b=>Value.int .u8 b.toNat).length)).toArray) l H.length:=
      Ext.write U cp hfz rfl (by simp only;omega) (fun q=>by omega) rfl (setRow_size _ _) (fun b aZ=>setRow_other aZ _) rfl rfl
     refine⟨_,_,_,.inl hval,aX.write U cp hfz (h':={h0 with tag:=r.length+s.length}) rfl hfz (by simp only;omega) (fun q=>by omega) rfl (setRow_size _ _) (fun b aZ=>setRow_other aZ _) (.qC (r++s)) ?_,
      fun m hm=>dM.le (cM hm (nB _ _)) (aF _),?_,jO _ _,by simp⟩
     ·refine⟨hfz,by simp,by simp;omega,_,rest.drop s.length,setRow_heap w h0.b c _ _ _ hc,?_,?_⟩
      ·show h0.fp=_
       rw[fq];simp only[u2,fD,tV,qv,fC,ef,kA];omega
      ·have bC:r.length*i.size=(r.map fun b=>Value.int .u8 b.toNat).length:=by rw[kA,ef,HW]
       rw[Mf,hM,bC,List.take_left,Mo,jP,kr,kr];congr 2;rw[Mc (by omega),iM,ef,ef];congr 1;omega
     ·exact .ca l 1 0 _ _ {h0 with tag:=r.length+s.length} _ _ _ (dh _ _ _) (aF _) (fun _=>⟨by simp,rfl,by rw[dP,HW];exact nK,hN⟩)
    ·have hold:(Builtin.firstCells i.size r.length (.slice (some ⟨h0.b,0,none⟩) r.length cap)).run C.P w.drew=.ok (r.map fun b=>Value.int .u8 b.toNat).toArray w.drew:=
      El (iz.vf (w:=w.drew) hc hM) (by rw[ef,kA,HW])
     obtain⟨gm,ec,lA⟩:=Iu (P:=C.P) (t:=t) (u:=u) (ty:=o.type) (w:=w) (n:=s.length) (s:=⟨⟨s⟩⟩) hd hu hi aO rfl (BU i.size s) hold (by omega) (by rw[Ep];exact hb);have rU:aX C fid G H w.drew:=U.jf rfl;have c7:∀m n,Ext G w G w.drew m n:=fun m n=>Ext.jf (w:=w) (w':=w.drew) rfl rfl rfl m n
     obtain⟨bB,b4⟩:=aX.move rU cp hfz (.cells ((r.map fun b=>Value.int .u8 b.toNat).toArray++(s.map fun b=>Value.int .u8 b.toNat).toArray++Builtin.zeroCells cv.cells (gm-(r.length+s.length))) C.xl) (r.length+s.length)
      ((r.map fun b=>Value.int .u8 b.toNat).toArray++(s.map fun b=>Value.int .u8 b.toNat).toArray++Builtin.zeroCells cv.cells (gm-(r.length+s.length))).size (by omega) (by omega) (.qC (r++s))
      ⟨rfl,by simp,by simp;omega,_,(Builtin.zeroCells cv.cells (gm-(r.length+s.length))).toList,mi _ _,rfl,by simp⟩
     refine⟨_,_,_,.inl (by rw[cc,dG,lA];rfl),bB,fun m hm=>(c7 m H.length).trans (b4.le (cM hm (nB _ _)) (aF _)),?_,jO _ _,by simp⟩;refine .ca l 1 0 _ _ ⟨w.drew.heap.size,r.length+s.length,_,false⟩ _ _ _ (dh _ _ _) (aF _) (fun _=>⟨by simp,rfl,?_,ec⟩);simp only[yB,u2,ef,BO,pg,kA];omega
   ·cases he
  ·cases he
 ·cases he
end
end Go.Abs
namespace Go.Abs
open Go
variable{C:Ctx}{fid:Nat->Nat}{w w':World}{G G':bT}{H:Heap}
section
variable{vars:List Nat}{ag:ai->V}{ρ:Operand->Value}{low low':Nat}{v:V}{H':Heap}{pos:String}{df:cN}{o:Oper}
theorem p9{α:Type}{a:Array α}{x y:α}(h:a.toList=[x,y]):a= #[x,y]:=by cases a;simp_all
theorem BV{α:Type}{a:Array α}{x:α}(h:a.toList=[x]):a= #[x]:=by cases a;simp_all
theorem ahG (U:aX C fid G H w)(aN:fr C fid vars G w ag ρ){b:Builtin}{args:Array Operand}{ts:Array TypeId}(ho:o.op=.call {callee:=.builtin b,args,argTypes:=ts})
  (hc:C.builtin vars pos b args ts=some df) (he:step ag H low df=some (v,H',low')):c3 C fid G H w low ((execOp ρ o).run C.P w) v H' low':=by
 unfold Ctx.builtin at hc;split at hc
 ·rename_i x t ha ht
  split at hc
  ·rename_i hu
   obtain⟨cE,hx,rfl⟩:=cj.1 hc;exact Nu U aN ho (BV ha) (BV ht) hx (by simpa using hu) he
  ·rename_i e hu
   obtain⟨cE,hx,rfl⟩:=cj.1 hc;exact Nu U aN ho (BV ha) (BV ht) hx (by simpa using⟨e,hu⟩) he
  ·rename_i k e hu
   obtain⟨cE,hx,rfl⟩:=cj.1 hc;exact Nu U aN ho (BV ha) (BV ht) hx (by simpa using⟨k,e,hu⟩) he
  ·cases hc
 ·rename_i a b t u ha ht
  split at hc
  ·rename_i e e' h1 h2
   split at hc
   ·rename_i i ki hP hi hx hy
    split at hc
    ·cases hc
    ·rename_i hn
     simp only[aA]at hc
     have sY:i.size≠0/\i.zero.map (fun z=>z.cells.size)=some i.size:=by
      simp only[jN,decide_eq_true_eq,bne_iff_ne,ne_eq,not_or,Decidable.not_not]at hn;exact hn
     obtain⟨cv,aO,pg⟩:=cj.1 sY.2;split at hc
     ·subst hc;exact ahq U aN ho (p9 ha) (p9 ht) hx hy h1 h2 hi aO pg (Mk sY.1) he
     ·subst hc;exact aho U aN ho (p9 ha) (p9 ht) hx hy h1 h2 hi aO pg (Mk sY.1) he
   ·cases hc
  ·rename_i e h1 h2
   split at hc
   ·rename_i i ki hP hi hx hy
    split at hc
    ·rename_i hn
     simp only[aA]at hc;simp only[cn,beq_iff_eq]at hn;obtain⟨⟨kC,UH⟩,Iv⟩:=hn;have kC:i.size=1:=by simpa using kC
     obtain⟨cv,aO,pg⟩:=cj.1 Iv;split at hc
     ·rename_i vz
      subst hc;simp only[cn,beq_iff_eq]at vz;exact ahF U aN ho (p9 ha) (p9 ht) hx hy h1 h2 hi aO (by rw[pg,kC]) kC UH vz.2 he
     subst hc;exact ahD U aN ho (p9 ha) (p9 ht) hx hy h1 h2 hi aO (by rw[pg,kC]) kC UH he
    ·cases hc
   ·cases hc
  ·cases hc
 ·rename_i m k t u ha ht
  split at hc
  ·rename_i eB sW am hR h1 h2 ar
   obtain⟨bP,gK,rfl⟩:=cj.1 hc;have gJ:=p9 ha;subst gJ;exact ahC U aN h1 (p9 ht) ho h2 ar gK he
  ·cases hc
 ·cases hc
 ·rename_i a b ha
  split at hc
  ·rename_i ki hP hx hy
   simp only[aA]at hc;subst hc;exact Un U aN ho (p9 ha) (mx:=true) rfl hx hy he
  ·cases hc
 ·rename_i a b t u ha ht
  split at hc
  ·rename_i e e' h1 h2
   split at hc
   ·rename_i n ki hP hi hx hy
    split at hc
    ·cases hc
    ·simp only[aA]at hc;subst hc
     exact ahr (e':=e') U aN ho (p9 ha) (p9 ht) hx hy h1 hi he
   ·cases hc
  ·cases hc
 ·rename_i a b ha
  split at hc
  ·rename_i ki hP hx hy
   simp only[aA]at hc;subst hc;exact Un U aN ho (p9 ha) (mx:=false) rfl hx hy he
  ·cases hc
 ·cases hc
theorem ahH (bw:eW C fid)(U:aX C fid G H w)(aN:fr C fid vars G w ag ρ)(kB:low<=H.length)
  (he:step ag H low (C.op vars pos o.op)=some (v,H',low')):c3 C fid G H w low ((execOp ρ o).run C.P w) v H' low':=by
 unfold Ctx.op at he;cases hc:C.cO vars pos o.op with
 |none=>rw[hc]at he;simp[step]at he
 |some df=>
  rw[hc]at he;simp only[tW]at he;cases dm:o.op with
  |move x=>exact Uc U aN (.inl dm) hc he
  |assign x=>exact Uc U aN (.inr dm) hc he
  |pick c a b=>exact agy U aN dm hc he
  |alloc t=>exact agK U dm hc he
  |box t x=>exact agL U aN dm hc he
  |build t parts=>exact ahi U aN dm hc he
  |buildSlice t l parts=>exact ahj U aN dm hc he
  |load t a=>exact agH U aN dm hc he
  |store t a x=>exact agI U aN dm hc kB he
  |nilCheck x=>exact agz U aN dm hc he
  |binOp a b c d e=>exact agX U aN dm hc he
  |unOp a b c=>exact agA U aN dm hc he
  |convert a b c=>
   rcases(show(∃x,df=.u5 x)\/∀x,df≠ .u5 x from by
    cases df<;>first|exact .inl ⟨_,rfl⟩|exact .inr (by simp))with⟨x,rfl⟩|hnb
   ·exact ahA U aN dm hc he
   ·exact agB U aN dm hnb hc he
  |makeInterface a b=>exact agC U aN dm hc he
  |makeFunc a b c=>exact agD bw U aN dm hc he
  |makeMap a b=>exact agM U dm hc he
  |makeSlice a b c=>exact ahn U aN dm hc he
  |slice a b c d e=>exact ag7 U aN dm hc he
  |fieldAddr a b c=>exact agG U aN dm hc he
  |field a b c=>exact agF U aN dm hc he
  |indexAddr a b c=>exact aha U aN dm hc he
  |index a b c=>exact agN U aN dm hc he
  |lookup a b c d=>exact ahu U aN dm hc he
  |mapUpdate a b c d=>exact UC U aN (.inl dm) hc he
  |insert a b c d=>exact UC U aN (.inr dm) hc he
  |extract a b=>exact agE U aN dm hc he
  |call c=>
   rw[dm]at hc;obtain⟨callee,args,dN⟩:=c;cases callee with
   |builtin b=>exact ahG U aN dm hc he
   |value f=>
    simp only[Ctx.cO]at hc;split at hc
    ·simp only[aA]at hc;subst hc;simp[step]at he
    ·cases hc
   | _=>simp[Ctx.cO]at hc
  | _=>rw[dm]at hc;simp[Ctx.cO]at hc
end
end Go.Abs
namespace Go.Abs
open Go
structure Fr (H:Heap) (low:Nat) (H':Heap) (low':Nat):Prop where
 len:H.length<=H'.length
 low:low'<=low
 same:∀l,l<low'->H'[l]? =H[l]?
variable{H H' H1 H2:Heap}{low low' bG dB:Nat}{ag:ai->V}{v v':V}
theorem Fr.refl (H:Heap)(low:Nat):Fr H low H low:=⟨aF _,aF _,fun _ _=>rfl⟩
theorem Fr.trans (h:Fr H low H1 bG)(k:Fr H1 bG H2 dB):Fr H low H2 dB:=
 ⟨cM h.len k.len,cM k.low h.low,fun l hl=>(k.same l hl).trans (h.same l (rB hl k.low))⟩
theorem Fr.push (hl:low<=H.length)(o:bU):Fr H low (H++[o]) low:=
 ⟨by simp,aF _,fun l h=>by rw[fB (by omega)]⟩
theorem Fr.set (l:Nat)(o:bU):Fr H low (H.set l o) (min low l):=
 ⟨by simp,jO _ _,fun x h=>by rw[iv (by omega)]⟩
theorem Fr.lift (h:Fr H bG H' dB)(low:Nat):Fr H low H' (min low dB):=
 ⟨h.len,jO _ _,fun l hl=>h.same l (by omega)⟩
theorem Fr.eq (h:Fr H low H' low')(hl:H.length<=low')(he:H'.length=H.length):H'=H:=by
 apply o0;intro l;rcases fV l low' with q|q
 ·exact h.same l q
 ·rw[nA (by omega),nA (by omega)]
theorem NK (h:Fr H low H' low')(hm:ei H H' low'=false):H'=H:=by
 simp only[ei,yz,decide_eq_false_iff_not,bne_eq_false_iff_eq]at hm;exact h.eq (by omega) hm.2
structure UI (f:Heap->Nat->V->Option (V × Heap × Nat)):Prop where
 ok:∀{H H':Heap} {low low':Nat} {v v':V},f H low v=some (v',H',low')->Fr H low H' low'/\H'.length=H.length
theorem NL{f:Heap->Nat->V->Option (V × Heap × Nat)}(ae:UI f):∀{vs vs':List V} {H H':Heap} {low low':Nat},kT f H low vs=some (vs',H',low')->Fr H low H' low'/\H'.length=H.length
 |[],_,_,_,_,_,he=>by
  simp only[kT,aA,bq]at he;obtain⟨-,rfl,rfl⟩:=he;exact⟨.refl _ _,rfl⟩
 |v::r,_,_,_,_,_,he=>by
  simp only[kT]at he;split at he
  ·rename_i h1
   split at he
   ·rename_i h2
    simp only[aA,bq]at he;obtain⟨-,rfl,rfl⟩:=he;have a:=ae.ok h1;have b:=NL ae h2;exact⟨a.1.trans b.1,b.2.trans a.2⟩
   ·cases he
  ·cases he
theorem NM:∀(n:Nat),UI (dQ n)
 |0=>by
  refine⟨fun {H H' low low' v v'} he=> ?_⟩;simp only[dQ]at he;split at he
  ·simp only[aA,bq]at he
   obtain⟨-,rfl,rfl⟩:=he;exact⟨.refl _ _,rfl⟩
  ·cases he
 |n+1=>by
  refine⟨fun {H H' low low' v v'} he=> ?_⟩;have ih:=fun {vs vs' H H' low low'}=>NL (NM n) (vs:=vs) (vs':=vs') (H:=H) (H':=H') (low:=low) (low':=low');simp only[dQ]at he;split at he
  ·simp only[aA,bq]at he
   obtain⟨-,rfl,rfl⟩:=he;exact⟨.refl _ _,rfl⟩
  ·split at he
   ·split at he
    ·rename_i h
     simp only[aA,bq]at he;obtain⟨-,rfl,rfl⟩:=he;exact ih h
    ·cases he
   ·split at he
    ·rename_i h
     simp only[aA,bq]at he;obtain⟨-,rfl,rfl⟩:=he;exact ih h
    ·cases he
   ·split at he
    ·split at he
     ·split at he
      ·simp only[aA,bq]at he
       obtain⟨-,rfl,rfl⟩:=he;split
       ·exact⟨.refl _ _,rfl⟩
       ·exact⟨.set _ _,by simp⟩
      ·split at he
       ·rename_i h
        split at he
        ·split at he
         ·simp only[aA,bq]at he
          obtain⟨-,rfl,rfl⟩:=he;have:=ih h;exact⟨this.1.trans (.set _ _),by simp[this.2]⟩
         ·cases he
        ·cases he
       ·cases he
     ·cases he
    ·cases he
   ·simp only[aA,bq]at he
    obtain⟨-,rfl,rfl⟩:=he;exact⟨.refl _ _,rfl⟩
theorem BW (he:fN H low v=some (v',H',low')):Fr H low H' low'/\H'.length=H.length:=(NM 16).ok he
theorem Iw:∀{vs vs':List V} {H H':Heap} {low low':Nat},eV H low vs=some (vs',H',low')->Fr H low H' low'/\H'.length=H.length
 |[],_,_,_,_,_,he=>by
  simp only[eV,aA,bq]at he;obtain⟨-,rfl,rfl⟩:=he;exact⟨.refl _ _,rfl⟩
 |v::r,_,_,_,_,_,he=>by
  simp only[eV]at he;split at he
  ·rename_i h1
   split at he
   ·rename_i h2
    simp only[aA,bq]at he;obtain⟨-,rfl,rfl⟩:=he;have a:=BW h1;have b:=Iw h2;exact⟨a.1.trans b.1,b.2.trans a.2⟩
   ·cases he
  ·cases he
theorem ahI{n:Nat}{a x:V}{l:Nat}(he:jw H n a x=some (H',l)):∃o,H'=H.set l o:=by
 unfold jw at he
 repeat' split at he
 all_goals first
  |(simp only[aA,bq]at he;obtain⟨rfl,rfl⟩:=he;exact⟨_,rfl⟩)
  |cases he
set_option maxHeartbeats 1000000 in
theorem ahJ{op:cN}(hl:low<=H.length)(he:step ag H low op=some (v,H',low')):Fr H low H' low':=by
 cases op with
 |alloc z=>
  simp only[step,aA,bq]at he;obtain⟨-,rfl,rfl⟩:=he;exact .push hl _
 |box x=>
  simp only[step]at he;split at he
  ·simp only[aA,bq]at he
   obtain⟨-,rfl,rfl⟩:=he;exact .push hl _
  ·cases he
 |build z parts=>
  simp only[step]at he;obtain⟨cs,-,he⟩:=cj.1 he;simp only[bq]at he;obtain⟨-,rfl,rfl⟩:=he;exact .refl _ _
 |lit es z len parts ju=>
  simp only[step]at he;split at he
  ·rename_i h
   have ae:=Iw h;have mj:low'<=low':=aF _;split at he
   ·split at he
    ·split at he
     ·simp only[aA,bq]at he
      obtain⟨-,rfl,rfl⟩:=he;exact ae.1
     ·cases he
    ·split at he
     ·simp only[aA,bq]at he
      obtain⟨-,rfl,rfl⟩:=he;exact ae.1
     ·simp only[aA,bq]at he
      obtain⟨-,rfl,rfl⟩:=he;exact ae.1.trans (.push (by have:=ae.1.low;have:=ae.1.len;omega) _)
   ·cases he
  ·cases he
 |store n a x=>
  simp only[step]at he;obtain⟨⟨H1,l⟩,h,he⟩:=cj.1 he;simp only[bq]at he;obtain⟨-,rfl,rfl⟩:=he;obtain⟨o,rfl⟩:=ahI h;exact .set _ _
 |Bm t x=>
  simp only[step]at he;split at he
  ·rename_i h
   simp only[aA,bq]at he;obtain⟨-,rfl,rfl⟩:=he;exact(BW h).1
  ·cases he
 |mkMap=>
  simp only[step,aA,bq]at he;obtain⟨-,rfl,rfl⟩:=he;exact .push hl _
 |mkSlice es z bytes l c=>
  simp only[step]at he
  repeat' split at he
  all_goals first
   |(simp only[aA,bq]at he;obtain⟨-,rfl,rfl⟩:=he;first|exact .refl _ _|exact .push hl _)
   |cases he
 |pQ kind m k x=>
  simp only[step]at he;split at he
  ·rename_i h
   have ae:=(BW h).1
   repeat' split at he
   all_goals first
    |(simp only[aA,bq]at he;obtain⟨-,rfl,rfl⟩:=he;exact ae.trans (.set _ _))
    |cases he
  ·cases he
 |xe es bytes a b=>
  simp only[step]at he
  repeat' split at he
  all_goals first
   |(simp only[aA,bq]at he;obtain⟨-,rfl,rfl⟩:=he;exact .refl _ _)
   |cases he
 |append es bytes a b=>
  simp only[step]at he;split at he
  ·split at he
   ·rename_i h
    have ae:=(Iw h).1;have hle:∀x,x<=low->x<=H.length:=fun x hx=>cM hx hl
    repeat' split at he
    all_goals first
     |(simp only[aA,bq]at he;obtain⟨-,rfl,rfl⟩:=he
       first
        |exact ae
        |exact ae.trans (.push (by have:=ae.low;have:=ae.len;omega) _)
        |exact ae.trans (.set _ _))
     |cases he
   ·cases he
  ·cases he
 |yL kind m k=>
  simp only[step]at he
  repeat' split at he
  all_goals first
   |(simp only[aA,bq]at he;obtain⟨-,rfl,rfl⟩:=he;first|exact .refl _ _|exact .set _ _)
   |cases he
 |DP a b=>
  simp only[step]at he
  repeat' split at he
  all_goals first
   |(simp only[aA,bq]at he;obtain⟨-,rfl,rfl⟩:=he;first|exact .refl _ _|exact .push hl _|exact .set _ _)
   |cases he
 |DQ a b=>
  simp only[step]at he
  repeat' split at he
  all_goals first
   |(simp only[aA,bq]at he;obtain⟨-,rfl,rfl⟩:=he;first|exact .refl _ _|exact .push hl _|exact .set _ _)
   |cases he
 |copy es a b=>
  simp only[step]at he
  repeat' split at he
  all_goals first
   |(simp only[aA,bq]at he;obtain⟨-,rfl,rfl⟩:=he;first|exact .refl _ _|exact .set _ _)
   |cases he
 |call raw f args=>simp[step]at he
 |fail=>simp[step]at he
 | _=>
   simp only[step]at he
   repeat' split at he
   all_goals first
    |(cases he;done)
    |(cases he;exact .refl _ _)
    |(simp only[aA,bq]at he;obtain⟨-,rfl,rfl⟩:=he;exact .refl _ _)
    |(obtain⟨_,-,he⟩:=cj.1 he;simp only[bq]at he;obtain⟨-,rfl,rfl⟩:=he;exact .refl _ _)
theorem UJ{op:cN}(ht:gk op=false)(he:step ag H low op=some (v,H',low')):H'=H/\low'=low/\∀H2 dB,step ag H2 dB op=some (v,H2,dB):=by
 cases op<;>first
  |(simp[gk]at ht;done)
  |skip
 all_goals
  simp only[step]at he⊢
  repeat' split at he
  all_goals first
   |(cases he;done)
   |(simp only[aA,bq]at he;obtain⟨rfl,rfl,rfl⟩:=he;simp_all;done)
   |(obtain⟨x,hx,he⟩:=cj.1 he;simp only[bq]at he;obtain⟨rfl,rfl,rfl⟩:=he;simp_all;done)
theorem Es{ag hE:ai->V}{d:Nat}{x:Option ai}(h:∀y∈x.toList,ag y=hE y):e1 ag d x=e1 hE d x:=by
 cases x with
 |none=>rfl
 |some y=>simp[e1,h y (by simp)]
theorem ahK{ag hE:ai->V}{op:cN}(h:∀x∈op.operands,ag x=hE x):step ag H low op=step hE H low op:=by
 cases op with
 |build z parts=>
  have:(parts.map fun p=>(p.1,p.2.1,ag p.2.2))=parts.map fun p=>(p.1,p.2.1,hE p.2.2):=pN fun p hp=>by rw[h _ (by simp only[cN.operands,dX];exact⟨p,hp,rfl⟩)]
  simp only[step,this]
 |lit es z len parts ju=>
  have:(parts.map fun p=>ag p.2)=parts.map fun p=>hE p.2:=pN fun p hp=>h _ (by simp only[cN.operands,dX];exact⟨p,hp,rfl⟩);simp only[step,this]
 |ua i a b=>
  have h1:a.map ag=a.map hE:=pN fun p hp=>h _ (by simp[cN.operands,hp]);have h2:b.map ag=b.map hE:=pN fun p hp=>h _ (by simp[cN.operands,hp]);simp only[step,h1,h2]
 |qB x lo hi=>
  have h0:=h x (by simp[cN.operands]);have h1:∀d,e1 ag d lo=e1 hE d lo:=fun d=>Es fun y hy=>h y (by simp only[cN.operands,dp,jc];exact .inr (.inl hy));have h2:∀d,e1 ag d hi=e1 hE d hi:=fun d=>Es fun y hy=>h y (by simp only[cN.operands,dp,jc];exact .inr (.inr hy));simp only[step,h0,h1,h2]
 |sI es x lo hi mx=>
  have h0:=h x (by simp[cN.operands]);have h1:∀d,e1 ag d lo=e1 hE d lo:=fun d=>Es fun y hy=>h y (by simp only[cN.operands,dp,jc];exact .inr (.inl (.inl hy)));have h2:∀d,e1 ag d hi=e1 hE d hi:=fun d=>Es fun y hy=>h y (by simp only[cN.operands,dp,jc];exact .inr (.inl (.inr hy)));have ar:∀d,e1 ag d mx=e1 hE d mx:=fun d=>Es fun y hy=>h y (by simp only[cN.operands,dp,jc];exact .inr (.inr hy));cases mx with
  |none=>simp only[step,h0,h1,h2,ar]
  |some m=>
   have aR:=h m (by simp[cN.operands]);simp only[step,h0,h1,h2,ar,aR]
 |call raw f args=>rfl
 |fail=>rfl
 |alloc z=>rfl
 |mkMap=>rfl
 | _=>simp only[step];simp only[cN.operands,dp,rE,or_false,forall_eq_or_imp,forall_eq]at h;simp only[h]
theorem za{call:cP}{op:cN}(h:∀raw f args,op≠ .call raw f args):b3 call ag H low op=step ag H low op:=by
 cases op<;>first|rfl|exact absurd rfl (h _ _ _)
theorem ahL{call:cP}{ag hE:ai->V}{op:cN}(h:∀x∈op.operands,ag x=hE x):b3 call ag H low op=b3 call hE H low op:=by
 cases op with
 |call raw f args=>
  have h0:=h f (by simp[cN.operands]);have h1:args.map ag=args.map hE:=pN fun p hp=>h _ (by simp[cN.operands,hp]);cases raw<;>simp only[b3,h0,h1]
 | _=>rw[za (by simp),za (by simp)];exact ahK h
def mu (call:cP):Prop:=∀(f:V) (args:List V) (H:Heap) (v:V) (H':Heap) (low':Nat),call f args H=some (v,H',low')->Fr H H.length H' low'
theorem zb{call:cP}{op:cN}(hc:mu call)(hl:low<=H.length)(he:b3 call ag H low op=some (v,H',low')):Fr H low H' low':=by
 cases op with
 |call raw f args=>
  cases raw
  ·simp only[b3]at he
   split at he
   ·rename_i vs H1 bG h1
    have ae:=Iw h1;split at he
    ·rename_i u H2 l h2
     have hk:=hc _ _ _ _ _ _ h2;split at he
     ·cases he;exact .refl _ _
     ·cases he;exact ae.1.trans (hk.lift _)
    ·cases he
   ·cases he
  ·simp only[b3]at he
   split at he
   ·rename_i u H2 l h2
    cases he;exact(hc _ _ _ _ _ _ h2).lift _
   ·cases he
 | _=>rw[za (by simp)]at he;exact ahJ hl he
theorem kD (st:av)(d:Option (Nat × Bool))(v:V):(st.put d v).H=st.H/\(st.put d v).low=st.low/\(st.put d v).ro=st.ro:=by
 rcases d with _|⟨t,b⟩
 ·exact⟨rfl,rfl,rfl⟩
 ·cases b<;>exact⟨rfl,rfl,rfl⟩
def gy (st aV:av):Prop:=Fr st.H st.low aV.H aV.low/\aV.ro=st.ro
theorem gy.refl (st:av):gy st st:=⟨.refl _ _,rfl⟩
theorem gy.trans{a b c:av}(h:gy a b)(k:gy b c):gy a c:=⟨h.1.trans k.1,k.2.trans h.2⟩
theorem gy.bound{a b:av}(h:gy a b)(hl:a.low<=a.H.length):b.low<=b.H.length:=by
 have:=h.1.low;have:=h.1.len;omega
theorem pk{call:cP}(hc:mu call):∀(ops:List bI) (st aV:av) (wr fh:List Bool),st.low<=st.H.length->cY call ops st wr=some (aV,fh)->gy st aV
 |[],st,aV,wr,fh,_,he=>by
  simp only[cY,aA,bq]at he;obtain⟨rfl,-⟩:=he;exact .refl _
 |o::r,st,aV,wr,fh,hl,he=>by
  simp only[cY]at he;split at he
  ·split at he
   ·rename_i v H' low' h
    have ae:=zb hc (aF _) h;have hp:=kD {st with H:=H',low:=min st.low low'} o.dst v;have h1:gy st ({st with H:=H',low:=min st.low low'}.put o.dst v):=⟨by rw[hp.1,hp.2.1];exact ae.lift _,hp.2.2⟩;exact h1.trans (pk hc r _ _ _ _ (h1.bound hl) he)
   ·cases he
  ·have hp:=kD st o.dst (.aU [])
   have h1:gy st (st.put o.dst (.aU [])):=⟨by rw[hp.1,hp.2.1];exact .refl _ _,hp.2.2⟩;exact h1.trans (pk hc r _ _ _ _ (h1.bound hl) he)
  ·cases he
theorem UK{f:av->Option (X × av)}(ae:∀st x aV,st.low<=st.H.length->f st=some (x,aV)->gy st aV):∀(n:Nat) (st:av) (x:X) (aV:av),st.low<=st.H.length->iter f n st=some (x,aV)->gy st aV
 |0,_,_,_,_,he=>by cases he
 |n+1,st,x,aV,hl,he=>by
  simp only[iter]at he;split at he
  ·rename_i st1 h1
   have a:=ae _ _ _ hl h1;exact a.trans (UK ae n _ _ _ (a.bound hl) he)
  ·exact ae _ _ _ hl he
theorem mw{call:cP}(hc:mu call)(n:Nat):∀(c:cm) (st:av) (x:X) (aV:av),st.low<=st.H.length->exec call n c st=some (x,aV)->gy st aV
 | .skip,st,x,aV,hl,he=>by simp only[exec,aA,bq]at he;obtain⟨-,rfl⟩:=he;exact .refl _
 | .region ops dT,st,x,aV,hl,he=>by
   simp only[exec,av.fo]at he;split at he
   ·rename_i st1 wr h1
    have a:gy {st with aC:=[]} st1:=pk hc _ _ _ _ _ hl h1;have a8:gy st st1:=a
    repeat' split at he
    all_goals first
     |(cases he;exact a8)
     |cases he
   ·cases he
 | .yM ops ok f,st,x,aV,hl,he=>by
   simp only[exec,av.fo]at he;split at he
   ·rename_i st1 wr h1
    have a:gy {st with aC:=[]} st1:=pk hc _ _ _ _ _ hl h1;have a8:gy st st1:=a;split at he
    ·cases he;exact a8
    ·cases he
   ·cases he
 | .seq a b,st,x,aV,hl,he=>by
   simp only[exec,av.fo]at he;split at he
   ·rename_i st1 h1
    have k:=mw hc n a _ _ _ hl h1;exact k.trans (mw hc n b _ _ _ (k.bound hl) he)
   ·exact mw hc n a _ _ _ hl he
 | .cond c t e,st,x,aV,hl,he=>by
   simp only[exec,av.fo]at he;split at he
   ·exact mw hc n t _ _ _ hl he
   ·exact mw hc n e _ _ _ hl he
   ·cases he
 | .block id c,st,x,aV,hl,he=>by
   simp only[exec,av.fo]at he;split at he
   ·rename_i st1 h1
    have k:=mw hc n c _ _ _ hl h1;split at he<;>(cases he;exact k)
   ·exact mw hc n c _ _ _ hl he
 | .loop c,st,x,aV,hl,he=>by
   simp only[exec,av.fo]at he;exact UK (fun st x aV h1 h2=>mw hc n c st x aV h1 h2) n _ _ _ hl he
 | .rangeFunc f ps a b,st,x,aV,hl,he=>by
   simp only[exec,av.fo]at he;split at he
   ·cases he
   ·split at he
    ·rename_i u H1 bG h1
     have k:=hc _ _ _ _ _ _ h1;split at he
     ·split at he
      ·cases he
      ·cases he
       refine⟨⟨?_,jO _ _,fun l h=> ?_⟩,rfl⟩
       ·have:=k.len;simp at this⊢; omega
       ·simp only at h⊢
        rw[iv (by omega),k.same l (by omega),fB (by omega)]
     ·cases he
    ·cases he
 | .exit id,st,x,aV,hl,he=>by simp only[exec,aA,bq]at he;obtain⟨-,rfl⟩:=he;exact .refl _
 | .ret,st,x,aV,hl,he=>by simp only[exec,aA,bq]at he;obtain⟨-,rfl⟩:=he;exact .refl _
 | .fail,st,x,aV,hl,he=>by simp[exec]at he
theorem Ix{fresh:Bool}{H0:Heap}(h:Fr H0 H0.length H low)(he:finish fresh H0 v H low=some (v',H',low')):Fr H0 H0.length H' low':=by
 unfold finish at he;split at he
 ·split at he
  ·split at he
   ·cases he;exact .push (aF _) _
   ·split at he
    ·cases he;exact h
    ·cases he
  ·cases he
 ·split at he
  ·rename_i h1
   split at he
   ·cases he;exact .refl _ _
   ·cases he;exact h.trans (BW h1).1
  ·cases he
theorem ahM{ex:cm->av->Option (X × av)}(hx:∀c st x aV,st.low<=st.H.length->ex c st=some (x,aV)->gy st aV){f:jv}{args:List V}
  (he:iP ex f args H=some (v,H',low')):Fr H H.length H' low':=by
 unfold iP at he;split at he
 ·split at he
  ·rename_i st h1
   have k:=(hx _ _ _ _ (aF _) h1).1;split at he
   ·exact Ix k he
   ·exact Ix k he
   ·cases he
  ·rename_i st h1
   have k:=(hx _ _ _ _ (aF _) h1).1;split at he
   ·exact Ix k he
   ·exact Ix k he
   ·cases he
  ·cases he
 ·cases he
theorem ahN{ex:cm->av->Option (X × av)}(hx:∀c st x aV,st.low<=st.H.length->ex c st=some (x,aV)->gy st aV){l:Nat}{args:List V}
  (he:pW ex l args H=some (v,H',low')):Fr H H.length H' low':=by
 unfold pW at he;split at he
 ·split at he
  ·split at he
   ·rename_i st h1
    have k:=(hx _ _ _ _ (aF _) h1).1;split at he
    ·split at he
     ·rename_i x st2 h2
      have dI:=(hx _ _ _ _ (by have q:=k.low;have q':=k.len;simp only[yD]at q q'⊢; omega) h2).1;split at he
      ·cases he
       exact(k.trans (.set _ _)).trans (dI.trans (.set _ _))
      ·cases he
     ·cases he
    ·cases he
   ·cases he
  ·cases he
 ·cases he
theorem UL:∀(l:List (Nat × bU)) (H:Heap) (low:Nat),Fr H low (xj H l) (xk low l)
 |[],H,low=>.refl _ _
 |p::r,H,low=>(Fr.set p.1 p.2).trans (UL r _ _)
theorem ahO{spec:sK}{args:List V}(he:u9 spec args H=some (v,H',low')):Fr H H.length H' low':=by
 obtain⟨r,-,he⟩:=cj.1 he;cases he;have h:=UL r.2.1 H H.length;refine h.trans ⟨by simp,aF _,fun l hl=> ?_⟩;rw[fB];have:=h.low;have:=h.len;omega
theorem Iy (aa:Nat->Option bV):∀(n:Nat),mu (bD aa n)
 |0=>fun f args H v H' low' he=>by simp[bD]at he
 |n+1=>fun f args H v H' low' he=>by
  have hx:=fun c st x aV (h1:st.low<=st.H.length) h2=>mw (Iy aa n) n c st x aV h1 h2;simp only[bD,qE]at he;split at he
  ·split at he
   ·exact ahM hx he
   ·split at he
    ·obtain⟨u,-,he⟩:=cj.1 he
     cases he;exact .refl _ _
    ·cases he
   ·exact ahO he
   ·cases he
  ·exact ahN hx he
  ·cases he
end Go.Abs
namespace Go.Abs
open Go
variable{C:Ctx}{fid:Nat->Nat}{w w':World}{G G':bT}{H H':Heap}
def eH (ro:Option Nat):Fence:={fn:=fun _=>True,depth:=none,alive:=false,round:=ro}
def k1 (C:Ctx)(fid:Nat->Nat)(G:bT)(H:Heap)(w:World)(v:V)(H':Heap)(low':Nat)(x:Value)(w':World):Prop:=
 ∃G',aX C fid G' H' w'/\(∀m,m<=low'->Ext G w G' w' m H.length)/\bd fid G' w' v x
def sZ (P:Program)(R:Value->World->Prop):Result Next->Prop
 | .ok (.value x) w'=>R x w'
 | .ok .skip w'=>R undef w'
 | .ok (.enter f args) w'=>Calls P f args w' (fun e gl=>∃x,e=.returned x/\R x gl)
 | .ok (.row row args) w'=>Rows P row args w' R
 | .ok (.round l f tmps aQ ct) w'=>RoundIn Fence.wide 0 P l f tmps aQ ct w' (fun e gl=>∃x,e=.returned x/\R x gl)
 | _=>False
theorem sZ.mono{P:Program}{R oE:Value->World->Prop}(h:∀x w,R x w->oE x w):∀{r:Result Next},sZ P R r->sZ P oE r
 | .ok (.value x) w',k=>h _ _ k
 | .ok .skip w',k=>h _ _ k
 | .ok (.enter f args) w',k=>xd k fun e gl=>fun⟨x,ab,aj⟩=>⟨x,ab,h _ _ aj⟩
 | .ok (.row row args) w',k=>Rows.mono k h
 | .ok (.round l f tmps aQ ct) w',k=>RoundIn.mono k fun e gl=>fun⟨x,ab,aj⟩=>⟨x,ab,h _ _ aj⟩
 | .ok (.defer _) _,k| .ok .recover _,k| .ok (.spawn _) _,k| .ok (.comm ..) _,k| .ok .numGoroutine _,k| .ok .collect _,k| .ok (.watch _) _,k| .ok (.newcoro ..) _,k| .ok (.coroswitch ..) _,k
 | .ok (.sleep _) _,k| .ok (.timer _) _,k| .ok (.alone ..) _,k| .ok (.callThen ..) _,k| .ok (.stack ..) _,k| .halt ..,k=>k.elim
theorem NN{P:Program}{R:Value->World->Prop}{ro:Option Nat}{o:Oper}{a:Act}{next:Act->World->Prop}{Q:Exit->Act->World->Prop}(hn:∀x w,R x w->next (a.put o.dst x) w):
  ∀{r:Result Next},sZ P R r->o.uponIn (eH ro) 0 P a next Q r
 | .ok (.value x) w',k=>hn _ _ k
 | .ok .skip w',k=>hn _ _ k
 | .ok (.enter f args) w',k=>by
   have b6:CallsIn Fence.wide 0 P f args w' fun
    | .returned v,gl=>next (a.put o.dst v) gl
    | .panicked chain,gl=>Q (.panic chain) a gl
    | .outgrown,_=>LetsOut Q:=callsIn_wide.2 (xd k fun e gl=>by rintro⟨x,rfl,aj⟩;exact hn _ _ aj)
   exact⟨fun h=>by simp[eH]at h,b6⟩
 | .ok (.row row args) w',k=>by
   refine⟨fun h=>by simp[eH]at h,fun c cs _=> ?_⟩;obtain⟨v,bJ,h1,h2⟩:=k c cs;exact⟨v,bJ,hn _ _ h1,(stepsIn_wide.2 h2:StepsIn (Machine.fenced P Fence.wide) P _ _)⟩
 | .ok (.round l f tmps aQ ct) w',k=>by
   have b6:RoundIn Fence.wide 0 P l f tmps aQ ct w' fun
    | .returned v,gl=>next (a.put o.dst v) gl
    | .panicked chain,gl=>Q (.panic chain) a gl
    | .outgrown,_=>LetsOut Q:=RoundIn.mono k fun e gl=>by rintro⟨x,rfl,aj⟩;exact hn _ _ aj
   exact⟨fun h=>by simp[eH]at h,b6⟩
 | .ok (.defer _) _,k| .ok .recover _,k| .ok (.spawn _) _,k| .ok (.comm ..) _,k| .ok .numGoroutine _,k| .ok .collect _,k| .ok (.watch _) _,k| .ok (.newcoro ..) _,k| .ok (.coroswitch ..) _,k
 | .ok (.sleep _) _,k| .ok (.timer _) _,k| .ok (.alone ..) _,k| .ok (.callThen ..) _,k| .ok (.stack ..) _,k| .halt ..,k=>k.elim
structure gL (C:Ctx) (fid:Nat->Nat) (call:cP):Prop where
 bQ:mu call
 run:∀{G:bT} {H:Heap} {w:World} {f:V} {args:List V} {v:V} {H':Heap} {low':Nat} {NP:Value} {xs:List Value},aX C fid G H w->bd fid G w f NP->a1 fid G w args xs->
  call f args H=some (v,H',low')->∃d,(Deferred.ofValue NP ⟨xs⟩).run C.P w=.ok d w/\sZ C.P (k1 C fid G H w v H' low') ((invoke d.target d.args).run C.P w)/\
   (Bq f=true->cg args=false->∃g aQ,(invoke d.target d.args).run C.P w=.ok (.enter g aQ) w)
theorem aX.restore (U:aX C fid G H w)(hs:w.heap.size<=w'.heap.size)(hk:∀b,b<w.heap.size->w'.heap[b]? =w.heap[b]?):aX C fid G H w' where
 obj l h e:=by
  obtain⟨o,ho,hr⟩:=U.obj l h e;exact⟨o,ho,hr.mono (.refl _) (fun b hb=>⟨hb,hk b (U.c0 b hb).1⟩) (hk _ (U.blk l h e))⟩
 inj:=U.inj
 blk l h e:=rB (U.blk l h e) hs
 c0 b hb:=⟨rB (U.c0 b hb).1 hs,(U.c0 b hb).2⟩
 ky:=U.ky
 e2 b o a6:=⟨(U.e2 b o a6).1,by rw[hk b (U.c0 b (U.e2 b o a6).1).1];exact(U.e2 b o a6).2⟩
theorem Ext.restore (hs:w.heap.size<=w'.heap.size)(hk:∀b,b<w.heap.size->w'.heap[b]? =w.heap[b]?)(h1:w'.os=w.os)(ar:w'.output=w.output)(m n:Nat):Ext G w G w' m n:=
 ⟨hs,h1,ar,fun b hb _=>hk b hb,.refl _,fun _ h hb=>.inl ⟨h,hb,.inl rfl⟩,fun _ h=>h,fun _ h=>.inl h⟩
theorem Ext.UM{m n:Nat}(U:aX C fid G H w)(h:Ext G w G' w' m n)(hm:H.length<=m):∀b,b<w.heap.size->w'.heap[b]? =w.heap[b]? :=fun b hb=>
 h.ek b hb fun l x e _=>.inr (rB (U.lt e) hm)
theorem UN{o:Oper}{ρ:Operand->Value}{f:Operand}{args:Array Operand}{ts:Array TypeId}(ho:o.op=.call {callee:=.value f,args,argTypes:=ts}){P:Program}{w:World}{d:Deferred}
  (hd:(Deferred.ofValue (ρ f) (args.map ρ)).run P w=.ok d w):(execOp ρ o).run P w=(invoke d.target d.args).run P w:=by
 unfold execOp;simp only[ho,resolve,Sem.run_bind,hd,Result.andThen]
section
variable{vars:List Nat}{ag:ai->V}{ρ:Operand->Value}{low low':Nat}{v:V}{o:Oper}{call:cP}
theorem NQ (bw:eW C fid)(ba:gL C fid call)(U:aX C fid G H w)(aN:fr C fid vars G w ag ρ)(kB:low<=H.length)
  (he:b3 call ag H low (C.op vars o.pos o.op)=some (v,H',low')):sZ C.P (k1 C fid G H w v H' low') ((execOp ρ o).run C.P w):=by
 have ahP:(∀raw f args,C.op vars o.pos o.op≠ .call raw f args)->sZ C.P (k1 C fid G H w v H' low') ((execOp ρ o).run C.P w):=fun aZ=>by
  rw[za aZ]at he;obtain⟨x,aD,ay,hr,h1,h2,ar,-,-⟩:=ahH bw U aN kB he;rcases hr with hr|⟨hr,rfl⟩
  ·rw[hr];exact⟨ay,h1,h2,ar⟩
  ·rw[hr];exact⟨ay,h1,h2,ar⟩
 by_cases aZ:∃raw f args,C.op vars o.pos o.op=.call raw f args
 ·obtain⟨raw,mf,NR,dm⟩:=aZ
  have cF:C.cO vars o.pos o.op=some (.call raw mf NR):=by
   unfold Ctx.op at dm;cases h:C.cO vars o.pos o.op with
   |none=>rw[h]at dm;cases dm
   |some a=>rw[h]at dm;simp only[tW]at dm;rw[dm]
  obtain⟨f,args,ts,ho,ae,vA⟩:∃f args ts,o.op=.call {callee:=.value f,args,argTypes:=ts}/\C.b5 vars f=some mf/\dF (C.b5 vars) args.toList=some NR:=by
   cases ho:o.op with
   |call c=>
    rw[ho]at cF;obtain⟨callee,args,dN⟩:=c;cases callee with
    |value f=>
     simp only[Ctx.cO]at cF;split at cF
     ·rename_i h1 h2
      simp only[aA,cN.call.injEq]at cF;obtain⟨-,rfl,rfl⟩:=cF;exact⟨f,args,dN,rfl,h1,h2⟩
     ·cases cF
    |builtin b=>
     exfalso;simp only[Ctx.cO]at cF;unfold Ctx.builtin at cF
     repeat' split at cF
     all_goals first
      |(cases cF;done)
      |(simp only[aA,reduceCtorEq]at cF;done)
      |(obtain⟨_,_,h⟩:=cj.1 cF;cases h;done)
    |invoke r n=>simp[Ctx.cO]at cF
   |binOp a b c d e=>
    exfalso;rw[ho]at cF;simp only[Ctx.cO,Ctx.yR]at cF
    repeat' split at cF
    all_goals first
     |(cases cF;done)
     |(obtain⟨_,_,h⟩:=cj.1 cF;cases h;done)
   |makeFunc g a b=>
    exfalso;rw[ho]at cF;cases g with
    |func f=>
     simp only[Ctx.cO]at cF;split at cF<;>simp at cF
    | _=>simp[Ctx.cO]at cF
   |makeMap t r=>
    exfalso;rw[ho]at cF;cases r<;>simp[Ctx.cO]at cF
   | _=>
     exfalso;rw[ho]at cF;simp only[Ctx.cO]at cF
     repeat' split at cF
     all_goals first
      |(cases cF;done)
      |(obtain⟨_,_,h⟩:=cj.1 cF;cases h;done)
  have zc:=aN f mf ae;have gw:a1 fid G w (NR.map ag) (args.map ρ).toList:=by rw[Array.toList_map];exact Ii aN vA
  rw[dm]at he;have s0:(⟨(args.map ρ).toList⟩:Array Value)=args.map ρ:=rfl;cases raw with
  |true=>
   simp only[b3]at he;split at he
   ·rename_i u H2 l h1
    cases he;obtain⟨d,hd,hn,-⟩:=ba.run U zc gw h1;rw[s0]at hd;rw[UN ho hd];refine hn.mono fun x bJ hp=> ?_;obtain⟨bl,p1,p2,p3⟩:=hp;exact⟨bl,p1,fun m hm=>p2 m (by omega),p3⟩
   ·cases he
  |false=>
   simp only[b3]at he;split at he
   ·rename_i vs H1 bG aO
    obtain⟨ay,fz,qL⟩:=M7 U gw aO;have NS:=zc.ext U (fz.ext 0 (by omega));split at he
    ·rename_i u H2 l h1
     obtain⟨d,hd,hn,-⟩:=ba.run fz.rel NS qL h1;rw[s0]at hd;rw[UN ho hd];refine hn.mono fun x bJ hp=> ?_;obtain⟨bl,p1,p2,p3⟩:=hp;split at he
     ·rename_i hc
      cases he;have c7:=p2 H1.length hc.2;have hk:=c7.UM fz.rel (aF _);exact⟨G,U.restore c7.size hk,fun m _=>.restore c7.size hk c7.os c7.output m _,p3.flat hc.1⟩
     ·cases he
      exact⟨bl,p1,fun m hm=>(fz.ext m (by omega)).trans ((p2 m (by omega)).le (aF _) (Nat.le_of_eq fz.len.symm)),p3⟩
    ·cases he
   ·cases he
 ·exact ahP fun raw f args h=>aZ ⟨raw,f,args,h⟩
end
end Go.Abs
