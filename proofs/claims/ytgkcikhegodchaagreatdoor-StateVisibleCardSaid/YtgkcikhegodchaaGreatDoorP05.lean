/- Texts of this claim, joined and written short by a program. -/
import Derived.Test.YtgkcikhegodchaaGreatDoorP04
import Derived.Laws.BytesString
import Derived.Test.YtgkcikhegodchaaGreatDoorP00
import Derived.RangeFuncRecord
import Derived.OrdersIn
set_option linter.unusedVariables false
set_option linter.unusedSimpArgs false
set_option linter.unusedSectionVars false
namespace Go.Abs
open Go
variable{C:Ctx}{fid:Nat->Nat}{w w':World}{G G':cg}{H:Heap}
variable{vars:List Nat}{ah:ai->V}{ρ:Operand->Value}{low low':Nat}{v:V}{H':Heap}{pos:String}{dv:cX}{o:Oper}
theorem W6:∀{ds:List V} {s:List UInt8} {vals:List Value},bytesOf ds=some s->bj fid G w (ds.flatMap aI) vals->∃nY:List Int,vals=nY.map (Value.int .u8)/\s=nY.map fun n=>UInt8.ofNat n.toNat
 |[],s,vals,h,hr=>by
  simp only[bytesOf,aD]at h;subst h;cases hr;exact⟨[],rfl,rfl⟩
 |d::ds,s,vals,h,hr=>by
  unfold bytesOf at h;split at h
  ·rename_i q;cases q
  ·rename_i n r q
   cases q;obtain⟨t,ht,rfl⟩:=cD.1 h;simp only[lH,aI,l4,j4]at hr;cases hr with
   |cons _ x _ xs hx hs=>
    obtain⟨nY,rfl,rfl⟩:=W6 ht hs;exact⟨n::nY,by rw[hx.ku];rfl,rfl⟩
  ·cases h
theorem W7:∀(nY:List Int) (b:ByteArray),nY.foldl (fun r n=>r.push (UInt8.ofNat n.toNat)) b=⟨(b.data.toList++nY.map fun n=>UInt8.ofNat n.toNat).toArray⟩
 |[],b=>by simp
 |n::nY,b=>by
  simp only[ti,W7 nY,dX];congr 1;simp[ByteArray.push]
theorem ajL (U:bd C fid G H w)(aU:fK C fid vars G w ah ρ){s d:TypeId}{x:Operand}(ho:o.op=.convert s d x){cO:ai}(hc:C.c2 vars pos o.op=some (.vL cO))(he:step ah H low (.vL cO)=some (v,H',low')):
  df C fid G H w low ((execOp ρ o).run C.P w) v H' low':=by
 rw[ho]at hc;simp only[Ctx.c2]at hc;split at hc
 ·cases hc
 ·rename_i e ajM h1 h2 au
  split at hc
  ·rename_i a7
   simp only[aD,cX.vL.injEq]at hc;subst hc;have af:=aU x ajM au;simp only[step]at he;split at he
   ·rename_i ds hd
    obtain⟨t,ht,he⟩:=cD.1 he;simp only[bH]at he;obtain⟨rfl,rfl,rfl⟩:=he;obtain⟨dh,cap,hx,bu⟩:=Fc U af hd
    have ct:(convert s d (ρ x)).run C.P w=.ok (.string ⟨t.toArray⟩) w:=by
     rw[hx,run_convert_bytes_string w s d e dh ds.length cap h1 a7 h2];cases dh with
     |none=>
      have:ds=[]:=by
       cases sx:ds with
       |nil=>rfl
       |cons a r=>
        obtain⟨b,off,vals,hb,-⟩:=bu (by rw[sx];simp);cases hb
      subst this;simp only[bytesOf,aD]at ht;subst ht;simp[Conv.bytesToString,Sem.run_pure];rfl
     |some a=>
      have key:∃nY:List Int,(loadCells a ds.length).run C.P w=.ok (nY.map (Value.int .u8)).toArray w/\t=nY.map fun n=>UInt8.ofNat n.toNat:=by
       by_cases bq:ds=[]
       ·subst bq
        simp only[bytesOf,aD]at ht;subst ht;exact⟨[],by simp[loadCells,loadCellsFrom,Sem.run_pure],rfl⟩
       ·obtain⟨b,off,vals,hb,gm,fC,hu⟩:=bu bq
        cases hb;obtain⟨nY,rfl,hs⟩:=W6 ht fC;refine⟨nY,?_,hs⟩
        have hl:ds.length=(nY.map (Value.int .u8)).length:=by
         have:=fC.length;rw[nv hu]at this;simpa using this.symm
        rw[hl];exact run_loadCells_list (P:=C.P) w ⟨b,off,none⟩ _ (fun j v hj=>by rw[Addr.add_lit];exact gm j v hj)
      obtain⟨nY,h5,rfl⟩:=key;rw[run_bytesToString w a ds.length cap nY h5,W7];simp
    exact .same U (x:=.string ⟨t.toArray⟩) (by unfold execOp;rw[ho];simp only[Sem.run_bind,ct];rfl) (by
     have:=bw.p (fid:=fid) (G:=G) (w:=w) (.str t) _ (.str t);exact this)
   ·cases he
  ·cases hc
 ·cases hc
theorem CQ{b5:Nat}{k:V}:∀{bz:List (V × V)},iJ b5 k bz=some none->jm b5 k bz=bz
 |[],_=>rfl
 |(bJ,v)::r,h=>by
  simp only[iJ]at h;split at h
  ·cases h
  ·rename_i he
   simp[jm,he,CQ h]
  ·cases h
theorem O1{k:TypeId}{b5:Nat}{d:TypeDesc}(hk:C.j7 k=some b5)(hd:C.P.underlying k=some d){a:V}{x:Value}(al:bw fid G w a x):∀{bz:List (V × V)} {es:List MapEntry} (i:Nat) {r:V} {j:Nat} {z:Value},
  bj fid G w (bz.map (·.1)) (es.map (·.key))->bj fid G w (bz.map (·.2)) (es.map (·.val))->iJ b5 a bz=some (some r)->Instr.findNow d x es i=some (some (i+j,z))->
  bj fid G w ((jm b5 a bz).map (·.1)) ((es.eraseIdx j).map (·.key))/\bj fid G w ((jm b5 a bz).map (·.2)) ((es.eraseIdx j).map (·.val))
 |[],[],i,r,j,z,_,_,h,_=>by simp[iJ]at h
 |[],_::_,_,_,_,_,h,_,_,_=>by simp at h;cases h
 | _::_,[],_,_,_,_,h,_,_,_=>by simp at h;cases h
 |(bJ,u')::bz,e::es,i,r,j,z,eQ,c6,h,ag=>by
  simp only[dX]at eQ c6;cases eQ with
  |cons _ _ _ _ ha eQ=>
   cases c6 with
   |cons _ _ _ _ kB c6=>
    simp only[iJ]at h;split at h
    ·rename_i he
     obtain⟨hs,-⟩:=yc hk hd al ha he;simp only[Instr.findNow,hs,aD,bH]at ag;obtain rfl:j=0:=by omega
     simp only[jm,he,if_true,ahG];exact⟨eQ,c6⟩
    ·rename_i he
     obtain⟨hs,-⟩:=yc hk hd al ha he;simp only[Instr.findNow,hs]at ag;have hS:=sF hk hd al (i+1) eQ c6 h;obtain⟨wv,oL,h1,-,-⟩:=hS;rw[h1]at ag;simp only[aD,bH]at ag;obtain⟨hj,rfl⟩:=ag;obtain rfl:j=wv+1:=by omega
     have ih:=O1 hk hd al (i+1) eQ c6 h h1;have bq:¬(jl b5 a bJ=some true):=by rw[he];simp
     simp only[jm,bq,if_false,dX,ahH];exact⟨.cons _ _ _ _ ha ih.1,.cons _ _ _ _ kB ih.2⟩
    ·cases h
theorem pH.erase{es:Array MapEntry}{bX:Nat}(h:pH es bX)(j:Nat):pH (es.eraseIdxIfInBounds j) bX:=by
 have hs:(es.eraseIdxIfInBounds j).toList.Sublist es.toList:=by
  rw[ahC];exact List.eraseIdx_sublist _ _
 exact⟨fun x hx=>h.1 x (hs.subset hx),h.2.sublist (hs.map _)⟩
theorem ajN (U:bd C fid G H w)(aU:fK C fid vars G w ah ρ){m k:Operand}{t eO nX:TypeId}{u:TypeId}{ts:Array TypeId}(hd:C.P.underlying t=some (.map eO nX))(ht:ts= #[t,u]){am ij:ai}{b5:Nat}(ho:o.op=.call {callee:=.builtin .delete,args:= #[m,k],argTypes:=ts})
  (h1:C.cl vars m=some am) (h2:C.cl vars k=some ij) (gT:C.j7 eO=some b5) (he:step ah H low (.zA b5 am ij)=some (v,H',low')):df C fid G H w low ((execOp ρ o).run C.P w) v H' low':=by
 subst ht;have hm:=aU m am h1;have hk:=aU k ij h2;obtain⟨JL,jN⟩:=JK gT
 have ct:(execOp ρ o).run C.P w=((Builtin.delete_ #[t,u] o.type #[ρ m,ρ k]).run C.P w).andThen fun z w'=>.ok (.value z) w':=by
  rw[wk ho];simp only[builtin,Sem.run_bind,Ez,dX,jF];rfl
 simp only[step]at he;split at he
 ·rename_i ad
  simp only[aD,bH]at he;obtain⟨rfl,rfl,rfl⟩:=he;rw[ad]at hm;have hx:=hm.OG;refine .same U (x:=.tuple #[]) ?_ (.aF [] [] .nil);rw[ct,hx];unfold Builtin.delete_;simp[run_underlying hd,uX gT,Sem.run_pure]
 ·rename_i l ad
  rw[ad]at hm;obtain⟨h0,cC,W5,dS⟩:=hm.mapInv;split at he
  ·rename_i bz hl
   obtain⟨aY,eI,hr⟩:=U.obj l h0 cC;rw[hl]at eI;cases eI;obtain⟨oR,kc,es,bX,dD,eQ,c6,ca⟩:=hr;split at he
   ·rename_i b7 jt
    simp only[aD,bH]at he;obtain⟨rfl,rfl,rfl⟩:=he;have aG:h0.b<w.heap.size:=U.blk l h0 cC
    have fin:∀(uY:Obj) (bV:Array MapEntry),uY=.map bV bX->(Builtin.delete_ #[t,u] o.type #[ρ m,ρ k]).run C.P w=.ok (.tuple #[]) {w with heap:=w.heap.setIfInBounds h0.b uY}->
      bj fid G w ((jm b5 (ah ij) bz).map (·.1)) (bV.toList.map (·.key))->bj fid G w ((jm b5 (ah ij) bz).map (·.2)) (bV.toList.map (·.val))->pH bV bX->
      df C fid G H w low ((execOp ρ o).run C.P w) (.aF []) (H.set l (.map (jm b5 (ah ij) bz))) (min low l):=by
     rintro uY bV rfl lM ye zW zX
     have wx:∀b,b≠h0.b->({w with heap:=w.heap.setIfInBounds h0.b (.map bV bX)}:World).heap[b]? =w.heap[b]? :=fun b bq=>by
      show(w.heap.setIfInBounds h0.b _)[b]? =_;rw[Vk (lI bq)]
     have yf:({w with heap:=w.heap.setIfInBounds h0.b (.map bV bX)}:World).heap[h0.b]? =some (.map bV bX):=by
      show(w.heap.setIfInBounds h0.b _)[h0.b]? =_;simp[aG]
     have dr:({w with heap:=w.heap.setIfInBounds h0.b (.map bV bX)}:World).heap.size=w.heap.size:=by simp
     have dZ:Ext G w ⟨cE G.β l h0,G.I⟩ {w with heap:=w.heap.setIfInBounds h0.b (.map bV bX)} l H.length:=
      Ext.write U cC kc rfl (aN _) id rfl dr wx rfl rfl
     refine⟨.tuple #[],_,_,.inl (by rw[ct,lM];rfl),bd.write U cC kc rfl kc (aN _) id rfl dr wx (.map (jm b5 (ah ij) bz)) ⟨oR,kc,bV,bX,yf,ye.ext U dZ,zW.ext U dZ,zX⟩,
      fun m hm=>dZ.le (c4 hm (oC _ _)) (aN _),.aF [] [] .nil,j3 _ _,by simp⟩
    cases b7 with
    |none=>
     have ag:=sF gT jN hk 0 eQ c6 jt;refine fin _ es rfl ?_ (by rw[CQ jt];exact eQ) (by rw[CQ jt];exact c6) ca;unfold Builtin.delete_;simp only[dS];simp[run_underlying hd,yd dD,uX gT,wu (C:=C) jN ag,CP _ dD,Sem.run_pure]
    |some r=>
     obtain⟨j,y,ag,-,-⟩:=sF gT jN hk 0 eQ c6 jt;obtain⟨s1,s2⟩:=O1 gT jN hk 0 eQ c6 jt ag;rw[eo]at ag;refine fin _ (es.eraseIdxIfInBounds j) rfl ?_ (by simpa using s1) (by simpa using s2) (ca.erase _);unfold Builtin.delete_;simp only[dS];simp[run_underlying hd,yd dD,uX gT,wu (C:=C) jN ag,CP _ dD,Sem.run_pure]
   ·cases he
  ·cases he
 ·cases he
theorem O2{P:Program}{w:World}(s:ByteArray):(Builtin.lenOf (.string s)).run P w=.ok s.size w:=rfl
theorem JM{P:Program}{t u ty e:TypeId}{i:TypeInfo}(hd:P.underlying t=some (.slice e))(hu:P.underlying u=some .string)(hi:P.info? e=some i){base:Option Addr}{sLen sCap n:Nat}{s:ByteArray}{news:List Value}(hn:s.size=n)
  (hx:(Builtin.firstCells i.size n (.string s)).run P w=.ok news.toArray w) (ia:sLen+n<=sCap):
  (Builtin.append_ #[t,u] ty #[.slice base sLen sCap,.string s]).run P w=
    ((match base with|some a=>storeCells (a.add (sLen*i.size)) news|none=>pure ()).run P w).andThen fun _ w'=>.ok (.slice base (sLen+n) sCap) w':=by
 subst hn;cases base with
 |none=>simp[Builtin.append_,run_underlying hd,run_underlying hu,sizeOf,typeInfo,hi,O2,ia,hx]
 |some a=>simp[Builtin.append_,run_underlying hd,run_underlying hu,sizeOf,typeInfo,hi,O2,ia,hx]
theorem JN{P:Program}{t u ty e:TypeId}{i:TypeInfo}{cK:Value}(hd:P.underlying t=some (.slice e))(hu:P.underlying u=some .string)(hi:P.info? e=some i)(aJ:i.zero=some cK)
  {base:Option Addr} {sLen sCap n:Nat} {s:ByteArray} {olds news:List Value} (hn:s.size=n)
  (hx:(Builtin.firstCells i.size n (.string s)).run P w.drew=.ok news.toArray w.drew) (ho:(Builtin.firstCells i.size sLen (.slice base sLen sCap)).run P w.drew=.ok olds.toArray w.drew)
  (ia:sCap<sLen+n) (hb:(sLen+n)*(i.bytes+1)<=1099511627776):
  ∃gG,sLen+n<=gG/\(Builtin.append_ #[t,u] ty #[.slice base sLen sCap,.string s]).run P w=
   .ok (.slice (some ⟨w.heap.size,0,none⟩) (sLen+n) gG) (w.drew.alloc (.cells (olds.toArray++news.toArray++Builtin.zeroCells cK.cells (gG-(sLen+n))) e)):=by
 subst hn;have h1:¬sLen+s.size<=sCap:=by omega
 have hm:(sLen+s.size)*i.bytes+(sLen+s.size)=(sLen+s.size)*(i.bytes+1):=by rw[Nat.mul_succ]
 have h2:¬(((sLen+s.size:Nat):Int)>9223372036854775807):=by omega
 have au:=growslice_fits (need:=sLen+s.size) (old:=sCap) (bytes:=i.bytes) ia (by omega);have a7:¬(281474976710656<Builtin.nextslicecap (sLen+s.size) sCap*i.bytes):=by omega
 refine⟨sLen+s.size+(w.tape w.drawn (.appendCap (sLen+s.size) sCap e))%(9223372036854775808-(sLen+s.size)),NK _ _,?_⟩;have yb:¬(9223372036854775807<(sLen:Int)+(s.size:Int)):=by omega
 simp[Builtin.append_,run_underlying hd,run_underlying hu,sizeOf,typeInfo,hi,O2,h1,yb,a7,Question.forced,Question.cut,hx,ho,zeroValue,aJ,newRow];congr 2;apply Array.ext';simp
theorem CR{P:Program}{w:World}(size:Nat)(s:List UInt8):(Builtin.firstCells size s.length (.string ⟨⟨s⟩⟩)).run P w=.ok (s.map fun b=>Value.int .u8 b.toNat).toArray w:=by
 have:(ByteArray.extract ⟨⟨s⟩⟩ 0 s.length)=⟨⟨s⟩⟩:=by
  apply ByteArray.ext;simp
 simp[Builtin.firstCells,this,Sem.run_pure]
theorem ajO (U:bd C fid G H w)(aU:fK C fid vars G w ah ρ){a b:Operand}{t u e:TypeId}{i:TypeInfo}{cK:Value}{args:Array Operand}{ts:Array TypeId}(ho:o.op=.call {callee:=.builtin .append,args,argTypes:=ts})
  (al:args= #[a,b]) (ht:ts= #[t,u]) {kD ie:ai} (h1:C.cl vars a=some kD) (h2:C.cl vars b=some ie) (hd:C.P.underlying t=some (.slice e)) (hu:C.P.underlying u=some .string) (hi:C.P.info? e=some i)
  (aJ:i.zero=some cK) (pR:cK.cells.size=i.size) (mG:i.size=1) (Fh:i.bytes=1) (he:step ah H low (.EF kD ie)=some (v,H',low')):df C fid G H w low ((execOp ρ o).run C.P w) v H' low':=by
 subst al;subst ht;have hx:=aU a kD h1;have hy:=aU b ie h2;have iW:0<i.size:=by omega
 have Fi:(execOp ρ o).run C.P w=((Builtin.append_ #[t,u] o.type #[ρ a,ρ b]).run C.P w).andThen fun z w'=>.ok (.value z) w':=by
  rw[wk ho];simp only[builtin,Sem.run_bind,Ez,dX,jF];rfl
 simp only[step]at he;split at he
 ·rename_i s O3
  rw[O3]at hy;have ct:=Fi;rw[hy.oH]at ct;have hn:(⟨⟨s⟩⟩:ByteArray).size=s.length:=rfl;split at he
  ·rename_i pS
   have lN:s=[]:=by simpa using pS
   subst lN
   have same:∀base n cap,ρ a=.slice base n cap->n<=cap->(execOp ρ o).run C.P w=.ok (.value (ρ a)) w:=by
    intro base n cap hs hle;rw[ct,hs,JM (P:=C.P) hd hu hi (n:=0) rfl (CR i.size []) (by simpa using hle)];cases base<;>simp[storeCells]
   split at he
   ·rename_i ad
    simp only[aD,bH]at he;obtain⟨rfl,rfl,rfl⟩:=he;rw[ad]at hx;exact .same U (same _ _ _ hx.jM (aN _)) hx
   ·rename_i ad
    simp only[aD,bH]at he;obtain⟨rfl,rfl,rfl⟩:=he;rw[ad]at hx;obtain⟨dh,dS⟩:=hx.sz;exact .same U (same _ _ _ dS (aN _)) hx
   ·rename_i l bV off len tag ad
    rw[ad]at hx;split at he
    ·rename_i fu ds fz hl
     split at he
     ·rename_i gg
      simp only[aD,bH]at he;obtain⟨rfl,rfl,rfl⟩:=he;obtain⟨h0,dh,cU,cap,cC,qB,iy,dS⟩:=hx.oI;obtain⟨aY,eI,hr⟩:=U.obj l h0 cC;rw[hl]at eI;cases eI;obtain⟨rfl,rfl,-,oM⟩:=iy (hr.1.trans gg);exact .same U (same _ _ _ dS oM) hx
     ·cases he
    ·cases he
   ·cases he
  ·rename_i pS
   have lN:s≠[]:=by simpa using pS
   generalize e0:(s.map fun c=>V.int .u8 c.toNat)=fh at he;generalize c6:(s.map fun c=>Value.int .u8 c.toNat)=vals;obtain⟨xs,b6⟩:∃xs:List V,fh.length=xs.length:=⟨fh,rfl⟩;have ew:s.length=xs.length:=by rw[<-b6,<-e0,gR]
   have bq:0<fh.length:=by rw[<-e0,gR];exact NC.2 lN
   have b4:bj fid G w (fh.flatMap aI) vals:=by
    subst e0;subst c6;clear lN pS ew bq b6 he O3 hy ct hn
    induction s with
    |nil=>exact .nil
    |cons c s ih=>exact .cons _ _ _ _ (.p _ _ (.int _ _)) ih
   have kW:∀d∈fh,(aI d).length=i.size:=by
    intro d hd;rw[<-e0]at hd;obtain⟨c,-,rfl⟩:=eA.1 hd;rw[mG];rfl
   have a1:bM (fh.flatMap aI)=true:=by
    subst e0
    have key:∀q:List UInt8,bM ((q.map fun c=>V.int .u8 c.toNat).flatMap aI)=true:=fun q=>by
     induction q with
     |nil=>rfl
     |cons c s ih=>exact(cm _ _).mpr ⟨rfl,ih⟩
    exact key s
   have rr:∀gF:World,gF.heap=w.heap->(Builtin.firstCells i.size xs.length (.string ⟨⟨s⟩⟩)).run C.P gF=.ok vals.toArray gF:=fun gF _=>by
    rw[<-ew,<-c6];exact CR i.size s
   have oS:(⟨⟨s⟩⟩:ByteArray).size=xs.length:=hn.trans ew;have O4:i.bytes+1=2:=by omega
   rw[<-mG]at he;have Ff:=WY b4 a1;have l8:vals.length=xs.length*i.size:=by rw[b4.length,nv kW,b6]
   have fresh:∀base,ρ a=.slice base 0 0->fh.length*(i.bytes+1)<=1099511627776->df C fid G H w low ((execOp ρ o).run C.P w) (.cB H.length i.size 0 fh.length fh.length) (H++[.row i.size fh false]) low:=by
    intro base hs hb
    have hold:(Builtin.firstCells i.size 0 (.slice base 0 0)).run C.P w.drew=.ok ([]:List Value).toArray w.drew:=by
     cases base<;>simp[Builtin.firstCells,loadCells,loadCellsFrom]
    obtain⟨gG,ev,lM⟩:=JN (P:=C.P) (t:=t) (u:=u) (ty:=o.type) hd hu hi aJ oS (rr w.drew rfl) hold (by omega) (by rw[eo,<-b6];exact hb);rw[eo,<-b6]at lM ev;refine df.newRow U (cap:=gG) (e:=e) iW bq kW (vals:=vals) (rest:=(Builtin.zeroCells cK.cells (gG-fh.length)).toList) ?_ b4 ?_ ev (by rw[ct,hs,lM];rfl)
    ·simp
    ·simp only[zr,vJ,oD,eo,CM,l8,pR,<-b6,<-vK]
     rw[Nat.add_sub_cancel' ev];exact aN _
   split at he
   ·rename_i ad
    split at he
    ·rename_i hb
     simp only[aD,bH]at he;obtain⟨rfl,rfl,rfl⟩:=he;rw[ad]at hx;exact fresh _ hx.jM (by rw[O4];exact hb)
    ·cases he
   ·rename_i ad
    split at he
    ·rename_i hb
     simp only[aD,bH]at he;obtain⟨rfl,rfl,rfl⟩:=he;rw[ad]at hx;obtain⟨dh,dS⟩:=hx.sz;exact fresh _ dS (by rw[O4];exact hb)
    ·cases he
   ·rename_i l bV off len tag ad
    rw[ad]at hx;split at he
    ·rename_i fu ds hl
     split at he
     ·rename_i eB
      obtain⟨rfl,rfl,gg,rfl,rfl,hb⟩:=eB;simp only[aD,bH]at he;obtain⟨rfl,rfl,rfl⟩:=he;obtain⟨h0,dh,cU,cap,cC,qB,iy,dS⟩:=hx.oI;obtain⟨aY,eI,hr⟩:=U.obj l h0 cC;rw[hl]at eI;cases eI;obtain⟨uV,WZ,hfz,fc,nU,c,wq,lp,rest,hc,fJ,jq,fC⟩:=hr;obtain⟨rfl,rfl,oJ,oM⟩:=iy (uV.trans gg);rw[Nat.zero_mul]at dS;rw[eo]at oJ;have l7:ds.length=cU:=gg;have qE:lp.length=cU*i.size:=by rw[fC.length,nv nU,l7]
      have gm:c.size=lp.length+rest.length:=by rw[<-gY,jq,hO]
      have uW:∀d∈ds++fh,(aI d).length=i.size:=fun d hd=>by
       rcases kq.1 hd with q|q
       ·exact nU d q
       ·exact kW d q
      have Fg:bj fid G w ((ds++fh).flatMap aI) (lp++vals):=by rw[NB];exact fC.append b4
      by_cases ia:cU+xs.length<=cap
      ·
       have hmul:(cU+xs.length)*i.size<=c.size:=c4 (Nx _ ia) (by rw[<-fJ];exact oJ);rw[vK]at hmul;have ca:=run_storeCells_at C.P h0.b (cU*i.size) wq vals 0 c w hc (by omega) Ff
       have hval:(execOp ρ o).run C.P w=.ok (.value (.slice (some ⟨h0.b,0,none⟩) (cU+xs.length) cap)) (w.setRow h0.b (c.toList.take (cU*i.size)++vals++c.toList.drop (cU*i.size+vals.length)).toArray):=by
        rw[ct,dS,JM (P:=C.P) hd hu hi oS (rr w rfl) ia];simp only[Addr.add_lit,eo];simp only[zw]at ca;rw[ca];rfl
       have dZ:Ext G w ⟨cE G.β l {h0 with tag:=cU+fh.length},G.I⟩ (w.setRow h0.b (c.toList.take (cU*i.size)++vals++c.toList.drop (cU*i.size+vals.length)).toArray) l H.length:=
        Ext.write U cC hfz rfl (by simp only;omega) (fun q=>by omega) rfl (setRow_size _ _) (fun b bq=>setRow_other bq _) rfl rfl
       refine⟨_,_,_,.inl hval,bd.write U cC hfz (h':={h0 with tag:=cU+fh.length}) rfl hfz (by simp only;omega) (fun q=>by omega) rfl (setRow_size _ _) (fun b bq=>setRow_other bq _) (.row i.size (ds++fh) false) ?_,
        fun m hm=>dZ.le (c4 hm (oC _ _)) (aN _),?_,j3 _ _,by simp⟩
       ·refine⟨by simp[l7],by simp;omega,hfz,fc,uW,_,wq,lp++vals,rest.drop vals.length,setRow_heap w h0.b c _ wq _ hc,?_,?_,Fg.ext U dZ⟩
        ·show h0.fI=_
         rw[fJ];simp only[vJ,hO,q9,qs,gY];omega
        ·rw[Nz,jq,<-qE,List.take_left,NL,kR,kR]
         congr 2;rw[Nu (by omega),j4];congr 1;omega
       ·rw[<-b6]
        exact .cB l i.size 0 _ _ {h0 with tag:=cU+fh.length} _ _ _ (dw _ _ _) (aN _) (fun _=>⟨by simp,rfl,by rw[eo];exact oJ,by omega⟩)
      ·
       have hold:(Builtin.firstCells i.size cU (.slice (some ⟨h0.b,0,none⟩) cU cap)).run C.P w.drew=.ok lp.toArray w.drew:=
        Fe (iM.vX (w:=w.drew) hc jq) qE
       obtain⟨gG,ev,lM⟩:=JN (P:=C.P) (t:=t) (u:=u) (ty:=o.type) hd hu hi aJ oS (rr w.drew rfl) hold (by omega) (by rw[<-b6,O4];exact hb);have sE:bd C fid G H w.drew:=U.jo rfl;have de:∀m n,Ext G w G w.drew m n:=fun m n=>Ext.jo (w:=w) (w':=w.drew) rfl rfl rfl m n
       obtain⟨bI,cq⟩:=bd.move sE cC hfz (.cells (lp.toArray++vals.toArray++Builtin.zeroCells cK.cells (gG-(cU+xs.length))) e) (cU+fh.length)
        (lp.toArray++vals.toArray++Builtin.zeroCells cK.cells (gG-(cU+xs.length))).size (by omega) (by omega) (.row i.size (ds++fh) false)
        ⟨by simp[l7],by simp;omega,rfl,fc,uW,_,e,lp++vals,(Builtin.zeroCells cK.cells (gG-(cU+xs.length))).toList,mE _ _,rfl,by simp,bj.mono (G:=G) (w:=w.drew) (G':=⟨cE G.β l ⟨w.drew.heap.size,cU+fh.length,(lp.toArray++vals.toArray++Builtin.zeroCells cK.cells (gG-(cU+xs.length))).size,false⟩,G.I⟩) (by
         intro x c7 eP;by_cases js:x=l
         ·subst js;rw[cC]at eP;cases eP
          exact⟨_,dw _ _ _,by simp only;omega,fun q=>by omega,fun q=>by simp only at q;omega,fun q=>by rw[hfz]at q;cases q⟩
         ·exact⟨c7,by simp only[dH js];exact eP,aN _,id,fun _=>⟨rfl,rfl⟩,fun _=>rfl⟩) (fun b ru=>⟨ru,alloc_old (w:=w.drew) (sE.c9 b ru).1⟩) (Fg.ext U (de 0 0))⟩
       refine⟨_,_,_,.inl (by rw[ct,dS,lM];rfl),bI,fun m hm=>(de m H.length).trans (cq.le (c4 hm (oC _ _)) (aN _)),?_,j3 _ _,by simp⟩;rw[<-b6];refine .cB l i.size 0 _ _ ⟨w.drew.heap.size,cU+fh.length,_,false⟩ _ _ _ (dw _ _ _) (aN _) (fun _=>⟨by simp,rfl,?_,by omega⟩);simp only[zr,vJ,CM,l8,qE,pR,<-vK,eo];have wg:cU+xs.length+(gG-(cU+fh.length))=gG:=by omega
       rw[wg];exact aN _
     ·cases he
    ·cases he
   ·cases he
 ·cases he
end Go.Abs
namespace Go.Abs
open Go
variable{C:Ctx}{fid:Nat->Nat}{w w':World}{G G':cg}{H:Heap}
section
variable{vars:List Nat}{ah:ai->V}{ρ:Operand->Value}{low low':Nat}{v:V}{H':Heap}{o:Oper}
theorem df.ajP (U:bd C fid G H w){low:Nat}{r:Result Next}{s:List UInt8}{c:Array Value}{rest:List Value}{cap:Nat}(hn:0<s.length)
  (hc:c.toList=(s.map fun b=>Value.int .u8 b.toNat)++rest) (ev:cap<=c.size) (hle:s.length<=cap)
  (hr:r=.ok (.value (.slice (some ⟨w.heap.size,0,none⟩) s.length cap)) (w.drew.alloc (.cells c C.xY))):
  df C fid G H w low r (.cB H.length 1 0 s.length s.length) (H++[.rh s]) low:=by
 have kC:bd C fid G H w.drew:=U.jo rfl;have de:∀m n,Ext G w G w.drew m n:=fun m n=>Ext.jo (w:=w) (w':=w.drew) rfl rfl rfl m n;refine⟨_,_,⟨cE G.β H.length ⟨w.drew.heap.size,s.length,c.size,false⟩,G.I⟩,.inl hr,kC.push _ _ s.length c.size ⟨rfl,rfl,hn,c,rest,mE _ _,rfl,hc⟩,fun m _=>(de m H.length).trans (Ext.push kC _ _ _ m),?_,aN _,by simp⟩;exact .cB _ 1 0 _ _ ⟨w.drew.heap.size,s.length,c.size,false⟩ _ _ _ (dw _ _ _) (aN _) (fun _=>⟨by simp,rfl,by rw[eo,Nat.mul_one];exact ev,hle⟩)
theorem ajQ (U:bd C fid G H w)(aU:fK C fid vars G w ah ρ){a b:Operand}{t u e:TypeId}{i:TypeInfo}{cK:Value}{args:Array Operand}{ts:Array TypeId}(ho:o.op=.call {callee:=.builtin .append,args,argTypes:=ts})
  (al:args= #[a,b]) (ht:ts= #[t,u]) {kD ie:ai} (h1:C.cl vars a=some kD) (h2:C.cl vars b=some ie) (hd:C.P.underlying t=some (.slice e)) (hu:C.P.underlying u=some .string) (hi:C.P.info? e=some i)
  (aJ:i.zero=some cK) (pR:cK.cells.size=i.size) (mG:i.size=1) (Fh:i.bytes=1) (yg:e=C.xY) (he:step ah H low (.EG kD ie)=some (v,H',low')):df C fid G H w low ((execOp ρ o).run C.P w) v H' low':=by
 subst al;subst ht;subst yg;have hx:=aU a kD h1;have hy:=aU b ie h2
 have ct:(execOp ρ o).run C.P w=((Builtin.append_ #[t,u] o.type #[ρ a,ρ b]).run C.P w).andThen fun z w'=>.ok (.value z) w':=by
  rw[wk ho];simp only[builtin,Sem.run_bind,Ez,dX,jF];rfl
 have Ff:∀s:List UInt8,∀x∈s.map (fun b=>Value.int .u8 b.toNat),x.oneCell'=true:=fun s x hx=>by
  obtain⟨b,-,rfl⟩:=eA.1 hx;rfl
 simp only[step]at he;split at he
 ·rename_i s ad e2
  rw[ad]at hx;rw[e2]at hy;rw[hy.oH,hx.jM]at ct;split at he
  ·rename_i pS
   have lN:s=[]:=by simpa using pS
   subst lN;simp only[aD,bH]at he;obtain⟨rfl,rfl,rfl⟩:=he;refine .same U (x:=.slice none 0 0) ?_ (.p _ _ .cu);rw[ct,JM (P:=C.P) hd hu hi (n:=0) rfl (CR i.size []) (by simp)];rfl
  ·rename_i pS
   have lN:s≠[]:=by simpa using pS
   split at he
   ·rename_i hb
    simp only[aD,bH]at he;obtain⟨rfl,rfl,rfl⟩:=he;have iW:0<s.length:=NC.2 lN
    obtain⟨gG,ev,lM⟩:=JN (P:=C.P) (t:=t) (u:=u) (ty:=o.type) (w:=w) (base:=none) (sLen:=0) (sCap:=0) (n:=s.length) (s:=⟨⟨s⟩⟩) (olds:=[]) hd hu hi aJ rfl (CR i.size s)
     (by simp[Builtin.firstCells,loadCells,loadCellsFrom]) (by omega) (by rw[Fh];omega)
    rw[eo]at lM ev;refine df.ajP U (cap:=gG) (rest:=(Builtin.zeroCells cK.cells (gG-s.length)).toList) iW ?_ ?_ ev (by rw[ct,lM];rfl)
    ·simp
    ·simp only[zr,vJ,oD,gR,eo,CM,pR,mG]
     omega
   ·cases he
 ·rename_i l es off len tag s ad e2
  rw[ad]at hx;rw[e2]at hy;rw[hy.oH]at ct;split at he
  ·rename_i r hl
   split at he
   ·rename_i eB
    obtain⟨pS,rfl,rfl,rfl,gg,hb⟩:=eB;have lN:s≠[]:=by simpa using pS
    have iW:0<s.length:=NC.2 lN;simp only[aD,bH]at he;obtain⟨rfl,rfl,rfl⟩:=he;obtain⟨h0,dh,cU,cap,cC,qB,iy,dS⟩:=hx.oI;obtain⟨aY,eI,hr⟩:=U.obj l h0 cC;rw[hl]at eI;cases eI;obtain⟨hfz,uV,W8,c,rest,hc,fJ,jq⟩:=hr;obtain⟨rfl,rfl,oJ,oM⟩:=iy (uV.trans gg);rw[Nat.zero_mul]at dS;rw[eo,Nat.mul_one]at oJ;subst gg;have gm:c.size=r.length+rest.length:=by rw[<-gY,jq,hO,gR]
    by_cases ia:r.length+s.length<=cap
    ·have ca:=run_storeCells_at C.P h0.b (r.length*i.size) C.xY (s.map fun b=>Value.int .u8 b.toNat) 0 c w hc (by rw[gR,mG];omega) (Ff s)
     have hval:(execOp ρ o).run C.P w=.ok (.value (.slice (some ⟨h0.b,0,none⟩) (r.length+s.length) cap)) (w.setRow h0.b (c.toList.take (r.length*i.size)++(s.map fun b=>Value.int .u8 b.toNat)++c.toList.drop (r.length*i.size+(s.map fun b=>Value.int .u8 b.toNat).length)).toArray):=by
      rw[ct,dS,JM (P:=C.P) hd hu hi (n:=s.length) rfl (CR i.size s) ia];simp only[Addr.add_lit,eo];simp only[zw]at ca;rw[ca];rfl
     have dZ:Ext G w ⟨cE G.β l {h0 with tag:=r.length+s.length},G.I⟩ (w.setRow h0.b (c.toList.take (r.length*i.size)++(s.map fun b=>Value.int .u8 b.toNat)++c.toList.drop (r.length*i.size+(s.map fun b=>Value.int .u8 b.toNat).length)).toArray) l H.length:=
      Ext.write U cC hfz rfl (by simp only;omega) (fun q=>by omega) rfl (setRow_size _ _) (fun b bq=>setRow_other bq _) rfl rfl
     refine⟨_,_,_,.inl hval,bd.write U cC hfz (h':={h0 with tag:=r.length+s.length}) rfl hfz (by simp only;omega) (fun q=>by omega) rfl (setRow_size _ _) (fun b bq=>setRow_other bq _) (.rh (r++s)) ?_,
      fun m hm=>dZ.le (c4 hm (oC _ _)) (aN _),?_,j3 _ _,by simp⟩
     ·refine⟨hfz,by simp,by simp;omega,_,rest.drop s.length,setRow_heap w h0.b c _ _ _ hc,?_,?_⟩
      ·show h0.fI=_
       rw[fJ];simp only[vJ,hO,q9,qs,gY,gR,mG];omega
      ·have bK:r.length*i.size=(r.map fun b=>Value.int .u8 b.toNat).length:=by rw[mG,gR,Nat.mul_one]
       rw[Nz,jq,bK,List.take_left,NL,kS,kR,kR];congr 2;rw[Nu (by omega),j4,gR,gR];congr 1;omega
     ·exact .cB l 1 0 _ _ {h0 with tag:=r.length+s.length} _ _ _ (dw _ _ _) (aN _) (fun _=>⟨by simp,rfl,by rw[eo,Nat.mul_one];exact oJ,ia⟩)
    ·have hold:(Builtin.firstCells i.size r.length (.slice (some ⟨h0.b,0,none⟩) r.length cap)).run C.P w.drew=.ok (r.map fun b=>Value.int .u8 b.toNat).toArray w.drew:=
      Fe (iM.vX (w:=w.drew) hc jq) (by rw[gR,mG,Nat.mul_one])
     obtain⟨gG,ev,lM⟩:=JN (P:=C.P) (t:=t) (u:=u) (ty:=o.type) (w:=w) (n:=s.length) (s:=⟨⟨s⟩⟩) hd hu hi aJ rfl (CR i.size s) hold (by omega) (by rw[Fh];exact hb);have sE:bd C fid G H w.drew:=U.jo rfl;have de:∀m n,Ext G w G w.drew m n:=fun m n=>Ext.jo (w:=w) (w':=w.drew) rfl rfl rfl m n
     obtain⟨bI,cq⟩:=bd.move sE cC hfz (.cells ((r.map fun b=>Value.int .u8 b.toNat).toArray++(s.map fun b=>Value.int .u8 b.toNat).toArray++Builtin.zeroCells cK.cells (gG-(r.length+s.length))) C.xY) (r.length+s.length)
      ((r.map fun b=>Value.int .u8 b.toNat).toArray++(s.map fun b=>Value.int .u8 b.toNat).toArray++Builtin.zeroCells cK.cells (gG-(r.length+s.length))).size (by omega) (by omega) (.rh (r++s))
      ⟨rfl,by simp,by simp;omega,_,(Builtin.zeroCells cK.cells (gG-(r.length+s.length))).toList,mE _ _,rfl,by simp⟩
     refine⟨_,_,_,.inl (by rw[ct,dS,lM];rfl),bI,fun m hm=>(de m H.length).trans (cq.le (c4 hm (oC _ _)) (aN _)),?_,j3 _ _,by simp⟩;refine .cB l 1 0 _ _ ⟨w.drew.heap.size,r.length+s.length,_,false⟩ _ _ _ (dw _ _ _) (aN _) (fun _=>⟨by simp,rfl,?_,ev⟩);simp only[zr,vJ,gR,CM,pR,mG];omega
   ·cases he
  ·cases he
 ·cases he
end
end Go.Abs
namespace Go.Abs
open Go
variable{C:Ctx}{fid:Nat->Nat}{w w':World}{G G':cg}{H:Heap}
section
variable{vars:List Nat}{ah:ai->V}{ρ:Operand->Value}{low low':Nat}{v:V}{H':Heap}{pos:String}{dv:cX}{o:Oper}
theorem qI{α:Type}{a:Array α}{x y:α}(h:a.toList=[x,y]):a= #[x,y]:=by cases a;simp_all
theorem CS{α:Type}{a:Array α}{x:α}(h:a.toList=[x]):a= #[x]:=by cases a;simp_all
theorem ajR (U:bd C fid G H w)(aU:fK C fid vars G w ah ρ){b:Builtin}{args:Array Operand}{ts:Array TypeId}(ho:o.op=.call {callee:=.builtin b,args,argTypes:=ts})
  (hc:C.builtin vars pos b args ts=some dv) (he:step ah H low dv=some (v,H',low')):df C fid G H w low ((execOp ρ o).run C.P w) v H' low':=by
 unfold Ctx.builtin at hc;split at hc
 ·rename_i x t al ht
  split at hc
  ·rename_i hu
   obtain⟨cO,hx,rfl⟩:=cD.1 hc;exact OR U aU ho (CS al) (CS ht) hx (by simpa using hu) he
  ·rename_i e hu
   obtain⟨cO,hx,rfl⟩:=cD.1 hc;exact OR U aU ho (CS al) (CS ht) hx (by simpa using⟨e,hu⟩) he
  ·rename_i k e hu
   obtain⟨cO,hx,rfl⟩:=cD.1 hc;exact OR U aU ho (CS al) (CS ht) hx (by simpa using⟨k,e,hu⟩) he
  ·cases hc
 ·rename_i a b t u al ht
  split at hc
  ·rename_i e e' h1 h2
   split at hc
   ·rename_i i kD ie hi hx hy
    split at hc
    ·cases hc
    ·rename_i hn
     simp only[aD]at hc
     have yh:i.size≠0/\i.zero.map (fun z=>z.cells.size)=some i.size:=by
      simp only[j2,decide_eq_true_eq,bne_iff_ne,ne_eq,not_or,Decidable.not_not]at hn;exact hn
     obtain⟨cK,aJ,pR⟩:=cD.1 yh.2;split at hc
     ·subst hc;exact ajB U aU ho (qI al) (qI ht) hx hy h1 h2 hi aJ pR (NH yh.1) he
     ·subst hc;exact ajz U aU ho (qI al) (qI ht) hx hy h1 h2 hi aJ pR (NH yh.1) he
   ·cases hc
  ·rename_i e h1 h2
   split at hc
   ·rename_i i kD ie hi hx hy
    split at hc
    ·rename_i hn
     simp only[aD]at hc;simp only[cm,beq_iff_eq]at hn;obtain⟨⟨mM,JO⟩,JP⟩:=hn;have mM:i.size=1:=by simpa using mM
     obtain⟨cK,aJ,pR⟩:=cD.1 JP;split at hc
     ·rename_i yg
      subst hc;simp only[cm,beq_iff_eq]at yg;exact ajQ U aU ho (qI al) (qI ht) hx hy h1 h2 hi aJ (by rw[pR,mM]) mM JO yg.2 he
     subst hc;exact ajO U aU ho (qI al) (qI ht) hx hy h1 h2 hi aJ (by rw[pR,mM]) mM JO he
    ·cases hc
   ·cases hc
  ·cases hc
 ·rename_i m k t u al ht
  split at hc
  ·rename_i eO nX am ij h1 h2 au
   obtain⟨b5,gT,rfl⟩:=cD.1 hc;have hf:=qI al;subst hf;exact ajN U aU h1 (qI ht) ho h2 au gT he
  ·cases hc
 ·cases hc
 ·rename_i a b al
  split at hc
  ·rename_i kD ie hx hy
   simp only[aD]at hc;subst hc;exact WN U aU ho (qI al) (mx:=true) rfl hx hy he
  ·cases hc
 ·rename_i a b t u al ht
  split at hc
  ·rename_i e e' h1 h2
   split at hc
   ·rename_i n kD ie hi hx hy
    split at hc
    ·cases hc
    ·simp only[aD]at hc;subst hc
     exact ajC (e':=e') U aU ho (qI al) (qI ht) hx hy h1 hi he
   ·cases hc
  ·cases hc
 ·rename_i a b al
  split at hc
  ·rename_i kD ie hx hy
   simp only[aD]at hc;subst hc;exact WN U aU ho (qI al) (mx:=false) rfl hx hy he
  ·cases hc
 ·cases hc
theorem ajS (bP:fl C fid)(U:bd C fid G H w)(aU:fK C fid vars G w ah ρ)(jL:low<=H.length)
  (he:step ah H low (C.op vars pos o.op)=some (v,H',low')):df C fid G H w low ((execOp ρ o).run C.P w) v H' low':=by
 unfold Ctx.op at he;cases hc:C.c2 vars pos o.op with
 |none=>rw[hc]at he;simp[step]at he
 |some dv=>
  rw[hc]at he;simp only[xO]at he;cases db:o.op with
  |move x=>exact WB U aU (.inl db) hc he
  |assign x=>exact WB U aU (.inr db) hc he
  |pick c a b=>exact aiJ U aU db hc he
  |alloc t=>exact aiV U db hc he
  |box t x=>exact aiW U aU db hc he
  |build t parts=>exact ajs U aU db hc he
  |buildSlice t l parts=>exact ajt U aU db hc he
  |load t a=>exact aiS U aU db hc he
  |store t a x=>exact aiT U aU db hc jL he
  |nilCheck x=>exact aiK U aU db hc he
  |binOp a b c d e=>exact ai8 U aU db hc he
  |unOp a b c=>exact aiL U aU db hc he
  |convert a b c=>
   rcases(show(∃x,dv=.vL x)\/∀x,dv≠ .vL x from by
    cases dv<;>first|exact .inl ⟨_,rfl⟩|exact .inr (by simp))with⟨x,rfl⟩|hnb
   ·exact ajL U aU db hc he
   ·exact aiM U aU db hnb hc he
  |makeInterface a b=>exact aiN U aU db hc he
  |makeFunc a b c=>exact aiO bP U aU db hc he
  |makeMap a b=>exact aiX U db hc he
  |makeSlice a b c=>exact ajy U aU db hc he
  |slice a b c d e=>exact aji U aU db hc he
  |fieldAddr a b c=>exact aiR U aU db hc he
  |field a b c=>exact aiQ U aU db hc he
  |indexAddr a b c=>exact ajl U aU db hc he
  |index a b c=>exact aiY U aU db hc he
  |lookup a b c d=>exact ajF U aU db hc he
  |mapUpdate a b c d=>exact W4 U aU (.inl db) hc he
  |insert a b c d=>exact W4 U aU (.inr db) hc he
  |extract a b=>exact aiP U aU db hc he
  |call c=>
   rw[db]at hc;obtain⟨callee,args,ea⟩:=c;cases callee with
   |builtin b=>exact ajR U aU db hc he
   |value f=>
    simp only[Ctx.c2]at hc;split at hc
    ·simp only[aD]at hc;subst hc;simp[step]at he
    ·cases hc
   | _=>simp[Ctx.c2]at hc
  | _=>rw[db]at hc;simp[Ctx.c2]at hc
end
end Go.Abs
namespace Go.Abs
open Go
structure Fr (H:Heap) (low:Nat) (H':Heap) (low':Nat):Prop where
 len:H.length<=H'.length
 low:low'<=low
 same:∀l,l<low'->H'[l]? =H[l]?
variable{H H' H1 H2:Heap}{low low' bL dL:Nat}{ah:ai->V}{v v':V}
theorem Fr.refl (H:Heap)(low:Nat):Fr H low H low:=⟨aN _,aN _,fun _ _=>rfl⟩
theorem Fr.trans (h:Fr H low H1 bL)(k:Fr H1 bL H2 dL):Fr H low H2 dL:=
 ⟨c4 h.len k.len,c4 k.low h.low,fun l hl=>(k.same l hl).trans (h.same l (se hl k.low))⟩
theorem Fr.push (hl:low<=H.length)(o:cf):Fr H low (H++[o]) low:=
 ⟨by simp,aN _,fun l h=>by rw[fY (by omega)]⟩
theorem Fr.set (l:Nat)(o:cf):Fr H low (H.set l o) (min low l):=
 ⟨by simp,j3 _ _,fun x h=>by rw[jE (by omega)]⟩
theorem Fr.lift (h:Fr H bL H' dL)(low:Nat):Fr H low H' (min low dL):=
 ⟨h.len,j3 _ _,fun l hl=>h.same l (by omega)⟩
theorem Fr.eq (h:Fr H low H' low')(hl:H.length<=low')(he:H'.length=H.length):H'=H:=by
 apply q7;intro l;rcases gD l low' with q|q
 ·exact h.same l q
 ·rw[nP (by omega),nP (by omega)]
theorem O5 (h:Fr H low H' low')(hm:eG H H' low'=false):H'=H:=by
 simp only[eG,Ny,decide_eq_false_iff_not,bne_eq_false_iff_eq]at hm;exact h.eq (by omega) hm.2
structure W9 (f:Heap->Nat->V->Option (V × Heap × Nat)):Prop where
 ok:∀{H H':Heap} {low low':Nat} {v v':V},f H low v=some (v',H',low')->Fr H low H' low'/\H'.length=H.length
theorem O6{f:Heap->Nat->V->Option (V × Heap × Nat)}(ag:W9 f):∀{vs vs':List V} {H H':Heap} {low low':Nat},lg f H low vs=some (vs',H',low')->Fr H low H' low'/\H'.length=H.length
 |[],_,_,_,_,_,he=>by
  simp only[lg,aD,bH]at he;obtain⟨-,rfl,rfl⟩:=he;exact⟨.refl _ _,rfl⟩
 |v::r,_,_,_,_,_,he=>by
  simp only[lg]at he;split at he
  ·rename_i h1
   split at he
   ·rename_i h2
    simp only[aD,bH]at he;obtain⟨-,rfl,rfl⟩:=he;have a:=ag.ok h1;have b:=O6 ag h2;exact⟨a.1.trans b.1,b.2.trans a.2⟩
   ·cases he
  ·cases he
theorem O7:∀(n:Nat),W9 (ec n)
 |0=>by
  refine⟨fun {H H' low low' v v'} he=> ?_⟩;simp only[ec]at he;split at he
  ·simp only[aD,bH]at he
   obtain⟨-,rfl,rfl⟩:=he;exact⟨.refl _ _,rfl⟩
  ·cases he
 |n+1=>by
  refine⟨fun {H H' low low' v v'} he=> ?_⟩;have ih:=fun {vs vs' H H' low low'}=>O6 (O7 n) (vs:=vs) (vs':=vs') (H:=H) (H':=H') (low:=low) (low':=low');simp only[ec]at he;split at he
  ·simp only[aD,bH]at he
   obtain⟨-,rfl,rfl⟩:=he;exact⟨.refl _ _,rfl⟩
  ·split at he
   ·split at he
    ·rename_i h
     simp only[aD,bH]at he;obtain⟨-,rfl,rfl⟩:=he;exact ih h
    ·cases he
   ·split at he
    ·rename_i h
     simp only[aD,bH]at he;obtain⟨-,rfl,rfl⟩:=he;exact ih h
    ·cases he
   ·split at he
    ·split at he
     ·split at he
      ·simp only[aD,bH]at he
       obtain⟨-,rfl,rfl⟩:=he;split
       ·exact⟨.refl _ _,rfl⟩
       ·exact⟨.set _ _,by simp⟩
      ·split at he
       ·rename_i h
        split at he
        ·split at he
         ·simp only[aD,bH]at he
          obtain⟨-,rfl,rfl⟩:=he;have:=ih h;exact⟨this.1.trans (.set _ _),by simp[this.2]⟩
         ·cases he
        ·cases he
       ·cases he
     ·cases he
    ·cases he
   ·simp only[aD,bH]at he
    obtain⟨-,rfl,rfl⟩:=he;exact⟨.refl _ _,rfl⟩
theorem CT (he:gl H low v=some (v',H',low')):Fr H low H' low'/\H'.length=H.length:=(O7 16).ok he
theorem JQ:∀{vs vs':List V} {H H':Heap} {low low':Nat},fb H low vs=some (vs',H',low')->Fr H low H' low'/\H'.length=H.length
 |[],_,_,_,_,_,he=>by
  simp only[fb,aD,bH]at he;obtain⟨-,rfl,rfl⟩:=he;exact⟨.refl _ _,rfl⟩
 |v::r,_,_,_,_,_,he=>by
  simp only[fb]at he;split at he
  ·rename_i h1
   split at he
   ·rename_i h2
    simp only[aD,bH]at he;obtain⟨-,rfl,rfl⟩:=he;have a:=CT h1;have b:=JQ h2;exact⟨a.1.trans b.1,b.2.trans a.2⟩
   ·cases he
  ·cases he
theorem ajT{n:Nat}{a x:V}{l:Nat}(he:j6 H n a x=some (H',l)):∃o,H'=H.set l o:=by
 unfold j6 at he
 repeat' split at he
 all_goals first
  |(simp only[aD,bH]at he;obtain⟨rfl,rfl⟩:=he;exact⟨_,rfl⟩)
  |cases he
set_option maxHeartbeats 1000000 in
theorem ajU{op:cX}(hl:low<=H.length)(he:step ah H low op=some (v,H',low')):Fr H low H' low':=by
 cases op with
 |alloc z=>
  simp only[step,aD,bH]at he;obtain⟨-,rfl,rfl⟩:=he;exact .push hl _
 |box x=>
  simp only[step]at he;split at he
  ·simp only[aD,bH]at he
   obtain⟨-,rfl,rfl⟩:=he;exact .push hl _
  ·cases he
 |build z parts=>
  simp only[step]at he;obtain⟨cs,-,he⟩:=cD.1 he;simp only[bH]at he;obtain⟨-,rfl,rfl⟩:=he;exact .refl _ _
 |lit es z len parts jG=>
  simp only[step]at he;split at he
  ·rename_i h
   have ag:=JQ h;have nR:low'<=low':=aN _;split at he
   ·split at he
    ·split at he
     ·simp only[aD,bH]at he
      obtain⟨-,rfl,rfl⟩:=he;exact ag.1
     ·cases he
    ·split at he
     ·simp only[aD,bH]at he
      obtain⟨-,rfl,rfl⟩:=he;exact ag.1
     ·simp only[aD,bH]at he
      obtain⟨-,rfl,rfl⟩:=he;exact ag.1.trans (.push (by have:=ag.1.low;have:=ag.1.len;omega) _)
   ·cases he
  ·cases he
 |store n a x=>
  simp only[step]at he;obtain⟨⟨H1,l⟩,h,he⟩:=cD.1 he;simp only[bH]at he;obtain⟨-,rfl,rfl⟩:=he;obtain⟨o,rfl⟩:=ajT h;exact .set _ _
 |Cm t x=>
  simp only[step]at he;split at he
  ·rename_i h
   simp only[aD,bH]at he;obtain⟨-,rfl,rfl⟩:=he;exact(CT h).1
  ·cases he
 |mkMap=>
  simp only[step,aD,bH]at he;obtain⟨-,rfl,rfl⟩:=he;exact .push hl _
 |mkSlice es z bytes l c=>
  simp only[step]at he
  repeat' split at he
  all_goals first
   |(simp only[aD,bH]at he;obtain⟨-,rfl,rfl⟩:=he;first|exact .refl _ _|exact .push hl _)
   |cases he
 |qu kind m k x=>
  simp only[step]at he;split at he
  ·rename_i h
   have ag:=(CT h).1
   repeat' split at he
   all_goals first
    |(simp only[aD,bH]at he;obtain⟨-,rfl,rfl⟩:=he;exact ag.trans (.set _ _))
    |cases he
  ·cases he
 |xS es bytes a b=>
  simp only[step]at he
  repeat' split at he
  all_goals first
   |(simp only[aD,bH]at he;obtain⟨-,rfl,rfl⟩:=he;exact .refl _ _)
   |cases he
 |append es bytes a b=>
  simp only[step]at he;split at he
  ·split at he
   ·rename_i h
    have ag:=(JQ h).1;have hle:∀x,x<=low->x<=H.length:=fun x hx=>c4 hx hl
    repeat' split at he
    all_goals first
     |(simp only[aD,bH]at he;obtain⟨-,rfl,rfl⟩:=he
       first
        |exact ag
        |exact ag.trans (.push (by have:=ag.low;have:=ag.len;omega) _)
        |exact ag.trans (.set _ _))
     |cases he
   ·cases he
  ·cases he
 |zA kind m k=>
  simp only[step]at he
  repeat' split at he
  all_goals first
   |(simp only[aD,bH]at he;obtain⟨-,rfl,rfl⟩:=he;first|exact .refl _ _|exact .set _ _)
   |cases he
 |EF a b=>
  simp only[step]at he
  repeat' split at he
  all_goals first
   |(simp only[aD,bH]at he;obtain⟨-,rfl,rfl⟩:=he;first|exact .refl _ _|exact .push hl _|exact .set _ _)
   |cases he
 |EG a b=>
  simp only[step]at he
  repeat' split at he
  all_goals first
   |(simp only[aD,bH]at he;obtain⟨-,rfl,rfl⟩:=he;first|exact .refl _ _|exact .push hl _|exact .set _ _)
   |cases he
 |copy es a b=>
  simp only[step]at he
  repeat' split at he
  all_goals first
   |(simp only[aD,bH]at he;obtain⟨-,rfl,rfl⟩:=he;first|exact .refl _ _|exact .set _ _)
   |cases he
 |call raw f args=>simp[step]at he
 |fail=>simp[step]at he
 | _=>
   simp only[step]at he
   repeat' split at he
   all_goals first
    |(cases he;done)
    |(cases he;exact .refl _ _)
    |(simp only[aD,bH]at he;obtain⟨-,rfl,rfl⟩:=he;exact .refl _ _)
    |(obtain⟨_,-,he⟩:=cD.1 he;simp only[bH]at he;obtain⟨-,rfl,rfl⟩:=he;exact .refl _ _)
theorem Xa{op:cX}(ht:gE op=false)(he:step ah H low op=some (v,H',low')):H'=H/\low'=low/\∀H2 dL,step ah H2 dL op=some (v,H2,dL):=by
 cases op<;>first
  |(simp[gE]at ht;done)
  |skip
 all_goals
  simp only[step]at he⊢
  repeat' split at he
  all_goals first
   |(cases he;done)
   |(simp only[aD,bH]at he;obtain⟨rfl,rfl,rfl⟩:=he;simp_all;done)
   |(obtain⟨x,hx,he⟩:=cD.1 he;simp only[bH]at he;obtain⟨rfl,rfl,rfl⟩:=he;simp_all;done)
theorem Fj{ah hU:ai->V}{d:Nat}{x:Option ai}(h:∀y∈x.toList,ah y=hU y):fe ah d x=fe hU d x:=by
 cases x with
 |none=>rfl
 |some y=>simp[fe,h y (by simp)]
theorem ajV{ah hU:ai->V}{op:cX}(h:∀x∈op.operands,ah x=hU x):step ah H low op=step hU H low op:=by
 cases op with
 |build z parts=>
  have:(parts.map fun p=>(p.1,p.2.1,ah p.2.2))=parts.map fun p=>(p.1,p.2.1,hU p.2.2):=q6 fun p hp=>by rw[h _ (by simp only[cX.operands,eA];exact⟨p,hp,rfl⟩)]
  simp only[step,this]
 |lit es z len parts jG=>
  have:(parts.map fun p=>ah p.2)=parts.map fun p=>hU p.2:=q6 fun p hp=>h _ (by simp only[cX.operands,eA];exact⟨p,hp,rfl⟩);simp only[step,this]
 |tk i a b=>
  have h1:a.map ah=a.map hU:=q6 fun p hp=>h _ (by simp[cX.operands,hp]);have h2:b.map ah=b.map hU:=q6 fun p hp=>h _ (by simp[cX.operands,hp]);simp only[step,h1,h2]
 |rf x lo hi=>
  have h0:=h x (by simp[cX.operands]);have h1:∀d,fe ah d lo=fe hU d lo:=fun d=>Fj fun y hy=>h y (by simp only[cX.operands,dG,kq];exact .inr (.inl hy));have h2:∀d,fe ah d hi=fe hU d hi:=fun d=>Fj fun y hy=>h y (by simp only[cX.operands,dG,kq];exact .inr (.inr hy));simp only[step,h0,h1,h2]
 |tl es x lo hi mx=>
  have h0:=h x (by simp[cX.operands]);have h1:∀d,fe ah d lo=fe hU d lo:=fun d=>Fj fun y hy=>h y (by simp only[cX.operands,dG,kq];exact .inr (.inl (.inl hy)));have h2:∀d,fe ah d hi=fe hU d hi:=fun d=>Fj fun y hy=>h y (by simp only[cX.operands,dG,kq];exact .inr (.inl (.inr hy)));have au:∀d,fe ah d mx=fe hU d mx:=fun d=>Fj fun y hy=>h y (by simp only[cX.operands,dG,kq];exact .inr (.inr hy));cases mx with
  |none=>simp only[step,h0,h1,h2,au]
  |some m=>
   have a7:=h m (by simp[cX.operands]);simp only[step,h0,h1,h2,au,a7]
 |call raw f args=>rfl
 |fail=>rfl
 |alloc z=>rfl
 |mkMap=>rfl
 | _=>simp only[step];simp only[cX.operands,dG,th,or_false,forall_eq_or_imp,forall_eq]at h;simp only[h]
theorem zY{call:c5}{op:cX}(h:∀raw f args,op≠ .call raw f args):ch call ah H low op=step ah H low op:=by
 cases op<;>first|rfl|exact absurd rfl (h _ _ _)
theorem ajW{call:c5}{ah hU:ai->V}{op:cX}(h:∀x∈op.operands,ah x=hU x):ch call ah H low op=ch call hU H low op:=by
 cases op with
 |call raw f args=>
  have h0:=h f (by simp[cX.operands]);have h1:args.map ah=args.map hU:=q6 fun p hp=>h _ (by simp[cX.operands,hp]);cases raw<;>simp only[ch,h0,h1]
 | _=>rw[zY (by simp),zY (by simp)];exact ajV h
def mN (call:c5):Prop:=∀(f:V) (args:List V) (H:Heap) (v:V) (H':Heap) (low':Nat),call f args H=some (v,H',low')->Fr H H.length H' low'
theorem zZ{call:c5}{op:cX}(hc:mN call)(hl:low<=H.length)(he:ch call ah H low op=some (v,H',low')):Fr H low H' low':=by
 cases op with
 |call raw f args=>
  cases raw
  ·simp only[ch]at he
   split at he
   ·rename_i vs H1 bL h1
    have ag:=JQ h1;split at he
    ·rename_i u H2 l h2
     have hk:=hc _ _ _ _ _ _ h2;split at he
     ·cases he;exact .refl _ _
     ·cases he;exact ag.1.trans (hk.lift _)
    ·cases he
   ·cases he
  ·simp only[ch]at he
   split at he
   ·rename_i u H2 l h2
    cases he;exact(hc _ _ _ _ _ _ h2).lift _
   ·cases he
 | _=>rw[zY (by simp)]at he;exact ajU hl he
theorem kX (st:aw)(d:Option (Nat × Bool))(v:V):(st.put d v).H=st.H/\(st.put d v).low=st.low/\(st.put d v).ro=st.ro:=by
 rcases d with _|⟨t,b⟩
 ·exact⟨rfl,rfl,rfl⟩
 ·cases b<;>exact⟨rfl,rfl,rfl⟩
def gN (st bf:aw):Prop:=Fr st.H st.low bf.H bf.low/\bf.ro=st.ro
theorem gN.refl (st:aw):gN st st:=⟨.refl _ _,rfl⟩
theorem gN.trans{a b c:aw}(h:gN a b)(k:gN b c):gN a c:=⟨h.1.trans k.1,k.2.trans h.2⟩
theorem gN.bound{a b:aw}(h:gN a b)(hl:a.low<=a.H.length):b.low<=b.H.length:=by
 have:=h.1.low;have:=h.1.len;omega
theorem pU{call:c5}(hc:mN call):∀(ops:List bU) (st bf:aw) (wr fD:List Bool),st.low<=st.H.length->c8 call ops st wr=some (bf,fD)->gN st bf
 |[],st,bf,wr,fD,_,he=>by
  simp only[c8,aD,bH]at he;obtain⟨rfl,-⟩:=he;exact .refl _
 |o::r,st,bf,wr,fD,hl,he=>by
  simp only[c8]at he;split at he
  ·split at he
   ·rename_i v H' low' h
    have ag:=zZ hc (aN _) h;have hp:=kX {st with H:=H',low:=min st.low low'} o.dst v;have h1:gN st ({st with H:=H',low:=min st.low low'}.put o.dst v):=⟨by rw[hp.1,hp.2.1];exact ag.lift _,hp.2.2⟩;exact h1.trans (pU hc r _ _ _ _ (h1.bound hl) he)
   ·cases he
  ·have hp:=kX st o.dst (.aF [])
   have h1:gN st (st.put o.dst (.aF [])):=⟨by rw[hp.1,hp.2.1];exact .refl _ _,hp.2.2⟩;exact h1.trans (pU hc r _ _ _ _ (h1.bound hl) he)
  ·cases he
theorem Xb{f:aw->Option (X × aw)}(ag:∀st x bf,st.low<=st.H.length->f st=some (x,bf)->gN st bf):∀(n:Nat) (st:aw) (x:X) (bf:aw),st.low<=st.H.length->iter f n st=some (x,bf)->gN st bf
 |0,_,_,_,_,he=>by cases he
 |n+1,st,x,bf,hl,he=>by
  simp only[iter]at he;split at he
  ·rename_i st1 h1
   have a:=ag _ _ _ hl h1;exact a.trans (Xb ag n _ _ _ (a.bound hl) he)
  ·exact ag _ _ _ hl he
theorem mO{call:c5}(hc:mN call)(n:Nat):∀(c:cF) (st:aw) (x:X) (bf:aw),st.low<=st.H.length->exec call n c st=some (x,bf)->gN st bf
 | .skip,st,x,bf,hl,he=>by simp only[exec,aD,bH]at he;obtain⟨-,rfl⟩:=he;exact .refl _
 | .region ops ej,st,x,bf,hl,he=>by
   simp only[exec,aw.gb]at he;split at he
   ·rename_i st1 wr h1
    have a:gN {st with aM:=[]} st1:=pU hc _ _ _ _ _ hl h1;have bn:gN st st1:=a
    repeat' split at he
    all_goals first
     |(cases he;exact bn)
     |cases he
   ·cases he
 | .zB ops ok f,st,x,bf,hl,he=>by
   simp only[exec,aw.gb]at he;split at he
   ·rename_i st1 wr h1
    have a:gN {st with aM:=[]} st1:=pU hc _ _ _ _ _ hl h1;have bn:gN st st1:=a;split at he
    ·cases he;exact bn
    ·cases he
   ·cases he
 | .seq a b,st,x,bf,hl,he=>by
   simp only[exec,aw.gb]at he;split at he
   ·rename_i st1 h1
    have k:=mO hc n a _ _ _ hl h1;exact k.trans (mO hc n b _ _ _ (k.bound hl) he)
   ·exact mO hc n a _ _ _ hl he
 | .cond c t e,st,x,bf,hl,he=>by
   simp only[exec,aw.gb]at he;split at he
   ·exact mO hc n t _ _ _ hl he
   ·exact mO hc n e _ _ _ hl he
   ·cases he
 | .block id c,st,x,bf,hl,he=>by
   simp only[exec,aw.gb]at he;split at he
   ·rename_i st1 h1
    have k:=mO hc n c _ _ _ hl h1;split at he<;>(cases he;exact k)
   ·exact mO hc n c _ _ _ hl he
 | .loop c,st,x,bf,hl,he=>by
   simp only[exec,aw.gb]at he;exact Xb (fun st x bf h1 h2=>mO hc n c st x bf h1 h2) n _ _ _ hl he
 | .rangeFunc f ps a b,st,x,bf,hl,he=>by
   simp only[exec,aw.gb]at he;split at he
   ·cases he
   ·split at he
    ·rename_i u H1 bL h1
     have k:=hc _ _ _ _ _ _ h1;split at he
     ·split at he
      ·cases he
      ·cases he
       refine⟨⟨?_,j3 _ _,fun l h=> ?_⟩,rfl⟩
       ·have:=k.len;simp at this⊢; omega
       ·simp only at h⊢
        rw[jE (by omega),k.same l (by omega),fY (by omega)]
     ·cases he
    ·cases he
 | .exit id,st,x,bf,hl,he=>by simp only[exec,aD,bH]at he;obtain⟨-,rfl⟩:=he;exact .refl _
 | .ret,st,x,bf,hl,he=>by simp only[exec,aD,bH]at he;obtain⟨-,rfl⟩:=he;exact .refl _
 | .fail,st,x,bf,hl,he=>by simp[exec]at he
theorem JR{fresh:Bool}{H0:Heap}(h:Fr H0 H0.length H low)(he:finish fresh H0 v H low=some (v',H',low')):Fr H0 H0.length H' low':=by
 unfold finish at he;split at he
 ·split at he
  ·split at he
   ·cases he;exact .push (aN _) _
   ·split at he
    ·cases he;exact h
    ·cases he
  ·cases he
 ·split at he
  ·rename_i h1
   split at he
   ·cases he;exact .refl _ _
   ·cases he;exact h.trans (CT h1).1
  ·cases he
theorem ajX{ex:cF->aw->Option (X × aw)}(hx:∀c st x bf,st.low<=st.H.length->ex c st=some (x,bf)->gN st bf){f:ix}{args:List V}
  (he:iL ex f args H=some (v,H',low')):Fr H H.length H' low':=by
 unfold iL at he;split at he
 ·split at he
  ·rename_i st h1
   have k:=(hx _ _ _ _ (aN _) h1).1;split at he
   ·exact JR k he
   ·exact JR k he
   ·cases he
  ·rename_i st h1
   have k:=(hx _ _ _ _ (aN _) h1).1;split at he
   ·exact JR k he
   ·exact JR k he
   ·cases he
  ·cases he
 ·cases he
theorem ajY{ex:cF->aw->Option (X × aw)}(hx:∀c st x bf,st.low<=st.H.length->ex c st=some (x,bf)->gN st bf){l:Nat}{args:List V}
  (he:qx ex l args H=some (v,H',low')):Fr H H.length H' low':=by
 unfold qx at he;split at he
 ·split at he
  ·split at he
   ·rename_i st h1
    have k:=(hx _ _ _ _ (aN _) h1).1;split at he
    ·split at he
     ·rename_i x st2 h2
      have dq:=(hx _ _ _ _ (by have q:=k.low;have q':=k.len;simp only[zu]at q q'⊢; omega) h2).1;split at he
      ·cases he
       exact(k.trans (.set _ _)).trans (dq.trans (.set _ _))
      ·cases he
     ·cases he
    ·cases he
   ·cases he
  ·cases he
 ·cases he
theorem Xc:∀(l:List (Nat × cf)) (H:Heap) (low:Nat),Fr H low (Jp H l) (Jq low l)
 |[],H,low=>.refl _ _
 |p::r,H,low=>(Fr.set p.1 p.2).trans (Xc r _ _)
theorem ajZ{spec:zD}{args:List V}(he:Cr spec args H=some (v,H',low')):Fr H H.length H' low':=by
 obtain⟨r,-,he⟩:=cD.1 he;cases he;have h:=Xc r.2.1 H H.length;refine h.trans ⟨by simp,aN _,fun l hl=> ?_⟩;rw[fY];have:=h.low;have:=h.len;omega
theorem JS (aa:Nat->Option cc):∀(n:Nat),mN (bN aa n)
 |0=>fun f args H v H' low' he=>by simp[bN]at he
 |n+1=>fun f args H v H' low' he=>by
  have hx:=fun c st x bf (h1:st.low<=st.H.length) h2=>mO (JS aa n) n c st x bf h1 h2;simp only[bN,rl]at he;split at he
  ·split at he
   ·exact ajX hx he
   ·split at he
    ·obtain⟨u,-,he⟩:=cD.1 he
     cases he;exact .refl _ _
    ·cases he
   ·exact ajZ he
   ·cases he
  ·exact ajY hx he
  ·cases he
end Go.Abs
namespace Go.Abs
open Go
variable{C:Ctx}{fid:Nat->Nat}{w w':World}{G G':cg}{H H':Heap}
def eV (ro:Option Nat):Fence:={fn:=fun _=>True,depth:=none,alive:=false,round:=ro}
def lO (C:Ctx)(fid:Nat->Nat)(G:cg)(H:Heap)(w:World)(v:V)(H':Heap)(low':Nat)(x:Value)(w':World):Prop:=
 ∃G',bd C fid G' H' w'/\(∀m,m<=low'->Ext G w G' w' m H.length)/\bw fid G' w' v x
def tA (P:Program)(R:Value->World->Prop):Result Next->Prop
 | .ok (.value x) w'=>R x w'
 | .ok .skip w'=>R undef w'
 | .ok (.enter f args) w'=>Calls P f args w' (fun e gF=>∃x,e=.returned x/\R x gF)
 | .ok (.row row args) w'=>Rows P row args w' R
 | .ok (.round l f tmps aX cJ) w'=>RoundIn Fence.wide 0 P l f tmps aX cJ w' (fun e gF=>∃x,e=.returned x/\R x gF)
 | _=>False
theorem tA.mono{P:Program}{R oT:Value->World->Prop}(h:∀x w,R x w->oT x w):∀{r:Result Next},tA P R r->tA P oT r
 | .ok (.value x) w',k=>h _ _ k
 | .ok .skip w',k=>h _ _ k
 | .ok (.enter f args) w',k=>EE k fun e gF=>fun⟨x,ad,e2⟩=>⟨x,ad,h _ _ e2⟩
 | .ok (.row row args) w',k=>Rows.mono k h
 | .ok (.round l f tmps aX cJ) w',k=>RoundIn.mono k fun e gF=>fun⟨x,ad,e2⟩=>⟨x,ad,h _ _ e2⟩
 | .ok (.defer _) _,k| .ok .recover _,k| .ok (.spawn _) _,k| .ok (.comm ..) _,k| .ok .numGoroutine _,k| .ok .collect _,k| .ok (.watch _) _,k| .ok (.newcoro ..) _,k| .ok (.coroswitch ..) _,k
 | .ok (.sleep _) _,k| .ok (.timer _) _,k| .ok (.alone ..) _,k| .ok (.callThen ..) _,k| .ok (.stack ..) _,k| .halt ..,k=>k.elim
theorem O8{P:Program}{R:Value->World->Prop}{ro:Option Nat}{o:Oper}{a:Act}{next:Act->World->Prop}{Q:Exit->Act->World->Prop}(hn:∀x w,R x w->next (a.put o.dst x) w):
  ∀{r:Result Next},tA P R r->o.uponIn (eV ro) 0 P a next Q r
 | .ok (.value x) w',k=>hn _ _ k
 | .ok .skip w',k=>hn _ _ k
 | .ok (.enter f args) w',k=>by
   have b4:CallsIn Fence.wide 0 P f args w' fun
    | .returned v,gF=>next (a.put o.dst v) gF
    | .panicked chain,gF=>Q (.panic chain) a gF
    | .outgrown,_=>LetsOut Q:=callsIn_wide.2 (EE k fun e gF=>by rintro⟨x,rfl,e2⟩;exact hn _ _ e2)
   exact⟨fun h=>by simp[eV]at h,b4⟩
 | .ok (.row row args) w',k=>by
   refine⟨fun h=>by simp[eV]at h,fun c cs _=> ?_⟩;obtain⟨v,bQ,h1,h2⟩:=k c cs;exact⟨v,bQ,hn _ _ h1,(stepsIn_wide.2 h2:StepsIn (Machine.fenced P Fence.wide) P _ _)⟩
 | .ok (.round l f tmps aX cJ) w',k=>by
   have b4:RoundIn Fence.wide 0 P l f tmps aX cJ w' fun
    | .returned v,gF=>next (a.put o.dst v) gF
    | .panicked chain,gF=>Q (.panic chain) a gF
    | .outgrown,_=>LetsOut Q:=RoundIn.mono k fun e gF=>by rintro⟨x,rfl,e2⟩;exact hn _ _ e2
   exact⟨fun h=>by simp[eV]at h,b4⟩
 | .ok (.defer _) _,k| .ok .recover _,k| .ok (.spawn _) _,k| .ok (.comm ..) _,k| .ok .numGoroutine _,k| .ok .collect _,k| .ok (.watch _) _,k| .ok (.newcoro ..) _,k| .ok (.coroswitch ..) _,k
 | .ok (.sleep _) _,k| .ok (.timer _) _,k| .ok (.alone ..) _,k| .ok (.callThen ..) _,k| .ok (.stack ..) _,k| .halt ..,k=>k.elim
structure hD (C:Ctx) (fid:Nat->Nat) (call:c5):Prop where
 b7:mN call
 run:∀{G:cg} {H:Heap} {w:World} {f:V} {args:List V} {v:V} {H':Heap} {low':Nat} {O9:Value} {xs:List Value},bd C fid G H w->bw fid G w f O9->bj fid G w args xs->
  call f args H=some (v,H',low')->∃d,(Deferred.ofValue O9 ⟨xs⟩).run C.P w=.ok d w/\tA C.P (lO C fid G H w v H' low') ((invoke d.target d.args).run C.P w)/\
   (Cq f=true->cj args=false->∃g aX,(invoke d.target d.args).run C.P w=.ok (.enter g aX) w)
theorem bd.restore (U:bd C fid G H w)(hs:w.heap.size<=w'.heap.size)(hk:∀b,b<w.heap.size->w'.heap[b]? =w.heap[b]?):bd C fid G H w' where
 obj l h e:=by
  obtain⟨o,ho,hr⟩:=U.obj l h e;exact⟨o,ho,hr.mono (.refl _) (fun b hb=>⟨hb,hk b (U.c9 b hb).1⟩) (hk _ (U.blk l h e))⟩
 inj:=U.inj
 blk l h e:=se (U.blk l h e) hs
 c9 b hb:=⟨se (U.c9 b hb).1 hs,(U.c9 b hb).2⟩
 kV:=U.kV
 ff b o bb:=⟨(U.ff b o bb).1,by rw[hk b (U.c9 b (U.ff b o bb).1).1];exact(U.ff b o bb).2⟩
theorem Ext.restore (hs:w.heap.size<=w'.heap.size)(hk:∀b,b<w.heap.size->w'.heap[b]? =w.heap[b]?)(h1:w'.os=w.os)(au:w'.output=w.output)(m n:Nat):Ext G w G w' m n:=
 ⟨hs,h1,au,fun b hb _=>hk b hb,.refl _,fun _ h hb=>.inl ⟨h,hb,.inl rfl⟩,fun _ h=>h,fun _ h=>.inl h⟩
theorem Ext.Xd{m n:Nat}(U:bd C fid G H w)(h:Ext G w G' w' m n)(hm:H.length<=m):∀b,b<w.heap.size->w'.heap[b]? =w.heap[b]? :=fun b hb=>
 h.eH b hb fun l x e _=>.inr (se (U.lt e) hm)
theorem Xe{o:Oper}{ρ:Operand->Value}{f:Operand}{args:Array Operand}{ts:Array TypeId}(ho:o.op=.call {callee:=.value f,args,argTypes:=ts}){P:Program}{w:World}{d:Deferred}
  (hd:(Deferred.ofValue (ρ f) (args.map ρ)).run P w=.ok d w):(execOp ρ o).run P w=(invoke d.target d.args).run P w:=by
 unfold execOp;simp only[ho,resolve,Sem.run_bind,hd,Result.andThen]
section
variable{vars:List Nat}{ah:ai->V}{ρ:Operand->Value}{low low':Nat}{v:V}{o:Oper}{call:c5}
theorem Pa (bP:fl C fid)(bm:hD C fid call)(U:bd C fid G H w)(aU:fK C fid vars G w ah ρ)(jL:low<=H.length)
  (he:ch call ah H low (C.op vars o.pos o.op)=some (v,H',low')):tA C.P (lO C fid G H w v H' low') ((execOp ρ o).run C.P w):=by
 have aj0:(∀raw f args,C.op vars o.pos o.op≠ .call raw f args)->tA C.P (lO C fid G H w v H' low') ((execOp ρ o).run C.P w):=fun bq=>by
  rw[zY bq]at he;obtain⟨x,aH,aB,hr,h1,h2,au,-,-⟩:=ajS bP U aU jL he;rcases hr with hr|⟨hr,rfl⟩
  ·rw[hr];exact⟨aB,h1,h2,au⟩
  ·rw[hr];exact⟨aB,h1,h2,au⟩
 by_cases bq:∃raw f args,C.op vars o.pos o.op=.call raw f args
 ·obtain⟨raw,mC,Pb,db⟩:=bq
  have cP:C.c2 vars o.pos o.op=some (.call raw mC Pb):=by
   unfold Ctx.op at db;cases h:C.c2 vars o.pos o.op with
   |none=>rw[h]at db;cases db
   |some a=>rw[h]at db;simp only[xO]at db;rw[db]
  obtain⟨f,args,ts,ho,ag,uZ⟩:∃f args ts,o.op=.call {callee:=.value f,args,argTypes:=ts}/\C.cl vars f=some mC/\ee (C.cl vars) args.toList=some Pb:=by
   cases ho:o.op with
   |call c=>
    rw[ho]at cP;obtain⟨callee,args,ea⟩:=c;cases callee with
    |value f=>
     simp only[Ctx.c2]at cP;split at cP
     ·rename_i h1 h2
      simp only[aD,cX.call.injEq]at cP;obtain⟨-,rfl,rfl⟩:=cP;exact⟨f,args,ea,rfl,h1,h2⟩
     ·cases cP
    |builtin b=>
     exfalso;simp only[Ctx.c2]at cP;unfold Ctx.builtin at cP
     repeat' split at cP
     all_goals first
      |(cases cP;done)
      |(simp only[aD,reduceCtorEq]at cP;done)
      |(obtain⟨_,_,h⟩:=cD.1 cP;cases h;done)
    |invoke r n=>simp[Ctx.c2]at cP
   |binOp a b c d e=>
    exfalso;rw[ho]at cP;simp only[Ctx.c2,Ctx.zG]at cP
    repeat' split at cP
    all_goals first
     |(cases cP;done)
     |(obtain⟨_,_,h⟩:=cD.1 cP;cases h;done)
   |makeFunc g a b=>
    exfalso;rw[ho]at cP;cases g with
    |func f=>
     simp only[Ctx.c2]at cP;split at cP<;>simp at cP
    | _=>simp[Ctx.c2]at cP
   |makeMap t r=>
    exfalso;rw[ho]at cP;cases r<;>simp[Ctx.c2]at cP
   | _=>
     exfalso;rw[ho]at cP;simp only[Ctx.c2]at cP
     repeat' split at cP
     all_goals first
      |(cases cP;done)
      |(obtain⟨_,_,h⟩:=cD.1 cP;cases h;done)
  have z1:=aU f mC ag;have hQ:bj fid G w (Pb.map ah) (args.map ρ).toList:=by rw[Array.toList_map];exact JD aU uZ
  rw[db]at he;have tB:(⟨(args.map ρ).toList⟩:Array Value)=args.map ρ:=rfl;cases raw with
  |true=>
   simp only[ch]at he;split at he
   ·rename_i u H2 l h1
    cases he;obtain⟨d,hd,hn,-⟩:=bm.run U z1 hQ h1;rw[tB]at hd;rw[Xe ho hd];refine hn.mono fun x bQ hp=> ?_;obtain⟨bC,p1,p2,p3⟩:=hp;exact⟨bC,p1,fun m hm=>p2 m (by omega),p3⟩
   ·cases he
  |false=>
   simp only[ch]at he;split at he
   ·rename_i vs H1 bL aJ
    obtain⟨aB,fz,kB⟩:=Ox U hQ aJ;have Pc:=z1.ext U (fz.ext 0 (by omega));split at he
    ·rename_i u H2 l h1
     obtain⟨d,hd,hn,-⟩:=bm.run fz.rel Pc kB h1;rw[tB]at hd;rw[Xe ho hd];refine hn.mono fun x bQ hp=> ?_;obtain⟨bC,p1,p2,p3⟩:=hp;split at he
     ·rename_i hc
      cases he;have de:=p2 H1.length hc.2;have hk:=de.Xd fz.rel (aN _);exact⟨G,U.restore de.size hk,fun m _=>.restore de.size hk de.os de.output m _,p3.flat hc.1⟩
     ·cases he
      exact⟨bC,p1,fun m hm=>(fz.ext m (by omega)).trans ((p2 m (by omega)).le (aN _) (Nat.le_of_eq fz.len.symm)),p3⟩
    ·cases he
   ·cases he
 ·exact aj0 fun raw f args h=>bq ⟨raw,f,args,h⟩
end
end Go.Abs
