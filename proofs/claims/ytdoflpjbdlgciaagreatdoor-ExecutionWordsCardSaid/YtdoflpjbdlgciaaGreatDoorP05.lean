/- Texts of this claim, joined and written short by a program. -/
import Derived.Test.YtdoflpjbdlgciaaGreatDoorP04
import Derived.Laws.BytesString
import Derived.Test.YtdoflpjbdlgciaaGreatDoorP00
import Derived.RangeFuncRecord
import Derived.OrdersIn
set_option linter.unusedVariables false
set_option linter.unusedSimpArgs false
set_option linter.unusedSectionVars false
namespace Go.Abs
open Go
variable{C:Ctx}{fid:Nat->Nat}{w w':World}{G G':cc}{H:Heap}
variable{vars:List Nat}{ai:aj->V}{ρ:Operand->Value}{low low':Nat}{v:V}{H':Heap}{pos:String}{dq:cS}{o:Oper}
theorem VC:∀{ds:List V} {s:List UInt8} {vals:List Value},bytesOf ds=some s->bk fid G w (ds.flatMap aF) vals->∃nD:List Int,vals=nD.map (Value.int .u8)/\s=nD.map fun n=>UInt8.ofNat n.toNat
 |[],s,vals,h,hr=>by
  simp only[bytesOf,aA]at h;subst h;cases hr;exact⟨[],rfl,rfl⟩
 |d::ds,s,vals,h,hr=>by
  unfold bytesOf at h;split at h
  ·rename_i q;cases q
  ·rename_i n r q
   cases q;obtain⟨t,ht,rfl⟩:=cG.1 h;simp only[lH,aF,ky,ke]at hr;cases hr with
   |cons _ x _ xs hx hs=>
    obtain⟨nD,rfl,rfl⟩:=VC ht hs;exact⟨n::nD,by rw[hx.kf];rfl,rfl⟩
  ·cases h
theorem VD:∀(nD:List Int) (b:ByteArray),nD.foldl (fun r n=>r.push (UInt8.ofNat n.toNat)) b=⟨(b.data.toList++nD.map fun n=>UInt8.ofNat n.toNat).toArray⟩
 |[],b=>by simp
 |n::nD,b=>by
  simp only[xb,VD nD,eG];congr 1;simp[ByteArray.push]
theorem aib (aa:bf C fid G H w)(aR:fC C fid vars G w ai ρ){s d:TypeId}{x:Operand}(ho:o.op=.convert s d x){cJ:aj}(hc:C.cY vars pos o.op=some (.qu cJ))(he:step ai H low (.qu cJ)=some (v,H',low')):
  df C fid G H w low ((execOp ρ o).run C.P w) v H' low':=by
 rw[ho]at hc;simp only[Ctx.cY]at hc;split at hc
 ·cases hc
 ·rename_i e aic h1 h2 av
  split at hc
  ·rename_i bc
   simp only[aA,cS.qu.injEq]at hc;subst hc;have af:=aR x aic av;simp only[step]at he;split at he
   ·rename_i ds hd
    obtain⟨t,ht,he⟩:=cG.1 he;simp only[bC]at he;obtain⟨rfl,rfl,rfl⟩:=he;obtain⟨dh,cap,hx,bj⟩:=Ey aa af hd
    have cn:(convert s d (ρ x)).run C.P w=.ok (.string ⟨t.toArray⟩) w:=by
     rw[hx,run_convert_bytes_string w s d e dh ds.length cap h1 bc h2];cases dh with
     |none=>
      have:ds=[]:=by
       cases tH:ds with
       |nil=>rfl
       |cons a r=>
        obtain⟨b,off,vals,hb,-⟩:=bj (by rw[tH];simp);cases hb
      subst this;simp only[bytesOf,aA]at ht;subst ht;simp[Conv.bytesToString,Sem.run_pure];rfl
     |some a=>
      have key:∃nD:List Int,(loadCells a ds.length).run C.P w=.ok (nD.map (Value.int .u8)).toArray w/\t=nD.map fun n=>UInt8.ofNat n.toNat:=by
       by_cases bu:ds=[]
       ·subst bu
        simp only[bytesOf,aA]at ht;subst ht;exact⟨[],by simp[loadCells,loadCellsFrom,Sem.run_pure],rfl⟩
       ·obtain⟨b,off,vals,hb,h8,fx,hu⟩:=bj bu
        cases hb;obtain⟨nD,rfl,hs⟩:=VC ht fx;refine⟨nD,?_,hs⟩
        have hl:ds.length=(nD.map (Value.int .u8)).length:=by
         have:=fx.length;rw[nc hu]at this;simpa using this.symm
        rw[hl];exact run_loadCells_list (P:=C.P) w ⟨b,off,none⟩ _ (fun j v hj=>by rw[Addr.add_lit];exact h8 j v hj)
      obtain⟨nD,h5,rfl⟩:=key;rw[run_bytesToString w a ds.length cap nD h5,VD];simp
    exact .same aa (x:=.string ⟨t.toArray⟩) (by unfold execOp;rw[ho];simp only[Sem.run_bind,cn];rfl) (by
     have:=bq.p (fid:=fid) (G:=G) (w:=w) (.str t) _ (.str t);exact this)
   ·cases he
  ·cases hc
 ·cases hc
theorem BW{b1:Nat}{k:V}:∀{bs:List (V × V)},iu b1 k bs=some none->ja b1 k bs=bs
 |[],_=>rfl
 |(bE,v)::r,h=>by
  simp only[iu]at h;split at h
  ·cases h
  ·rename_i he
   simp[ja,he,BW h]
  ·cases h
theorem Ov{k:TypeId}{b1:Nat}{d:TypeDesc}(ah:C.jP k=some b1)(hd:C.P.underlying k=some d){a:V}{x:Value}(ao:bq fid G w a x):∀{bs:List (V × V)} {es:List MapEntry} (i:Nat) {r:V} {j:Nat} {z:Value},
  bk fid G w (bs.map (·.1)) (es.map (·.key))->bk fid G w (bs.map (·.2)) (es.map (·.val))->iu b1 a bs=some (some r)->Instr.findNow d x es i=some (some (i+j,z))->
  bk fid G w ((ja b1 a bs).map (·.1)) ((es.eraseIdx j).map (·.key))/\bk fid G w ((ja b1 a bs).map (·.2)) ((es.eraseIdx j).map (·.val))
 |[],[],i,r,j,z,_,_,h,_=>by simp[iu]at h
 |[],_::_,_,_,_,_,h,_,_,_=>by simp at h;cases h
 | _::_,[],_,_,_,_,h,_,_,_=>by simp at h;cases h
 |(bE,u')::bs,e::es,i,r,j,z,eC,c3,h,ae=>by
  simp only[eG]at eC c3;cases eC with
  |cons _ _ _ _ h9 eC=>
   cases c3 with
   |cons _ _ _ _ rF c3=>
    simp only[iu]at h;split at h
    ·rename_i he
     obtain⟨hs,-⟩:=xt ah hd ao h9 he;simp only[Instr.findNow,hs,aA,bC]at ae;obtain rfl:j=0:=by omega
     simp only[ja,he,if_true,aga];exact⟨eC,c3⟩
    ·rename_i he
     obtain⟨hs,-⟩:=xt ah hd ao h9 he;simp only[Instr.findNow,hs]at ae;have iI:=rH ah hd ao (i+1) eC c3 h;obtain⟨vt,n9,h1,-,-⟩:=iI;rw[h1]at ae;simp only[aA,bC]at ae;obtain⟨hj,rfl⟩:=ae;obtain rfl:j=vt+1:=by omega
     have ih:=Ov ah hd ao (i+1) eC c3 h h1;have bu:¬(iZ b1 a bE=some true):=by rw[he];simp
     simp only[ja,bu,if_false,eG,agb];exact⟨.cons _ _ _ _ h9 ih.1,.cons _ _ _ _ rF ih.2⟩
    ·cases h
theorem oQ.erase{es:Array MapEntry}{bT:Nat}(h:oQ es bT)(j:Nat):oQ (es.eraseIdxIfInBounds j) bT:=by
 have hs:(es.eraseIdxIfInBounds j).toList.Sublist es.toList:=by
  rw[af5];exact List.eraseIdx_sublist _ _
 exact⟨fun x hx=>h.1 x (hs.subset hx),h.2.sublist (hs.map _)⟩
theorem aid (aa:bf C fid G H w)(aR:fC C fid vars G w ai ρ){m k:Operand}{t eI sy:TypeId}{u:TypeId}{ts:Array TypeId}(hd:C.P.underlying t=some (.map eI sy))(ht:ts= #[t,u]){am hX:aj}{b1:Nat}(ho:o.op=.call {callee:=.builtin .delete,args:= #[m,k],argTypes:=ts})
  (h1:C.ch vars m=some am) (h2:C.ch vars k=some hX) (gO:C.jP eI=some b1) (he:step ai H low (.yz b1 am hX)=some (v,H',low')):df C fid G H w low ((execOp ρ o).run C.P w) v H' low':=by
 subst ht;have hm:=aR m am h1;have ah:=aR k hX h2;obtain⟨I9,jt⟩:=I8 gO
 have cn:(execOp ρ o).run C.P w=((Builtin.delete_ #[t,u] o.type #[ρ m,ρ k]).run C.P w).andThen fun z w'=>.ok (.value z) w':=by
  rw[vm ho];simp only[builtin,Sem.run_bind,DJ,eG,me];rfl
 simp only[step]at he;split at he
 ·rename_i ag
  simp only[aA,bC]at he;obtain⟨rfl,rfl,rfl⟩:=he;rw[ag]at hm;have hx:=hm.N4;refine .same aa (x:=.tuple #[]) ?_ (.bd [] [] .nil);rw[cn,hx];unfold Builtin.delete_;simp[run_underlying hd,tN gO,Sem.run_pure]
 ·rename_i l ag
  rw[ag]at hm;obtain⟨h0,c6,VB,dU⟩:=hm.mapInv;split at he
  ·rename_i bs hl
   obtain⟨a1,eO,hr⟩:=aa.obj l h0 c6;rw[hl]at eO;cases eO;obtain⟨pS,jU,es,bT,dG,eC,c3,cg⟩:=hr;split at he
   ·rename_i b2 jd
    simp only[aA,bC]at he;obtain⟨rfl,rfl,rfl⟩:=he;have aH:h0.b<w.heap.size:=aa.blk l h0 c6
    have fin:∀(tO:Obj) (bN:Array MapEntry),tO=.map bN bT->(Builtin.delete_ #[t,u] o.type #[ρ m,ρ k]).run C.P w=.ok (.tuple #[]) {w with heap:=w.heap.setIfInBounds h0.b tO}->
      bk fid G w ((ja b1 (ai hX) bs).map (·.1)) (bN.toList.map (·.key))->bk fid G w ((ja b1 (ai hX) bs).map (·.2)) (bN.toList.map (·.val))->oQ bN bT->
      df C fid G H w low ((execOp ρ o).run C.P w) (.bd []) (H.set l (.map (ja b1 (ai hX) bs))) (min low l):=by
     rintro tO bN rfl lp xv yW yX
     have vu:∀b,b≠h0.b->({w with heap:=w.heap.setIfInBounds h0.b (.map bN bT)}:World).heap[b]? =w.heap[b]? :=fun b bu=>by
      show(w.heap.setIfInBounds h0.b _)[b]? =_;rw[TH (lj bu)]
     have BV:({w with heap:=w.heap.setIfInBounds h0.b (.map bN bT)}:World).heap[h0.b]? =some (.map bN bT):=by
      show(w.heap.setIfInBounds h0.b _)[h0.b]? =_;simp[aH]
     have ea:({w with heap:=w.heap.setIfInBounds h0.b (.map bN bT)}:World).heap.size=w.heap.size:=by simp
     have en:Ext G w ⟨cA G.β l h0,G.I⟩ {w with heap:=w.heap.setIfInBounds h0.b (.map bN bT)} l H.length:=
      Ext.write aa c6 jU rfl (aM _) id rfl ea vu rfl rfl
     refine⟨.tuple #[],_,_,.inl (by rw[cn,lp];rfl),bf.write aa c6 jU rfl jU (aM _) id rfl ea vu (.map (ja b1 (ai hX) bs)) ⟨pS,jU,bN,bT,BV,xv.ext aa en,yW.ext aa en,yX⟩,
      fun m hm=>en.le (dc hm (pC _ _)) (aM _),.bd [] [] .nil,jK _ _,by simp⟩
    cases b2 with
    |none=>
     have ae:=rH gO jt ah 0 eC c3 jd;refine fin _ es rfl ?_ (by rw[BW jd];exact eC) (by rw[BW jd];exact c3) cg;unfold Builtin.delete_;simp only[dU];simp[run_underlying hd,xu dG,tN gO,vr (C:=C) jt ae,BU _ dG,Sem.run_pure]
    |some r=>
     obtain⟨j,y,ae,-,-⟩:=rH gO jt ah 0 eC c3 jd;obtain⟨s1,s2⟩:=Ov gO jt ah 0 eC c3 jd ae;rw[er]at ae;refine fin _ (es.eraseIdxIfInBounds j) rfl ?_ (by simpa using s1) (by simpa using s2) (cg.erase _);unfold Builtin.delete_;simp only[dU];simp[run_underlying hd,xu dG,tN gO,vr (C:=C) jt ae,BU _ dG,Sem.run_pure]
   ·cases he
  ·cases he
 ·cases he
theorem Ow{P:Program}{w:World}(s:ByteArray):(Builtin.lenOf (.string s)).run P w=.ok s.size w:=rfl
theorem Jb{P:Program}{t u ty e:TypeId}{i:TypeInfo}(hd:P.underlying t=some (.slice e))(hu:P.underlying u=some .string)(hi:P.info? e=some i){base:Option Addr}{sLen sCap n:Nat}{s:ByteArray}{news:List Value}(hn:s.size=n)
  (hx:(Builtin.firstCells i.size n (.string s)).run P w=.ok news.toArray w) (hS:sLen+n<=sCap):
  (Builtin.append_ #[t,u] ty #[.slice base sLen sCap,.string s]).run P w=
    ((match base with|some a=>storeCells (a.add (sLen*i.size)) news|none=>pure ()).run P w).andThen fun _ w'=>.ok (.slice base (sLen+n) sCap) w':=by
 subst hn;cases base with
 |none=>simp[Builtin.append_,run_underlying hd,run_underlying hu,sizeOf,typeInfo,hi,Ow,hS,hx]
 |some a=>simp[Builtin.append_,run_underlying hd,run_underlying hu,sizeOf,typeInfo,hi,Ow,hS,hx]
theorem Jc{P:Program}{t u ty e:TypeId}{i:TypeInfo}{cC:Value}(hd:P.underlying t=some (.slice e))(hu:P.underlying u=some .string)(hi:P.info? e=some i)(aI:i.zero=some cC)
  {base:Option Addr} {sLen sCap n:Nat} {s:ByteArray} {olds news:List Value} (hn:s.size=n)
  (hx:(Builtin.firstCells i.size n (.string s)).run P w.drew=.ok news.toArray w.drew) (ho:(Builtin.firstCells i.size sLen (.slice base sLen sCap)).run P w.drew=.ok olds.toArray w.drew)
  (hS:sCap<sLen+n) (hb:(sLen+n)*(i.bytes+1)<=1099511627776):
  ∃gw,sLen+n<=gw/\(Builtin.append_ #[t,u] ty #[.slice base sLen sCap,.string s]).run P w=
   .ok (.slice (some ⟨w.heap.size,0,none⟩) (sLen+n) gw) (w.drew.alloc (.cells (olds.toArray++news.toArray++Builtin.zeroCells cC.cells (gw-(sLen+n))) e)):=by
 subst hn;have h1:¬sLen+s.size<=sCap:=by omega
 have hm:(sLen+s.size)*i.bytes+(sLen+s.size)=(sLen+s.size)*(i.bytes+1):=by rw[Nat.mul_succ]
 have h2:¬(((sLen+s.size:Nat):Int)>9223372036854775807):=by omega
 have av:=growslice_fits (need:=sLen+s.size) (old:=sCap) (bytes:=i.bytes) hS (by omega);have bc:¬(281474976710656<Builtin.nextslicecap (sLen+s.size) sCap*i.bytes):=by omega
 refine⟨sLen+s.size+(w.tape w.drawn (.appendCap (sLen+s.size) sCap e))%(9223372036854775808-(sLen+s.size)),M7 _ _,?_⟩;have xr:¬(9223372036854775807<(sLen:Int)+(s.size:Int)):=by omega
 simp[Builtin.append_,run_underlying hd,run_underlying hu,sizeOf,typeInfo,hi,Ow,h1,xr,bc,Question.forced,Question.cut,hx,ho,zeroValue,aI,newRow];congr 2;apply Array.ext';simp
theorem BX{P:Program}{w:World}(size:Nat)(s:List UInt8):(Builtin.firstCells size s.length (.string ⟨⟨s⟩⟩)).run P w=.ok (s.map fun b=>Value.int .u8 b.toNat).toArray w:=by
 have:(ByteArray.extract ⟨⟨s⟩⟩ 0 s.length)=⟨⟨s⟩⟩:=by
  apply ByteArray.ext;simp
 simp[Builtin.firstCells,this,Sem.run_pure]
theorem aie (aa:bf C fid G H w)(aR:fC C fid vars G w ai ρ){a b:Operand}{t u e:TypeId}{i:TypeInfo}{cC:Value}{args:Array Operand}{ts:Array TypeId}(ho:o.op=.call {callee:=.builtin .append,args,argTypes:=ts})
  (ao:args= #[a,b]) (ht:ts= #[t,u]) {kk hU:aj} (h1:C.ch vars a=some kk) (h2:C.ch vars b=some hU) (hd:C.P.underlying t=some (.slice e)) (hu:C.P.underlying u=some .string) (hi:C.P.info? e=some i)
  (aI:i.zero=some cC) (o0:cC.cells.size=i.size) (nz:i.size=1) (Ox:i.bytes=1) (he:step ai H low (.DP kk hU)=some (v,H',low')):df C fid G H w low ((execOp ρ o).run C.P w) v H' low':=by
 subst ao;subst ht;have hx:=aR a kk h1;have hy:=aR b hU h2;have jb:0<i.size:=by omega
 have EC:(execOp ρ o).run C.P w=((Builtin.append_ #[t,u] o.type #[ρ a,ρ b]).run C.P w).andThen fun z w'=>.ok (.value z) w':=by
  rw[vm ho];simp only[builtin,Sem.run_bind,DJ,eG,me];rfl
 simp only[step]at he;split at he
 ·rename_i s Oy
  rw[Oy]at hy;have cn:=EC;rw[hy.n8]at cn;have hn:(⟨⟨s⟩⟩:ByteArray).size=s.length:=rfl;split at he
  ·rename_i o1
   have lQ:s=[]:=by simpa using o1
   subst lQ
   have same:∀base n cap,ρ a=.slice base n cap->n<=cap->(execOp ρ o).run C.P w=.ok (.value (ρ a)) w:=by
    intro base n cap hs hle;rw[cn,hs,Jb (P:=C.P) hd hu hi (n:=0) rfl (BX i.size []) (by simpa using hle)];cases base<;>simp[storeCells]
   split at he
   ·rename_i ag
    simp only[aA,bC]at he;obtain⟨rfl,rfl,rfl⟩:=he;rw[ag]at hx;exact .same aa (same _ _ _ hx.js (aM _)) hx
   ·rename_i ag
    simp only[aA,bC]at he;obtain⟨rfl,rfl,rfl⟩:=he;rw[ag]at hx;obtain⟨dh,dU⟩:=hx.rB;exact .same aa (same _ _ _ dU (aM _)) hx
   ·rename_i l bN off len tag ag
    rw[ag]at hx;split at he
    ·rename_i fl ds ej hl
     split at he
     ·rename_i fX
      simp only[aA,bC]at he;obtain⟨rfl,rfl,rfl⟩:=he;obtain⟨h0,dh,cQ,cap,c6,qB,iG,dU⟩:=hx.oV;obtain⟨a1,eO,hr⟩:=aa.obj l h0 c6;rw[hl]at eO;cases eO;obtain⟨rfl,rfl,-,pO⟩:=iG (hr.1.trans fX);exact .same aa (same _ _ _ dU pO) hx
     ·cases he
    ·cases he
   ·cases he
  ·rename_i o1
   have lQ:s≠[]:=by simpa using o1
   generalize eX:(s.map fun c=>V.int .u8 c.toNat)=e6 at he;generalize c3:(s.map fun c=>Value.int .u8 c.toNat)=vals;obtain⟨xs,ck⟩:∃xs:List V,e6.length=xs.length:=⟨e6,rfl⟩;have gh:s.length=xs.length:=by rw[<-ck,<-eX,jn]
   have bu:0<e6.length:=by rw[<-eX,jn];exact TP.2 lQ
   have ct:bk fid G w (e6.flatMap aF) vals:=by
    subst eX;subst c3;clear lQ o1 gh bu ck he Oy hy cn hn
    induction s with
    |nil=>exact .nil
    |cons c s ih=>exact .cons _ _ _ _ (.p _ _ (.int _ _)) ih
   have kD:∀d∈e6,(aF d).length=i.size:=by
    intro d hd;rw[<-eX]at hd;obtain⟨c,-,rfl⟩:=eM.1 hd;rw[nz];rfl
   have aZ:bX (e6.flatMap aF)=true:=by
    subst eX
    have key:∀q:List UInt8,bX ((q.map fun c=>V.int .u8 c.toNat).flatMap aF)=true:=fun q=>by
     induction q with
     |nil=>rfl
     |cons c s ih=>exact(ca _ _).mpr ⟨rfl,ih⟩
    exact key s
   have sx:∀gv:World,gv.heap=w.heap->(Builtin.firstCells i.size xs.length (.string ⟨⟨s⟩⟩)).run C.P gv=.ok vals.toArray gv:=fun gv _=>by
    rw[<-gh,<-c3];exact BX i.size s
   have og:(⟨⟨s⟩⟩:ByteArray).size=xs.length:=hn.trans gh;have Oz:i.bytes+1=2:=by omega
   rw[<-nz]at he;have EA:=Vu ct aZ;have lM:vals.length=xs.length*i.size:=by rw[ct.length,nc kD,ck]
   have fresh:∀base,ρ a=.slice base 0 0->e6.length*(i.bytes+1)<=1099511627776->df C fid G H w low ((execOp ρ o).run C.P w) (.b7 H.length i.size 0 e6.length e6.length) (H++[.row i.size e6 false]) low:=by
    intro base hs hb
    have hold:(Builtin.firstCells i.size 0 (.slice base 0 0)).run C.P w.drew=.ok ([]:List Value).toArray w.drew:=by
     cases base<;>simp[Builtin.firstCells,loadCells,loadCellsFrom]
    obtain⟨gw,fb,lp⟩:=Jc (P:=C.P) (t:=t) (u:=u) (ty:=o.type) hd hu hi aI og (sx w.drew rfl) hold (by omega) (by rw[er,<-ck];exact hb);rw[er,<-ck]at lp fb;refine df.newRow aa (cap:=gw) (e:=e) jb bu kD (vals:=vals) (rest:=(Builtin.zeroCells cC.cells (gw-e6.length)).toList) ?_ ct ?_ fb (by rw[cn,hs,lp];rfl)
    ·simp
    ·simp only[yq,uY,eF,er,BR,lM,o0,<-ck,<-si]
     rw[Nat.add_sub_cancel' fb];exact aM _
   split at he
   ·rename_i ag
    split at he
    ·rename_i hb
     simp only[aA,bC]at he;obtain⟨rfl,rfl,rfl⟩:=he;rw[ag]at hx;exact fresh _ hx.js (by rw[Oz];exact hb)
    ·cases he
   ·rename_i ag
    split at he
    ·rename_i hb
     simp only[aA,bC]at he;obtain⟨rfl,rfl,rfl⟩:=he;rw[ag]at hx;obtain⟨dh,dU⟩:=hx.rB;exact fresh _ dU (by rw[Oz];exact hb)
    ·cases he
   ·rename_i l bN off len tag ag
    rw[ag]at hx;split at he
    ·rename_i fl ds hl
     split at he
     ·rename_i ev
      obtain⟨rfl,rfl,fX,rfl,rfl,hb⟩:=ev;simp only[aA,bC]at he;obtain⟨rfl,rfl,rfl⟩:=he;obtain⟨h0,dh,cQ,cap,c6,qB,iG,dU⟩:=hx.oV;obtain⟨a1,eO,hr⟩:=aa.obj l h0 c6;rw[hl]at eO;cases eO;obtain⟨yV,Vv,hfz,fc,nA,c,vp,k2,rest,hc,fa,jS,fx⟩:=hr;obtain⟨rfl,rfl,oW,pO⟩:=iG (yV.trans fX);rw[Nat.zero_mul]at dU;rw[er]at oW;have lL:ds.length=cQ:=fX;have pP:k2.length=cQ*i.size:=by rw[fx.length,nc nA,lL]
      have h8:c.size=k2.length+rest.length:=by rw[<-hJ,jS,e1]
      have tL:∀d∈ds++e6,(aF d).length=i.size:=fun d hd=>by
       rcases kS.1 hd with q|q
       ·exact nA d q
       ·exact kD d q
      have EB:bk fid G w ((ds++e6).flatMap aF) (k2++vals):=by rw[M0];exact fx.append ct
      by_cases hS:cQ+xs.length<=cap
      ·
       have hmul:(cQ+xs.length)*i.size<=c.size:=dc (MY _ hS) (by rw[<-fa];exact oW);rw[si]at hmul;have cg:=run_storeCells_at C.P h0.b (cQ*i.size) vp vals 0 c w hc (by omega) EA
       have hval:(execOp ρ o).run C.P w=.ok (.value (.slice (some ⟨h0.b,0,none⟩) (cQ+xs.length) cap)) (w.setRow h0.b (c.toList.take (cQ*i.size)++vals++c.toList.drop (cQ*i.size+vals.length)).toArray):=by
        rw[cn,dU,Jb (P:=C.P) hd hu hi og (sx w rfl) hS];simp only[Addr.add_lit,er];simp only[yx]at cg;rw[cg];rfl
       have en:Ext G w ⟨cA G.β l {h0 with tag:=cQ+e6.length},G.I⟩ (w.setRow h0.b (c.toList.take (cQ*i.size)++vals++c.toList.drop (cQ*i.size+vals.length)).toArray) l H.length:=
        Ext.write aa c6 hfz rfl (by simp only;omega) (fun q=>by omega) rfl (setRow_size _ _) (fun b bu=>setRow_other bu _) rfl rfl
       refine⟨_,_,_,.inl hval,bf.write aa c6 hfz (h':={h0 with tag:=cQ+e6.length}) rfl hfz (by simp only;omega) (fun q=>by omega) rfl (setRow_size _ _) (fun b bu=>setRow_other bu _) (.row i.size (ds++e6) false) ?_,
        fun m hm=>en.le (dc hm (pC _ _)) (aM _),?_,jK _ _,by simp⟩
       ·refine⟨by simp[lL],by simp;omega,hfz,fc,tL,_,vp,k2++vals,rest.drop vals.length,setRow_heap w h0.b c _ vp _ hc,?_,?_,EB.ext aa en⟩
        ·show h0.fB=_
         rw[fa];simp only[uY,e1,mc,pD,hJ];omega
        ·rw[MZ,jS,<-pP,List.take_left,H4,jJ,jJ]
         congr 2;rw[MW (by omega),ke];congr 1;omega
       ·rw[<-ck]
        exact .b7 l i.size 0 _ _ {h0 with tag:=cQ+e6.length} _ _ _ (du _ _ _) (aM _) (fun _=>⟨by simp,rfl,by rw[er];exact oW,by omega⟩)
      ·
       have hold:(Builtin.firstCells i.size cQ (.slice (some ⟨h0.b,0,none⟩) cQ cap)).run C.P w.drew=.ok k2.toArray w.drew:=
        Ez (iv.va (w:=w.drew) hc jS) pP
       obtain⟨gw,fb,lp⟩:=Jc (P:=C.P) (t:=t) (u:=u) (ty:=o.type) hd hu hi aI og (sx w.drew rfl) hold (by omega) (by rw[<-ck,Oz];exact hb);have vq:bf C fid G H w.drew:=aa.jR rfl;have dw:∀m n,Ext G w G w.drew m n:=fun m n=>Ext.jR (w:=w) (w':=w.drew) rfl rfl rfl m n
       obtain⟨bH,cw⟩:=bf.move vq c6 hfz (.cells (k2.toArray++vals.toArray++Builtin.zeroCells cC.cells (gw-(cQ+xs.length))) e) (cQ+e6.length)
        (k2.toArray++vals.toArray++Builtin.zeroCells cC.cells (gw-(cQ+xs.length))).size (by omega) (by omega) (.row i.size (ds++e6) false)
        ⟨by simp[lL],by simp;omega,rfl,fc,tL,_,e,k2++vals,(Builtin.zeroCells cC.cells (gw-(cQ+xs.length))).toList,ml _ _,rfl,by simp,bk.mono (G:=G) (w:=w.drew) (G':=⟨cA G.β l ⟨w.drew.heap.size,cQ+e6.length,(k2.toArray++vals.toArray++Builtin.zeroCells cC.cells (gw-(cQ+xs.length))).size,false⟩,G.I⟩) (by
         intro x eS eW;by_cases jc:x=l
         ·subst jc;rw[c6]at eW;cases eW
          exact⟨_,du _ _ _,by simp only;omega,fun q=>by omega,fun q=>by simp only at q;omega,fun q=>by rw[hfz]at q;cases q⟩
         ·exact⟨eS,by simp only[dH jc];exact eW,aM _,id,fun _=>⟨rfl,rfl⟩,fun _=>rfl⟩) (fun b tM=>⟨tM,alloc_old (w:=w.drew) (vq.dd b tM).1⟩) (EB.ext aa (dw 0 0))⟩
       refine⟨_,_,_,.inl (by rw[cn,dU,lp];rfl),bH,fun m hm=>(dw m H.length).trans (cw.le (dc hm (pC _ _)) (aM _)),?_,jK _ _,by simp⟩;rw[<-ck];refine .b7 l i.size 0 _ _ ⟨w.drew.heap.size,cQ+e6.length,_,false⟩ _ _ _ (du _ _ _) (aM _) (fun _=>⟨by simp,rfl,?_,by omega⟩);simp only[yq,uY,BR,lM,pP,o0,<-si,er];have vk:cQ+xs.length+(gw-(cQ+e6.length))=gw:=by omega
       rw[vk];exact aM _
     ·cases he
    ·cases he
   ·cases he
 ·cases he
end Go.Abs
namespace Go.Abs
open Go
variable{C:Ctx}{fid:Nat->Nat}{w w':World}{G G':cc}{H:Heap}
section
variable{vars:List Nat}{ai:aj->V}{ρ:Operand->Value}{low low':Nat}{v:V}{H':Heap}{o:Oper}
theorem df.aif (aa:bf C fid G H w){low:Nat}{r:Result Next}{s:List UInt8}{c:Array Value}{rest:List Value}{cap:Nat}(hn:0<s.length)
  (hc:c.toList=(s.map fun b=>Value.int .u8 b.toNat)++rest) (fb:cap<=c.size) (hle:s.length<=cap)
  (hr:r=.ok (.value (.slice (some ⟨w.heap.size,0,none⟩) s.length cap)) (w.drew.alloc (.cells c C.Br))):
  df C fid G H w low r (.b7 H.length 1 0 s.length s.length) (H++[.sj s]) low:=by
 have kj:bf C fid G H w.drew:=aa.jR rfl;have dw:∀m n,Ext G w G w.drew m n:=fun m n=>Ext.jR (w:=w) (w':=w.drew) rfl rfl rfl m n;refine⟨_,_,⟨cA G.β H.length ⟨w.drew.heap.size,s.length,c.size,false⟩,G.I⟩,.inl hr,kj.push _ _ s.length c.size ⟨rfl,rfl,hn,c,rest,ml _ _,rfl,hc⟩,fun m _=>(dw m H.length).trans (Ext.push kj _ _ _ m),?_,aM _,by simp⟩;exact .b7 _ 1 0 _ _ ⟨w.drew.heap.size,s.length,c.size,false⟩ _ _ _ (du _ _ _) (aM _) (fun _=>⟨by simp,rfl,by rw[er,Nat.mul_one];exact fb,hle⟩)
theorem aih (aa:bf C fid G H w)(aR:fC C fid vars G w ai ρ){a b:Operand}{t u e:TypeId}{i:TypeInfo}{cC:Value}{args:Array Operand}{ts:Array TypeId}(ho:o.op=.call {callee:=.builtin .append,args,argTypes:=ts})
  (ao:args= #[a,b]) (ht:ts= #[t,u]) {kk hU:aj} (h1:C.ch vars a=some kk) (h2:C.ch vars b=some hU) (hd:C.P.underlying t=some (.slice e)) (hu:C.P.underlying u=some .string) (hi:C.P.info? e=some i)
  (aI:i.zero=some cC) (o0:cC.cells.size=i.size) (nz:i.size=1) (Ox:i.bytes=1) (BZ:e=C.Br) (he:step ai H low (.DQ kk hU)=some (v,H',low')):df C fid G H w low ((execOp ρ o).run C.P w) v H' low':=by
 subst ao;subst ht;subst BZ;have hx:=aR a kk h1;have hy:=aR b hU h2
 have cn:(execOp ρ o).run C.P w=((Builtin.append_ #[t,u] o.type #[ρ a,ρ b]).run C.P w).andThen fun z w'=>.ok (.value z) w':=by
  rw[vm ho];simp only[builtin,Sem.run_bind,DJ,eG,me];rfl
 have EA:∀s:List UInt8,∀x∈s.map (fun b=>Value.int .u8 b.toNat),x.oneCell'=true:=fun s x hx=>by
  obtain⟨b,-,rfl⟩:=eM.1 hx;rfl
 simp only[step]at he;split at he
 ·rename_i s ag e2
  rw[ag]at hx;rw[e2]at hy;rw[hy.n8,hx.js]at cn;split at he
  ·rename_i o1
   have lQ:s=[]:=by simpa using o1
   subst lQ;simp only[aA,bC]at he;obtain⟨rfl,rfl,rfl⟩:=he;refine .same aa (x:=.slice none 0 0) ?_ (.p _ _ .aY);rw[cn,Jb (P:=C.P) hd hu hi (n:=0) rfl (BX i.size []) (by simp)];rfl
  ·rename_i o1
   have lQ:s≠[]:=by simpa using o1
   split at he
   ·rename_i hb
    simp only[aA,bC]at he;obtain⟨rfl,rfl,rfl⟩:=he;have jb:0<s.length:=TP.2 lQ
    obtain⟨gw,fb,lp⟩:=Jc (P:=C.P) (t:=t) (u:=u) (ty:=o.type) (w:=w) (base:=none) (sLen:=0) (sCap:=0) (n:=s.length) (s:=⟨⟨s⟩⟩) (olds:=[]) hd hu hi aI rfl (BX i.size s)
     (by simp[Builtin.firstCells,loadCells,loadCellsFrom]) (by omega) (by rw[Ox];omega)
    rw[er]at lp fb;refine df.aif aa (cap:=gw) (rest:=(Builtin.zeroCells cC.cells (gw-s.length)).toList) jb ?_ ?_ fb (by rw[cn,lp];rfl)
    ·simp
    ·simp only[yq,uY,eF,jn,er,BR,o0,nz]
     omega
   ·cases he
 ·rename_i l es off len tag s ag e2
  rw[ag]at hx;rw[e2]at hy;rw[hy.n8]at cn;split at he
  ·rename_i r hl
   split at he
   ·rename_i ev
    obtain⟨o1,rfl,rfl,rfl,fX,hb⟩:=ev;have lQ:s≠[]:=by simpa using o1
    have jb:0<s.length:=TP.2 lQ;simp only[aA,bC]at he;obtain⟨rfl,rfl,rfl⟩:=he;obtain⟨h0,dh,cQ,cap,c6,qB,iG,dU⟩:=hx.oV;obtain⟨a1,eO,hr⟩:=aa.obj l h0 c6;rw[hl]at eO;cases eO;obtain⟨hfz,yV,aAG,c,rest,hc,fa,jS⟩:=hr;obtain⟨rfl,rfl,oW,pO⟩:=iG (yV.trans fX);rw[Nat.zero_mul]at dU;rw[er,Nat.mul_one]at oW;subst fX;have h8:c.size=r.length+rest.length:=by rw[<-hJ,jS,e1,jn]
    by_cases hS:r.length+s.length<=cap
    ·have cg:=run_storeCells_at C.P h0.b (r.length*i.size) C.Br (s.map fun b=>Value.int .u8 b.toNat) 0 c w hc (by rw[jn,nz];omega) (EA s)
     have hval:(execOp ρ o).run C.P w=.ok (.value (.slice (some ⟨h0.b,0,none⟩) (r.length+s.length) cap)) (w.setRow h0.b (c.toList.take (r.length*i.size)++(s.map fun b=>Value.int .u8 b.toNat)++c.toList.drop (r.length*i.size+(s.map fun b=>Value.int .u8 b.toNat).length)).toArray):=by
      rw[cn,dU,Jb (P:=C.P) hd hu hi (n:=s.length) rfl (BX i.size s) hS];simp only[Addr.add_lit,er];simp only[yx]at cg;rw[cg];rfl
     have en:Ext G w ⟨cA G.β l {h0 with tag:=r.length+s.length},G.I⟩ (w.setRow h0.b (c.toList.take (r.length*i.size)++(s.map fun b=>Value.int .u8 b.toNat)++c.toList.drop (r.length*i.size+(s.map fun b=>Value.int .u8 b.toNat).length)).toArray) l H.length:=
      Ext.write aa c6 hfz rfl (by simp only;omega) (fun q=>by omega) rfl (setRow_size _ _) (fun b bu=>setRow_other bu _) rfl rfl
     refine⟨_,_,_,.inl hval,bf.write aa c6 hfz (h':={h0 with tag:=r.length+s.length}) rfl hfz (by simp only;omega) (fun q=>by omega) rfl (setRow_size _ _) (fun b bu=>setRow_other bu _) (.sj (r++s)) ?_,
      fun m hm=>en.le (dc hm (pC _ _)) (aM _),?_,jK _ _,by simp⟩
     ·refine⟨hfz,by simp,by simp;omega,_,rest.drop s.length,setRow_heap w h0.b c _ _ _ hc,?_,?_⟩
      ·show h0.fB=_
       rw[fa];simp only[uY,e1,mc,pD,hJ,jn,nz];omega
      ·have bI:r.length*i.size=(r.map fun b=>Value.int .u8 b.toNat).length:=by rw[nz,jn,Nat.mul_one]
       rw[MZ,jS,bI,List.take_left,H4,lh,jJ,jJ];congr 2;rw[MW (by omega),ke,jn,jn];congr 1;omega
     ·exact .b7 l 1 0 _ _ {h0 with tag:=r.length+s.length} _ _ _ (du _ _ _) (aM _) (fun _=>⟨by simp,rfl,by rw[er,Nat.mul_one];exact oW,hS⟩)
    ·have hold:(Builtin.firstCells i.size r.length (.slice (some ⟨h0.b,0,none⟩) r.length cap)).run C.P w.drew=.ok (r.map fun b=>Value.int .u8 b.toNat).toArray w.drew:=
      Ez (iv.va (w:=w.drew) hc jS) (by rw[jn,nz,Nat.mul_one])
     obtain⟨gw,fb,lp⟩:=Jc (P:=C.P) (t:=t) (u:=u) (ty:=o.type) (w:=w) (n:=s.length) (s:=⟨⟨s⟩⟩) hd hu hi aI rfl (BX i.size s) hold (by omega) (by rw[Ox];exact hb);have vq:bf C fid G H w.drew:=aa.jR rfl;have dw:∀m n,Ext G w G w.drew m n:=fun m n=>Ext.jR (w:=w) (w':=w.drew) rfl rfl rfl m n
     obtain⟨bH,cw⟩:=bf.move vq c6 hfz (.cells ((r.map fun b=>Value.int .u8 b.toNat).toArray++(s.map fun b=>Value.int .u8 b.toNat).toArray++Builtin.zeroCells cC.cells (gw-(r.length+s.length))) C.Br) (r.length+s.length)
      ((r.map fun b=>Value.int .u8 b.toNat).toArray++(s.map fun b=>Value.int .u8 b.toNat).toArray++Builtin.zeroCells cC.cells (gw-(r.length+s.length))).size (by omega) (by omega) (.sj (r++s))
      ⟨rfl,by simp,by simp;omega,_,(Builtin.zeroCells cC.cells (gw-(r.length+s.length))).toList,ml _ _,rfl,by simp⟩
     refine⟨_,_,_,.inl (by rw[cn,dU,lp];rfl),bH,fun m hm=>(dw m H.length).trans (cw.le (dc hm (pC _ _)) (aM _)),?_,jK _ _,by simp⟩;refine .b7 l 1 0 _ _ ⟨w.drew.heap.size,r.length+s.length,_,false⟩ _ _ _ (du _ _ _) (aM _) (fun _=>⟨by simp,rfl,?_,fb⟩);simp only[yq,uY,jn,BR,o0,nz];omega
   ·cases he
  ·cases he
 ·cases he
end
end Go.Abs
namespace Go.Abs
open Go
variable{C:Ctx}{fid:Nat->Nat}{w w':World}{G G':cc}{H:Heap}
section
variable{vars:List Nat}{ai:aj->V}{ρ:Operand->Value}{low low':Nat}{v:V}{H':Heap}{pos:String}{dq:cS}{o:Oper}
theorem pT{α:Type}{a:Array α}{x y:α}(h:a.toList=[x,y]):a= #[x,y]:=by cases a;simp_all
theorem B0{α:Type}{a:Array α}{x:α}(h:a.toList=[x]):a= #[x]:=by cases a;simp_all
theorem aii (aa:bf C fid G H w)(aR:fC C fid vars G w ai ρ){b:Builtin}{args:Array Operand}{ts:Array TypeId}(ho:o.op=.call {callee:=.builtin b,args,argTypes:=ts})
  (hc:C.builtin vars pos b args ts=some dq) (he:step ai H low dq=some (v,H',low')):df C fid G H w low ((execOp ρ o).run C.P w) v H' low':=by
 unfold Ctx.builtin at hc;split at hc
 ·rename_i x t ao ht
  split at hc
  ·rename_i hu
   obtain⟨cJ,hx,rfl⟩:=cG.1 hc;exact Oi aa aR ho (B0 ao) (B0 ht) hx (by simpa using hu) he
  ·rename_i e hu
   obtain⟨cJ,hx,rfl⟩:=cG.1 hc;exact Oi aa aR ho (B0 ao) (B0 ht) hx (by simpa using⟨e,hu⟩) he
  ·rename_i k e hu
   obtain⟨cJ,hx,rfl⟩:=cG.1 hc;exact Oi aa aR ho (B0 ao) (B0 ht) hx (by simpa using⟨k,e,hu⟩) he
  ·cases hc
 ·rename_i a b t u ao ht
  split at hc
  ·rename_i e e' h1 h2
   split at hc
   ·rename_i i kk hU hi hx hy
    split at hc
    ·cases hc
    ·rename_i hn
     simp only[aA]at hc
     have xw:i.size≠0/\i.zero.map (fun z=>z.cells.size)=some i.size:=by
      simp only[kz,decide_eq_true_eq,bne_iff_ne,ne_eq,not_or,Decidable.not_not]at hn;exact hn
     obtain⟨cC,aI,o0⟩:=cG.1 xw.2;split at hc
     ·subst hc;exact ah1 aa aR ho (pT ao) (pT ht) hx hy h1 h2 hi aI o0 (M4 xw.1) he
     ·subst hc;exact ahZ aa aR ho (pT ao) (pT ht) hx hy h1 h2 hi aI o0 (M4 xw.1) he
   ·cases hc
  ·rename_i e h1 h2
   split at hc
   ·rename_i i kk hU hi hx hy
    split at hc
    ·rename_i hn
     simp only[aA]at hc;simp only[ca,beq_iff_eq]at hn;obtain⟨⟨lR,Jd⟩,Je⟩:=hn;have lR:i.size=1:=by simpa using lR
     obtain⟨cC,aI,o0⟩:=cG.1 Je;split at hc
     ·rename_i BZ
      subst hc;simp only[ca,beq_iff_eq]at BZ;exact aih aa aR ho (pT ao) (pT ht) hx hy h1 h2 hi aI (by rw[o0,lR]) lR Jd BZ.2 he
     subst hc;exact aie aa aR ho (pT ao) (pT ht) hx hy h1 h2 hi aI (by rw[o0,lR]) lR Jd he
    ·cases hc
   ·cases hc
  ·cases hc
 ·rename_i m k t u ao ht
  split at hc
  ·rename_i eI sy am hX h1 h2 av
   obtain⟨b1,gO,rfl⟩:=cG.1 hc;have gU:=pT ao;subst gU;exact aid aa aR h1 (pT ht) ho h2 av gO he
  ·cases hc
 ·cases hc
 ·rename_i a b ao
  split at hc
  ·rename_i kk hU hx hy
   simp only[aA]at hc;subst hc;exact Vk aa aR ho (pT ao) (mx:=true) rfl hx hy he
  ·cases hc
 ·rename_i a b t u ao ht
  split at hc
  ·rename_i e e' h1 h2
   split at hc
   ·rename_i n kk hU hi hx hy
    split at hc
    ·cases hc
    ·simp only[aA]at hc;subst hc
     exact ah2 (e':=e') aa aR ho (pT ao) (pT ht) hx hy h1 hi he
   ·cases hc
  ·cases hc
 ·rename_i a b ao
  split at hc
  ·rename_i kk hU hx hy
   simp only[aA]at hc;subst hc;exact Vk aa aR ho (pT ao) (mx:=false) rfl hx hy he
  ·cases hc
 ·cases hc
theorem aij (bF:fp C fid)(aa:bf C fid G H w)(aR:fC C fid vars G w ai ρ)(jq:low<=H.length)
  (he:step ai H low (C.op vars pos o.op)=some (v,H',low')):df C fid G H w low ((execOp ρ o).run C.P w) v H' low':=by
 unfold Ctx.op at he;cases hc:C.cY vars pos o.op with
 |none=>rw[hc]at he;simp[step]at he
 |some dq=>
  rw[hc]at he;simp only[w8]at he;cases c9:o.op with
  |move x=>exact U9 aa aR (.inl c9) hc he
  |assign x=>exact U9 aa aR (.inr c9) hc he
  |pick c a b=>exact ag8 aa aR c9 hc he
  |alloc t=>exact ahk aa c9 hc he
  |box t x=>exact ahl aa aR c9 hc he
  |build t parts=>exact ahS aa aR c9 hc he
  |buildSlice t l parts=>exact ahT aa aR c9 hc he
  |load t a=>exact ahh aa aR c9 hc he
  |store t a x=>exact ahi aa aR c9 hc jq he
  |nilCheck x=>exact ag9 aa aR c9 hc he
  |binOp a b c d e=>exact ahx aa aR c9 hc he
  |unOp a b c=>exact aha aa aR c9 hc he
  |convert a b c=>
   rcases(show(∃x,dq=.qu x)\/∀x,dq≠ .qu x from by
    cases dq<;>first|exact .inl ⟨_,rfl⟩|exact .inr (by simp))with⟨x,rfl⟩|hnb
   ·exact aib aa aR c9 hc he
   ·exact ahb aa aR c9 hnb hc he
  |makeInterface a b=>exact ahc aa aR c9 hc he
  |makeFunc a b c=>exact ahd bF aa aR c9 hc he
  |makeMap a b=>exact ahm aa c9 hc he
  |makeSlice a b c=>exact ahY aa aR c9 hc he
  |slice a b c d e=>exact ahH aa aR c9 hc he
  |fieldAddr a b c=>exact ahg aa aR c9 hc he
  |field a b c=>exact ahf aa aR c9 hc he
  |indexAddr a b c=>exact ahK aa aR c9 hc he
  |index a b c=>exact ahn aa aR c9 hc he
  |lookup a b c d=>exact ah5 aa aR c9 hc he
  |mapUpdate a b c d=>exact VA aa aR (.inl c9) hc he
  |insert a b c d=>exact VA aa aR (.inr c9) hc he
  |extract a b=>exact ahe aa aR c9 hc he
  |call c=>
   rw[c9]at hc;obtain⟨callee,args,ec⟩:=c;cases callee with
   |builtin b=>exact aii aa aR c9 hc he
   |value f=>
    simp only[Ctx.cY]at hc;split at hc
    ·simp only[aA]at hc;subst hc;simp[step]at he
    ·cases hc
   | _=>simp[Ctx.cY]at hc
  | _=>rw[c9]at hc;simp[Ctx.cY]at hc
end
end Go.Abs
namespace Go.Abs
open Go
structure Fr (H:Heap) (low:Nat) (H':Heap) (low':Nat):Prop where
 len:H.length<=H'.length
 low:low'<=low
 same:∀l,l<low'->H'[l]? =H[l]?
variable{H H' H1 H2:Heap}{low low' bS dM:Nat}{ai:aj->V}{v v':V}
theorem Fr.refl (H:Heap)(low:Nat):Fr H low H low:=⟨aM _,aM _,fun _ _=>rfl⟩
theorem Fr.trans (h:Fr H low H1 bS)(k:Fr H1 bS H2 dM):Fr H low H2 dM:=
 ⟨dc h.len k.len,dc k.low h.low,fun l hl=>(k.same l hl).trans (h.same l (rj hl k.low))⟩
theorem Fr.push (hl:low<=H.length)(o:cD):Fr H low (H++[o]) low:=
 ⟨by simp,aM _,fun l h=>by rw[gM (by omega)]⟩
theorem Fr.set (l:Nat)(o:cD):Fr H low (H.set l o) (min low l):=
 ⟨by simp,jK _ _,fun x h=>by rw[lG (by omega)]⟩
theorem Fr.lift (h:Fr H bS H' dM)(low:Nat):Fr H low H' (min low dM):=
 ⟨h.len,jK _ _,fun l hl=>h.same l (by omega)⟩
theorem Fr.eq (h:Fr H low H' low')(hl:H.length<=low')(he:H'.length=H.length):H'=H:=by
 apply yp;intro l;rcases gq l low' with q|q
 ·exact h.same l q
 ·rw[nt (by omega),nt (by omega)]
theorem OA (h:Fr H low H' low')(hm:fm H H' low'=false):H'=H:=by
 simp only[fm,uX,decide_eq_false_iff_not,bne_eq_false_iff_eq]at hm;exact h.eq (by omega) hm.2
structure VE (f:Heap->Nat->V->Option (V × Heap × Nat)):Prop where
 ok:∀{H H':Heap} {low low':Nat} {v v':V},f H low v=some (v',H',low')->Fr H low H' low'/\H'.length=H.length
theorem OB{f:Heap->Nat->V->Option (V × Heap × Nat)}(ae:VE f):∀{vs vs':List V} {H H':Heap} {low low':Nat},kT f H low vs=some (vs',H',low')->Fr H low H' low'/\H'.length=H.length
 |[],_,_,_,_,_,he=>by
  simp only[kT,aA,bC]at he;obtain⟨-,rfl,rfl⟩:=he;exact⟨.refl _ _,rfl⟩
 |v::r,_,_,_,_,_,he=>by
  simp only[kT]at he;split at he
  ·rename_i h1
   split at he
   ·rename_i h2
    simp only[aA,bC]at he;obtain⟨-,rfl,rfl⟩:=he;have a:=ae.ok h1;have b:=OB ae h2;exact⟨a.1.trans b.1,b.2.trans a.2⟩
   ·cases he
  ·cases he
theorem OC:∀(n:Nat),VE (ei n)
 |0=>by
  refine⟨fun {H H' low low' v v'} he=> ?_⟩;simp only[ei]at he;split at he
  ·simp only[aA,bC]at he
   obtain⟨-,rfl,rfl⟩:=he;exact⟨.refl _ _,rfl⟩
  ·cases he
 |n+1=>by
  refine⟨fun {H H' low low' v v'} he=> ?_⟩;have ih:=fun {vs vs' H H' low low'}=>OB (OC n) (vs:=vs) (vs':=vs') (H:=H) (H':=H') (low:=low) (low':=low');simp only[ei]at he;split at he
  ·simp only[aA,bC]at he
   obtain⟨-,rfl,rfl⟩:=he;exact⟨.refl _ _,rfl⟩
  ·split at he
   ·split at he
    ·rename_i h
     simp only[aA,bC]at he;obtain⟨-,rfl,rfl⟩:=he;exact ih h
    ·cases he
   ·split at he
    ·rename_i h
     simp only[aA,bC]at he;obtain⟨-,rfl,rfl⟩:=he;exact ih h
    ·cases he
   ·split at he
    ·split at he
     ·split at he
      ·simp only[aA,bC]at he
       obtain⟨-,rfl,rfl⟩:=he;split
       ·exact⟨.refl _ _,rfl⟩
       ·exact⟨.set _ _,by simp⟩
      ·split at he
       ·rename_i h
        split at he
        ·split at he
         ·simp only[aA,bC]at he
          obtain⟨-,rfl,rfl⟩:=he;have:=ih h;exact⟨this.1.trans (.set _ _),by simp[this.2]⟩
         ·cases he
        ·cases he
       ·cases he
     ·cases he
    ·cases he
   ·simp only[aA,bC]at he
    obtain⟨-,rfl,rfl⟩:=he;exact⟨.refl _ _,rfl⟩
theorem B1 (he:fR H low v=some (v',H',low')):Fr H low H' low'/\H'.length=H.length:=(OC 16).ok he
theorem Jf:∀{vs vs':List V} {H H':Heap} {low low':Nat},e4 H low vs=some (vs',H',low')->Fr H low H' low'/\H'.length=H.length
 |[],_,_,_,_,_,he=>by
  simp only[e4,aA,bC]at he;obtain⟨-,rfl,rfl⟩:=he;exact⟨.refl _ _,rfl⟩
 |v::r,_,_,_,_,_,he=>by
  simp only[e4]at he;split at he
  ·rename_i h1
   split at he
   ·rename_i h2
    simp only[aA,bC]at he;obtain⟨-,rfl,rfl⟩:=he;have a:=B1 h1;have b:=Jf h2;exact⟨a.1.trans b.1,b.2.trans a.2⟩
   ·cases he
  ·cases he
theorem aik{n:Nat}{a x:V}{l:Nat}(he:jO H n a x=some (H',l)):∃o,H'=H.set l o:=by
 unfold jO at he
 repeat' split at he
 all_goals first
  |(simp only[aA,bC]at he;obtain⟨rfl,rfl⟩:=he;exact⟨_,rfl⟩)
  |cases he
set_option maxHeartbeats 1000000 in
theorem ail{op:cS}(hl:low<=H.length)(he:step ai H low op=some (v,H',low')):Fr H low H' low':=by
 cases op with
 |alloc z=>
  simp only[step,aA,bC]at he;obtain⟨-,rfl,rfl⟩:=he;exact .push hl _
 |box x=>
  simp only[step]at he;split at he
  ·simp only[aA,bC]at he
   obtain⟨-,rfl,rfl⟩:=he;exact .push hl _
  ·cases he
 |build z parts=>
  simp only[step]at he;obtain⟨cs,-,he⟩:=cG.1 he;simp only[bC]at he;obtain⟨-,rfl,rfl⟩:=he;exact .refl _ _
 |lit es z len parts jM=>
  simp only[step]at he;split at he
  ·rename_i h
   have ae:=Jf h;have nb:low'<=low':=aM _;split at he
   ·split at he
    ·split at he
     ·simp only[aA,bC]at he
      obtain⟨-,rfl,rfl⟩:=he;exact ae.1
     ·cases he
    ·split at he
     ·simp only[aA,bC]at he
      obtain⟨-,rfl,rfl⟩:=he;exact ae.1
     ·simp only[aA,bC]at he
      obtain⟨-,rfl,rfl⟩:=he;exact ae.1.trans (.push (by have:=ae.1.low;have:=ae.1.len;omega) _)
   ·cases he
  ·cases he
 |store n a x=>
  simp only[step]at he;obtain⟨⟨H1,l⟩,h,he⟩:=cG.1 he;simp only[bC]at he;obtain⟨-,rfl,rfl⟩:=he;obtain⟨o,rfl⟩:=aik h;exact .set _ _
 |Bl t x=>
  simp only[step]at he;split at he
  ·rename_i h
   simp only[aA,bC]at he;obtain⟨-,rfl,rfl⟩:=he;exact(B1 h).1
  ·cases he
 |mkMap=>
  simp only[step,aA,bC]at he;obtain⟨-,rfl,rfl⟩:=he;exact .push hl _
 |mkSlice es z bytes l c=>
  simp only[step]at he
  repeat' split at he
  all_goals first
   |(simp only[aA,bC]at he;obtain⟨-,rfl,rfl⟩:=he;first|exact .refl _ _|exact .push hl _)
   |cases he
 |qt kind m k x=>
  simp only[step]at he;split at he
  ·rename_i h
   have ae:=(B1 h).1
   repeat' split at he
   all_goals first
    |(simp only[aA,bC]at he;obtain⟨-,rfl,rfl⟩:=he;exact ae.trans (.set _ _))
    |cases he
  ·cases he
 |xe es bytes a b=>
  simp only[step]at he
  repeat' split at he
  all_goals first
   |(simp only[aA,bC]at he;obtain⟨-,rfl,rfl⟩:=he;exact .refl _ _)
   |cases he
 |append es bytes a b=>
  simp only[step]at he;split at he
  ·split at he
   ·rename_i h
    have ae:=(Jf h).1;have hle:∀x,x<=low->x<=H.length:=fun x hx=>dc hx hl
    repeat' split at he
    all_goals first
     |(simp only[aA,bC]at he;obtain⟨-,rfl,rfl⟩:=he
       first
        |exact ae
        |exact ae.trans (.push (by have:=ae.low;have:=ae.len;omega) _)
        |exact ae.trans (.set _ _))
     |cases he
   ·cases he
  ·cases he
 |yz kind m k=>
  simp only[step]at he
  repeat' split at he
  all_goals first
   |(simp only[aA,bC]at he;obtain⟨-,rfl,rfl⟩:=he;first|exact .refl _ _|exact .set _ _)
   |cases he
 |DP a b=>
  simp only[step]at he
  repeat' split at he
  all_goals first
   |(simp only[aA,bC]at he;obtain⟨-,rfl,rfl⟩:=he;first|exact .refl _ _|exact .push hl _|exact .set _ _)
   |cases he
 |DQ a b=>
  simp only[step]at he
  repeat' split at he
  all_goals first
   |(simp only[aA,bC]at he;obtain⟨-,rfl,rfl⟩:=he;first|exact .refl _ _|exact .push hl _|exact .set _ _)
   |cases he
 |copy es a b=>
  simp only[step]at he
  repeat' split at he
  all_goals first
   |(simp only[aA,bC]at he;obtain⟨-,rfl,rfl⟩:=he;first|exact .refl _ _|exact .set _ _)
   |cases he
 |call raw f args=>simp[step]at he
 |fail=>simp[step]at he
 | _=>
   simp only[step]at he
   repeat' split at he
   all_goals first
    |(cases he;done)
    |(cases he;exact .refl _ _)
    |(simp only[aA,bC]at he;obtain⟨-,rfl,rfl⟩:=he;exact .refl _ _)
    |(obtain⟨_,-,he⟩:=cG.1 he;simp only[bC]at he;obtain⟨-,rfl,rfl⟩:=he;exact .refl _ _)
theorem VF{op:cS}(ht:gr op=false)(he:step ai H low op=some (v,H',low')):H'=H/\low'=low/\∀H2 dM,step ai H2 dM op=some (v,H2,dM):=by
 cases op<;>first
  |(simp[gr]at ht;done)
  |skip
 all_goals
  simp only[step]at he⊢
  repeat' split at he
  all_goals first
   |(cases he;done)
   |(simp only[aA,bC]at he;obtain⟨rfl,rfl,rfl⟩:=he;simp_all;done)
   |(obtain⟨x,hx,he⟩:=cG.1 he;simp only[bC]at he;obtain⟨rfl,rfl,rfl⟩:=he;simp_all;done)
theorem ED{ai hM:aj->V}{d:Nat}{x:Option aj}(h:∀y∈x.toList,ai y=hM y):e5 ai d x=e5 hM d x:=by
 cases x with
 |none=>rfl
 |some y=>simp[e5,h y (by simp)]
theorem aim{ai hM:aj->V}{op:cS}(h:∀x∈op.operands,ai x=hM x):step ai H low op=step hM H low op:=by
 cases op with
 |build z parts=>
  have:(parts.map fun p=>(p.1,p.2.1,ai p.2.2))=parts.map fun p=>(p.1,p.2.1,hM p.2.2):=qn fun p hp=>by rw[h _ (by simp only[cS.operands,eM];exact⟨p,hp,rfl⟩)]
  simp only[step,this]
 |lit es z len parts jM=>
  have:(parts.map fun p=>ai p.2)=parts.map fun p=>hM p.2:=qn fun p hp=>h _ (by simp only[cS.operands,eM];exact⟨p,hp,rfl⟩);simp only[step,this]
 |tB i a b=>
  have h1:a.map ai=a.map hM:=qn fun p hp=>h _ (by simp[cS.operands,hp]);have h2:b.map ai=b.map hM:=qn fun p hp=>h _ (by simp[cS.operands,hp]);simp only[step,h1,h2]
 |qs x lo hi=>
  have h0:=h x (by simp[cS.operands]);have h1:∀d,e5 ai d lo=e5 hM d lo:=fun d=>ED fun y hy=>h y (by simp only[cS.operands,dL,kS];exact .inr (.inl hy));have h2:∀d,e5 ai d hi=e5 hM d hi:=fun d=>ED fun y hy=>h y (by simp only[cS.operands,dL,kS];exact .inr (.inr hy));simp only[step,h0,h1,h2]
 |tC es x lo hi mx=>
  have h0:=h x (by simp[cS.operands]);have h1:∀d,e5 ai d lo=e5 hM d lo:=fun d=>ED fun y hy=>h y (by simp only[cS.operands,dL,kS];exact .inr (.inl (.inl hy)));have h2:∀d,e5 ai d hi=e5 hM d hi:=fun d=>ED fun y hy=>h y (by simp only[cS.operands,dL,kS];exact .inr (.inl (.inr hy)));have av:∀d,e5 ai d mx=e5 hM d mx:=fun d=>ED fun y hy=>h y (by simp only[cS.operands,dL,kS];exact .inr (.inr hy));cases mx with
  |none=>simp only[step,h0,h1,h2,av]
  |some m=>
   have bc:=h m (by simp[cS.operands]);simp only[step,h0,h1,h2,av,bc]
 |call raw f args=>rfl
 |fail=>rfl
 |alloc z=>rfl
 |mkMap=>rfl
 | _=>simp only[step];simp only[cS.operands,dL,ys,or_false,forall_eq_or_imp,forall_eq]at h;simp only[h]
theorem yY{call:c1}{op:cS}(h:∀raw f args,op≠ .call raw f args):cf call ai H low op=step ai H low op:=by
 cases op<;>first|rfl|exact absurd rfl (h _ _ _)
theorem ain{call:c1}{ai hM:aj->V}{op:cS}(h:∀x∈op.operands,ai x=hM x):cf call ai H low op=cf call hM H low op:=by
 cases op with
 |call raw f args=>
  have h0:=h f (by simp[cS.operands]);have h1:args.map ai=args.map hM:=qn fun p hp=>h _ (by simp[cS.operands,hp]);cases raw<;>simp only[cf,h0,h1]
 | _=>rw[yY (by simp),yY (by simp)];exact aim h
def my (call:c1):Prop:=∀(f:V) (args:List V) (H:Heap) (v:V) (H':Heap) (low':Nat),call f args H=some (v,H',low')->Fr H H.length H' low'
theorem yZ{call:c1}{op:cS}(hc:my call)(hl:low<=H.length)(he:cf call ai H low op=some (v,H',low')):Fr H low H' low':=by
 cases op with
 |call raw f args=>
  cases raw
  ·simp only[cf]at he
   split at he
   ·rename_i vs H1 bS h1
    have ae:=Jf h1;split at he
    ·rename_i u H2 l h2
     have ah:=hc _ _ _ _ _ _ h2;split at he
     ·cases he;exact .refl _ _
     ·cases he;exact ae.1.trans (ah.lift _)
    ·cases he
   ·cases he
  ·simp only[cf]at he
   split at he
   ·rename_i u H2 l h2
    cases he;exact(hc _ _ _ _ _ _ h2).lift _
   ·cases he
 | _=>rw[yY (by simp)]at he;exact ail hl he
theorem kE (st:au)(d:Option (Nat × Bool))(v:V):(st.put d v).H=st.H/\(st.put d v).low=st.low/\(st.put d v).ro=st.ro:=by
 rcases d with _|⟨t,b⟩
 ·exact⟨rfl,rfl,rfl⟩
 ·cases b<;>exact⟨rfl,rfl,rfl⟩
def gG (st aX:au):Prop:=Fr st.H st.low aX.H aX.low/\aX.ro=st.ro
theorem gG.refl (st:au):gG st st:=⟨.refl _ _,rfl⟩
theorem gG.trans{a b c:au}(h:gG a b)(k:gG b c):gG a c:=⟨h.1.trans k.1,k.2.trans h.2⟩
theorem gG.bound{a b:au}(h:gG a b)(hl:a.low<=a.H.length):b.low<=b.H.length:=by
 have:=h.1.low;have:=h.1.len;omega
theorem o2{call:c1}(hc:my call):∀(ops:List bP) (st aX:au) (wr fD:List Bool),st.low<=st.H.length->c5 call ops st wr=some (aX,fD)->gG st aX
 |[],st,aX,wr,fD,_,he=>by
  simp only[c5,aA,bC]at he;obtain⟨rfl,-⟩:=he;exact .refl _
 |o::r,st,aX,wr,fD,hl,he=>by
  simp only[c5]at he;split at he
  ·split at he
   ·rename_i v H' low' h
    have ae:=yZ hc (aM _) h;have hp:=kE {st with H:=H',low:=min st.low low'} o.dst v;have h1:gG st ({st with H:=H',low:=min st.low low'}.put o.dst v):=⟨by rw[hp.1,hp.2.1];exact ae.lift _,hp.2.2⟩;exact h1.trans (o2 hc r _ _ _ _ (h1.bound hl) he)
   ·cases he
  ·have hp:=kE st o.dst (.bd [])
   have h1:gG st (st.put o.dst (.bd [])):=⟨by rw[hp.1,hp.2.1];exact .refl _ _,hp.2.2⟩;exact h1.trans (o2 hc r _ _ _ _ (h1.bound hl) he)
  ·cases he
theorem VG{f:au->Option (X × au)}(ae:∀st x aX,st.low<=st.H.length->f st=some (x,aX)->gG st aX):∀(n:Nat) (st:au) (x:X) (aX:au),st.low<=st.H.length->iter f n st=some (x,aX)->gG st aX
 |0,_,_,_,_,he=>by cases he
 |n+1,st,x,aX,hl,he=>by
  simp only[iter]at he;split at he
  ·rename_i cm h1
   have a:=ae _ _ _ hl h1;exact a.trans (VG ae n _ _ _ (a.bound hl) he)
  ·exact ae _ _ _ hl he
theorem mz{call:c1}(hc:my call)(n:Nat):∀(c:b8) (st:au) (x:X) (aX:au),st.low<=st.H.length->exec call n c st=some (x,aX)->gG st aX
 | .skip,st,x,aX,hl,he=>by simp only[exec,aA,bC]at he;obtain⟨-,rfl⟩:=he;exact .refl _
 | .region ops eh,st,x,aX,hl,he=>by
   simp only[exec,au.fT]at he;split at he
   ·rename_i cm wr h1
    have a:gG {st with aG:=[]} cm:=o2 hc _ _ _ _ _ hl h1;have bl:gG st cm:=a
    repeat' split at he
    all_goals first
     |(cases he;exact bl)
     |cases he
   ·cases he
 | .yA ops ok f,st,x,aX,hl,he=>by
   simp only[exec,au.fT]at he;split at he
   ·rename_i cm wr h1
    have a:gG {st with aG:=[]} cm:=o2 hc _ _ _ _ _ hl h1;have bl:gG st cm:=a;split at he
    ·cases he;exact bl
    ·cases he
   ·cases he
 | .seq a b,st,x,aX,hl,he=>by
   simp only[exec,au.fT]at he;split at he
   ·rename_i cm h1
    have k:=mz hc n a _ _ _ hl h1;exact k.trans (mz hc n b _ _ _ (k.bound hl) he)
   ·exact mz hc n a _ _ _ hl he
 | .cond c t e,st,x,aX,hl,he=>by
   simp only[exec,au.fT]at he;split at he
   ·exact mz hc n t _ _ _ hl he
   ·exact mz hc n e _ _ _ hl he
   ·cases he
 | .block id c,st,x,aX,hl,he=>by
   simp only[exec,au.fT]at he;split at he
   ·rename_i cm h1
    have k:=mz hc n c _ _ _ hl h1;split at he<;>(cases he;exact k)
   ·exact mz hc n c _ _ _ hl he
 | .loop c,st,x,aX,hl,he=>by
   simp only[exec,au.fT]at he;exact VG (fun st x aX h1 h2=>mz hc n c st x aX h1 h2) n _ _ _ hl he
 | .rangeFunc f ps a b,st,x,aX,hl,he=>by
   simp only[exec,au.fT]at he;split at he
   ·cases he
   ·split at he
    ·rename_i u H1 bS h1
     have k:=hc _ _ _ _ _ _ h1;split at he
     ·split at he
      ·cases he
      ·cases he
       refine⟨⟨?_,jK _ _,fun l h=> ?_⟩,rfl⟩
       ·have:=k.len;simp at this⊢; omega
       ·simp only at h⊢
        rw[lG (by omega),k.same l (by omega),gM (by omega)]
     ·cases he
    ·cases he
 | .exit id,st,x,aX,hl,he=>by simp only[exec,aA,bC]at he;obtain⟨-,rfl⟩:=he;exact .refl _
 | .ret,st,x,aX,hl,he=>by simp only[exec,aA,bC]at he;obtain⟨-,rfl⟩:=he;exact .refl _
 | .fail,st,x,aX,hl,he=>by simp[exec]at he
theorem Jg{fresh:Bool}{H0:Heap}(h:Fr H0 H0.length H low)(he:finish fresh H0 v H low=some (v',H',low')):Fr H0 H0.length H' low':=by
 unfold finish at he;split at he
 ·split at he
  ·split at he
   ·cases he;exact .push (aM _) _
   ·split at he
    ·cases he;exact h
    ·cases he
  ·cases he
 ·split at he
  ·rename_i h1
   split at he
   ·cases he;exact .refl _ _
   ·cases he;exact h.trans (B1 h1).1
  ·cases he
theorem aio{ex:b8->au->Option (X × au)}(hx:∀c st x aX,st.low<=st.H.length->ex c st=some (x,aX)->gG st aX){f:hh}{args:List V}
  (he:gu ex f args H=some (v,H',low')):Fr H H.length H' low':=by
 unfold gu at he;split at he
 ·split at he
  ·rename_i st h1
   have k:=(hx _ _ _ _ (aM _) h1).1;split at he
   ·exact Jg k he
   ·exact Jg k he
   ·cases he
  ·rename_i st h1
   have k:=(hx _ _ _ _ (aM _) h1).1;split at he
   ·exact Jg k he
   ·exact Jg k he
   ·cases he
  ·cases he
 ·cases he
theorem aip{ex:b8->au->Option (X × au)}(hx:∀c st x aX,st.low<=st.H.length->ex c st=some (x,aX)->gG st aX){l:Nat}{args:List V}
  (he:pI ex l args H=some (v,H',low')):Fr H H.length H' low':=by
 unfold pI at he;split at he
 ·split at he
  ·split at he
   ·rename_i st h1
    have k:=(hx _ _ _ _ (aM _) h1).1;split at he
    ·split at he
     ·rename_i x gP h2
      have dN:=(hx _ _ _ _ (by have q:=k.low;have q':=k.len;simp only[yt]at q q'⊢; omega) h2).1;split at he
      ·cases he
       exact(k.trans (.set _ _)).trans (dN.trans (.set _ _))
      ·cases he
     ·cases he
    ·cases he
   ·cases he
  ·cases he
 ·cases he
theorem VH:∀(l:List (Nat × cD)) (H:Heap) (low:Nat),Fr H low (T0 H l) (T1 low l)
 |[],H,low=>.refl _ _
 |p::r,H,low=>(Fr.set p.1 p.2).trans (VH r _ _)
theorem aiq{spec:Ik}{args:List V}(he:Il spec args H=some (v,H',low')):Fr H H.length H' low':=by
 obtain⟨r,-,he⟩:=cG.1 he;cases he;have h:=VH r.2.1 H H.length;refine h.trans ⟨by simp,aM _,fun l hl=> ?_⟩;rw[gM];have:=h.low;have:=h.len;omega
theorem Jh (ad:Nat->Option cb):∀(n:Nat),my (bm ad n)
 |0=>fun f args H v H' low' he=>by simp[bm]at he
 |n+1=>fun f args H v H' low' he=>by
  have hx:=fun c st x aX (h1:st.low<=st.H.length) h2=>mz (Jh ad n) n c st x aX h1 h2;simp only[bm,qx]at he;split at he
  ·split at he
   ·exact aio hx he
   ·split at he
    ·obtain⟨u,-,he⟩:=cG.1 he
     cases he;exact .refl _ _
    ·cases he
   ·exact aiq he
   ·cases he
  ·exact aip hx he
  ·cases he
end Go.Abs
namespace Go.Abs
open Go
variable{C:Ctx}{fid:Nat->Nat}{w w':World}{G G':cc}{H H':Heap}
def eJ (ro:Option Nat):Fence:={fn:=fun _=>True,depth:=none,alive:=false,round:=ro}
def lq (C:Ctx)(fid:Nat->Nat)(G:cc)(H:Heap)(w:World)(v:V)(H':Heap)(low':Nat)(x:Value)(w':World):Prop:=
 ∃G',bf C fid G' H' w'/\(∀m,m<=low'->Ext G w G' w' m H.length)/\bq fid G' w' v x
def rI (P:Program)(R:Value->World->Prop):Result Next->Prop
 | .ok (.value x) w'=>R x w'
 | .ok .skip w'=>R undef w'
 | .ok (.enter f args) w'=>Calls P f args w' (fun e gv=>∃x,e=.returned x/\R x gv)
 | .ok (.row row args) w'=>Rows P row args w' R
 | .ok (.round l f tmps aU c2) w'=>RoundIn Fence.wide 0 P l f tmps aU c2 w' (fun e gv=>∃x,e=.returned x/\R x gv)
 | _=>False
theorem rI.mono{P:Program}{R oh:Value->World->Prop}(h:∀x w,R x w->oh x w):∀{r:Result Next},rI P R r->rI P oh r
 | .ok (.value x) w',k=>h _ _ k
 | .ok .skip w',k=>h _ _ k
 | .ok (.enter f args) w',k=>DN k fun e gv=>fun⟨x,ag,e2⟩=>⟨x,ag,h _ _ e2⟩
 | .ok (.row row args) w',k=>Rows.mono k h
 | .ok (.round l f tmps aU c2) w',k=>RoundIn.mono k fun e gv=>fun⟨x,ag,e2⟩=>⟨x,ag,h _ _ e2⟩
 | .ok (.defer _) _,k| .ok .recover _,k| .ok (.spawn _) _,k| .ok (.comm ..) _,k| .ok .numGoroutine _,k| .ok .collect _,k| .ok (.watch _) _,k| .ok (.newcoro ..) _,k| .ok (.coroswitch ..) _,k
 | .ok (.sleep _) _,k| .ok (.timer _) _,k| .ok (.alone ..) _,k| .ok (.callThen ..) _,k| .ok (.stack ..) _,k| .halt ..,k=>k.elim
theorem OD{P:Program}{R:Value->World->Prop}{ro:Option Nat}{o:Oper}{a:Act}{next:Act->World->Prop}{Q:Exit->Act->World->Prop}(hn:∀x w,R x w->next (a.put o.dst x) w):
  ∀{r:Result Next},rI P R r->o.uponIn (eJ ro) 0 P a next Q r
 | .ok (.value x) w',k=>hn _ _ k
 | .ok .skip w',k=>hn _ _ k
 | .ok (.enter f args) w',k=>by
   have ct:CallsIn Fence.wide 0 P f args w' fun
    | .returned v,gv=>next (a.put o.dst v) gv
    | .panicked chain,gv=>Q (.panic chain) a gv
    | .outgrown,_=>LetsOut Q:=callsIn_wide.2 (DN k fun e gv=>by rintro⟨x,rfl,e2⟩;exact hn _ _ e2)
   exact⟨fun h=>by simp[eJ]at h,ct⟩
 | .ok (.row row args) w',k=>by
   refine⟨fun h=>by simp[eJ]at h,fun c cs _=> ?_⟩;obtain⟨v,bG,h1,h2⟩:=k c cs;exact⟨v,bG,hn _ _ h1,(stepsIn_wide.2 h2:StepsIn (Machine.fenced P Fence.wide) P _ _)⟩
 | .ok (.round l f tmps aU c2) w',k=>by
   have ct:RoundIn Fence.wide 0 P l f tmps aU c2 w' fun
    | .returned v,gv=>next (a.put o.dst v) gv
    | .panicked chain,gv=>Q (.panic chain) a gv
    | .outgrown,_=>LetsOut Q:=RoundIn.mono k fun e gv=>by rintro⟨x,rfl,e2⟩;exact hn _ _ e2
   exact⟨fun h=>by simp[eJ]at h,ct⟩
 | .ok (.defer _) _,k| .ok .recover _,k| .ok (.spawn _) _,k| .ok (.comm ..) _,k| .ok .numGoroutine _,k| .ok .collect _,k| .ok (.watch _) _,k| .ok (.newcoro ..) _,k| .ok (.coroswitch ..) _,k
 | .ok (.sleep _) _,k| .ok (.timer _) _,k| .ok (.alone ..) _,k| .ok (.callThen ..) _,k| .ok (.stack ..) _,k| .halt ..,k=>k.elim
structure hB (C:Ctx) (fid:Nat->Nat) (call:c1):Prop where
 b2:my call
 run:∀{G:cc} {H:Heap} {w:World} {f:V} {args:List V} {v:V} {H':Heap} {low':Nat} {OE:Value} {xs:List Value},bf C fid G H w->bq fid G w f OE->bk fid G w args xs->
  call f args H=some (v,H',low')->∃d,(Deferred.ofValue OE ⟨xs⟩).run C.P w=.ok d w/\rI C.P (lq C fid G H w v H' low') ((invoke d.target d.args).run C.P w)/\
   (Bo f=true->cx args=false->∃g aU,(invoke d.target d.args).run C.P w=.ok (.enter g aU) w)
theorem bf.restore (aa:bf C fid G H w)(hs:w.heap.size<=w'.heap.size)(ah:∀b,b<w.heap.size->w'.heap[b]? =w.heap[b]?):bf C fid G H w' where
 obj l h e:=by
  obtain⟨o,ho,hr⟩:=aa.obj l h e;exact⟨o,ho,hr.mono (.refl _) (fun b hb=>⟨hb,ah b (aa.dd b hb).1⟩) (ah _ (aa.blk l h e))⟩
 inj:=aa.inj
 blk l h e:=rj (aa.blk l h e) hs
 dd b hb:=⟨rj (aa.dd b hb).1 hs,(aa.dd b hb).2⟩
 kX:=aa.kX
 fG b o bx:=⟨(aa.fG b o bx).1,by rw[ah b (aa.dd b (aa.fG b o bx).1).1];exact(aa.fG b o bx).2⟩
theorem Ext.restore (hs:w.heap.size<=w'.heap.size)(ah:∀b,b<w.heap.size->w'.heap[b]? =w.heap[b]?)(h1:w'.os=w.os)(av:w'.output=w.output)(m n:Nat):Ext G w G w' m n:=
 ⟨hs,h1,av,fun b hb _=>ah b hb,.refl _,fun _ h hb=>.inl ⟨h,hb,.inl rfl⟩,fun _ h=>h,fun _ h=>.inl h⟩
theorem Ext.VI{m n:Nat}(aa:bf C fid G H w)(h:Ext G w G' w' m n)(hm:H.length<=m):∀b,b<w.heap.size->w'.heap[b]? =w.heap[b]? :=fun b hb=>
 h.ey b hb fun l x e _=>.inr (rj (aa.lt e) hm)
theorem VJ{o:Oper}{ρ:Operand->Value}{f:Operand}{args:Array Operand}{ts:Array TypeId}(ho:o.op=.call {callee:=.value f,args,argTypes:=ts}){P:Program}{w:World}{d:Deferred}
  (hd:(Deferred.ofValue (ρ f) (args.map ρ)).run P w=.ok d w):(execOp ρ o).run P w=(invoke d.target d.args).run P w:=by
 unfold execOp;simp only[ho,resolve,Sem.run_bind,hd,Result.andThen]
section
variable{vars:List Nat}{ai:aj->V}{ρ:Operand->Value}{low low':Nat}{v:V}{o:Oper}{call:c1}
theorem OG (bF:fp C fid)(bn:hB C fid call)(aa:bf C fid G H w)(aR:fC C fid vars G w ai ρ)(jq:low<=H.length)
  (he:cf call ai H low (C.op vars o.pos o.op)=some (v,H',low')):rI C.P (lq C fid G H w v H' low') ((execOp ρ o).run C.P w):=by
 have air:(∀raw f args,C.op vars o.pos o.op≠ .call raw f args)->rI C.P (lq C fid G H w v H' low') ((execOp ρ o).run C.P w):=fun bu=>by
  rw[yY bu]at he;obtain⟨x,aE,az,hr,h1,h2,av,-,-⟩:=aij bF aa aR jq he;rcases hr with hr|⟨hr,rfl⟩
  ·rw[hr];exact⟨az,h1,h2,av⟩
  ·rw[hr];exact⟨az,h1,h2,av⟩
 by_cases bu:∃raw f args,C.op vars o.pos o.op=.call raw f args
 ·obtain⟨raw,mh,OH,c9⟩:=bu
  have cK:C.cY vars o.pos o.op=some (.call raw mh OH):=by
   unfold Ctx.op at c9;cases h:C.cY vars o.pos o.op with
   |none=>rw[h]at c9;cases c9
   |some a=>rw[h]at c9;simp only[w8]at c9;rw[c9]
  obtain⟨f,args,ts,ho,ae,vv⟩:∃f args ts,o.op=.call {callee:=.value f,args,argTypes:=ts}/\C.ch vars f=some mh/\ee (C.ch vars) args.toList=some OH:=by
   cases ho:o.op with
   |call c=>
    rw[ho]at cK;obtain⟨callee,args,ec⟩:=c;cases callee with
    |value f=>
     simp only[Ctx.cY]at cK;split at cK
     ·rename_i h1 h2
      simp only[aA,cS.call.injEq]at cK;obtain⟨-,rfl,rfl⟩:=cK;exact⟨f,args,ec,rfl,h1,h2⟩
     ·cases cK
    |builtin b=>
     exfalso;simp only[Ctx.cY]at cK;unfold Ctx.builtin at cK
     repeat' split at cK
     all_goals first
      |(cases cK;done)
      |(simp only[aA,reduceCtorEq]at cK;done)
      |(obtain⟨_,_,h⟩:=cG.1 cK;cases h;done)
    |invoke r n=>simp[Ctx.cY]at cK
   |binOp a b c d e=>
    exfalso;rw[ho]at cK;simp only[Ctx.cY,Ctx.yC]at cK
    repeat' split at cK
    all_goals first
     |(cases cK;done)
     |(obtain⟨_,_,h⟩:=cG.1 cK;cases h;done)
   |makeFunc g a b=>
    exfalso;rw[ho]at cK;cases g with
    |func f=>
     simp only[Ctx.cY]at cK;split at cK<;>simp at cK
    | _=>simp[Ctx.cY]at cK
   |makeMap t r=>
    exfalso;rw[ho]at cK;cases r<;>simp[Ctx.cY]at cK
   | _=>
     exfalso;rw[ho]at cK;simp only[Ctx.cY]at cK
     repeat' split at cK
     all_goals first
      |(cases cK;done)
      |(obtain⟨_,_,h⟩:=cG.1 cK;cases h;done)
  have y0:=aR f mh ae;have nB:bk fid G w (OH.map ai) (args.map ρ).toList:=by rw[Array.toList_map];exact I0 aR vv
  rw[c9]at he;have sA:(⟨(args.map ρ).toList⟩:Array Value)=args.map ρ:=rfl;cases raw with
  |true=>
   simp only[cf]at he;split at he
   ·rename_i u H2 l h1
    cases he;obtain⟨d,hd,hn,-⟩:=bn.run aa y0 nB h1;rw[sA]at hd;rw[VJ ho hd];refine hn.mono fun x bG hp=> ?_;obtain⟨bD,p1,p2,p3⟩:=hp;exact⟨bD,p1,fun m hm=>p2 m (by omega),p3⟩
   ·cases he
  |false=>
   simp only[cf]at he;split at he
   ·rename_i vs H1 bS aI
    obtain⟨az,ej,rF⟩:=NV aa nB aI;have OI:=y0.ext aa (ej.ext 0 (by omega));split at he
    ·rename_i u H2 l h1
     obtain⟨d,hd,hn,-⟩:=bn.run ej.rel OI rF h1;rw[sA]at hd;rw[VJ ho hd];refine hn.mono fun x bG hp=> ?_;obtain⟨bD,p1,p2,p3⟩:=hp;split at he
     ·rename_i hc
      cases he;have dw:=p2 H1.length hc.2;have ah:=dw.VI ej.rel (aM _);exact⟨G,aa.restore dw.size ah,fun m _=>.restore dw.size ah dw.os dw.output m _,p3.flat hc.1⟩
     ·cases he
      exact⟨bD,p1,fun m hm=>(ej.ext m (by omega)).trans ((p2 m (by omega)).le (aM _) (Nat.le_of_eq ej.len.symm)),p3⟩
    ·cases he
   ·cases he
 ·exact air fun raw f args h=>bu ⟨raw,f,args,h⟩
end
end Go.Abs
