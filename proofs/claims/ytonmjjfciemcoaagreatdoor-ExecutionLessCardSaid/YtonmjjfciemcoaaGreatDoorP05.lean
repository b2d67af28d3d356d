/- Texts of this claim, joined and written short by a program. -/
import Derived.Test.YtonmjjfciemcoaaGreatDoorP04
import Derived.Laws.BytesString
import Derived.Test.YtonmjjfciemcoaaGreatDoorP00
import Derived.RangeFuncRecord
import Derived.OrdersIn
set_option linter.unusedVariables false
set_option linter.unusedSimpArgs false
set_option linter.unusedSectionVars false
namespace Go.Abs
open Go
variable{C:Ctx}{fid:Nat->Nat}{w w':World}{G G':bX}{H:Heap}
variable{vars:List Nat}{ah:aj->V}{ρ:Operand->Value}{low low':Nat}{v:V}{H':Heap}{pos:String}{dm:cV}{o:Oper}
theorem X7:∀{ds:List V} {s:List UInt8} {vals:List Value},bytesOf ds=some s->a6 fid G w (ds.flatMap aC) vals->∃nS:List Int,vals=nS.map (Value.int .u8)/\s=nS.map fun n=>UInt8.ofNat n.toNat
 |[],s,vals,h,hr=>by
  simp only[bytesOf,aB]at h;subst h;cases hr;exact⟨[],rfl,rfl⟩
 |d::ds,s,vals,h,hr=>by
  unfold bytesOf at h;split at h
  ·rename_i q;cases q
  ·rename_i n r q
   cases q;obtain⟨t,ht,rfl⟩:=cA.1 h;simp only[im,aC,mi,jN]at hr;cases hr with
   |cons _ x _ xs hx hs=>
    obtain⟨nS,rfl,rfl⟩:=X7 ht hs;exact⟨n::nS,by rw[hx.iW];rfl,rfl⟩
  ·cases h
theorem X8:∀(nS:List Int) (b:ByteArray),nS.foldl (fun r n=>r.push (UInt8.ofNat n.toNat)) b=⟨(b.data.toList++nS.map fun n=>UInt8.ofNat n.toNat).toArray⟩
 |[],b=>by simp
 |n::nS,b=>by
  simp only[p6,X8 nS,dv];congr 1;simp[ByteArray.push]
theorem al2 (ab:a8 C fid G H w)(aP:fB C fid vars G w ah ρ){s d:TypeId}{x:Operand}(ho:o.op=.convert s d x){cO:aj}(hc:C.cX vars pos o.op=some (.vT cO))(he:step ah H low (.vT cO)=some (v,H',low')):
  db C fid G H w low ((execOp ρ o).run C.P w) v H' low':=by
 rw[ho]at hc;simp only[Ctx.cX]at hc;split at hc
 ·cases hc
 ·rename_i e al3 h1 h2 ar
  split at hc
  ·rename_i aS
   simp only[aB,cV.vT.injEq]at hc;subst hc;have ad:=aP x al3 ar;simp only[step]at he;split at he
   ·rename_i ds hd
    obtain⟨t,ht,he⟩:=cA.1 he;simp only[bx]at he;obtain⟨rfl,rfl,rfl⟩:=he;obtain⟨c8,cap,hx,bf⟩:=Gc ab ad hd
    have cm:(convert s d (ρ x)).run C.P w=.ok (.string ⟨t.toArray⟩) w:=by
     rw[hx,run_convert_bytes_string w s d e c8 ds.length cap h1 aS h2];cases c8 with
     |none=>
      have:ds=[]:=by
       cases sd:ds with
       |nil=>rfl
       |cons a r=>
        obtain⟨b,off,vals,hb,-⟩:=bf (by rw[sd];simp);cases hb
      subst this;simp only[bytesOf,aB]at ht;subst ht;simp[Conv.bytesToString,Sem.run_pure];rfl
     |some a=>
      have key:∃nS:List Int,(loadCells a ds.length).run C.P w=.ok (nS.map (Value.int .u8)).toArray w/\t=nS.map fun n=>UInt8.ofNat n.toNat:=by
       by_cases bg:ds=[]
       ·subst bg
        simp only[bytesOf,aB]at ht;subst ht;exact⟨[],by simp[loadCells,loadCellsFrom,Sem.run_pure],rfl⟩
       ·obtain⟨b,off,vals,hb,fm,ep,hu⟩:=bf bg
        cases hb;obtain⟨nS,rfl,hs⟩:=X7 ht ep;refine⟨nS,?_,hs⟩
        have hl:ds.length=(nS.map (Value.int .u8)).length:=by
         have:=ep.length;rw[nj hu]at this;simpa using this.symm
        rw[hl];exact run_loadCells_list (P:=C.P) w ⟨b,off,none⟩ _ (fun j v hj=>by rw[Addr.add_lit];exact fm j v hj)
      obtain⟨nS,h5,rfl⟩:=key;rw[run_bytesToString w a ds.length cap nS h5,X8];simp
    exact .same ab (x:=.string ⟨t.toArray⟩) (by unfold execOp;rw[ho];simp only[Sem.run_bind,cm];rfl) (by
     have:=bh.p (fid:=fid) (G:=G) (w:=w) (.str t) _ (.str t);exact this)
   ·cases he
  ·cases hc
 ·cases hc
theorem Dm{bY:Nat}{k:V}:∀{bp:List (V × V)},hZ bY k bp=some none->jj bY k bp=bp
 |[],_=>rfl
 |(bF,v)::r,h=>by
  simp only[hZ]at h;split at h
  ·cases h
  ·rename_i he
   simp[jj,he,Dm h]
  ·cases h
theorem PM{k:TypeId}{bY:Nat}{d:TypeDesc}(hk:C.jR k=some bY)(hd:C.P.underlying k=some d){a:V}{x:Value}(ha:bh fid G w a x):∀{bp:List (V × V)} {es:List MapEntry} (i:Nat) {r:V} {j:Nat} {z:Value},
  a6 fid G w (bp.map (·.1)) (es.map (·.key))->a6 fid G w (bp.map (·.2)) (es.map (·.val))->hZ bY a bp=some (some r)->Instr.findNow d x es i=some (some (i+j,z))->
  a6 fid G w ((jj bY a bp).map (·.1)) ((es.eraseIdx j).map (·.key))/\a6 fid G w ((jj bY a bp).map (·.2)) ((es.eraseIdx j).map (·.val))
 |[],[],i,r,j,z,_,_,h,_=>by simp[hZ]at h
 |[],_::_,_,_,_,_,h,_,_,_=>by simp at h;cases h
 | _::_,[],_,_,_,_,h,_,_,_=>by simp at h;cases h
 |(bF,u')::bp,e::es,i,r,j,z,eG,c2,h,ag=>by
  simp only[dv]at eG c2;cases eG with
  |cons _ _ _ _ gG eG=>
   cases c2 with
   |cons _ _ _ _ sk c2=>
    simp only[hZ]at h;split at h
    ·rename_i he
     obtain⟨hs,-⟩:=yn hk hd ha gG he;simp only[Instr.findNow,hs,aB,bx]at ag;obtain rfl:j=0:=by omega
     simp only[jj,he,if_true,aj2];exact⟨eG,c2⟩
    ·rename_i he
     obtain⟨hs,-⟩:=yn hk hd ha gG he;simp only[Instr.findNow,hs]at ag;have iv:=sr hk hd ha (i+1) eG c2 h;obtain⟨wC,oI,h1,-,-⟩:=iv;rw[h1]at ag;simp only[aB,bx]at ag;obtain⟨hj,rfl⟩:=ag;obtain rfl:j=wC+1:=by omega
     have ih:=PM hk hd ha (i+1) eG c2 h h1;have bg:¬(iK bY a bF=some true):=by rw[he];simp
     simp only[jj,bg,if_false,dv,aj3];exact⟨.cons _ _ _ _ gG ih.1,.cons _ _ _ _ sk ih.2⟩
    ·cases h
theorem pd.erase{es:Array MapEntry}{bT:Nat}(h:pd es bT)(j:Nat):pd (es.eraseIdxIfInBounds j) bT:=by
 have hs:(es.eraseIdxIfInBounds j).toList.Sublist es.toList:=by
  rw[ajY];exact List.eraseIdx_sublist _ _
 exact⟨fun x hx=>h.1 x (hs.subset hx),h.2.sublist (hs.map _)⟩
theorem al4 (ab:a8 C fid G H w)(aP:fB C fid vars G w ah ρ){m k:Operand}{t eI tA:TypeId}{u:TypeId}{ts:Array TypeId}(hd:C.P.underlying t=some (.map eI tA))(ht:ts= #[t,u]){am h9:aj}{bY:Nat}(ho:o.op=.call {callee:=.builtin .delete,args:= #[m,k],argTypes:=ts})
  (h1:C.cg vars m=some am) (h2:C.cg vars k=some h9) (gR:C.jR eI=some bY) (he:step ah H low (.zP bY am h9)=some (v,H',low')):db C fid G H w low ((execOp ρ o).run C.P w) v H' low':=by
 subst ht;have hm:=aP m am h1;have hk:=aP k h9 h2;obtain⟨KN,jC⟩:=KM gR
 have cm:(execOp ρ o).run C.P w=((Builtin.delete_ #[t,u] o.type #[ρ m,ρ k]).run C.P w).andThen fun z w'=>.ok (.value z) w':=by
  rw[wq ho];simp only[builtin,Sem.run_bind,Fq,dv,iT];rfl
 simp only[step]at he;split at he
 ·rename_i af
  simp only[aB,bx]at he;obtain⟨rfl,rfl,rfl⟩:=he;rw[af]at hm;have hx:=hm.Po;refine .same ab (x:=.tuple #[]) ?_ (.aU [] [] .nil);rw[cm,hx];unfold Builtin.delete_;simp[run_underlying hd,u9 gR,Sem.run_pure]
 ·rename_i l af
  rw[af]at hm;obtain⟨h0,cy,X6,dN⟩:=hm.mapInv;split at he
  ·rename_i bp hl
   obtain⟨aV,eO,hr⟩:=ab.obj l h0 cy;rw[hl]at eO;cases eO;obtain⟨qs,jX,es,bT,eW,eG,c2,ct⟩:=hr;split at he
   ·rename_i b2 jn
    simp only[aB,bx]at he;obtain⟨rfl,rfl,rfl⟩:=he;have aT:h0.b<w.heap.size:=ab.blk l h0 cy
    have fin:∀(va:Obj) (bN:Array MapEntry),va=.map bN bT->(Builtin.delete_ #[t,u] o.type #[ρ m,ρ k]).run C.P w=.ok (.tuple #[]) {w with heap:=w.heap.setIfInBounds h0.b va}->
      a6 fid G w ((jj bY (ah h9) bp).map (·.1)) (bN.toList.map (·.key))->a6 fid G w ((jj bY (ah h9) bp).map (·.2)) (bN.toList.map (·.val))->pd bN bT->
      db C fid G H w low ((execOp ρ o).run C.P w) (.aU []) (H.set l (.map (jj bY (ah h9) bp))) (min low l):=by
     rintro va bN rfl lF yp Af Ag
     have wD:∀b,b≠h0.b->({w with heap:=w.heap.setIfInBounds h0.b (.map bN bT)}:World).heap[b]? =w.heap[b]? :=fun b bg=>by
      show(w.heap.setIfInBounds h0.b _)[b]? =_;rw[Wl (ly bg)]
     have Dl:({w with heap:=w.heap.setIfInBounds h0.b (.map bN bT)}:World).heap[h0.b]? =some (.map bN bT):=by
      show(w.heap.setIfInBounds h0.b _)[h0.b]? =_;simp[aT]
     have de:({w with heap:=w.heap.setIfInBounds h0.b (.map bN bT)}:World).heap.size=w.heap.size:=by simp
     have dT:Ext G w ⟨cp G.β l h0,G.I⟩ {w with heap:=w.heap.setIfInBounds h0.b (.map bN bT)} l H.length:=
      Ext.write ab cy jX rfl (aH _) id rfl de wD rfl rfl
     refine⟨.tuple #[],_,_,.inl (by rw[cm,lF];rfl),a8.write ab cy jX rfl jX (aH _) id rfl de wD (.map (jj bY (ah h9) bp)) ⟨qs,jX,bN,bT,Dl,yp.ext ab dT,Af.ext ab dT,Ag⟩,
      fun m hm=>dT.le (cY hm (nJ _ _)) (aH _),.aU [] [] .nil,jM _ _,by simp⟩
    cases b2 with
    |none=>
     have ag:=sr gR jC hk 0 eG c2 jn;refine fin _ es rfl ?_ (by rw[Dm jn];exact eG) (by rw[Dm jn];exact c2) ct;unfold Builtin.delete_;simp only[dN];simp[run_underlying hd,yo eW,u9 gR,wB (C:=C) jC ag,Dk _ eW,Sem.run_pure]
    |some r=>
     obtain⟨j,y,ag,-,-⟩:=sr gR jC hk 0 eG c2 jn;obtain⟨s1,s2⟩:=PM gR jC hk 0 eG c2 jn ag;rw[dA]at ag;refine fin _ (es.eraseIdxIfInBounds j) rfl ?_ (by simpa using s1) (by simpa using s2) (ct.erase _);unfold Builtin.delete_;simp only[dN];simp[run_underlying hd,yo eW,u9 gR,wB (C:=C) jC ag,Dk _ eW,Sem.run_pure]
   ·cases he
  ·cases he
 ·cases he
theorem PN{P:Program}{w:World}(s:ByteArray):(Builtin.lenOf (.string s)).run P w=.ok s.size w:=rfl
theorem KP{P:Program}{t u ty e:TypeId}{i:TypeInfo}(hd:P.underlying t=some (.slice e))(hu:P.underlying u=some .string)(hi:P.info? e=some i){base:Option Addr}{sLen sCap n:Nat}{s:ByteArray}{news:List Value}(hn:s.size=n)
  (hx:(Builtin.firstCells i.size n (.string s)).run P w=.ok news.toArray w) (h4:sLen+n<=sCap):
  (Builtin.append_ #[t,u] ty #[.slice base sLen sCap,.string s]).run P w=
    ((match base with|some a=>storeCells (a.add (sLen*i.size)) news|none=>pure ()).run P w).andThen fun _ w'=>.ok (.slice base (sLen+n) sCap) w':=by
 subst hn;cases base with
 |none=>simp[Builtin.append_,run_underlying hd,run_underlying hu,sizeOf,typeInfo,hi,PN,h4,hx]
 |some a=>simp[Builtin.append_,run_underlying hd,run_underlying hu,sizeOf,typeInfo,hi,PN,h4,hx]
theorem KQ{P:Program}{t u ty e:TypeId}{i:TypeInfo}{b8:Value}(hd:P.underlying t=some (.slice e))(hu:P.underlying u=some .string)(hi:P.info? e=some i)(aR:i.zero=some b8)
  {base:Option Addr} {sLen sCap n:Nat} {s:ByteArray} {olds news:List Value} (hn:s.size=n)
  (hx:(Builtin.firstCells i.size n (.string s)).run P w.drew=.ok news.toArray w.drew) (ho:(Builtin.firstCells i.size sLen (.slice base sLen sCap)).run P w.drew=.ok olds.toArray w.drew)
  (h4:sCap<sLen+n) (hb:(sLen+n)*(i.bytes+1)<=1099511627776):
  ∃gx,sLen+n<=gx/\(Builtin.append_ #[t,u] ty #[.slice base sLen sCap,.string s]).run P w=
   .ok (.slice (some ⟨w.heap.size,0,none⟩) (sLen+n) gx) (w.drew.alloc (.cells (olds.toArray++news.toArray++Builtin.zeroCells b8.cells (gx-(sLen+n))) e)):=by
 subst hn;have h1:¬sLen+s.size<=sCap:=by omega
 have hm:(sLen+s.size)*i.bytes+(sLen+s.size)=(sLen+s.size)*(i.bytes+1):=by rw[Nat.mul_succ]
 have h2:¬(((sLen+s.size:Nat):Int)>9223372036854775807):=by omega
 have ar:=growslice_fits (need:=sLen+s.size) (old:=sCap) (bytes:=i.bytes) h4 (by omega);have aS:¬(281474976710656<Builtin.nextslicecap (sLen+s.size) sCap*i.bytes):=by omega
 refine⟨sLen+s.size+(w.tape w.drawn (.appendCap (sLen+s.size) sCap e))%(9223372036854775808-(sLen+s.size)),On _ _,?_⟩;have ym:¬(9223372036854775807<(sLen:Int)+(s.size:Int)):=by omega
 simp[Builtin.append_,run_underlying hd,run_underlying hu,sizeOf,typeInfo,hi,PN,h1,ym,aS,Question.forced,Question.cut,hx,ho,zeroValue,aR,newRow];congr 2;apply Array.ext';simp
theorem Dn{P:Program}{w:World}(size:Nat)(s:List UInt8):(Builtin.firstCells size s.length (.string ⟨⟨s⟩⟩)).run P w=.ok (s.map fun b=>Value.int .u8 b.toNat).toArray w:=by
 have:(ByteArray.extract ⟨⟨s⟩⟩ 0 s.length)=⟨⟨s⟩⟩:=by
  apply ByteArray.ext;simp
 simp[Builtin.firstCells,this,Sem.run_pure]
theorem al5 (ab:a8 C fid G H w)(aP:fB C fid vars G w ah ρ){a b:Operand}{t u e:TypeId}{i:TypeInfo}{b8:Value}{args:Array Operand}{ts:Array TypeId}(ho:o.op=.call {callee:=.builtin .append,args,argTypes:=ts})
  (ha:args= #[a,b]) (ht:ts= #[t,u]) {kp h8:aj} (h1:C.cg vars a=some kp) (h2:C.cg vars b=some h8) (hd:C.P.underlying t=some (.slice e)) (hu:C.P.underlying u=some .string) (hi:C.P.info? e=some i)
  (aR:i.zero=some b8) (jB:b8.cells.size=i.size) (jl:i.size=1) (Gh:i.bytes=1) (he:step ah H low (.Fv kp h8)=some (v,H',low')):db C fid G H w low ((execOp ρ o).run C.P w) v H' low':=by
 subst ha;subst ht;have hx:=aP a kp h1;have hy:=aP b h8 h2;have iV:0<i.size:=by omega
 have Gi:(execOp ρ o).run C.P w=((Builtin.append_ #[t,u] o.type #[ρ a,ρ b]).run C.P w).andThen fun z w'=>.ok (.value z) w':=by
  rw[wq ho];simp only[builtin,Sem.run_bind,Fq,dv,iT];rfl
 simp only[step]at he;split at he
 ·rename_i s PO
  rw[PO]at hy;have cm:=Gi;rw[hy.oG]at cm;have hn:(⟨⟨s⟩⟩:ByteArray).size=s.length:=rfl;split at he
  ·rename_i pt
   have lV:s=[]:=by simpa using pt
   subst lV
   have same:∀base n cap,ρ a=.slice base n cap->n<=cap->(execOp ρ o).run C.P w=.ok (.value (ρ a)) w:=by
    intro base n cap hs hle;rw[cm,hs,KP (P:=C.P) hd hu hi (n:=0) rfl (Dn i.size []) (by simpa using hle)];cases base<;>simp[storeCells]
   split at he
   ·rename_i af
    simp only[aB,bx]at he;obtain⟨rfl,rfl,rfl⟩:=he;rw[af]at hx;exact .same ab (same _ _ _ hx.iZ (aH _)) hx
   ·rename_i af
    simp only[aB,bx]at he;obtain⟨rfl,rfl,rfl⟩:=he;rw[af]at hx;obtain⟨c8,dN⟩:=hx.q5;exact .same ab (same _ _ _ dN (aH _)) hx
   ·rename_i l bN off len tag af
    rw[af]at hx;split at he
    ·rename_i e6 ds fz hl
     split at he
     ·rename_i fX
      simp only[aB,bx]at he;obtain⟨rfl,rfl,rfl⟩:=he;obtain⟨h0,c8,cR,cap,cy,oH,gY,dN⟩:=hx.nk;obtain⟨aV,eO,hr⟩:=ab.obj l h0 cy;rw[hl]at eO;cases eO;obtain⟨rfl,rfl,-,np⟩:=gY (hr.1.trans fX);exact .same ab (same _ _ _ dN np) hx
     ·cases he
    ·cases he
   ·cases he
  ·rename_i pt
   have lV:s≠[]:=by simpa using pt
   generalize eN:(s.map fun c=>V.int .u8 c.toNat)=fb at he;generalize c2:(s.map fun c=>Value.int .u8 c.toNat)=vals;obtain⟨xs,cb⟩:∃xs:List V,fb.length=xs.length:=⟨fb,rfl⟩;have ec:s.length=xs.length:=by rw[<-cb,<-eN,eL]
   have bg:0<fb.length:=by rw[<-eN,eL];exact JU.2 lV
   have bQ:a6 fid G w (fb.flatMap aC) vals:=by
    subst eN;subst c2;clear lV pt ec bg cb he PO hy cm hn
    induction s with
    |nil=>exact .nil
    |cons c s ih=>exact .cons _ _ _ _ (.p _ _ (.int _ _)) ih
   have jV:∀d∈fb,(aC d).length=i.size:=by
    intro d hd;rw[<-eN]at hd;obtain⟨c,-,rfl⟩:=dZ.1 hd;rw[jl];rfl
   have bc:bL (fb.flatMap aC)=true:=by
    subst eN
    have key:∀q:List UInt8,bL ((q.map fun c=>V.int .u8 c.toNat).flatMap aC)=true:=fun q=>by
     induction q with
     |nil=>rfl
     |cons c s ih=>exact(b6 _ _).mpr ⟨rfl,ih⟩
    exact key s
   have tz:∀gu:World,gu.heap=w.heap->(Builtin.firstCells i.size xs.length (.string ⟨⟨s⟩⟩)).run C.P gu=.ok vals.toArray gu:=fun gu _=>by
    rw[<-ec,<-c2];exact Dn i.size s
   have oM:(⟨⟨s⟩⟩:ByteArray).size=xs.length:=hn.trans ec;have PQ:i.bytes+1=2:=by omega
   rw[<-jl]at he;have Ge:=X1 bQ bc;have lB:vals.length=xs.length*i.size:=by rw[bQ.length,nj jV,cb]
   have fresh:∀base,ρ a=.slice base 0 0->fb.length*(i.bytes+1)<=1099511627776->db C fid G H w low ((execOp ρ o).run C.P w) (.bJ H.length i.size 0 fb.length fb.length) (H++[.row i.size fb false]) low:=by
    intro base hs hb
    have hold:(Builtin.firstCells i.size 0 (.slice base 0 0)).run C.P w.drew=.ok ([]:List Value).toArray w.drew:=by
     cases base<;>simp[Builtin.firstCells,loadCells,loadCellsFrom]
    obtain⟨gx,ea,lF⟩:=KQ (P:=C.P) (t:=t) (u:=u) (ty:=o.type) hd hu hi aR oM (tz w.drew rfl) hold (by omega) (by rw[dA,<-cb];exact hb);rw[dA,<-cb]at lF ea;refine db.newRow ab (cap:=gx) (e:=e) iV bg jV (vals:=vals) (rest:=(Builtin.zeroCells b8.cells (gx-fb.length)).toList) ?_ bQ ?_ ea (by rw[cm,hs,lF];rfl)
    ·simp
    ·simp only[zC,ta,nL,dA,Dh,lB,jB,<-cb,<-p7]
     rw[Nat.add_sub_cancel' ea];exact aH _
   split at he
   ·rename_i af
    split at he
    ·rename_i hb
     simp only[aB,bx]at he;obtain⟨rfl,rfl,rfl⟩:=he;rw[af]at hx;exact fresh _ hx.iZ (by rw[PQ];exact hb)
    ·cases he
   ·rename_i af
    split at he
    ·rename_i hb
     simp only[aB,bx]at he;obtain⟨rfl,rfl,rfl⟩:=he;rw[af]at hx;obtain⟨c8,dN⟩:=hx.q5;exact fresh _ dN (by rw[PQ];exact hb)
    ·cases he
   ·rename_i l bN off len tag af
    rw[af]at hx;split at he
    ·rename_i e6 ds hl
     split at he
     ·rename_i et
      obtain⟨rfl,rfl,fX,rfl,rfl,hb⟩:=et;simp only[aB,bx]at he;obtain⟨rfl,rfl,rfl⟩:=he;obtain⟨h0,c8,cR,cap,cy,oH,gY,dN⟩:=hx.nk;obtain⟨aV,eO,hr⟩:=ab.obj l h0 cy;rw[hl]at eO;cases eO;obtain⟨nr,wy,hfz,eo,iY,c,wz,k6,rest,hc,eV,gv,ep⟩:=hr;obtain⟨rfl,rfl,lU,np⟩:=gY (nr.trans fX);rw[vS]at dN;rw[dA]at lU;have lA:ds.length=cR:=fX;have si:k6.length=cR*i.size:=by rw[ep.length,nj iY,lA]
      have fm:c.size=k6.length+rest.length:=by rw[<-fw,gv,eZ]
      have sq:∀d∈ds++fb,(aC d).length=i.size:=fun d hd=>by
       rcases iq.1 hd with q|q
       ·exact iY d q
       ·exact jV d q
      have Gf:a6 fid G w ((ds++fb).flatMap aC) (k6++vals):=by rw[zA];exact ep.append bQ
      by_cases h4:cR+xs.length<=cap
      ·
       have hmul:(cR+xs.length)*i.size<=c.size:=cY (x4 _ h4) (by rw[<-eV];exact lU);rw[p7]at hmul;have ct:=run_storeCells_at C.P h0.b (cR*i.size) wz vals 0 c w hc (by omega) Ge
       have hval:(execOp ρ o).run C.P w=.ok (.value (.slice (some ⟨h0.b,0,none⟩) (cR+xs.length) cap)) (w.setRow h0.b (c.toList.take (cR*i.size)++vals++c.toList.drop (cR*i.size+vals.length)).toArray):=by
        rw[cm,dN,KP (P:=C.P) hd hu hi oM (tz w rfl) h4];simp only[Addr.add_lit,dA];simp only[x9]at ct;rw[ct];rfl
       have dT:Ext G w ⟨cp G.β l {h0 with tag:=cR+fb.length},G.I⟩ (w.setRow h0.b (c.toList.take (cR*i.size)++vals++c.toList.drop (cR*i.size+vals.length)).toArray) l H.length:=
        Ext.write ab cy hfz rfl (by simp only;omega) (fun q=>by omega) rfl (setRow_size _ _) (fun b bg=>setRow_other bg _) rfl rfl
       refine⟨_,_,_,.inl hval,a8.write ab cy hfz (h':={h0 with tag:=cR+fb.length}) rfl hfz (by simp only;omega) (fun q=>by omega) rfl (setRow_size _ _) (fun b bg=>setRow_other bg _) (.row i.size (ds++fb) false) ?_,
        fun m hm=>dT.le (cY hm (nJ _ _)) (aH _),?_,jM _ _,by simp⟩
       ·refine⟨by simp[lA],by simp;omega,hfz,eo,sq,_,wz,k6++vals,rest.drop vals.length,setRow_heap w h0.b c _ wz _ hc,?_,?_,Gf.ext ab dT⟩
        ·show h0.fA=_
         rw[eV];simp only[ta,eZ,nc,nK,fw];omega
        ·rw[CF,gv,<-si,List.take_left,Oo,kA,kA]
         congr 2;rw[Od (by omega),jN];congr 1;omega
       ·rw[<-cb]
        exact .bJ l i.size 0 _ _ {h0 with tag:=cR+fb.length} _ _ _ (dr _ _ _) (aH _) (fun _=>⟨by simp,rfl,by rw[dA];exact lU,by omega⟩)
      ·
       have hold:(Builtin.firstCells i.size cR (.slice (some ⟨h0.b,0,none⟩) cR cap)).run C.P w.drew=.ok k6.toArray w.drew:=
        Gd (iL.vZ (w:=w.drew) hc gv) si
       obtain⟨gx,ea,lF⟩:=KQ (P:=C.P) (t:=t) (u:=u) (ty:=o.type) hd hu hi aR oM (tz w.drew rfl) hold (by omega) (by rw[<-cb,PQ];exact hb);have wA:a8 C fid G H w.drew:=ab.jT rfl;have c5:∀m n,Ext G w G w.drew m n:=fun m n=>Ext.jT (w:=w) (w':=w.drew) rfl rfl rfl m n
       obtain⟨bB,ca⟩:=a8.move wA cy hfz (.cells (k6.toArray++vals.toArray++Builtin.zeroCells b8.cells (gx-(cR+xs.length))) e) (cR+fb.length)
        (k6.toArray++vals.toArray++Builtin.zeroCells b8.cells (gx-(cR+xs.length))).size (by omega) (by omega) (.row i.size (ds++fb) false)
        ⟨by simp[lA],by simp;omega,rfl,eo,sq,_,e,k6++vals,(Builtin.zeroCells b8.cells (gx-(cR+xs.length))).toList,mr _ _,rfl,by simp,a6.mono (G:=G) (w:=w.drew) (G':=⟨cp G.β l ⟨w.drew.heap.size,cR+fb.length,(k6.toArray++vals.toArray++Builtin.zeroCells b8.cells (gx-(cR+xs.length))).size,false⟩,G.I⟩) (by
         intro x e8 eM;by_cases lD:x=l
         ·subst lD;rw[cy]at eM;cases eM
          exact⟨_,dr _ _ _,by simp only;omega,fun q=>by omega,fun q=>by simp only at q;omega,fun q=>by rw[hfz]at q;cases q⟩
         ·exact⟨e8,by simp only[dE lD];exact eM,aH _,id,fun _=>⟨rfl,rfl⟩,fun _=>rfl⟩) (fun b qo=>⟨qo,alloc_old (w:=w.drew) (wA.da b qo).1⟩) (Gf.ext ab (c5 0 0))⟩
       refine⟨_,_,_,.inl (by rw[cm,dN,lF];rfl),bB,fun m hm=>(c5 m H.length).trans (ca.le (cY hm (nJ _ _)) (aH _)),?_,jM _ _,by simp⟩;rw[<-cb];refine .bJ l i.size 0 _ _ ⟨w.drew.heap.size,cR+fb.length,_,false⟩ _ _ _ (dr _ _ _) (aH _) (fun _=>⟨by simp,rfl,?_,by omega⟩);simp only[zC,ta,Dh,lB,si,jB,<-p7,dA];have wk:cR+xs.length+(gx-(cR+fb.length))=gx:=by omega
       rw[wk];exact aH _
     ·cases he
    ·cases he
   ·cases he
 ·cases he
end Go.Abs
namespace Go.Abs
open Go
variable{C:Ctx}{fid:Nat->Nat}{w w':World}{G G':bX}{H:Heap}
section
variable{vars:List Nat}{ah:aj->V}{ρ:Operand->Value}{low low':Nat}{v:V}{H':Heap}{o:Oper}
theorem db.al6 (ab:a8 C fid G H w){low:Nat}{r:Result Next}{s:List UInt8}{c:Array Value}{rest:List Value}{cap:Nat}(hn:0<s.length)
  (hc:c.toList=(s.map fun b=>Value.int .u8 b.toNat)++rest) (ea:cap<=c.size) (hle:s.length<=cap)
  (hr:r=.ok (.value (.slice (some ⟨w.heap.size,0,none⟩) s.length cap)) (w.drew.alloc (.cells c C.CR))):
  db C fid G H w low r (.bJ H.length 1 0 s.length s.length) (H++[.tj s]) low:=by
 have ko:a8 C fid G H w.drew:=ab.jT rfl;have c5:∀m n,Ext G w G w.drew m n:=fun m n=>Ext.jT (w:=w) (w':=w.drew) rfl rfl rfl m n;refine⟨_,_,⟨cp G.β H.length ⟨w.drew.heap.size,s.length,c.size,false⟩,G.I⟩,.inl hr,ko.push _ _ s.length c.size ⟨rfl,rfl,hn,c,rest,mr _ _,rfl,hc⟩,fun m _=>(c5 m H.length).trans (Ext.push ko _ _ _ m),?_,aH _,by simp⟩;exact .bJ _ 1 0 _ _ ⟨w.drew.heap.size,s.length,c.size,false⟩ _ _ _ (dr _ _ _) (aH _) (fun _=>⟨by simp,rfl,by rw[dA,Nat.mul_one];exact ea,hle⟩)
theorem al7 (ab:a8 C fid G H w)(aP:fB C fid vars G w ah ρ){a b:Operand}{t u e:TypeId}{i:TypeInfo}{b8:Value}{args:Array Operand}{ts:Array TypeId}(ho:o.op=.call {callee:=.builtin .append,args,argTypes:=ts})
  (ha:args= #[a,b]) (ht:ts= #[t,u]) {kp h8:aj} (h1:C.cg vars a=some kp) (h2:C.cg vars b=some h8) (hd:C.P.underlying t=some (.slice e)) (hu:C.P.underlying u=some .string) (hi:C.P.info? e=some i)
  (aR:i.zero=some b8) (jB:b8.cells.size=i.size) (jl:i.size=1) (Gh:i.bytes=1) (Ah:e=C.CR) (he:step ah H low (.Fw kp h8)=some (v,H',low')):db C fid G H w low ((execOp ρ o).run C.P w) v H' low':=by
 subst ha;subst ht;subst Ah;have hx:=aP a kp h1;have hy:=aP b h8 h2
 have cm:(execOp ρ o).run C.P w=((Builtin.append_ #[t,u] o.type #[ρ a,ρ b]).run C.P w).andThen fun z w'=>.ok (.value z) w':=by
  rw[wq ho];simp only[builtin,Sem.run_bind,Fq,dv,iT];rfl
 have Ge:∀s:List UInt8,∀x∈s.map (fun b=>Value.int .u8 b.toNat),x.oneCell'=true:=fun s x hx=>by
  obtain⟨b,-,rfl⟩:=dZ.1 hx;rfl
 simp only[step]at he;split at he
 ·rename_i s af ak
  rw[af]at hx;rw[ak]at hy;rw[hy.oG,hx.iZ]at cm;split at he
  ·rename_i pt
   have lV:s=[]:=by simpa using pt
   subst lV;simp only[aB,bx]at he;obtain⟨rfl,rfl,rfl⟩:=he;refine .same ab (x:=.slice none 0 0) ?_ (.p _ _ .aN);rw[cm,KP (P:=C.P) hd hu hi (n:=0) rfl (Dn i.size []) (by simp)];rfl
  ·rename_i pt
   have lV:s≠[]:=by simpa using pt
   split at he
   ·rename_i hb
    simp only[aB,bx]at he;obtain⟨rfl,rfl,rfl⟩:=he;have iV:0<s.length:=JU.2 lV
    obtain⟨gx,ea,lF⟩:=KQ (P:=C.P) (t:=t) (u:=u) (ty:=o.type) (w:=w) (base:=none) (sLen:=0) (sCap:=0) (n:=s.length) (s:=⟨⟨s⟩⟩) (olds:=[]) hd hu hi aR rfl (Dn i.size s)
     (by simp[Builtin.firstCells,loadCells,loadCellsFrom]) (by omega) (by rw[Gh];omega)
    rw[dA]at lF ea;refine db.al6 ab (cap:=gx) (rest:=(Builtin.zeroCells b8.cells (gx-s.length)).toList) iV ?_ ?_ ea (by rw[cm,lF];rfl)
    ·simp
    ·simp only[zC,ta,nL,eL,dA,Dh,jB,jl]
     omega
   ·cases he
 ·rename_i l es off len tag s af ak
  rw[af]at hx;rw[ak]at hy;rw[hy.oG]at cm;split at he
  ·rename_i r hl
   split at he
   ·rename_i et
    obtain⟨pt,rfl,rfl,rfl,fX,hb⟩:=et;have lV:s≠[]:=by simpa using pt
    have iV:0<s.length:=JU.2 lV;simp only[aB,bx]at he;obtain⟨rfl,rfl,rfl⟩:=he;obtain⟨h0,c8,cR,cap,cy,oH,gY,dN⟩:=hx.nk;obtain⟨aV,eO,hr⟩:=ab.obj l h0 cy;rw[hl]at eO;cases eO;obtain⟨hfz,nr,aDj,c,rest,hc,eV,gv⟩:=hr;obtain⟨rfl,rfl,lU,np⟩:=gY (nr.trans fX);rw[vS]at dN;rw[dA,Nat.mul_one]at lU;subst fX;have fm:c.size=r.length+rest.length:=by rw[<-fw,gv,eZ,eL]
    by_cases h4:r.length+s.length<=cap
    ·have ct:=run_storeCells_at C.P h0.b (r.length*i.size) C.CR (s.map fun b=>Value.int .u8 b.toNat) 0 c w hc (by rw[eL,jl];omega) (Ge s)
     have hval:(execOp ρ o).run C.P w=.ok (.value (.slice (some ⟨h0.b,0,none⟩) (r.length+s.length) cap)) (w.setRow h0.b (c.toList.take (r.length*i.size)++(s.map fun b=>Value.int .u8 b.toNat)++c.toList.drop (r.length*i.size+(s.map fun b=>Value.int .u8 b.toNat).length)).toArray):=by
      rw[cm,dN,KP (P:=C.P) hd hu hi (n:=s.length) rfl (Dn i.size s) h4];simp only[Addr.add_lit,dA];simp only[x9]at ct;rw[ct];rfl
     have dT:Ext G w ⟨cp G.β l {h0 with tag:=r.length+s.length},G.I⟩ (w.setRow h0.b (c.toList.take (r.length*i.size)++(s.map fun b=>Value.int .u8 b.toNat)++c.toList.drop (r.length*i.size+(s.map fun b=>Value.int .u8 b.toNat).length)).toArray) l H.length:=
      Ext.write ab cy hfz rfl (by simp only;omega) (fun q=>by omega) rfl (setRow_size _ _) (fun b bg=>setRow_other bg _) rfl rfl
     refine⟨_,_,_,.inl hval,a8.write ab cy hfz (h':={h0 with tag:=r.length+s.length}) rfl hfz (by simp only;omega) (fun q=>by omega) rfl (setRow_size _ _) (fun b bg=>setRow_other bg _) (.tj (r++s)) ?_,
      fun m hm=>dT.le (cY hm (nJ _ _)) (aH _),?_,jM _ _,by simp⟩
     ·refine⟨hfz,by simp,by simp;omega,_,rest.drop s.length,setRow_heap w h0.b c _ _ _ hc,?_,?_⟩
      ·show h0.fA=_
       rw[eV];simp only[ta,eZ,nc,nK,fw,eL,jl];omega
      ·have bK:r.length*i.size=(r.map fun b=>Value.int .u8 b.toNat).length:=by rw[jl,eL,Nat.mul_one]
       rw[CF,gv,bK,List.take_left,Oo,kk,kA,kA];congr 2;rw[Od (by omega),jN,eL,eL];congr 1;omega
     ·exact .bJ l 1 0 _ _ {h0 with tag:=r.length+s.length} _ _ _ (dr _ _ _) (aH _) (fun _=>⟨by simp,rfl,by rw[dA,Nat.mul_one];exact lU,h4⟩)
    ·have hold:(Builtin.firstCells i.size r.length (.slice (some ⟨h0.b,0,none⟩) r.length cap)).run C.P w.drew=.ok (r.map fun b=>Value.int .u8 b.toNat).toArray w.drew:=
      Gd (iL.vZ (w:=w.drew) hc gv) (by rw[eL,jl,Nat.mul_one])
     obtain⟨gx,ea,lF⟩:=KQ (P:=C.P) (t:=t) (u:=u) (ty:=o.type) (w:=w) (n:=s.length) (s:=⟨⟨s⟩⟩) hd hu hi aR rfl (Dn i.size s) hold (by omega) (by rw[Gh];exact hb);have wA:a8 C fid G H w.drew:=ab.jT rfl;have c5:∀m n,Ext G w G w.drew m n:=fun m n=>Ext.jT (w:=w) (w':=w.drew) rfl rfl rfl m n
     obtain⟨bB,ca⟩:=a8.move wA cy hfz (.cells ((r.map fun b=>Value.int .u8 b.toNat).toArray++(s.map fun b=>Value.int .u8 b.toNat).toArray++Builtin.zeroCells b8.cells (gx-(r.length+s.length))) C.CR) (r.length+s.length)
      ((r.map fun b=>Value.int .u8 b.toNat).toArray++(s.map fun b=>Value.int .u8 b.toNat).toArray++Builtin.zeroCells b8.cells (gx-(r.length+s.length))).size (by omega) (by omega) (.tj (r++s))
      ⟨rfl,by simp,by simp;omega,_,(Builtin.zeroCells b8.cells (gx-(r.length+s.length))).toList,mr _ _,rfl,by simp⟩
     refine⟨_,_,_,.inl (by rw[cm,dN,lF];rfl),bB,fun m hm=>(c5 m H.length).trans (ca.le (cY hm (nJ _ _)) (aH _)),?_,jM _ _,by simp⟩;refine .bJ l 1 0 _ _ ⟨w.drew.heap.size,r.length+s.length,_,false⟩ _ _ _ (dr _ _ _) (aH _) (fun _=>⟨by simp,rfl,?_,ea⟩);simp only[zC,ta,eL,Dh,jB,jl];omega
   ·cases he
  ·cases he
 ·cases he
end
end Go.Abs
namespace Go.Abs
open Go
variable{C:Ctx}{fid:Nat->Nat}{w w':World}{G G':bX}{H:Heap}
section
variable{vars:List Nat}{ah:aj->V}{ρ:Operand->Value}{low low':Nat}{v:V}{H':Heap}{pos:String}{dm:cV}{o:Oper}
theorem qt{α:Type}{a:Array α}{x y:α}(h:a.toList=[x,y]):a= #[x,y]:=by cases a;simp_all
theorem Dp{α:Type}{a:Array α}{x:α}(h:a.toList=[x]):a= #[x]:=by cases a;simp_all
theorem al8 (ab:a8 C fid G H w)(aP:fB C fid vars G w ah ρ){b:Builtin}{args:Array Operand}{ts:Array TypeId}(ho:o.op=.call {callee:=.builtin b,args,argTypes:=ts})
  (hc:C.builtin vars pos b args ts=some dm) (he:step ah H low dm=some (v,H',low')):db C fid G H w low ((execOp ρ o).run C.P w) v H' low':=by
 unfold Ctx.builtin at hc;split at hc
 ·rename_i x t ha ht
  split at hc
  ·rename_i hu
   obtain⟨cO,hx,rfl⟩:=cA.1 hc;exact PB ab aP ho (Dp ha) (Dp ht) hx (by simpa using hu) he
  ·rename_i e hu
   obtain⟨cO,hx,rfl⟩:=cA.1 hc;exact PB ab aP ho (Dp ha) (Dp ht) hx (by simpa using⟨e,hu⟩) he
  ·rename_i k e hu
   obtain⟨cO,hx,rfl⟩:=cA.1 hc;exact PB ab aP ho (Dp ha) (Dp ht) hx (by simpa using⟨k,e,hu⟩) he
  ·cases hc
 ·rename_i a b t u ha ht
  split at hc
  ·rename_i e e' h1 h2
   split at hc
   ·rename_i i kp h8 hi hx hy
    split at hc
    ·cases hc
    ·rename_i hn
     simp only[aB]at hc
     have tC:i.size≠0/\i.zero.map (fun z=>z.cells.size)=some i.size:=by
      simp only[iI,decide_eq_true_eq,bne_iff_ne,ne_eq,not_or,Decidable.not_not]at hn;exact hn
     obtain⟨b8,aR,jB⟩:=cA.1 tC.2;split at hc
     ·subst hc;exact alS ab aP ho (qt ha) (qt ht) hx hy h1 h2 hi aR jB (Fm tC.1) he
     ·subst hc;exact alQ ab aP ho (qt ha) (qt ht) hx hy h1 h2 hi aR jB (Fm tC.1) he
   ·cases hc
  ·rename_i e h1 h2
   split at hc
   ·rename_i i kp h8 hi hx hy
    split at hc
    ·rename_i hn
     simp only[aB]at hc;simp only[b6,beq_iff_eq]at hn;obtain⟨⟨nT,X9⟩,KR⟩:=hn;have nT:i.size=1:=by simpa using nT
     obtain⟨b8,aR,jB⟩:=cA.1 KR;split at hc
     ·rename_i Ah
      subst hc;simp only[b6,beq_iff_eq]at Ah;exact al7 ab aP ho (qt ha) (qt ht) hx hy h1 h2 hi aR (by rw[jB,nT]) nT X9 Ah.2 he
     subst hc;exact al5 ab aP ho (qt ha) (qt ht) hx hy h1 h2 hi aR (by rw[jB,nT]) nT X9 he
    ·cases hc
   ·cases hc
  ·cases hc
 ·rename_i m k t u ha ht
  split at hc
  ·rename_i eI tA am h9 h1 h2 ar
   obtain⟨bY,gR,rfl⟩:=cA.1 hc;have gQ:=qt ha;subst gQ;exact al4 ab aP h1 (qt ht) ho h2 ar gR he
  ·cases hc
 ·cases hc
 ·rename_i a b ha
  split at hc
  ·rename_i kp h8 hx hy
   simp only[aB]at hc;subst hc;exact XR ab aP ho (qt ha) (mx:=true) rfl hx hy he
  ·cases hc
 ·rename_i a b t u ha ht
  split at hc
  ·rename_i e e' h1 h2
   split at hc
   ·rename_i n kp h8 hi hx hy
    split at hc
    ·cases hc
    ·simp only[aB]at hc;subst hc
     exact alT (e':=e') ab aP ho (qt ha) (qt ht) hx hy h1 hi he
   ·cases hc
  ·cases hc
 ·rename_i a b ha
  split at hc
  ·rename_i kp h8 hx hy
   simp only[aB]at hc;subst hc;exact XR ab aP ho (qt ha) (mx:=false) rfl hx hy he
  ·cases hc
 ·cases hc
theorem al9 (bC:e7 C fid)(ab:a8 C fid G H w)(aP:fB C fid vars G w ah ρ)(kH:low<=H.length)
  (he:step ah H low (C.op vars pos o.op)=some (v,H',low')):db C fid G H w low ((execOp ρ o).run C.P w) v H' low':=by
 unfold Ctx.op at he;cases hc:C.cX vars pos o.op with
 |none=>rw[hc]at he;simp[step]at he
 |some dm=>
  rw[hc]at he;simp only[oB]at he;cases dy:o.op with
  |move x=>exact XG ab aP (.inl dy) hc he
  |assign x=>exact XG ab aP (.inr dy) hc he
  |pick c a b=>exact akY ab aP dy hc he
  |alloc t=>exact ala ab dy hc he
  |box t x=>exact alb ab aP dy hc he
  |build t parts=>exact alK ab aP dy hc he
  |buildSlice t l parts=>exact alL ab aP dy hc he
  |load t a=>exact ak7 ab aP dy hc he
  |store t a x=>exact ak8 ab aP dy hc kH he
  |nilCheck x=>exact akZ ab aP dy hc he
  |binOp a b c d e=>exact alo ab aP dy hc he
  |unOp a b c=>exact ak0 ab aP dy hc he
  |convert a b c=>
   rcases(show(∃x,dm=.vT x)\/∀x,dm≠ .vT x from by
    cases dm<;>first|exact .inl ⟨_,rfl⟩|exact .inr (by simp))with⟨x,rfl⟩|hnb
   ·exact al2 ab aP dy hc he
   ·exact ak1 ab aP dy hnb hc he
  |makeInterface a b=>exact ak2 ab aP dy hc he
  |makeFunc a b c=>exact ak3 bC ab aP dy hc he
  |makeMap a b=>exact alc ab dy hc he
  |makeSlice a b c=>exact alP ab aP dy hc he
  |slice a b c d e=>exact alz ab aP dy hc he
  |fieldAddr a b c=>exact ak6 ab aP dy hc he
  |field a b c=>exact ak5 ab aP dy hc he
  |indexAddr a b c=>exact alC ab aP dy hc he
  |index a b c=>exact ald ab aP dy hc he
  |lookup a b c d=>exact alW ab aP dy hc he
  |mapUpdate a b c d=>exact X5 ab aP (.inl dy) hc he
  |insert a b c d=>exact X5 ab aP (.inr dy) hc he
  |extract a b=>exact ak4 ab aP dy hc he
  |call c=>
   rw[dy]at hc;obtain⟨callee,args,dU⟩:=c;cases callee with
   |builtin b=>exact al8 ab aP dy hc he
   |value f=>
    simp only[Ctx.cX]at hc;split at hc
    ·simp only[aB]at hc;subst hc;simp[step]at he
    ·cases hc
   | _=>simp[Ctx.cX]at hc
  | _=>rw[dy]at hc;simp[Ctx.cX]at hc
end
end Go.Abs
namespace Go.Abs
open Go
structure Fr (H:Heap) (low:Nat) (H':Heap) (low':Nat):Prop where
 len:H.length<=H'.length
 low:low'<=low
 same:∀l,l<low'->H'[l]? =H[l]?
variable{H H' H1 H2:Heap}{low low' bO dH:Nat}{ah:aj->V}{v v':V}
theorem Fr.refl (H:Heap)(low:Nat):Fr H low H low:=⟨aH _,aH _,fun _ _=>rfl⟩
theorem Fr.trans (h:Fr H low H1 bO)(k:Fr H1 bO H2 dH):Fr H low H2 dH:=
 ⟨cY h.len k.len,cY k.low h.low,fun l hl=>(k.same l hl).trans (h.same l (r3 hl k.low))⟩
theorem Fr.push (hl:low<=H.length)(o:b5):Fr H low (H++[o]) low:=
 ⟨by simp,aH _,fun l h=>by rw[e5 (by omega)]⟩
theorem Fr.set (l:Nat)(o:b5):Fr H low (H.set l o) (min low l):=
 ⟨by simp,jM _ _,fun x h=>by rw[jx (by omega)]⟩
theorem Fr.lift (h:Fr H bO H' dH)(low:Nat):Fr H low H' (min low dH):=
 ⟨h.len,jM _ _,fun l hl=>h.same l (by omega)⟩
theorem Fr.eq (h:Fr H low H' low')(hl:H.length<=low')(he:H'.length=H.length):H'=H:=by
 apply oA;intro l;rcases gh l low' with q|q
 ·exact h.same l q
 ·rw[lQ (by omega),lQ (by omega)]
theorem PR (h:Fr H low H' low')(hm:ew H H' low'=false):H'=H:=by
 simp only[ew,vO,decide_eq_false_iff_not,bne_eq_false_iff_eq]at hm;exact h.eq (by omega) hm.2
structure Ya (f:Heap->Nat->V->Option (V × Heap × Nat)):Prop where
 ok:∀{H H':Heap} {low low':Nat} {v v':V},f H low v=some (v',H',low')->Fr H low H' low'/\H'.length=H.length
theorem PS{f:Heap->Nat->V->Option (V × Heap × Nat)}(ag:Ya f):∀{vs vs':List V} {H H':Heap} {low low':Nat},kY f H low vs=some (vs',H',low')->Fr H low H' low'/\H'.length=H.length
 |[],_,_,_,_,_,he=>by
  simp only[kY,aB,bx]at he;obtain⟨-,rfl,rfl⟩:=he;exact⟨.refl _ _,rfl⟩
 |v::r,_,_,_,_,_,he=>by
  simp only[kY]at he;split at he
  ·rename_i h1
   split at he
   ·rename_i h2
    simp only[aB,bx]at he;obtain⟨-,rfl,rfl⟩:=he;have a:=ag.ok h1;have b:=PS ag h2;exact⟨a.1.trans b.1,b.2.trans a.2⟩
   ·cases he
  ·cases he
theorem PT:∀(n:Nat),Ya (dR n)
 |0=>by
  refine⟨fun {H H' low low' v v'} he=> ?_⟩;simp only[dR]at he;split at he
  ·simp only[aB,bx]at he
   obtain⟨-,rfl,rfl⟩:=he;exact⟨.refl _ _,rfl⟩
  ·cases he
 |n+1=>by
  refine⟨fun {H H' low low' v v'} he=> ?_⟩;have ih:=fun {vs vs' H H' low low'}=>PS (PT n) (vs:=vs) (vs':=vs') (H:=H) (H':=H') (low:=low) (low':=low');simp only[dR]at he;split at he
  ·simp only[aB,bx]at he
   obtain⟨-,rfl,rfl⟩:=he;exact⟨.refl _ _,rfl⟩
  ·split at he
   ·split at he
    ·rename_i h
     simp only[aB,bx]at he;obtain⟨-,rfl,rfl⟩:=he;exact ih h
    ·cases he
   ·split at he
    ·rename_i h
     simp only[aB,bx]at he;obtain⟨-,rfl,rfl⟩:=he;exact ih h
    ·cases he
   ·split at he
    ·split at he
     ·split at he
      ·simp only[aB,bx]at he
       obtain⟨-,rfl,rfl⟩:=he;split
       ·exact⟨.refl _ _,rfl⟩
       ·exact⟨.set _ _,by simp⟩
      ·split at he
       ·rename_i h
        split at he
        ·split at he
         ·simp only[aB,bx]at he
          obtain⟨-,rfl,rfl⟩:=he;have:=ih h;exact⟨this.1.trans (.set _ _),by simp[this.2]⟩
         ·cases he
        ·cases he
       ·cases he
     ·cases he
    ·cases he
   ·simp only[aB,bx]at he
    obtain⟨-,rfl,rfl⟩:=he;exact⟨.refl _ _,rfl⟩
theorem Dq (he:fF H low v=some (v',H',low')):Fr H low H' low'/\H'.length=H.length:=(PT 16).ok he
theorem KS:∀{vs vs':List V} {H H':Heap} {low low':Nat},e0 H low vs=some (vs',H',low')->Fr H low H' low'/\H'.length=H.length
 |[],_,_,_,_,_,he=>by
  simp only[e0,aB,bx]at he;obtain⟨-,rfl,rfl⟩:=he;exact⟨.refl _ _,rfl⟩
 |v::r,_,_,_,_,_,he=>by
  simp only[e0]at he;split at he
  ·rename_i h1
   split at he
   ·rename_i h2
    simp only[aB,bx]at he;obtain⟨-,rfl,rfl⟩:=he;have a:=Dq h1;have b:=KS h2;exact⟨a.1.trans b.1,b.2.trans a.2⟩
   ·cases he
  ·cases he
theorem ama{n:Nat}{a x:V}{l:Nat}(he:jy H n a x=some (H',l)):∃o,H'=H.set l o:=by
 unfold jy at he
 repeat' split at he
 all_goals first
  |(simp only[aB,bx]at he;obtain⟨rfl,rfl⟩:=he;exact⟨_,rfl⟩)
  |cases he
set_option maxHeartbeats 1000000 in
theorem amb{op:cV}(hl:low<=H.length)(he:step ah H low op=some (v,H',low')):Fr H low H' low':=by
 cases op with
 |alloc z=>
  simp only[step,aB,bx]at he;obtain⟨-,rfl,rfl⟩:=he;exact .push hl _
 |box x=>
  simp only[step]at he;split at he
  ·simp only[aB,bx]at he
   obtain⟨-,rfl,rfl⟩:=he;exact .push hl _
  ·cases he
 |build z parts=>
  simp only[step]at he;obtain⟨cs,-,he⟩:=cA.1 he;simp only[bx]at he;obtain⟨-,rfl,rfl⟩:=he;exact .refl _ _
 |lit es z len parts jP=>
  simp only[step]at he;split at he
  ·rename_i h
   have ag:=KS h;have lS:low'<=low':=aH _;split at he
   ·split at he
    ·split at he
     ·simp only[aB,bx]at he
      obtain⟨-,rfl,rfl⟩:=he;exact ag.1
     ·cases he
    ·split at he
     ·simp only[aB,bx]at he
      obtain⟨-,rfl,rfl⟩:=he;exact ag.1
     ·simp only[aB,bx]at he
      obtain⟨-,rfl,rfl⟩:=he;exact ag.1.trans (.push (by have:=ag.1.low;have:=ag.1.len;omega) _)
   ·cases he
  ·cases he
 |store n a x=>
  simp only[step]at he;obtain⟨⟨H1,l⟩,h,he⟩:=cA.1 he;simp only[bx]at he;obtain⟨-,rfl,rfl⟩:=he;obtain⟨o,rfl⟩:=ama h;exact .set _ _
 |CK t x=>
  simp only[step]at he;split at he
  ·rename_i h
   simp only[aB,bx]at he;obtain⟨-,rfl,rfl⟩:=he;exact(Dq h).1
  ·cases he
 |mkMap=>
  simp only[step,aB,bx]at he;obtain⟨-,rfl,rfl⟩:=he;exact .push hl _
 |mkSlice es z bytes l c=>
  simp only[step]at he
  repeat' split at he
  all_goals first
   |(simp only[aB,bx]at he;obtain⟨-,rfl,rfl⟩:=he;first|exact .refl _ _|exact .push hl _)
   |cases he
 |p8 kind m k x=>
  simp only[step]at he;split at he
  ·rename_i h
   have ag:=(Dq h).1
   repeat' split at he
   all_goals first
    |(simp only[aB,bx]at he;obtain⟨-,rfl,rfl⟩:=he;exact ag.trans (.set _ _))
    |cases he
  ·cases he
 |ya es bytes a b=>
  simp only[step]at he
  repeat' split at he
  all_goals first
   |(simp only[aB,bx]at he;obtain⟨-,rfl,rfl⟩:=he;exact .refl _ _)
   |cases he
 |append es bytes a b=>
  simp only[step]at he;split at he
  ·split at he
   ·rename_i h
    have ag:=(KS h).1;have hle:∀x,x<=low->x<=H.length:=fun x hx=>cY hx hl
    repeat' split at he
    all_goals first
     |(simp only[aB,bx]at he;obtain⟨-,rfl,rfl⟩:=he
       first
        |exact ag
        |exact ag.trans (.push (by have:=ag.low;have:=ag.len;omega) _)
        |exact ag.trans (.set _ _))
     |cases he
   ·cases he
  ·cases he
 |zP kind m k=>
  simp only[step]at he
  repeat' split at he
  all_goals first
   |(simp only[aB,bx]at he;obtain⟨-,rfl,rfl⟩:=he;first|exact .refl _ _|exact .set _ _)
   |cases he
 |Fv a b=>
  simp only[step]at he
  repeat' split at he
  all_goals first
   |(simp only[aB,bx]at he;obtain⟨-,rfl,rfl⟩:=he;first|exact .refl _ _|exact .push hl _|exact .set _ _)
   |cases he
 |Fw a b=>
  simp only[step]at he
  repeat' split at he
  all_goals first
   |(simp only[aB,bx]at he;obtain⟨-,rfl,rfl⟩:=he;first|exact .refl _ _|exact .push hl _|exact .set _ _)
   |cases he
 |copy es a b=>
  simp only[step]at he
  repeat' split at he
  all_goals first
   |(simp only[aB,bx]at he;obtain⟨-,rfl,rfl⟩:=he;first|exact .refl _ _|exact .set _ _)
   |cases he
 |call raw f args=>simp[step]at he
 |fail=>simp[step]at he
 | _=>
   simp only[step]at he
   repeat' split at he
   all_goals first
    |(cases he;done)
    |(cases he;exact .refl _ _)
    |(simp only[aB,bx]at he;obtain⟨-,rfl,rfl⟩:=he;exact .refl _ _)
    |(obtain⟨_,-,he⟩:=cA.1 he;simp only[bx]at he;obtain⟨-,rfl,rfl⟩:=he;exact .refl _ _)
theorem Yb{op:cV}(ht:gr op=false)(he:step ah H low op=some (v,H',low')):H'=H/\low'=low/\∀H2 dH,step ah H2 dH op=some (v,H2,dH):=by
 cases op<;>first
  |(simp[gr]at ht;done)
  |skip
 all_goals
  simp only[step]at he⊢
  repeat' split at he
  all_goals first
   |(cases he;done)
   |(simp only[aB,bx]at he;obtain⟨rfl,rfl,rfl⟩:=he;simp_all;done)
   |(obtain⟨x,hx,he⟩:=cA.1 he;simp only[bx]at he;obtain⟨rfl,rfl,rfl⟩:=he;simp_all;done)
theorem Gj{ah hN:aj->V}{d:Nat}{x:Option aj}(h:∀y∈x.toList,ah y=hN y):fa ah d x=fa hN d x:=by
 cases x with
 |none=>rfl
 |some y=>simp[fa,h y (by simp)]
theorem amc{ah hN:aj->V}{op:cV}(h:∀x∈op.operands,ah x=hN x):step ah H low op=step hN H low op:=by
 cases op with
 |build z parts=>
  have:(parts.map fun p=>(p.1,p.2.1,ah p.2.2))=parts.map fun p=>(p.1,p.2.1,hN p.2.2):=p4 fun p hp=>by rw[h _ (by simp only[cV.operands,dZ];exact⟨p,hp,rfl⟩)]
  simp only[step,this]
 |lit es z len parts jP=>
  have:(parts.map fun p=>ah p.2)=parts.map fun p=>hN p.2:=p4 fun p hp=>h _ (by simp only[cV.operands,dZ];exact⟨p,hp,rfl⟩);simp only[step,this]
 |uY i a b=>
  have h1:a.map ah=a.map hN:=p4 fun p hp=>h _ (by simp[cV.operands,hp]);have h2:b.map ah=b.map hN:=p4 fun p hp=>h _ (by simp[cV.operands,hp]);simp only[step,h1,h2]
 |qX x lo hi=>
  have h0:=h x (by simp[cV.operands]);have h1:∀d,fa ah d lo=fa hN d lo:=fun d=>Gj fun y hy=>h y (by simp only[cV.operands,dx,iq];exact .inr (.inl hy));have h2:∀d,fa ah d hi=fa hN d hi:=fun d=>Gj fun y hy=>h y (by simp only[cV.operands,dx,iq];exact .inr (.inr hy));simp only[step,h0,h1,h2]
 |ti es x lo hi mx=>
  have h0:=h x (by simp[cV.operands]);have h1:∀d,fa ah d lo=fa hN d lo:=fun d=>Gj fun y hy=>h y (by simp only[cV.operands,dx,iq];exact .inr (.inl (.inl hy)));have h2:∀d,fa ah d hi=fa hN d hi:=fun d=>Gj fun y hy=>h y (by simp only[cV.operands,dx,iq];exact .inr (.inl (.inr hy)));have ar:∀d,fa ah d mx=fa hN d mx:=fun d=>Gj fun y hy=>h y (by simp only[cV.operands,dx,iq];exact .inr (.inr hy));cases mx with
  |none=>simp only[step,h0,h1,h2,ar]
  |some m=>
   have aS:=h m (by simp[cV.operands]);simp only[step,h0,h1,h2,ar,aS]
 |call raw f args=>rfl
 |fail=>rfl
 |alloc z=>rfl
 |mkMap=>rfl
 | _=>simp only[step];simp only[cV.operands,dx,r4,or_false,forall_eq_or_imp,forall_eq]at h;simp only[h]
theorem Ai{call:cW}{op:cV}(h:∀raw f args,op≠ .call raw f args):cc call ah H low op=step ah H low op:=by
 cases op<;>first|rfl|exact absurd rfl (h _ _ _)
theorem amd{call:cW}{ah hN:aj->V}{op:cV}(h:∀x∈op.operands,ah x=hN x):cc call ah H low op=cc call hN H low op:=by
 cases op with
 |call raw f args=>
  have h0:=h f (by simp[cV.operands]);have h1:args.map ah=args.map hN:=p4 fun p hp=>h _ (by simp[cV.operands,hp]);cases raw<;>simp only[cc,h0,h1]
 | _=>rw[Ai (by simp),Ai (by simp)];exact amc h
def mE (call:cW):Prop:=∀(f:V) (args:List V) (H:Heap) (v:V) (H':Heap) (low':Nat),call f args H=some (v,H',low')->Fr H H.length H' low'
theorem Aj{call:cW}{op:cV}(hc:mE call)(hl:low<=H.length)(he:cc call ah H low op=some (v,H',low')):Fr H low H' low':=by
 cases op with
 |call raw f args=>
  cases raw
  ·simp only[cc]at he
   split at he
   ·rename_i vs H1 bO h1
    have ag:=KS h1;split at he
    ·rename_i u H2 l h2
     have hk:=hc _ _ _ _ _ _ h2;split at he
     ·cases he;exact .refl _ _
     ·cases he;exact ag.1.trans (hk.lift _)
    ·cases he
   ·cases he
  ·simp only[cc]at he
   split at he
   ·rename_i u H2 l h2
    cases he;exact(hc _ _ _ _ _ _ h2).lift _
   ·cases he
 | _=>rw[Ai (by simp)]at he;exact amb hl he
theorem kI (st:av)(d:Option (Nat × Bool))(v:V):(st.put d v).H=st.H/\(st.put d v).low=st.low/\(st.put d v).ro=st.ro:=by
 rcases d with _|⟨t,b⟩
 ·exact⟨rfl,rfl,rfl⟩
 ·cases b<;>exact⟨rfl,rfl,rfl⟩
def gH (st aQ:av):Prop:=Fr st.H st.low aQ.H aQ.low/\aQ.ro=st.ro
theorem gH.refl (st:av):gH st st:=⟨.refl _ _,rfl⟩
theorem gH.trans{a b c:av}(h:gH a b)(k:gH b c):gH a c:=⟨h.1.trans k.1,k.2.trans h.2⟩
theorem gH.bound{a b:av}(h:gH a b)(hl:a.low<=a.H.length):b.low<=b.H.length:=by
 have:=h.1.low;have:=h.1.len;omega
theorem pw{call:cW}(hc:mE call):∀(ops:List bS) (st aQ:av) (wr fq:List Bool),st.low<=st.H.length->c3 call ops st wr=some (aQ,fq)->gH st aQ
 |[],st,aQ,wr,fq,_,he=>by
  simp only[c3,aB,bx]at he;obtain⟨rfl,-⟩:=he;exact .refl _
 |o::r,st,aQ,wr,fq,hl,he=>by
  simp only[c3]at he;split at he
  ·split at he
   ·rename_i v H' low' h
    have ag:=Aj hc (aH _) h;have hp:=kI {st with H:=H',low:=min st.low low'} o.dst v;have h1:gH st ({st with H:=H',low:=min st.low low'}.put o.dst v):=⟨by rw[hp.1,hp.2.1];exact ag.lift _,hp.2.2⟩;exact h1.trans (pw hc r _ _ _ _ (h1.bound hl) he)
   ·cases he
  ·have hp:=kI st o.dst (.aU [])
   have h1:gH st (st.put o.dst (.aU [])):=⟨by rw[hp.1,hp.2.1];exact .refl _ _,hp.2.2⟩;exact h1.trans (pw hc r _ _ _ _ (h1.bound hl) he)
  ·cases he
theorem Yc{f:av->Option (X × av)}(ag:∀st x aQ,st.low<=st.H.length->f st=some (x,aQ)->gH st aQ):∀(n:Nat) (st:av) (x:X) (aQ:av),st.low<=st.H.length->iter f n st=some (x,aQ)->gH st aQ
 |0,_,_,_,_,he=>by cases he
 |n+1,st,x,aQ,hl,he=>by
  simp only[iter]at he;split at he
  ·rename_i st1 h1
   have a:=ag _ _ _ hl h1;exact a.trans (Yc ag n _ _ _ (a.bound hl) he)
  ·exact ag _ _ _ hl he
theorem mF{call:cW}(hc:mE call)(n:Nat):∀(c:bZ) (st:av) (x:X) (aQ:av),st.low<=st.H.length->exec call n c st=some (x,aQ)->gH st aQ
 | .skip,st,x,aQ,hl,he=>by simp only[exec,aB,bx]at he;obtain⟨-,rfl⟩:=he;exact .refl _
 | .region ops dX,st,x,aQ,hl,he=>by
   simp only[exec,av.fy]at he;split at he
   ·rename_i st1 wr h1
    have a:gH {st with aF:=[]} st1:=pw hc _ _ _ _ _ hl h1;have bk:gH st st1:=a
    repeat' split at he
    all_goals first
     |(cases he;exact bk)
     |cases he
   ·cases he
 | .zQ ops ok f,st,x,aQ,hl,he=>by
   simp only[exec,av.fy]at he;split at he
   ·rename_i st1 wr h1
    have a:gH {st with aF:=[]} st1:=pw hc _ _ _ _ _ hl h1;have bk:gH st st1:=a;split at he
    ·cases he;exact bk
    ·cases he
   ·cases he
 | .seq a b,st,x,aQ,hl,he=>by
   simp only[exec,av.fy]at he;split at he
   ·rename_i st1 h1
    have k:=mF hc n a _ _ _ hl h1;exact k.trans (mF hc n b _ _ _ (k.bound hl) he)
   ·exact mF hc n a _ _ _ hl he
 | .cond c t e,st,x,aQ,hl,he=>by
   simp only[exec,av.fy]at he;split at he
   ·exact mF hc n t _ _ _ hl he
   ·exact mF hc n e _ _ _ hl he
   ·cases he
 | .block id c,st,x,aQ,hl,he=>by
   simp only[exec,av.fy]at he;split at he
   ·rename_i st1 h1
    have k:=mF hc n c _ _ _ hl h1;split at he<;>(cases he;exact k)
   ·exact mF hc n c _ _ _ hl he
 | .loop c,st,x,aQ,hl,he=>by
   simp only[exec,av.fy]at he;exact Yc (fun st x aQ h1 h2=>mF hc n c st x aQ h1 h2) n _ _ _ hl he
 | .rangeFunc f ps a b,st,x,aQ,hl,he=>by
   simp only[exec,av.fy]at he;split at he
   ·cases he
   ·split at he
    ·rename_i u H1 bO h1
     have k:=hc _ _ _ _ _ _ h1;split at he
     ·split at he
      ·cases he
      ·cases he
       refine⟨⟨?_,jM _ _,fun l h=> ?_⟩,rfl⟩
       ·have:=k.len;simp at this⊢; omega
       ·simp only at h⊢
        rw[jx (by omega),k.same l (by omega),e5 (by omega)]
     ·cases he
    ·cases he
 | .exit id,st,x,aQ,hl,he=>by simp only[exec,aB,bx]at he;obtain⟨-,rfl⟩:=he;exact .refl _
 | .ret,st,x,aQ,hl,he=>by simp only[exec,aB,bx]at he;obtain⟨-,rfl⟩:=he;exact .refl _
 | .fail,st,x,aQ,hl,he=>by simp[exec]at he
theorem KT{fresh:Bool}{H0:Heap}(h:Fr H0 H0.length H low)(he:finish fresh H0 v H low=some (v',H',low')):Fr H0 H0.length H' low':=by
 unfold finish at he;split at he
 ·split at he
  ·split at he
   ·cases he;exact .push (aH _) _
   ·split at he
    ·cases he;exact h
    ·cases he
  ·cases he
 ·split at he
  ·rename_i h1
   split at he
   ·cases he;exact .refl _ _
   ·cases he;exact h.trans (Dq h1).1
  ·cases he
theorem ame{ex:bZ->av->Option (X × av)}(hx:∀c st x aQ,st.low<=st.H.length->ex c st=some (x,aQ)->gH st aQ){f:hY}{args:List V}
  (he:gF ex f args H=some (v,H',low')):Fr H H.length H' low':=by
 unfold gF at he;split at he
 ·split at he
  ·rename_i st h1
   have k:=(hx _ _ _ _ (aH _) h1).1;split at he
   ·exact KT k he
   ·exact KT k he
   ·cases he
  ·rename_i st h1
   have k:=(hx _ _ _ _ (aH _) h1).1;split at he
   ·exact KT k he
   ·exact KT k he
   ·cases he
  ·cases he
 ·cases he
theorem amf{ex:bZ->av->Option (X × av)}(hx:∀c st x aQ,st.low<=st.H.length->ex c st=some (x,aQ)->gH st aQ){l:Nat}{args:List V}
  (he:qg ex l args H=some (v,H',low')):Fr H H.length H' low':=by
 unfold qg at he;split at he
 ·split at he
  ·split at he
   ·rename_i st h1
    have k:=(hx _ _ _ _ (aH _) h1).1;split at he
    ·split at he
     ·rename_i x st2 h2
      have c6:=(hx _ _ _ _ (by have q:=k.low;have q':=k.len;simp only[x7]at q q'⊢; omega) h2).1;split at he
      ·cases he
       exact(k.trans (.set _ _)).trans (c6.trans (.set _ _))
      ·cases he
     ·cases he
    ·cases he
   ·cases he
  ·cases he
 ·cases he
theorem Yd:∀(l:List (Nat × b5)) (H:Heap) (low:Nat),Fr H low (qe H l) (qf low l)
 |[],H,low=>.refl _ _
 |p::r,H,low=>(Fr.set p.1 p.2).trans (Yd r _ _)
theorem amg{spec:u2}{args:List V}(he:qZ spec args H=some (v,H',low')):Fr H H.length H' low':=by
 obtain⟨r,-,he⟩:=cA.1 he;cases he;have h:=Yd r.2.1 H H.length;refine h.trans ⟨by simp,aH _,fun l hl=> ?_⟩;rw[e5];have:=h.low;have:=h.len;omega
theorem KU (aa:Nat->Option bU):∀(n:Nat),mE (bm aa n)
 |0=>fun f args H v H' low' he=>by simp[bm]at he
 |n+1=>fun f args H v H' low' he=>by
  have hx:=fun c st x aQ (h1:st.low<=st.H.length) h2=>mF (KU aa n) n c st x aQ h1 h2;simp only[bm,q0]at he;split at he
  ·split at he
   ·exact ame hx he
   ·split at he
    ·obtain⟨u,-,he⟩:=cA.1 he
     cases he;exact .refl _ _
    ·cases he
   ·exact amg he
   ·cases he
  ·exact amf hx he
  ·cases he
end Go.Abs
namespace Go.Abs
open Go
variable{C:Ctx}{fid:Nat->Nat}{w w':World}{G G':bX}{H H':Heap}
def eJ (ro:Option Nat):Fence:={fn:=fun _=>True,depth:=none,alive:=false,round:=ro}
def k7 (C:Ctx)(fid:Nat->Nat)(G:bX)(H:Heap)(w:World)(v:V)(H':Heap)(low':Nat)(x:Value)(w':World):Prop:=
 ∃G',a8 C fid G' H' w'/\(∀m,m<=low'->Ext G w G' w' m H.length)/\bh fid G' w' v x
def ss (P:Program)(R:Value->World->Prop):Result Next->Prop
 | .ok (.value x) w'=>R x w'
 | .ok .skip w'=>R undef w'
 | .ok (.enter f args) w'=>Calls P f args w' (fun e gu=>∃x,e=.returned x/\R x gu)
 | .ok (.row row args) w'=>Rows P row args w' R
 | .ok (.round l f tmps ay cv) w'=>RoundIn Fence.wide 0 P l f tmps ay cv w' (fun e gu=>∃x,e=.returned x/\R x gu)
 | _=>False
theorem ss.mono{P:Program}{R oN:Value->World->Prop}(h:∀x w,R x w->oN x w):∀{r:Result Next},ss P R r->ss P oN r
 | .ok (.value x) w',k=>h _ _ k
 | .ok .skip w',k=>h _ _ k
 | .ok (.enter f args) w',k=>th k fun e gu=>fun⟨x,af,ak⟩=>⟨x,af,h _ _ ak⟩
 | .ok (.row row args) w',k=>Rows.mono k h
 | .ok (.round l f tmps ay cv) w',k=>RoundIn.mono k fun e gu=>fun⟨x,af,ak⟩=>⟨x,af,h _ _ ak⟩
 | .ok (.defer _) _,k| .ok .recover _,k| .ok (.spawn _) _,k| .ok (.comm ..) _,k| .ok .numGoroutine _,k| .ok .collect _,k| .ok (.watch _) _,k| .ok (.newcoro ..) _,k| .ok (.coroswitch ..) _,k
 | .ok (.sleep _) _,k| .ok (.timer _) _,k| .ok (.alone ..) _,k| .ok (.callThen ..) _,k| .ok (.stack ..) _,k| .halt ..,k=>k.elim
theorem PU{P:Program}{R:Value->World->Prop}{ro:Option Nat}{o:Oper}{a:Act}{next:Act->World->Prop}{Q:Exit->Act->World->Prop}(hn:∀x w,R x w->next (a.put o.dst x) w):
  ∀{r:Result Next},ss P R r->o.uponIn (eJ ro) 0 P a next Q r
 | .ok (.value x) w',k=>hn _ _ k
 | .ok .skip w',k=>hn _ _ k
 | .ok (.enter f args) w',k=>by
   have bQ:CallsIn Fence.wide 0 P f args w' fun
    | .returned v,gu=>next (a.put o.dst v) gu
    | .panicked chain,gu=>Q (.panic chain) a gu
    | .outgrown,_=>LetsOut Q:=callsIn_wide.2 (th k fun e gu=>by rintro⟨x,rfl,ak⟩;exact hn _ _ ak)
   exact⟨fun h=>by simp[eJ]at h,bQ⟩
 | .ok (.row row args) w',k=>by
   refine⟨fun h=>by simp[eJ]at h,fun c cs _=> ?_⟩;obtain⟨v,bR,h1,h2⟩:=k c cs;exact⟨v,bR,hn _ _ h1,(stepsIn_wide.2 h2:StepsIn (Machine.fenced P Fence.wide) P _ _)⟩
 | .ok (.round l f tmps ay cv) w',k=>by
   have bQ:RoundIn Fence.wide 0 P l f tmps ay cv w' fun
    | .returned v,gu=>next (a.put o.dst v) gu
    | .panicked chain,gu=>Q (.panic chain) a gu
    | .outgrown,_=>LetsOut Q:=RoundIn.mono k fun e gu=>by rintro⟨x,rfl,ak⟩;exact hn _ _ ak
   exact⟨fun h=>by simp[eJ]at h,bQ⟩
 | .ok (.defer _) _,k| .ok .recover _,k| .ok (.spawn _) _,k| .ok (.comm ..) _,k| .ok .numGoroutine _,k| .ok .collect _,k| .ok (.watch _) _,k| .ok (.newcoro ..) _,k| .ok (.coroswitch ..) _,k
 | .ok (.sleep _) _,k| .ok (.timer _) _,k| .ok (.alone ..) _,k| .ok (.callThen ..) _,k| .ok (.stack ..) _,k| .halt ..,k=>k.elim
structure gS (C:Ctx) (fid:Nat->Nat) (call:cW):Prop where
 b2:mE call
 run:∀{G:bX} {H:Heap} {w:World} {f:V} {args:List V} {v:V} {H':Heap} {low':Nat} {PV:Value} {xs:List Value},a8 C fid G H w->bh fid G w f PV->a6 fid G w args xs->
  call f args H=some (v,H',low')->∃d,(Deferred.ofValue PV ⟨xs⟩).run C.P w=.ok d w/\ss C.P (k7 C fid G H w v H' low') ((invoke d.target d.args).run C.P w)/\
   (CO f=true->cj args=false->∃g ay,(invoke d.target d.args).run C.P w=.ok (.enter g ay) w)
theorem a8.restore (ab:a8 C fid G H w)(hs:w.heap.size<=w'.heap.size)(hk:∀b,b<w.heap.size->w'.heap[b]? =w.heap[b]?):a8 C fid G H w' where
 obj l h e:=by
  obtain⟨o,ho,hr⟩:=ab.obj l h e;exact⟨o,ho,hr.mono (.refl _) (fun b hb=>⟨hb,hk b (ab.da b hb).1⟩) (hk _ (ab.blk l h e))⟩
 inj:=ab.inj
 blk l h e:=r3 (ab.blk l h e) hs
 da b hb:=⟨r3 (ab.da b hb).1 hs,(ab.da b hb).2⟩
 k4:=ab.k4
 fG b o ba:=⟨(ab.fG b o ba).1,by rw[hk b (ab.da b (ab.fG b o ba).1).1];exact(ab.fG b o ba).2⟩
theorem Ext.restore (hs:w.heap.size<=w'.heap.size)(hk:∀b,b<w.heap.size->w'.heap[b]? =w.heap[b]?)(h1:w'.os=w.os)(ar:w'.output=w.output)(m n:Nat):Ext G w G w' m n:=
 ⟨hs,h1,ar,fun b hb _=>hk b hb,.refl _,fun _ h hb=>.inl ⟨h,hb,.inl rfl⟩,fun _ h=>h,fun _ h=>.inl h⟩
theorem Ext.Ye{m n:Nat}(ab:a8 C fid G H w)(h:Ext G w G' w' m n)(hm:H.length<=m):∀b,b<w.heap.size->w'.heap[b]? =w.heap[b]? :=fun b hb=>
 h.keep b hb fun l x e _=>.inr (r3 (ab.lt e) hm)
theorem Yf{o:Oper}{ρ:Operand->Value}{f:Operand}{args:Array Operand}{ts:Array TypeId}(ho:o.op=.call {callee:=.value f,args,argTypes:=ts}){P:Program}{w:World}{d:Deferred}
  (hd:(Deferred.ofValue (ρ f) (args.map ρ)).run P w=.ok d w):(execOp ρ o).run P w=(invoke d.target d.args).run P w:=by
 unfold execOp;simp only[ho,resolve,Sem.run_bind,hd,Result.andThen]
section
variable{vars:List Nat}{ah:aj->V}{ρ:Operand->Value}{low low':Nat}{v:V}{o:Oper}{call:cW}
theorem PW (bC:e7 C fid)(bb:gS C fid call)(ab:a8 C fid G H w)(aP:fB C fid vars G w ah ρ)(kH:low<=H.length)
  (he:cc call ah H low (C.op vars o.pos o.op)=some (v,H',low')):ss C.P (k7 C fid G H w v H' low') ((execOp ρ o).run C.P w):=by
 have amh:(∀raw f args,C.op vars o.pos o.op≠ .call raw f args)->ss C.P (k7 C fid G H w v H' low') ((execOp ρ o).run C.P w):=fun bg=>by
  rw[Ai bg]at he;obtain⟨x,aG,az,hr,h1,h2,ar,-,-⟩:=al9 bC ab aP kH he;rcases hr with hr|⟨hr,rfl⟩
  ·rw[hr];exact⟨az,h1,h2,ar⟩
  ·rw[hr];exact⟨az,h1,h2,ar⟩
 by_cases bg:∃raw f args,C.op vars o.pos o.op=.call raw f args
 ·obtain⟨raw,mm,PX,dy⟩:=bg
  have cP:C.cX vars o.pos o.op=some (.call raw mm PX):=by
   unfold Ctx.op at dy;cases h:C.cX vars o.pos o.op with
   |none=>rw[h]at dy;cases dy
   |some a=>rw[h]at dy;simp only[oB]at dy;rw[dy]
  obtain⟨f,args,ts,ho,ag,vb⟩:∃f args ts,o.op=.call {callee:=.value f,args,argTypes:=ts}/\C.cg vars f=some mm/\dM (C.cg vars) args.toList=some PX:=by
   cases ho:o.op with
   |call c=>
    rw[ho]at cP;obtain⟨callee,args,dU⟩:=c;cases callee with
    |value f=>
     simp only[Ctx.cX]at cP;split at cP
     ·rename_i h1 h2
      simp only[aB,cV.call.injEq]at cP;obtain⟨-,rfl,rfl⟩:=cP;exact⟨f,args,dU,rfl,h1,h2⟩
     ·cases cP
    |builtin b=>
     exfalso;simp only[Ctx.cX]at cP;unfold Ctx.builtin at cP
     repeat' split at cP
     all_goals first
      |(cases cP;done)
      |(simp only[aB,reduceCtorEq]at cP;done)
      |(obtain⟨_,_,h⟩:=cA.1 cP;cases h;done)
    |invoke r n=>simp[Ctx.cX]at cP
   |binOp a b c d e=>
    exfalso;rw[ho]at cP;simp only[Ctx.cX,Ctx.zS]at cP
    repeat' split at cP
    all_goals first
     |(cases cP;done)
     |(obtain⟨_,_,h⟩:=cA.1 cP;cases h;done)
   |makeFunc g a b=>
    exfalso;rw[ho]at cP;cases g with
    |func f=>
     simp only[Ctx.cX]at cP;split at cP<;>simp at cP
    | _=>simp[Ctx.cX]at cP
   |makeMap t r=>
    exfalso;rw[ho]at cP;cases r<;>simp[Ctx.cX]at cP
   | _=>
     exfalso;rw[ho]at cP;simp only[Ctx.cX]at cP
     repeat' split at cP
     all_goals first
      |(cases cP;done)
      |(obtain⟨_,_,h⟩:=cA.1 cP;cases h;done)
  have Ak:=aP f mm ag;have gi:a6 fid G w (PX.map ah) (args.map ρ).toList:=by rw[Om];exact KF aP vb
  rw[dy]at he;have tD:(⟨(args.map ρ).toList⟩:Array Value)=args.map ρ:=rfl;cases raw with
  |true=>
   simp only[cc]at he;split at he
   ·rename_i u H2 l h1
    cases he;obtain⟨d,hd,hn,-⟩:=bb.run ab Ak gi h1;rw[tD]at hd;rw[Yf ho hd];refine hn.mono fun x bR hp=> ?_;obtain⟨bu,p1,p2,p3⟩:=hp;exact⟨bu,p1,fun m hm=>p2 m (by omega),p3⟩
   ·cases he
  |false=>
   simp only[cc]at he;split at he
   ·rename_i vs H1 bO aR
    obtain⟨az,fz,sk⟩:=Pf ab gi aR;have PY:=Ak.ext ab (fz.ext 0 (by omega));split at he
    ·rename_i u H2 l h1
     obtain⟨d,hd,hn,-⟩:=bb.run fz.rel PY sk h1;rw[tD]at hd;rw[Yf ho hd];refine hn.mono fun x bR hp=> ?_;obtain⟨bu,p1,p2,p3⟩:=hp;split at he
     ·rename_i hc
      cases he;have c5:=p2 H1.length hc.2;have hk:=c5.Ye fz.rel (aH _);exact⟨G,ab.restore c5.size hk,fun m _=>.restore c5.size hk c5.os c5.output m _,p3.flat hc.1⟩
     ·cases he
      exact⟨bu,p1,fun m hm=>(fz.ext m (by omega)).trans ((p2 m (by omega)).le (aH _) (Nat.le_of_eq fz.len.symm)),p3⟩
    ·cases he
   ·cases he
 ·exact amh fun raw f args h=>bg ⟨raw,f,args,h⟩
end
end Go.Abs
