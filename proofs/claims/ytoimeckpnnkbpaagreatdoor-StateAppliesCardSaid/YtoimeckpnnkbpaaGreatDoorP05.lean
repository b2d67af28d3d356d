/- Texts of this claim, joined and written short by a program. -/
import Derived.Test.YtoimeckpnnkbpaaGreatDoorP04
import Derived.Laws.BytesString
import Derived.Test.YtoimeckpnnkbpaaGreatDoorP00
import Derived.RangeFuncRecord
import Derived.OrdersIn
set_option linter.unusedVariables false
set_option linter.unusedSimpArgs false
set_option linter.unusedSectionVars false
namespace Go.Abs
open Go
variable{C:Ctx}{fid:Nat->Nat}{w w':World}{G G':bX}{H:Heap}
variable{vars:List Nat}{ae:ag->V}{ρ:Operand->Value}{low low':Nat}{v:V}{H':Heap}{pos:String}{c8:cH}{o:Oper}
theorem Sk:∀{ds:List V} {s:List UInt8} {vals:List Value},bytesOf ds=some s->aY fid G w (ds.flatMap aE) vals->∃mZ:List Int,vals=mZ.map (Value.int .u8)/\s=mZ.map fun n=>UInt8.ofNat n.toNat
 |[],s,vals,h,hr=>by
  simp only[bytesOf,az]at h;subst h;cases hr;exact⟨[],rfl,rfl⟩
 |d::ds,s,vals,h,hr=>by
  unfold bytesOf at h;split at h
  ·rename_i q;cases q
  ·rename_i n r q
   cases q;obtain⟨t,ht,rfl⟩:=ct.1 h;simp only[kn,aE,jz,jB]at hr;cases hr with
   |cons _ x _ xs hx hs=>
    obtain⟨mZ,rfl,rfl⟩:=Sk ht hs;exact⟨n::mZ,by rw[hx.jE];rfl,rfl⟩
  ·cases h
theorem Sl:∀(mZ:List Int) (b:ByteArray),mZ.foldl (fun r n=>r.push (UInt8.ofNat n.toNat)) b=⟨(b.data.toList++mZ.map fun n=>UInt8.ofNat n.toNat).toArray⟩
 |[],b=>by simp
 |n::mZ,b=>by
  simp only[qu,Sl mZ,eo];congr 1;simp[ByteArray.push]
theorem adn (U:aZ C fid G H w)(aL:fh C fid vars G w ae ρ){s d:TypeId}{x:Operand}(ho:o.op=.convert s d x){cv:ag}(hc:C.cI vars pos o.op=some (.uf cv))(he:step ae H low (.uf cv)=some (v,H',low')):
  dj C fid G H w low ((execOp ρ o).run C.P w) v H' low':=by
 rw[ho]at hc;simp only[Ctx.cI]at hc;split at hc
 ·cases hc
 ·rename_i e ado h1 h2 ar
  split at hc
  ·rename_i aQ
   simp only[az,cH.uf.injEq]at hc;subst hc;have ad:=aL x ado ar;simp only[step]at he;split at he
   ·rename_i ds hd
    obtain⟨t,ht,he⟩:=ct.1 he;simp only[bt]at he;obtain⟨rfl,rfl,rfl⟩:=he;obtain⟨dc,cap,hx,bc⟩:=Gm U ad hd
    have cr:(convert s d (ρ x)).run C.P w=.ok (.string ⟨t.toArray⟩) w:=by
     rw[hx,run_convert_bytes_string w s d e dc ds.length cap h1 aQ h2];cases dc with
     |none=>
      have:ds=[]:=by
       cases sX:ds with
       |nil=>rfl
       |cons a r=>
        obtain⟨b,off,vals,hb,-⟩:=bc (by rw[sX];simp);cases hb
      subst this;simp only[bytesOf,az]at ht;subst ht;simp[Conv.bytesToString,Sem.run_pure];rfl
     |some a=>
      have key:∃mZ:List Int,(loadCells a ds.length).run C.P w=.ok (mZ.map (Value.int .u8)).toArray w/\t=mZ.map fun n=>UInt8.ofNat n.toNat:=by
       by_cases bf:ds=[]
       ·subst bf
        simp only[bytesOf,az]at ht;subst ht;exact⟨[],by simp[loadCells,loadCellsFrom,Sem.run_pure],rfl⟩
       ·obtain⟨b,off,vals,hb,hG,fg,hu⟩:=bc bf
        cases hb;obtain⟨mZ,rfl,hs⟩:=Sk ht fg;refine⟨mZ,?_,hs⟩
        have hl:ds.length=(mZ.map (Value.int .u8)).length:=by
         have:=fg.length;rw[nv hu]at this;simpa using this.symm
        rw[hl];exact run_loadCells_list (P:=C.P) w ⟨b,off,none⟩ _ (fun j v hj=>by rw[Addr.add_lit];exact hG j v hj)
      obtain⟨mZ,h5,rfl⟩:=key;rw[run_bytesToString w a ds.length cap mZ h5,Sl];simp
    exact .same U (x:=.string ⟨t.toArray⟩) (by unfold execOp;rw[ho];simp only[Sem.run_bind,cr];rfl) (by
     have:=a8.p (fid:=fid) (G:=G) (w:=w) (.str t) _ (.str t);exact this)
   ·cases he
  ·cases hc
 ·cases hc
theorem Ax{bK:Nat}{k:V}:∀{bb:List (V × V)},h4 bK k bb=some none->iy bK k bb=bb
 |[],_=>rfl
 |(bp,v)::r,h=>by
  simp only[h4]at h;split at h
  ·cases h
  ·rename_i he
   simp[iy,he,Ax h]
  ·cases h
theorem Lr{k:TypeId}{bK:Nat}{d:TypeDesc}(cW:C.jd k=some bK)(hd:C.P.underlying k=some d){a:V}{x:Value}(ao:a8 fid G w a x):∀{bb:List (V × V)} {es:List MapEntry} (i:Nat) {r:V} {j:Nat} {z:Value},
  aY fid G w (bb.map (·.1)) (es.map (·.key))->aY fid G w (bb.map (·.2)) (es.map (·.val))->h4 bK a bb=some (some r)->Instr.findNow d x es i=some (some (i+j,z))->
  aY fid G w ((iy bK a bb).map (·.1)) ((es.eraseIdx j).map (·.key))/\aY fid G w ((iy bK a bb).map (·.2)) ((es.eraseIdx j).map (·.val))
 |[],[],i,r,j,z,_,_,h,_=>by simp[h4]at h
 |[],_::_,_,_,_,_,h,_,_,_=>by simp at h;cases h
 | _::_,[],_,_,_,_,h,_,_,_=>by simp at h;cases h
 |(bp,u')::bb,e::es,i,r,j,z,ef,cS,h,ab=>by
  simp only[eo]at ef cS;cases ef with
  |cons _ _ _ _ il ef=>
   cases cS with
   |cons _ _ _ _ qJ cS=>
    simp only[h4]at h;split at h
    ·rename_i he
     obtain⟨hs,-⟩:=wC cW hd ao il he;simp only[Instr.findNow,hs,az,bt]at ab;obtain rfl:j=0:=by omega
     simp only[iy,he,if_true,aa3];exact⟨ef,cS⟩
    ·rename_i he
     obtain⟨hs,-⟩:=wC cW hd ao il he;simp only[Instr.findNow,hs]at ab;have im:=qK cW hd ao (i+1) ef cS h;obtain⟨uL,n8,h1,-,-⟩:=im;rw[h1]at ab;simp only[az,bt]at ab;obtain⟨hj,rfl⟩:=ab;obtain rfl:j=uL+1:=by omega
     have ih:=Lr cW hd ao (i+1) ef cS h h1;have bf:¬(ix bK a bp=some true):=by rw[he];simp
     simp only[iy,bf,if_false,eo,aa4];exact⟨.cons _ _ _ _ il ih.1,.cons _ _ _ _ qJ ih.2⟩
    ·cases h
theorem n0.erase{es:Array MapEntry}{bE:Nat}(h:n0 es bE)(j:Nat):n0 (es.eraseIdxIfInBounds j) bE:=by
 have hs:(es.eraseIdxIfInBounds j).toList.Sublist es.toList:=by
  rw[aaX];exact List.eraseIdx_sublist _ _
 exact⟨fun x hx=>h.1 x (hs.subset hx),h.2.sublist (hs.map _)⟩
theorem adp (U:aZ C fid G H w)(aL:fh C fid vars G w ae ρ){m k:Operand}{t ei rO:TypeId}{u:TypeId}{ts:Array TypeId}(hd:C.P.underlying t=some (.map ei rO))(ht:ts= #[t,u]){am gX:ag}{bK:Nat}(ho:o.op=.call {callee:=.builtin .delete,args:= #[m,k],argTypes:=ts})
  (h1:C.b3 vars m=some am) (h2:C.b3 vars k=some gX) (gp:C.jd ei=some bK) (he:step ae H low (.xK bK am gX)=some (v,H',low')):dj C fid G H w low ((execOp ρ o).run C.P w) v H' low':=by
 subst ht;have hm:=aL m am h1;have cW:=aL k gX h2;obtain⟨Gt,iP⟩:=Gs gp
 have cr:(execOp ρ o).run C.P w=((Builtin.delete_ #[t,u] o.type #[ρ m,ρ k]).run C.P w).andThen fun z w'=>.ok (.value z) w':=by
  rw[x4 ho];simp only[builtin,Sem.run_bind,Ko,eo,mT];rfl
 simp only[step]at he;split at he
 ·rename_i af
  simp only[az,bt]at he;obtain⟨rfl,rfl,rfl⟩:=he;rw[af]at hm;have hx:=hm.K3;refine .same U (x:=.tuple #[]) ?_ (.aU [] [] .nil);rw[cr,hx];unfold Builtin.delete_;simp[run_underlying hd,s4 gp,Sem.run_pure]
 ·rename_i l af
  rw[af]at hm;obtain⟨h0,cY,Sj,eg⟩:=hm.mapInv;split at he
  ·rename_i bb hl
   obtain⟨aP,eM,hr⟩:=U.obj l h0 cY;rw[hl]at eM;cases eM;obtain⟨oY,jh,es,bE,eB,ef,cS,cd⟩:=hr;split at he
   ·rename_i bM iE
    simp only[az,bt]at he;obtain⟨rfl,rfl,rfl⟩:=he;have aX:h0.b<w.heap.size:=U.blk l h0 cY
    have fin:∀(s5:Obj) (bD:Array MapEntry),s5=.map bD bE->(Builtin.delete_ #[t,u] o.type #[ρ m,ρ k]).run C.P w=.ok (.tuple #[]) {w with heap:=w.heap.setIfInBounds h0.b s5}->
      aY fid G w ((iy bK (ae gX) bb).map (·.1)) (bD.toList.map (·.key))->aY fid G w ((iy bK (ae gX) bb).map (·.2)) (bD.toList.map (·.val))->n0 bD bE->
      dj C fid G H w low ((execOp ρ o).run C.P w) (.aU []) (H.set l (.map (iy bK (ae gX) bb))) (min low l):=by
     rintro s5 bD rfl pI wE x8 x9
     have uM:∀b,b≠h0.b->({w with heap:=w.heap.setIfInBounds h0.b (.map bD bE)}:World).heap[b]? =w.heap[b]? :=fun b bf=>by
      show(w.heap.setIfInBounds h0.b _)[b]? =_;rw[QC (kp bf)]
     have Aw:({w with heap:=w.heap.setIfInBounds h0.b (.map bD bE)}:World).heap[h0.b]? =some (.map bD bE):=by
      show(w.heap.setIfInBounds h0.b _)[h0.b]? =_;simp[aX]
     have dJ:({w with heap:=w.heap.setIfInBounds h0.b (.map bD bE)}:World).heap.size=w.heap.size:=by simp
     have dW:Ext G w ⟨ck G.β l h0,G.I⟩ {w with heap:=w.heap.setIfInBounds h0.b (.map bD bE)} l H.length:=
      Ext.write U cY jh rfl (aK _) id rfl dJ uM rfl rfl
     refine⟨.tuple #[],_,_,.inl (by rw[cr,pI];rfl),aZ.write U cY jh rfl jh (aK _) id rfl dJ uM (.map (iy bK (ae gX) bb)) ⟨oY,jh,bD,bE,Aw,wE.ext U dW,x8.ext U dW,x9⟩,
      fun m hm=>dW.le (cV hm (qt _ _)) (aK _),.aU [] [] .nil,jU _ _,by simp⟩
    cases bM with
    |none=>
     have ab:=qK gp iP cW 0 ef cS iE;refine fin _ es rfl ?_ (by rw[Ax iE];exact ef) (by rw[Ax iE];exact cS) cd;unfold Builtin.delete_;simp only[eg];simp[run_underlying hd,wD eB,s4 gp,uK (C:=C) iP ab,Av _ eB,Sem.run_pure]
    |some r=>
     obtain⟨j,y,ab,-,-⟩:=qK gp iP cW 0 ef cS iE;obtain⟨s1,s2⟩:=Lr gp iP cW 0 ef cS iE ab;rw[eO]at ab;refine fin _ (es.eraseIdxIfInBounds j) rfl ?_ (by simpa using s1) (by simpa using s2) (cd.erase _);unfold Builtin.delete_;simp only[eg];simp[run_underlying hd,wD eB,s4 gp,uK (C:=C) iP ab,Av _ eB,Sem.run_pure]
   ·cases he
  ·cases he
 ·cases he
theorem Ls{P:Program}{w:World}(s:ByteArray):(Builtin.lenOf (.string s)).run P w=.ok s.size w:=rfl
theorem Sm{P:Program}{t u ty e:TypeId}{i:TypeInfo}(hd:P.underlying t=some (.slice e))(hu:P.underlying u=some .string)(hi:P.info? e=some i){base:Option Addr}{sLen sCap n:Nat}{s:ByteArray}{news:List Value}(hn:s.size=n)
  (hx:(Builtin.firstCells i.size n (.string s)).run P w=.ok news.toArray w) (lW:sLen+n<=sCap):
  (Builtin.append_ #[t,u] ty #[.slice base sLen sCap,.string s]).run P w=
    ((match base with|some a=>storeCells (a.add (sLen*i.size)) news|none=>pure ()).run P w).andThen fun _ w'=>.ok (.slice base (sLen+n) sCap) w':=by
 subst hn;cases base with
 |none=>simp[Builtin.append_,run_underlying hd,run_underlying hu,sizeOf,typeInfo,hi,Ls,lW,hx]
 |some a=>simp[Builtin.append_,run_underlying hd,run_underlying hu,sizeOf,typeInfo,hi,Ls,lW,hx]
theorem Sn{P:Program}{t u ty e:TypeId}{i:TypeInfo}{cE:Value}(hd:P.underlying t=some (.slice e))(hu:P.underlying u=some .string)(hi:P.info? e=some i)(aT:i.zero=some cE)
  {base:Option Addr} {sLen sCap n:Nat} {s:ByteArray} {olds news:List Value} (hn:s.size=n)
  (hx:(Builtin.firstCells i.size n (.string s)).run P w.drew=.ok news.toArray w.drew) (ho:(Builtin.firstCells i.size sLen (.slice base sLen sCap)).run P w.drew=.ok olds.toArray w.drew)
  (lW:sCap<sLen+n) (hb:(sLen+n)*(i.bytes+1)<=1099511627776):
  ∃iD,sLen+n<=iD/\(Builtin.append_ #[t,u] ty #[.slice base sLen sCap,.string s]).run P w=
   .ok (.slice (some ⟨w.heap.size,0,none⟩) (sLen+n) iD) (w.drew.alloc (.cells (olds.toArray++news.toArray++Builtin.zeroCells cE.cells (iD-(sLen+n))) e)):=by
 subst hn;have h1:¬sLen+s.size<=sCap:=by omega
 have hm:(sLen+s.size)*i.bytes+(sLen+s.size)=(sLen+s.size)*(i.bytes+1):=by rw[Nat.mul_succ]
 have h2:¬(((sLen+s.size:Nat):Int)>9223372036854775807):=by omega
 have ar:=growslice_fits (need:=sLen+s.size) (old:=sCap) (bytes:=i.bytes) lW (by omega);have aQ:¬(281474976710656<Builtin.nextslicecap (sLen+s.size) sCap*i.bytes):=by omega
 refine⟨sLen+s.size+(w.tape w.drawn (.appendCap (sLen+s.size) sCap e))%(9223372036854775808-(sLen+s.size)),Kn _ _,?_⟩;have wA:¬(9223372036854775807<(sLen:Int)+(s.size:Int)):=by omega
 simp[Builtin.append_,run_underlying hd,run_underlying hu,sizeOf,typeInfo,hi,Ls,h1,wA,aQ,Question.forced,Question.cut,hx,ho,zeroValue,aT,newRow];congr 2;apply Array.ext';simp
theorem So{P:Program}{w:World}(size:Nat)(s:List UInt8):(Builtin.firstCells size s.length (.string ⟨⟨s⟩⟩)).run P w=.ok (s.map fun b=>Value.int .u8 b.toNat).toArray w:=by
 have:(ByteArray.extract ⟨⟨s⟩⟩ 0 s.length)=⟨⟨s⟩⟩:=by
  apply ByteArray.ext;simp
 simp[Builtin.firstCells,this,Sem.run_pure]
theorem adq (U:aZ C fid G H w)(aL:fh C fid vars G w ae ρ){a b:Operand}{t u e:TypeId}{i:TypeInfo}{cE:Value}{args:Array Operand}{ts:Array TypeId}(ho:o.op=.call {callee:=.builtin .append,args,argTypes:=ts})
  (ao:args= #[a,b]) (ht:ts= #[t,u]) {nz j4:ag} (h1:C.b3 vars a=some nz) (h2:C.b3 vars b=some j4) (hd:C.P.underlying t=some (.slice e)) (hu:C.P.underlying u=some .string) (hi:C.P.info? e=some i)
  (aT:i.zero=some cE) (uH:cE.cells.size=i.size) (sW:i.size=1) (asL:i.bytes=1) (he:step ae H low (.Cj nz j4)=some (v,H',low')):dj C fid G H w low ((execOp ρ o).run C.P w) v H' low':=by
 subst ao;subst ht;have hx:=aL a nz h1;have hy:=aL b j4 h2;have lV:0<i.size:=by omega
 have CP:(execOp ρ o).run C.P w=((Builtin.append_ #[t,u] o.type #[ρ a,ρ b]).run C.P w).andThen fun z w'=>.ok (.value z) w':=by
  rw[x4 ho];simp only[builtin,Sem.run_bind,Ko,eo,mT];rfl
 simp only[step]at he;split at he
 ·rename_i s Lt
  rw[Lt]at hy;have cr:=CP;rw[hy.oS]at cr;have hn:(⟨⟨s⟩⟩:ByteArray).size=s.length:=rfl;split at he
  ·rename_i uI
   have oZ:s=[]:=by simpa using uI
   subst oZ
   have same:∀base n cap,ρ a=.slice base n cap->n<=cap->(execOp ρ o).run C.P w=.ok (.value (ρ a)) w:=by
    intro base n cap hs hle;rw[cr,hs,Sm (P:=C.P) hd hu hi (n:=0) rfl (So i.size []) (by simpa using hle)];cases base<;>simp[storeCells]
   split at he
   ·rename_i af
    simp only[az,bt]at he;obtain⟨rfl,rfl,rfl⟩:=he;rw[af]at hx;exact .same U (same _ _ _ hx.j0 (aK _)) hx
   ·rename_i af
    simp only[az,bt]at he;obtain⟨rfl,rfl,rfl⟩:=he;rw[af]at hx;obtain⟨dc,eg⟩:=hx.rI;exact .same U (same _ _ _ eg (aK _)) hx
   ·rename_i l bD off len tag af
    rw[af]at hx;split at he
    ·rename_i eX ds dt hl
     split at he
     ·rename_i fR
      simp only[az,bt]at he;obtain⟨rfl,rfl,rfl⟩:=he;obtain⟨h0,dc,cJ,cap,cY,rH,jF,eg⟩:=hx.pA;obtain⟨aP,eM,hr⟩:=U.obj l h0 cY;rw[hl]at eM;cases eM;obtain⟨rfl,rfl,-,qG⟩:=jF (hr.1.trans fR);exact .same U (same _ _ _ eg qG) hx
     ·cases he
    ·cases he
   ·cases he
  ·rename_i uI
   have oZ:s≠[]:=by simpa using uI
   generalize eQ:(s.map fun c=>V.int .u8 c.toNat)=eR at he;generalize cS:(s.map fun c=>Value.int .u8 c.toNat)=vals;obtain⟨xs,bF⟩:∃xs:List V,eR.length=xs.length:=⟨eR,rfl⟩;have gY:s.length=xs.length:=by rw[<-bF,<-eQ,oG]
   have bf:0<eR.length:=by rw[<-eQ,oG];exact auG.2 oZ
   have cq:aY fid G w (eR.flatMap aE) vals:=by
    subst eQ;subst cS;clear oZ uI gY bf bF he Lt hy cr hn
    induction s with
    |nil=>exact .nil
    |cons c s ih=>exact .cons _ _ _ _ (.p _ _ (.int _ _)) ih
   have ky:∀d∈eR,(aE d).length=i.size:=by
    intro d hd;rw[<-eQ]at hd;obtain⟨c,-,rfl⟩:=ey.1 hd;rw[sW];rfl
   have bx:bS (eR.flatMap aE)=true:=by
    subst eQ
    have key:∀q:List UInt8,bS ((q.map fun c=>V.int .u8 c.toNat).flatMap aE)=true:=fun q=>by
     induction q with
     |nil=>rfl
     |cons c s ih=>exact(b8 _ _).mpr ⟨rfl,ih⟩
    exact key s
   have wB:∀hF:World,hF.heap=w.heap->(Builtin.firstCells i.size xs.length (.string ⟨⟨s⟩⟩)).run C.P hF=.ok vals.toArray hF:=fun hF _=>by
    rw[<-gY,<-cS];exact So i.size s
   have mG:(⟨⟨s⟩⟩:ByteArray).size=xs.length:=hn.trans gY;have Lu:i.bytes+1=2:=by omega
   rw[<-sW]at he;have Lo:=Sc cq bx;have lX:vals.length=xs.length*i.size:=by rw[cq.length,nv ky,bF]
   have fresh:∀base,ρ a=.slice base 0 0->eR.length*(i.bytes+1)<=1099511627776->dj C fid G H w low ((execOp ρ o).run C.P w) (.cz H.length i.size 0 eR.length eR.length) (H++[.row i.size eR false]) low:=by
    intro base hs hb
    have hold:(Builtin.firstCells i.size 0 (.slice base 0 0)).run C.P w.drew=.ok ([]:List Value).toArray w.drew:=by
     cases base<;>simp[Builtin.firstCells,loadCells,loadCellsFrom]
    obtain⟨iD,e4,pI⟩:=Sn (P:=C.P) (t:=t) (u:=u) (ty:=o.type) hd hu hi aT mG (wB w.drew rfl) hold (by omega) (by rw[eO,<-bF];exact hb);rw[eO,<-bF]at pI e4;refine dj.newRow U (cap:=iD) (e:=e) lV bf ky (vals:=vals) (rest:=(Builtin.zeroCells cE.cells (iD-eR.length)).toList) ?_ cq ?_ e4 (by rw[cr,hs,pI];rfl)
    ·simp
    ·simp only[Cb,zR,ja,eO,Gn,lX,uH,<-bF,<-rC]
     rw[Nat.add_sub_cancel' e4];exact aK _
   split at he
   ·rename_i af
    split at he
    ·rename_i hb
     simp only[az,bt]at he;obtain⟨rfl,rfl,rfl⟩:=he;rw[af]at hx;exact fresh _ hx.j0 (by rw[Lu];exact hb)
    ·cases he
   ·rename_i af
    split at he
    ·rename_i hb
     simp only[az,bt]at he;obtain⟨rfl,rfl,rfl⟩:=he;rw[af]at hx;obtain⟨dc,eg⟩:=hx.rI;exact fresh _ eg (by rw[Lu];exact hb)
    ·cases he
   ·rename_i l bD off len tag af
    rw[af]at hx;split at he
    ·rename_i eX ds hl
     split at he
     ·rename_i ep
      obtain⟨rfl,rfl,fR,rfl,rfl,hb⟩:=ep;simp only[az,bt]at he;obtain⟨rfl,rfl,rfl⟩:=he;obtain⟨h0,dc,cJ,cap,cY,rH,jF,eg⟩:=hx.pA;obtain⟨aP,eM,hr⟩:=U.obj l h0 cY;rw[hl]at eM;cases eM;obtain⟨CN,Sd,hfz,fa,mW,c,uJ,kB,rest,hc,fS,kU,fg⟩:=hr;obtain⟨rfl,rfl,qB,qG⟩:=jF (CN.trans fR);rw[Nat.zero_mul]at eg;rw[eO]at qB;have kW:ds.length=cJ:=fR;have qH:kB.length=cJ*i.size:=by rw[fg.length,nv mW,kW]
      have hG:c.size=kB.length+rest.length:=by rw[<-hB,kU,gM]
      have s0:∀d∈ds++eR,(aE d).length=i.size:=fun d hd=>by
       rcases jA.1 hd with q|q
       ·exact mW d q
       ·exact ky d q
      have CO:aY fid G w ((ds++eR).flatMap aE) (kB++vals):=by rw[Kk];exact fg.append cq
      by_cases lW:cJ+xs.length<=cap
      ·
       have hmul:(cJ+xs.length)*i.size<=c.size:=cV (Ki _ lW) (by rw[<-fS];exact qB);rw[rC]at hmul;have cd:=run_storeCells_at C.P h0.b (cJ*i.size) uJ vals 0 c w hc (by omega) Lo
       have hval:(execOp ρ o).run C.P w=.ok (.value (.slice (some ⟨h0.b,0,none⟩) (cJ+xs.length) cap)) (w.setRow h0.b (c.toList.take (cJ*i.size)++vals++c.toList.drop (cJ*i.size+vals.length)).toArray):=by
        rw[cr,eg,Sm (P:=C.P) hd hu hi mG (wB w rfl) lW];simp only[Addr.add_lit,eO];simp only[zW]at cd;rw[cd];rfl
       have dW:Ext G w ⟨ck G.β l {h0 with tag:=cJ+eR.length},G.I⟩ (w.setRow h0.b (c.toList.take (cJ*i.size)++vals++c.toList.drop (cJ*i.size+vals.length)).toArray) l H.length:=
        Ext.write U cY hfz rfl (by simp only;omega) (fun q=>by omega) rfl (setRow_size _ _) (fun b bf=>setRow_other bf _) rfl rfl
       refine⟨_,_,_,.inl hval,aZ.write U cY hfz (h':={h0 with tag:=cJ+eR.length}) rfl hfz (by simp only;omega) (fun q=>by omega) rfl (setRow_size _ _) (fun b bf=>setRow_other bf _) (.row i.size (ds++eR) false) ?_,
        fun m hm=>dW.le (cV hm (qt _ _)) (aK _),?_,jU _ _,by simp⟩
       ·refine⟨by simp[kW],by simp;omega,hfz,fa,s0,_,uJ,kB++vals,rest.drop vals.length,setRow_heap w h0.b c _ uJ _ hc,?_,?_,CO.ext U dW⟩
        ·show h0.ff=_
         rw[fS];simp only[zR,gM,sM,sN,hB];omega
        ·rw[QJ,kU,<-qH,List.take_left,QS,mS,mS]
         congr 2;rw[aa5 (by omega),jB];congr 1;omega
       ·rw[<-bF]
        exact .cz l i.size 0 _ _ {h0 with tag:=cJ+eR.length} _ _ _ (de _ _ _) (aK _) (fun _=>⟨by simp,rfl,by rw[eO];exact qB,by omega⟩)
      ·
       have hold:(Builtin.firstCells i.size cJ (.slice (some ⟨h0.b,0,none⟩) cJ cap)).run C.P w.drew=.ok kB.toArray w.drew:=
        Ln (iz.xU (w:=w.drew) hc kU) qH
       obtain⟨iD,e4,pI⟩:=Sn (P:=C.P) (t:=t) (u:=u) (ty:=o.type) hd hu hi aT mG (wB w.drew rfl) hold (by omega) (by rw[<-bF,Lu];exact hb);have x7:aZ C fid G H w.drew:=U.lU rfl;have du:∀m n,Ext G w G w.drew m n:=fun m n=>Ext.lU (w:=w) (w':=w.drew) rfl rfl rfl m n
       obtain⟨bA,b9⟩:=aZ.move x7 cY hfz (.cells (kB.toArray++vals.toArray++Builtin.zeroCells cE.cells (iD-(cJ+xs.length))) e) (cJ+eR.length)
        (kB.toArray++vals.toArray++Builtin.zeroCells cE.cells (iD-(cJ+xs.length))).size (by omega) (by omega) (.row i.size (ds++eR) false)
        ⟨by simp[kW],by simp;omega,rfl,fa,s0,_,e,kB++vals,(Builtin.zeroCells cE.cells (iD-(cJ+xs.length))).toList,oQ _ _,rfl,by simp,aY.mono (G:=G) (w:=w.drew) (G':=⟨ck G.β l ⟨w.drew.heap.size,cJ+eR.length,(kB.toArray++vals.toArray++Builtin.zeroCells cE.cells (iD-(cJ+xs.length))).size,false⟩,G.I⟩) (by
         intro x fj dI;by_cases jH:x=l
         ·subst jH;rw[cY]at dI;cases dI
          exact⟨_,de _ _ _,by simp only;omega,fun q=>by omega,fun q=>by simp only at q;omega,fun q=>by rw[hfz]at q;cases q⟩
         ·exact⟨fj,by simp only[dp jH];exact dI,aK _,id,fun _=>⟨rfl,rfl⟩,fun _=>rfl⟩) (fun b s3=>⟨s3,alloc_old (w:=w.drew) (x7.cX b s3).1⟩) (CO.ext U (du 0 0))⟩
       refine⟨_,_,_,.inl (by rw[cr,eg,pI];rfl),bA,fun m hm=>(du m H.length).trans (b9.le (cV hm (qt _ _)) (aK _)),?_,jU _ _,by simp⟩;rw[<-bF];refine .cz l i.size 0 _ _ ⟨w.drew.heap.size,cJ+eR.length,_,false⟩ _ _ _ (de _ _ _) (aK _) (fun _=>⟨by simp,rfl,?_,by omega⟩);simp only[Cb,zR,Gn,lX,qH,uH,<-rC,eO];have uD:cJ+xs.length+(iD-(cJ+eR.length))=iD:=by omega
       rw[uD];exact aK _
     ·cases he
    ·cases he
   ·cases he
 ·cases he
end Go.Abs
namespace Go.Abs
open Go
variable{C:Ctx}{fid:Nat->Nat}{w w':World}{G G':bX}{H:Heap}
section
variable{vars:List Nat}{ae:ag->V}{ρ:Operand->Value}{low low':Nat}{v:V}{H':Heap}{o:Oper}
theorem dj.aC7 (U:aZ C fid G H w){low:Nat}{r:Result Next}{s:List UInt8}{c:Array Value}{rest:List Value}{cap:Nat}(hn:0<s.length)
  (hc:c.toList=(s.map fun b=>Value.int .u8 b.toNat)++rest) (e4:cap<=c.size) (hle:s.length<=cap)
  (hr:r=.ok (.value (.slice (some ⟨w.heap.size,0,none⟩) s.length cap)) (w.drew.alloc (.cells c C.afE))):
  dj C fid G H w low r (.cz H.length 1 0 s.length s.length) (H++[.Nk s]) low:=by
 have l1:aZ C fid G H w.drew:=U.lU rfl;have du:∀m n,Ext G w G w.drew m n:=fun m n=>Ext.lU (w:=w) (w':=w.drew) rfl rfl rfl m n;refine⟨_,_,⟨ck G.β H.length ⟨w.drew.heap.size,s.length,c.size,false⟩,G.I⟩,.inl hr,l1.push _ _ s.length c.size ⟨rfl,rfl,hn,c,rest,oQ _ _,rfl,hc⟩,fun m _=>(du m H.length).trans (Ext.push l1 _ _ _ m),?_,aK _,by simp⟩;exact .cz _ 1 0 _ _ ⟨w.drew.heap.size,s.length,c.size,false⟩ _ _ _ (de _ _ _) (aK _) (fun _=>⟨by simp,rfl,by rw[eO,Nat.mul_one];exact e4,hle⟩)
theorem aC8 (U:aZ C fid G H w)(aL:fh C fid vars G w ae ρ){a b:Operand}{t u e:TypeId}{i:TypeInfo}{cE:Value}{args:Array Operand}{ts:Array TypeId}(ho:o.op=.call {callee:=.builtin .append,args,argTypes:=ts})
  (ao:args= #[a,b]) (ht:ts= #[t,u]) {nz j4:ag} (h1:C.b3 vars a=some nz) (h2:C.b3 vars b=some j4) (hd:C.P.underlying t=some (.slice e)) (hu:C.P.underlying u=some .string) (hi:C.P.info? e=some i)
  (aT:i.zero=some cE) (uH:cE.cells.size=i.size) (sW:i.size=1) (asL:i.bytes=1) (aed:e=C.afE) (he:step ae H low (.au6 nz j4)=some (v,H',low')):dj C fid G H w low ((execOp ρ o).run C.P w) v H' low':=by
 subst ao;subst ht;subst aed;have hx:=aL a nz h1;have hy:=aL b j4 h2
 have cr:(execOp ρ o).run C.P w=((Builtin.append_ #[t,u] o.type #[ρ a,ρ b]).run C.P w).andThen fun z w'=>.ok (.value z) w':=by
  rw[x4 ho];simp only[builtin,Sem.run_bind,Ko,eo,mT];rfl
 have Lo:∀s:List UInt8,∀x∈s.map (fun b=>Value.int .u8 b.toNat),x.oneCell'=true:=fun s x hx=>by
  obtain⟨b,-,rfl⟩:=ey.1 hx;rfl
 simp only[step]at he;split at he
 ·rename_i s af e2
  rw[af]at hx;rw[e2]at hy;rw[hy.oS,hx.j0]at cr;split at he
  ·rename_i uI
   have oZ:s=[]:=by simpa using uI
   subst oZ;simp only[az,bt]at he;obtain⟨rfl,rfl,rfl⟩:=he;refine .same U (x:=.slice none 0 0) ?_ (.p _ _ .cp);rw[cr,Sm (P:=C.P) hd hu hi (n:=0) rfl (So i.size []) (by simp)];rfl
  ·rename_i uI
   have oZ:s≠[]:=by simpa using uI
   split at he
   ·rename_i hb
    simp only[az,bt]at he;obtain⟨rfl,rfl,rfl⟩:=he;have lV:0<s.length:=auG.2 oZ
    obtain⟨iD,e4,pI⟩:=Sn (P:=C.P) (t:=t) (u:=u) (ty:=o.type) (w:=w) (base:=none) (sLen:=0) (sCap:=0) (n:=s.length) (s:=⟨⟨s⟩⟩) (olds:=[]) hd hu hi aT rfl (So i.size s)
     (by simp[Builtin.firstCells,loadCells,loadCellsFrom]) (by omega) (by rw[asL];omega)
    rw[eO]at pI e4;refine dj.aC7 U (cap:=iD) (rest:=(Builtin.zeroCells cE.cells (iD-s.length)).toList) lV ?_ ?_ e4 (by rw[cr,pI];rfl)
    ·simp
    ·simp only[Cb,zR,ja,oG,eO,Gn,uH,sW]
     omega
   ·cases he
 ·rename_i l es off len tag s af e2
  rw[af]at hx;rw[e2]at hy;rw[hy.oS]at cr;split at he
  ·rename_i r hl
   split at he
   ·rename_i ep
    obtain⟨uI,rfl,rfl,rfl,fR,hb⟩:=ep;have oZ:s≠[]:=by simpa using uI
    have lV:0<s.length:=auG.2 oZ;simp only[az,bt]at he;obtain⟨rfl,rfl,rfl⟩:=he;obtain⟨h0,dc,cJ,cap,cY,rH,jF,eg⟩:=hx.pA;obtain⟨aP,eM,hr⟩:=U.obj l h0 cY;rw[hl]at eM;cases eM;obtain⟨hfz,CN,ayb,c,rest,hc,fS,kU⟩:=hr;obtain⟨rfl,rfl,qB,qG⟩:=jF (CN.trans fR);rw[Nat.zero_mul]at eg;rw[eO,Nat.mul_one]at qB;subst fR;have hG:c.size=r.length+rest.length:=by rw[<-hB,kU,gM,oG]
    by_cases lW:r.length+s.length<=cap
    ·have cd:=run_storeCells_at C.P h0.b (r.length*i.size) C.afE (s.map fun b=>Value.int .u8 b.toNat) 0 c w hc (by rw[oG,sW];omega) (Lo s)
     have hval:(execOp ρ o).run C.P w=.ok (.value (.slice (some ⟨h0.b,0,none⟩) (r.length+s.length) cap)) (w.setRow h0.b (c.toList.take (r.length*i.size)++(s.map fun b=>Value.int .u8 b.toNat)++c.toList.drop (r.length*i.size+(s.map fun b=>Value.int .u8 b.toNat).length)).toArray):=by
      rw[cr,eg,Sm (P:=C.P) hd hu hi (n:=s.length) rfl (So i.size s) lW];simp only[Addr.add_lit,eO];simp only[zW]at cd;rw[cd];rfl
     have dW:Ext G w ⟨ck G.β l {h0 with tag:=r.length+s.length},G.I⟩ (w.setRow h0.b (c.toList.take (r.length*i.size)++(s.map fun b=>Value.int .u8 b.toNat)++c.toList.drop (r.length*i.size+(s.map fun b=>Value.int .u8 b.toNat).length)).toArray) l H.length:=
      Ext.write U cY hfz rfl (by simp only;omega) (fun q=>by omega) rfl (setRow_size _ _) (fun b bf=>setRow_other bf _) rfl rfl
     refine⟨_,_,_,.inl hval,aZ.write U cY hfz (h':={h0 with tag:=r.length+s.length}) rfl hfz (by simp only;omega) (fun q=>by omega) rfl (setRow_size _ _) (fun b bf=>setRow_other bf _) (.Nk (r++s)) ?_,
      fun m hm=>dW.le (cV hm (qt _ _)) (aK _),?_,jU _ _,by simp⟩
     ·refine⟨hfz,by simp,by simp;omega,_,rest.drop s.length,setRow_heap w h0.b c _ _ _ hc,?_,?_⟩
      ·show h0.ff=_
       rw[fS];simp only[zR,gM,sM,sN,hB,oG,sW];omega
      ·have bT:r.length*i.size=(r.map fun b=>Value.int .u8 b.toNat).length:=by rw[sW,oG,Nat.mul_one]
       rw[QJ,kU,bT,List.take_left,QS,nW,mS,mS];congr 2;rw[aa5 (by omega),jB,oG,oG];congr 1;omega
     ·exact .cz l 1 0 _ _ {h0 with tag:=r.length+s.length} _ _ _ (de _ _ _) (aK _) (fun _=>⟨by simp,rfl,by rw[eO,Nat.mul_one];exact qB,lW⟩)
    ·have hold:(Builtin.firstCells i.size r.length (.slice (some ⟨h0.b,0,none⟩) r.length cap)).run C.P w.drew=.ok (r.map fun b=>Value.int .u8 b.toNat).toArray w.drew:=
      Ln (iz.xU (w:=w.drew) hc kU) (by rw[oG,sW,Nat.mul_one])
     obtain⟨iD,e4,pI⟩:=Sn (P:=C.P) (t:=t) (u:=u) (ty:=o.type) (w:=w) (n:=s.length) (s:=⟨⟨s⟩⟩) hd hu hi aT rfl (So i.size s) hold (by omega) (by rw[asL];exact hb);have x7:aZ C fid G H w.drew:=U.lU rfl;have du:∀m n,Ext G w G w.drew m n:=fun m n=>Ext.lU (w:=w) (w':=w.drew) rfl rfl rfl m n
     obtain⟨bA,b9⟩:=aZ.move x7 cY hfz (.cells ((r.map fun b=>Value.int .u8 b.toNat).toArray++(s.map fun b=>Value.int .u8 b.toNat).toArray++Builtin.zeroCells cE.cells (iD-(r.length+s.length))) C.afE) (r.length+s.length)
      ((r.map fun b=>Value.int .u8 b.toNat).toArray++(s.map fun b=>Value.int .u8 b.toNat).toArray++Builtin.zeroCells cE.cells (iD-(r.length+s.length))).size (by omega) (by omega) (.Nk (r++s))
      ⟨rfl,by simp,by simp;omega,_,(Builtin.zeroCells cE.cells (iD-(r.length+s.length))).toList,oQ _ _,rfl,by simp⟩
     refine⟨_,_,_,.inl (by rw[cr,eg,pI];rfl),bA,fun m hm=>(du m H.length).trans (b9.le (cV hm (qt _ _)) (aK _)),?_,jU _ _,by simp⟩;refine .cz l 1 0 _ _ ⟨w.drew.heap.size,r.length+s.length,_,false⟩ _ _ _ (de _ _ _) (aK _) (fun _=>⟨by simp,rfl,?_,e4⟩);simp only[Cb,zR,oG,Gn,uH,sW];omega
   ·cases he
  ·cases he
 ·cases he
end
end Go.Abs
namespace Go.Abs
open Go
variable{C:Ctx}{fid:Nat->Nat}{w w':World}{G G':bX}{H:Heap}
section
variable{vars:List Nat}{ae:ag->V}{ρ:Operand->Value}{low low':Nat}{v:V}{H':Heap}{pos:String}{c8:cH}{o:Oper}
theorem s6{α:Type}{a:Array α}{x y:α}(h:a.toList=[x,y]):a= #[x,y]:=by cases a;simp_all
theorem Ay{α:Type}{a:Array α}{x:α}(h:a.toList=[x]):a= #[x]:=by cases a;simp_all
theorem adr (U:aZ C fid G H w)(aL:fh C fid vars G w ae ρ){b:Builtin}{args:Array Operand}{ts:Array TypeId}(ho:o.op=.call {callee:=.builtin b,args,argTypes:=ts})
  (hc:C.builtin vars pos b args ts=some c8) (he:step ae H low c8=some (v,H',low')):dj C fid G H w low ((execOp ρ o).run C.P w) v H' low':=by
 unfold Ctx.builtin at hc;split at hc
 ·rename_i x t ao ht
  split at hc
  ·rename_i hu
   obtain⟨cv,hx,rfl⟩:=ct.1 hc;exact Li U aL ho (Ay ao) (Ay ht) hx (by simpa using hu) he
  ·rename_i e hu
   obtain⟨cv,hx,rfl⟩:=ct.1 hc;exact Li U aL ho (Ay ao) (Ay ht) hx (by simpa using⟨e,hu⟩) he
  ·rename_i k e hu
   obtain⟨cv,hx,rfl⟩:=ct.1 hc;exact Li U aL ho (Ay ao) (Ay ht) hx (by simpa using⟨k,e,hu⟩) he
  ·cases hc
 ·rename_i a b t u ao ht
  split at hc
  ·rename_i e e' h1 h2
   split at hc
   ·rename_i i nz j4 hi hx hy
    split at hc
    ·cases hc
    ·rename_i hn
     simp only[az]at hc
     have Az:i.size≠0/\i.zero.map (fun z=>z.cells.size)=some i.size:=by
      simp only[ko,decide_eq_true_eq,bne_iff_ne,ne_eq,not_or,Decidable.not_not]at hn;exact hn
     obtain⟨cE,aT,uH⟩:=ct.1 Az.2;split at hc
     ·subst hc;exact ag4 U aL ho (s6 ao) (s6 ht) hx hy h1 h2 hi aT uH (QN Az.1) he
     ·subst hc;exact ada U aL ho (s6 ao) (s6 ht) hx hy h1 h2 hi aT uH (QN Az.1) he
   ·cases hc
  ·rename_i e h1 h2
   split at hc
   ·rename_i i nz j4 hi hx hy
    split at hc
    ·rename_i hn
     simp only[az]at hc;simp only[b8,beq_iff_eq]at hn;obtain⟨⟨lk,Gv⟩,Gw⟩:=hn;have lk:i.size=1:=by simpa using lk
     obtain⟨cE,aT,uH⟩:=ct.1 Gw;split at hc
     ·rename_i aed
      subst hc;simp only[b8,beq_iff_eq]at aed;exact aC8 U aL ho (s6 ao) (s6 ht) hx hy h1 h2 hi aT (by rw[uH,lk]) lk Gv aed.2 he
     subst hc;exact adq U aL ho (s6 ao) (s6 ht) hx hy h1 h2 hi aT (by rw[uH,lk]) lk Gv he
    ·cases hc
   ·cases hc
  ·cases hc
 ·rename_i m k t u ao ht
  split at hc
  ·rename_i ei rO am gX h1 h2 ar
   obtain⟨bK,gp,rfl⟩:=ct.1 hc;have gv:=s6 ao;subst gv;exact adp U aL h1 (s6 ht) ho h2 ar gp he
  ·cases hc
 ·cases hc
 ·rename_i a b ao
  split at hc
  ·rename_i nz j4 hx hy
   simp only[az]at hc;subst hc;exact R0 U aL ho (s6 ao) (mx:=true) rfl hx hy he
  ·cases hc
 ·rename_i a b t u ao ht
  split at hc
  ·rename_i e e' h1 h2
   split at hc
   ·rename_i n nz j4 hi hx hy
    split at hc
    ·cases hc
    ·simp only[az]at hc;subst hc
     exact ade (e':=e') U aL ho (s6 ao) (s6 ht) hx hy h1 hi he
   ·cases hc
  ·cases hc
 ·rename_i a b ao
  split at hc
  ·rename_i nz j4 hx hy
   simp only[az]at hc;subst hc;exact R0 U aL ho (s6 ao) (mx:=false) rfl hx hy he
  ·cases hc
 ·cases hc
theorem ads (bu:eZ C fid)(U:aZ C fid G H w)(aL:fh C fid vars G w ae ρ)(jZ:low<=H.length)
  (he:step ae H low (C.op vars pos o.op)=some (v,H',low')):dj C fid G H w low ((execOp ρ o).run C.P w) v H' low':=by
 unfold Ctx.op at he;cases hc:C.cI vars pos o.op with
 |none=>rw[hc]at he;simp[step]at he
 |some c8=>
  rw[hc]at he;simp only[sO]at he;cases c4:o.op with
  |move x=>exact RS U aL (.inl c4) hc he
  |assign x=>exact RS U aL (.inr c4) hc he
  |pick c a b=>exact acg U aL c4 hc he
  |alloc t=>exact acs U c4 hc he
  |box t x=>exact acu U aL c4 hc he
  |build t parts=>exact ac1 U aL c4 hc he
  |buildSlice t l parts=>exact ac2 U aL c4 hc he
  |load t a=>exact acq U aL c4 hc he
  |store t a x=>exact acr U aL c4 hc jZ he
  |nilCheck x=>exact ach U aL c4 hc he
  |binOp a b c d e=>exact acG U aL c4 hc he
  |unOp a b c=>exact aci U aL c4 hc he
  |convert a b c=>
   rcases(show(∃x,c8=.uf x)\/∀x,c8≠ .uf x from by
    cases c8<;>first|exact .inl ⟨_,rfl⟩|exact .inr (by simp))with⟨x,rfl⟩|hnb
   ·exact adn U aL c4 hc he
   ·exact acj U aL c4 hnb hc he
  |makeInterface a b=>exact ack U aL c4 hc he
  |makeFunc a b c=>exact acm bu U aL c4 hc he
  |makeMap a b=>exact acv U c4 hc he
  |makeSlice a b c=>exact ac7 U aL c4 hc he
  |slice a b c d e=>exact acQ U aL c4 hc he
  |fieldAddr a b c=>exact acp U aL c4 hc he
  |field a b c=>exact aco U aL c4 hc he
  |indexAddr a b c=>exact acT U aL c4 hc he
  |index a b c=>exact acw U aL c4 hc he
  |lookup a b c d=>exact adh U aL c4 hc he
  |mapUpdate a b c d=>exact Si U aL (.inl c4) hc he
  |insert a b c d=>exact Si U aL (.inr c4) hc he
  |extract a b=>exact acn U aL c4 hc he
  |call c=>
   rw[c4]at hc;obtain⟨callee,args,dK⟩:=c;cases callee with
   |builtin b=>exact adr U aL c4 hc he
   |value f=>
    simp only[Ctx.cI]at hc;split at hc
    ·simp only[az]at hc;subst hc;simp[step]at he
    ·cases hc
   | _=>simp[Ctx.cI]at hc
  | _=>rw[c4]at hc;simp[Ctx.cI]at hc
end
end Go.Abs
namespace Go.Abs
open Go
structure Fr (H:Heap) (low:Nat) (H':Heap) (low':Nat):Prop where
 len:H.length<=H'.length
 low:low'<=low
 same:∀l,l<low'->H'[l]? =H[l]?
variable{H H' H1 H2:Heap}{low low' bI c5:Nat}{ae:ag->V}{v v':V}
theorem Fr.refl (H:Heap)(low:Nat):Fr H low H low:=⟨aK _,aK _,fun _ _=>rfl⟩
theorem Fr.trans (h:Fr H low H1 bI)(k:Fr H1 bI H2 c5):Fr H low H2 c5:=
 ⟨cV h.len k.len,cV k.low h.low,fun l hl=>(k.same l hl).trans (h.same l (qs hl k.low))⟩
theorem Fr.push (hl:low<=H.length)(o:cc):Fr H low (H++[o]) low:=
 ⟨by simp,aK _,fun l h=>by rw[gE (by omega)]⟩
theorem Fr.set (l:Nat)(o:cc):Fr H low (H.set l o) (min low l):=
 ⟨by simp,jU _ _,fun x h=>by rw[gm (by omega)]⟩
theorem Fr.lift (h:Fr H bI H' c5)(low:Nat):Fr H low H' (min low c5):=
 ⟨h.len,jU _ _,fun l hl=>h.same l (by omega)⟩
theorem Fr.eq (h:Fr H low H' low')(hl:H.length<=low')(he:H'.length=H.length):H'=H:=by
 apply wg;intro l;rcases fX l low' with q|q
 ·exact h.same l q
 ·rw[lb (by omega),lb (by omega)]
theorem Lv (h:Fr H low H' low')(hm:eG H H' low'=false):H'=H:=by
 simp only[eG,B9,decide_eq_false_iff_not,bne_eq_false_iff_eq]at hm;exact h.eq (by omega) hm.2
structure Sp (f:Heap->Nat->V->Option (V × Heap × Nat)):Prop where
 ok:∀{H H':Heap} {low low':Nat} {v v':V},f H low v=some (v',H',low')->Fr H low H' low'/\H'.length=H.length
theorem Lw{f:Heap->Nat->V->Option (V × Heap × Nat)}(ab:Sp f):∀{vs vs':List V} {H H':Heap} {low low':Nat},kq f H low vs=some (vs',H',low')->Fr H low H' low'/\H'.length=H.length
 |[],_,_,_,_,_,he=>by
  simp only[kq,az,bt]at he;obtain⟨-,rfl,rfl⟩:=he;exact⟨.refl _ _,rfl⟩
 |v::r,_,_,_,_,_,he=>by
  simp only[kq]at he;split at he
  ·rename_i h1
   split at he
   ·rename_i h2
    simp only[az,bt]at he;obtain⟨-,rfl,rfl⟩:=he;have a:=ab.ok h1;have b:=Lw ab h2;exact⟨a.1.trans b.1,b.2.trans a.2⟩
   ·cases he
  ·cases he
theorem Lx:∀(n:Nat),Sp (dF n)
 |0=>by
  refine⟨fun {H H' low low' v v'} he=> ?_⟩;simp only[dF]at he;split at he
  ·simp only[az,bt]at he
   obtain⟨-,rfl,rfl⟩:=he;exact⟨.refl _ _,rfl⟩
  ·cases he
 |n+1=>by
  refine⟨fun {H H' low low' v v'} he=> ?_⟩;have ih:=fun {vs vs' H H' low low'}=>Lw (Lx n) (vs:=vs) (vs':=vs') (H:=H) (H':=H') (low:=low) (low':=low');simp only[dF]at he;split at he
  ·simp only[az,bt]at he
   obtain⟨-,rfl,rfl⟩:=he;exact⟨.refl _ _,rfl⟩
  ·split at he
   ·split at he
    ·rename_i h
     simp only[az,bt]at he;obtain⟨-,rfl,rfl⟩:=he;exact ih h
    ·cases he
   ·split at he
    ·rename_i h
     simp only[az,bt]at he;obtain⟨-,rfl,rfl⟩:=he;exact ih h
    ·cases he
   ·split at he
    ·split at he
     ·split at he
      ·simp only[az,bt]at he
       obtain⟨-,rfl,rfl⟩:=he;split
       ·exact⟨.refl _ _,rfl⟩
       ·exact⟨.set _ _,by simp⟩
      ·split at he
       ·rename_i h
        split at he
        ·split at he
         ·simp only[az,bt]at he
          obtain⟨-,rfl,rfl⟩:=he;have:=ih h;exact⟨this.1.trans (.set _ _),by simp[this.2]⟩
         ·cases he
        ·cases he
       ·cases he
     ·cases he
    ·cases he
   ·simp only[az,bt]at he
    obtain⟨-,rfl,rfl⟩:=he;exact⟨.refl _ _,rfl⟩
theorem AA (he:eP H low v=some (v',H',low')):Fr H low H' low'/\H'.length=H.length:=(Lx 16).ok he
theorem Gx:∀{vs vs':List V} {H H':Heap} {low low':Nat},dX H low vs=some (vs',H',low')->Fr H low H' low'/\H'.length=H.length
 |[],_,_,_,_,_,he=>by
  simp only[dX,az,bt]at he;obtain⟨-,rfl,rfl⟩:=he;exact⟨.refl _ _,rfl⟩
 |v::r,_,_,_,_,_,he=>by
  simp only[dX]at he;split at he
  ·rename_i h1
   split at he
   ·rename_i h2
    simp only[az,bt]at he;obtain⟨-,rfl,rfl⟩:=he;have a:=AA h1;have b:=Gx h2;exact⟨a.1.trans b.1,b.2.trans a.2⟩
   ·cases he
  ·cases he
theorem adt{n:Nat}{a x:V}{l:Nat}(he:hD H n a x=some (H',l)):∃o,H'=H.set l o:=by
 unfold hD at he
 repeat' split at he
 all_goals first
  |(simp only[az,bt]at he;obtain⟨rfl,rfl⟩:=he;exact⟨_,rfl⟩)
  |cases he
set_option maxHeartbeats 1000000 in
theorem adu{op:cH}(hl:low<=H.length)(he:step ae H low op=some (v,H',low')):Fr H low H' low':=by
 cases op with
 |alloc z=>
  simp only[step,az,bt]at he;obtain⟨-,rfl,rfl⟩:=he;exact .push hl _
 |box x=>
  simp only[step]at he;split at he
  ·simp only[az,bt]at he
   obtain⟨-,rfl,rfl⟩:=he;exact .push hl _
  ·cases he
 |build z parts=>
  simp only[step]at he;obtain⟨cs,-,he⟩:=ct.1 he;simp only[bt]at he;obtain⟨-,rfl,rfl⟩:=he;exact .refl _ _
 |lit es z len parts jc=>
  simp only[step]at he;split at he
  ·rename_i h
   have ab:=Gx h;have nu:low'<=low':=aK _;split at he
   ·split at he
    ·split at he
     ·simp only[az,bt]at he
      obtain⟨-,rfl,rfl⟩:=he;exact ab.1
     ·cases he
    ·split at he
     ·simp only[az,bt]at he
      obtain⟨-,rfl,rfl⟩:=he;exact ab.1
     ·simp only[az,bt]at he
      obtain⟨-,rfl,rfl⟩:=he;exact ab.1.trans (.push (by have:=ab.1.low;have:=ab.1.len;omega) _)
   ·cases he
  ·cases he
 |store n a x=>
  simp only[step]at he;obtain⟨⟨H1,l⟩,h,he⟩:=ct.1 he;simp only[bt]at he;obtain⟨-,rfl,rfl⟩:=he;obtain⟨o,rfl⟩:=adt h;exact .set _ _
 |zZ t x=>
  simp only[step]at he;split at he
  ·rename_i h
   simp only[az,bt]at he;obtain⟨-,rfl,rfl⟩:=he;exact(AA h).1
  ·cases he
 |mkMap=>
  simp only[step,az,bt]at he;obtain⟨-,rfl,rfl⟩:=he;exact .push hl _
 |mkSlice es z bytes l c=>
  simp only[step]at he
  repeat' split at he
  all_goals first
   |(simp only[az,bt]at he;obtain⟨-,rfl,rfl⟩:=he;first|exact .refl _ _|exact .push hl _)
   |cases he
 |px kind m k x=>
  simp only[step]at he;split at he
  ·rename_i h
   have ab:=(AA h).1
   repeat' split at he
   all_goals first
    |(simp only[az,bt]at he;obtain⟨-,rfl,rfl⟩:=he;exact ab.trans (.set _ _))
    |cases he
  ·cases he
 |xC es bytes a b=>
  simp only[step]at he
  repeat' split at he
  all_goals first
   |(simp only[az,bt]at he;obtain⟨-,rfl,rfl⟩:=he;exact .refl _ _)
   |cases he
 |append es bytes a b=>
  simp only[step]at he;split at he
  ·split at he
   ·rename_i h
    have ab:=(Gx h).1;have hle:∀x,x<=low->x<=H.length:=fun x hx=>cV hx hl
    repeat' split at he
    all_goals first
     |(simp only[az,bt]at he;obtain⟨-,rfl,rfl⟩:=he
       first
        |exact ab
        |exact ab.trans (.push (by have:=ab.low;have:=ab.len;omega) _)
        |exact ab.trans (.set _ _))
     |cases he
   ·cases he
  ·cases he
 |xK kind m k=>
  simp only[step]at he
  repeat' split at he
  all_goals first
   |(simp only[az,bt]at he;obtain⟨-,rfl,rfl⟩:=he;first|exact .refl _ _|exact .set _ _)
   |cases he
 |Cj a b=>
  simp only[step]at he
  repeat' split at he
  all_goals first
   |(simp only[az,bt]at he;obtain⟨-,rfl,rfl⟩:=he;first|exact .refl _ _|exact .push hl _|exact .set _ _)
   |cases he
 |au6 a b=>
  simp only[step]at he
  repeat' split at he
  all_goals first
   |(simp only[az,bt]at he;obtain⟨-,rfl,rfl⟩:=he;first|exact .refl _ _|exact .push hl _|exact .set _ _)
   |cases he
 |copy es a b=>
  simp only[step]at he
  repeat' split at he
  all_goals first
   |(simp only[az,bt]at he;obtain⟨-,rfl,rfl⟩:=he;first|exact .refl _ _|exact .set _ _)
   |cases he
 |call raw f args=>simp[step]at he
 |fail=>simp[step]at he
 | _=>
   simp only[step]at he
   repeat' split at he
   all_goals first
    |(cases he;done)
    |(cases he;exact .refl _ _)
    |(simp only[az,bt]at he;obtain⟨-,rfl,rfl⟩:=he;exact .refl _ _)
    |(obtain⟨_,-,he⟩:=ct.1 he;simp only[bt]at he;obtain⟨-,rfl,rfl⟩:=he;exact .refl _ _)
theorem Sq{op:cH}(ht:fw op=false)(he:step ae H low op=some (v,H',low')):H'=H/\low'=low/\∀H2 c5,step ae H2 c5 op=some (v,H2,c5):=by
 cases op<;>first
  |(simp[fw]at ht;done)
  |skip
 all_goals
  simp only[step]at he⊢
  repeat' split at he
  all_goals first
   |(cases he;done)
   |(simp only[az,bt]at he;obtain⟨rfl,rfl,rfl⟩:=he;simp_all;done)
   |(obtain⟨x,hx,he⟩:=ct.1 he;simp only[bt]at he;obtain⟨rfl,rfl,rfl⟩:=he;simp_all;done)
theorem CQ{ae gP:ag->V}{d:Nat}{x:Option ag}(h:∀y∈x.toList,ae y=gP y):eF ae d x=eF gP d x:=by
 cases x with
 |none=>rfl
 |some y=>simp[eF,h y (by simp)]
theorem adv{ae gP:ag->V}{op:cH}(h:∀x∈op.operands,ae x=gP x):step ae H low op=step gP H low op:=by
 cases op with
 |build z parts=>
  have:(parts.map fun p=>(p.1,p.2.1,ae p.2.2))=parts.map fun p=>(p.1,p.2.1,gP p.2.2):=pn fun p hp=>by rw[h _ (by simp only[cH.operands,ey];exact⟨p,hp,rfl⟩)]
  simp only[step,this]
 |lit es z len parts jc=>
  have:(parts.map fun p=>ae p.2)=parts.map fun p=>gP p.2:=pn fun p hp=>h _ (by simp only[cH.operands,ey];exact⟨p,hp,rfl⟩);simp only[step,this]
 |sS i a b=>
  have h1:a.map ae=a.map gP:=pn fun p hp=>h _ (by simp[cH.operands,hp]);have h2:b.map ae=b.map gP:=pn fun p hp=>h _ (by simp[cH.operands,hp]);simp only[step,h1,h2]
 |oI x lo hi=>
  have h0:=h x (by simp[cH.operands]);have h1:∀d,eF ae d lo=eF gP d lo:=fun d=>CQ fun y hy=>h y (by simp only[cH.operands,dA,jA];exact .inr (.inl hy));have h2:∀d,eF ae d hi=eF gP d hi:=fun d=>CQ fun y hy=>h y (by simp only[cH.operands,dA,jA];exact .inr (.inr hy));simp only[step,h0,h1,h2]
 |pw es x lo hi mx=>
  have h0:=h x (by simp[cH.operands]);have h1:∀d,eF ae d lo=eF gP d lo:=fun d=>CQ fun y hy=>h y (by simp only[cH.operands,dA,jA];exact .inr (.inl (.inl hy)));have h2:∀d,eF ae d hi=eF gP d hi:=fun d=>CQ fun y hy=>h y (by simp only[cH.operands,dA,jA];exact .inr (.inl (.inr hy)));have ar:∀d,eF ae d mx=eF gP d mx:=fun d=>CQ fun y hy=>h y (by simp only[cH.operands,dA,jA];exact .inr (.inr hy));cases mx with
  |none=>simp only[step,h0,h1,h2,ar]
  |some m=>
   have aQ:=h m (by simp[cH.operands]);simp only[step,h0,h1,h2,ar,aQ]
 |call raw f args=>rfl
 |fail=>rfl
 |alloc z=>rfl
 |mkMap=>rfl
 | _=>simp only[step];simp only[cH.operands,dA,sP,or_false,forall_eq_or_imp,forall_eq]at h;simp only[h]
theorem ya{call:cU}{op:cH}(h:∀raw f args,op≠ .call raw f args):b2 call ae H low op=step ae H low op:=by
 cases op<;>first|rfl|exact absurd rfl (h _ _ _)
theorem adw{call:cU}{ae gP:ag->V}{op:cH}(h:∀x∈op.operands,ae x=gP x):b2 call ae H low op=b2 call gP H low op:=by
 cases op with
 |call raw f args=>
  have h0:=h f (by simp[cH.operands]);have h1:args.map ae=args.map gP:=pn fun p hp=>h _ (by simp[cH.operands,hp]);cases raw<;>simp only[b2,h0,h1]
 | _=>rw[ya (by simp),ya (by simp)];exact adv h
def l3 (call:cU):Prop:=∀(f:V) (args:List V) (H:Heap) (v:V) (H':Heap) (low':Nat),call f args H=some (v,H',low')->Fr H H.length H' low'
theorem yb{call:cU}{op:cH}(hc:l3 call)(hl:low<=H.length)(he:b2 call ae H low op=some (v,H',low')):Fr H low H' low':=by
 cases op with
 |call raw f args=>
  cases raw
  ·simp only[b2]at he
   split at he
   ·rename_i vs H1 bI h1
    have ab:=Gx h1;split at he
    ·rename_i u H2 l h2
     have cW:=hc _ _ _ _ _ _ h2;split at he
     ·cases he;exact .refl _ _
     ·cases he;exact ab.1.trans (cW.lift _)
    ·cases he
   ·cases he
  ·simp only[b2]at he
   split at he
   ·rename_i u H2 l h2
    cases he;exact(hc _ _ _ _ _ _ h2).lift _
   ·cases he
 | _=>rw[ya (by simp)]at he;exact adu hl he
theorem j5 (st:aq)(d:Option (Nat × Bool))(v:V):(st.put d v).H=st.H/\(st.put d v).low=st.low/\(st.put d v).ro=st.ro:=by
 rcases d with _|⟨t,b⟩
 ·exact⟨rfl,rfl,rfl⟩
 ·cases b<;>exact⟨rfl,rfl,rfl⟩
def gb (st aF:aq):Prop:=Fr st.H st.low aF.H aF.low/\aF.ro=st.ro
theorem gb.refl (st:aq):gb st st:=⟨.refl _ _,rfl⟩
theorem gb.trans{a b c:aq}(h:gb a b)(k:gb b c):gb a c:=⟨h.1.trans k.1,k.2.trans h.2⟩
theorem gb.bound{a b:aq}(h:gb a b)(hl:a.low<=a.H.length):b.low<=b.H.length:=by
 have:=h.1.low;have:=h.1.len;omega
theorem oa{call:cU}(hc:l3 call):∀(ops:List bO) (st aF:aq) (wr e6:List Bool),st.low<=st.H.length->cQ call ops st wr=some (aF,e6)->gb st aF
 |[],st,aF,wr,e6,_,he=>by
  simp only[cQ,az,bt]at he;obtain⟨rfl,-⟩:=he;exact .refl _
 |o::r,st,aF,wr,e6,hl,he=>by
  simp only[cQ]at he;split at he
  ·split at he
   ·rename_i v H' low' h
    have ab:=yb hc (aK _) h;have hp:=j5 {st with H:=H',low:=min st.low low'} o.dst v;have h1:gb st ({st with H:=H',low:=min st.low low'}.put o.dst v):=⟨by rw[hp.1,hp.2.1];exact ab.lift _,hp.2.2⟩;exact h1.trans (oa hc r _ _ _ _ (h1.bound hl) he)
   ·cases he
  ·have hp:=j5 st o.dst (.aU [])
   have h1:gb st (st.put o.dst (.aU [])):=⟨by rw[hp.1,hp.2.1];exact .refl _ _,hp.2.2⟩;exact h1.trans (oa hc r _ _ _ _ (h1.bound hl) he)
  ·cases he
theorem Sr{f:aq->Option (X × aq)}(ab:∀st x aF,st.low<=st.H.length->f st=some (x,aF)->gb st aF):∀(n:Nat) (st:aq) (x:X) (aF:aq),st.low<=st.H.length->iter f n st=some (x,aF)->gb st aF
 |0,_,_,_,_,he=>by cases he
 |n+1,st,x,aF,hl,he=>by
  simp only[iter]at he;split at he
  ·rename_i b4 h1
   have a:=ab _ _ _ hl h1;exact a.trans (Sr ab n _ _ _ (a.bound hl) he)
  ·exact ab _ _ _ hl he
theorem l4{call:cU}(hc:l3 call)(n:Nat):∀(c:cj) (st:aq) (x:X) (aF:aq),st.low<=st.H.length->exec call n c st=some (x,aF)->gb st aF
 | .skip,st,x,aF,hl,he=>by simp only[exec,az,bt]at he;obtain⟨-,rfl⟩:=he;exact .refl _
 | .region ops dO,st,x,aF,hl,he=>by
   simp only[exec,aq.fp]at he;split at he
   ·rename_i b4 wr h1
    have a:gb {st with aG:=[]} b4:=oa hc _ _ _ _ _ hl h1;have a7:gb st b4:=a
    repeat' split at he
    all_goals first
     |(cases he;exact a7)
     |cases he
   ·cases he
 | .xL ops ok f,st,x,aF,hl,he=>by
   simp only[exec,aq.fp]at he;split at he
   ·rename_i b4 wr h1
    have a:gb {st with aG:=[]} b4:=oa hc _ _ _ _ _ hl h1;have a7:gb st b4:=a;split at he
    ·cases he;exact a7
    ·cases he
   ·cases he
 | .seq a b,st,x,aF,hl,he=>by
   simp only[exec,aq.fp]at he;split at he
   ·rename_i b4 h1
    have k:=l4 hc n a _ _ _ hl h1;exact k.trans (l4 hc n b _ _ _ (k.bound hl) he)
   ·exact l4 hc n a _ _ _ hl he
 | .cond c t e,st,x,aF,hl,he=>by
   simp only[exec,aq.fp]at he;split at he
   ·exact l4 hc n t _ _ _ hl he
   ·exact l4 hc n e _ _ _ hl he
   ·cases he
 | .block id c,st,x,aF,hl,he=>by
   simp only[exec,aq.fp]at he;split at he
   ·rename_i b4 h1
    have k:=l4 hc n c _ _ _ hl h1;split at he<;>(cases he;exact k)
   ·exact l4 hc n c _ _ _ hl he
 | .loop c,st,x,aF,hl,he=>by
   simp only[exec,aq.fp]at he;exact Sr (fun st x aF h1 h2=>l4 hc n c st x aF h1 h2) n _ _ _ hl he
 | .rangeFunc f ps a b,st,x,aF,hl,he=>by
   simp only[exec,aq.fp]at he;split at he
   ·cases he
   ·split at he
    ·rename_i u H1 bI h1
     have k:=hc _ _ _ _ _ _ h1;split at he
     ·split at he
      ·cases he
      ·cases he
       refine⟨⟨?_,jU _ _,fun l h=> ?_⟩,rfl⟩
       ·have:=k.len;simp at this⊢; omega
       ·simp only at h⊢
        rw[gm (by omega),k.same l (by omega),gE (by omega)]
     ·cases he
    ·cases he
 | .exit id,st,x,aF,hl,he=>by simp only[exec,az,bt]at he;obtain⟨-,rfl⟩:=he;exact .refl _
 | .ret,st,x,aF,hl,he=>by simp only[exec,az,bt]at he;obtain⟨-,rfl⟩:=he;exact .refl _
 | .fail,st,x,aF,hl,he=>by simp[exec]at he
theorem Gy{fresh:Bool}{H0:Heap}(h:Fr H0 H0.length H low)(he:finish fresh H0 v H low=some (v',H',low')):Fr H0 H0.length H' low':=by
 unfold finish at he;split at he
 ·split at he
  ·split at he
   ·cases he;exact .push (aK _) _
   ·split at he
    ·cases he;exact h
    ·cases he
  ·cases he
 ·split at he
  ·rename_i h1
   split at he
   ·cases he;exact .refl _ _
   ·cases he;exact h.trans (AA h1).1
  ·cases he
theorem adx{ex:cj->aq->Option (X × aq)}(hx:∀c st x aF,st.low<=st.H.length->ex c st=some (x,aF)->gb st aF){f:h3}{args:List V}
  (he:fZ ex f args H=some (v,H',low')):Fr H H.length H' low':=by
 unfold fZ at he;split at he
 ·split at he
  ·rename_i st h1
   have k:=(hx _ _ _ _ (aK _) h1).1;split at he
   ·exact Gy k he
   ·exact Gy k he
   ·cases he
  ·rename_i st h1
   have k:=(hx _ _ _ _ (aK _) h1).1;split at he
   ·exact Gy k he
   ·exact Gy k he
   ·cases he
  ·cases he
 ·cases he
theorem ady{ex:cj->aq->Option (X × aq)}(hx:∀c st x aF,st.low<=st.H.length->ex c st=some (x,aF)->gb st aF){l:Nat}{args:List V}
  (he:nZ ex l args H=some (v,H',low')):Fr H H.length H' low':=by
 unfold nZ at he;split at he
 ·split at he
  ·split at he
   ·rename_i st h1
    have k:=(hx _ _ _ _ (aK _) h1).1;split at he
    ·split at he
     ·rename_i x fU h2
      have ee:=(hx _ _ _ _ (by have q:=k.low;have q':=k.len;simp only[zT]at q q'⊢; omega) h2).1;split at he
      ·cases he
       exact(k.trans (.set _ _)).trans (ee.trans (.set _ _))
      ·cases he
     ·cases he
    ·cases he
   ·cases he
  ·cases he
 ·cases he
theorem U8:∀(l:List (Nat × cc)) (H:Heap) (low:Nat),Fr H low (U4 H l) (U5 low l)
 |[],H,low=>.refl _ _
 |p::r,H,low=>(Fr.set p.1 p.2).trans (U8 r _ _)
theorem ag5{spec:NM}{args:List V}(he:OQ spec args H=some (v,H',low')):Fr H H.length H' low':=by
 obtain⟨r,-,he⟩:=ct.1 he;cases he;have h:=U8 r.2.1 H H.length;refine h.trans ⟨by simp,aK _,fun l hl=> ?_⟩;rw[gE];have:=h.low;have:=h.len;omega
theorem Gz (aa:Nat->Option bY):∀(n:Nat),l3 (cu aa n)
 |0=>fun f args H v H' low' he=>by simp[cu]at he
 |n+1=>fun f args H v H' low' he=>by
  have hx:=fun c st x aF (h1:st.low<=st.H.length) h2=>l4 (Gz aa n) n c st x aF h1 h2;simp only[cu,qy]at he;split at he
  ·split at he
   ·exact adx hx he
   ·split at he
    ·obtain⟨u,-,he⟩:=ct.1 he
     cases he;exact .refl _ _
    ·cases he
   ·exact ag5 he
   ·cases he
  ·exact ady hx he
  ·cases he
end Go.Abs
namespace Go.Abs
open Go
variable{C:Ctx}{fid:Nat->Nat}{w w':World}{G G':bX}{H H':Heap}
def en (ro:Option Nat):Fence:={fn:=fun _=>True,depth:=none,alive:=false,round:=ro}
def ll (C:Ctx)(fid:Nat->Nat)(G:bX)(H:Heap)(w:World)(v:V)(H':Heap)(low':Nat)(x:Value)(w':World):Prop:=
 ∃G',aZ C fid G' H' w'/\(∀m,m<=low'->Ext G w G' w' m H.length)/\a8 fid G' w' v x
def rQ (P:Program)(R:Value->World->Prop):Result Next->Prop
 | .ok (.value x) w'=>R x w'
 | .ok .skip w'=>R undef w'
 | .ok (.enter f args) w'=>Calls P f args w' (fun e hF=>∃x,e=.returned x/\R x hF)
 | .ok (.row row args) w'=>Rows P row args w' R
 | .ok (.round l f tmps aO c2) w'=>RoundIn Fence.wide 0 P l f tmps aO c2 w' (fun e hF=>∃x,e=.returned x/\R x hF)
 | _=>False
theorem rQ.mono{P:Program}{R nA:Value->World->Prop}(h:∀x w,R x w->nA x w):∀{r:Result Next},rQ P R r->rQ P nA r
 | .ok (.value x) w',k=>h _ _ k
 | .ok .skip w',k=>h _ _ k
 | .ok (.enter f args) w',k=>Ci k fun e hF=>fun⟨x,af,e2⟩=>⟨x,af,h _ _ e2⟩
 | .ok (.row row args) w',k=>Rows.mono k h
 | .ok (.round l f tmps aO c2) w',k=>RoundIn.mono k fun e hF=>fun⟨x,af,e2⟩=>⟨x,af,h _ _ e2⟩
 | .ok (.defer _) _,k| .ok .recover _,k| .ok (.spawn _) _,k| .ok (.comm ..) _,k| .ok .numGoroutine _,k| .ok .collect _,k| .ok (.watch _) _,k| .ok (.newcoro ..) _,k| .ok (.coroswitch ..) _,k
 | .ok (.sleep _) _,k| .ok (.timer _) _,k| .ok (.alone ..) _,k| .ok (.callThen ..) _,k| .ok (.stack ..) _,k| .halt ..,k=>k.elim
theorem Ly{P:Program}{R:Value->World->Prop}{ro:Option Nat}{o:Oper}{a:Act}{next:Act->World->Prop}{Q:Exit->Act->World->Prop}(hn:∀x w,R x w->next (a.put o.dst x) w):
  ∀{r:Result Next},rQ P R r->o.uponIn (en ro) 0 P a next Q r
 | .ok (.value x) w',k=>hn _ _ k
 | .ok .skip w',k=>hn _ _ k
 | .ok (.enter f args) w',k=>by
   have cq:CallsIn Fence.wide 0 P f args w' fun
    | .returned v,hF=>next (a.put o.dst v) hF
    | .panicked chain,hF=>Q (.panic chain) a hF
    | .outgrown,_=>LetsOut Q:=callsIn_wide.2 (Ci k fun e hF=>by rintro⟨x,rfl,e2⟩;exact hn _ _ e2)
   exact⟨fun h=>by simp[en]at h,cq⟩
 | .ok (.row row args) w',k=>by
   refine⟨fun h=>by simp[en]at h,fun c cs _=> ?_⟩;obtain⟨v,bG,h1,h2⟩:=k c cs;exact⟨v,bG,hn _ _ h1,(stepsIn_wide.2 h2:StepsIn (Machine.fenced P Fence.wide) P _ _)⟩
 | .ok (.round l f tmps aO c2) w',k=>by
   have cq:RoundIn Fence.wide 0 P l f tmps aO c2 w' fun
    | .returned v,hF=>next (a.put o.dst v) hF
    | .panicked chain,hF=>Q (.panic chain) a hF
    | .outgrown,_=>LetsOut Q:=RoundIn.mono k fun e hF=>by rintro⟨x,rfl,e2⟩;exact hn _ _ e2
   exact⟨fun h=>by simp[en]at h,cq⟩
 | .ok (.defer _) _,k| .ok .recover _,k| .ok (.spawn _) _,k| .ok (.comm ..) _,k| .ok .numGoroutine _,k| .ok .collect _,k| .ok (.watch _) _,k| .ok (.newcoro ..) _,k| .ok (.coroswitch ..) _,k
 | .ok (.sleep _) _,k| .ok (.timer _) _,k| .ok (.alone ..) _,k| .ok (.callThen ..) _,k| .ok (.stack ..) _,k| .halt ..,k=>k.elim
structure gH (C:Ctx) (fid:Nat->Nat) (call:cU):Prop where
 bM:l3 call
 run:∀{G:bX} {H:Heap} {w:World} {f:V} {args:List V} {v:V} {H':Heap} {low':Nat} {Lz:Value} {xs:List Value},aZ C fid G H w->a8 fid G w f Lz->aY fid G w args xs->
  call f args H=some (v,H',low')->∃d,(Deferred.ofValue Lz ⟨xs⟩).run C.P w=.ok d w/\rQ C.P (ll C fid G H w v H' low') ((invoke d.target d.args).run C.P w)/\
   (wm f=true->bW args=false->∃g aO,(invoke d.target d.args).run C.P w=.ok (.enter g aO) w)
theorem aZ.restore (U:aZ C fid G H w)(hs:w.heap.size<=w'.heap.size)(cW:∀b,b<w.heap.size->w'.heap[b]? =w.heap[b]?):aZ C fid G H w' where
 obj l h e:=by
  obtain⟨o,ho,hr⟩:=U.obj l h e;exact⟨o,ho,hr.mono (.refl _) (fun b hb=>⟨hb,cW b (U.cX b hb).1⟩) (cW _ (U.blk l h e))⟩
 inj:=U.inj
 blk l h e:=qs (U.blk l h e) hs
 cX b hb:=⟨qs (U.cX b hb).1 hs,(U.cX b hb).2⟩
 ku:=U.ku
 e9 b o bj:=⟨(U.e9 b o bj).1,by rw[cW b (U.cX b (U.e9 b o bj).1).1];exact(U.e9 b o bj).2⟩
theorem Ext.restore (hs:w.heap.size<=w'.heap.size)(cW:∀b,b<w.heap.size->w'.heap[b]? =w.heap[b]?)(h1:w'.os=w.os)(ar:w'.output=w.output)(m n:Nat):Ext G w G w' m n:=
 ⟨hs,h1,ar,fun b hb _=>cW b hb,.refl _,fun _ h hb=>.inl ⟨h,hb,.inl rfl⟩,fun _ h=>h,fun _ h=>.inl h⟩
theorem Ext.Ss{m n:Nat}(U:aZ C fid G H w)(h:Ext G w G' w' m n)(hm:H.length<=m):∀b,b<w.heap.size->w'.heap[b]? =w.heap[b]? :=fun b hb=>
 h.dQ b hb fun l x e _=>.inr (qs (U.lt e) hm)
theorem St{o:Oper}{ρ:Operand->Value}{f:Operand}{args:Array Operand}{ts:Array TypeId}(ho:o.op=.call {callee:=.value f,args,argTypes:=ts}){P:Program}{w:World}{d:Deferred}
  (hd:(Deferred.ofValue (ρ f) (args.map ρ)).run P w=.ok d w):(execOp ρ o).run P w=(invoke d.target d.args).run P w:=by
 unfold execOp;simp only[ho,resolve,Sem.run_bind,hd,Result.andThen]
section
variable{vars:List Nat}{ae:ag->V}{ρ:Operand->Value}{low low':Nat}{v:V}{o:Oper}{call:cU}
theorem LA (bu:eZ C fid)(a6:gH C fid call)(U:aZ C fid G H w)(aL:fh C fid vars G w ae ρ)(jZ:low<=H.length)
  (he:b2 call ae H low (C.op vars o.pos o.op)=some (v,H',low')):rQ C.P (ll C fid G H w v H' low') ((execOp ρ o).run C.P w):=by
 have adz:(∀raw f args,C.op vars o.pos o.op≠ .call raw f args)->rQ C.P (ll C fid G H w v H' low') ((execOp ρ o).run C.P w):=fun bf=>by
  rw[ya bf]at he;obtain⟨x,aH,ay,hr,h1,h2,ar,-,-⟩:=ads bu U aL jZ he;rcases hr with hr|⟨hr,rfl⟩
  ·rw[hr];exact⟨ay,h1,h2,ar⟩
  ·rw[hr];exact⟨ay,h1,h2,ar⟩
 by_cases bf:∃raw f args,C.op vars o.pos o.op=.call raw f args
 ·obtain⟨raw,lS,LB,c4⟩:=bf
  have cw:C.cI vars o.pos o.op=some (.call raw lS LB):=by
   unfold Ctx.op at c4;cases h:C.cI vars o.pos o.op with
   |none=>rw[h]at c4;cases c4
   |some a=>rw[h]at c4;simp only[sO]at c4;rw[c4]
  obtain⟨f,args,ts,ho,ab,wF⟩:∃f args ts,o.op=.call {callee:=.value f,args,argTypes:=ts}/\C.b3 vars f=some lS/\dH (C.b3 vars) args.toList=some LB:=by
   cases ho:o.op with
   |call c=>
    rw[ho]at cw;obtain⟨callee,args,dK⟩:=c;cases callee with
    |value f=>
     simp only[Ctx.cI]at cw;split at cw
     ·rename_i h1 h2
      simp only[az,cH.call.injEq]at cw;obtain⟨-,rfl,rfl⟩:=cw;exact⟨f,args,dK,rfl,h1,h2⟩
     ·cases cw
    |builtin b=>
     exfalso;simp only[Ctx.cI]at cw;unfold Ctx.builtin at cw
     repeat' split at cw
     all_goals first
      |(cases cw;done)
      |(simp only[az,reduceCtorEq]at cw;done)
      |(obtain⟨_,_,h⟩:=ct.1 cw;cases h;done)
    |invoke r n=>simp[Ctx.cI]at cw
   |binOp a b c d e=>
    exfalso;rw[ho]at cw;simp only[Ctx.cI,Ctx.xO]at cw
    repeat' split at cw
    all_goals first
     |(cases cw;done)
     |(obtain⟨_,_,h⟩:=ct.1 cw;cases h;done)
   |makeFunc g a b=>
    exfalso;rw[ho]at cw;cases g with
    |func f=>
     simp only[Ctx.cI]at cw;split at cw<;>simp at cw
    | _=>simp[Ctx.cI]at cw
   |makeMap t r=>
    exfalso;rw[ho]at cw;cases r<;>simp[Ctx.cI]at cw
   | _=>
     exfalso;rw[ho]at cw;simp only[Ctx.cI]at cw
     repeat' split at cw
     all_goals first
      |(cases cw;done)
      |(obtain⟨_,_,h⟩:=ct.1 cw;cases h;done)
  have yc:=aL f lS ab;have n7:aY fid G w (LB.map ae) (args.map ρ).toList:=by rw[Array.toList_map];exact Gg aL wF
  rw[c4]at he;have rR:(⟨(args.map ρ).toList⟩:Array Value)=args.map ρ:=rfl;cases raw with
  |true=>
   simp only[b2]at he;split at he
   ·rename_i u H2 l h1
    cases he;obtain⟨d,hd,hn,-⟩:=a6.run U yc n7 h1;rw[rR]at hd;rw[St ho hd];refine hn.mono fun x bG hp=> ?_;obtain⟨bl,p1,p2,p3⟩:=hp;exact⟨bl,p1,fun m hm=>p2 m (by omega),p3⟩
   ·cases he
  |false=>
   simp only[b2]at he;split at he
   ·rename_i vs H1 bI aT
    obtain⟨ay,dt,qJ⟩:=KV U n7 aT;have LC:=yc.ext U (dt.ext 0 (by omega));split at he
    ·rename_i u H2 l h1
     obtain⟨d,hd,hn,-⟩:=a6.run dt.rel LC qJ h1;rw[rR]at hd;rw[St ho hd];refine hn.mono fun x bG hp=> ?_;obtain⟨bl,p1,p2,p3⟩:=hp;split at he
     ·rename_i hc
      cases he;have du:=p2 H1.length hc.2;have cW:=du.Ss dt.rel (aK _);exact⟨G,U.restore du.size cW,fun m _=>.restore du.size cW du.os du.output m _,p3.flat hc.1⟩
     ·cases he
      exact⟨bl,p1,fun m hm=>(dt.ext m (by omega)).trans ((p2 m (by omega)).le (aK _) (Nat.le_of_eq dt.len.symm)),p3⟩
    ·cases he
   ·cases he
 ·exact adz fun raw f args h=>bf ⟨raw,f,args,h⟩
end
end Go.Abs
