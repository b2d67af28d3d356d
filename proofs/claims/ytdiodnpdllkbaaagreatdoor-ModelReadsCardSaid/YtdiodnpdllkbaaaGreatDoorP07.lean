/- Texts of this claim, joined and written short by a program. -/
import Derived.Test.YtdiodnpdllkbaaaGreatDoorP06
import Derived.Laws.BytesString
import Derived.Test.YtdiodnpdllkbaaaGreatDoorP00
set_option linter.unusedVariables false
set_option linter.unusedSimpArgs false
set_option linter.unusedSectionVars false
namespace Go.Abs
open Go
variable{C:Ctx}{fid:Nat->Nat}{w w':World}{G G':bX}{H:Heap}
variable{vars:List Nat}{ae:ag->V}{ρ:Operand->Value}{low low':Nat}{v:V}{H':Heap}{pos:String}{c8:cH}{o:Oper}
theorem Se:∀{a b:List V},lQ (a++b)=(lQ a&&lQ b)
 |[],b=>by simp[lQ]
 |x::a,b=>by simp[lQ,Se (a:=a),Cf]
theorem ade (U:aZ C fid G H w)(aL:fh C fid vars G w ae ρ){a b:Operand}{t u e e':TypeId}{n:Nat}{args:Array Operand}{ts:Array TypeId}(ho:o.op=.call {callee:=.builtin .copy,args,argTypes:=ts})
  (ao:args= #[a,b]) (ht:ts= #[t,u]) {nz j4:ag} (h1:C.b3 vars a=some nz) (h2:C.b3 vars b=some j4) (hd:C.P.underlying t=some (.slice e)) (hn:C.sizeOf e=some n)
  (he:step ae H low (.copy n nz j4)=some (v,H',low')):dj C fid G H w low ((execOp ρ o).run C.P w) v H' low':=by
 subst ao;subst ht
 have hx:=aL a nz h1
 have hy:=aL b j4 h2
 have cr:(execOp ρ o).run C.P w=((Builtin.copy_ #[t,u] o.type #[ρ a,ρ b]).run C.P w).andThen fun z w'=>.ok (.value z) w':=by
  rw[x4 ho]
  simp only[builtin,Sem.run_bind,Ko,eo,mT]
  rfl
 have zero:∀base,(∃xs,elems H n (ae j4)=some xs)->ρ a=.slice base 0 0->dj C fid G H w low ((execOp ρ o).run C.P w) (.int .i64 0) H low:=by
  rintro base ⟨xs,eQ⟩ hs
  obtain⟨x6,Gp,CL,Gq⟩:=Gm U hy eQ
  refine .same U (x:=.int .i64 0) ?_ (.p _ _ (.int _ _))
  rw[cr,hs,CL]
  cases x6<;>cases base<;>simp[Builtin.copy_,run_underlying hd,Builtin.lenOf,Builtin.firstCells,loadCells,loadCellsFrom,x2 (C:=C) hn,storeCells,goInt]
 simp only[step]at he
 split at he
 ·rename_i xs af eQ
  simp only[az,bt]at he
  obtain⟨rfl,rfl,rfl⟩:=he
  rw[af]at hx
  exact zero _ ⟨_,eQ⟩ hx.j0
 ·rename_i xs af eQ
  simp only[az,bt]at he
  obtain⟨rfl,rfl,rfl⟩:=he
  rw[af]at hx
  obtain⟨dc,eg⟩:=hx.rI
  exact zero _ ⟨_,eQ⟩ eg
 ·rename_i l bD off len tag xs af eQ
  split at he
  ·rename_i eX ds hl
   split at he
   ·rename_i ep
    obtain⟨rfl,rfl,fR,qH,jG⟩:=ep
    simp only[az,bt]at he
    obtain⟨rfl,rfl,rfl⟩:=he
    rw[af]at hx
    obtain⟨x6,Gp,CL,Gq⟩:=Gm U hy eQ
    obtain⟨h0,dc,cJ,cap,cY,rH,jF,eg⟩:=hx.pA
    obtain⟨aP,eM,hr⟩:=U.obj l h0 cY
    rw[hl]at eM;cases eM
    obtain⟨CN,Sd,hfz,fa,mW,c,uJ,kB,rest,hc,fS,kU,fg⟩:=hr
    obtain⟨rfl,rfl,-,-⟩:=jF (CN.trans fR)
    have key:∃dd,(Builtin.firstCells eX (Nat.min xs.length cJ) (.slice x6 xs.length Gp)).run C.P w=.ok dd.toArray w/\aY fid G w ((xs.take cJ).flatMap aE) dd/\((xs.take cJ).flatMap aE).length=(xs.take cJ).length*eX/\∀d∈xs.take cJ,(aE d).length=eX:=by
     by_cases bf:xs=[]
     ·subst bf
      refine⟨[],?_,by simpa using aY.nil,by simp,by simp⟩
      cases x6<;>simp[Builtin.firstCells,loadCells,loadCellsFrom]
     ·obtain⟨As,o',vals,rfl,xX,oW,nw⟩:=Gq bf
      have s0:∀d∈xs.take cJ,(aE d).length=eX:=fun d hd=>nw d (zP hd)
      refine⟨vals.take (cJ*eX),?_,by rw[Ag nw];exact oW.take _,nv s0,s0⟩
      have lX:vals.length=xs.length*eX:=by rw[oW.length,nv nw]
      have aj:(vals.take (cJ*eX)).length=Nat.min xs.length cJ*eX:=by
       rw[sM,lX,Nat.mul_min_mul_right,Nat.min_comm]
      have:=run_loadCells_list (P:=C.P) w ⟨As,o',none⟩ (vals.take (cJ*eX)) (fun j v hj=>by rw[Addr.add_lit];exact(xX.take _) j v hj)
      rw[aj]at this
      exact this
    obtain⟨dd,Sf,Gr,Lp,adf⟩:=key
    have bx:∀x∈dd,x.oneCell'=true:=by
     refine Gf Gr (K0 ?_)
     have:lQ ((xs.take cJ++xs.drop cJ).flatMap aE)=true:=by rw[B7];exact jG
     rw[Kk,Se,b8]at this
     exact this.1
    have Am:=Gr.length
    have jH:(xs.take cJ).length=min cJ xs.length:=by simp
    have kW:ds.length=tag:=fR
    have hmul:(off+min cJ xs.length)*eX<=ds.length*eX:=Ki _ (by have:=jU cJ xs.length;omega)
    rw[rC]at hmul
    have asK:kB.length=ds.length*eX:=by rw[fg.length,nv mW]
    have hG:c.size=kB.length+rest.length:=by rw[<-hB,kU,gM]
    have cd:=run_storeCells_at C.P h0.b (off*eX) uJ dd 0 c w hc (by rw[Am,Lp,jH];omega) bx
    obtain⟨G',bA,b9⟩:=RR U cY hl (ds':=ds.take off++xs.take cJ++ds.drop (off+min cJ xs.length)) (by simp only[gM,sM,sN];omega)
     (fun d hd=>by
       rcases jA.1 hd with q|q
       ·rcases jA.1 q with q|q
        ·exact mW d (zP q)
        ·exact adf d q
       ·exact mW d (B8 q)) (o:=off*eX) Gr (by rw[Lp,jH];omega)
     (fun vals ad=>by
       rw[Kk,Kk,Ag mW,xT mW,Am,Lp,jH,<-rC]
       exact((ad.take _).append Gr).append (ad.drop _)) hc
    refine⟨_,_,G',.inl ?_,bA,fun m hm=>b9.le (cV hm (qt _ _)) (aK _),.p _ _ (.int _ _),jU _ _,by simp⟩
    rw[cr,eg,CL]
    simp only[zW]at cd
    have uD:xs.length.min cJ=min cJ xs.length:=Nat.min_comm _ _
    rw[uD]at Sf
    simp[Builtin.copy_,run_underlying hd,Builtin.lenOf,x2 (C:=C) hn,uD,Sf,cd,goInt]
   ·cases he
  ·cases he
 ·cases he
theorem s4{k:TypeId}{bK:Nat}(hk:C.jd k=some bK)(em:Bool)(n:Nat)(x:Value):(Instr.checkKey em (n+1) k x).run C.P w=.ok () w:=by
 unfold Ctx.jd at hk
 unfold Instr.checkKey
 split at hk<;>rename_i hd<;>first|(cases hk;done)|(rw[Sem.run_bind,run_underlying hd];rfl)
theorem wC{k:TypeId}{bK:Nat}{d:TypeDesc}(hk:C.jd k=some bK)(hd:C.P.underlying k=some d){a b:V}{e:Bool}{x y:Value}(ao:a8 fid G w a x)(hb:a8 fid G w b y)(he:ix bK a b=some e):
  Instr.sameNow d x y=some e/\(e=true->Instr.sameBits 10000 y x=true):=by
 unfold Ctx.jd at hk
 rw[hd]at hk
 unfold ix at he
 split at he
 ·split at he
  ·rename_i CA
   simp only[az]at he;subst he;subst CA
   rw[ao.jE,hb.jE]
   cases d<;>simp at hk
   refine⟨by simp[Instr.sameNow],fun h=> ?_⟩
   simp at h;subst h
   simp[Instr.sameBits]
  ·cases he
 ·simp only[az]at he;subst he
  rw[ao.oS,hb.oS]
  cases d<;>simp at hk
  refine⟨by simp[Instr.sameNow,beq_toListBytes,ByteArray.toList_eq],fun h=> ?_⟩
  simp at h;subst h
  simp[Instr.sameBits,beq_toListBytes,ByteArray.toList_eq]
 ·simp only[az]at he;subst he
  rw[ao.kz,hb.kz]
  cases d<;>simp at hk
  refine⟨by simp[Instr.sameNow],fun h=> ?_⟩
  simp at h;subst h
  simp[Instr.sameBits]
 ·cases he
theorem qK{k:TypeId}{bK:Nat}{d:TypeDesc}(hk:C.jd k=some bK)(hd:C.P.underlying k=some d){a:V}{x:Value}(ao:a8 fid G w a x):∀{bb:List (V × V)} {es:List MapEntry} (i:Nat) {r:Option V},
  aY fid G w (bb.map (·.1)) (es.map (·.key))->aY fid G w (bb.map (·.2)) (es.map (·.val))->h4 bK a bb=some r->
  match r with
  |none=>Instr.findNow d x es i=some none
  |some u=>∃j y,Instr.findNow d x es i=some (some (i+j,y))/\a8 fid G w u y/\(∃e,es[j]? =some e/\Instr.sameBits 10000 e.key x=true)
 |[],[],i,r,_,_,h=>by
  simp only[h4,az]at h;subst h
  rfl
 |[],_::_,_,_,h,_,_=>by simp at h;cases h
 | _::_,[],_,_,h,_,_=>by simp at h;cases h
 |(bp,u)::bb,e::es,i,r,ef,cS,h=>by
  simp only[eo]at ef cS
  cases ef with
  |cons _ _ _ _ il ef=>
   cases cS with
   |cons _ _ _ _ qJ cS=>
    simp only[h4]at h
    split at h
    ·rename_i he
     simp only[az]at h;subst h
     obtain⟨hs,hb⟩:=wC hk hd ao il he
     exact⟨0,e.val,by simp[Instr.findNow,hs],qJ,e,rfl,hb rfl⟩
    ·rename_i he
     obtain⟨hs,-⟩:=wC hk hd ao il he
     have ih:=qK hk hd ao (i+1) ef cS h
     cases r with
     |none=>simpa[Instr.findNow,hs]using ih
     |some u'=>
      obtain⟨j,y,h1,h2,e',ar,aQ⟩:=ih
      refine⟨j+1,y,?_,h2,e',by simpa using ar,aQ⟩
      have:i+(j+1)=i+1+j:=by omega
      rw[this]
      simpa[Instr.findNow,hs]using h1
    ·cases h
theorem uK{k:TypeId}{d:TypeDesc}(hd:C.P.underlying k=some d){x:Value}{es:List MapEntry}{r:Option (Nat × Value)}(h:Instr.findNow d x es 0=some r):(Instr.findKey k x es).run C.P w=.ok r w:=by
 unfold Instr.findKey
 simp only[Sem.run_bind,run_underlying hd,Result.andThen_ok,h,Sem.run_pure]
theorem Gs{k:TypeId}{bK:Nat}(hk:C.jd k=some bK):∃d,C.P.underlying k=some d:=by
 unfold Ctx.jd at hk
 split at hk<;>rename_i hd<;>first|exact⟨_,hd⟩|cases hk
theorem adg{t:TypeId}{z:V}(aT:C.zeroV t=some z)(hu:ui z=false):∃cE,(∀w,(zeroValue t).run C.P w=.ok cE w)/\∀(G:bX) (w:World),a8 fid G w z cE:=by
 unfold Ctx.zeroV at aT
 split at aT
 ·rename_i i hi
  split at aT
  ·rename_i cE An
   refine⟨cE,fun w=> ?_,fun G w=>.p _ _ ((Cw cE aT).resolve_left (by rintro rfl;simp[ui]at hu))⟩
   simp only[zeroValue,Sem.run_bind,run_typeInfo (P:=C.P) w hi,Result.andThen_ok,An,Sem.run_pure]
  ·cases aT
 ·cases aT
theorem wD{r:Nat}{es:Array MapEntry}{bE:Nat}(h:w.heap[r]? =some (.map es bE)):(getObj r).run C.P w=.ok (.map es bE) w:=by simp[getObj,Sem.run,h]
theorem Av{r:Nat}{es:Array MapEntry}{bE:Nat}(o:Obj)(h:w.heap[r]? =some (.map es bE)):(setObj r o).run C.P w=.ok () {w with heap:=w.heap.setIfInBounds r o}:=by simp[setObj,Sem.run,h]
theorem adh (U:aZ C fid G H w)(aL:fh C fid vars G w ae ρ){t:TypeId}{x i:Operand}{ok:Bool}(ho:o.op=.lookup t x i ok)(hc:C.cI vars pos o.op=some c8)(he:step ae H low c8=some (v,H',low')):
  dj C fid G H w low ((execOp ρ o).run C.P w) v H' low':=by
 rw[ho]at hc
 simp only[Ctx.cI]at hc
 split at hc
 ·rename_i k e cv ij hd h1 h2
  split at hc
  ·rename_i bK z gp aT
   split at hc
   ·cases hc
   ·rename_i adi
    simp only[az]at hc;subst hc
    have hx:=aL x cv h1
    have hi:=aL i ij h2
    obtain⟨cE,ny,n9⟩:=adg (fid:=fid) aT (by simpa using adi)
    obtain⟨Gt,iP⟩:=Gs gp
    have cr:(execOp ρ o).run C.P w=((Instr.lookup t (ρ x) (ρ i) ok).run C.P w).andThen fun z w'=>.ok (.value z) w':=by
     unfold execOp;rw[ho];simp only[Sem.run_bind];rfl
    have res:∀(u:V) (y:Value) (b:Bool),a8 fid G w u y->a8 fid G w (if ok then .aU [u,.bool b]else u) (if ok then .tuple #[y,.bool b]else y):=by
     intro u y b h
     cases ok
     ·exact h
     ·exact .aU _ [y,.bool b] (.cons _ _ _ _ h (.cons _ _ _ _ (.p _ _ (.bool _)) .nil))
    simp only[step]at he
    split at he
    ·rename_i af
     simp only[az,bt]at he
     obtain⟨rfl,rfl,rfl⟩:=he
     rw[af]at hx
     refine .same U ?_ (res z cE false (n9 G w))
     rw[cr,hx.K3]
     unfold Instr.lookup
     have ab:=uK (C:=C) (w:=w) iP (x:=ρ i) (es:=[]) (r:=none) rfl
     simp only[Sem.run_bind,run_underlying hd,Result.andThen_ok,Sem.run_pure,s4 gp,ab,ny]
    ·rename_i l af
     rw[af]at hx
     obtain⟨h0,cY,-,eg⟩:=hx.mapInv
     split at he
     ·rename_i bb hl
      obtain⟨aP,eM,hr⟩:=U.obj l h0 cY
      rw[hl]at eM;cases eM
      obtain⟨-,-,es,bE,hm,il,CH,-⟩:=hr
      split at he
      ·rename_i u iE
       simp only[az,bt]at he
       obtain⟨rfl,rfl,rfl⟩:=he
       obtain⟨j,y,ab,fg,-⟩:=qK gp iP hi 0 il CH iE
       refine .same U ?_ (res u y true fg)
       rw[cr,eg]
       unfold Instr.lookup
       simp only[Sem.run_bind,run_underlying hd,Result.andThen_ok,Sem.run_pure,wD hm,s4 gp,uK (C:=C) iP ab]
      ·rename_i iE
       simp only[az,bt]at he
       obtain⟨rfl,rfl,rfl⟩:=he
       have ab:=qK gp iP hi 0 il CH iE
       refine .same U ?_ (res z cE false (n9 G w))
       rw[cr,eg]
       unfold Instr.lookup
       simp only[Sem.run_bind,run_underlying hd,Result.andThen_ok,Sem.run_pure,wD hm,s4 gp,uK (C:=C) iP ab,ny]
      ·cases he
     ·cases he
    ·cases he
  ·cases hc
 ·cases hc
theorem Lq{bK:Nat}{k u:V}:∀{bb:List (V × V)},h4 bK k bb=some none->ld bK k u bb=bb++[(k,u)]
 |[],_=>rfl
 |(bp,v)::r,h=>by
  simp only[h4]at h
  split at h
  ·cases h
  ·rename_i he
   simp[ld,he,Lq h]
  ·cases h
theorem Sg{k:TypeId}{bK:Nat}{d:TypeDesc}(hk:C.jd k=some bK)(hd:C.P.underlying k=some d){a:V}{x:Value}(ao:a8 fid G w a x){u:V}{y:Value}(hu:a8 fid G w u y):∀{bb:List (V × V)} {es:List MapEntry} (i:Nat) {r:V} {j:Nat} {z:Value},
  aY fid G w (bb.map (·.1)) (es.map (·.key))->aY fid G w (bb.map (·.2)) (es.map (·.val))->h4 bK a bb=some (some r)->Instr.findNow d x es i=some (some (i+j,z))->
  aY fid G w ((ld bK a u bb).map (·.1)) ((es.modify j fun e=>{e with key:=x,val:=y}).map (·.key))/\aY fid G w ((ld bK a u bb).map (·.2)) ((es.modify j fun e=>{e with key:=x,val:=y}).map (·.val))
 |[],[],i,r,j,z,_,_,h,_=>by simp[h4]at h
 |[],_::_,_,_,_,_,h,_,_,_=>by simp at h;cases h
 | _::_,[],_,_,_,_,h,_,_,_=>by simp at h;cases h
 |(bp,u')::bb,e::es,i,r,j,z,ef,cS,h,ab=>by
  simp only[eo]at ef cS
  cases ef with
  |cons _ _ _ _ il ef=>
   cases cS with
   |cons _ _ _ _ qJ cS=>
    simp only[h4]at h
    split at h
    ·rename_i he
     obtain⟨hs,-⟩:=wC hk hd ao il he
     simp only[Instr.findNow,hs,az,bt]at ab
     obtain rfl:j=0:=by omega
     simp only[ld,he,if_true,eo,List.modify_zero_cons]
     exact⟨.cons _ _ _ _ ao ef,.cons _ _ _ _ hu cS⟩
    ·rename_i he
     obtain⟨hs,-⟩:=wC hk hd ao il he
     simp only[Instr.findNow,hs]at ab
     have im:=qK hk hd ao (i+1) ef cS h
     obtain⟨uL,n8,h1,-,-⟩:=im
     rw[h1]at ab
     simp only[az,bt]at ab
     obtain⟨hj,rfl⟩:=ab
     obtain rfl:j=uL+1:=by omega
     have ih:=Sg hk hd ao hu (i+1) ef cS h h1
     have bf:¬(ix bK a bp=some true):=by rw[he];simp
     simp only[ld,bf,if_false,eo,List.modify_succ_cons]
     exact⟨.cons _ _ _ _ il ih.1,.cons _ _ _ _ qJ ih.2⟩
    ·cases h
theorem n0.push{es:Array MapEntry}{bE:Nat}(h:n0 es bE)(x y:Value):n0 (es.push {key:=x,val:=y,born:=bE}) (bE+1):=by
 refine⟨fun e he=> ?_,?_⟩
 ·rw[QQ,jA]at he
  rcases he with he|he
  ·exact Cc (h.1 e he)
  ·rw[FI]at he;subst he;exact wh _
 ·rw[QQ,nW,FM]
  refine⟨h.2,by simp,fun a ao b hb=> ?_⟩
  simp only[eo,mT,FI]at hb
  subst hb
  obtain⟨e,he,rfl⟩:=ey.1 ao
  exact oH (h.1 e he)
theorem Sh (x y:Value):∀(l:List MapEntry) (j:Nat),(l.modify j fun e=>{e with key:=x,val:=y}).map (·.born)=l.map (·.born)
 |[],j=>by cases j<;>simp
 |e::l,0=>by simp
 |e::l,j+1=>by simp[Sh x y l j]
theorem n0.modify{es:Array MapEntry}{bE:Nat}(h:n0 es bE)(j:Nat)(x y:Value):n0 (es.modify j fun e=>{e with key:=x,val:=y}) bE:=by
 have af:(es.modify j fun e=>{e with key:=x,val:=y}).toList.map (·.born)=es.toList.map (·.born):=by
  rw[Array.toList_modify];exact Sh x y _ j
 refine⟨fun e he=> ?_,by rw[af];exact h.2⟩
 have:e.born∈es.toList.map (·.born):=by rw[<-af];exact ey.2 ⟨e,he,rfl⟩
 obtain⟨e',oX,q⟩:=ey.1 this
 rw[<-q];exact h.1 e' oX
theorem Si (U:aZ C fid G H w)(aL:fh C fid vars G w ae ρ){t:TypeId}{m k x:Operand}(ho:o.op=.mapUpdate t m k x\/o.op=.insert t m k x)(hc:C.cI vars pos o.op=some c8)(he:step ae H low c8=some (v,H',low')):
  dj C fid G H w low ((execOp ρ o).run C.P w) v H' low':=by
 have hc:C.cI vars pos (.mapUpdate t m k x)=some c8:=by
  rcases ho with ho|ho
  ·rw[ho]at hc;exact hc
  ·rw[ho]at hc;exact hc
 simp only[Ctx.cI]at hc
 split at hc
 ·rename_i ei rO am gX cv hd h1 h2 ar
  obtain⟨bK,gp,rfl⟩:=ct.1 hc
  have hm:=aL m am h1
  have hk:=aL k gX h2
  have hx:=aL x cv ar
  obtain⟨Gt,iP⟩:=Gs gp
  have cr:(execOp ρ o).run C.P w=((Instr.mapUpdate t (ρ m) (ρ k) (ρ x)).run C.P w).andThen fun _ w'=>.ok .skip w':=by
   unfold execOp;rcases ho with ho|ho<;>(rw[ho];simp only[Sem.run_bind];rfl)
  simp only[step]at he
  split at he
  ·rename_i u' H1 bI hfz
   split at he
   ·cases he
   ·rename_i mW
    obtain⟨ay,f1,cq⟩:=Gc U hx hfz
    have gO:=f1.rel
    have Gu:=f1.ext 0 (cx _)
    have l2:=hm.ext U Gu
    have il:=hk.ext U Gu
    refine dj.Aj f1 ?_
    split at he
    ·rename_i l af
     rw[af]at l2
     obtain⟨h0,cY,Sj,eg⟩:=l2.mapInv
     split at he
     ·rename_i bb hl
      obtain⟨aP,eM,hr⟩:=gO.obj l h0 cY
      rw[hl]at eM;cases eM
      obtain⟨oY,jh,es,bE,eB,ef,cS,cd⟩:=hr
      split at he
      ·rename_i bM iE
       simp only[az,bt]at he
       obtain⟨rfl,rfl,rfl⟩:=he
       have aX:h0.b<w.heap.size:=gO.blk l h0 cY
       have fin:∀(s5:Obj) (bD:Array MapEntry) (rP:Nat),s5=.map bD rP->(Instr.mapUpdate t (ρ m) (ρ k) (ρ x)).run C.P w=.ok () {w with heap:=w.heap.setIfInBounds h0.b s5}->
         aY fid ay w ((ld bK (ae gX) u' bb).map (·.1)) (bD.toList.map (·.key))->aY fid ay w ((ld bK (ae gX) u' bb).map (·.2)) (bD.toList.map (·.val))->n0 bD rP->
         dj C fid ay H1 w bI ((execOp ρ o).run C.P w) .undef (H1.set l (.map (ld bK (ae gX) u' bb))) (min bI l):=by
        rintro s5 bD rP rfl pI wE x8 x9
        have uM:∀b,b≠h0.b->({w with heap:=w.heap.setIfInBounds h0.b (.map bD rP)}:World).heap[b]? =w.heap[b]? :=fun b bf=>by
         show(w.heap.setIfInBounds h0.b _)[b]? =_
         rw[QC (kp bf)]
        have Aw:({w with heap:=w.heap.setIfInBounds h0.b (.map bD rP)}:World).heap[h0.b]? =some (.map bD rP):=by
         show(w.heap.setIfInBounds h0.b _)[h0.b]? =_
         simp[aX]
        have dJ:({w with heap:=w.heap.setIfInBounds h0.b (.map bD rP)}:World).heap.size=w.heap.size:=by simp
        have dW:Ext ay w ⟨ck ay.β l h0,ay.I⟩ {w with heap:=w.heap.setIfInBounds h0.b (.map bD rP)} l H1.length:=
         Ext.write gO cY jh rfl (aK _) id rfl dJ uM rfl rfl
        refine⟨undef,_,_,.inr ⟨by rw[cr,pI];rfl,rfl⟩,aZ.write gO cY jh rfl jh (aK _) id rfl dJ uM (.map (ld bK (ae gX) u' bb)) ⟨oY,jh,bD,rP,Aw,wE.ext gO dW,x8.ext gO dW,x9⟩,
         fun m hm=>dW.le (cV hm (qt _ _)) (aK _),.undef _,jU _ _,by simp⟩
       cases bM with
       |none=>
        have ab:=qK gp iP il 0 ef cS iE
        refine fin _ (es.push {key:=ρ k,val:=ρ x,born:=bE}) (bE+1) rfl ?_ ?_ ?_ (cd.push _ _)
        ·unfold Instr.mapUpdate
         simp only[eg,Sem.run_bind,run_underlying hd,Result.andThen_ok,wD eB,s4 gp,uK (C:=C) iP ab,Av _ eB]
        ·rw[Lq iE]
         simp only[nW,eo,mT,QQ]
         exact ef.append (.cons _ _ _ _ il .nil)
        ·rw[Lq iE]
         simp only[nW,eo,mT,QQ]
         exact cS.append (.cons _ _ _ _ cq .nil)
       |some r=>
        obtain⟨j,y,ab,-,adj,adk,adl⟩:=qK gp iP il 0 ef cS iE
        obtain⟨s1,s2⟩:=Sg gp iP il cq 0 ef cS iE ab
        rw[eO]at ab
        refine fin _ (es.modify j fun e=>{e with key:=ρ k,val:=ρ x}) bE rfl ?_ (by simpa using s1) (by simpa using s2) (cd.modify _ _ _)
        have adm:es[j]? =some adj:=by rw[<-auF];exact adk
        unfold Instr.mapUpdate
        simp only[eg,Sem.run_bind,run_underlying hd,Result.andThen_ok,wD eB,s4 gp,uK (C:=C) iP ab,adm,pq,sO,Instr.keyThatStays,adl,if_true,Sem.run_pure,Av _ eB]
      ·cases he
     ·cases he
    ·cases he
  ·cases he
 ·cases hc
end Go.Abs
namespace Go.Abs
open Go
variable{C:Ctx}{fid:Nat->Nat}{w w':World}{G G':bX}{H:Heap}
variable{vars:List Nat}{ae:ag->V}{ρ:Operand->Value}{low low':Nat}{v:V}{H':Heap}{pos:String}{c8:cH}{o:Oper}
theorem Sk:∀{ds:List V} {s:List UInt8} {vals:List Value},bytesOf ds=some s->aY fid G w (ds.flatMap aE) vals->∃mZ:List Int,vals=mZ.map (Value.int .u8)/\s=mZ.map fun n=>UInt8.ofNat n.toNat
 |[],s,vals,h,hr=>by
  simp only[bytesOf,az]at h;subst h
  cases hr
  exact⟨[],rfl,rfl⟩
 |d::ds,s,vals,h,hr=>by
  unfold bytesOf at h
  split at h
  ·rename_i q;cases q
  ·rename_i n r q
   cases q
   obtain⟨t,ht,rfl⟩:=ct.1 h
   simp only[kn,aE,jz,jB]at hr
   cases hr with
   |cons _ x _ xs hx hs=>
    obtain⟨mZ,rfl,rfl⟩:=Sk ht hs
    exact⟨n::mZ,by rw[hx.jE];rfl,rfl⟩
  ·cases h
theorem Sl:∀(mZ:List Int) (b:ByteArray),mZ.foldl (fun r n=>r.push (UInt8.ofNat n.toNat)) b=⟨(b.data.toList++mZ.map fun n=>UInt8.ofNat n.toNat).toArray⟩
 |[],b=>by simp
 |n::mZ,b=>by
  simp only[qu,Sl mZ,eo]
  congr 1
  simp[ByteArray.push]
theorem adn (U:aZ C fid G H w)(aL:fh C fid vars G w ae ρ){s d:TypeId}{x:Operand}(ho:o.op=.convert s d x){cv:ag}(hc:C.cI vars pos o.op=some (.uf cv))(he:step ae H low (.uf cv)=some (v,H',low')):
  dj C fid G H w low ((execOp ρ o).run C.P w) v H' low':=by
 rw[ho]at hc
 simp only[Ctx.cI]at hc
 split at hc
 ·cases hc
 ·rename_i e ado h1 h2 ar
  split at hc
  ·rename_i aQ
   simp only[az,cH.uf.injEq]at hc;subst hc
   have ad:=aL x ado ar
   simp only[step]at he
   split at he
   ·rename_i ds hd
    obtain⟨t,ht,he⟩:=ct.1 he
    simp only[bt]at he
    obtain⟨rfl,rfl,rfl⟩:=he
    obtain⟨dc,cap,hx,bc⟩:=Gm U ad hd
    have cr:(convert s d (ρ x)).run C.P w=.ok (.string ⟨t.toArray⟩) w:=by
     rw[hx,run_convert_bytes_string w s d e dc ds.length cap h1 aQ h2]
     cases dc with
     |none=>
      have:ds=[]:=by
       cases sX:ds with
       |nil=>rfl
       |cons a r=>
        obtain⟨b,off,vals,hb,-⟩:=bc (by rw[sX];simp)
        cases hb
      subst this
      simp only[bytesOf,az]at ht;subst ht
      simp[Conv.bytesToString,Sem.run_pure]
      rfl
     |some a=>
      have key:∃mZ:List Int,(loadCells a ds.length).run C.P w=.ok (mZ.map (Value.int .u8)).toArray w/\t=mZ.map fun n=>UInt8.ofNat n.toNat:=by
       by_cases bf:ds=[]
       ·subst bf
        simp only[bytesOf,az]at ht;subst ht
        exact⟨[],by simp[loadCells,loadCellsFrom,Sem.run_pure],rfl⟩
       ·obtain⟨b,off,vals,hb,hG,fg,hu⟩:=bc bf
        cases hb
        obtain⟨mZ,rfl,hs⟩:=Sk ht fg
        refine⟨mZ,?_,hs⟩
        have hl:ds.length=(mZ.map (Value.int .u8)).length:=by
         have:=fg.length
         rw[nv hu]at this
         simpa using this.symm
        rw[hl]
        exact run_loadCells_list (P:=C.P) w ⟨b,off,none⟩ _ (fun j v hj=>by rw[Addr.add_lit];exact hG j v hj)
      obtain⟨mZ,h5,rfl⟩:=key
      rw[run_bytesToString w a ds.length cap mZ h5,Sl]
      simp
    exact .same U (x:=.string ⟨t.toArray⟩) (by unfold execOp;rw[ho];simp only[Sem.run_bind,cr];rfl) (by
     have:=a8.p (fid:=fid) (G:=G) (w:=w) (.str t) _ (.str t)
     exact this)
   ·cases he
  ·cases hc
 ·cases hc
theorem Ax{bK:Nat}{k:V}:∀{bb:List (V × V)},h4 bK k bb=some none->iy bK k bb=bb
 |[],_=>rfl
 |(bp,v)::r,h=>by
  simp only[h4]at h
  split at h
  ·cases h
  ·rename_i he
   simp[iy,he,Ax h]
  ·cases h
theorem Lr{k:TypeId}{bK:Nat}{d:TypeDesc}(hk:C.jd k=some bK)(hd:C.P.underlying k=some d){a:V}{x:Value}(ao:a8 fid G w a x):∀{bb:List (V × V)} {es:List MapEntry} (i:Nat) {r:V} {j:Nat} {z:Value},
  aY fid G w (bb.map (·.1)) (es.map (·.key))->aY fid G w (bb.map (·.2)) (es.map (·.val))->h4 bK a bb=some (some r)->Instr.findNow d x es i=some (some (i+j,z))->
  aY fid G w ((iy bK a bb).map (·.1)) ((es.eraseIdx j).map (·.key))/\aY fid G w ((iy bK a bb).map (·.2)) ((es.eraseIdx j).map (·.val))
 |[],[],i,r,j,z,_,_,h,_=>by simp[h4]at h
 |[],_::_,_,_,_,_,h,_,_,_=>by simp at h;cases h
 | _::_,[],_,_,_,_,h,_,_,_=>by simp at h;cases h
 |(bp,u')::bb,e::es,i,r,j,z,ef,cS,h,ab=>by
  simp only[eo]at ef cS
  cases ef with
  |cons _ _ _ _ il ef=>
   cases cS with
   |cons _ _ _ _ qJ cS=>
    simp only[h4]at h
    split at h
    ·rename_i he
     obtain⟨hs,-⟩:=wC hk hd ao il he
     simp only[Instr.findNow,hs,az,bt]at ab
     obtain rfl:j=0:=by omega
     simp only[iy,he,if_true,aa3]
     exact⟨ef,cS⟩
    ·rename_i he
     obtain⟨hs,-⟩:=wC hk hd ao il he
     simp only[Instr.findNow,hs]at ab
     have im:=qK hk hd ao (i+1) ef cS h
     obtain⟨uL,n8,h1,-,-⟩:=im
     rw[h1]at ab
     simp only[az,bt]at ab
     obtain⟨hj,rfl⟩:=ab
     obtain rfl:j=uL+1:=by omega
     have ih:=Lr hk hd ao (i+1) ef cS h h1
     have bf:¬(ix bK a bp=some true):=by rw[he];simp
     simp only[iy,bf,if_false,eo,aa4]
     exact⟨.cons _ _ _ _ il ih.1,.cons _ _ _ _ qJ ih.2⟩
    ·cases h
theorem n0.erase{es:Array MapEntry}{bE:Nat}(h:n0 es bE)(j:Nat):n0 (es.eraseIdxIfInBounds j) bE:=by
 have hs:(es.eraseIdxIfInBounds j).toList.Sublist es.toList:=by
  rw[aaX];exact List.eraseIdx_sublist _ _
 exact⟨fun x hx=>h.1 x (hs.subset hx),h.2.sublist (hs.map _)⟩
theorem adp (U:aZ C fid G H w)(aL:fh C fid vars G w ae ρ){m k:Operand}{t ei rO:TypeId}{u:TypeId}{ts:Array TypeId}(hd:C.P.underlying t=some (.map ei rO))(ht:ts= #[t,u]){am gX:ag}{bK:Nat}(ho:o.op=.call {callee:=.builtin .delete,args:= #[m,k],argTypes:=ts})
  (h1:C.b3 vars m=some am) (h2:C.b3 vars k=some gX) (gp:C.jd ei=some bK) (he:step ae H low (.xK bK am gX)=some (v,H',low')):dj C fid G H w low ((execOp ρ o).run C.P w) v H' low':=by
 subst ht
 have hm:=aL m am h1
 have hk:=aL k gX h2
 obtain⟨Gt,iP⟩:=Gs gp
 have cr:(execOp ρ o).run C.P w=((Builtin.delete_ #[t,u] o.type #[ρ m,ρ k]).run C.P w).andThen fun z w'=>.ok (.value z) w':=by
  rw[x4 ho]
  simp only[builtin,Sem.run_bind,Ko,eo,mT]
  rfl
 simp only[step]at he
 split at he
 ·rename_i af
  simp only[az,bt]at he
  obtain⟨rfl,rfl,rfl⟩:=he
  rw[af]at hm
  have hx:=hm.K3
  refine .same U (x:=.tuple #[]) ?_ (.aU [] [] .nil)
  rw[cr,hx]
  unfold Builtin.delete_
  simp[run_underlying hd,s4 gp,Sem.run_pure]
 ·rename_i l af
  rw[af]at hm
  obtain⟨h0,cY,Sj,eg⟩:=hm.mapInv
  split at he
  ·rename_i bb hl
   obtain⟨aP,eM,hr⟩:=U.obj l h0 cY
   rw[hl]at eM;cases eM
   obtain⟨oY,jh,es,bE,eB,ef,cS,cd⟩:=hr
   split at he
   ·rename_i bM iE
    simp only[az,bt]at he
    obtain⟨rfl,rfl,rfl⟩:=he
    have aX:h0.b<w.heap.size:=U.blk l h0 cY
    have fin:∀(s5:Obj) (bD:Array MapEntry),s5=.map bD bE->(Builtin.delete_ #[t,u] o.type #[ρ m,ρ k]).run C.P w=.ok (.tuple #[]) {w with heap:=w.heap.setIfInBounds h0.b s5}->
      aY fid G w ((iy bK (ae gX) bb).map (·.1)) (bD.toList.map (·.key))->aY fid G w ((iy bK (ae gX) bb).map (·.2)) (bD.toList.map (·.val))->n0 bD bE->
      dj C fid G H w low ((execOp ρ o).run C.P w) (.aU []) (H.set l (.map (iy bK (ae gX) bb))) (min low l):=by
     rintro s5 bD rfl pI wE x8 x9
     have uM:∀b,b≠h0.b->({w with heap:=w.heap.setIfInBounds h0.b (.map bD bE)}:World).heap[b]? =w.heap[b]? :=fun b bf=>by
      show(w.heap.setIfInBounds h0.b _)[b]? =_
      rw[QC (kp bf)]
     have Aw:({w with heap:=w.heap.setIfInBounds h0.b (.map bD bE)}:World).heap[h0.b]? =some (.map bD bE):=by
      show(w.heap.setIfInBounds h0.b _)[h0.b]? =_
      simp[aX]
     have dJ:({w with heap:=w.heap.setIfInBounds h0.b (.map bD bE)}:World).heap.size=w.heap.size:=by simp
     have dW:Ext G w ⟨ck G.β l h0,G.I⟩ {w with heap:=w.heap.setIfInBounds h0.b (.map bD bE)} l H.length:=
      Ext.write U cY jh rfl (aK _) id rfl dJ uM rfl rfl
     refine⟨.tuple #[],_,_,.inl (by rw[cr,pI];rfl),aZ.write U cY jh rfl jh (aK _) id rfl dJ uM (.map (iy bK (ae gX) bb)) ⟨oY,jh,bD,bE,Aw,wE.ext U dW,x8.ext U dW,x9⟩,
      fun m hm=>dW.le (cV hm (qt _ _)) (aK _),.aU [] [] .nil,jU _ _,by simp⟩
    cases bM with
    |none=>
     have ab:=qK gp iP hk 0 ef cS iE
     refine fin _ es rfl ?_ (by rw[Ax iE];exact ef) (by rw[Ax iE];exact cS) cd
     unfold Builtin.delete_
     simp only[eg]
     simp[run_underlying hd,wD eB,s4 gp,uK (C:=C) iP ab,Av _ eB,Sem.run_pure]
    |some r=>
     obtain⟨j,y,ab,-,-⟩:=qK gp iP hk 0 ef cS iE
     obtain⟨s1,s2⟩:=Lr gp iP hk 0 ef cS iE ab
     rw[eO]at ab
     refine fin _ (es.eraseIdxIfInBounds j) rfl ?_ (by simpa using s1) (by simpa using s2) (cd.erase _)
     unfold Builtin.delete_
     simp only[eg]
     simp[run_underlying hd,wD eB,s4 gp,uK (C:=C) iP ab,Av _ eB,Sem.run_pure]
   ·cases he
  ·cases he
 ·cases he
theorem Ls{P:Program}{w:World}(s:ByteArray):(Builtin.lenOf (.string s)).run P w=.ok s.size w:=rfl
theorem Sm{P:Program}{t u ty e:TypeId}{i:TypeInfo}(hd:P.underlying t=some (.slice e))(hu:P.underlying u=some .string)(hi:P.info? e=some i){base:Option Addr}{eH j3 n:Nat}{s:ByteArray}{news:List Value}(hn:s.size=n)
  (hx:(Builtin.firstCells i.size n (.string s)).run P w=.ok news.toArray w) (lW:eH+n<=j3):
  (Builtin.append_ #[t,u] ty #[.slice base eH j3,.string s]).run P w=
    ((match base with|some a=>storeCells (a.add (eH*i.size)) news|none=>pure ()).run P w).andThen fun _ w'=>.ok (.slice base (eH+n) j3) w':=by
 subst hn
 cases base with
 |none=>simp[Builtin.append_,run_underlying hd,run_underlying hu,sizeOf,typeInfo,hi,Ls,lW,hx]
 |some a=>simp[Builtin.append_,run_underlying hd,run_underlying hu,sizeOf,typeInfo,hi,Ls,lW,hx]
theorem Sn{P:Program}{t u ty e:TypeId}{i:TypeInfo}{cE:Value}(hd:P.underlying t=some (.slice e))(hu:P.underlying u=some .string)(hi:P.info? e=some i)(aT:i.zero=some cE)
  {base:Option Addr} {eH j3 n:Nat} {s:ByteArray} {ez news:List Value} (hn:s.size=n)
  (hx:(Builtin.firstCells i.size n (.string s)).run P w.drew=.ok news.toArray w.drew) (ho:(Builtin.firstCells i.size eH (.slice base eH j3)).run P w.drew=.ok ez.toArray w.drew)
  (lW:j3<eH+n) (hb:(eH+n)*(i.bytes+1)<=1099511627776):
  ∃iD,eH+n<=iD/\(Builtin.append_ #[t,u] ty #[.slice base eH j3,.string s]).run P w=
   .ok (.slice (some ⟨w.heap.size,0,none⟩) (eH+n) iD) (w.drew.alloc (.cells (ez.toArray++news.toArray++Builtin.zeroCells cE.cells (iD-(eH+n))) e)):=by
 subst hn
 have h1:¬eH+s.size<=j3:=by omega
 have hm:(eH+s.size)*i.bytes+(eH+s.size)=(eH+s.size)*(i.bytes+1):=by rw[Nat.mul_succ]
 have h2:¬(((eH+s.size:Nat):Int)>9223372036854775807):=by omega
 have ar:=growslice_fits (need:=eH+s.size) (old:=j3) (bytes:=i.bytes) lW (by omega)
 have aQ:¬(281474976710656<Builtin.nextslicecap (eH+s.size) j3*i.bytes):=by omega
 refine⟨eH+s.size+(w.tape w.drawn (.appendCap (eH+s.size) j3 e))%(9223372036854775808-(eH+s.size)),Kn _ _,?_⟩
 have wA:¬(9223372036854775807<(eH:Int)+(s.size:Int)):=by omega
 simp[Builtin.append_,run_underlying hd,run_underlying hu,sizeOf,typeInfo,hi,Ls,h1,wA,aQ,Question.forced,Question.cut,hx,ho,zeroValue,aT,newRow]
 congr 2
 apply Array.ext'
 simp
theorem So{P:Program}{w:World}(size:Nat)(s:List UInt8):(Builtin.firstCells size s.length (.string ⟨⟨s⟩⟩)).run P w=.ok (s.map fun b=>Value.int .u8 b.toNat).toArray w:=by
 have:(ByteArray.extract ⟨⟨s⟩⟩ 0 s.length)=⟨⟨s⟩⟩:=by
  apply ByteArray.ext
  simp
 simp[Builtin.firstCells,this,Sem.run_pure]
theorem adq (U:aZ C fid G H w)(aL:fh C fid vars G w ae ρ){a b:Operand}{t u e:TypeId}{i:TypeInfo}{cE:Value}{args:Array Operand}{ts:Array TypeId}(ho:o.op=.call {callee:=.builtin .append,args,argTypes:=ts})
  (ao:args= #[a,b]) (ht:ts= #[t,u]) {nz j4:ag} (h1:C.b3 vars a=some nz) (h2:C.b3 vars b=some j4) (hd:C.P.underlying t=some (.slice e)) (hu:C.P.underlying u=some .string) (hi:C.P.info? e=some i)
  (aT:i.zero=some cE) (uH:cE.cells.size=i.size) (sW:i.size=1) (asL:i.bytes=1) (he:step ae H low (.Cj nz j4)=some (v,H',low')):dj C fid G H w low ((execOp ρ o).run C.P w) v H' low':=by
 subst ao;subst ht
 have hx:=aL a nz h1
 have hy:=aL b j4 h2
 have lV:0<i.size:=by omega
 have CP:(execOp ρ o).run C.P w=((Builtin.append_ #[t,u] o.type #[ρ a,ρ b]).run C.P w).andThen fun z w'=>.ok (.value z) w':=by
  rw[x4 ho]
  simp only[builtin,Sem.run_bind,Ko,eo,mT]
  rfl
 simp only[step]at he
 split at he
 ·rename_i s Lt
  rw[Lt]at hy
  have cr:=CP
  rw[hy.oS]at cr
  have hn:(⟨⟨s⟩⟩:ByteArray).size=s.length:=rfl
  split at he
  ·rename_i uI
   have oZ:s=[]:=by simpa using uI
   subst oZ
   have same:∀base n cap,ρ a=.slice base n cap->n<=cap->(execOp ρ o).run C.P w=.ok (.value (ρ a)) w:=by
    intro base n cap hs hle
    rw[cr,hs,Sm (P:=C.P) hd hu hi (n:=0) rfl (So i.size []) (by simpa using hle)]
    cases base<;>simp[storeCells]
   split at he
   ·rename_i af
    simp only[az,bt]at he
    obtain⟨rfl,rfl,rfl⟩:=he
    rw[af]at hx
    exact .same U (same _ _ _ hx.j0 (aK _)) hx
   ·rename_i af
    simp only[az,bt]at he
    obtain⟨rfl,rfl,rfl⟩:=he
    rw[af]at hx
    obtain⟨dc,eg⟩:=hx.rI
    exact .same U (same _ _ _ eg (aK _)) hx
   ·rename_i l bD off len tag af
    rw[af]at hx
    split at he
    ·rename_i eX ds dt hl
     split at he
     ·rename_i fR
      simp only[az,bt]at he
      obtain⟨rfl,rfl,rfl⟩:=he
      obtain⟨h0,dc,cJ,cap,cY,rH,jF,eg⟩:=hx.pA
      obtain⟨aP,eM,hr⟩:=U.obj l h0 cY
      rw[hl]at eM;cases eM
      obtain⟨rfl,rfl,-,qG⟩:=jF (hr.1.trans fR)
      exact .same U (same _ _ _ eg qG) hx
     ·cases he
    ·cases he
   ·cases he
  ·rename_i uI
   have oZ:s≠[]:=by simpa using uI
   generalize eQ:(s.map fun c=>V.int .u8 c.toNat)=eR at he
   generalize cS:(s.map fun c=>Value.int .u8 c.toNat)=vals
   obtain⟨xs,bF⟩:∃xs:List V,eR.length=xs.length:=⟨eR,rfl⟩
   have gY:s.length=xs.length:=by rw[<-bF,<-eQ,oG]
   have bf:0<eR.length:=by rw[<-eQ,oG];exact List.length_pos_iff.2 oZ
   have cq:aY fid G w (eR.flatMap aE) vals:=by
    subst eQ;subst cS
    clear oZ uI gY bf bF he Lt hy cr hn
    induction s with
    |nil=>exact .nil
    |cons c s ih=>exact .cons _ _ _ _ (.p _ _ (.int _ _)) ih
   have ky:∀d∈eR,(aE d).length=i.size:=by
    intro d hd
    rw[<-eQ]at hd
    obtain⟨c,-,rfl⟩:=ey.1 hd
    rw[sW];rfl
   have bx:bS (eR.flatMap aE)=true:=by
    subst eQ
    have key:∀q:List UInt8,bS ((q.map fun c=>V.int .u8 c.toNat).flatMap aE)=true:=fun q=>by
     induction q with
     |nil=>rfl
     |cons c s ih=>exact(b8 _ _).mpr ⟨rfl,ih⟩
    exact key s
   have wB:∀hF:World,hF.heap=w.heap->(Builtin.firstCells i.size xs.length (.string ⟨⟨s⟩⟩)).run C.P hF=.ok vals.toArray hF:=fun hF _=>by
    rw[<-gY,<-cS];exact So i.size s
   have mG:(⟨⟨s⟩⟩:ByteArray).size=xs.length:=hn.trans gY
   have Lu:i.bytes+1=2:=by omega
   rw[<-sW]at he
   have Lo:=Sc cq bx
   have lX:vals.length=xs.length*i.size:=by rw[cq.length,nv ky,bF]
   have fresh:∀base,ρ a=.slice base 0 0->eR.length*(i.bytes+1)<=1099511627776->dj C fid G H w low ((execOp ρ o).run C.P w) (.cz H.length i.size 0 eR.length eR.length) (H++[.row i.size eR false]) low:=by
    intro base hs hb
    have hold:(Builtin.firstCells i.size 0 (.slice base 0 0)).run C.P w.drew=.ok ([]:List Value).toArray w.drew:=by
     cases base<;>simp[Builtin.firstCells,loadCells,loadCellsFrom]
    obtain⟨iD,e4,pI⟩:=Sn (P:=C.P) (t:=t) (u:=u) (ty:=o.type) hd hu hi aT mG (wB w.drew rfl) hold (by omega) (by rw[eO,<-bF];exact hb)
    rw[eO,<-bF]at pI e4
    refine dj.newRow U (cap:=iD) (e:=e) lV bf ky (vals:=vals) (rest:=(Builtin.zeroCells cE.cells (iD-eR.length)).toList) ?_ cq ?_ e4 (by rw[cr,hs,pI];rfl)
    ·simp
    ·simp only[Cb,zR,ja,eO,Gn,lX,uH,<-bF,<-rC]
     rw[Nat.add_sub_cancel' e4];exact aK _
   split at he
   ·rename_i af
    split at he
    ·rename_i hb
     simp only[az,bt]at he
     obtain⟨rfl,rfl,rfl⟩:=he
     rw[af]at hx
     exact fresh _ hx.j0 (by rw[Lu];exact hb)
    ·cases he
   ·rename_i af
    split at he
    ·rename_i hb
     simp only[az,bt]at he
     obtain⟨rfl,rfl,rfl⟩:=he
     rw[af]at hx
     obtain⟨dc,eg⟩:=hx.rI
     exact fresh _ eg (by rw[Lu];exact hb)
    ·cases he
   ·rename_i l bD off len tag af
    rw[af]at hx
    split at he
    ·rename_i eX ds hl
     split at he
     ·rename_i ep
      obtain⟨rfl,rfl,fR,rfl,rfl,hb⟩:=ep
      simp only[az,bt]at he
      obtain⟨rfl,rfl,rfl⟩:=he
      obtain⟨h0,dc,cJ,cap,cY,rH,jF,eg⟩:=hx.pA
      obtain⟨aP,eM,hr⟩:=U.obj l h0 cY
      rw[hl]at eM;cases eM
      obtain⟨CN,Sd,hfz,fa,mW,c,uJ,kB,rest,hc,fS,kU,fg⟩:=hr
      obtain⟨rfl,rfl,qB,qG⟩:=jF (CN.trans fR)
      rw[Nat.zero_mul]at eg
      rw[eO]at qB
      have kW:ds.length=cJ:=fR
      have qH:kB.length=cJ*i.size:=by rw[fg.length,nv mW,kW]
      have hG:c.size=kB.length+rest.length:=by rw[<-hB,kU,gM]
      have s0:∀d∈ds++eR,(aE d).length=i.size:=fun d hd=>by
       rcases jA.1 hd with q|q
       ·exact mW d q
       ·exact ky d q
      have CO:aY fid G w ((ds++eR).flatMap aE) (kB++vals):=by rw[Kk];exact fg.append cq
      by_cases lW:cJ+xs.length<=cap
      ·
       have hmul:(cJ+xs.length)*i.size<=c.size:=cV (Ki _ lW) (by rw[<-fS];exact qB)
       rw[rC]at hmul
       have cd:=run_storeCells_at C.P h0.b (cJ*i.size) uJ vals 0 c w hc (by omega) Lo
       have hval:(execOp ρ o).run C.P w=.ok (.value (.slice (some ⟨h0.b,0,none⟩) (cJ+xs.length) cap)) (w.setRow h0.b (c.toList.take (cJ*i.size)++vals++c.toList.drop (cJ*i.size+vals.length)).toArray):=by
        rw[cr,eg,Sm (P:=C.P) hd hu hi mG (wB w rfl) lW]
        simp only[Addr.add_lit,eO]
        simp only[zW]at cd
        rw[cd];rfl
       have dW:Ext G w ⟨ck G.β l {h0 with tag:=cJ+eR.length},G.I⟩ (w.setRow h0.b (c.toList.take (cJ*i.size)++vals++c.toList.drop (cJ*i.size+vals.length)).toArray) l H.length:=
        Ext.write U cY hfz rfl (by simp only;omega) (fun q=>by omega) rfl (setRow_size _ _) (fun b bf=>setRow_other bf _) rfl rfl
       refine⟨_,_,_,.inl hval,aZ.write U cY hfz (h':={h0 with tag:=cJ+eR.length}) rfl hfz (by simp only;omega) (fun q=>by omega) rfl (setRow_size _ _) (fun b bf=>setRow_other bf _) (.row i.size (ds++eR) false) ?_,
        fun m hm=>dW.le (cV hm (qt _ _)) (aK _),?_,jU _ _,by simp⟩
       ·refine⟨by simp[kW],by simp;omega,hfz,fa,s0,_,uJ,kB++vals,rest.drop vals.length,setRow_heap w h0.b c _ uJ _ hc,?_,?_,CO.ext U dW⟩
        ·show h0.ff=_
         rw[fS]
         simp only[zR,gM,sM,sN,hB]
         omega
        ·rw[QJ,kU,<-qH,List.take_left,QS,mS,mS]
         congr 2
         rw[aa5 (by omega),jB]
         congr 1;omega
       ·rw[<-bF]
        exact .cz l i.size 0 _ _ {h0 with tag:=cJ+eR.length} _ _ _ (de _ _ _) (aK _) (fun _=>⟨by simp,rfl,by rw[eO];exact qB,by omega⟩)
      ·
       have hold:(Builtin.firstCells i.size cJ (.slice (some ⟨h0.b,0,none⟩) cJ cap)).run C.P w.drew=.ok kB.toArray w.drew:=
        Ln (iz.xU (w:=w.drew) hc kU) qH
       obtain⟨iD,e4,pI⟩:=Sn (P:=C.P) (t:=t) (u:=u) (ty:=o.type) hd hu hi aT mG (wB w.drew rfl) hold (by omega) (by rw[<-bF,Lu];exact hb)
       have x7:aZ C fid G H w.drew:=U.lU rfl
       have du:∀m n,Ext G w G w.drew m n:=fun m n=>Ext.lU (w:=w) (w':=w.drew) rfl rfl rfl m n
       obtain⟨bA,b9⟩:=aZ.move x7 cY hfz (.cells (kB.toArray++vals.toArray++Builtin.zeroCells cE.cells (iD-(cJ+xs.length))) e) (cJ+eR.length)
        (kB.toArray++vals.toArray++Builtin.zeroCells cE.cells (iD-(cJ+xs.length))).size (by omega) (by omega) (.row i.size (ds++eR) false)
        ⟨by simp[kW],by simp;omega,rfl,fa,s0,_,e,kB++vals,(Builtin.zeroCells cE.cells (iD-(cJ+xs.length))).toList,oQ _ _,rfl,by simp,aY.mono (G:=G) (w:=w.drew) (G':=⟨ck G.β l ⟨w.drew.heap.size,cJ+eR.length,(kB.toArray++vals.toArray++Builtin.zeroCells cE.cells (iD-(cJ+xs.length))).size,false⟩,G.I⟩) (by
         intro x fj dI
         by_cases jH:x=l
         ·subst jH;rw[cY]at dI;cases dI
          exact⟨_,de _ _ _,by simp only;omega,fun q=>by omega,fun q=>by simp only at q;omega,fun q=>by rw[hfz]at q;cases q⟩
         ·exact⟨fj,by simp only[dp jH];exact dI,aK _,id,fun _=>⟨rfl,rfl⟩,fun _=>rfl⟩) (fun b s3=>⟨s3,alloc_old (w:=w.drew) (x7.cX b s3).1⟩) (CO.ext U (du 0 0))⟩
       refine⟨_,_,_,.inl (by rw[cr,eg,pI];rfl),bA,fun m hm=>(du m H.length).trans (b9.le (cV hm (qt _ _)) (aK _)),?_,jU _ _,by simp⟩
       rw[<-bF]
       refine .cz l i.size 0 _ _ ⟨w.drew.heap.size,cJ+eR.length,_,false⟩ _ _ _ (de _ _ _) (aK _) (fun _=>⟨by simp,rfl,?_,by omega⟩)
       simp only[Cb,zR,Gn,lX,qH,uH,<-rC,eO]
       have uD:cJ+xs.length+(iD-(cJ+eR.length))=iD:=by omega
       rw[uD];exact aK _
     ·cases he
    ·cases he
   ·cases he
 ·cases he
end Go.Abs
namespace Go.Abs
open Go
variable{C:Ctx}{fid:Nat->Nat}{w w':World}{G G':bX}{H:Heap}
section
variable{vars:List Nat}{ae:ag->V}{ρ:Operand->Value}{low low':Nat}{v:V}{H':Heap}{pos:String}{c8:cH}{o:Oper}
theorem s6{α:Type}{a:Array α}{x y:α}(h:a.toList=[x,y]):a= #[x,y]:=by cases a;simp_all
theorem Ay{α:Type}{a:Array α}{x:α}(h:a.toList=[x]):a= #[x]:=by cases a;simp_all
theorem adr (U:aZ C fid G H w)(aL:fh C fid vars G w ae ρ){b:Builtin}{args:Array Operand}{ts:Array TypeId}(ho:o.op=.call {callee:=.builtin b,args,argTypes:=ts})
  (hc:C.builtin vars b args ts=some c8) (he:step ae H low c8=some (v,H',low')):dj C fid G H w low ((execOp ρ o).run C.P w) v H' low':=by
 unfold Ctx.builtin at hc
 split at hc
 ·rename_i x t ao ht
  split at hc
  ·rename_i hu
   obtain⟨cv,hx,rfl⟩:=ct.1 hc
   exact Li U aL ho (Ay ao) (Ay ht) hx (by simpa using hu) he
  ·rename_i e hu
   obtain⟨cv,hx,rfl⟩:=ct.1 hc
   exact Li U aL ho (Ay ao) (Ay ht) hx (by simpa using⟨e,hu⟩) he
  ·rename_i k e hu
   obtain⟨cv,hx,rfl⟩:=ct.1 hc
   exact Li U aL ho (Ay ao) (Ay ht) hx (by simpa using⟨k,e,hu⟩) he
  ·cases hc
 ·rename_i a b t u ao ht
  split at hc
  ·rename_i e e' h1 h2
   split at hc
   ·rename_i i nz j4 hi hx hy
    split at hc
    ·cases hc
    ·rename_i hn
     simp only[az]at hc;subst hc
     have Az:i.size≠0/\i.zero.map (fun z=>z.cells.size)=some i.size:=by
      simp only[ko,decide_eq_true_eq,bne_iff_ne,ne_eq,not_or,Decidable.not_not]at hn
      exact hn
     obtain⟨cE,aT,uH⟩:=ct.1 Az.2
     exact ada U aL ho (s6 ao) (s6 ht) hx hy h1 h2 hi aT uH (QN Az.1) he
   ·cases hc
  ·rename_i e h1 h2
   split at hc
   ·rename_i i nz j4 hi hx hy
    split at hc
    ·rename_i hn
     simp only[az]at hc;subst hc
     simp only[b8,beq_iff_eq]at hn
     obtain⟨⟨lk,Gv⟩,Gw⟩:=hn
     have lk:i.size=1:=by simpa using lk
     obtain⟨cE,aT,uH⟩:=ct.1 Gw
     exact adq U aL ho (s6 ao) (s6 ht) hx hy h1 h2 hi aT (by rw[uH,lk]) lk Gv he
    ·cases hc
   ·cases hc
  ·cases hc
 ·rename_i m k t u ao ht
  split at hc
  ·rename_i ei rO am gX h1 h2 ar
   obtain⟨bK,gp,rfl⟩:=ct.1 hc
   have gv:=s6 ao
   subst gv
   exact adp U aL h1 (s6 ht) ho h2 ar gp he
  ·cases hc
 ·cases hc
 ·rename_i a b ao
  split at hc
  ·rename_i nz j4 hx hy
   simp only[az]at hc;subst hc
   exact R0 U aL ho (s6 ao) (mx:=true) rfl hx hy he
  ·cases hc
 ·rename_i a b t u ao ht
  split at hc
  ·rename_i e e' h1 h2
   split at hc
   ·rename_i n nz j4 hi hx hy
    split at hc
    ·cases hc
    ·simp only[az]at hc;subst hc
     exact ade (e':=e') U aL ho (s6 ao) (s6 ht) hx hy h1 hi he
   ·cases hc
  ·cases hc
 ·rename_i a b ao
  split at hc
  ·rename_i nz j4 hx hy
   simp only[az]at hc;subst hc
   exact R0 U aL ho (s6 ao) (mx:=false) rfl hx hy he
  ·cases hc
 ·cases hc
theorem ads (bu:eZ C fid)(U:aZ C fid G H w)(aL:fh C fid vars G w ae ρ)(jZ:low<=H.length)
  (he:step ae H low (C.op vars pos o.op)=some (v,H',low')):dj C fid G H w low ((execOp ρ o).run C.P w) v H' low':=by
 unfold Ctx.op at he
 cases hc:C.cI vars pos o.op with
 |none=>rw[hc]at he;simp[step]at he
 |some c8=>
  rw[hc]at he
  simp only[sO]at he
  cases c4:o.op with
  |move x=>exact RS U aL (.inl c4) hc he
  |assign x=>exact RS U aL (.inr c4) hc he
  |pick c a b=>exact acg U aL c4 hc he
  |alloc t=>exact acs U c4 hc he
  |box t x=>exact acu U aL c4 hc he
  |build t parts=>exact ac1 U aL c4 hc he
  |buildSlice t l parts=>exact ac2 U aL c4 hc he
  |load t a=>exact acq U aL c4 hc he
  |store t a x=>exact acr U aL c4 hc jZ he
  |nilCheck x=>exact ach U aL c4 hc he
  |binOp a b c d e=>exact acG U aL c4 hc he
  |unOp a b c=>exact aci U aL c4 hc he
  |convert a b c=>
   rcases(show(∃x,c8=.uf x)\/∀x,c8≠ .uf x from by
    cases c8<;>first|exact .inl ⟨_,rfl⟩|exact .inr (by simp))with⟨x,rfl⟩|hnb
   ·exact adn U aL c4 hc he
   ·exact acj U aL c4 hnb hc he
  |makeInterface a b=>exact ack U aL c4 hc he
  |makeFunc a b c=>exact acm bu U aL c4 hc he
  |makeMap a b=>exact acv U c4 hc he
  |makeSlice a b c=>exact ac7 U aL c4 hc he
  |slice a b c d e=>exact acQ U aL c4 hc he
  |fieldAddr a b c=>exact acp U aL c4 hc he
  |field a b c=>exact aco U aL c4 hc he
  |indexAddr a b c=>exact acT U aL c4 hc he
  |index a b c=>exact acw U aL c4 hc he
  |lookup a b c d=>exact adh U aL c4 hc he
  |mapUpdate a b c d=>exact Si U aL (.inl c4) hc he
  |insert a b c d=>exact Si U aL (.inr c4) hc he
  |extract a b=>exact acn U aL c4 hc he
  |call c=>
   rw[c4]at hc
   obtain⟨callee,args,dK⟩:=c
   cases callee with
   |builtin b=>exact adr U aL c4 hc he
   |value f=>
    simp only[Ctx.cI]at hc
    split at hc
    ·simp only[az]at hc;subst hc;simp[step]at he
    ·cases hc
   | _=>simp[Ctx.cI]at hc
  | _=>rw[c4]at hc;simp[Ctx.cI]at hc
end
end Go.Abs
