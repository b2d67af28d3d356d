/- Texts of this claim, joined and written short by a program. -/
import Derived.Test.YtemakagmboeodaaGreatDoorP06
import Derived.Test.YtemakagmboeodaaGreatDoorP00
set_option linter.unusedVariables false
set_option linter.unusedSimpArgs false
set_option linter.unusedSectionVars false
namespace Go.Abs
open Go
variable{C:Ctx}{fid:Nat->Nat}{w w':World}{G G':bw}{H H':Heap}
theorem aQ.place (aa:aQ C fid G H w){l:Nat}(hn:G.β l=Option.none){o:bd}(hl:H[l]? =some o)(aJ:Obj)(tag ef:Nat)
  (ho:gT C fid ⟨b0 G.β l ⟨w.heap.size,tag,ef,false⟩,G.I⟩ (w.alloc aJ) ⟨w.heap.size,tag,ef,false⟩ o):
  aQ C fid ⟨b0 G.β l ⟨w.heap.size,tag,ef,false⟩,G.I⟩ H (w.alloc aJ):=by
 have hle:=vo hn ⟨w.heap.size,tag,ef,false⟩;refine⟨fun x h hb=> ?_,fun x fA h h' e e' q=> ?_,fun x h hb=> ?_,fun b hb=> ?_,fun x h hb af=> ?_,fun b o aT=>⟨(aa.ej b o aT).1,by rw[alloc_old (aa.cu b (aa.ej b o aT).1).1];exact(aa.ej b o aT).2⟩⟩
 ·by_cases hx:x=l
  ·subst hx
   simp only[cM]at hb;cases hb;exact⟨o,hl,ho⟩
  ·simp only[cZ hx]at hb
   obtain⟨cC,e',hr⟩:=aa.obj x h hb;exact⟨cC,e',hr.mono (G':=⟨b0 G.β l _,G.I⟩) hle (fun b hb=>⟨hb,alloc_old (aa.cu b hb).1⟩) (alloc_old (aa.cL x h hb))⟩
 ·by_cases hx:x=l<;>by_cases dV:fA=l
  ·rw[hx,dV]
  ·subst hx;simp only[cM]at e;cases e
   simp only[cZ dV]at e';have:=aa.cL fA h' e';simp only at q;omega
  ·subst dV;simp only[cM]at e';cases e'
   simp only[cZ hx]at e;have:=aa.cL x h e;simp only at q;omega
  ·simp only[cZ hx]at e;simp only[cZ dV]at e'
   exact aa.inj x fA h h' e e' q
 ·rw[World.size_alloc]
  by_cases hx:x=l
  ·subst hx;simp only[cM]at hb;cases hb;simp
  ·simp only[cZ hx]at hb;have:=aa.cL x h hb;omega
 ·have hi:=aa.cu b hb
  refine⟨by rw[World.size_alloc];omega,fun x h e q=> ?_⟩;by_cases hx:x=l
  ·subst hx;simp only[cM]at e;cases e;simp only at q;omega
  ·simp only[cZ hx]at e;exact hi.2 x h e q
 ·by_cases hx:x=l
  ·subst hx;simp only[cM]at hb;cases hb;cases af
  ·simp only[cZ hx]at hb;exact aa.iq x h hb af
theorem Ext.place{l:Nat}(hn:G.β l=Option.none){eB:Nat}(aJ:Obj)(tag ef m:Nat)(hl:eB<=l):Ext G w ⟨b0 G.β l ⟨w.heap.size,tag,ef,false⟩,G.I⟩ (w.alloc aJ) m eB where
 size:=by simp
 os:=rfl
 output:=rfl
 eg b hb _:=alloc_old hb
 homes:=vo hn _
 kJ x h hb:=by
  by_cases hx:x=l
  ·subst hx;simp only[cM]at hb;cases hb;exact .inr ⟨hl,aI _⟩
  ·simp only[cZ hx]at hb;exact .inl ⟨h,hb,.inl rfl⟩
 cu _ h:=h
 lb _ h:=.inl h
theorem aQ.longer (aa:aQ C fid G H w)(h:∀(l:Nat) (o:bd),H[l]? =some o->H'[l]? =some o):aQ C fid G H' w:=
 ⟨fun l x e=>by
  obtain⟨o,ho,hr⟩:=aa.obj l x e;exact⟨o,h l o ho,hr⟩,aa.inj,aa.cL,aa.cu,aa.iq,aa.ej⟩
theorem KX{vars:List Nat}{pos:String}{op:Op}{es:Nat}{z:List V}{bytes:Nat}{jL ac:ah}(hc:C.op vars pos op=.mkSlice es z bytes jL ac):∃t l c,op=.makeSlice t l c/\C.ca vars pos op=some (.mkSlice es z bytes jL ac):=by
 have bZ:C.ca vars pos op=some (.mkSlice es z bytes jL ac):=by
  unfold Ctx.op at hc;cases h:C.ca vars pos op with
  |none=>rw[h]at hc;cases hc
  |some a=>rw[h]at hc;simp only[sJ]at hc;rw[hc]
 cases ho:op with
 |makeSlice t l c=>rw[ho]at bZ;exact⟨t,l,c,rfl,bZ⟩
 |call c=>
  exfalso;rw[ho]at bZ;obtain⟨callee,args,c6⟩:=c;cases callee with
  |value f=>
   simp only[Ctx.ca]at bZ;split at bZ<;>simp at bZ
  |builtin b=>
   simp only[Ctx.ca]at bZ;unfold Ctx.builtin at bZ
   repeat' split at bZ
   all_goals first
    |(cases bZ;done)
    |(simp only[ay,reduceCtorEq]at bZ;done)
    |(obtain⟨_,_,h⟩:=bW.1 bZ;cases h;done)
  |invoke r n=>simp[Ctx.ca]at bZ
 |binOp a b c d e=>
  exfalso;rw[ho]at bZ;simp only[Ctx.ca,Ctx.sX]at bZ
  repeat' split at bZ
  all_goals first
   |(cases bZ;done)
   |(obtain⟨_,_,h⟩:=bW.1 bZ;cases h;done)
 |makeFunc g a b=>
  exfalso;rw[ho]at bZ;cases g with
  |func f=>
   simp only[Ctx.ca]at bZ;split at bZ<;>simp at bZ
  | _=>simp[Ctx.ca]at bZ
 |makeMap t r=>
  exfalso;rw[ho]at bZ;cases r<;>simp[Ctx.ca]at bZ
 | _=>
   exfalso;rw[ho]at bZ;simp only[Ctx.ca]at bZ
   repeat' split at bZ
   all_goals first
    |(cases bZ;done)
    |(obtain⟨_,_,h⟩:=bW.1 bZ;cases h;done)
theorem run_mk{vars:List Nat}{ag:ah->V}{ρ:Operand->Value}{o:Oper}{pos:String}{es:Nat}{z:List V}{bytes:Nat}{jL ac:ah}(aE:eo C fid vars G w ag ρ)(c5:C.op vars pos o.op=.mkSlice es z bytes jL ac)
  {n m:Int} {k bJ:IntKind} (ae:ag jL=.int k n) (ai:ag ac=.int bJ m) (hb:n=m/\0<=n/\n*(bytes+1)<=2^40):
  0<es/\∃e cells,(execOp ρ o).run C.P w=.ok (.value (.slice (some ⟨w.heap.size,0,none⟩) n.toNat n.toNat)) (w.alloc (.cells cells e))/\cells.size=n.toNat*es/\
   (∀d∈List.replicate n.toNat (jo z),(aL d).length=es)/\∀G' w',aW fid G' w' ((List.replicate n.toNat (jo z)).flatMap aL) cells.toList:=by
 obtain⟨t,l,c,ho,hc⟩:=KX c5;rw[ho]at hc;simp only[Ctx.ca]at hc;split at hc
 ·rename_i e hd
  split at hc
  ·rename_i i Ff aib aic hi aP h1 h2
   split at hc
   ·cases hc
   ·rename_i dy
    simp only[not_or,ne_eq,Classical.not_not]at dy;simp only[ay,b8.mkSlice.injEq]at hc;obtain⟨rfl,rfl,rfl,rfl,rfl⟩:=hc;obtain⟨bO,kP,kQ,bx,-⟩:=xR (fid:=fid) aP;have tC:bO.cells.size=i.size:=by rw[<-e9,(kQ G w).length,dy.2]
    have hl:=aE l _ h1;have oj:=aE c _ h2;obtain⟨rfl,j8,hbound⟩:=hb;rw[ae]at hl;rw[ai]at oj;obtain⟨j,rfl⟩:=CU j8
    have nx:j<=1099511627776:=by
     have:(j:Int)*1<=(j:Int)*((i.bytes:Int)+1):=Int.mul_le_mul_of_nonneg_left (by omega) j8;omega
    have tD:(i.bytes:Int)*(j:Int)<=1099511627776:=by
     have:(j:Int)*((i.bytes:Int)+1)=(i.bytes:Int)*(j:Int)+j:=by rw[Int.mul_add,Int.mul_comm];omega
     omega
    have hw:=Ks j8 (by omega:(j:Int)<=1099511627776);have iT:0<i.size:=C5 dy.1
    have bR:∃cells,(execOp ρ o).run C.P w=.ok (.value (.slice (some ⟨w.heap.size,0,none⟩) j j)) (w.alloc (.cells cells e))/\cells.toList=(List.range (j*i.size)).map (fun q=>bO.cells[q%bO.cells.size]!):=by
     refine⟨(Array.range (j*i.size)).map (fun q=>(if j*i.size=0 then #[]else bO.cells:Array Value)[q%(if j*i.size=0 then #[]else bO.cells:Array Value).size]!),?_,?_⟩
     ·unfold execOp;rw[ho]
      have rO:¬((decide ((j:Int)<0)||decide ((i.bytes:Int)*(j:Int)>2^48))=true):=by simp;omega
      have oh:¬((decide ((j:Int)<0)||decide ((i.bytes:Int)*(j:Int)>2^48)||decide ((j:Int)<0)||decide ((j:Int)>(j:Int)))=true):=by simp;omega
      simp only[hl.gH,oj.gH,Instr.makeSlice,asInt,asIntOf,Sem.run_bind,Sem.run_pure,Result.andThen_ok,run_underlying hd,run_typeInfo (P:=C.P) w hi,hw];rw[if_neg (by simpa using oh)];simp only[Sem.run_bind,run_askRoom,Result.andThen_ok,sizeOf,run_typeInfo (P:=C.P) w hi,Sem.run_pure,Int.toNat_natCast];by_cases h0:j*i.size=0
      ·simp only[h0,if_true,Sem.run_bind,Sem.run_pure,Result.andThen_ok,newRow,run_newObj,World.alloc_eq]
      ·simp only[h0,if_false,Sem.run_bind,Sem.run_pure,Result.andThen_ok,kP,newRow,run_newObj,World.alloc_eq]
     ·by_cases h0:j*i.size=0
      ·simp[h0]
      ·simp[h0]
    obtain⟨cells,bR,ew⟩:=bR;have hu:=EA bx (n:=j) dy.2;rw[tC]at ew
    have ll:∀G' w',aW fid G' w' ((List.replicate j (jo Ff)).flatMap aL) cells.toList:=fun G' w'=>by
     have:=AB (kQ G' w') bx (by omega) j;rw[tC,<-ew]at this;exact this
    refine⟨iT,e,cells,bR,?_,hu,ll⟩;rw[<-e9,(ll G w).length,j5 hu,List.length_replicate];rfl
  ·cases hc
 ·cases hc
section
variable{vars:List Nat}{N:Nat}{ops:Array Oper}{bj:List bl}{call:cj}{S:Nat->au}{aO:Nat->Bool}
theorem KY{ag:ah->V}{low bm:Nat}{es:Nat}{z:List V}{bytes:Nat}{jL ac:ah}{v:V}{H1:Heap}(h:bK call ag H low (.mkSlice es z bytes jL ac)=some (v,H1,bm)):
  ∃k bJ n m,ag jL=.int k n/\ag ac=.int bJ m/\(n=m/\0<=n/\n*(bytes+1)<=2^40)/\
   ((n=0/\v=.emp/\H1=H/\bm=low)\/(n≠0/\v=.aN H.length es 0 n.toNat n.toNat/\H1=H++[.row es (List.replicate n.toNat (jo z)) false]/\bm=low)):=by
 have h':step ag H low (.mkSlice es z bytes jL ac)=some (v,H1,bm):=h;simp only[step]at h';split at h'
 ·rename_i k n bJ m ae ai
  split at h'
  ·rename_i hb
   refine⟨k,bJ,n,m,ae,ai,hb,?_⟩;split at h'
   ·rename_i h0
    cases h';exact .inl ⟨h0,rfl,rfl,rfl⟩
   ·rename_i h0
    cases h';exact .inr ⟨h0,rfl,rfl,rfl⟩
  ·cases h'
 ·cases h'
theorem KZ (h:rk bj=true){i:Nat}{aU:bl}(hi:bj[i]? =some aU)(ht:e2 aU.op=true):aU.guard=none/\∃es z bytes jL ac,aU.op=.mkSlice es z bytes jL ac:=by
 unfold rk at h;have h1:=eV.1 h aU (ml hi);rw[ht]at h1;simp only[oa,re]at h1;split at h1
 ·rename_i ae ai;exact⟨ai,_,_,_,_,_,ae⟩
 ·cases h1
theorem Fg (T:iA C vars N ops bj call S aO)(hc:jM call)(kS:rk bj=true){i:Nat}(hi:i<ops.size):
  (aO i=false/\(S (i+1)).H=(S i).H)\/(aO i=true/\∃o,(S (i+1)).H=(S i).H++[o]):=by
 obtain⟨o,aU,-,eP,-,cG⟩:=T.get hi;cases af:aO i with
 |false=>exact .inl ⟨rfl,cG.still hc af⟩
 |true=>
  right;refine⟨rfl,?_⟩;obtain⟨-,es,z,bytes,jL,ac,c5⟩:=KZ kS eP (cG.e2 af);rcases cG with⟨-,v,H1,bm,h1,e,h2⟩|⟨-,-,h2⟩
  ·rw[c5]at h1
   obtain⟨k,bJ,n,m,-,-,-,hr⟩:=KY h1;have hH:(S (i+1)).H=H1:=by rw[e,(jt _ _ _).1]
   rcases hr with⟨-,-,rfl,rfl⟩|⟨-,-,rfl,-⟩
   ·rw[af]at h2
    simp[ec]at h2
   ·exact⟨_,hH⟩
  ·rw[h2]at af;cases af
theorem Fh (T:iA C vars N ops bj call S aO)(hc:jM call)(kS:rk bj=true){i:Nat}:∀{k:Nat},i+k<=ops.size->∀(l:Nat) (o:bd),(S i).H[l]? =some o->(S (i+k)).H[l]? =some o
 |0,_,l,o,h=>h
 |k+1,hk,l,o,h=>by
  have ih:=Fh T hc kS (k:=k) (by omega) l o h;rcases Fg T hc kS (i:=i+k) (by omega)with⟨-,e⟩|⟨-,cC,e⟩
  ·rw[show i+(k+1)=i+k+1 from rfl,e];exact ih
  ·rw[show i+(k+1)=i+k+1 from rfl,e,ft ?_]
   ·exact ih
   ·rcases fF l (S (i+k)).H.length with q|q
    ·exact q
    ·rw[k6 q]at ih;cases ih
theorem K0 (T:iA C vars N ops bj call S aO)(hc:jM call)(kS:rk bj=true){i j:Nat}(b9:i<j)(hj:j<ops.size)(af:aO i=true):(S i).H.length<(S j).H.length:=by
 have h1:=(T.kq hc (i:=i+1) (j:=j) b9 (by omega)).1.len;rcases Fg T hc kS (i:=i) (by omega)with⟨e,-⟩|⟨-,o,e⟩
 ·rw[e]at af;cases af
 ·rw[e]at h1;simp at h1;omega
structure yg (C:Ctx) (fid:Nat->Nat) (vars:List Nat) (N:Nat) (ops:Array Oper) (S:Nat->au) (aO:Nat->Bool) (G:bw) (w:World) (a:Act) (x8:Nat)
  (L:Array Bool) (az:bw) (av:Act) (aG:World):Prop where
 size:L.size=ops.size
 closed:∀x,L.getD x false=true->∀i,((CheckFast.beforeF ops).getD x 0).testBit i=true->L.getD i false=true
 rel:aQ C fid az (S ops.size).H aG
 free:∀i,i<ops.size->aO i=true->L.getD i false=false->az.β (S i).H.length=Option.none
 env:∀t m,m<=ops.size->(∀(i:Nat) o,ops[i]? =some o->o.dst=some t->(L.getD i false=true↔i<m))->aZ fid az aG (df vars (S m) t) (av.tmps.getD t undef)
 l6:av.tmps.size=N
 defers:av.defers=a.defers
 ext:∀m,m<=(S ops.size).low->Ext G w az aG m x8
theorem K1{j:Nat}{o:Oper}{a:Act}{K:Act->World->Prop}{Q:Exit->Act->World->Prop}{ro:Option Nat}{aG:World}(ho:ops[j]? =some o)(aT:o.guard=none)(hnd:∀c,o.op≠ .defer c){x:Value}
  (bR:(execOp a.eval o).run C.P w=.ok (.value x) aG) (nz:K (a.put o.dst x) aG):wpOpIn (dO ro) 0 C.P ops Q j K a w:=by
 unfold wpOpIn;rw[ho];have hw:Region.wanted o (yielded ops a.tmps)=true:=by unfold Region.wanted;rw[aT]
 simp only[hw,if_true];refine⟨fun _ _=>trivial,?_⟩;rw[Oper.semAt_eq _ _ _ hnd,bR];exact nz
theorem WK{id:Nat}{st aV:au}{wr:List Bool}{a:Act}{Q:Exit->Act->World->Prop}{ro:Option Nat}(cr:C.P.follows .mixedOrders=true)(bu:eh C fid)(bh:gh C fid call)
  (hm:c7 (C.oper vars N ops) ops.toList=some bj) (gV:Ctx.sY ops=true) (jK:Ctx.sZ ops=true) (ny:(ops.toList.zip bj).all (fun(o,a)=>Ctx.rp ops o a)=true)
  (he:cX call bj {st with aH:=[]} []=some (aV,wr)) (kS:rk bj=true) (aa:dj C fid vars N G st a w)
  (c9:∀G' bg w',dj C fid vars N G' aV bg w'->(∀m,m<=aV.low->Ext G w G' w' m st.H.length)->bg.defers=a.defers->Q .normal bg w'):
  (Code.region id ops true).wpIn (dO ro) 0 C.P Q a w:=by
 obtain⟨S,aO,h0,hn,-,hs⟩:=pr _ _ _ _ _ he;have T:iA C vars N ops bj call S aO:=.of hm hs;rw[T.len]at hn;have lu:st.H=(S 0).H/\st.low=(S 0).low:=by rw[h0];exact⟨rfl,rfl⟩
 have yb:st.low<=st.H.length:=aa.low
 have oA:∀k,k<=ops.size->st.H.length<=(S k).H.length:=fun k hk=>by
  have:=(T.kq bh.bD (i:=0) (j:=k) (ct _) hk).1.len;rw[<-lu.1]at this;exact this
 have mD:∀L az av aG,yg C fid vars N ops S aO G w a st.H.length L az av aG->(∀i,i<ops.size->L.getD i false=true)->Q .normal av aG:=by
  intro L az av aG I fw;refine c9 az av aG ?_ (fun m hm=>I.ext m (by rw[hn];exact hm)) I.defers;rw[<-hn];refine⟨I.rel,fun t=>I.env t ops.size (aI _) fun i o ho _=> ?_,I.l6,?_⟩
  ·have:i<ops.size:=(oX.1 ho).1
   simp[this,fw i this]
  ·exact(T.kq bh.bD (ct _) (aI _)).bound (by rw[<-lu.1,<-lu.2];exact yb)
 have yc:∀L az av aG,yg C fid vars N ops S aO G w a st.H.length L az av aG->Region.ready .any ops L=[]->∀i,i<ops.size->L.getD i false=true:=by
  intro L az av aG I hr i
  induction i using Nat.strongRecOn with
  | _ i ih=>
    intro hi;cases eI:L.getD i false with
    |true=>rfl
    |false=>
     exfalso
     have:i∈Region.ready .any ops L:=mem_ready.2 ⟨by
      have:i<L.size:=by rw[I.size];exact hi
      simp only[Array.getD,this,dif_pos]at eI⊢; exact eI,ops[i],by simp[hi],fun e he hb=>by
       have aY:=E8 gV (j:=i) (o:=ops[i]) (by simp[hi]) he hb;exact ih e.on aY (by omega)⟩
     rw[hr]at this;cases this
 have jG:∀(fuel:Nat) (L:Array Bool) (az:bw) (av:Act) (aG:World) (j:Nat),yg C fid vars N ops S aO G w a st.H.length L az av aG->j∈Region.ready .any ops L->
   (∀fJ G' bg w',yg C fid vars N ops S aO G w a st.H.length fJ G' bg w'->fJ=L.setIfInBounds j true->wpAnyIn (dO ro) 0 C.P .any ops Q fuel fJ bg w')->
   wpOpIn (dO ro) 0 C.P ops Q j (wpAnyIn (dO ro) 0 C.P .any ops Q fuel (L.setIfInBounds j true)) av aG:=by
  intro fuel L az av aG j I hj rT;obtain⟨rU,o,ho,yd⟩:=mem_ready.1 hj;have gm:j<ops.size:=(oX.1 ho).1;have jv:j<L.size:=by rw[I.size];exact gm
  have lf:L.getD j false=false:=by simp only[Array.getD,jv,dif_pos]at rU⊢; exact rU
  obtain⟨cC,aU,gU,eP,bx,cG⟩:=T.get gm;rw[ho]at gU;cases gU
  have rV:∀i,((CheckFast.beforeF ops).getD j 0).testBit i=true->L.getD i false=true:=fun i hb=>by
   obtain⟨e,jJ,kk,l8⟩:=E6 ho hb;have hl:=yd e jJ kk;rcases l8 with rfl|l8
   ·exact hl
   ·exact I.closed e.on hl i l8
  have l7:∀i,i≠j->((CheckFast.beforeF ops).getD (max i j) 0).testBit (min i j)=true->(L.getD i false=true↔i<j):=by
   intro i b9 hb;rcases fF i j with aY|hge
   ·rw[zW (by omega),rb (by omega)]at hb
    exact⟨fun _=>aY,fun _=>rV i hb⟩
   ·rw[zX hge,o3 hge]at hb
    refine⟨fun eI=> ?_,fun h=>by omega⟩;have:=I.closed i eI j hb;rw[lf]at this;cases this
  have rW:∀t,(o.dst=some t\/t∈Ctx.eC ops o)->∀(i:Nat) p,ops[i]? =some p->p.dst=some t->i≠j->(L.getD i false=true↔i<j):=fun t ht i p hp hd b9=>
   l7 i b9 (E7 jK ho hp hd b9 ht)
  have dL:=cG.bD bh.bD
  have vR:∀x∈aU.op.operands,AP (fun t=>t∈Ctx.eC ops o) x:=by
   intro x hx;have h1:(o,aU)∈ops.toList.zip bj:=oY.2 ⟨j,by rw[CT];exact⟨by rw[fN];exact ho,eP⟩⟩;have h2:=eV.1 ny _ h1;simp only[Ctx.rp,eV]at h2;have aq:=h2 x hx;cases x with
   |tmp t=>exact q9.1 aq
   |var t=>exact q9.1 aq
   |const v=>trivial
   |func i=>trivial
  have AR:∀t,t∈Ctx.eC ops o->aZ fid az aG (df vars (S j) t) (av.tmps.getD t undef):=fun t ht=>by
   refine I.env t j (by omega) fun i p hp hd=> ?_;by_cases b9:i=j
   ·subst b9;simp[lf]
   ·exact rW t (.inr ht) i p hp hd b9
  have iB:∀i,(L.setIfInBounds j true).getD i false=true↔i=j\/L.getD i false=true:=fun i=>qu jv
  have tS:∀(x:Value) (bs:World) (a7:bw),aQ C fid a7 (S ops.size).H bs->(∀m,m<=(S (j+1)).low->Ext az aG a7 bs m st.H.length)->(∀t,o.dst=some t->aZ fid a7 bs (df vars (S (j+1)) t) x)->
    (∀i,i<ops.size->aO i=true->i≠j->L.getD i false=false->a7.β (S i).H.length=Option.none)->wpAnyIn (dO ro) 0 C.P .any ops Q fuel (L.setIfInBounds j true) (av.put o.dst x) bs:=by
   intro x bs a7 p1 cN ei nC;have mC:=cN 0 (ct _);refine rT _ a7 _ bs ⟨by simp[I.size],fun x hx i hb=> ?_,p1,fun i hi af mE=> ?_,fun t m hm dy=> ?_,by rw[rR];exact I.l6,by rw[put_defers];exact I.defers,fun m hm=> ?_⟩ rfl
   ·rw[iB]at hx⊢
    rcases hx with rfl|hx
    ·exact .inr (rV i hb)
    ·exact .inr (I.closed x hx i hb)
   ·have bb:i≠j:=fun e=>by
     have:=(iB i).2 (.inl e);rw[this]at mE;cases mE
    refine nC i hi af bb ?_;cases ad:L.getD i false with
    |false=>rfl
    |true=>
     have:=(iB i).2 (.inr ad);rw[this]at mE;cases mE
   ·refine tO (fun d hd=>by rw[I.l6];exact bx.lt d hd) (fun h=> ?_) (fun h=> ?_)
    ·have yf:j<m:=(dy j o ho h).1 ((iB j).2 (.inl rfl))
     have e:df vars (S m) t=df vars (S (j+1)) t:=by
      obtain⟨d,rfl⟩:=kD (show j+1<=m from yf);refine T.slot (by omega) fun x p h1 h2 hp hd=> ?_;have oz:x≠j:=by omega
      have av:=(iB x).1 ((dy x p hp hd).2 h2);have a2:=(rW t (.inl h) x p hp hd oz).1 (av.resolve_left oz);omega
     rw[e];exact ei t h
    ·refine(I.env t m hm fun i p hp hd=> ?_).ext I.rel mC
     have b9:i≠j:=fun e=>by subst e;rw[ho]at hp;cases hp;exact h hd
     rw[<-dy i p hp hd,iB];simp[b9]
   ·have ae:=(T.kq bh.bD (i:=j+1) (j:=ops.size) gm (aI _)).1.low
    exact(I.ext m hm).trans (cN m (by omega))
  by_cases ht:e2 aU.op=true
  ·
   obtain⟨AU,es,z,bytes,jL,ac,c5⟩:=KZ kS eP ht;rcases cG with⟨hw,v,H1,bm,h1,aw,hB⟩|⟨hw,-,-⟩
   case inr=>rw[AU]at hw;simp[hU]at hw
   have tM:o.guard=none:=by
    have:=bx.guard;rw[AU]at this;cases aT:o.guard with
    |none=>rfl
    |some p=>
     obtain⟨q,b⟩:=p;rw[aT]at this;simp only[Ctx.guard]at this;split at this<;>simp at this
   have AV:C.op vars o.pos o.op=.mkSlice es z bytes jL ac:=by rw[<-bx.op];exact c5
   obtain⟨dr,eB,c',dX,-⟩:=KX AV;let fy:ah->V:=fun bY=>open Classical in if bY∈aU.op.operands then ah.ag (S j).aH (S j).ax bY else .undef
   have aE:eo C fid vars az aG fy av.eval:=fun x bY hx=>by
    by_cases hin:bY∈aU.op.operands
    ·have qs:=vR bY hin
     simp only[fy,hin,if_true];cases x with
     |tmp t=>
      simp only[Ctx.bF,ay]at hx;have E3:t∈Ctx.eC ops o:=by rw[<-hx]at qs;split at qs<;>exact qs
      have:=AR t E3;have e:bY.ag (S j).aH (S j).ax=df vars (S j) t:=by rw[<-hx];unfold df;split<;>rfl
      rw[e];exact this
     |const u=>
      simp only[Ctx.bF]at hx;obtain⟨KP,gd,rfl⟩:=bW.1 hx;rcases xH (I:=az.I) (w:=aG) u gd with rfl|hp
      ·exact .undef _
      ·exact .p _ _ hp
     |func f=>exact Eb bu hx
     |global g=>simp[Ctx.bF]at hx
    ·simp only[fy,hin,if_false];exact .undef _
   rw[c5]at h1;obtain⟨k,bJ,n,m,ae,ai,hb,nD⟩:=KY h1
   have AW:fy jL=.int k n:=by
    have:jL∈aU.op.operands:=by rw[c5];simp[b8.operands]
    simp only[fy,this,if_true];exact ae
   have yh:fy ac=.int bJ m:=by
    have:ac∈aU.op.operands:=by rw[c5];simp[b8.operands]
    simp only[fy,this,if_true];exact ai
   obtain⟨iT,e,cells,bR,kN,hu,ll⟩:=run_mk (w:=aG) aE AV AW yh hb;refine K1 ho tM (by rw[dX];simp) bR ?_;have iz:=jt {S j with H:=H1,low:=min (S j).low bm} aU.dst v
   have ja:∀t,o.dst=some t->df vars (S (j+1)) t=v:=fun t ht=>by
    rw[aw];rcases bx.dst with⟨h2,-⟩|⟨d,-,h2,aq⟩
    ·rw[h2]at ht;cases ht
    ·rw[h2]at ht;cases ht
     rw[aq,x7,if_pos rfl]
   rcases nD with⟨j8,rfl,rfl,-⟩|⟨j8,rfl,K2,-⟩
   ·subst j8
    have hk:∀b,b<aG.heap.size->(aG.alloc (.cells cells e)).heap[b]? =aG.heap[b]? :=fun b hb=>alloc_old hb;refine tS _ _ az (I.rel.restore (by simp) hk) (fun m _=>.restore (by simp) hk rfl rfl m _) (fun t ht=> ?_) fun i hi af _ eI=>I.free i hi af eI;rw[ja t ht];exact .p _ _ (.emp _)
   ·have fS:aO j=true:=by rw[hB,K2];simp[ec]
    have oB:=I.free j gm fS lf
    have Fi:(S ops.size).H[(S j).H.length]? =some (.row es (List.replicate n.toNat (jo z)) false):=by
     obtain⟨d,hd⟩:=kD (show j+1<=ops.size from gm);rw[hd];refine Fh T bh.bD kS (by omega) _ _ ?_;rw[aw,iz.1,K2];simp
    have WL:0<n.toNat:=by omega
    have Fj:=I.rel.place oB Fi (.cells cells e) n.toNat cells.size ⟨by simp,by simpa using WL,rfl,iT,hu,cells,e,cells.toList,[],j4 _ _,rfl,by simp,ll _ _⟩;refine tS _ _ _ Fj (fun m _=>.place oB _ _ _ m (oA j (by omega))) (fun t ht=> ?_) fun i hi af b9 eI=> ?_
    ·rw[ja t ht]
     refine .aN _ _ 0 n.toNat n.toNat ⟨aG.heap.size,n.toNat,cells.size,false⟩ _ _ _ (cM _ _ _) (aI _) (fun _=>⟨by simp,rfl,?_,aI _⟩);rw[kN,dK];exact aI _
    ·have bb:(S i).H.length≠(S j).H.length:=by
      rcases fF i j with q|q
      ·have:=K0 T bh.bD kS q gm af;omega
      ·have:=K0 T bh.bD kS (show j<i by omega) hi fS;omega
     show b0 az.β (S j).H.length _ (S i).H.length=_;rw[cZ bb];exact I.free i hi af eI
  ·have eE:e2 aU.op=false:=by simpa using ht
   have fS:aO j=false:=by
    cases af:aO j with
    |false=>rfl
    |true=>have:=cG.e2 af;rw[eE]at this;cases this
   refine tN (T:=fun t=>t∈Ctx.eC ops o) (Hc:=(S ops.size).H) bu bh ho bx cG I.rel (fun q=>absurd q ht) ?_ AR vR (fun q want d aT hd=> ?_) I.l6 ?_
   ·have ae:=(T.kq bh.bD (i:=0) (j:=j) (ct _) (by omega)).1.low
    have ai:=oA ops.size (aI _);rw[<-lu.2]at ae;omega
   ·simp only[Ctx.eC,hN]
    right;rw[aT];simp only[];rw[hd];simp
   ·intro x bs a7 p1 cN ei
    rw[fS]at p1;refine tS x bs a7 p1 (fun m hm=>(cN m hm).le (aI _) (oA ops.size (aI _))) ei fun i hi af b9 eI=> ?_;have oB:=I.free i hi af eI;cases hb:a7.β (S i).H.length with
    |none=>rfl
    |some h'=>
     exfalso;rcases(cN 0 (ct _)).kJ _ _ hb with⟨h,h3,-⟩|⟨hge,-⟩
     ·rw[oB]at h3;cases h3
     ·obtain⟨d,hd⟩:=kD (show i+1<=ops.size from hi)
      have h2:=(T.kq bh.bD (i:=i+1) (j:=ops.size) hi (aI _)).1.len;rcases Fg T bh.bD kS hi with⟨q,-⟩|⟨-,cC,q⟩
      ·rw[af]at q;cases q
      ·rw[q]at h2;simp at h2;omega
 have key:∀(fuel:Nat) (L:Array Bool) (az:bw) (av:Act) (aG:World),yg C fid vars N ops S aO G w a st.H.length L az av aG->(List.range ops.size).countP (fun i=>!L.getD i false)<=fuel->
   wpAnyIn (dO ro) 0 C.P .any ops Q fuel L av aG:=by
  intro fuel
  induction fuel with
  |zero=>
   intro L az av aG I hc
   have fw:∀i,i<ops.size->L.getD i false=true:=fun i hi=>by
    have h1:=List.countP_eq_zero.1 (Nat.le_zero.1 hc) i (by simpa using hi);simpa using h1
   refine⟨?_,mD _ _ _ _ I fw⟩;cases hr:Region.ready .any ops L with
   |nil=>rfl
   |cons i r=>
    obtain⟨h1,o,ho,-⟩:=mem_ready.1 (show i∈Region.ready .any ops L by rw[hr];simp);have hi:i<ops.size:=(oX.1 ho).1;have h2:=fw i hi;have:i<L.size:=by rw[I.size];exact hi
    simp only[Array.getD,this,dif_pos]at h1 h2;rw[h1]at h2;cases h2
  |succ fuel ih=>
   intro L az av aG I hc;refine⟨fun hr=>mD _ _ _ _ I (yc _ _ _ _ I hr),fun j hj=>jG fuel L az av aG j I hj fun fJ G' bg w' nj e=>ih fJ G' bg w' nj ?_⟩;subst e;obtain⟨h1,o,ho,-⟩:=mem_ready.1 hj;have gm:j<ops.size:=(oX.1 ho).1;have jv:j<L.size:=by rw[I.size];exact gm
   have aY:(List.range ops.size).countP (fun i=>!(L.setIfInBounds j true).getD i false)<(List.range ops.size).countP (fun i=>!L.getD i false):=by
    refine E9 (a:=j) (fun x _ hx=> ?_) (by simpa using gm) ?_ ?_
    ·cases ad:L.getD x false with
     |false=>rfl
     |true=>
      have:=(qu (i:=x) jv).2 (.inr ad);rw[this]at hx;cases hx
    ·simp only[Array.getD,jv,dif_pos]at h1⊢; rw[h1];rfl
    ·have:=(qu (i:=j) jv).2 (.inl rfl)
     rw[this];rfl
   omega
 refine wpIn_region_any cr ?_;have hw:({w with drawn:=w.drawn+1}:World).heap=w.heap:=rfl;have gK:=(aa.clear).hZ hw;rw[<-h0]at gK
 have js:∀i,(Array.replicate ops.size false).getD i false=false:=fun i=>by
  by_cases h:i<ops.size
  ·simp[h]
  ·simp[h]
 refine key ops.size (Array.replicate ops.size false) G a {w with drawn:=w.drawn+1} ⟨by simp,fun x hx=>absurd hx (by rw[js];simp),gK.rel.longer fun l o hl=> ?_,fun i hi af _=> ?_,fun t m hm dy=> ?_,gK.size,rfl,fun m _=>Ext.hZ hw rfl rfl m _⟩ ?_
 ·have:=Fh T bh.bD kS (i:=0) (k:=ops.size) (by omega) l o hl
  rw[dK]at this;exact this
 ·exact aa.rel.none (oA i (by omega))
 ·have e:df vars (S m) t=df vars (S 0) t:=by
   have:=T.slot (t:=t) (i:=0) (k:=m) (by omega) fun x p h1 h2 hp hd=>by
    have:=(dy x p hp hd).2 (by omega);rw[js]at this;cases this
   rw[dK]at this;exact this
  rw[e];exact gK.env t
 ·refine cA List.countP_le_length (by simp)
end
end Go.Abs
namespace Go.Abs
open Go
variable{C:Ctx}{fid:Nat->Nat}{w w':World}{G G':bw}{H H':Heap}
theorem WM{vars:List Nat}{pos:String}{op:Op}{z:List V}(hc:C.op vars pos op=.alloc z):∃t z0,op=.alloc t/\C.zeroCells t=some z0/\z=C.mark t z0:=by
 have bZ:C.ca vars pos op=some (.alloc z):=by
  unfold Ctx.op at hc;cases h:C.ca vars pos op with
  |none=>rw[h]at hc;cases hc
  |some a=>rw[h]at hc;simp only[sJ]at hc;rw[hc]
 cases ho:op with
 |alloc t=>
  rw[ho]at bZ;simp only[Ctx.ca]at bZ;obtain⟨Ff,h1,h2⟩:=bW.1 bZ;cases h2;exact⟨t,Ff,rfl,h1,rfl⟩
 |call c=>
  exfalso;rw[ho]at bZ;obtain⟨callee,args,c6⟩:=c;cases callee with
  |value f=>
   simp only[Ctx.ca]at bZ;split at bZ<;>simp at bZ
  |builtin b=>
   simp only[Ctx.ca]at bZ;unfold Ctx.builtin at bZ
   repeat' split at bZ
   all_goals first
    |(cases bZ;done)
    |(simp only[ay,reduceCtorEq]at bZ;done)
    |(obtain⟨_,_,h⟩:=bW.1 bZ;cases h;done)
  |invoke r n=>simp[Ctx.ca]at bZ
 |binOp a b c d e=>
  exfalso;rw[ho]at bZ;simp only[Ctx.ca,Ctx.sX]at bZ
  repeat' split at bZ
  all_goals first
   |(cases bZ;done)
   |(obtain⟨_,_,h⟩:=bW.1 bZ;cases h;done)
 |makeFunc g a b=>
  exfalso;rw[ho]at bZ;cases g with
  |func f=>
   simp only[Ctx.ca]at bZ;split at bZ<;>simp at bZ
  | _=>simp[Ctx.ca]at bZ
 |makeMap t r=>
  exfalso;rw[ho]at bZ;cases r<;>simp[Ctx.ca]at bZ
 | _=>
   exfalso;rw[ho]at bZ;simp only[Ctx.ca]at bZ
   repeat' split at bZ
   all_goals first
    |(cases bZ;done)
    |(obtain⟨_,_,h⟩:=bW.1 bZ;cases h;done)
theorem WN{vars:List Nat}{ρ:Operand->Value}{o:Oper}{pos:String}{z:List V}(c5:C.op vars pos o.op=.alloc z):
  ∃t cells,o.op=.alloc t/\(execOp ρ o).run C.P w=.ok (.value (.pointer (some ⟨w.heap.size,0,none⟩))) (w.alloc (.cells cells t))/\(∀G' w',aW fid G' w' z cells.toList)/\∀(w':World) b,w'.heap[b]? =some (.cells cells t (0,0))->xE C w' b z:=by
 obtain⟨t,z0,ho,aP,rfl⟩:=WM c5;obtain⟨bO,kP,kQ,bx,i,hi,-⟩:=xR (fid:=fid) aP;refine⟨t,bO.cells,ho,?_,fun G' w'=>J7 (kQ G' w'),fun w' b hb=>J8 (G:=⟨fun _=>none,fun _=>False⟩) (fid:=fid) (w:=w) bx (kQ _ _) hb⟩;unfold execOp;rw[ho];simp only[Instr.alloc,Sem.run_bind,kP,Result.andThen_ok,Sem.run_pure,newVar,newRow,run_newObj,World.alloc_eq]
section
variable{vars:List Nat}{N:Nat}{ops:Array Oper}{bj:List bl}{call:cj}{S:Nat->au}{aO:Nat->Bool}
structure AX (ops:Array Oper) (bj:List bl) (call:cj) (S:Nat->au) (aO:Nat->Bool) (p q:Nat):Prop where
 WO:p<=q
 K3:q<=ops.size
 still:∀i,i<p->aO i=false
 writer:∀i,q<=i->i<ops.size->aO i=true->∀(j:Nat) aU,p<=j->bj[j]? =some aU->e2 aU.op=true->i≠j->((CheckFast.beforeF ops).getD (max i j) 0).testBit (min i j)=true
 behind:∀(j:Nat) aU,q<=j->bj[j]? =some aU->e2 aU.op=true->∀i,p<=i->i<q->((CheckFast.beforeF ops).getD j 0).testBit i=true
 alloc:∀i,p<=i->i<q->∃aU z,bj[i]? =some aU/\aU.op=.alloc z/\aU.guard=none
 gF:∀(j:Nat) aU k,j<p->q<=k->k<=ops.size->bj[j]? =some aU->e2 aU.op=true->gF call (aU,S j,(S k).H)=true
structure yi (C:Ctx) (fid:Nat->Nat) (vars:List Nat) (N:Nat) (ops:Array Oper) (S:Nat->au) (aO:Nat->Bool) (p q:Nat) (G:bw) (w:World) (a:Act) (x8:Nat)
  (L:Array Bool) (k:Nat) (az:bw) (av:Act) (aG:World):Prop where
 size:L.size=ops.size
 closed:∀x,L.getD x false=true->∀i,((CheckFast.beforeF ops).getD x 0).testBit i=true->L.getD i false=true
 K4:q<=k
 qt:k<=ops.size
 nA:∀i,q<=i->i<ops.size->aO i=true->(L.getD i false=true↔i<k)
 rel:aQ C fid az (S k).H aG
 free:∀i,p<=i->i<q->L.getD i false=false->az.β (S i).H.length=Option.none
 env:∀t m,m<=ops.size->(∀(i:Nat) o,ops[i]? =some o->o.dst=some t->(L.getD i false=true↔i<m))->aZ fid az aG (df vars (S m) t) (av.tmps.getD t undef)
 l6:av.tmps.size=N
 defers:av.defers=a.defers
 ext:∀m,m<=(S ops.size).low->Ext G w az aG m x8
theorem AY (T:iA C vars N ops bj call S aO){p q:Nat}(hl:AX ops bj call S aO p q){i:Nat}(h1:p<=i)(h2:i<q):
  aO i=true/\∃z,(S (i+1)).H=(S i).H++[.cells z]/\∃aU,bj[i]? =some aU/\aU.op=.alloc z/\aU.guard=none/\S (i+1)=({S i with H:=(S i).H++[.cells z],low:=min (S i).low (S i).H.length}:au).put aU.dst (.ptr (S i).H.length 0):=by
 have K5:=hl.K3;obtain⟨aU,z,ha,c5,aT⟩:=hl.alloc i h1 h2;obtain⟨o,WQ,ho,eP,bx,cG⟩:=T.get (i:=i) (by omega);rw[ha]at eP;cases eP;rcases cG with⟨hw,v,H1,bm,ae,aw,hB⟩|⟨hw,-,-⟩
 case inr=>rw[aT]at hw;simp[hU]at hw
 rw[c5]at ae;have AW:step (ah.ag (S i).aH (S i).ax) (S i).H (S i).H.length (.alloc z)=some (v,H1,bm):=ae;simp only[step,ay,a6]at AW;obtain⟨rfl,rfl,rfl⟩:=AW;refine⟨by rw[hB];simp[ec],z,?_,aU,ha,c5,aT,aw⟩;rw[aw];exact(jt _ _ _).1
theorem Fk (T:iA C vars N ops bj call S aO){p q:Nat}(hl:AX ops bj call S aO p q){i:Nat}(h1:p<=i):∀{k:Nat},i+k<=q->∀(l:Nat) (o:bd),(S i).H[l]? =some o->(S (i+k)).H[l]? =some o
 |0,_,l,o,h=>h
 |k+1,hk,l,o,h=>by
  have ih:=Fk T hl h1 (k:=k) (by omega) l o h;obtain⟨-,z,e,-⟩:=AY T hl (i:=i+k) (by omega) (by omega);show(S (i+k+1)).H[l]? =some o;rw[e,ft ((fu.1 ih).1)];exact ih
theorem WR{id:Nat}{st aV:au}{a:Act}{Q:Exit->Act->World->Prop}{ro:Option Nat}(cr:C.P.follows .mixedOrders=true)(bu:eh C fid)(bh:gh C fid call)
  (hm:c7 (C.oper vars N ops) ops.toList=some bj) (gV:Ctx.sY ops=true) (jK:Ctx.sZ ops=true) (ny:(ops.toList.zip bj).all (fun(o,a)=>Ctx.rp ops o a)=true)
  {S:Nat->au} {aO:Nat->Bool} (h0:S 0={st with aH:=[]}) (hn:S ops.size=aV) (T:iA C vars N ops bj call S aO) {p q:Nat} (hl:AX ops bj call S aO p q) (aa:dj C fid vars N G st a w)
  (c9:∀G' bg w',dj C fid vars N G' aV bg w'->(∀m,m<=aV.low->Ext G w G' w' m st.H.length)->bg.defers=a.defers->Q .normal bg w'):
  (Code.region id ops true).wpIn (dO ro) 0 C.P Q a w:=by
 have lu:st.H=(S 0).H/\st.low=(S 0).low:=by rw[h0];exact⟨rfl,rfl⟩
 have yb:st.low<=st.H.length:=aa.low;have tQ:=hl.WO;have K5:=hl.K3
 have oA:∀k,k<=ops.size->st.H.length<=(S k).H.length:=fun k hk=>by
  have:=(T.kq bh.bD (i:=0) (j:=k) (ct _) hk).1.len;rw[<-lu.1]at this;exact this
 have WS:∀j,j<=p->(S j).H=(S 0).H:=fun j hj=>by
  have:=T.heap bh.bD (i:=0) (k:=j) (by omega) fun x _ h2=>hl.still x (by omega);rw[dK]at this;exact this
 have WT:∀i,p<=i->i<q->∀k,q<=k->k<=ops.size->(S i).H.length<(S k).H.length:=fun i h1 h2 k aq bf=>by
  obtain⟨-,z,e,-⟩:=AY T hl h1 h2;have:=(T.kq bh.bD (i:=i+1) (j:=k) (by omega) bf).1.len;rw[e]at this;simp at this;omega
 have mD:∀L k az av aG,yi C fid vars N ops S aO p q G w a st.H.length L k az av aG->(∀i,i<ops.size->L.getD i false=true)->Q .normal av aG:=by
  intro L k az av aG I fw
  have hk:(S ops.size).H=(S k).H:=by
   have vS:=I.K4;obtain⟨d,hd⟩:=kD I.qt;rw[hd];refine T.heap bh.bD (by omega) fun x h1 h2=> ?_;cases af:aO x with
   |false=>rfl
   |true=>have:=(I.nA x (by omega) (by omega) af).1 (fw x (by omega));omega
  refine c9 az av aG ?_ (fun m hm=>I.ext m (by rw[hn];exact hm)) I.defers;rw[<-hn];refine⟨by rw[hk];exact I.rel,fun t=>I.env t ops.size (aI _) fun i o ho _=> ?_,I.l6,?_⟩
  ·have:i<ops.size:=(oX.1 ho).1
   simp[this,fw i this]
  ·exact(T.kq bh.bD (ct _) (aI _)).bound (by rw[<-lu.1,<-lu.2];exact yb)
 have yc:∀L k az av aG,yi C fid vars N ops S aO p q G w a st.H.length L k az av aG->Region.ready .any ops L=[]->∀i,i<ops.size->L.getD i false=true:=by
  intro L k az av aG I hr i
  induction i using Nat.strongRecOn with
  | _ i ih=>
    intro hi;cases eI:L.getD i false with
    |true=>rfl
    |false=>
     exfalso
     have:i∈Region.ready .any ops L:=mem_ready.2 ⟨by
      have:i<L.size:=by rw[I.size];exact hi
      simp only[Array.getD,this,dif_pos]at eI⊢; exact eI,ops[i],by simp[hi],fun e he hb=>by
       have aY:=E8 gV (j:=i) (o:=ops[i]) (by simp[hi]) he hb;exact ih e.on aY (by omega)⟩
     rw[hr]at this;cases this
 have jG:∀(fuel:Nat) (L:Array Bool) (k:Nat) (az:bw) (av:Act) (aG:World) (j:Nat),yi C fid vars N ops S aO p q G w a st.H.length L k az av aG->j∈Region.ready .any ops L->
   (∀fJ bJ G' bg w',yi C fid vars N ops S aO p q G w a st.H.length fJ bJ G' bg w'->fJ=L.setIfInBounds j true->wpAnyIn (dO ro) 0 C.P .any ops Q fuel fJ bg w')->
   wpOpIn (dO ro) 0 C.P ops Q j (wpAnyIn (dO ro) 0 C.P .any ops Q fuel (L.setIfInBounds j true)) av aG:=by
  intro fuel L k az av aG j I hj rT;obtain⟨rU,o,ho,yd⟩:=mem_ready.1 hj;have gm:j<ops.size:=(oX.1 ho).1;have jv:j<L.size:=by rw[I.size];exact gm
  have lf:L.getD j false=false:=by simp only[Array.getD,jv,dif_pos]at rU⊢; exact rU
  have vS:=I.K4;have rX:=I.qt;obtain⟨cC,aU,gU,eP,bx,cG⟩:=T.get gm;rw[ho]at gU;cases gU
  have rV:∀i,((CheckFast.beforeF ops).getD j 0).testBit i=true->L.getD i false=true:=fun i hb=>by
   obtain⟨e,jJ,kk,l8⟩:=E6 ho hb;have hl:=yd e jJ kk;rcases l8 with rfl|l8
   ·exact hl
   ·exact I.closed e.on hl i l8
  have l7:∀i,i≠j->((CheckFast.beforeF ops).getD (max i j) 0).testBit (min i j)=true->(L.getD i false=true↔i<j):=by
   intro i b9 hb;rcases fF i j with aY|hge
   ·rw[zW (by omega),rb (by omega)]at hb
    exact⟨fun _=>aY,fun _=>rV i hb⟩
   ·rw[zX hge,o3 hge]at hb
    refine⟨fun eI=> ?_,fun h=>by omega⟩;have:=I.closed i eI j hb;rw[lf]at this;cases this
  have rW:∀t,(o.dst=some t\/t∈Ctx.eC ops o)->∀(i:Nat) p,ops[i]? =some p->p.dst=some t->i≠j->(L.getD i false=true↔i<j):=fun t ht i p hp hd b9=>
   l7 i b9 (E7 jK ho hp hd b9 ht)
  have dL:=cG.bD bh.bD
  have vR:∀x∈aU.op.operands,AP (fun t=>t∈Ctx.eC ops o) x:=by
   intro x hx;have h1:(o,aU)∈ops.toList.zip bj:=oY.2 ⟨j,by rw[CT];exact⟨by rw[fN];exact ho,eP⟩⟩;have h2:=eV.1 ny _ h1;simp only[Ctx.rp,eV]at h2;have aq:=h2 x hx;cases x with
   |tmp t=>exact q9.1 aq
   |var t=>exact q9.1 aq
   |const v=>trivial
   |func i=>trivial
  have AR:∀t,t∈Ctx.eC ops o->aZ fid az aG (df vars (S j) t) (av.tmps.getD t undef):=fun t ht=>by
   refine I.env t j (by omega) fun i p hp hd=> ?_;by_cases b9:i=j
   ·subst b9;simp[lf]
   ·exact rW t (.inr ht) i p hp hd b9
  have iB:∀i,(L.setIfInBounds j true).getD i false=true↔i=j\/L.getD i false=true:=fun i=>qu jv
  have WU:p<=j->j<q->e2 aU.op=true->(S k).H=(S q).H:=fun K6 K7 ht=>by
   obtain⟨d,rfl⟩:=kD vS;refine T.heap bh.bD (by omega) fun x h1 h2=> ?_;cases af:aO x with
   |false=>rfl
   |true=>
    have hx:=(I.nA x h1 (by omega) af).2 h2;have hb:=hl.writer x h1 (by omega) af j aU K6 eP ht (by omega);rw[zX (by omega),o3 (by omega)]at hb;have:=I.closed x hx j hb;rw[lf]at this;cases this
  have tS:∀(bJ:Nat) (x:Value) (bs:World) (a7:bw),q<=bJ->bJ<=ops.size->(∀i,q<=i->i<ops.size->aO i=true->(i=j\/L.getD i false=true↔i<bJ))->aQ C fid a7 (S bJ).H bs->(∀m,m<=(S (j+1)).low->Ext az aG a7 bs m st.H.length)->(∀t,o.dst=some t->aZ fid a7 bs (df vars (S (j+1)) t) x)->
    (∀i,p<=i->i<q->i≠j->L.getD i false=false->a7.β (S i).H.length=Option.none)->wpAnyIn (dO ro) 0 C.P .any ops Q fuel (L.setIfInBounds j true) (av.put o.dst x) bs:=by
   intro bJ x bs a7 q1 q2 dk p1 cN ei nC;have mC:=cN 0 (ct _);refine rT _ bJ a7 _ bs ⟨by simp[I.size],fun x hx i hb=> ?_,q1,q2,fun i h1 h2 af=>by rw[iB];exact dk i h1 h2 af,p1,fun i hi af mE=> ?_,fun t m hm dy=> ?_,by rw[rR];exact I.l6,by rw[put_defers];exact I.defers,fun m hm=> ?_⟩ rfl
   ·rw[iB]at hx⊢
    rcases hx with rfl|hx
    ·exact .inr (rV i hb)
    ·exact .inr (I.closed x hx i hb)
   ·have bb:i≠j:=fun e=>by
     have:=(iB i).2 (.inl e);rw[this]at mE;cases mE
    refine nC i hi af bb ?_;cases ad:L.getD i false with
    |false=>rfl
    |true=>
     have:=(iB i).2 (.inr ad);rw[this]at mE;cases mE
   ·refine tO (fun d hd=>by rw[I.l6];exact bx.lt d hd) (fun h=> ?_) (fun h=> ?_)
    ·have yf:j<m:=(dy j o ho h).1 ((iB j).2 (.inl rfl))
     have e:df vars (S m) t=df vars (S (j+1)) t:=by
      obtain⟨d,rfl⟩:=kD (show j+1<=m from yf);refine T.slot (by omega) fun x p h1 h2 hp hd=> ?_;have oz:x≠j:=by omega
      have av:=(iB x).1 ((dy x p hp hd).2 h2);have a2:=(rW t (.inl h) x p hp hd oz).1 (av.resolve_left oz);omega
     rw[e];exact ei t h
    ·refine(I.env t m hm fun i p hp hd=> ?_).ext I.rel mC
     have b9:i≠j:=fun e=>by subst e;rw[ho]at hp;cases hp;exact h hd
     rw[<-dy i p hp hd,iB];simp[b9]
   ·have ae:=(T.kq bh.bD (i:=j+1) (j:=ops.size) gm (aI _)).1.low
    exact(I.ext m hm).trans (cN m (by omega))
  by_cases hA:p<=j/\j<q
  ·
   obtain⟨h1,h2⟩:=hA;obtain⟨fS,z,WV,WQ,K8,c5,AU,aw⟩:=AY T hl h1 h2;rw[eP]at K8;cases K8
   have tM:o.guard=none:=by
    have:=bx.guard;rw[AU]at this;cases aT:o.guard with
    |none=>rfl
    |some p=>
     obtain⟨q,b⟩:=p;rw[aT]at this;simp only[Ctx.guard]at this;split at this<;>simp at this
   have AV:C.op vars o.pos o.op=.alloc z:=by rw[<-bx.op];exact c5
   obtain⟨ty,cells,dX,bR,ll,WW⟩:=WN (fid:=fid) (w:=aG) (ρ:=av.eval) AV;refine K1 ho tM (by rw[dX];simp) bR ?_
   have ja:∀t,o.dst=some t->df vars (S (j+1)) t=.ptr (S j).H.length 0:=fun t ht=>by
    rw[aw];rcases bx.dst with⟨h2,-⟩|⟨d,-,h2,aq⟩
    ·rw[h2]at ht;cases ht
    ·rw[h2]at ht;cases ht
     rw[aq,x7,if_pos rfl]
   have hk:(S k).H=(S q).H:=WU h1 h2 (by rw[c5];rfl);have oB:=I.free j h1 h2 lf
   have hcell:(S k).H[(S j).H.length]? =some (.cells z):=by
    rw[hk];obtain⟨d,hd⟩:=kD (show j+1<=q from h2);rw[hd];refine Fk T hl (by omega) (by omega) _ _ ?_;rw[WV];simp
   have Fj:=I.rel.place oB hcell (.cells cells ty) 0 0 ⟨⟨rfl,WW _ _ (j4 _ _)⟩,rfl,cells,ty,j4 _ _,ll _ _⟩;refine tS k _ _ _ vS rX (fun i q1 q2 af=> ?_) Fj (fun m _=>.place oB _ _ _ m (oA j (by omega))) (fun t ht=> ?_) fun i K9 mE b9 eI=> ?_
   ·rw[<-I.nA i q1 q2 af]
    exact⟨fun h=>h.resolve_left (by omega),.inr⟩
   ·rw[ja t ht]
    exact .ptr _ _ ⟨aG.heap.size,0,0,false⟩ (cM _ _ _) rfl
   ·have bb:(S i).H.length≠(S j).H.length:=by
     have key:∀i j,p<=i->i<q->i<j->j<q->(S i).H.length<(S j).H.length:=fun i j av a2 a3 a4=>by
      obtain⟨-,z,e,-⟩:=AY T hl av a2;have:=(T.kq bh.bD (i:=i+1) (j:=j) (by omega) (by omega)).1.len;rw[e]at this;simp at this;omega
     rcases Nat.lt_or_gt_of_ne b9 with c|c
     ·have:=key i j K9 mE c h2;omega
     ·have:=key j i h1 h2 c mE;omega
    show b0 az.β (S j).H.length _ (S i).H.length=_;rw[cZ bb];exact I.free i K9 mE eI
  ·
   have Fc:e2 aU.op=true->(S k).H=(S j).H\/(aO j=false/\(hU (S j).aH (S j).ax aU.guard=some true->∀v H1 bm,bK call (ah.ag (S j).aH (S j).ax) (S j).H (S j).H.length aU.op=some (v,H1,bm)->∃cT eH,bK call (ah.ag (S j).aH (S j).ax) (S k).H (S k).H.length aU.op=some (v,cT,eH)/\ec (S k).H cT eH=false)):=by
    intro ht;rcases fF j p with hjp|hjp
    ·refine .inr ⟨hl.still j hjp,fun hw v H1 bm h1=> ?_⟩
     have kr:=hl.gF j aU k hjp vS rX eP ht;unfold Abs.gF at kr;simp only[hw,h1]at kr;split at kr
     ·rename_i v' cT eH h2
      simp only[cH,o1]at kr;have:=rS _ _ kr.1;subst this;exact⟨cT,eH,h2,kr.2⟩
     ·cases kr
    ·have K7:q<=j:=by
      rcases fF j q with c|c
      ·exact absurd ⟨hjp,c⟩ hA
      ·exact c
     left;have ye:∀x,q<=x->x<ops.size->aO x=true->x≠j->(L.getD x false=true↔x<j):=fun x h1 h2 af hx=>l7 x hx (hl.writer x h1 h2 af j aU hjp eP ht hx);rcases Nat.le_total k j with qv|hjk
     ·obtain⟨d,rfl⟩:=kD qv
      refine(T.heap bh.bD (by omega) fun x h1 h2=> ?_).symm;cases af:aO x with
      |false=>rfl
      |true=>
       have av:=(ye x (by omega) (by omega) af (by omega)).2 (by omega);have a2:=(I.nA x (by omega) (by omega) af).1 av;omega
     ·obtain⟨d,rfl⟩:=kD hjk
      refine T.heap bh.bD (by omega) fun x h1 h2=> ?_;cases af:aO x with
      |false=>rfl
      |true=>
       have a2:=(I.nA x (by omega) (by omega) af).2 (by omega);by_cases hx:x=j
       ·subst hx;rw[lf]at a2;cases a2
       ·have:=(ye x (by omega) (by omega) af hx).1 a2;omega
   have Fe:(S j).low<=(S k).H.length:=by
    have ae:=(T.kq bh.bD (i:=0) (j:=j) (ct _) (by omega)).1.low;have ai:=oA k rX;rw[<-lu.2]at ae;omega
   refine tN (T:=fun t=>t∈Ctx.eC ops o) bu bh ho bx cG I.rel Fc Fe AR vR (fun q want d aT hd=> ?_) I.l6 ?_
   ·simp only[Ctx.eC,hN]
    right;rw[aT];simp only[];rw[hd];simp
   ·intro x bs a7 p1 cN ei
    have La:∀i,p<=i->i<q->i≠j->L.getD i false=false->a7.β (S i).H.length=Option.none:=fun i h1 h2 b9 eI=>by
     have oB:=I.free i h1 h2 eI;cases hb:a7.β (S i).H.length with
     |none=>rfl
     |some h'=>
      exfalso;rcases(cN 0 (ct _)).kJ _ _ hb with⟨h,h3,-⟩|⟨hge,-⟩
      ·rw[oB]at h3;cases h3
      ·have:=WT i h1 h2 k vS rX;omega
    have Lb:∀m,m<=(S (j+1)).low->Ext az aG a7 bs m st.H.length:=fun m hm=>(cN m hm).le (aI _) (oA k rX);cases fS:aO j with
    |false=>
     rw[fS]at p1;refine tS k x bs a7 vS rX (fun i q1 q2 af=> ?_) p1 Lb ei La;rw[<-I.nA i q1 q2 af];exact⟨fun h=>h.resolve_left (fun e=>by rw[e,fS]at af;cases af),.inr⟩
    |true=>
     rw[fS]at p1
     have K7:q<=j:=by
      rcases fF j q with c|c
      ·rcases fF j p with c'|c'
       ·rw[hl.still j c']at fS;cases fS
       ·exact absurd ⟨c',c⟩ hA
      ·exact c
     refine tS (j+1) x bs a7 (by omega) gm (fun i q1 q2 af=> ?_) p1 Lb ei La;by_cases b9:i=j
     ·subst b9;simp
     ·have:=l7 i b9 (hl.writer i q1 q2 af j aU (by omega) eP (cG.e2 fS) b9)
      simp only[b9,false_or];rw[this];omega
 have key:∀(fuel:Nat) (L:Array Bool) (k:Nat) (az:bw) (av:Act) (aG:World),yi C fid vars N ops S aO p q G w a st.H.length L k az av aG->(List.range ops.size).countP (fun i=>!L.getD i false)<=fuel->
   wpAnyIn (dO ro) 0 C.P .any ops Q fuel L av aG:=by
  intro fuel
  induction fuel with
  |zero=>
   intro L k az av aG I hc
   have fw:∀i,i<ops.size->L.getD i false=true:=fun i hi=>by
    have h1:=List.countP_eq_zero.1 (Nat.le_zero.1 hc) i (by simpa using hi);simpa using h1
   refine⟨?_,mD _ _ _ _ _ I fw⟩;cases hr:Region.ready .any ops L with
   |nil=>rfl
   |cons i r=>
    obtain⟨h1,o,ho,-⟩:=mem_ready.1 (show i∈Region.ready .any ops L by rw[hr];simp);have hi:i<ops.size:=(oX.1 ho).1;have h2:=fw i hi;have:i<L.size:=by rw[I.size];exact hi
    simp only[Array.getD,this,dif_pos]at h1 h2;rw[h1]at h2;cases h2
  |succ fuel ih=>
   intro L k az av aG I hc;refine⟨fun hr=>mD _ _ _ _ _ I (yc _ _ _ _ _ I hr),fun j hj=>jG fuel L k az av aG j I hj fun fJ bJ G' bg w' nj e=>ih fJ bJ G' bg w' nj ?_⟩;subst e;obtain⟨h1,o,ho,-⟩:=mem_ready.1 hj;have gm:j<ops.size:=(oX.1 ho).1;have jv:j<L.size:=by rw[I.size];exact gm
   have aY:(List.range ops.size).countP (fun i=>!(L.setIfInBounds j true).getD i false)<(List.range ops.size).countP (fun i=>!L.getD i false):=by
    refine E9 (a:=j) (fun x _ hx=> ?_) (by simpa using gm) ?_ ?_
    ·cases ad:L.getD x false with
     |false=>rfl
     |true=>
      have:=(qu (i:=x) jv).2 (.inr ad);rw[this]at hx;cases hx
    ·simp only[Array.getD,jv,dif_pos]at h1⊢; rw[h1];rfl
    ·have:=(qu (i:=j) jv).2 (.inl rfl)
     rw[this];rfl
   omega
 refine wpIn_region_any cr ?_;have hw:({w with drawn:=w.drawn+1}:World).heap=w.heap:=rfl;have gK:=(aa.clear).hZ hw;rw[<-h0]at gK
 have js:∀i,(Array.replicate ops.size false).getD i false=false:=fun i=>by
  by_cases h:i<ops.size
  ·simp[h]
  ·simp[h]
 refine key ops.size (Array.replicate ops.size false) q G a {w with drawn:=w.drawn+1} ⟨by simp,fun x hx=>absurd hx (by rw[js];simp),aI _,K5,fun i h1 _ af=>by rw[js];simp;omega,gK.rel.longer fun l o nk=> ?_,fun i h1 h2 _=> ?_,fun t m hm dy=> ?_,gK.size,rfl,fun m _=>Ext.hZ hw rfl rfl m _⟩ ?_
 ·rw[<-WS p (aI _)]at nk
  obtain⟨d,hd⟩:=kD tQ;rw[hd];exact Fk T hl (aI _) (by omega) l o nk
 ·exact aa.rel.none (oA i (by omega))
 ·have e:df vars (S m) t=df vars (S 0) t:=by
   have:=T.slot (t:=t) (i:=0) (k:=m) (by omega) fun x p h1 h2 hp hd=>by
    have:=(dy x p hp hd).2 (by omega);rw[js]at this;cases this
   rw[dK]at this;exact this
  rw[e];exact gK.env t
 ·refine cA List.countP_le_length (by simp)
theorem Lc{α:Type}{f:α->Bool}:∀{l:List α} {i:Nat},i<(l.takeWhile f).length->∃a,l[i]? =some a/\f a=true
 |[],i,h=>by simp at h
 |a::l,i,h=>by
  rw[List.takeWhile_cons]at h;split at h
  ·rename_i af
   cases i with
   |zero=>exact⟨a,rfl,af⟩
   |succ i=>
    simp only[iN]at h;obtain⟨b,h1,h2⟩:=Lc (f:=f) (l:=l) (i:=i) (by omega);exact⟨b,by simpa using h1,h2⟩
  ·simp at h
theorem Ld (l:List bl):im l<=lV l:=Da _ _
theorem Fl{α:Type}(f:α->Bool)(l:List α):(l.takeWhile f).length<=l.length:=(List.takeWhile_sublist f).length_le
theorem WX (l:List bl):lV l<=l.length:=by
 unfold lV;have h1:=Fl xw (l.drop (im l));have h2:im l<=l.length:=Fl _ l;simp only[xj]at h1;omega
theorem WY{l:List bl}{i:Nat}(h1:im l<=i)(h2:i<lV l):∃aU z,l[i]? =some aU/\aU.op=.alloc z/\aU.guard=none:=by
 unfold lV at h2;obtain⟨aU,aq,bf⟩:=Lc (l:=l.drop (im l)) (f:=xw) (i:=i-im l) (by omega);rw[C2]at aq;refine⟨aU,?_⟩;unfold xw at bf;split at bf
 ·rename_i z ae ai
  exact⟨z,by rw[<-aq];congr 1;omega,ae,ai⟩
 ·cases bf
theorem WZ{st:au}{wr:List Bool}{cg:List au}(hm:c7 (C.oper vars N ops) ops.toList=some bj)(lr:ee call bj {st with aH:=[]}=some cg)
  (h0:S 0={st with aH:=[]}) (ju:wr=(List.range ops.size).map aO) (hs:∀(i:Nat) aU,bj[i]? =some aU->jN call aU (S i) (S (i+1)) (aO i))
  (hc:rl (CheckFast.beforeF ops).toList bj wr=true) (hd:(vc bj cg).all (gF call)=true):AX ops bj call S aO (im bj) (lV bj):=by
 have hlen:bj.length=ops.size:=by rw[ql _ hm,e9]
 have fp:∀i,(CheckFast.beforeF ops).toList.getD i 0=(CheckFast.beforeF ops).getD i 0:=fun i=>by
  rw[u4,fN,q8]
 have tR:∀i j,lU (CheckFast.beforeF ops).toList i j=true->((CheckFast.beforeF ops).getD (max i j) 0).testBit (min i j)=true:=fun i j this=>by
  rw[AQ,fp,fp]at this;split at this
  ·rw[zX (by omega),o3 (by omega)];exact this
  ·rw[zW (by omega),rb (by omega)];exact this
 have Le:∀i,i<ops.size->wr[i]? =some (aO i):=fun i hi=>by rw[ju];simp[hi]
 have a8:=WX bj;have tQ:=Ld bj;unfold rl at hc;simp only[cH,eV]at hc;obtain⟨⟨c1,c2⟩,ix⟩:=hc;rw[<-h0]at lr;have np:=AO bj S aO cg hs lr;refine⟨tQ,by omega,fun i hi=> ?_,fun i h1 h2 af j aU K6 hj ht b9=> ?_,fun j aU h1 hj ht i h2 aq=> ?_,fun i h1 h2=>WY h1 h2,fun j aU k hj hk Fb ha ht=> ?_⟩
 ·have:=c1 (aO i) (oY.2 ⟨i,by rw[C3,if_pos hi];exact Le i (by omega)⟩)
  simpa using this
 ·have:=c2 (true,i) (hz.2 (by rw[<-af];exact Le i h2))
  have hb:Nat.blt i (lV bj)=false:=by
   cases hx:Nat.blt i (lV bj)with
   |false=>rfl
   |true=>have:=mj hx;omega
  simp only[oa,hb,Bool.or_self,re,eV]at this;have aq:=this (aU,j) (hz.2 hj)
  have tD:Nat.blt j (im bj)=false:=by
   cases hx:Nat.blt j (im bj)with
   |false=>rfl
   |true=>have:=mj hx;omega
  simp only[ht,tD,oa,re,iO,beq_iff_eq,b9,false_or]at aq;exact tR i j aq
 ·have:=ix (aU,j) (hz.2 hj)
  have hb:Nat.blt j (lV bj)=false:=by
   cases hx:Nat.blt j (lV bj)with
   |false=>rfl
   |true=>have:=mj hx;omega
  simp only[ht,hb,oa,Bool.or_self,re,eV]at this;have bf:=tR i j (this i (by rw[List.mem_range'_1];omega));rw[zW (by omega),rb (by omega)]at bf;exact bf
 ·have gg:(aU,S j,(S k).H)∈vc bj cg:=by
   unfold vc;simp only[zV,IV];refine⟨S k,oY.2 ⟨k-lV bj,?_⟩,(aU,S j),oY.2 ⟨j,?_⟩,by simp[ht]⟩
   ·rw[C2,<-np k (by omega)];congr 1;omega
   ·rw[C3,if_pos hj,CT]
    exact⟨ha,np j (by omega)⟩
  exact eV.1 hd _ gg
theorem W0{id:Nat}{st aV:au}{wr:List Bool}{a:Act}{Q:Exit->Act->World->Prop}{ro:Option Nat}(cr:C.P.follows .mixedOrders=true)(bu:eh C fid)(bh:gh C fid call)
  (hm:c7 (C.oper vars N ops) ops.toList=some bj) (gV:Ctx.sY ops=true) (jK:Ctx.sZ ops=true) (ny:(ops.toList.zip bj).all (fun(o,a)=>Ctx.rp ops o a)=true)
  (he:cX call bj {st with aH:=[]} []=some (aV,wr)) (hin:(p7 (CheckFast.beforeF ops).toList bj wr||k9 call (CheckFast.beforeF ops).toList bj wr {st with aH:=[]})=true) (aa:dj C fid vars N G st a w)
  (c9:∀G' bg w',dj C fid vars N G' aV bg w'->(∀m,m<=aV.low->Ext G w G' w' m st.H.length)->bg.defers=a.defers->Q .normal bg w'):
  (Code.region id ops true).wpIn (dO ro) 0 C.P Q a w:=by
 cases kS:rk bj with
 |true=>exact WK cr bu bh hm gV jK ny he kS aa c9
 |false=>
  unfold p7 at hin;rw[kS,Bool.or_false]at hin;unfold k9 at hin;rw[<-Bool.or_assoc,iO]at hin;rcases hin with hin|hin
  ·exact WJ cr bu bh hm gV jK ny he hin aa c9
  ·split at hin
   ·rename_i cg lr
    rw[cH]at hin;obtain⟨S,aO,h0,hn,ju,hs⟩:=pr _ _ _ _ _ he;have T:iA C vars N ops bj call S aO:=.of hm hs;rw[T.len]at hn ju;simp only[List.reverse_nil,ij]at ju;exact WR cr bu bh hm gV jK ny h0 hn T (WZ hm lr h0 ju hs hin.1 hin.2) aa c9
   ·cases hin
end
end Go.Abs
