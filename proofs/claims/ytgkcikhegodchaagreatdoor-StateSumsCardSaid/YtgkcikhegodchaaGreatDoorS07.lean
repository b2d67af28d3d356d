/- Texts of this claim, joined and written short by a program. -/
import Derived.Test.YtgkcikhegodchaaGreatDoorS06
import Derived.Test.YtgkcikhegodchaaGreatDoorS00
set_option linter.unusedVariables false
set_option linter.unusedSimpArgs false
set_option linter.unusedSectionVars false
namespace Go.Abs
open Go
variable{C:Ctx}{fid:Nat->Nat}{w w':World}{G G':bT}{H H':Heap}
theorem aX.place (U:aX C fid G H w){l:Nat}(hn:G.β l=Option.none){o:bU}(hl:H[l]? =some o)(aP:Obj)(tag fp:Nat)
  (ho:jT C fid ⟨ck G.β l ⟨w.heap.size,tag,fp,false⟩,G.I⟩ (w.alloc aP) ⟨w.heap.size,tag,fp,false⟩ o):
  aX C fid ⟨ck G.β l ⟨w.heap.size,tag,fp,false⟩,G.I⟩ H (w.alloc aP):=by
 have hle:=Bw hn ⟨w.heap.size,tag,fp,false⟩;refine⟨fun x h hb=> ?_,fun x fJ h h' e e' q=> ?_,fun x h hb=> ?_,fun b hb=> ?_,fun x h hb ae=> ?_,fun b o a6=>⟨(U.e2 b o a6).1,by rw[alloc_old (U.c0 b (U.e2 b o a6).1).1];exact(U.e2 b o a6).2⟩⟩
 ·by_cases hx:x=l
  ·subst hx
   simp only[dh]at hb;cases hb;exact⟨o,hl,ho⟩
  ·simp only[dx hx]at hb
   obtain⟨o',e',hr⟩:=U.obj x h hb;exact⟨o',e',hr.mono (G':=⟨ck G.β l _,G.I⟩) hle (fun b hb=>⟨hb,alloc_old (U.c0 b hb).1⟩) (alloc_old (U.blk x h hb))⟩
 ·by_cases hx:x=l<;>by_cases dM:fJ=l
  ·rw[hx,dM]
  ·subst hx;simp only[dh]at e;cases e
   simp only[dx dM]at e';have:=U.blk fJ h' e';simp only at q;omega
  ·subst dM;simp only[dh]at e';cases e'
   simp only[dx hx]at e;have:=U.blk x h e;simp only at q;omega
  ·simp only[dx hx]at e;simp only[dx dM]at e'
   exact U.inj x fJ h h' e e' q
 ·rw[World.size_alloc]
  by_cases hx:x=l
  ·subst hx;simp only[dh]at hb;cases hb;simp
  ·simp only[dx hx]at hb;have:=U.blk x h hb;omega
 ·have hi:=U.c0 b hb
  refine⟨by rw[World.size_alloc];omega,fun x h e q=> ?_⟩;by_cases hx:x=l
  ·subst hx;simp only[dh]at e;cases e;simp only at q;omega
  ·simp only[dx hx]at e;exact hi.2 x h e q
 ·by_cases hx:x=l
  ·subst hx;simp only[dh]at hb;cases hb;cases ae
  ·simp only[dx hx]at hb;exact U.ky x h hb ae
theorem Ext.place{l:Nat}(hn:G.β l=Option.none){fc:Nat}(aP:Obj)(tag fp m:Nat)(hl:fc<=l):Ext G w ⟨ck G.β l ⟨w.heap.size,tag,fp,false⟩,G.I⟩ (w.alloc aP) m fc where
 size:=by simp
 os:=rfl
 output:=rfl
 ek b hb _:=alloc_old hb
 homes:=Bw hn _
 ow x h hb:=by
  by_cases hx:x=l
  ·subst hx;simp only[dh]at hb;cases hb;exact .inr ⟨hl,aF _⟩
  ·simp only[dx hx]at hb;exact .inl ⟨h,hb,.inl rfl⟩
 c0 _ h:=h
 o5 _ h:=.inl h
theorem aX.longer (U:aX C fid G H w)(h:∀(l:Nat) (o:bU),H[l]? =some o->H'[l]? =some o):aX C fid G H' w:=
 ⟨fun l x e=>by
  obtain⟨o,ho,hr⟩:=U.obj l x e;exact⟨o,h l o ho,hr⟩,U.inj,U.blk,U.c0,U.ky,U.e2⟩
theorem UZ{vars:List Nat}{pos:String}{op:Op}{es:Nat}{z:List V}{bytes:Nat}{mq ac:ai}(hc:C.op vars pos op=.mkSlice es z bytes mq ac):∃t l c,op=.makeSlice t l c/\C.cO vars pos op=some (.mkSlice es z bytes mq ac):=by
 have cF:C.cO vars pos op=some (.mkSlice es z bytes mq ac):=by
  unfold Ctx.op at hc;cases h:C.cO vars pos op with
  |none=>rw[h]at hc;cases hc
  |some a=>rw[h]at hc;simp only[tW]at hc;rw[hc]
 cases ho:op with
 |makeSlice t l c=>rw[ho]at cF;exact⟨t,l,c,rfl,cF⟩
 |call c=>
  exfalso;rw[ho]at cF;obtain⟨callee,args,dN⟩:=c;cases callee with
  |value f=>
   simp only[Ctx.cO]at cF;split at cF<;>simp at cF
  |builtin b=>
   simp only[Ctx.cO]at cF;unfold Ctx.builtin at cF
   repeat' split at cF
   all_goals first
    |(cases cF;done)
    |(simp only[aA,reduceCtorEq]at cF;done)
    |(obtain⟨_,_,h⟩:=cj.1 cF;cases h;done)
  |invoke r n=>simp[Ctx.cO]at cF
 |binOp a b c d e=>
  exfalso;rw[ho]at cF;simp only[Ctx.cO,Ctx.yR]at cF
  repeat' split at cF
  all_goals first
   |(cases cF;done)
   |(obtain⟨_,_,h⟩:=cj.1 cF;cases h;done)
 |makeFunc g a b=>
  exfalso;rw[ho]at cF;cases g with
  |func f=>
   simp only[Ctx.cO]at cF;split at cF<;>simp at cF
  | _=>simp[Ctx.cO]at cF
 |makeMap t r=>
  exfalso;rw[ho]at cF;cases r<;>simp[Ctx.cO]at cF
 | _=>
   exfalso;rw[ho]at cF;simp only[Ctx.cO]at cF
   repeat' split at cF
   all_goals first
    |(cases cF;done)
    |(obtain⟨_,_,h⟩:=cj.1 cF;cases h;done)
theorem run_mk{vars:List Nat}{ag:ai->V}{ρ:Operand->Value}{o:Oper}{pos:String}{es:Nat}{z:List V}{bytes:Nat}{mq ac:ai}(aN:fr C fid vars G w ag ρ)(dm:C.op vars pos o.op=.mkSlice es z bytes mq ac)
  {n m:Int} {k bz:IntKind} (ab:ag mq=.int k n) (aj:ag ac=.int bz m) (hb:n=m/\0<=n/\n*(bytes+1)<=2^40):
  0<es/\∃e cells,(execOp ρ o).run C.P w=.ok (.value (.slice (some ⟨w.heap.size,0,none⟩) n.toNat n.toNat)) (w.alloc (.cells cells e))/\cells.size=n.toNat*es/\
   (∀d∈List.replicate n.toNat (lr z),(aE d).length=es)/\∀G' w',a1 fid G' w' ((List.replicate n.toNat (lr z)).flatMap aE) cells.toList:=by
 obtain⟨t,l,c,ho,hc⟩:=UZ dm;rw[ho]at hc;simp only[Ctx.cO]at hc;split at hc
 ·rename_i e hd
  split at hc
  ·rename_i i N5 azA azB hi aO h1 h2
   split at hc
   ·cases hc
   ·rename_i eh
    simp only[not_or,ne_eq,Classical.not_not]at eh;simp only[aA,cN.mkSlice.injEq]at hc;obtain⟨rfl,rfl,rfl,rfl,rfl⟩:=hc;obtain⟨cv,oz,oA,bh,-⟩:=Ei (fid:=fid) aO;have y6:cv.cells.size=i.size:=by rw[<-fC,(oA G w).length,eh.2]
    have hl:=aN l _ h1;have sQ:=aN c _ h2;obtain⟨rfl,mY,hbound⟩:=hb;rw[ab]at hl;rw[aj]at sQ;obtain⟨j,rfl⟩:=HD mY
    have p5:j<=1099511627776:=by
     have:(j:Int)*1<=(j:Int)*((i.bytes:Int)+1):=Int.mul_le_mul_of_nonneg_left (by omega) mY;omega
    have sU:(i.bytes:Int)*(j:Int)<=1099511627776:=by
     have:(j:Int)*((i.bytes:Int)+1)=(i.bytes:Int)*(j:Int)+j:=by rw[Int.mul_add,Int.mul_comm];omega
     omega
    have hw:=Uv mY (by omega:(j:Int)<=1099511627776);have hC:0<i.size:=Mk eh.1
    have cc:∃cells,(execOp ρ o).run C.P w=.ok (.value (.slice (some ⟨w.heap.size,0,none⟩) j j)) (w.alloc (.cells cells e))/\cells.toList=(List.range (j*i.size)).map (fun q=>cv.cells[q%cv.cells.size]!):=by
     refine⟨(Array.range (j*i.size)).map (fun q=>(if j*i.size=0 then #[]else cv.cells:Array Value)[q%(if j*i.size=0 then #[]else cv.cells:Array Value).size]!),?_,?_⟩
     ·unfold execOp;rw[ho]
      have qM:¬((decide ((j:Int)<0)||decide ((i.bytes:Int)*(j:Int)>2^48))=true):=by simp;omega
      have o7:¬((decide ((j:Int)<0)||decide ((i.bytes:Int)*(j:Int)>2^48)||decide ((j:Int)<0)||decide ((j:Int)>(j:Int)))=true):=by simp;omega
      simp only[hl.jA,sQ.jA,Instr.makeSlice,asInt,asIntOf,Sem.run_bind,Sem.run_pure,Result.andThen_ok,run_underlying hd,run_typeInfo (P:=C.P) w hi,hw];rw[if_neg (by simpa using o7)];simp only[Sem.run_bind,run_askRoom,Result.andThen_ok,sizeOf,run_typeInfo (P:=C.P) w hi,Sem.run_pure,HL];by_cases h0:j*i.size=0
      ·simp only[h0,if_true,Sem.run_bind,Sem.run_pure,Result.andThen_ok,newRow,run_newObj,World.alloc_eq]
      ·simp only[h0,if_false,Sem.run_bind,Sem.run_pure,Result.andThen_ok,oz,newRow,run_newObj,World.alloc_eq]
     ·by_cases h0:j*i.size=0
      ·simp[h0]
      ·simp[h0]
    obtain⟨cells,cc,fe⟩:=cc;have hu:=Nx bh (n:=j) eh.2;rw[y6]at fe
    have pf:∀G' w',a1 fid G' w' ((List.replicate j (lr N5)).flatMap aE) cells.toList:=fun G' w'=>by
     have:=Im (oA G' w') bh (by omega) j;rw[y6,<-fe]at this;exact this
    refine⟨hC,e,cells,cc,?_,hu,pf⟩;rw[<-fC,(pf G w).length,mV hu,Bf];rfl
  ·cases hc
 ·cases hc
section
variable{vars:List Nat}{N:Nat}{ops:Array Oper}{bF:List bI}{call:cP}{S:Nat->av}{aY:Nat->Bool}
theorem U0{ag:ai->V}{low bG:Nat}{es:Nat}{z:List V}{bytes:Nat}{mq ac:ai}{v:V}{H1:Heap}(h:b3 call ag H low (.mkSlice es z bytes mq ac)=some (v,H1,bG)):
  ∃k bz n m,ag mq=.int k n/\ag ac=.int bz m/\(n=m/\0<=n/\n*(bytes+1)<=2^40)/\
   ((n=0/\v=.emp/\H1=H/\bG=low)\/(n≠0/\v=.ca H.length es 0 n.toNat n.toNat/\H1=H++[.row es (List.replicate n.toNat (lr z)) false]/\bG=low)):=by
 have h':step ag H low (.mkSlice es z bytes mq ac)=some (v,H1,bG):=h;simp only[step]at h';split at h'
 ·rename_i k n bz m ab aj
  split at h'
  ·rename_i hb
   refine⟨k,bz,n,m,ab,aj,hb,?_⟩;split at h'
   ·rename_i h0
    cases h';exact .inl ⟨h0,rfl,rfl,rfl⟩
   ·rename_i h0
    cases h';exact .inr ⟨h0,rfl,rfl,rfl⟩
  ·cases h'
 ·cases h'
theorem U1 (h:xh bF=true){i:Nat}{a7:bI}(hi:bF[i]? =some a7)(ht:gk a7.op=true):a7.guard=none/\∃es z bytes mq ac,a7.op=.mkSlice es z bytes mq ac:=by
 unfold xh at h;have h1:=eU.1 h a7 (gV hi);rw[ht]at h1;simp only[iN,tZ]at h1;split at h1
 ·rename_i ab aj;exact⟨aj,_,_,_,_,_,ab⟩
 ·cases h1
theorem N6 (T:k3 C vars N ops bF call S aY)(hc:mu call)(lS:xh bF=true){i:Nat}(hi:i<ops.size):
  (aY i=false/\(S (i+1)).H=(S i).H)\/(aY i=true/\∃o,(S (i+1)).H=(S i).H++[o]):=by
 obtain⟨o,a7,-,gd,-,b7⟩:=T.get hi;cases ae:aY i with
 |false=>exact .inl ⟨rfl,b7.still hc ae⟩
 |true=>
  right;refine⟨rfl,?_⟩;obtain⟨-,es,z,bytes,mq,ac,dm⟩:=U1 lS gd (b7.gk ae);rcases b7 with⟨-,v,H1,bG,h1,e,h2⟩|⟨-,-,h2⟩
  ·rw[dm]at h1
   obtain⟨k,bz,n,m,-,-,-,hr⟩:=U0 h1;have hH:(S (i+1)).H=H1:=by rw[e,(kD _ _ _).1]
   rcases hr with⟨-,-,rfl,rfl⟩|⟨-,-,rfl,-⟩
   ·rw[ae]at h2
    simp[ei]at h2
   ·exact⟨_,hH⟩
  ·rw[h2]at ae;cases ae
theorem N7 (T:k3 C vars N ops bF call S aY)(hc:mu call)(lS:xh bF=true){i:Nat}:∀{k:Nat},i+k<=ops.size->∀(l:Nat) (o:bU),(S i).H[l]? =some o->(S (i+k)).H[l]? =some o
 |0,_,l,o,h=>h
 |k+1,hk,l,o,h=>by
  have ih:=N7 T hc lS (k:=k) (by omega) l o h;rcases N6 T hc lS (i:=i+k) (by omega)with⟨-,e⟩|⟨-,o',e⟩
  ·rw[show i+(k+1)=i+k+1 from rfl,e];exact ih
  ·rw[show i+(k+1)=i+k+1 from rfl,e,fB ?_]
   ·exact ih
   ·rcases fV l (S (i+k)).H.length with q|q
    ·exact q
    ·rw[nA q]at ih;cases ih
theorem U2 (T:k3 C vars N ops bF call S aY)(hc:mu call)(lS:xh bF=true){i j:Nat}(cK:i<j)(hj:j<ops.size)(ae:aY i=true):(S i).H.length<(S j).H.length:=by
 have h1:=(T.nS hc (i:=i+1) (j:=j) cK (by omega)).1.len;rcases N6 T hc lS (i:=i) (by omega)with⟨e,-⟩|⟨-,o,e⟩
 ·rw[e]at ae;cases ae
 ·rw[e]at h1;simp at h1;omega
structure EA (C:Ctx) (fid:Nat->Nat) (vars:List Nat) (N:Nat) (ops:Array Oper) (S:Nat->av) (aY:Nat->Bool) (G:bT) (w:World) (a:Act) (pn:Nat)
  (L:Array Bool) (ay:bT) (al:Act) (aD:World):Prop where
 size:L.size=ops.size
 closed:∀x,L.getD x false=true->∀i,((CheckFast.beforeF ops).getD x 0).testBit i=true->L.getD i false=true
 rel:aX C fid ay (S ops.size).H aD
 free:∀i,i<ops.size->aY i=true->L.getD i false=false->ay.β (S i).H.length=Option.none
 env:∀t m,m<=ops.size->(∀(i:Nat) o,ops[i]? =some o->o.dst=some t->(L.getD i false=true↔i<m))->bd fid ay aD (dJ vars (S m) t) (al.tmps.getD t undef)
 qa:al.tmps.size=N
 defers:al.defers=a.defers
 ext:∀m,m<=(S ops.size).low->Ext G w ay aD m pn
theorem U3{j:Nat}{o:Oper}{a:Act}{K:Act->World->Prop}{Q:Exit->Act->World->Prop}{ro:Option Nat}{aD:World}(ho:ops[j]? =some o)(a6:o.guard=none)(hnd:∀c,o.op≠ .defer c){x:Value}
  (cc:(execOp a.eval o).run C.P w=.ok (.value x) aD) (mZ:K (a.put o.dst x) aD):wpOpIn (eH ro) 0 C.P ops Q j K a w:=by
 unfold wpOpIn;rw[ho];have hw:Region.wanted o (yielded ops a.tmps)=true:=by unfold Region.wanted;rw[a6]
 simp only[hw,if_true];refine⟨fun _ _=>trivial,?_⟩;rw[Oper.semAt_eq _ _ _ hnd,cc];exact mZ
theorem ah4{id:Nat}{st aV:av}{wr:List Bool}{a:Act}{Q:Exit->Act->World->Prop}{ro:Option Nat}(cw:C.P.follows .mixedOrders=true)(bw:eW C fid)(ba:gL C fid call)
  (hm:dF (C.oper vars N ops) ops.toList=some bF) (jg:Ctx.yS ops=true) (mo:Ctx.yT ops=true) (rW:(ops.toList.zip bF).all (fun(o,a)=>Ctx.xm ops o a)=true)
  (he:cY call bF {st with aC:=[]} []=some (aV,wr)) (lS:xh bF=true) (U:dC C fid vars N G st a w)
  (dD:∀G' a8 w',dC C fid vars N G' aV a8 w'->(∀m,m<=aV.low->Ext G w G' w' m st.H.length)->a8.defers=a.defers->Q .normal a8 w'):
  (Code.region id ops true).wpIn (eH ro) 0 C.P Q a w:=by
 obtain⟨S,aY,h0,hn,-,hs⟩:=uo _ _ _ _ _ he;have T:k3 C vars N ops bF call S aY:=.of hm hs;rw[T.len]at hn;have pq:st.H=(S 0).H/\st.low=(S 0).low:=by rw[h0];exact⟨rfl,rfl⟩
 have Ev:st.low<=st.H.length:=U.low
 have s5:∀k,k<=ops.size->st.H.length<=(S k).H.length:=fun k hk=>by
  have:=(T.nS ba.bQ (i:=0) (j:=k) (cD _) hk).1.len;rw[<-pq.1]at this;exact this
 have oH:∀L ay al aD,EA C fid vars N ops S aY G w a st.H.length L ay al aD->(∀i,i<ops.size->L.getD i false=true)->Q .normal al aD:=by
  intro L ay al aD I eP;refine dD ay al aD ?_ (fun m hm=>I.ext m (by rw[hn];exact hm)) I.defers;rw[<-hn];refine⟨I.rel,fun t=>I.env t ops.size (aF _) fun i o ho _=> ?_,I.qa,?_⟩
  ·have:i<ops.size:=(tS.1 ho).1
   simp[this,eP i this]
  ·exact(T.nS ba.bQ (cD _) (aF _)).bound (by rw[<-pq.1,<-pq.2];exact Ev)
 have Ew:∀L ay al aD,EA C fid vars N ops S aY G w a st.H.length L ay al aD->Region.ready .any ops L=[]->∀i,i<ops.size->L.getD i false=true:=by
  intro L ay al aD I hr i
  induction i using Nat.strongRecOn with
  | _ i ih=>
    intro hi;cases ee:L.getD i false with
    |true=>rfl
    |false=>
     exfalso
     have:i∈Region.ready .any ops L:=mem_ready.2 ⟨by
      have:i<L.size:=by rw[I.size];exact hi
      simp only[Array.getD,this,dif_pos]at ee⊢; exact ee,ops[i],by simp[hi],fun e he hb=>by
       have aK:=N0 jg (j:=i) (o:=ops[i]) (by simp[hi]) he hb;exact ih e.on aK (by omega)⟩
     rw[hr]at this;cases this
 have kA:∀(fuel:Nat) (L:Array Bool) (ay:bT) (al:Act) (aD:World) (j:Nat),EA C fid vars N ops S aY G w a st.H.length L ay al aD->j∈Region.ready .any ops L->
   (∀hS G' a8 w',EA C fid vars N ops S aY G w a st.H.length hS G' a8 w'->hS=L.setIfInBounds j true->wpAnyIn (eH ro) 0 C.P .any ops Q fuel hS a8 w')->
   wpOpIn (eH ro) 0 C.P ops Q j (wpAnyIn (eH ro) 0 C.P .any ops Q fuel (L.setIfInBounds j true)) al aD:=by
  intro fuel L ay al aD j I hj xC;obtain⟨xD,o,ho,Ex⟩:=mem_ready.1 hj;have iR:j<ops.size:=(tS.1 ho).1;have lR:j<L.size:=by rw[I.size];exact iR
  have o6:L.getD j false=false:=by simp only[Array.getD,lR,dif_pos]at xD⊢; exact xD
  obtain⟨o',a7,jU,gd,bh,b7⟩:=T.get iR;rw[ho]at jU;cases jU
  have xE:∀i,((CheckFast.beforeF ops).getD j 0).testBit i=true->L.getD i false=true:=fun i hb=>by
   obtain⟨e,mm,nM,qb⟩:=NY ho hb;have hl:=Ex e mm nM;rcases qb with rfl|qb
   ·exact hl
   ·exact I.closed e.on hl i qb
  have oG:∀i,i≠j->((CheckFast.beforeF ops).getD (max i j) 0).testBit (min i j)=true->(L.getD i false=true↔i<j):=by
   intro i cK hb;rcases fV i j with aK|hge
   ·rw[HP (by omega),qx (by omega)]at hb
    exact⟨fun _=>aK,fun _=>xE i hb⟩
   ·rw[HR hge,tX hge]at hb
    refine⟨fun ee=> ?_,fun h=>by omega⟩;have:=I.closed i ee j hb;rw[o6]at this;cases this
  have xF:∀t,(o.dst=some t\/t∈Ctx.fO ops o)->∀(i:Nat) p,ops[i]? =some p->p.dst=some t->i≠j->(L.getD i false=true↔i<j):=fun t ht i p hp hd cK=>
   oG i cK (NZ mo ho hp hd cK ht)
  have eN:=b7.bQ ba.bQ
  have B1:∀x∈a7.op.operands,IA (fun t=>t∈Ctx.fO ops o) x:=by
   intro x hx;have h1:(o,a7)∈ops.toList.zip bF:=pL.2 ⟨j,by rw[Dz];exact⟨by rw[gr];exact ho,gd⟩⟩;have h2:=eU.1 rW _ h1;simp only[Ctx.xm,eU]at h2;have ar:=h2 x hx;cases x with
   |tmp t=>exact sE.1 ar
   |var t=>exact sE.1 ar
   |const v=>trivial
   |func i=>trivial
  have ID:∀t,t∈Ctx.fO ops o->bd fid ay aD (dJ vars (S j) t) (al.tmps.getD t undef):=fun t ht=>by
   refine I.env t j (by omega) fun i p hp hd=> ?_;by_cases cK:i=j
   ·subst cK;simp[o6]
   ·exact xF t (.inr ht) i p hp hd cK
  have k5:∀i,(L.setIfInBounds j true).getD i false=true↔i=j\/L.getD i false=true:=fun i=>vE lR
  have zl:∀(x:Value) (bJ:World) (bl:bT),aX C fid bl (S ops.size).H bJ->(∀m,m<=(S (j+1)).low->Ext ay aD bl bJ m st.H.length)->(∀t,o.dst=some t->bd fid bl bJ (dJ vars (S (j+1)) t) x)->
    (∀i,i<ops.size->aY i=true->i≠j->L.getD i false=false->bl.β (S i).H.length=Option.none)->wpAnyIn (eH ro) 0 C.P .any ops Q fuel (L.setIfInBounds j true) (al.put o.dst x) bJ:=by
   intro x bJ bl p1 p2 p3 kj;have oF:=p2 0 (cD _);refine xC _ bl _ bJ ⟨by simp[I.size],fun x hx i hb=> ?_,p1,fun i hi ae qO=> ?_,fun t m hm eh=> ?_,by rw[xB];exact I.qa,by rw[put_defers];exact I.defers,fun m hm=> ?_⟩ rfl
   ·rw[k5]at hx⊢
    rcases hx with rfl|hx
    ·exact .inr (xE i hb)
    ·exact .inr (I.closed x hx i hb)
   ·have aZ:i≠j:=fun e=>by
     have:=(k5 i).2 (.inl e);rw[this]at qO;cases qO
    refine kj i hi ae aZ ?_;cases af:L.getD i false with
    |false=>rfl
    |true=>
     have:=(k5 i).2 (.inr af);rw[this]at qO;cases qO
   ·refine zg (fun d hd=>by rw[I.qa];exact bh.lt d hd) (fun h=> ?_) (fun h=> ?_)
    ·have Ez:j<m:=(eh j o ho h).1 ((k5 j).2 (.inl rfl))
     have e:dJ vars (S m) t=dJ vars (S (j+1)) t:=by
      obtain⟨d,rfl⟩:=oq (show j+1<=m from Ez);refine T.slot (by omega) fun x p h1 h2 hp hd=> ?_;have s4:x≠j:=by omega
      have al:=(k5 x).1 ((eh x p hp hd).2 h2);have a2:=(xF t (.inl h) x p hp hd s4).1 (al.resolve_left s4);omega
     rw[e];exact p3 t h
    ·refine(I.env t m hm fun i p hp hd=> ?_).ext I.rel oF
     have cK:i≠j:=fun e=>by subst e;rw[ho]at hp;cases hp;exact h hd
     rw[<-eh i p hp hd,k5];simp[cK]
   ·have ab:=(T.nS ba.bQ (i:=j+1) (j:=ops.size) iR (aF _)).1.low
    exact(I.ext m hm).trans (p2 m (by omega))
  by_cases ht:gk a7.op=true
  ·
   obtain⟨IE,es,z,bytes,mq,ac,dm⟩:=U1 lS gd ht;rcases b7 with⟨hw,v,H1,bG,h1,az,lu⟩|⟨hw,-,-⟩
   case inr=>rw[IE]at hw;simp[gu]at hw
   have zd:o.guard=none:=by
    have:=bh.guard;rw[IE]at this;cases a6:o.guard with
    |none=>rfl
    |some p=>
     obtain⟨q,b⟩:=p;rw[a6]at this;simp only[Ctx.guard]at this;split at this<;>simp at this
   have IG:C.op vars o.pos o.op=.mkSlice es z bytes mq ac:=by rw[<-bh.op];exact dm
   obtain⟨ej,fc,c',eR,-⟩:=UZ IG;let hE:ai->V:=fun cE=>open Classical in if cE∈a7.op.operands then ai.ag (S j).aC (S j).au cE else .undef
   have aN:fr C fid vars ay aD hE al.eval:=fun x cE hx=>by
    by_cases hin:cE∈a7.op.operands
    ·have vC:=B1 cE hin
     simp only[hE,hin,if_true];cases x with
     |tmp t=>
      simp only[Ctx.b5,aA]at hx;have NW:t∈Ctx.fO ops o:=by rw[<-hx]at vC;split at vC<;>exact vC
      have:=ID t NW;have e:cE.ag (S j).aC (S j).au=dJ vars (S j) t:=by rw[<-hx];unfold dJ;split<;>rfl
      rw[e];exact this
     |const u=>
      simp only[Ctx.b5]at hx;obtain⟨UQ,hM,rfl⟩:=cj.1 hx;rcases D5 (I:=ay.I) (w:=aD) u hM with rfl|hp
      ·exact .undef _
      ·exact .p _ _ hp
     |func f=>exact M8 bw hx
     |global g=>simp[Ctx.b5]at hx
    ·simp only[hE,hin,if_false];exact .undef _
   rw[dm]at h1;obtain⟨k,bz,n,m,ab,aj,hb,r0⟩:=U0 h1
   have B2:hE mq=.int k n:=by
    have:mq∈a7.op.operands:=by rw[dm];simp[cN.operands]
    simp only[hE,this,if_true];exact ab
   have EB:hE ac=.int bz m:=by
    have:ac∈a7.op.operands:=by rw[dm];simp[cN.operands]
    simp only[hE,this,if_true];exact aj
   obtain⟨hC,e,cells,cc,nK,hu,pf⟩:=run_mk (w:=aD) aN IG B2 EB hb;refine U3 ho zd (by rw[eR];simp) cc ?_;have gf:=kD {S j with H:=H1,low:=min (S j).low bG} a7.dst v
   have k2:∀t,o.dst=some t->dJ vars (S (j+1)) t=v:=fun t ht=>by
    rw[az];rcases bh.dst with⟨h2,-⟩|⟨d,-,h2,ar⟩
    ·rw[h2]at ht;cases ht
    ·rw[h2]at ht;cases ht
     rw[ar,Et,if_pos rfl]
   rcases r0 with⟨mY,rfl,rfl,-⟩|⟨mY,rfl,U4,-⟩
   ·subst mY
    have hk:∀b,b<aD.heap.size->(aD.alloc (.cells cells e)).heap[b]? =aD.heap[b]? :=fun b hb=>alloc_old hb;refine zl _ _ ay (I.rel.restore (by simp) hk) (fun m _=>.restore (by simp) hk rfl rfl m _) (fun t ht=> ?_) fun i hi ae _ ee=>I.free i hi ae ee;rw[k2 t ht];exact .p _ _ (.emp _)
   ·have ia:aY j=true:=by rw[lu,U4];simp[ei]
    have s6:=I.free j iR ia o6
    have zm:(S ops.size).H[(S j).H.length]? =some (.row es (List.replicate n.toNat (lr z)) false):=by
     obtain⟨d,hd⟩:=oq (show j+1<=ops.size from iR);rw[hd];refine N7 T ba.bQ lS (by omega) _ _ ?_;rw[az,gf.1,U4];simp
    have ah5:0<n.toNat:=by omega
    have N8:=I.rel.place s6 zm (.cells cells e) n.toNat cells.size ⟨by simp,by simpa using ah5,rfl,hC,hu,cells,e,cells.toList,[],mi _ _,rfl,by simp,pf _ _⟩;refine zl _ _ _ N8 (fun m _=>.place s6 _ _ _ m (s5 j (by omega))) (fun t ht=> ?_) fun i hi ae cK ee=> ?_
    ·rw[k2 t ht]
     refine .ca _ _ 0 n.toNat n.toNat ⟨aD.heap.size,n.toNat,cells.size,false⟩ _ _ _ (dh _ _ _) (aF _) (fun _=>⟨by simp,rfl,?_,aF _⟩);rw[nK,dP];exact aF _
    ·have aZ:(S i).H.length≠(S j).H.length:=by
      rcases fV i j with q|q
      ·have:=U2 T ba.bQ lS q iR ae;omega
      ·have:=U2 T ba.bQ lS (show j<i by omega) hi ia;omega
     show ck ay.β (S j).H.length _ (S i).H.length=_;rw[dx aZ];exact I.free i hi ae ee
  ·have ed:gk a7.op=false:=by simpa using ht
   have ia:aY j=false:=by
    cases ae:aY j with
    |false=>rfl
    |true=>have:=b7.gk ae;rw[ed]at this;cases this
   refine ze (T:=fun t=>t∈Ctx.fO ops o) (Hc:=(S ops.size).H) bw ba ho bh b7 I.rel (fun q=>absurd q ht) ?_ ID B1 (fun q want d a6 hd=> ?_) I.qa ?_
   ·have ab:=(T.nS ba.bQ (i:=0) (j:=j) (cD _) (by omega)).1.low
    have aj:=s5 ops.size (aF _);rw[<-pq.2]at ab;omega
   ·simp only[Ctx.fO,jc]
    right;rw[a6];simp only[];rw[hd];simp
   ·intro x bJ bl p1 p2 p3
    rw[ia]at p1;refine zl x bJ bl p1 (fun m hm=>(p2 m hm).le (aF _) (s5 ops.size (aF _))) p3 fun i hi ae cK ee=> ?_;have s6:=I.free i hi ae ee;cases hb:bl.β (S i).H.length with
    |none=>rfl
    |some h'=>
     exfalso;rcases(p2 0 (cD _)).ow _ _ hb with⟨h,fY,-⟩|⟨hge,-⟩
     ·rw[s6]at fY;cases fY
     ·obtain⟨d,hd⟩:=oq (show i+1<=ops.size from hi)
      have h2:=(T.nS ba.bQ (i:=i+1) (j:=ops.size) hi (aF _)).1.len;rcases N6 T ba.bQ lS hi with⟨q,-⟩|⟨-,o',q⟩
      ·rw[ae]at q;cases q
      ·rw[q]at h2;simp at h2;omega
 have key:∀(fuel:Nat) (L:Array Bool) (ay:bT) (al:Act) (aD:World),EA C fid vars N ops S aY G w a st.H.length L ay al aD->(List.range ops.size).countP (fun i=>!L.getD i false)<=fuel->
   wpAnyIn (eH ro) 0 C.P .any ops Q fuel L al aD:=by
  intro fuel
  induction fuel with
  |zero=>
   intro L ay al aD I hc
   have eP:∀i,i<ops.size->L.getD i false=true:=fun i hi=>by
    have h1:=List.countP_eq_zero.1 (Nat.le_zero.1 hc) i (by simpa using hi);simpa using h1
   refine⟨?_,oH _ _ _ _ I eP⟩;cases hr:Region.ready .any ops L with
   |nil=>rfl
   |cons i r=>
    obtain⟨h1,o,ho,-⟩:=mem_ready.1 (show i∈Region.ready .any ops L by rw[hr];simp);have hi:i<ops.size:=(tS.1 ho).1;have h2:=eP i hi;have:i<L.size:=by rw[I.size];exact hi
    simp only[Array.getD,this,dif_pos]at h1 h2;rw[h1]at h2;cases h2
  |succ fuel ih=>
   intro L ay al aD I hc;refine⟨fun hr=>oH _ _ _ _ I (Ew _ _ _ _ I hr),fun j hj=>kA fuel L ay al aD j I hj fun hS G' a8 w' rK e=>ih hS G' a8 w' rK ?_⟩;subst e;obtain⟨h1,o,ho,-⟩:=mem_ready.1 hj;have iR:j<ops.size:=(tS.1 ho).1;have lR:j<L.size:=by rw[I.size];exact iR
   have aK:(List.range ops.size).countP (fun i=>!(L.setIfInBounds j true).getD i false)<(List.range ops.size).countP (fun i=>!L.getD i false):=by
    refine N1 (a:=j) (fun x _ hx=> ?_) (by simpa using iR) ?_ ?_
    ·cases af:L.getD x false with
     |false=>rfl
     |true=>
      have:=(vE (i:=x) lR).2 (.inr af);rw[this]at hx;cases hx
    ·simp only[Array.getD,lR,dif_pos]at h1⊢; rw[h1];rfl
    ·have:=(vE (i:=j) lR).2 (.inl rfl)
     rw[this];rfl
   omega
 refine wpIn_region_any cw ?_;have hw:({w with drawn:=w.drawn+1}:World).heap=w.heap:=rfl;have jD:=(U.clear).jf hw;rw[<-h0]at jD
 have jW:∀i,(Array.replicate ops.size false).getD i false=false:=fun i=>by
  by_cases h:i<ops.size
  ·simp[h]
  ·simp[h]
 refine key ops.size (Array.replicate ops.size false) G a {w with drawn:=w.drawn+1} ⟨by simp,fun x hx=>absurd hx (by rw[jW];simp),jD.rel.longer fun l o hl=> ?_,fun i hi ae _=> ?_,fun t m hm eh=> ?_,jD.size,rfl,fun m _=>Ext.jf hw rfl rfl m _⟩ ?_
 ·have:=N7 T ba.bQ lS (i:=0) (k:=ops.size) (by omega) l o hl
  rw[dP]at this;exact this
 ·exact U.rel.none (s5 i (by omega))
 ·have e:dJ vars (S m) t=dJ vars (S 0) t:=by
   have:=T.slot (t:=t) (i:=0) (k:=m) (by omega) fun x p h1 h2 hp hd=>by
    have:=(eh x p hp hd).2 (by omega);rw[jW]at this;cases this
   rw[dP]at this;exact this
  rw[e];exact jD.env t
 ·refine cM List.countP_le_length (by simp)
end
end Go.Abs
namespace Go.Abs
open Go
variable{C:Ctx}{fid:Nat->Nat}{w w':World}{G G':bT}{H H':Heap}
theorem ah6{vars:List Nat}{pos:String}{op:Op}{z:List V}(hc:C.op vars pos op=.alloc z):∃t z0,op=.alloc t/\C.zeroCells t=some z0/\z=C.mark t z0:=by
 have cF:C.cO vars pos op=some (.alloc z):=by
  unfold Ctx.op at hc;cases h:C.cO vars pos op with
  |none=>rw[h]at hc;cases hc
  |some a=>rw[h]at hc;simp only[tW]at hc;rw[hc]
 cases ho:op with
 |alloc t=>
  rw[ho]at cF;simp only[Ctx.cO]at cF;obtain⟨N5,h1,h2⟩:=cj.1 cF;cases h2;exact⟨t,N5,rfl,h1,rfl⟩
 |call c=>
  exfalso;rw[ho]at cF;obtain⟨callee,args,dN⟩:=c;cases callee with
  |value f=>
   simp only[Ctx.cO]at cF;split at cF<;>simp at cF
  |builtin b=>
   simp only[Ctx.cO]at cF;unfold Ctx.builtin at cF
   repeat' split at cF
   all_goals first
    |(cases cF;done)
    |(simp only[aA,reduceCtorEq]at cF;done)
    |(obtain⟨_,_,h⟩:=cj.1 cF;cases h;done)
  |invoke r n=>simp[Ctx.cO]at cF
 |binOp a b c d e=>
  exfalso;rw[ho]at cF;simp only[Ctx.cO,Ctx.yR]at cF
  repeat' split at cF
  all_goals first
   |(cases cF;done)
   |(obtain⟨_,_,h⟩:=cj.1 cF;cases h;done)
 |makeFunc g a b=>
  exfalso;rw[ho]at cF;cases g with
  |func f=>
   simp only[Ctx.cO]at cF;split at cF<;>simp at cF
  | _=>simp[Ctx.cO]at cF
 |makeMap t r=>
  exfalso;rw[ho]at cF;cases r<;>simp[Ctx.cO]at cF
 | _=>
   exfalso;rw[ho]at cF;simp only[Ctx.cO]at cF
   repeat' split at cF
   all_goals first
    |(cases cF;done)
    |(obtain⟨_,_,h⟩:=cj.1 cF;cases h;done)
theorem ah7{vars:List Nat}{ρ:Operand->Value}{o:Oper}{pos:String}{z:List V}(dm:C.op vars pos o.op=.alloc z):
  ∃t cells,o.op=.alloc t/\(execOp ρ o).run C.P w=.ok (.value (.pointer (some ⟨w.heap.size,0,none⟩))) (w.alloc (.cells cells t))/\(∀G' w',a1 fid G' w' z cells.toList)/\∀(w':World) b,w'.heap[b]? =some (.cells cells t (0,0))->D1 C w' b z:=by
 obtain⟨t,z0,ho,aO,rfl⟩:=ah6 dm;obtain⟨cv,oz,oA,bh,i,hi,-⟩:=Ei (fid:=fid) aO;refine⟨t,cv.cells,ho,?_,fun G' w'=>Ud (oA G' w'),fun w' b hb=>Ue (G:=⟨fun _=>none,fun _=>False⟩) (fid:=fid) (w:=w) bh (oA _ _) hb⟩;unfold execOp;rw[ho];simp only[Instr.alloc,Sem.run_bind,oz,Result.andThen_ok,Sem.run_pure,newVar,newRow,run_newObj,World.alloc_eq]
section
variable{vars:List Nat}{N:Nat}{ops:Array Oper}{bF:List bI}{call:cP}{S:Nat->av}{aY:Nat->Bool}
structure IH (ops:Array Oper) (bF:List bI) (call:cP) (S:Nat->av) (aY:Nat->Bool) (p q:Nat):Prop where
 ah8:p<=q
 U5:q<=ops.size
 still:∀i,i<p->aY i=false
 writer:∀i,q<=i->i<ops.size->aY i=true->∀(j:Nat) a7,p<=j->bF[j]? =some a7->gk a7.op=true->i≠j->((CheckFast.beforeF ops).getD (max i j) 0).testBit (min i j)=true
 behind:∀(j:Nat) a7,q<=j->bF[j]? =some a7->gk a7.op=true->∀i,p<=i->i<q->((CheckFast.beforeF ops).getD j 0).testBit i=true
 alloc:∀i,p<=i->i<q->∃a7 z,bF[i]? =some a7/\a7.op=.alloc z/\a7.guard=none
 jx:∀(j:Nat) a7 k,j<p->q<=k->k<=ops.size->bF[j]? =some a7->gk a7.op=true->jx call (a7,S j,(S k).H)=true
structure EC (C:Ctx) (fid:Nat->Nat) (vars:List Nat) (N:Nat) (ops:Array Oper) (S:Nat->av) (aY:Nat->Bool) (p q:Nat) (G:bT) (w:World) (a:Act) (pn:Nat)
  (L:Array Bool) (k:Nat) (ay:bT) (al:Act) (aD:World):Prop where
 size:L.size=ops.size
 closed:∀x,L.getD x false=true->∀i,((CheckFast.beforeF ops).getD x 0).testBit i=true->L.getD i false=true
 U6:q<=k
 vD:k<=ops.size
 rX:∀i,q<=i->i<ops.size->aY i=true->(L.getD i false=true↔i<k)
 rel:aX C fid ay (S k).H aD
 free:∀i,p<=i->i<q->L.getD i false=false->ay.β (S i).H.length=Option.none
 env:∀t m,m<=ops.size->(∀(i:Nat) o,ops[i]? =some o->o.dst=some t->(L.getD i false=true↔i<m))->bd fid ay aD (dJ vars (S m) t) (al.tmps.getD t undef)
 qa:al.tmps.size=N
 defers:al.defers=a.defers
 ext:∀m,m<=(S ops.size).low->Ext G w ay aD m pn
theorem II (T:k3 C vars N ops bF call S aY){p q:Nat}(hl:IH ops bF call S aY p q){i:Nat}(h1:p<=i)(h2:i<q):
  aY i=true/\∃z,(S (i+1)).H=(S i).H++[.cells z]/\∃a7,bF[i]? =some a7/\a7.op=.alloc z/\a7.guard=none/\S (i+1)=({S i with H:=(S i).H++[.cells z],low:=min (S i).low (S i).H.length}:av).put a7.dst (.ptr (S i).H.length 0):=by
 have U7:=hl.U5;obtain⟨a7,z,ha,dm,a6⟩:=hl.alloc i h1 h2;obtain⟨o,ah9,ho,gd,bh,b7⟩:=T.get (i:=i) (by omega);rw[ha]at gd;cases gd;rcases b7 with⟨hw,v,H1,bG,ab,az,lu⟩|⟨hw,-,-⟩
 case inr=>rw[a6]at hw;simp[gu]at hw
 rw[dm]at ab;have B2:step (ai.ag (S i).aC (S i).au) (S i).H (S i).H.length (.alloc z)=some (v,H1,bG):=ab;simp only[step,aA,bq]at B2;obtain⟨rfl,rfl,rfl⟩:=B2;refine⟨by rw[lu];simp[ei],z,?_,a7,ha,dm,a6,az⟩;rw[az];exact(kD _ _ _).1
theorem N9 (T:k3 C vars N ops bF call S aY){p q:Nat}(hl:IH ops bF call S aY p q){i:Nat}(h1:p<=i):∀{k:Nat},i+k<=q->∀(l:Nat) (o:bU),(S i).H[l]? =some o->(S (i+k)).H[l]? =some o
 |0,_,l,o,h=>h
 |k+1,hk,l,o,h=>by
  have ih:=N9 T hl h1 (k:=k) (by omega) l o h;obtain⟨-,z,e,-⟩:=II T hl (i:=i+k) (by omega) (by omega);show(S (i+k+1)).H[l]? =some o;rw[e,fB ((e0.1 ih).1)];exact ih
theorem aia{id:Nat}{st aV:av}{a:Act}{Q:Exit->Act->World->Prop}{ro:Option Nat}(cw:C.P.follows .mixedOrders=true)(bw:eW C fid)(ba:gL C fid call)
  (hm:dF (C.oper vars N ops) ops.toList=some bF) (jg:Ctx.yS ops=true) (mo:Ctx.yT ops=true) (rW:(ops.toList.zip bF).all (fun(o,a)=>Ctx.xm ops o a)=true)
  {S:Nat->av} {aY:Nat->Bool} (h0:S 0={st with aC:=[]}) (hn:S ops.size=aV) (T:k3 C vars N ops bF call S aY) {p q:Nat} (hl:IH ops bF call S aY p q) (U:dC C fid vars N G st a w)
  (dD:∀G' a8 w',dC C fid vars N G' aV a8 w'->(∀m,m<=aV.low->Ext G w G' w' m st.H.length)->a8.defers=a.defers->Q .normal a8 w'):
  (Code.region id ops true).wpIn (eH ro) 0 C.P Q a w:=by
 have pq:st.H=(S 0).H/\st.low=(S 0).low:=by rw[h0];exact⟨rfl,rfl⟩
 have Ev:st.low<=st.H.length:=U.low;have zi:=hl.ah8;have U7:=hl.U5
 have s5:∀k,k<=ops.size->st.H.length<=(S k).H.length:=fun k hk=>by
  have:=(T.nS ba.bQ (i:=0) (j:=k) (cD _) hk).1.len;rw[<-pq.1]at this;exact this
 have aib:∀j,j<=p->(S j).H=(S 0).H:=fun j hj=>by
  have:=T.heap ba.bQ (i:=0) (k:=j) (by omega) fun x _ h2=>hl.still x (by omega);rw[dP]at this;exact this
 have aic:∀i,p<=i->i<q->∀k,q<=k->k<=ops.size->(S i).H.length<(S k).H.length:=fun i h1 h2 k ar aR=>by
  obtain⟨-,z,e,-⟩:=II T hl h1 h2;have:=(T.nS ba.bQ (i:=i+1) (j:=k) (by omega) aR).1.len;rw[e]at this;simp at this;omega
 have oH:∀L k ay al aD,EC C fid vars N ops S aY p q G w a st.H.length L k ay al aD->(∀i,i<ops.size->L.getD i false=true)->Q .normal al aD:=by
  intro L k ay al aD I eP
  have hk:(S ops.size).H=(S k).H:=by
   have B3:=I.U6;obtain⟨d,hd⟩:=oq I.vD;rw[hd];refine T.heap ba.bQ (by omega) fun x h1 h2=> ?_;cases ae:aY x with
   |false=>rfl
   |true=>have:=(I.rX x (by omega) (by omega) ae).1 (eP x (by omega));omega
  refine dD ay al aD ?_ (fun m hm=>I.ext m (by rw[hn];exact hm)) I.defers;rw[<-hn];refine⟨by rw[hk];exact I.rel,fun t=>I.env t ops.size (aF _) fun i o ho _=> ?_,I.qa,?_⟩
  ·have:i<ops.size:=(tS.1 ho).1
   simp[this,eP i this]
  ·exact(T.nS ba.bQ (cD _) (aF _)).bound (by rw[<-pq.1,<-pq.2];exact Ev)
 have Ew:∀L k ay al aD,EC C fid vars N ops S aY p q G w a st.H.length L k ay al aD->Region.ready .any ops L=[]->∀i,i<ops.size->L.getD i false=true:=by
  intro L k ay al aD I hr i
  induction i using Nat.strongRecOn with
  | _ i ih=>
    intro hi;cases ee:L.getD i false with
    |true=>rfl
    |false=>
     exfalso
     have:i∈Region.ready .any ops L:=mem_ready.2 ⟨by
      have:i<L.size:=by rw[I.size];exact hi
      simp only[Array.getD,this,dif_pos]at ee⊢; exact ee,ops[i],by simp[hi],fun e he hb=>by
       have aK:=N0 jg (j:=i) (o:=ops[i]) (by simp[hi]) he hb;exact ih e.on aK (by omega)⟩
     rw[hr]at this;cases this
 have kA:∀(fuel:Nat) (L:Array Bool) (k:Nat) (ay:bT) (al:Act) (aD:World) (j:Nat),EC C fid vars N ops S aY p q G w a st.H.length L k ay al aD->j∈Region.ready .any ops L->
   (∀hS bz G' a8 w',EC C fid vars N ops S aY p q G w a st.H.length hS bz G' a8 w'->hS=L.setIfInBounds j true->wpAnyIn (eH ro) 0 C.P .any ops Q fuel hS a8 w')->
   wpOpIn (eH ro) 0 C.P ops Q j (wpAnyIn (eH ro) 0 C.P .any ops Q fuel (L.setIfInBounds j true)) al aD:=by
  intro fuel L k ay al aD j I hj xC;obtain⟨xD,o,ho,Ex⟩:=mem_ready.1 hj;have iR:j<ops.size:=(tS.1 ho).1;have lR:j<L.size:=by rw[I.size];exact iR
  have o6:L.getD j false=false:=by simp only[Array.getD,lR,dif_pos]at xD⊢; exact xD
  have B3:=I.U6;have s7:=I.vD;obtain⟨o',a7,jU,gd,bh,b7⟩:=T.get iR;rw[ho]at jU;cases jU
  have xE:∀i,((CheckFast.beforeF ops).getD j 0).testBit i=true->L.getD i false=true:=fun i hb=>by
   obtain⟨e,mm,nM,qb⟩:=NY ho hb;have hl:=Ex e mm nM;rcases qb with rfl|qb
   ·exact hl
   ·exact I.closed e.on hl i qb
  have oG:∀i,i≠j->((CheckFast.beforeF ops).getD (max i j) 0).testBit (min i j)=true->(L.getD i false=true↔i<j):=by
   intro i cK hb;rcases fV i j with aK|hge
   ·rw[HP (by omega),qx (by omega)]at hb
    exact⟨fun _=>aK,fun _=>xE i hb⟩
   ·rw[HR hge,tX hge]at hb
    refine⟨fun ee=> ?_,fun h=>by omega⟩;have:=I.closed i ee j hb;rw[o6]at this;cases this
  have xF:∀t,(o.dst=some t\/t∈Ctx.fO ops o)->∀(i:Nat) p,ops[i]? =some p->p.dst=some t->i≠j->(L.getD i false=true↔i<j):=fun t ht i p hp hd cK=>
   oG i cK (NZ mo ho hp hd cK ht)
  have eN:=b7.bQ ba.bQ
  have B1:∀x∈a7.op.operands,IA (fun t=>t∈Ctx.fO ops o) x:=by
   intro x hx;have h1:(o,a7)∈ops.toList.zip bF:=pL.2 ⟨j,by rw[Dz];exact⟨by rw[gr];exact ho,gd⟩⟩;have h2:=eU.1 rW _ h1;simp only[Ctx.xm,eU]at h2;have ar:=h2 x hx;cases x with
   |tmp t=>exact sE.1 ar
   |var t=>exact sE.1 ar
   |const v=>trivial
   |func i=>trivial
  have ID:∀t,t∈Ctx.fO ops o->bd fid ay aD (dJ vars (S j) t) (al.tmps.getD t undef):=fun t ht=>by
   refine I.env t j (by omega) fun i p hp hd=> ?_;by_cases cK:i=j
   ·subst cK;simp[o6]
   ·exact xF t (.inr ht) i p hp hd cK
  have k5:∀i,(L.setIfInBounds j true).getD i false=true↔i=j\/L.getD i false=true:=fun i=>vE lR
  have aid:p<=j->j<q->gk a7.op=true->(S k).H=(S q).H:=fun U8 U9 ht=>by
   obtain⟨d,rfl⟩:=oq B3;refine T.heap ba.bQ (by omega) fun x h1 h2=> ?_;cases ae:aY x with
   |false=>rfl
   |true=>
    have hx:=(I.rX x h1 (by omega) ae).2 h2;have hb:=hl.writer x h1 (by omega) ae j a7 U8 gd ht (by omega);rw[HR (by omega),tX (by omega)]at hb;have:=I.closed x hx j hb;rw[o6]at this;cases this
  have zl:∀(bz:Nat) (x:Value) (bJ:World) (bl:bT),q<=bz->bz<=ops.size->(∀i,q<=i->i<ops.size->aY i=true->(i=j\/L.getD i false=true↔i<bz))->aX C fid bl (S bz).H bJ->(∀m,m<=(S (j+1)).low->Ext ay aD bl bJ m st.H.length)->(∀t,o.dst=some t->bd fid bl bJ (dJ vars (S (j+1)) t) x)->
    (∀i,p<=i->i<q->i≠j->L.getD i false=false->bl.β (S i).H.length=Option.none)->wpAnyIn (eH ro) 0 C.P .any ops Q fuel (L.setIfInBounds j true) (al.put o.dst x) bJ:=by
   intro bz x bJ bl q1 q2 cd p1 p2 p3 kj;have oF:=p2 0 (cD _);refine xC _ bz bl _ bJ ⟨by simp[I.size],fun x hx i hb=> ?_,q1,q2,fun i h1 h2 ae=>by rw[k5];exact cd i h1 h2 ae,p1,fun i hi ae qO=> ?_,fun t m hm eh=> ?_,by rw[xB];exact I.qa,by rw[put_defers];exact I.defers,fun m hm=> ?_⟩ rfl
   ·rw[k5]at hx⊢
    rcases hx with rfl|hx
    ·exact .inr (xE i hb)
    ·exact .inr (I.closed x hx i hb)
   ·have aZ:i≠j:=fun e=>by
     have:=(k5 i).2 (.inl e);rw[this]at qO;cases qO
    refine kj i hi ae aZ ?_;cases af:L.getD i false with
    |false=>rfl
    |true=>
     have:=(k5 i).2 (.inr af);rw[this]at qO;cases qO
   ·refine zg (fun d hd=>by rw[I.qa];exact bh.lt d hd) (fun h=> ?_) (fun h=> ?_)
    ·have Ez:j<m:=(eh j o ho h).1 ((k5 j).2 (.inl rfl))
     have e:dJ vars (S m) t=dJ vars (S (j+1)) t:=by
      obtain⟨d,rfl⟩:=oq (show j+1<=m from Ez);refine T.slot (by omega) fun x p h1 h2 hp hd=> ?_;have s4:x≠j:=by omega
      have al:=(k5 x).1 ((eh x p hp hd).2 h2);have a2:=(xF t (.inl h) x p hp hd s4).1 (al.resolve_left s4);omega
     rw[e];exact p3 t h
    ·refine(I.env t m hm fun i p hp hd=> ?_).ext I.rel oF
     have cK:i≠j:=fun e=>by subst e;rw[ho]at hp;cases hp;exact h hd
     rw[<-eh i p hp hd,k5];simp[cK]
   ·have ab:=(T.nS ba.bQ (i:=j+1) (j:=ops.size) iR (aF _)).1.low
    exact(I.ext m hm).trans (p2 m (by omega))
  by_cases hA:p<=j/\j<q
  ·
   obtain⟨h1,h2⟩:=hA;obtain⟨ia,z,aie,ah9,Va,dm,IE,az⟩:=II T hl h1 h2;rw[gd]at Va;cases Va
   have zd:o.guard=none:=by
    have:=bh.guard;rw[IE]at this;cases a6:o.guard with
    |none=>rfl
    |some p=>
     obtain⟨q,b⟩:=p;rw[a6]at this;simp only[Ctx.guard]at this;split at this<;>simp at this
   have IG:C.op vars o.pos o.op=.alloc z:=by rw[<-bh.op];exact dm
   obtain⟨ty,cells,eR,cc,pf,ED⟩:=ah7 (fid:=fid) (w:=aD) (ρ:=al.eval) IG;refine U3 ho zd (by rw[eR];simp) cc ?_
   have k2:∀t,o.dst=some t->dJ vars (S (j+1)) t=.ptr (S j).H.length 0:=fun t ht=>by
    rw[az];rcases bh.dst with⟨h2,-⟩|⟨d,-,h2,ar⟩
    ·rw[h2]at ht;cases ht
    ·rw[h2]at ht;cases ht
     rw[ar,Et,if_pos rfl]
   have hk:(S k).H=(S q).H:=aid h1 h2 (by rw[dm];rfl);have s6:=I.free j h1 h2 o6
   have hcell:(S k).H[(S j).H.length]? =some (.cells z):=by
    rw[hk];obtain⟨d,hd⟩:=oq (show j+1<=q from h2);rw[hd];refine N9 T hl (by omega) (by omega) _ _ ?_;rw[aie];simp
   have N8:=I.rel.place s6 hcell (.cells cells ty) 0 0 ⟨⟨rfl,ED _ _ (mi _ _)⟩,rfl,cells,ty,mi _ _,pf _ _⟩;refine zl k _ _ _ B3 s7 (fun i q1 q2 ae=> ?_) N8 (fun m _=>.place s6 _ _ _ m (s5 j (by omega))) (fun t ht=> ?_) fun i Vb qO cK ee=> ?_
   ·rw[<-I.rX i q1 q2 ae]
    exact⟨fun h=>h.resolve_left (by omega),.inr⟩
   ·rw[k2 t ht]
    exact .ptr _ _ ⟨aD.heap.size,0,0,false⟩ (dh _ _ _) rfl
   ·have aZ:(S i).H.length≠(S j).H.length:=by
     have key:∀i j,p<=i->i<q->i<j->j<q->(S i).H.length<(S j).H.length:=fun i j al a2 a3 a4=>by
      obtain⟨-,z,e,-⟩:=II T hl al a2;have:=(T.nS ba.bQ (i:=i+1) (j:=j) (by omega) (by omega)).1.len;rw[e]at this;simp at this;omega
     rcases Nat.lt_or_gt_of_ne cK with c|c
     ·have:=key i j Vb qO c h2;omega
     ·have:=key j i h1 h2 c qO;omega
    show ck ay.β (S j).H.length _ (S i).H.length=_;rw[dx aZ];exact I.free i Vb qO ee
  ·
   have N3:gk a7.op=true->(S k).H=(S j).H\/(aY j=false/\(gu (S j).aC (S j).au a7.guard=some true->∀v H1 bG,b3 call (ai.ag (S j).aC (S j).au) (S j).H (S j).H.length a7.op=some (v,H1,bG)->∃H2 dB,b3 call (ai.ag (S j).aC (S j).au) (S k).H (S k).H.length a7.op=some (v,H2,dB)/\ei (S k).H H2 dB=false)):=by
    intro ht;rcases fV j p with hjp|hjp
    ·refine .inr ⟨hl.still j hjp,fun hw v H1 bG h1=> ?_⟩
     have nT:=hl.jx j a7 k hjp B3 s7 gd ht;unfold Abs.jx at nT;simp only[hw,h1]at nT;split at nT
     ·rename_i v' H2 dB h2
      simp only[cn,mb]at nT;have:=vB _ _ nT.1;subst this;exact⟨H2,dB,h2,nT.2⟩
     ·cases nT
    ·have U9:q<=j:=by
      rcases fV j q with c|c
      ·exact absurd ⟨hjp,c⟩ hA
      ·exact c
     left;have Ey:∀x,q<=x->x<ops.size->aY x=true->x≠j->(L.getD x false=true↔x<j):=fun x h1 h2 ae hx=>oG x hx (hl.writer x h1 h2 ae j a7 hjp gd ht hx);rcases Nat.le_total k j with vF|hjk
     ·obtain⟨d,rfl⟩:=oq vF
      refine(T.heap ba.bQ (by omega) fun x h1 h2=> ?_).symm;cases ae:aY x with
      |false=>rfl
      |true=>
       have al:=(Ey x (by omega) (by omega) ae (by omega)).2 (by omega);have a2:=(I.rX x (by omega) (by omega) ae).1 al;omega
     ·obtain⟨d,rfl⟩:=oq hjk
      refine T.heap ba.bQ (by omega) fun x h1 h2=> ?_;cases ae:aY x with
      |false=>rfl
      |true=>
       have a2:=(I.rX x (by omega) (by omega) ae).2 (by omega);by_cases hx:x=j
       ·subst hx;rw[o6]at a2;cases a2
       ·have:=(Ey x (by omega) (by omega) ae hx).1 a2;omega
   have N4:(S j).low<=(S k).H.length:=by
    have ab:=(T.nS ba.bQ (i:=0) (j:=j) (cD _) (by omega)).1.low;have aj:=s5 k s7;rw[<-pq.2]at ab;omega
   refine ze (T:=fun t=>t∈Ctx.fO ops o) bw ba ho bh b7 I.rel N3 N4 ID B1 (fun q want d a6 hd=> ?_) I.qa ?_
   ·simp only[Ctx.fO,jc]
    right;rw[a6];simp only[];rw[hd];simp
   ·intro x bJ bl p1 p2 p3
    have Vc:∀i,p<=i->i<q->i≠j->L.getD i false=false->bl.β (S i).H.length=Option.none:=fun i h1 h2 cK ee=>by
     have s6:=I.free i h1 h2 ee;cases hb:bl.β (S i).H.length with
     |none=>rfl
     |some h'=>
      exfalso;rcases(p2 0 (cD _)).ow _ _ hb with⟨h,fY,-⟩|⟨hge,-⟩
      ·rw[s6]at fY;cases fY
      ·have:=aic i h1 h2 k B3 s7;omega
    have Vd:∀m,m<=(S (j+1)).low->Ext ay aD bl bJ m st.H.length:=fun m hm=>(p2 m hm).le (aF _) (s5 k s7);cases ia:aY j with
    |false=>
     rw[ia]at p1;refine zl k x bJ bl B3 s7 (fun i q1 q2 ae=> ?_) p1 Vd p3 Vc;rw[<-I.rX i q1 q2 ae];exact⟨fun h=>h.resolve_left (fun e=>by rw[e,ia]at ae;cases ae),.inr⟩
    |true=>
     rw[ia]at p1
     have U9:q<=j:=by
      rcases fV j q with c|c
      ·rcases fV j p with c'|c'
       ·rw[hl.still j c']at ia;cases ia
       ·exact absurd ⟨c',c⟩ hA
      ·exact c
     refine zl (j+1) x bJ bl (by omega) iR (fun i q1 q2 ae=> ?_) p1 Vd p3 Vc;by_cases cK:i=j
     ·subst cK;simp
     ·have:=oG i cK (hl.writer i q1 q2 ae j a7 (by omega) gd (b7.gk ia) cK)
      simp only[cK,false_or];rw[this];omega
 have key:∀(fuel:Nat) (L:Array Bool) (k:Nat) (ay:bT) (al:Act) (aD:World),EC C fid vars N ops S aY p q G w a st.H.length L k ay al aD->(List.range ops.size).countP (fun i=>!L.getD i false)<=fuel->
   wpAnyIn (eH ro) 0 C.P .any ops Q fuel L al aD:=by
  intro fuel
  induction fuel with
  |zero=>
   intro L k ay al aD I hc
   have eP:∀i,i<ops.size->L.getD i false=true:=fun i hi=>by
    have h1:=List.countP_eq_zero.1 (Nat.le_zero.1 hc) i (by simpa using hi);simpa using h1
   refine⟨?_,oH _ _ _ _ _ I eP⟩;cases hr:Region.ready .any ops L with
   |nil=>rfl
   |cons i r=>
    obtain⟨h1,o,ho,-⟩:=mem_ready.1 (show i∈Region.ready .any ops L by rw[hr];simp);have hi:i<ops.size:=(tS.1 ho).1;have h2:=eP i hi;have:i<L.size:=by rw[I.size];exact hi
    simp only[Array.getD,this,dif_pos]at h1 h2;rw[h1]at h2;cases h2
  |succ fuel ih=>
   intro L k ay al aD I hc;refine⟨fun hr=>oH _ _ _ _ _ I (Ew _ _ _ _ _ I hr),fun j hj=>kA fuel L k ay al aD j I hj fun hS bz G' a8 w' rK e=>ih hS bz G' a8 w' rK ?_⟩;subst e;obtain⟨h1,o,ho,-⟩:=mem_ready.1 hj;have iR:j<ops.size:=(tS.1 ho).1;have lR:j<L.size:=by rw[I.size];exact iR
   have aK:(List.range ops.size).countP (fun i=>!(L.setIfInBounds j true).getD i false)<(List.range ops.size).countP (fun i=>!L.getD i false):=by
    refine N1 (a:=j) (fun x _ hx=> ?_) (by simpa using iR) ?_ ?_
    ·cases af:L.getD x false with
     |false=>rfl
     |true=>
      have:=(vE (i:=x) lR).2 (.inr af);rw[this]at hx;cases hx
    ·simp only[Array.getD,lR,dif_pos]at h1⊢; rw[h1];rfl
    ·have:=(vE (i:=j) lR).2 (.inl rfl)
     rw[this];rfl
   omega
 refine wpIn_region_any cw ?_;have hw:({w with drawn:=w.drawn+1}:World).heap=w.heap:=rfl;have jD:=(U.clear).jf hw;rw[<-h0]at jD
 have jW:∀i,(Array.replicate ops.size false).getD i false=false:=fun i=>by
  by_cases h:i<ops.size
  ·simp[h]
  ·simp[h]
 refine key ops.size (Array.replicate ops.size false) q G a {w with drawn:=w.drawn+1} ⟨by simp,fun x hx=>absurd hx (by rw[jW];simp),aF _,U7,fun i h1 _ ae=>by rw[jW];simp;omega,jD.rel.longer fun l o mj=> ?_,fun i h1 h2 _=> ?_,fun t m hm eh=> ?_,jD.size,rfl,fun m _=>Ext.jf hw rfl rfl m _⟩ ?_
 ·rw[<-aib p (aF _)]at mj
  obtain⟨d,hd⟩:=oq zi;rw[hd];exact N9 T hl (aF _) (by omega) l o mj
 ·exact U.rel.none (s5 i (by omega))
 ·have e:dJ vars (S m) t=dJ vars (S 0) t:=by
   have:=T.slot (t:=t) (i:=0) (k:=m) (by omega) fun x p h1 h2 hp hd=>by
    have:=(eh x p hp hd).2 (by omega);rw[jW]at this;cases this
   rw[dP]at this;exact this
  rw[e];exact jD.env t
 ·refine cM List.countP_le_length (by simp)
theorem Ve{α:Type}{f:α->Bool}:∀{l:List α} {i:Nat},i<(l.takeWhile f).length->∃a,l[i]? =some a/\f a=true
 |[],i,h=>by simp at h
 |a::l,i,h=>by
  rw[List.takeWhile_cons]at h;split at h
  ·rename_i ae
   cases i with
   |zero=>exact⟨a,rfl,ae⟩
   |succ i=>
    simp only[fl]at h;obtain⟨b,h1,h2⟩:=Ve (f:=f) (l:=l) (i:=i) (by omega);exact⟨b,by simpa using h1,h2⟩
  ·simp at h
theorem Vf (l:List bI):kV l<=pV l:=Mn _ _
theorem Oa{α:Type}(f:α->Bool)(l:List α):(l.takeWhile f).length<=l.length:=(List.takeWhile_sublist f).length_le
theorem aif (l:List bI):pV l<=l.length:=by
 unfold pV;have h1:=Oa DR (l.drop (kV l));have h2:kV l<=l.length:=Oa _ l;simp only[qv]at h1;omega
theorem aih{l:List bI}{i:Nat}(h1:kV l<=i)(h2:i<pV l):∃a7 z,l[i]? =some a7/\a7.op=.alloc z/\a7.guard=none:=by
 unfold pV at h2;obtain⟨a7,ar,aR⟩:=Ve (l:=l.drop (kV l)) (f:=DR) (i:=i-kV l) (by omega);rw[Mh]at ar;refine⟨a7,?_⟩;unfold DR at aR;split at aR
 ·rename_i z ab aj
  exact⟨z,by rw[<-ar];congr 1;omega,ab,aj⟩
 ·cases aR
theorem aii{st:av}{wr:List Bool}{cb:List av}(hm:dF (C.oper vars N ops) ops.toList=some bF)(po:fm call bF {st with aC:=[]}=some cb)
  (h0:S 0={st with aC:=[]}) (k4:wr=(List.range ops.size).map aY) (hs:∀(i:Nat) a7,bF[i]? =some a7->my call a7 (S i) (S (i+1)) (aY i))
  (hc:xi (CheckFast.beforeF ops).toList bF wr=true) (hd:(Bp bF cb).all (jx call)=true):IH ops bF call S aY (kV bF) (pV bF):=by
 have hlen:bF.length=ops.size:=by rw[vr _ hm,fC]
 have gX:∀i,(CheckFast.beforeF ops).toList.getD i 0=(CheckFast.beforeF ops).getD i 0:=fun i=>by
  rw[iL,gr,w8]
 have zj:∀i j,pU (CheckFast.beforeF ops).toList i j=true->((CheckFast.beforeF ops).getD (max i j) 0).testBit (min i j)=true:=fun i j this=>by
  rw[IC,gX,gX]at this;split at this
  ·rw[HR (by omega),tX (by omega)];exact this
  ·rw[HP (by omega),qx (by omega)];exact this
 have Vg:∀i,i<ops.size->wr[i]? =some (aY i):=fun i hi=>by rw[k4];simp[hi]
 have bg:=aif bF;have zi:=Vf bF;unfold xi at hc;simp only[cn,eU]at hc;obtain⟨⟨dj,eG⟩,e3⟩:=hc;rw[<-h0]at po;have rM:=Iz bF S aY cb hs po;refine⟨zi,by omega,fun i hi=> ?_,fun i h1 h2 ae j a7 U8 hj ht cK=> ?_,fun j a7 h1 hj ht i h2 ar=> ?_,fun i h1 h2=>aih h1 h2,fun j a7 k hj hk N2 ha ht=> ?_⟩
 ·have:=dj (aY i) (pL.2 ⟨i,by rw[Mi,if_pos hi];exact Vg i (by omega)⟩)
  simpa using this
 ·have:=eG (true,i) (js.2 (by rw[<-ae];exact Vg i h2))
  have hb:Nat.blt i (pV bF)=false:=by
   cases hx:Nat.blt i (pV bF)with
   |false=>rfl
   |true=>have:=ma hx;omega
  simp only[iN,hb,Bool.or_self,tZ,eU]at this;have ar:=this (a7,j) (js.2 hj)
  have sU:Nat.blt j (kV bF)=false:=by
   cases hx:Nat.blt j (kV bF)with
   |false=>rfl
   |true=>have:=ma hx;omega
  simp only[ht,sU,iN,tZ,jN,beq_iff_eq,cK,false_or]at ar;exact zj i j ar
 ·have:=e3 (a7,j) (js.2 hj)
  have hb:Nat.blt j (pV bF)=false:=by
   cases hx:Nat.blt j (pV bF)with
   |false=>rfl
   |true=>have:=ma hx;omega
  simp only[ht,hb,iN,Bool.or_self,tZ,eU]at this;have aR:=zj i j (this i (by rw[List.mem_range'_1];omega));rw[HP (by omega),qx (by omega)]at aR;exact aR
 ·have eQ:(a7,S j,(S k).H)∈Bp bF cb:=by
   unfold Bp;simp only[DI,HJ];refine⟨S k,pL.2 ⟨k-pV bF,?_⟩,(a7,S j),pL.2 ⟨j,?_⟩,by simp[ht]⟩
   ·rw[Mh,<-rM k (by omega)];congr 1;omega
   ·rw[Mi,if_pos hj,Dz]
    exact⟨ha,rM j (by omega)⟩
  exact eU.1 hd _ eQ
theorem aij{id:Nat}{st aV:av}{wr:List Bool}{a:Act}{Q:Exit->Act->World->Prop}{ro:Option Nat}(cw:C.P.follows .mixedOrders=true)(bw:eW C fid)(ba:gL C fid call)
  (hm:dF (C.oper vars N ops) ops.toList=some bF) (jg:Ctx.yS ops=true) (mo:Ctx.yT ops=true) (rW:(ops.toList.zip bF).all (fun(o,a)=>Ctx.xm ops o a)=true)
  (he:cY call bF {st with aC:=[]} []=some (aV,wr)) (hin:(rH (CheckFast.beforeF ops).toList bF wr||o2 call (CheckFast.beforeF ops).toList bF wr {st with aC:=[]})=true) (U:dC C fid vars N G st a w)
  (dD:∀G' a8 w',dC C fid vars N G' aV a8 w'->(∀m,m<=aV.low->Ext G w G' w' m st.H.length)->a8.defers=a.defers->Q .normal a8 w'):
  (Code.region id ops true).wpIn (eH ro) 0 C.P Q a w:=by
 cases lS:xh bF with
 |true=>exact ah4 cw bw ba hm jg mo rW he lS U dD
 |false=>
  unfold rH at hin;rw[lS,Bool.or_false]at hin;unfold o2 at hin;rw[<-Bool.or_assoc,jN]at hin;rcases hin with hin|hin
  ·exact ah3 cw bw ba hm jg mo rW he hin U dD
  ·split at hin
   ·rename_i cb po
    rw[cn]at hin;obtain⟨S,aY,h0,hn,k4,hs⟩:=uo _ _ _ _ _ he;have T:k3 C vars N ops bF call S aY:=.of hm hs;rw[T.len]at hn k4;simp only[List.reverse_nil,iM]at k4;exact aia cw bw ba hm jg mo rW h0 hn T (aii hm po h0 k4 hs hin.1 hin.2) U dD
   ·cases hin
end
end Go.Abs
