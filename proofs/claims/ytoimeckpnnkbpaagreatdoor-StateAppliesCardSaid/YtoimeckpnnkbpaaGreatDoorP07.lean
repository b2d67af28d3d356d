/- Texts of this claim, joined and written short by a program. -/
import Derived.Test.YtoimeckpnnkbpaaGreatDoorP06
import Derived.Test.YtoimeckpnnkbpaaGreatDoorP00
set_option linter.unusedVariables false
set_option linter.unusedSimpArgs false
set_option linter.unusedSectionVars false
namespace Go.Abs
open Go
variable{C:Ctx}{fid:Nat->Nat}{w w':World}{G G':bX}{H H':Heap}
theorem aZ.place (U:aZ C fid G H w){l:Nat}(hn:G.β l=Option.none){o:cc}(hl:H[l]? =some o)(aP:Obj)(tag ff:Nat)
  (ho:jg C fid ⟨ck G.β l ⟨w.heap.size,tag,ff,false⟩,G.I⟩ (w.alloc aP) ⟨w.heap.size,tag,ff,false⟩ o):
  aZ C fid ⟨ck G.β l ⟨w.heap.size,tag,ff,false⟩,G.I⟩ H (w.alloc aP):=by
 have hle:=Ae hn ⟨w.heap.size,tag,ff,false⟩;refine⟨fun x h hb=> ?_,fun x eI h h' e e' q=> ?_,fun x h hb=> ?_,fun b hb=> ?_,fun x h hb ab=> ?_,fun b o bj=>⟨(U.e9 b o bj).1,by rw[alloc_old (U.cX b (U.e9 b o bj).1).1];exact(U.e9 b o bj).2⟩⟩
 ·by_cases hx:x=l
  ·subst hx
   simp only[de]at hb;cases hb;exact⟨o,hl,ho⟩
  ·simp only[dp hx]at hb
   obtain⟨o',e',hr⟩:=U.obj x h hb;exact⟨o',e',hr.mono (G':=⟨ck G.β l _,G.I⟩) hle (fun b hb=>⟨hb,alloc_old (U.cX b hb).1⟩) (alloc_old (U.blk x h hb))⟩
 ·by_cases hx:x=l<;>by_cases dW:eI=l
  ·rw[hx,dW]
  ·subst hx;simp only[de]at e;cases e
   simp only[dp dW]at e';have:=U.blk eI h' e';simp only at q;omega
  ·subst dW;simp only[de]at e';cases e'
   simp only[dp hx]at e;have:=U.blk x h e;simp only at q;omega
  ·simp only[dp hx]at e;simp only[dp dW]at e'
   exact U.inj x eI h h' e e' q
 ·rw[World.size_alloc]
  by_cases hx:x=l
  ·subst hx;simp only[de]at hb;cases hb;simp
  ·simp only[dp hx]at hb;have:=U.blk x h hb;omega
 ·have hi:=U.cX b hb
  refine⟨by rw[World.size_alloc];omega,fun x h e q=> ?_⟩;by_cases hx:x=l
  ·subst hx;simp only[de]at e;cases e;simp only at q;omega
  ·simp only[dp hx]at e;exact hi.2 x h e q
 ·by_cases hx:x=l
  ·subst hx;simp only[de]at hb;cases hb;cases ab
  ·simp only[dp hx]at hb;exact U.ku x h hb ab
theorem Ext.place{l:Nat}(hn:G.β l=Option.none){l':Nat}(aP:Obj)(tag ff m:Nat)(hl:l'<=l):Ext G w ⟨ck G.β l ⟨w.heap.size,tag,ff,false⟩,G.I⟩ (w.alloc aP) m l' where
 size:=by simp
 os:=rfl
 output:=rfl
 dQ b hb _:=alloc_old hb
 homes:=Ae hn _
 nt x h hb:=by
  by_cases hx:x=l
  ·subst hx;simp only[de]at hb;cases hb;exact .inr ⟨hl,aK _⟩
  ·simp only[dp hx]at hb;exact .inl ⟨h,hb,.inl rfl⟩
 cX _ h:=h
 n1 _ h:=.inl h
theorem aZ.longer (U:aZ C fid G H w)(h:∀(l:Nat) (o:cc),H[l]? =some o->H'[l]? =some o):aZ C fid G H' w:=
 ⟨fun l x e=>by
  obtain⟨o,ho,hr⟩:=U.obj l x e;exact⟨o,h l o ho,hr⟩,U.inj,U.blk,U.cX,U.ku,U.e9⟩
theorem SE{vars:List Nat}{pos:String}{op:Op}{es:Nat}{z:List V}{bytes:Nat}{l0 ac:ag}(hc:C.op vars pos op=.mkSlice es z bytes l0 ac):∃t l c,op=.makeSlice t l c/\C.cI vars pos op=some (.mkSlice es z bytes l0 ac):=by
 have cw:C.cI vars pos op=some (.mkSlice es z bytes l0 ac):=by
  unfold Ctx.op at hc;cases h:C.cI vars pos op with
  |none=>rw[h]at hc;cases hc
  |some a=>rw[h]at hc;simp only[sO]at hc;rw[hc]
 cases ho:op with
 |makeSlice t l c=>rw[ho]at cw;exact⟨t,l,c,rfl,cw⟩
 |call c=>
  exfalso;rw[ho]at cw;obtain⟨callee,args,dK⟩:=c;cases callee with
  |value f=>
   simp only[Ctx.cI]at cw;split at cw<;>simp at cw
  |builtin b=>
   simp only[Ctx.cI]at cw;unfold Ctx.builtin at cw
   repeat' split at cw
   all_goals first
    |(cases cw;done)
    |(simp only[az,reduceCtorEq]at cw;done)
    |(obtain⟨_,_,h⟩:=ct.1 cw;cases h;done)
  |invoke r n=>simp[Ctx.cI]at cw
 |binOp a b c d e=>
  exfalso;rw[ho]at cw;simp only[Ctx.cI,Ctx.xO]at cw
  repeat' split at cw
  all_goals first
   |(cases cw;done)
   |(obtain⟨_,_,h⟩:=ct.1 cw;cases h;done)
 |makeFunc g a b=>
  exfalso;rw[ho]at cw;cases g with
  |func f=>
   simp only[Ctx.cI]at cw;split at cw<;>simp at cw
  | _=>simp[Ctx.cI]at cw
 |makeMap t r=>
  exfalso;rw[ho]at cw;cases r<;>simp[Ctx.cI]at cw
 | _=>
   exfalso;rw[ho]at cw;simp only[Ctx.cI]at cw
   repeat' split at cw
   all_goals first
    |(cases cw;done)
    |(obtain⟨_,_,h⟩:=ct.1 cw;cases h;done)
theorem run_mk{vars:List Nat}{ae:ag->V}{ρ:Operand->Value}{o:Oper}{pos:String}{es:Nat}{z:List V}{bytes:Nat}{l0 ac:ag}(aL:fh C fid vars G w ae ρ)(c4:C.op vars pos o.op=.mkSlice es z bytes l0 ac)
  {n m:Int} {k bp:IntKind} (af:ae l0=.int k n) (e2:ae ac=.int bp m) (hb:n=m/\0<=n/\n*(bytes+1)<=2^40):
  0<es/\∃e cells,(execOp ρ o).run C.P w=.ok (.value (.slice (some ⟨w.heap.size,0,none⟩) n.toNat n.toNat)) (w.alloc (.cells cells e))/\cells.size=n.toNat*es/\
   (∀d∈List.replicate n.toNat (kT z),(aE d).length=es)/\∀G' w',aY fid G' w' ((List.replicate n.toNat (kT z)).flatMap aE) cells.toList:=by
 obtain⟨t,l,c,ho,hc⟩:=SE c4;rw[ho]at hc;simp only[Ctx.cI]at hc;split at hc
 ·rename_i e hd
  split at hc
  ·rename_i i SF asN asO hi aT h1 h2
   split at hc
   ·cases hc
   ·rename_i ep
    simp only[not_or,ne_eq,Classical.not_not]at ep;simp only[az,cH.mkSlice.injEq]at hc;obtain⟨rfl,rfl,rfl,rfl,rfl⟩:=hc;obtain⟨cE,ny,n9,bx,-⟩:=CI (fid:=fid) aT;have x5:cE.cells.size=i.size:=by rw[<-hB,(n9 G w).length,ep.2]
    have hl:=aL l _ h1;have uy:=aL c _ h2;obtain⟨rfl,nx,hbound⟩:=hb;rw[af]at hl;rw[e2]at uy;obtain⟨j,rfl⟩:=Kg nx
    have oV:j<=1099511627776:=by
     have:(j:Int)*1<=(j:Int)*((i.bytes:Int)+1):=Int.mul_le_mul_of_nonneg_left (by omega) nx;omega
    have rN:(i.bytes:Int)*(j:Int)<=1099511627776:=by
     have:(j:Int)*((i.bytes:Int)+1)=(i.bytes:Int)*(j:Int)+j:=by rw[Int.mul_add,Int.mul_comm];omega
     omega
    have hw:=R8 nx (by omega:(j:Int)<=1099511627776);have lV:0<i.size:=QN ep.1
    have cr:∃cells,(execOp ρ o).run C.P w=.ok (.value (.slice (some ⟨w.heap.size,0,none⟩) j j)) (w.alloc (.cells cells e))/\cells.toList=(List.range (j*i.size)).map (fun q=>cE.cells[q%cE.cells.size]!):=by
     refine⟨(Array.range (j*i.size)).map (fun q=>(if j*i.size=0 then #[]else cE.cells:Array Value)[q%(if j*i.size=0 then #[]else cE.cells:Array Value).size]!),?_,?_⟩
     ·unfold execOp;rw[ho]
      have pG:¬((decide ((j:Int)<0)||decide ((i.bytes:Int)*(j:Int)>2^48))=true):=by simp;omega
      have n3:¬((decide ((j:Int)<0)||decide ((i.bytes:Int)*(j:Int)>2^48)||decide ((j:Int)<0)||decide ((j:Int)>(j:Int)))=true):=by simp;omega
      simp only[hl.jE,uy.jE,Instr.makeSlice,asInt,asIntOf,Sem.run_bind,Sem.run_pure,Result.andThen_ok,run_underlying hd,run_typeInfo (P:=C.P) w hi,hw];rw[if_neg (by simpa using n3)];simp only[Sem.run_bind,run_askRoom,Result.andThen_ok,sizeOf,run_typeInfo (P:=C.P) w hi,Sem.run_pure,FL];by_cases h0:j*i.size=0
      ·simp only[h0,if_true,Sem.run_bind,Sem.run_pure,Result.andThen_ok,newRow,run_newObj,World.alloc_eq]
      ·simp only[h0,if_false,Sem.run_bind,Sem.run_pure,Result.andThen_ok,ny,newRow,run_newObj,World.alloc_eq]
     ·by_cases h0:j*i.size=0
      ·simp[h0]
      ·simp[h0]
    obtain⟨cells,cr,hG⟩:=cr;have hu:=Ll bx (n:=j) ep.2;rw[x5]at hG
    have pH:∀G' w',aY fid G' w' ((List.replicate j (kT SF)).flatMap aE) cells.toList:=fun G' w'=>by
     have:=Gl (n9 G' w') bx (by omega) j;rw[x5,<-hG]at this;exact this
    refine⟨lV,e,cells,cr,?_,hu,pH⟩;rw[<-hB,(pH G w).length,nv hu,xE];rfl
  ·cases hc
 ·cases hc
section
variable{vars:List Nat}{N:Nat}{ops:Array Oper}{bz:List bO}{call:cU}{S:Nat->aq}{aR:Nat->Bool}
theorem SG{ae:ag->V}{low bI:Nat}{es:Nat}{z:List V}{bytes:Nat}{l0 ac:ag}{v:V}{H1:Heap}(h:b2 call ae H low (.mkSlice es z bytes l0 ac)=some (v,H1,bI)):
  ∃k bp n m,ae l0=.int k n/\ae ac=.int bp m/\(n=m/\0<=n/\n*(bytes+1)<=2^40)/\
   ((n=0/\v=.emp/\H1=H/\bI=low)\/(n≠0/\v=.cz H.length es 0 n.toNat n.toNat/\H1=H++[.row es (List.replicate n.toNat (kT z)) false]/\bI=low)):=by
 have h':step ae H low (.mkSlice es z bytes l0 ac)=some (v,H1,bI):=h;simp only[step]at h';split at h'
 ·rename_i k n bp m af e2
  split at h'
  ·rename_i hb
   refine⟨k,bp,n,m,af,e2,hb,?_⟩;split at h'
   ·rename_i h0
    cases h';exact .inl ⟨h0,rfl,rfl,rfl⟩
   ·rename_i h0
    cases h';exact .inr ⟨h0,rfl,rfl,rfl⟩
  ·cases h'
 ·cases h'
theorem SH (h:wj bz=true){i:Nat}{aV:bO}(hi:bz[i]? =some aV)(ht:fw aV.op=true):aV.guard=none/\∃es z bytes l0 ac,aV.op=.mkSlice es z bytes l0 ac:=by
 unfold wj at h;have h1:=eV.1 h aV (hz hi);rw[ht]at h1;simp only[hZ,qv]at h1;split at h1
 ·rename_i af e2;exact⟨e2,_,_,_,_,_,af⟩
 ·cases h1
theorem LQ (T:kD C vars N ops bz call S aR)(hc:l3 call)(lq:wj bz=true){i:Nat}(hi:i<ops.size):
  (aR i=false/\(S (i+1)).H=(S i).H)\/(aR i=true/\∃o,(S (i+1)).H=(S i).H++[o]):=by
 obtain⟨o,aV,-,fK,-,cd⟩:=T.get hi;cases ab:aR i with
 |false=>exact .inl ⟨rfl,cd.still hc ab⟩
 |true=>
  right;refine⟨rfl,?_⟩;obtain⟨-,es,z,bytes,l0,ac,c4⟩:=SH lq fK (cd.fw ab);rcases cd with⟨-,v,H1,bI,h1,e,h2⟩|⟨-,-,h2⟩
  ·rw[c4]at h1
   obtain⟨k,bp,n,m,-,-,-,hr⟩:=SG h1;have e5:(S (i+1)).H=H1:=by rw[e,(j5 _ _ _).1]
   rcases hr with⟨-,-,rfl,rfl⟩|⟨-,-,rfl,-⟩
   ·rw[ab]at h2
    simp[eG]at h2
   ·exact⟨_,e5⟩
  ·rw[h2]at ab;cases ab
theorem LR (T:kD C vars N ops bz call S aR)(hc:l3 call)(lq:wj bz=true){i:Nat}:∀{k:Nat},i+k<=ops.size->∀(l:Nat) (o:cc),(S i).H[l]? =some o->(S (i+k)).H[l]? =some o
 |0,_,l,o,h=>h
 |k+1,cW,l,o,h=>by
  have ih:=LR T hc lq (k:=k) (by omega) l o h;rcases LQ T hc lq (i:=i+k) (by omega)with⟨-,e⟩|⟨-,o',e⟩
  ·rw[show i+(k+1)=i+k+1 from rfl,e];exact ih
  ·rw[show i+(k+1)=i+k+1 from rfl,e,gE ?_]
   ·exact ih
   ·rcases fX l (S (i+k)).H.length with q|q
    ·exact q
    ·rw[lb q]at ih;cases ih
theorem SI (T:kD C vars N ops bz call S aR)(hc:l3 call)(lq:wj bz=true){i j:Nat}(cK:i<j)(hj:j<ops.size)(ab:aR i=true):(S i).H.length<(S j).H.length:=by
 have h1:=(T.na hc (i:=i+1) (j:=j) cK (by omega)).1.len;rcases LQ T hc lq (i:=i) (by omega)with⟨e,-⟩|⟨-,o,e⟩
 ·rw[e]at ab;cases ab
 ·rw[e]at h1;simp at h1;omega
structure CY (C:Ctx) (fid:Nat->Nat) (vars:List Nat) (N:Nat) (ops:Array Oper) (S:Nat->aq) (aR:Nat->Bool) (G:bX) (w:World) (a:Act) (ob:Nat)
  (L:Array Bool) (ay:bX) (ai:Act) (aH:World):Prop where
 size:L.size=ops.size
 closed:∀x,L.getD x false=true->∀i,((CheckFast.beforeF ops).getD x 0).testBit i=true->L.getD i false=true
 rel:aZ C fid ay (S ops.size).H aH
 free:∀i,i<ops.size->aR i=true->L.getD i false=false->ay.β (S i).H.length=Option.none
 env:∀t m,m<=ops.size->(∀(i:Nat) o,ops[i]? =some o->o.dst=some t->(L.getD i false=true↔i<m))->a8 fid ay aH (dC vars (S m) t) (ai.tmps.getD t undef)
 o0:ai.tmps.size=N
 defers:ai.defers=a.defers
 ext:∀m,m<=(S ops.size).low->Ext G w ay aH m ob
theorem SJ{j:Nat}{o:Oper}{a:Act}{K:Act->World->Prop}{Q:Exit->Act->World->Prop}{ro:Option Nat}{aH:World}(ho:ops[j]? =some o)(bj:o.guard=none)(hnd:∀c,o.op≠ .defer c){x:Value}
  (cr:(execOp a.eval o).run C.P w=.ok (.value x) aH) (kC:K (a.put o.dst x) aH):wpOpIn (en ro) 0 C.P ops Q j K a w:=by
 unfold wpOpIn;rw[ho];have hw:Region.wanted o (yielded ops a.tmps)=true:=by unfold Region.wanted;rw[bj]
 simp only[hw,if_true];refine⟨fun _ _=>trivial,?_⟩;rw[Oper.semAt_eq _ _ _ hnd,cr];exact kC
theorem adO{id:Nat}{st aF:aq}{wr:List Bool}{a:Act}{Q:Exit->Act->World->Prop}{ro:Option Nat}(cD:C.P.follows .mixedOrders=true)(bu:eZ C fid)(a6:gH C fid call)
  (hm:dH (C.oper vars N ops) ops.toList=some bz) (jG:Ctx.xP ops=true) (lZ:Ctx.xQ ops=true) (qL:(ops.toList.zip bz).all (fun(o,a)=>Ctx.wo ops o a)=true)
  (he:cQ call bz {st with aG:=[]} []=some (aF,wr)) (lq:wj bz=true) (U:dy C fid vars N G st a w)
  (dz:∀G' a7 w',dy C fid vars N G' aF a7 w'->(∀m,m<=aF.low->Ext G w G' w' m st.H.length)->a7.defers=a.defers->Q .normal a7 w'):
  (Code.region id ops true).wpIn (en ro) 0 C.P Q a w:=by
 obtain⟨S,aR,h0,hn,-,hs⟩:=uN _ _ _ _ _ he;have T:kD C vars N ops bz call S aR:=.of hm hs;rw[T.len]at hn;have od:st.H=(S 0).H/\st.low=(S 0).low:=by rw[h0];exact⟨rfl,rfl⟩
 have CS:st.low<=st.H.length:=U.low
 have pJ:∀k,k<=ops.size->st.H.length<=(S k).H.length:=fun k cW=>by
  have:=(T.na a6.bM (i:=0) (j:=k) (cx _) cW).1.len;rw[<-od.1]at this;exact this
 have oe:∀L ay ai aH,CY C fid vars N ops S aR G w a st.H.length L ay ai aH->(∀i,i<ops.size->L.getD i false=true)->Q .normal ai aH:=by
  intro L ay ai aH I eA;refine dz ay ai aH ?_ (fun m hm=>I.ext m (by rw[hn];exact hm)) I.defers;rw[<-hn];refine⟨I.rel,fun t=>I.env t ops.size (aK _) fun i o ho _=> ?_,I.o0,?_⟩
  ·have:i<ops.size:=(sI.1 ho).1
   simp[this,eA i this]
  ·exact(T.na a6.bM (cx _) (aK _)).bound (by rw[<-od.1,<-od.2];exact CS)
 have CT:∀L ay ai aH,CY C fid vars N ops S aR G w a st.H.length L ay ai aH->Region.ready .any ops L=[]->∀i,i<ops.size->L.getD i false=true:=by
  intro L ay ai aH I hr i
  induction i using Nat.strongRecOn with
  | _ i ih=>
    intro hi;cases df:L.getD i false with
    |true=>rfl
    |false=>
     exfalso
     have:i∈Region.ready .any ops L:=mem_ready.2 ⟨by
      have:i<L.size:=by rw[I.size];exact hi
      simp only[Array.getD,this,dif_pos]at df⊢; exact df,ops[i],by simp[hi],fun e he hb=>by
       have aX:=LL jG (j:=i) (o:=ops[i]) (by simp[hi]) he hb;exact ih e.on aX (by omega)⟩
     rw[hr]at this;cases this
 have sW:∀(fuel:Nat) (L:Array Bool) (ay:bX) (ai:Act) (aH:World) (j:Nat),CY C fid vars N ops S aR G w a st.H.length L ay ai aH->j∈Region.ready .any ops L->
   (∀gZ G' a7 w',CY C fid vars N ops S aR G w a st.H.length gZ G' a7 w'->gZ=L.setIfInBounds j true->wpAnyIn (en ro) 0 C.P .any ops Q fuel gZ a7 w')->
   wpOpIn (en ro) 0 C.P ops Q j (wpAnyIn (en ro) 0 C.P .any ops Q fuel (L.setIfInBounds j true)) ai aH:=by
  intro fuel L ay ai aH j I hj wI;obtain⟨wJ,o,ho,CU⟩:=mem_ready.1 hj;have iq:j<ops.size:=(sI.1 ho).1;have lp:j<L.size:=by rw[I.size];exact iq
  have n2:L.getD j false=false:=by simp only[Array.getD,lp,dif_pos]at wJ⊢; exact wJ
  obtain⟨o',aV,kx,fK,bx,cd⟩:=T.get iq;rw[ho]at kx;cases kx
  have wK:∀i,((CheckFast.beforeF ops).getD j 0).testBit i=true->L.getD i false=true:=fun i hb=>by
   obtain⟨e,lY,mX,o1⟩:=LJ ho hb;have hl:=CU e lY mX;rcases o1 with rfl|o1
   ·exact hl
   ·exact I.closed e.on hl i o1
  have mH:∀i,i≠j->((CheckFast.beforeF ops).getD (max i j) 0).testBit (min i j)=true->(L.getD i false=true↔i<j):=by
   intro i cK hb;rcases fX i j with aX|hge
   ·rw[FO (by omega),lP (by omega)]at hb
    exact⟨fun _=>aX,fun _=>wK i hb⟩
   ·rw[FQ hge,uc hge]at hb
    refine⟨fun df=> ?_,fun h=>by omega⟩;have:=I.closed i df j hb;rw[n2]at this;cases this
  have wL:∀t,(o.dst=some t\/t∈Ctx.fq ops o)->∀(i:Nat) p,ops[i]? =some p->p.dst=some t->i≠j->(L.getD i false=true↔i<j):=fun t ht i p hp hd cK=>
   mH i cK (LK lZ ho hp hd cK ht)
  have er:=cd.bM a6.bM
  have AH:∀x∈aV.op.operands,GC (fun t=>t∈Ctx.fq ops o) x:=by
   intro x hx;have h1:(o,aV)∈ops.toList.zip bz:=ns.2 ⟨j,by rw[xD];exact⟨by rw[auF];exact ho,fK⟩⟩;have h2:=eV.1 qL _ h1;simp only[Ctx.wo,eV]at h2;have ar:=h2 x hx;cases x with
   |tmp t=>exact ua.1 ar
   |var t=>exact ua.1 ar
   |const v=>trivial
   |func i=>trivial
  have GG:∀t,t∈Ctx.fq ops o->a8 fid ay aH (dC vars (S j) t) (ai.tmps.getD t undef):=fun t ht=>by
   refine I.env t j (by omega) fun i p hp hd=> ?_;by_cases cK:i=j
   ·subst cK;simp[n2]
   ·exact wL t (.inr ht) i p hp hd cK
  have kE:∀i,(L.setIfInBounds j true).getD i false=true↔i=j\/L.getD i false=true:=fun i=>uR lp
  have yk:∀(x:Value) (bG:World) (bl:bX),aZ C fid bl (S ops.size).H bG->(∀m,m<=(S (j+1)).low->Ext ay aH bl bG m st.H.length)->(∀t,o.dst=some t->a8 fid bl bG (dC vars (S (j+1)) t) x)->
    (∀i,i<ops.size->aR i=true->i≠j->L.getD i false=false->bl.β (S i).H.length=Option.none)->wpAnyIn (en ro) 0 C.P .any ops Q fuel (L.setIfInBounds j true) (ai.put o.dst x) bG:=by
   intro x bG bl p1 p2 p3 j6;have nB:=p2 0 (cx _);refine wI _ bl _ bG ⟨by simp[I.size],fun x hx i hb=> ?_,p1,fun i hi ab pK=> ?_,fun t m hm ep=> ?_,by rw[wG];exact I.o0,by rw[put_defers];exact I.defers,fun m hm=> ?_⟩ rfl
   ·rw[kE]at hx⊢
    rcases hx with rfl|hx
    ·exact .inr (wK i hb)
    ·exact .inr (I.closed x hx i hb)
   ·have bf:i≠j:=fun e=>by
     have:=(kE i).2 (.inl e);rw[this]at pK;cases pK
    refine j6 i hi ab bf ?_;cases ad:L.getD i false with
    |false=>rfl
    |true=>
     have:=(kE i).2 (.inr ad);rw[this]at pK;cases pK
   ·refine yg (fun d hd=>by rw[I.o0];exact bx.lt d hd) (fun h=> ?_) (fun h=> ?_)
    ·have CX:j<m:=(ep j o ho h).1 ((kE j).2 (.inl rfl))
     have e:dC vars (S m) t=dC vars (S (j+1)) t:=by
      obtain⟨d,rfl⟩:=mR (show j+1<=m from CX);refine T.slot (by omega) fun x p h1 h2 hp hd=> ?_;have rU:x≠j:=by omega
      have ai:=(kE x).1 ((ep x p hp hd).2 h2);have a2:=(wL t (.inl h) x p hp hd rU).1 (ai.resolve_left rU);omega
     rw[e];exact p3 t h
    ·refine(I.env t m hm fun i p hp hd=> ?_).ext I.rel nB
     have cK:i≠j:=fun e=>by subst e;rw[ho]at hp;cases hp;exact h hd
     rw[<-ep i p hp hd,kE];simp[cK]
   ·have af:=(T.na a6.bM (i:=j+1) (j:=ops.size) iq (aK _)).1.low
    exact(I.ext m hm).trans (p2 m (by omega))
  by_cases ht:fw aV.op=true
  ·
   obtain⟨GH,es,z,bytes,l0,ac,c4⟩:=SH lq fK ht;rcases cd with⟨hw,v,H1,bI,h1,aC,kA⟩|⟨hw,-,-⟩
   case inr=>rw[GH]at hw;simp[e3]at hw
   have yd:o.guard=none:=by
    have:=bx.guard;rw[GH]at this;cases bj:o.guard with
    |none=>rfl
    |some p=>
     obtain⟨q,b⟩:=p;rw[bj]at this;simp only[Ctx.guard]at this;split at this<;>simp at this
   have GI:C.op vars o.pos o.op=.mkSlice es z bytes l0 ac:=by rw[<-bx.op];exact c4
   obtain⟨eY,l',c',eE,-⟩:=SE GI;let gP:ag->V:=fun cv=>open Classical in if cv∈aV.op.operands then ag.ae (S j).aG (S j).av cv else .undef
   have aL:fh C fid vars ay aH gP ai.eval:=fun x cv hx=>by
    by_cases hin:cv∈aV.op.operands
    ·have uP:=AH cv hin
     simp only[gP,hin,if_true];cases x with
     |tmp t=>
      simp only[Ctx.b3,az]at hx;have LH:t∈Ctx.fq ops o:=by rw[<-hx]at uP;split at uP<;>exact uP
      have:=GG t LH;have e:cv.ae (S j).aG (S j).av=dC vars (S j) t:=by rw[<-hx];unfold dC;split<;>rfl
      rw[e];exact this
     |const u=>
      simp only[Ctx.b3]at hx;obtain⟨Sw,kU,rfl⟩:=ct.1 hx;rcases Cw (I:=ay.I) (w:=aH) u kU with rfl|hp
      ·exact .undef _
      ·exact .p _ _ hp
     |func f=>exact KW bu hx
     |global g=>simp[Ctx.b3]at hx
    ·simp only[gP,hin,if_false];exact .undef _
   rw[c4]at h1;obtain⟨k,bp,n,m,af,e2,hb,s9⟩:=SG h1
   have GJ:gP l0=.int k n:=by
    have:l0∈aV.op.operands:=by rw[c4];simp[cH.operands]
    simp only[gP,this,if_true];exact af
   have adP:gP ac=.int bp m:=by
    have:ac∈aV.op.operands:=by rw[c4];simp[cH.operands]
    simp only[gP,this,if_true];exact e2
   obtain⟨lV,e,cells,cr,qB,hu,pH⟩:=run_mk (w:=aH) aL GI GJ adP hb;refine SJ ho yd (by rw[eE];simp) cr ?_;have fL:=j5 {S j with H:=H1,low:=min (S j).low bI} aV.dst v
   have l6:∀t,o.dst=some t->dC vars (S (j+1)) t=v:=fun t ht=>by
    rw[aC];rcases bx.dst with⟨h2,-⟩|⟨d,-,h2,ar⟩
    ·rw[h2]at ht;cases ht
    ·rw[h2]at ht;cases ht
     rw[ar,CR,if_pos rfl]
   rcases s9 with⟨nx,rfl,rfl,-⟩|⟨nx,rfl,SK,-⟩
   ·subst nx
    have cW:∀b,b<aH.heap.size->(aH.alloc (.cells cells e)).heap[b]? =aH.heap[b]? :=fun b hb=>alloc_old hb;refine yk _ _ ay (I.rel.restore (by simp) cW) (fun m _=>.restore (by simp) cW rfl rfl m _) (fun t ht=> ?_) fun i hi ab _ df=>I.free i hi ab df;rw[l6 t ht];exact .p _ _ (.emp _)
   ·have hH:aR j=true:=by rw[kA,SK];simp[eG]
    have rV:=I.free j iq hH n2
    have adQ:(S ops.size).H[(S j).H.length]? =some (.row es (List.replicate n.toNat (kT z)) false):=by
     obtain⟨d,hd⟩:=mR (show j+1<=ops.size from iq);rw[hd];refine LR T a6.bM lq (by omega) _ _ ?_;rw[aC,fL.1,SK];simp
    have adR:0<n.toNat:=by omega
    have LS:=I.rel.place rV adQ (.cells cells e) n.toNat cells.size ⟨by simp,by simpa using adR,rfl,lV,hu,cells,e,cells.toList,[],oQ _ _,rfl,by simp,pH _ _⟩;refine yk _ _ _ LS (fun m _=>.place rV _ _ _ m (pJ j (by omega))) (fun t ht=> ?_) fun i hi ab cK df=> ?_
    ·rw[l6 t ht]
     refine .cz _ _ 0 n.toNat n.toNat ⟨aH.heap.size,n.toNat,cells.size,false⟩ _ _ _ (de _ _ _) (aK _) (fun _=>⟨by simp,rfl,?_,aK _⟩);rw[qB,eO];exact aK _
    ·have bf:(S i).H.length≠(S j).H.length:=by
      rcases fX i j with q|q
      ·have:=SI T a6.bM lq q iq ab;omega
      ·have:=SI T a6.bM lq (show j<i by omega) hi hH;omega
     show ck ay.β (S j).H.length _ (S i).H.length=_;rw[dp bf];exact I.free i hi ab df
  ·have eC:fw aV.op=false:=by simpa using ht
   have hH:aR j=false:=by
    cases ab:aR j with
    |false=>rfl
    |true=>have:=cd.fw ab;rw[eC]at this;cases this
   refine ye (T:=fun t=>t∈Ctx.fq ops o) (Hc:=(S ops.size).H) bu a6 ho bx cd I.rel (fun q=>absurd q ht) ?_ GG AH (fun q want d bj hd=> ?_) I.o0 ?_
   ·have af:=(T.na a6.bM (i:=0) (j:=j) (cx _) (by omega)).1.low
    have e2:=pJ ops.size (aK _);rw[<-od.2]at af;omega
   ·simp only[Ctx.fq,jA]
    right;rw[bj];simp only[];rw[hd];simp
   ·intro x bG bl p1 p2 p3
    rw[hH]at p1;refine yk x bG bl p1 (fun m hm=>(p2 m hm).le (aK _) (pJ ops.size (aK _))) p3 fun i hi ab cK df=> ?_;have rV:=I.free i hi ab df;cases hb:bl.β (S i).H.length with
    |none=>rfl
    |some h'=>
     exfalso;rcases(p2 0 (cx _)).nt _ _ hb with⟨h,fj,-⟩|⟨hge,-⟩
     ·rw[rV]at fj;cases fj
     ·obtain⟨d,hd⟩:=mR (show i+1<=ops.size from hi)
      have h2:=(T.na a6.bM (i:=i+1) (j:=ops.size) hi (aK _)).1.len;rcases LQ T a6.bM lq hi with⟨q,-⟩|⟨-,o',q⟩
      ·rw[ab]at q;cases q
      ·rw[q]at h2;simp at h2;omega
 have key:∀(fuel:Nat) (L:Array Bool) (ay:bX) (ai:Act) (aH:World),CY C fid vars N ops S aR G w a st.H.length L ay ai aH->(List.range ops.size).countP (fun i=>!L.getD i false)<=fuel->
   wpAnyIn (en ro) 0 C.P .any ops Q fuel L ai aH:=by
  intro fuel
  induction fuel with
  |zero=>
   intro L ay ai aH I hc
   have eA:∀i,i<ops.size->L.getD i false=true:=fun i hi=>by
    have h1:=List.countP_eq_zero.1 (Nat.le_zero.1 hc) i (by simpa using hi);simpa using h1
   refine⟨?_,oe _ _ _ _ I eA⟩;cases hr:Region.ready .any ops L with
   |nil=>rfl
   |cons i r=>
    obtain⟨h1,o,ho,-⟩:=mem_ready.1 (show i∈Region.ready .any ops L by rw[hr];simp);have hi:i<ops.size:=(sI.1 ho).1;have h2:=eA i hi;have:i<L.size:=by rw[I.size];exact hi
    simp only[Array.getD,this,dif_pos]at h1 h2;rw[h1]at h2;cases h2
  |succ fuel ih=>
   intro L ay ai aH I hc;refine⟨fun hr=>oe _ _ _ _ I (CT _ _ _ _ I hr),fun j hj=>sW fuel L ay ai aH j I hj fun gZ G' a7 w' qA e=>ih gZ G' a7 w' qA ?_⟩;subst e;obtain⟨h1,o,ho,-⟩:=mem_ready.1 hj;have iq:j<ops.size:=(sI.1 ho).1;have lp:j<L.size:=by rw[I.size];exact iq
   have aX:(List.range ops.size).countP (fun i=>!(L.setIfInBounds j true).getD i false)<(List.range ops.size).countP (fun i=>!L.getD i false):=by
    refine LM (a:=j) (fun x _ hx=> ?_) (by simpa using iq) ?_ ?_
    ·cases ad:L.getD x false with
     |false=>rfl
     |true=>
      have:=(uR (i:=x) lp).2 (.inr ad);rw[this]at hx;cases hx
    ·simp only[Array.getD,lp,dif_pos]at h1⊢; rw[h1];rfl
    ·have:=(uR (i:=j) lp).2 (.inl rfl)
     rw[this];rfl
   omega
 refine wpIn_region_any cD ?_;have hw:({w with drawn:=w.drawn+1}:World).heap=w.heap:=rfl;have iQ:=(U.clear).lU hw;rw[<-h0]at iQ
 have jh:∀i,(Array.replicate ops.size false).getD i false=false:=fun i=>by
  by_cases h:i<ops.size
  ·simp[h]
  ·simp[h]
 refine key ops.size (Array.replicate ops.size false) G a {w with drawn:=w.drawn+1} ⟨by simp,fun x hx=>absurd hx (by rw[jh];simp),iQ.rel.longer fun l o hl=> ?_,fun i hi ab _=> ?_,fun t m hm ep=> ?_,iQ.size,rfl,fun m _=>Ext.lU hw rfl rfl m _⟩ ?_
 ·have:=LR T a6.bM lq (i:=0) (k:=ops.size) (by omega) l o hl
  rw[eO]at this;exact this
 ·exact U.rel.none (pJ i (by omega))
 ·have e:dC vars (S m) t=dC vars (S 0) t:=by
   have:=T.slot (t:=t) (i:=0) (k:=m) (by omega) fun x p h1 h2 hp hd=>by
    have:=(ep x p hp hd).2 (by omega);rw[jh]at this;cases this
   rw[eO]at this;exact this
  rw[e];exact iQ.env t
 ·refine cV List.countP_le_length (by simp)
end
end Go.Abs
namespace Go.Abs
open Go
variable{C:Ctx}{fid:Nat->Nat}{w w':World}{G G':bX}{H H':Heap}
theorem adS{vars:List Nat}{pos:String}{op:Op}{z:List V}(hc:C.op vars pos op=.alloc z):∃t z0,op=.alloc t/\C.zeroCells t=some z0/\z=C.mark t z0:=by
 have cw:C.cI vars pos op=some (.alloc z):=by
  unfold Ctx.op at hc;cases h:C.cI vars pos op with
  |none=>rw[h]at hc;cases hc
  |some a=>rw[h]at hc;simp only[sO]at hc;rw[hc]
 cases ho:op with
 |alloc t=>
  rw[ho]at cw;simp only[Ctx.cI]at cw;obtain⟨SF,h1,h2⟩:=ct.1 cw;cases h2;exact⟨t,SF,rfl,h1,rfl⟩
 |call c=>
  exfalso;rw[ho]at cw;obtain⟨callee,args,dK⟩:=c;cases callee with
  |value f=>
   simp only[Ctx.cI]at cw;split at cw<;>simp at cw
  |builtin b=>
   simp only[Ctx.cI]at cw;unfold Ctx.builtin at cw
   repeat' split at cw
   all_goals first
    |(cases cw;done)
    |(simp only[az,reduceCtorEq]at cw;done)
    |(obtain⟨_,_,h⟩:=ct.1 cw;cases h;done)
  |invoke r n=>simp[Ctx.cI]at cw
 |binOp a b c d e=>
  exfalso;rw[ho]at cw;simp only[Ctx.cI,Ctx.xO]at cw
  repeat' split at cw
  all_goals first
   |(cases cw;done)
   |(obtain⟨_,_,h⟩:=ct.1 cw;cases h;done)
 |makeFunc g a b=>
  exfalso;rw[ho]at cw;cases g with
  |func f=>
   simp only[Ctx.cI]at cw;split at cw<;>simp at cw
  | _=>simp[Ctx.cI]at cw
 |makeMap t r=>
  exfalso;rw[ho]at cw;cases r<;>simp[Ctx.cI]at cw
 | _=>
   exfalso;rw[ho]at cw;simp only[Ctx.cI]at cw
   repeat' split at cw
   all_goals first
    |(cases cw;done)
    |(obtain⟨_,_,h⟩:=ct.1 cw;cases h;done)
theorem adT{vars:List Nat}{ρ:Operand->Value}{o:Oper}{pos:String}{z:List V}(c4:C.op vars pos o.op=.alloc z):
  ∃t cells,o.op=.alloc t/\(execOp ρ o).run C.P w=.ok (.value (.pointer (some ⟨w.heap.size,0,none⟩))) (w.alloc (.cells cells t))/\(∀G' w',aY fid G' w' z cells.toList)/\∀(w':World) b,w'.heap[b]? =some (.cells cells t (0,0))->Is C w' b z:=by
 obtain⟨t,z0,ho,aT,rfl⟩:=adS c4;obtain⟨cE,ny,n9,bx,i,hi,-⟩:=CI (fid:=fid) aT;refine⟨t,cE.cells,ho,?_,fun G' w'=>U6 (n9 G' w'),fun w' b hb=>U7 (G:=⟨fun _=>none,fun _=>False⟩) (fid:=fid) (w:=w) bx (n9 _ _) hb⟩;unfold execOp;rw[ho];simp only[Instr.alloc,Sem.run_bind,ny,Result.andThen_ok,Sem.run_pure,newVar,newRow,run_newObj,World.alloc_eq]
section
variable{vars:List Nat}{N:Nat}{ops:Array Oper}{bz:List bO}{call:cU}{S:Nat->aq}{aR:Nat->Bool}
structure GK (ops:Array Oper) (bz:List bO) (call:cU) (S:Nat->aq) (aR:Nat->Bool) (p q:Nat):Prop where
 adU:p<=q
 SL:q<=ops.size
 still:∀i,i<p->aR i=false
 writer:∀i,q<=i->i<ops.size->aR i=true->∀(j:Nat) aV,p<=j->bz[j]? =some aV->fw aV.op=true->i≠j->((CheckFast.beforeF ops).getD (max i j) 0).testBit (min i j)=true
 behind:∀(j:Nat) aV,q<=j->bz[j]? =some aV->fw aV.op=true->∀i,p<=i->i<q->((CheckFast.beforeF ops).getD j 0).testBit i=true
 alloc:∀i,p<=i->i<q->∃aV z,bz[i]? =some aV/\aV.op=.alloc z/\aV.guard=none
 jX:∀(j:Nat) aV k,j<p->q<=k->k<=ops.size->bz[j]? =some aV->fw aV.op=true->jX call (aV,S j,(S k).H)=true
structure CZ (C:Ctx) (fid:Nat->Nat) (vars:List Nat) (N:Nat) (ops:Array Oper) (S:Nat->aq) (aR:Nat->Bool) (p q:Nat) (G:bX) (w:World) (a:Act) (ob:Nat)
  (L:Array Bool) (k:Nat) (ay:bX) (ai:Act) (aH:World):Prop where
 size:L.size=ops.size
 closed:∀x,L.getD x false=true->∀i,((CheckFast.beforeF ops).getD x 0).testBit i=true->L.getD i false=true
 SM:q<=k
 uQ:k<=ops.size
 qM:∀i,q<=i->i<ops.size->aR i=true->(L.getD i false=true↔i<k)
 rel:aZ C fid ay (S k).H aH
 free:∀i,p<=i->i<q->L.getD i false=false->ay.β (S i).H.length=Option.none
 env:∀t m,m<=ops.size->(∀(i:Nat) o,ops[i]? =some o->o.dst=some t->(L.getD i false=true↔i<m))->a8 fid ay aH (dC vars (S m) t) (ai.tmps.getD t undef)
 o0:ai.tmps.size=N
 defers:ai.defers=a.defers
 ext:∀m,m<=(S ops.size).low->Ext G w ay aH m ob
theorem GL (T:kD C vars N ops bz call S aR){p q:Nat}(hl:GK ops bz call S aR p q){i:Nat}(h1:p<=i)(h2:i<q):
  aR i=true/\∃z,(S (i+1)).H=(S i).H++[.cells z]/\∃aV,bz[i]? =some aV/\aV.op=.alloc z/\aV.guard=none/\S (i+1)=({S i with H:=(S i).H++[.cells z],low:=min (S i).low (S i).H.length}:aq).put aV.dst (.ptr (S i).H.length 0):=by
 have SN:=hl.SL;obtain⟨aV,z,ao,c4,bj⟩:=hl.alloc i h1 h2;obtain⟨o,adV,ho,fK,bx,cd⟩:=T.get (i:=i) (by omega);rw[ao]at fK;cases fK;rcases cd with⟨hw,v,H1,bI,af,aC,kA⟩|⟨hw,-,-⟩
 case inr=>rw[bj]at hw;simp[e3]at hw
 rw[c4]at af;have GJ:step (ag.ae (S i).aG (S i).av) (S i).H (S i).H.length (.alloc z)=some (v,H1,bI):=af;simp only[step,az,bt]at GJ;obtain⟨rfl,rfl,rfl⟩:=GJ;refine⟨by rw[kA];simp[eG],z,?_,aV,ao,c4,bj,aC⟩;rw[aC];exact(j5 _ _ _).1
theorem LU (T:kD C vars N ops bz call S aR){p q:Nat}(hl:GK ops bz call S aR p q){i:Nat}(h1:p<=i):∀{k:Nat},i+k<=q->∀(l:Nat) (o:cc),(S i).H[l]? =some o->(S (i+k)).H[l]? =some o
 |0,_,l,o,h=>h
 |k+1,cW,l,o,h=>by
  have ih:=LU T hl h1 (k:=k) (by omega) l o h;obtain⟨-,z,e,-⟩:=GL T hl (i:=i+k) (by omega) (by omega);show(S (i+k+1)).H[l]? =some o;rw[e,gE ((pY.1 ih).1)];exact ih
theorem adW{id:Nat}{st aF:aq}{a:Act}{Q:Exit->Act->World->Prop}{ro:Option Nat}(cD:C.P.follows .mixedOrders=true)(bu:eZ C fid)(a6:gH C fid call)
  (hm:dH (C.oper vars N ops) ops.toList=some bz) (jG:Ctx.xP ops=true) (lZ:Ctx.xQ ops=true) (qL:(ops.toList.zip bz).all (fun(o,a)=>Ctx.wo ops o a)=true)
  {S:Nat->aq} {aR:Nat->Bool} (h0:S 0={st with aG:=[]}) (hn:S ops.size=aF) (T:kD C vars N ops bz call S aR) {p q:Nat} (hl:GK ops bz call S aR p q) (U:dy C fid vars N G st a w)
  (dz:∀G' a7 w',dy C fid vars N G' aF a7 w'->(∀m,m<=aF.low->Ext G w G' w' m st.H.length)->a7.defers=a.defers->Q .normal a7 w'):
  (Code.region id ops true).wpIn (en ro) 0 C.P Q a w:=by
 have od:st.H=(S 0).H/\st.low=(S 0).low:=by rw[h0];exact⟨rfl,rfl⟩
 have CS:st.low<=st.H.length:=U.low;have yi:=hl.adU;have SN:=hl.SL
 have pJ:∀k,k<=ops.size->st.H.length<=(S k).H.length:=fun k cW=>by
  have:=(T.na a6.bM (i:=0) (j:=k) (cx _) cW).1.len;rw[<-od.1]at this;exact this
 have adX:∀j,j<=p->(S j).H=(S 0).H:=fun j hj=>by
  have:=T.heap a6.bM (i:=0) (k:=j) (by omega) fun x _ h2=>hl.still x (by omega);rw[eO]at this;exact this
 have adY:∀i,p<=i->i<q->∀k,q<=k->k<=ops.size->(S i).H.length<(S k).H.length:=fun i h1 h2 k ar aQ=>by
  obtain⟨-,z,e,-⟩:=GL T hl h1 h2;have:=(T.na a6.bM (i:=i+1) (j:=k) (by omega) aQ).1.len;rw[e]at this;simp at this;omega
 have oe:∀L k ay ai aH,CZ C fid vars N ops S aR p q G w a st.H.length L k ay ai aH->(∀i,i<ops.size->L.getD i false=true)->Q .normal ai aH:=by
  intro L k ay ai aH I eA
  have cW:(S ops.size).H=(S k).H:=by
   have AJ:=I.SM;obtain⟨d,hd⟩:=mR I.uQ;rw[hd];refine T.heap a6.bM (by omega) fun x h1 h2=> ?_;cases ab:aR x with
   |false=>rfl
   |true=>have:=(I.qM x (by omega) (by omega) ab).1 (eA x (by omega));omega
  refine dz ay ai aH ?_ (fun m hm=>I.ext m (by rw[hn];exact hm)) I.defers;rw[<-hn];refine⟨by rw[cW];exact I.rel,fun t=>I.env t ops.size (aK _) fun i o ho _=> ?_,I.o0,?_⟩
  ·have:i<ops.size:=(sI.1 ho).1
   simp[this,eA i this]
  ·exact(T.na a6.bM (cx _) (aK _)).bound (by rw[<-od.1,<-od.2];exact CS)
 have CT:∀L k ay ai aH,CZ C fid vars N ops S aR p q G w a st.H.length L k ay ai aH->Region.ready .any ops L=[]->∀i,i<ops.size->L.getD i false=true:=by
  intro L k ay ai aH I hr i
  induction i using Nat.strongRecOn with
  | _ i ih=>
    intro hi;cases df:L.getD i false with
    |true=>rfl
    |false=>
     exfalso
     have:i∈Region.ready .any ops L:=mem_ready.2 ⟨by
      have:i<L.size:=by rw[I.size];exact hi
      simp only[Array.getD,this,dif_pos]at df⊢; exact df,ops[i],by simp[hi],fun e he hb=>by
       have aX:=LL jG (j:=i) (o:=ops[i]) (by simp[hi]) he hb;exact ih e.on aX (by omega)⟩
     rw[hr]at this;cases this
 have sW:∀(fuel:Nat) (L:Array Bool) (k:Nat) (ay:bX) (ai:Act) (aH:World) (j:Nat),CZ C fid vars N ops S aR p q G w a st.H.length L k ay ai aH->j∈Region.ready .any ops L->
   (∀gZ bp G' a7 w',CZ C fid vars N ops S aR p q G w a st.H.length gZ bp G' a7 w'->gZ=L.setIfInBounds j true->wpAnyIn (en ro) 0 C.P .any ops Q fuel gZ a7 w')->
   wpOpIn (en ro) 0 C.P ops Q j (wpAnyIn (en ro) 0 C.P .any ops Q fuel (L.setIfInBounds j true)) ai aH:=by
  intro fuel L k ay ai aH j I hj wI;obtain⟨wJ,o,ho,CU⟩:=mem_ready.1 hj;have iq:j<ops.size:=(sI.1 ho).1;have lp:j<L.size:=by rw[I.size];exact iq
  have n2:L.getD j false=false:=by simp only[Array.getD,lp,dif_pos]at wJ⊢; exact wJ
  have AJ:=I.SM;have rW:=I.uQ;obtain⟨o',aV,kx,fK,bx,cd⟩:=T.get iq;rw[ho]at kx;cases kx
  have wK:∀i,((CheckFast.beforeF ops).getD j 0).testBit i=true->L.getD i false=true:=fun i hb=>by
   obtain⟨e,lY,mX,o1⟩:=LJ ho hb;have hl:=CU e lY mX;rcases o1 with rfl|o1
   ·exact hl
   ·exact I.closed e.on hl i o1
  have mH:∀i,i≠j->((CheckFast.beforeF ops).getD (max i j) 0).testBit (min i j)=true->(L.getD i false=true↔i<j):=by
   intro i cK hb;rcases fX i j with aX|hge
   ·rw[FO (by omega),lP (by omega)]at hb
    exact⟨fun _=>aX,fun _=>wK i hb⟩
   ·rw[FQ hge,uc hge]at hb
    refine⟨fun df=> ?_,fun h=>by omega⟩;have:=I.closed i df j hb;rw[n2]at this;cases this
  have wL:∀t,(o.dst=some t\/t∈Ctx.fq ops o)->∀(i:Nat) p,ops[i]? =some p->p.dst=some t->i≠j->(L.getD i false=true↔i<j):=fun t ht i p hp hd cK=>
   mH i cK (LK lZ ho hp hd cK ht)
  have er:=cd.bM a6.bM
  have AH:∀x∈aV.op.operands,GC (fun t=>t∈Ctx.fq ops o) x:=by
   intro x hx;have h1:(o,aV)∈ops.toList.zip bz:=ns.2 ⟨j,by rw[xD];exact⟨by rw[auF];exact ho,fK⟩⟩;have h2:=eV.1 qL _ h1;simp only[Ctx.wo,eV]at h2;have ar:=h2 x hx;cases x with
   |tmp t=>exact ua.1 ar
   |var t=>exact ua.1 ar
   |const v=>trivial
   |func i=>trivial
  have GG:∀t,t∈Ctx.fq ops o->a8 fid ay aH (dC vars (S j) t) (ai.tmps.getD t undef):=fun t ht=>by
   refine I.env t j (by omega) fun i p hp hd=> ?_;by_cases cK:i=j
   ·subst cK;simp[n2]
   ·exact wL t (.inr ht) i p hp hd cK
  have kE:∀i,(L.setIfInBounds j true).getD i false=true↔i=j\/L.getD i false=true:=fun i=>uR lp
  have adZ:p<=j->j<q->fw aV.op=true->(S k).H=(S q).H:=fun SP SQ ht=>by
   obtain⟨d,rfl⟩:=mR AJ;refine T.heap a6.bM (by omega) fun x h1 h2=> ?_;cases ab:aR x with
   |false=>rfl
   |true=>
    have hx:=(I.qM x h1 (by omega) ab).2 h2;have hb:=hl.writer x h1 (by omega) ab j aV SP fK ht (by omega);rw[FQ (by omega),uc (by omega)]at hb;have:=I.closed x hx j hb;rw[n2]at this;cases this
  have yk:∀(bp:Nat) (x:Value) (bG:World) (bl:bX),q<=bp->bp<=ops.size->(∀i,q<=i->i<ops.size->aR i=true->(i=j\/L.getD i false=true↔i<bp))->aZ C fid bl (S bp).H bG->(∀m,m<=(S (j+1)).low->Ext ay aH bl bG m st.H.length)->(∀t,o.dst=some t->a8 fid bl bG (dC vars (S (j+1)) t) x)->
    (∀i,p<=i->i<q->i≠j->L.getD i false=false->bl.β (S i).H.length=Option.none)->wpAnyIn (en ro) 0 C.P .any ops Q fuel (L.setIfInBounds j true) (ai.put o.dst x) bG:=by
   intro bp x bG bl q1 aS b1 p1 p2 p3 j6;have nB:=p2 0 (cx _);refine wI _ bp bl _ bG ⟨by simp[I.size],fun x hx i hb=> ?_,q1,aS,fun i h1 h2 ab=>by rw[kE];exact b1 i h1 h2 ab,p1,fun i hi ab pK=> ?_,fun t m hm ep=> ?_,by rw[wG];exact I.o0,by rw[put_defers];exact I.defers,fun m hm=> ?_⟩ rfl
   ·rw[kE]at hx⊢
    rcases hx with rfl|hx
    ·exact .inr (wK i hb)
    ·exact .inr (I.closed x hx i hb)
   ·have bf:i≠j:=fun e=>by
     have:=(kE i).2 (.inl e);rw[this]at pK;cases pK
    refine j6 i hi ab bf ?_;cases ad:L.getD i false with
    |false=>rfl
    |true=>
     have:=(kE i).2 (.inr ad);rw[this]at pK;cases pK
   ·refine yg (fun d hd=>by rw[I.o0];exact bx.lt d hd) (fun h=> ?_) (fun h=> ?_)
    ·have CX:j<m:=(ep j o ho h).1 ((kE j).2 (.inl rfl))
     have e:dC vars (S m) t=dC vars (S (j+1)) t:=by
      obtain⟨d,rfl⟩:=mR (show j+1<=m from CX);refine T.slot (by omega) fun x p h1 h2 hp hd=> ?_;have rU:x≠j:=by omega
      have ai:=(kE x).1 ((ep x p hp hd).2 h2);have a2:=(wL t (.inl h) x p hp hd rU).1 (ai.resolve_left rU);omega
     rw[e];exact p3 t h
    ·refine(I.env t m hm fun i p hp hd=> ?_).ext I.rel nB
     have cK:i≠j:=fun e=>by subst e;rw[ho]at hp;cases hp;exact h hd
     rw[<-ep i p hp hd,kE];simp[cK]
   ·have af:=(T.na a6.bM (i:=j+1) (j:=ops.size) iq (aK _)).1.low
    exact(I.ext m hm).trans (p2 m (by omega))
  by_cases hA:p<=j/\j<q
  ·
   obtain⟨h1,h2⟩:=hA;obtain⟨hH,z,ad0,adV,SR,c4,GH,aC⟩:=GL T hl h1 h2;rw[fK]at SR;cases SR
   have yd:o.guard=none:=by
    have:=bx.guard;rw[GH]at this;cases bj:o.guard with
    |none=>rfl
    |some p=>
     obtain⟨q,b⟩:=p;rw[bj]at this;simp only[Ctx.guard]at this;split at this<;>simp at this
   have GI:C.op vars o.pos o.op=.alloc z:=by rw[<-bx.op];exact c4
   obtain⟨ty,cells,eE,cr,pH,ag6⟩:=adT (fid:=fid) (w:=aH) (ρ:=ai.eval) GI;refine SJ ho yd (by rw[eE];simp) cr ?_
   have l6:∀t,o.dst=some t->dC vars (S (j+1)) t=.ptr (S j).H.length 0:=fun t ht=>by
    rw[aC];rcases bx.dst with⟨h2,-⟩|⟨d,-,h2,ar⟩
    ·rw[h2]at ht;cases ht
    ·rw[h2]at ht;cases ht
     rw[ar,CR,if_pos rfl]
   have cW:(S k).H=(S q).H:=adZ h1 h2 (by rw[c4];rfl);have rV:=I.free j h1 h2 n2
   have hcell:(S k).H[(S j).H.length]? =some (.cells z):=by
    rw[cW];obtain⟨d,hd⟩:=mR (show j+1<=q from h2);rw[hd];refine LU T hl (by omega) (by omega) _ _ ?_;rw[ad0];simp
   have LS:=I.rel.place rV hcell (.cells cells ty) 0 0 ⟨⟨rfl,ag6 _ _ (oQ _ _)⟩,rfl,cells,ty,oQ _ _,pH _ _⟩;refine yk k _ _ _ AJ rW (fun i q1 aS ab=> ?_) LS (fun m _=>.place rV _ _ _ m (pJ j (by omega))) (fun t ht=> ?_) fun i SS pK cK df=> ?_
   ·rw[<-I.qM i q1 aS ab]
    exact⟨fun h=>h.resolve_left (by omega),.inr⟩
   ·rw[l6 t ht]
    exact .ptr _ _ ⟨aH.heap.size,0,0,false⟩ (de _ _ _) rfl
   ·have bf:(S i).H.length≠(S j).H.length:=by
     have key:∀i j,p<=i->i<q->i<j->j<q->(S i).H.length<(S j).H.length:=fun i j ai a2 a3 a4=>by
      obtain⟨-,z,e,-⟩:=GL T hl ai a2;have:=(T.na a6.bM (i:=i+1) (j:=j) (by omega) (by omega)).1.len;rw[e]at this;simp at this;omega
     rcases Nat.lt_or_gt_of_ne cK with c|c
     ·have:=key i j SS pK c h2;omega
     ·have:=key j i h1 h2 c pK;omega
    show ck ay.β (S j).H.length _ (S i).H.length=_;rw[dp bf];exact I.free i SS pK df
  ·
   have LO:fw aV.op=true->(S k).H=(S j).H\/(aR j=false/\(e3 (S j).aG (S j).av aV.guard=some true->∀v H1 bI,b2 call (ag.ae (S j).aG (S j).av) (S j).H (S j).H.length aV.op=some (v,H1,bI)->∃H2 c5,b2 call (ag.ae (S j).aG (S j).av) (S k).H (S k).H.length aV.op=some (v,H2,c5)/\eG (S k).H H2 c5=false)):=by
    intro ht;rcases fX j p with C0|C0
    ·refine .inr ⟨hl.still j C0,fun hw v H1 bI h1=> ?_⟩
     have nb:=hl.jX j aV k C0 AJ rW fK ht;unfold Abs.jX at nb;simp only[hw,h1]at nb;split at nb
     ·rename_i v' H2 c5 h2
      simp only[b8,nV]at nb;have:=uO _ _ nb.1;subst this;exact⟨H2,c5,h2,nb.2⟩
     ·cases nb
    ·have SQ:q<=j:=by
      rcases fX j q with c|c
      ·exact absurd ⟨C0,c⟩ hA
      ·exact c
     left;have CV:∀x,q<=x->x<ops.size->aR x=true->x≠j->(L.getD x false=true↔x<j):=fun x h1 h2 ab hx=>mH x hx (hl.writer x h1 h2 ab j aV C0 fK ht hx);rcases Nat.le_total k j with uS|CW
     ·obtain⟨d,rfl⟩:=mR uS
      refine(T.heap a6.bM (by omega) fun x h1 h2=> ?_).symm;cases ab:aR x with
      |false=>rfl
      |true=>
       have ai:=(CV x (by omega) (by omega) ab (by omega)).2 (by omega);have a2:=(I.qM x (by omega) (by omega) ab).1 ai;omega
     ·obtain⟨d,rfl⟩:=mR CW
      refine T.heap a6.bM (by omega) fun x h1 h2=> ?_;cases ab:aR x with
      |false=>rfl
      |true=>
       have a2:=(I.qM x (by omega) (by omega) ab).2 (by omega);by_cases hx:x=j
       ·subst hx;rw[n2]at a2;cases a2
       ·have:=(CV x (by omega) (by omega) ab hx).1 a2;omega
   have LP:(S j).low<=(S k).H.length:=by
    have af:=(T.na a6.bM (i:=0) (j:=j) (cx _) (by omega)).1.low;have e2:=pJ k rW;rw[<-od.2]at af;omega
   refine ye (T:=fun t=>t∈Ctx.fq ops o) bu a6 ho bx cd I.rel LO LP GG AH (fun q want d bj hd=> ?_) I.o0 ?_
   ·simp only[Ctx.fq,jA]
    right;rw[bj];simp only[];rw[hd];simp
   ·intro x bG bl p1 p2 p3
    have SU:∀i,p<=i->i<q->i≠j->L.getD i false=false->bl.β (S i).H.length=Option.none:=fun i h1 h2 cK df=>by
     have rV:=I.free i h1 h2 df;cases hb:bl.β (S i).H.length with
     |none=>rfl
     |some h'=>
      exfalso;rcases(p2 0 (cx _)).nt _ _ hb with⟨h,fj,-⟩|⟨hge,-⟩
      ·rw[rV]at fj;cases fj
      ·have:=adY i h1 h2 k AJ rW;omega
    have SV:∀m,m<=(S (j+1)).low->Ext ay aH bl bG m st.H.length:=fun m hm=>(p2 m hm).le (aK _) (pJ k rW);cases hH:aR j with
    |false=>
     rw[hH]at p1;refine yk k x bG bl AJ rW (fun i q1 aS ab=> ?_) p1 SV p3 SU;rw[<-I.qM i q1 aS ab];exact⟨fun h=>h.resolve_left (fun e=>by rw[e,hH]at ab;cases ab),.inr⟩
    |true=>
     rw[hH]at p1
     have SQ:q<=j:=by
      rcases fX j q with c|c
      ·rcases fX j p with c'|c'
       ·rw[hl.still j c']at hH;cases hH
       ·exact absurd ⟨c',c⟩ hA
      ·exact c
     refine yk (j+1) x bG bl (by omega) iq (fun i q1 aS ab=> ?_) p1 SV p3 SU;by_cases cK:i=j
     ·subst cK;simp
     ·have:=mH i cK (hl.writer i q1 aS ab j aV (by omega) fK (cd.fw hH) cK)
      simp only[cK,false_or];rw[this];omega
 have key:∀(fuel:Nat) (L:Array Bool) (k:Nat) (ay:bX) (ai:Act) (aH:World),CZ C fid vars N ops S aR p q G w a st.H.length L k ay ai aH->(List.range ops.size).countP (fun i=>!L.getD i false)<=fuel->
   wpAnyIn (en ro) 0 C.P .any ops Q fuel L ai aH:=by
  intro fuel
  induction fuel with
  |zero=>
   intro L k ay ai aH I hc
   have eA:∀i,i<ops.size->L.getD i false=true:=fun i hi=>by
    have h1:=List.countP_eq_zero.1 (Nat.le_zero.1 hc) i (by simpa using hi);simpa using h1
   refine⟨?_,oe _ _ _ _ _ I eA⟩;cases hr:Region.ready .any ops L with
   |nil=>rfl
   |cons i r=>
    obtain⟨h1,o,ho,-⟩:=mem_ready.1 (show i∈Region.ready .any ops L by rw[hr];simp);have hi:i<ops.size:=(sI.1 ho).1;have h2:=eA i hi;have:i<L.size:=by rw[I.size];exact hi
    simp only[Array.getD,this,dif_pos]at h1 h2;rw[h1]at h2;cases h2
  |succ fuel ih=>
   intro L k ay ai aH I hc;refine⟨fun hr=>oe _ _ _ _ _ I (CT _ _ _ _ _ I hr),fun j hj=>sW fuel L k ay ai aH j I hj fun gZ bp G' a7 w' qA e=>ih gZ bp G' a7 w' qA ?_⟩;subst e;obtain⟨h1,o,ho,-⟩:=mem_ready.1 hj;have iq:j<ops.size:=(sI.1 ho).1;have lp:j<L.size:=by rw[I.size];exact iq
   have aX:(List.range ops.size).countP (fun i=>!(L.setIfInBounds j true).getD i false)<(List.range ops.size).countP (fun i=>!L.getD i false):=by
    refine LM (a:=j) (fun x _ hx=> ?_) (by simpa using iq) ?_ ?_
    ·cases ad:L.getD x false with
     |false=>rfl
     |true=>
      have:=(uR (i:=x) lp).2 (.inr ad);rw[this]at hx;cases hx
    ·simp only[Array.getD,lp,dif_pos]at h1⊢; rw[h1];rfl
    ·have:=(uR (i:=j) lp).2 (.inl rfl)
     rw[this];rfl
   omega
 refine wpIn_region_any cD ?_;have hw:({w with drawn:=w.drawn+1}:World).heap=w.heap:=rfl;have iQ:=(U.clear).lU hw;rw[<-h0]at iQ
 have jh:∀i,(Array.replicate ops.size false).getD i false=false:=fun i=>by
  by_cases h:i<ops.size
  ·simp[h]
  ·simp[h]
 refine key ops.size (Array.replicate ops.size false) q G a {w with drawn:=w.drawn+1} ⟨by simp,fun x hx=>absurd hx (by rw[jh];simp),aK _,SN,fun i h1 _ ab=>by rw[jh];simp;omega,iQ.rel.longer fun l o nu=> ?_,fun i h1 h2 _=> ?_,fun t m hm ep=> ?_,iQ.size,rfl,fun m _=>Ext.lU hw rfl rfl m _⟩ ?_
 ·rw[<-adX p (aK _)]at nu
  obtain⟨d,hd⟩:=mR yi;rw[hd];exact LU T hl (aK _) (by omega) l o nu
 ·exact U.rel.none (pJ i (by omega))
 ·have e:dC vars (S m) t=dC vars (S 0) t:=by
   have:=T.slot (t:=t) (i:=0) (k:=m) (by omega) fun x p h1 h2 hp hd=>by
    have:=(ep x p hp hd).2 (by omega);rw[jh]at this;cases this
   rw[eO]at this;exact this
  rw[e];exact iQ.env t
 ·refine cV List.countP_le_length (by simp)
theorem SW{α:Type}{f:α->Bool}:∀{l:List α} {i:Nat},i<(l.takeWhile f).length->∃a,l[i]? =some a/\f a=true
 |[],i,h=>by simp at h
 |a::l,i,h=>by
  rw[List.takeWhile_cons]at h;split at h
  ·rename_i ab
   cases i with
   |zero=>exact⟨a,rfl,ab⟩
   |succ i=>
    simp only[ev]at h;obtain⟨b,h1,h2⟩:=SW (f:=f) (l:=l) (i:=i) (by omega);exact⟨b,by simpa using h1,h2⟩
  ·simp at h
theorem SX (l:List bO):kt l<=oM l:=Kn _ _
theorem LV{α:Type}(f:α->Bool)(l:List α):(l.takeWhile f).length<=l.length:=(List.takeWhile_sublist f).length_le
theorem ad1 (l:List bO):oM l<=l.length:=by
 unfold oM;have h1:=LV Ck (l.drop (kt l));have h2:kt l<=l.length:=LV _ l;simp only[sN]at h1;omega
theorem ad2{l:List bO}{i:Nat}(h1:kt l<=i)(h2:i<oM l):∃aV z,l[i]? =some aV/\aV.op=.alloc z/\aV.guard=none:=by
 unfold oM at h2;obtain⟨aV,ar,aQ⟩:=SW (l:=l.drop (kt l)) (f:=Ck) (i:=i-kt l) (by omega);rw[QK]at ar;refine⟨aV,?_⟩;unfold Ck at aQ;split at aQ
 ·rename_i z af e2
  exact⟨z,by rw[<-ar];congr 1;omega,af,e2⟩
 ·cases aQ
theorem ad3{st:aq}{wr:List Bool}{cf:List aq}(hm:dH (C.oper vars N ops) ops.toList=some bz)(oc:fx call bz {st with aG:=[]}=some cf)
  (h0:S 0={st with aG:=[]}) (mI:wr=(List.range ops.size).map aR) (hs:∀(i:Nat) aV,bz[i]? =some aV->l5 call aV (S i) (S (i+1)) (aR i))
  (hc:wk (CheckFast.beforeF ops).toList bz wr=true) (hd:(z7 bz cf).all (jX call)=true):GK ops bz call S aR (kt bz) (oM bz):=by
 have hlen:bz.length=ops.size:=by rw[uF _ hm,hB]
 have j1:∀i,(CheckFast.beforeF ops).toList.getD i 0=(CheckFast.beforeF ops).getD i 0:=fun i=>by
  rw[tY,auF,v8]
 have yj:∀i j,oL (CheckFast.beforeF ops).toList i j=true->((CheckFast.beforeF ops).getD (max i j) 0).testBit (min i j)=true:=fun i j this=>by
  rw[GF,j1,j1]at this;split at this
  ·rw[FQ (by omega),uc (by omega)];exact this
  ·rw[FO (by omega),lP (by omega)];exact this
 have SY:∀i,i<ops.size->wr[i]? =some (aR i):=fun i hi=>by rw[mI];simp[hi]
 have bc:=ad1 bz;have yi:=SX bz;unfold wk at hc;simp only[b8,eV]at hc;obtain⟨⟨dq,fb⟩,gG⟩:=hc;rw[<-h0]at oc;have qC:=GA bz S aR cf hs oc;refine⟨yi,by omega,fun i hi=> ?_,fun i h1 h2 ab j aV SP hj ht cK=> ?_,fun j aV h1 hj ht i h2 ar=> ?_,fun i h1 h2=>ad2 h1 h2,fun j aV k hj cW LN ao ht=> ?_⟩
 ·have:=dq (aR i) (ns.2 ⟨i,by rw[QL,if_pos hi];exact SY i (by omega)⟩)
  simpa using this
 ·have:=fb (true,i) (ie.2 (by rw[<-ab];exact SY i h2))
  have hb:Nat.blt i (oM bz)=false:=by
   cases hx:Nat.blt i (oM bz)with
   |false=>rfl
   |true=>have:=km hx;omega
  simp only[hZ,hb,FU,qv,eV]at this;have ar:=this (aV,j) (ie.2 hj)
  have rN:Nat.blt j (kt bz)=false:=by
   cases hx:Nat.blt j (kt bz)with
   |false=>rfl
   |true=>have:=km hx;omega
  simp only[ht,rN,hZ,qv,ko,beq_iff_eq,cK,false_or]at ar;exact yj i j ar
 ·have:=gG (aV,j) (ie.2 hj)
  have hb:Nat.blt j (oM bz)=false:=by
   cases hx:Nat.blt j (oM bz)with
   |false=>rfl
   |true=>have:=km hx;omega
  simp only[ht,hb,hZ,FU,qv,eV]at this;have aQ:=yj i j (this i (by rw[List.mem_range'_1];omega));rw[FO (by omega),lP (by omega)]at aQ;exact aQ
 ·have eB:(aV,S j,(S k).H)∈z7 bz cf:=by
   unfold z7;simp only[Cd,QO];refine⟨S k,ns.2 ⟨k-oM bz,?_⟩,(aV,S j),ns.2 ⟨j,?_⟩,by simp[ht]⟩
   ·rw[QK,<-qC k (by omega)];congr 1;omega
   ·rw[QL,if_pos hj,xD]
    exact⟨ao,qC j (by omega)⟩
  exact eV.1 hd _ eB
theorem ad4{id:Nat}{st aF:aq}{wr:List Bool}{a:Act}{Q:Exit->Act->World->Prop}{ro:Option Nat}(cD:C.P.follows .mixedOrders=true)(bu:eZ C fid)(a6:gH C fid call)
  (hm:dH (C.oper vars N ops) ops.toList=some bz) (jG:Ctx.xP ops=true) (lZ:Ctx.xQ ops=true) (qL:(ops.toList.zip bz).all (fun(o,a)=>Ctx.wo ops o a)=true)
  (he:cQ call bz {st with aG:=[]} []=some (aF,wr)) (hin:(nX (CheckFast.beforeF ops).toList bz wr||nY call (CheckFast.beforeF ops).toList bz wr {st with aG:=[]})=true) (U:dy C fid vars N G st a w)
  (dz:∀G' a7 w',dy C fid vars N G' aF a7 w'->(∀m,m<=aF.low->Ext G w G' w' m st.H.length)->a7.defers=a.defers->Q .normal a7 w'):
  (Code.region id ops true).wpIn (en ro) 0 C.P Q a w:=by
 cases lq:wj bz with
 |true=>exact adO cD bu a6 hm jG lZ qL he lq U dz
 |false=>
  unfold nX at hin;rw[lq,ayw]at hin;unfold nY at hin;rw[<-Bool.or_assoc,ko]at hin;rcases hin with hin|hin
  ·exact adN cD bu a6 hm jG lZ qL he hin U dz
  ·split at hin
   ·rename_i cf oc
    rw[b8]at hin;obtain⟨S,aR,h0,hn,mI,hs⟩:=uN _ _ _ _ _ he;have T:kD C vars N ops bz call S aR:=.of hm hs;rw[T.len]at hn mI;simp only[List.reverse_nil,jB]at mI;exact adW cD bu a6 hm jG lZ qL h0 hn T (ad3 hm oc h0 mI hs hin.1 hin.2) U dz
   ·cases hin
end
end Go.Abs
