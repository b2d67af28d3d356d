/- Texts of this claim, joined and written short by a program. -/
import Derived.Test.YtonmjjfciemcoaaGreatDoorP06
import Derived.Test.YtonmjjfciemcoaaGreatDoorP00
set_option linter.unusedVariables false
set_option linter.unusedSimpArgs false
set_option linter.unusedSectionVars false
namespace Go.Abs
open Go
variable{C:Ctx}{fid:Nat->Nat}{w w':World}{G G':bX}{H H':Heap}
theorem a8.place (ab:a8 C fid G H w){l:Nat}(hn:G.β l=Option.none){o:b5}(hl:H[l]? =some o)(aV:Obj)(tag fA:Nat)
  (ho:jS C fid ⟨cp G.β l ⟨w.heap.size,tag,fA,false⟩,G.I⟩ (w.alloc aV) ⟨w.heap.size,tag,fA,false⟩ o):
  a8 C fid ⟨cp G.β l ⟨w.heap.size,tag,fA,false⟩,G.I⟩ H (w.alloc aV):=by
 have hle:=C2 hn ⟨w.heap.size,tag,fA,false⟩;refine⟨fun x h hb=> ?_,fun x fQ h h' e e' q=> ?_,fun x h hb=> ?_,fun b hb=> ?_,fun x h hb ag=> ?_,fun b o ba=>⟨(ab.fG b o ba).1,by rw[alloc_old (ab.da b (ab.fG b o ba).1).1];exact(ab.fG b o ba).2⟩⟩
 ·by_cases hx:x=l
  ·subst hx
   simp only[dr]at hb;cases hb;exact⟨o,hl,ho⟩
  ·simp only[dE hx]at hb
   obtain⟨o',e',hr⟩:=ab.obj x h hb;exact⟨o',e',hr.mono (G':=⟨cp G.β l _,G.I⟩) hle (fun b hb=>⟨hb,alloc_old (ab.da b hb).1⟩) (alloc_old (ab.blk x h hb))⟩
 ·by_cases hx:x=l<;>by_cases dT:fQ=l
  ·rw[hx,dT]
  ·subst hx;simp only[dr]at e;cases e
   simp only[dE dT]at e';have:=ab.blk fQ h' e';simp only at q;omega
  ·subst dT;simp only[dr]at e';cases e'
   simp only[dE hx]at e;have:=ab.blk x h e;simp only at q;omega
  ·simp only[dE hx]at e;simp only[dE dT]at e'
   exact ab.inj x fQ h h' e e' q
 ·rw[World.size_alloc]
  by_cases hx:x=l
  ·subst hx;simp only[dr]at hb;cases hb;simp
  ·simp only[dE hx]at hb;have:=ab.blk x h hb;omega
 ·have hi:=ab.da b hb
  refine⟨by rw[World.size_alloc];omega,fun x h e q=> ?_⟩;by_cases hx:x=l
  ·subst hx;simp only[dr]at e;cases e;simp only at q;omega
  ·simp only[dE hx]at e;exact hi.2 x h e q
 ·by_cases hx:x=l
  ·subst hx;simp only[dr]at hb;cases hb;cases ag
  ·simp only[dE hx]at hb;exact ab.k4 x h hb ag
theorem Ext.place{l:Nat}(hn:G.β l=Option.none){fk:Nat}(aV:Obj)(tag fA m:Nat)(hl:fk<=l):Ext G w ⟨cp G.β l ⟨w.heap.size,tag,fA,false⟩,G.I⟩ (w.alloc aV) m fk where
 size:=by simp
 os:=rfl
 output:=rfl
 keep b hb _:=alloc_old hb
 homes:=C2 hn _
 oE x h hb:=by
  by_cases hx:x=l
  ·subst hx;simp only[dr]at hb;cases hb;exact .inr ⟨hl,aH _⟩
  ·simp only[dE hx]at hb;exact .inl ⟨h,hb,.inl rfl⟩
 da _ h:=h
 pe _ h:=.inl h
theorem a8.longer (ab:a8 C fid G H w)(h:∀(l:Nat) (o:b5),H[l]? =some o->H'[l]? =some o):a8 C fid G H' w:=
 ⟨fun l x e=>by
  obtain⟨o,ho,hr⟩:=ab.obj l x e;exact⟨o,h l o ho,hr⟩,ab.inj,ab.blk,ab.da,ab.k4,ab.fG⟩
theorem Yq{vars:List Nat}{pos:String}{op:Op}{es:Nat}{z:List V}{bytes:Nat}{mC ac:aj}(hc:C.op vars pos op=.mkSlice es z bytes mC ac):∃t l c,op=.makeSlice t l c/\C.cX vars pos op=some (.mkSlice es z bytes mC ac):=by
 have cP:C.cX vars pos op=some (.mkSlice es z bytes mC ac):=by
  unfold Ctx.op at hc;cases h:C.cX vars pos op with
  |none=>rw[h]at hc;cases hc
  |some a=>rw[h]at hc;simp only[oB]at hc;rw[hc]
 cases ho:op with
 |makeSlice t l c=>rw[ho]at cP;exact⟨t,l,c,rfl,cP⟩
 |call c=>
  exfalso;rw[ho]at cP;obtain⟨callee,args,dU⟩:=c;cases callee with
  |value f=>
   simp only[Ctx.cX]at cP;split at cP<;>simp at cP
  |builtin b=>
   simp only[Ctx.cX]at cP;unfold Ctx.builtin at cP
   repeat' split at cP
   all_goals first
    |(cases cP;done)
    |(simp only[aB,reduceCtorEq]at cP;done)
    |(obtain⟨_,_,h⟩:=cA.1 cP;cases h;done)
  |invoke r n=>simp[Ctx.cX]at cP
 |binOp a b c d e=>
  exfalso;rw[ho]at cP;simp only[Ctx.cX,Ctx.zS]at cP
  repeat' split at cP
  all_goals first
   |(cases cP;done)
   |(obtain⟨_,_,h⟩:=cA.1 cP;cases h;done)
 |makeFunc g a b=>
  exfalso;rw[ho]at cP;cases g with
  |func f=>
   simp only[Ctx.cX]at cP;split at cP<;>simp at cP
  | _=>simp[Ctx.cX]at cP
 |makeMap t r=>
  exfalso;rw[ho]at cP;cases r<;>simp[Ctx.cX]at cP
 | _=>
   exfalso;rw[ho]at cP;simp only[Ctx.cX]at cP
   repeat' split at cP
   all_goals first
    |(cases cP;done)
    |(obtain⟨_,_,h⟩:=cA.1 cP;cases h;done)
theorem run_mk{vars:List Nat}{ah:aj->V}{ρ:Operand->Value}{o:Oper}{pos:String}{es:Nat}{z:List V}{bytes:Nat}{mC ac:aj}(aP:fB C fid vars G w ah ρ)(dy:C.op vars pos o.op=.mkSlice es z bytes mC ac)
  {n m:Int} {k bF:IntKind} (af:ah mC=.int k n) (ak:ah ac=.int bF m) (hb:n=m/\0<=n/\n*(bytes+1)<=2^40):
  0<es/\∃e cells,(execOp ρ o).run C.P w=.ok (.value (.slice (some ⟨w.heap.size,0,none⟩) n.toNat n.toNat)) (w.alloc (.cells cells e))/\cells.size=n.toNat*es/\
   (∀d∈List.replicate n.toNat (lz z),(aC d).length=es)/\∀G' w',a6 fid G' w' ((List.replicate n.toNat (lz z)).flatMap aC) cells.toList:=by
 obtain⟨t,l,c,ho,hc⟩:=Yq dy;rw[ho]at hc;simp only[Ctx.cX]at hc;split at hc
 ·rename_i e hd
  split at hc
  ·rename_i i rf aDl aDm hi aR h1 h2
   split at hc
   ·cases hc
   ·rename_i et
    simp only[not_or,ne_eq,Classical.not_not]at et;simp only[aB,cV.mkSlice.injEq]at hc;obtain⟨rfl,rfl,rfl,rfl,rfl⟩:=hc;obtain⟨b8,nq,oK,bc,-⟩:=Ga (fid:=fid) aR;have Ad:b8.cells.size=i.size:=by rw[<-fw,(oK G w).length,et.2]
    have hl:=aP l _ h1;have tt:=aP c _ h2;obtain⟨rfl,nn,hbound⟩:=hb;rw[af]at hl;rw[ak]at tt;obtain⟨j,rfl⟩:=zw nn
    have qn:j<=1099511627776:=by
     have:(j:Int)*1<=(j:Int)*((i.bytes:Int)+1):=Int.mul_le_mul_of_nonneg_left (by omega) nn;omega
    have pq:(i.bytes:Int)*(j:Int)<=1099511627776:=by
     have:(j:Int)*((i.bytes:Int)+1)=(i.bytes:Int)*(j:Int)+j:=by rw[Int.mul_add,Int.mul_comm];omega
     omega
    have hw:=XZ nn (by omega:(j:Int)<=1099511627776);have iV:0<i.size:=Fm et.1
    have cm:∃cells,(execOp ρ o).run C.P w=.ok (.value (.slice (some ⟨w.heap.size,0,none⟩) j j)) (w.alloc (.cells cells e))/\cells.toList=(List.range (j*i.size)).map (fun q=>b8.cells[q%b8.cells.size]!):=by
     refine⟨(Array.range (j*i.size)).map (fun q=>(if j*i.size=0 then #[]else b8.cells:Array Value)[q%(if j*i.size=0 then #[]else b8.cells:Array Value).size]!),?_,?_⟩
     ·unfold execOp;rw[ho]
      have re:¬((decide ((j:Int)<0)||decide ((i.bytes:Int)*(j:Int)>2^48))=true):=by simp;omega
      have pg:¬((decide ((j:Int)<0)||decide ((i.bytes:Int)*(j:Int)>2^48)||decide ((j:Int)<0)||decide ((j:Int)>(j:Int)))=true):=by simp;omega
      simp only[hl.iW,tt.iW,Instr.makeSlice,asInt,asIntOf,Sem.run_bind,Sem.run_pure,Result.andThen_ok,run_underlying hd,run_typeInfo (P:=C.P) w hi,hw];rw[if_neg (by simpa using pg)];simp only[Sem.run_bind,run_askRoom,Result.andThen_ok,sizeOf,run_typeInfo (P:=C.P) w hi,Sem.run_pure,Oi];by_cases h0:j*i.size=0
      ·simp only[h0,if_true,Sem.run_bind,Sem.run_pure,Result.andThen_ok,newRow,run_newObj,World.alloc_eq]
      ·simp only[h0,if_false,Sem.run_bind,Sem.run_pure,Result.andThen_ok,nq,newRow,run_newObj,World.alloc_eq]
     ·by_cases h0:j*i.size=0
      ·simp[h0]
      ·simp[h0]
    obtain⟨cells,cm,fm⟩:=cm;have hu:=PE bc (n:=j) et.2;rw[Ad]at fm
    have pr:∀G' w',a6 fid G' w' ((List.replicate j (lz rf)).flatMap aC) cells.toList:=fun G' w'=>by
     have:=KJ (oK G' w') bc (by omega) j;rw[Ad,<-fm]at this;exact this
    refine⟨iV,e,cells,cm,?_,hu,pr⟩;rw[<-fw,(pr G w).length,nj hu,CE];rfl
  ·cases hc
 ·cases hc
section
variable{vars:List Nat}{N:Nat}{ops:Array Oper}{bM:List bS}{call:cW}{S:Nat->av}{a7:Nat->Bool}
theorem Yr{ah:aj->V}{low bO:Nat}{es:Nat}{z:List V}{bytes:Nat}{mC ac:aj}{v:V}{H1:Heap}(h:cc call ah H low (.mkSlice es z bytes mC ac)=some (v,H1,bO)):
  ∃k bF n m,ah mC=.int k n/\ah ac=.int bF m/\(n=m/\0<=n/\n*(bytes+1)<=2^40)/\
   ((n=0/\v=.emp/\H1=H/\bO=low)\/(n≠0/\v=.bJ H.length es 0 n.toNat n.toNat/\H1=H++[.row es (List.replicate n.toNat (lz z)) false]/\bO=low)):=by
 have h':step ah H low (.mkSlice es z bytes mC ac)=some (v,H1,bO):=h;simp only[step]at h';split at h'
 ·rename_i k n bF m af ak
  split at h'
  ·rename_i hb
   refine⟨k,bF,n,m,af,ak,hb,?_⟩;split at h'
   ·rename_i h0
    cases h';exact .inl ⟨h0,rfl,rfl,rfl⟩
   ·rename_i h0
    cases h';exact .inr ⟨h0,rfl,rfl,rfl⟩
  ·cases h'
 ·cases h'
theorem Ys (h:yd bM=true){i:Nat}{bd:bS}(hi:bM[i]? =some bd)(ht:gr bd.op=true):bd.guard=none/\∃es z bytes mC ac,bd.op=.mkSlice es z bytes mC ac:=by
 unfold yd at h;have h1:=ev.1 h bd (gg hi);rw[ht]at h1;simp only[hX,uX]at h1;split at h1
 ·rename_i af ak;exact⟨ak,_,_,_,_,_,af⟩
 ·cases h1
theorem Qb (T:ia C vars N ops bM call S a7)(hc:mE call)(lY:yd bM=true){i:Nat}(hi:i<ops.size):
  (a7 i=false/\(S (i+1)).H=(S i).H)\/(a7 i=true/\∃o,(S (i+1)).H=(S i).H++[o]):=by
 obtain⟨o,bd,-,gk,-,ct⟩:=T.get hi;cases ag:a7 i with
 |false=>exact .inl ⟨rfl,ct.still hc ag⟩
 |true=>
  right;refine⟨rfl,?_⟩;obtain⟨-,es,z,bytes,mC,ac,dy⟩:=Ys lY gk (ct.gr ag);rcases ct with⟨-,v,H1,bO,h1,e,h2⟩|⟨-,-,h2⟩
  ·rw[dy]at h1
   obtain⟨k,bF,n,m,-,-,-,hr⟩:=Yr h1;have hH:(S (i+1)).H=H1:=by rw[e,(kI _ _ _).1]
   rcases hr with⟨-,-,rfl,rfl⟩|⟨-,-,rfl,-⟩
   ·rw[ag]at h2
    simp[ew]at h2
   ·exact⟨_,hH⟩
  ·rw[h2]at ag;cases ag
theorem Qc (T:ia C vars N ops bM call S a7)(hc:mE call)(lY:yd bM=true){i:Nat}:∀{k:Nat},i+k<=ops.size->∀(l:Nat) (o:b5),(S i).H[l]? =some o->(S (i+k)).H[l]? =some o
 |0,_,l,o,h=>h
 |k+1,hk,l,o,h=>by
  have ih:=Qc T hc lY (k:=k) (by omega) l o h;rcases Qb T hc lY (i:=i+k) (by omega)with⟨-,e⟩|⟨-,o',e⟩
  ·rw[show i+(k+1)=i+k+1 from rfl,e];exact ih
  ·rw[show i+(k+1)=i+k+1 from rfl,e,e5 ?_]
   ·exact ih
   ·rcases gh l (S (i+k)).H.length with q|q
    ·exact q
    ·rw[lQ q]at ih;cases ih
theorem Yt (T:ia C vars N ops bM call S a7)(hc:mE call)(lY:yd bM=true){i j:Nat}(cF:i<j)(hj:j<ops.size)(ag:a7 i=true):(S i).H.length<(S j).H.length:=by
 have h1:=(T.nV hc (i:=i+1) (j:=j) cF (by omega)).1.len;rcases Qb T hc lY (i:=i) (by omega)with⟨e,-⟩|⟨-,o,e⟩
 ·rw[e]at ag;cases ag
 ·rw[e]at h1;simp at h1;omega
structure Gs (C:Ctx) (fid:Nat->Nat) (vars:List Nat) (N:Nat) (ops:Array Oper) (S:Nat->av) (a7:Nat->Bool) (G:bX) (w:World) (a:Act) (px:Nat)
  (L:Array Bool) (az:bX) (al:Act) (aG:World):Prop where
 size:L.size=ops.size
 closed:∀x,L.getD x false=true->∀i,((CheckFast.beforeF ops).getD x 0).testBit i=true->L.getD i false=true
 rel:a8 C fid az (S ops.size).H aG
 free:∀i,i<ops.size->a7 i=true->L.getD i false=false->az.β (S i).H.length=Option.none
 env:∀t m,m<=ops.size->(∀(i:Nat) o,ops[i]? =some o->o.dst=some t->(L.getD i false=true↔i<m))->bh fid az aG (dP vars (S m) t) (al.tmps.getD t undef)
 qu:al.tmps.size=N
 defers:al.defers=a.defers
 ext:∀m,m<=(S ops.size).low->Ext G w az aG m px
theorem Yu{j:Nat}{o:Oper}{a:Act}{K:Act->World->Prop}{Q:Exit->Act->World->Prop}{ro:Option Nat}{aG:World}(ho:ops[j]? =some o)(ba:o.guard=none)(hnd:∀c,o.op≠ .defer c){x:Value}
  (cm:(execOp a.eval o).run C.P w=.ok (.value x) aG) (oO:K (a.put o.dst x) aG):wpOpIn (eJ ro) 0 C.P ops Q j K a w:=by
 unfold wpOpIn;rw[ho];have hw:Region.wanted o (yielded ops a.tmps)=true:=by unfold Region.wanted;rw[ba]
 simp only[hw,if_true];refine⟨fun _ _=>trivial,?_⟩;rw[Oper.semAt_eq _ _ _ hnd,cm];exact oO
theorem amw{id:Nat}{st aQ:av}{wr:List Bool}{a:Act}{Q:Exit->Act->World->Prop}{ro:Option Nat}(cD:C.P.follows .mixedOrders=true)(bC:e7 C fid)(bb:gS C fid call)
  (hm:dM (C.oper vars N ops) ops.toList=some bM) (jm:Ctx.zT ops=true) (mB:Ctx.zU ops=true) (su:(ops.toList.zip bM).all (fun(o,a)=>Ctx.yf ops o a)=true)
  (he:c3 call bM {st with aF:=[]} []=some (aQ,wr)) (lY:yd bM=true) (ab:dI C fid vars N G st a w)
  (dJ:∀G' bk w',dI C fid vars N G' aQ bk w'->(∀m,m<=aQ.low->Ext G w G' w' m st.H.length)->bk.defers=a.defers->Q .normal bk w'):
  (Code.region id ops true).wpIn (eJ ro) 0 C.P Q a w:=by
 obtain⟨S,a7,h0,hn,-,hs⟩:=vd _ _ _ _ _ he;have T:ia C vars N ops bM call S a7:=.of hm hs;rw[T.len]at hn;have pz:st.H=(S 0).H/\st.low=(S 0).low:=by rw[h0];exact⟨rfl,rfl⟩
 have Gm:st.low<=st.H.length:=ab.low
 have tG:∀k,k<=ops.size->st.H.length<=(S k).H.length:=fun k hk=>by
  have:=(T.nV bb.b2 (i:=0) (j:=k) (cJ _) hk).1.len;rw[<-pz.1]at this;exact this
 have nW:∀L az al aG,Gs C fid vars N ops S a7 G w a st.H.length L az al aG->(∀i,i<ops.size->L.getD i false=true)->Q .normal al aG:=by
  intro L az al aG I eP;refine dJ az al aG ?_ (fun m hm=>I.ext m (by rw[hn];exact hm)) I.defers;rw[<-hn];refine⟨I.rel,fun t=>I.env t ops.size (aH _) fun i o ho _=> ?_,I.qu,?_⟩
  ·have:i<ops.size:=(uP.1 ho).1
   simp[this,eP i this]
  ·exact(T.nV bb.b2 (cJ _) (aH _)).bound (by rw[<-pz.1,<-pz.2];exact Gm)
 have Gn:∀L az al aG,Gs C fid vars N ops S a7 G w a st.H.length L az al aG->Region.ready .any ops L=[]->∀i,i<ops.size->L.getD i false=true:=by
  intro L az al aG I hr i
  induction i using Nat.strongRecOn with
  | _ i ih=>
    intro hi;cases ei:L.getD i false with
    |true=>rfl
    |false=>
     exfalso
     have:i∈Region.ready .any ops L:=mem_ready.2 ⟨by
      have:i<L.size:=by rw[I.size];exact hi
      simp only[Array.getD,this,dif_pos]at ei⊢; exact ei,ops[i],by simp[hi],fun e he hb=>by
       have aT:=P6 jm (j:=i) (o:=ops[i]) (by simp[hi]) he hb;exact ih e.on aT (by omega)⟩
     rw[hr]at this;cases this
 have jl:∀(fuel:Nat) (L:Array Bool) (az:bX) (al:Act) (aG:World) (j:Nat),Gs C fid vars N ops S a7 G w a st.H.length L az al aG->j∈Region.ready .any ops L->
   (∀ib G' bk w',Gs C fid vars N ops S a7 G w a st.H.length ib G' bk w'->ib=L.setIfInBounds j true->wpAnyIn (eJ ro) 0 C.P .any ops Q fuel ib bk w')->
   wpOpIn (eJ ro) 0 C.P ops Q j (wpAnyIn (eJ ro) 0 C.P .any ops Q fuel (L.setIfInBounds j true)) al aG:=by
  intro fuel L az al aG j I hj yr;obtain⟨ys,o,ho,Gp⟩:=mem_ready.1 hj;have i6:j<ops.size:=(uP.1 ho).1;have lX:j<L.size:=by rw[I.size];exact i6
  have pf:L.getD j false=false:=by simp only[Array.getD,lX,dif_pos]at ys⊢; exact ys
  obtain⟨o',bd,jU,gk,bc,ct⟩:=T.get i6;rw[ho]at jU;cases jU
  have yt:∀i,((CheckFast.beforeF ops).getD j 0).testBit i=true->L.getD i false=true:=fun i hb=>by
   obtain⟨e,mz,nR,qv⟩:=P4 ho hb;have hl:=Gp e mz nR;rcases qv with rfl|qv
   ·exact hl
   ·exact I.closed e.on hl i qv
  have oQ:∀i,i≠j->((CheckFast.beforeF ops).getD (max i j) 0).testBit (min i j)=true->(L.getD i false=true↔i<j):=by
   intro i cF hb;rcases gh i j with aT|hge
   ·rw[J2 (by omega),qU (by omega)]at hb
    exact⟨fun _=>aT,fun _=>yt i hb⟩
   ·rw[J5 hge,uU hge]at hb
    refine⟨fun ei=> ?_,fun h=>by omega⟩;have:=I.closed i ei j hb;rw[pf]at this;cases this
  have yu:∀t,(o.dst=some t\/t∈Ctx.fV ops o)->∀(i:Nat) p,ops[i]? =some p->p.dst=some t->i≠j->(L.getD i false=true↔i<j):=fun t ht i p hp hd cF=>
   oQ i cF (P5 mB ho hp hd cF ht)
  have eQ:=ct.b2 bb.b2
  have Du:∀x∈bd.op.operands,KW (fun t=>t∈Ctx.fV ops o) x:=by
   intro x hx;have h1:(o,bd)∈ops.toList.zip bM:=pY.2 ⟨j,by rw[Fi];exact⟨by rw[fM];exact ho,gk⟩⟩;have h2:=ev.1 su _ h1;simp only[Ctx.yf,ev]at h2;have ar:=h2 x hx;cases x with
   |tmp t=>exact s9.1 ar
   |var t=>exact s9.1 ar
   |const v=>trivial
   |func i=>trivial
  have KZ:∀t,t∈Ctx.fV ops o->bh fid az aG (dP vars (S j) t) (al.tmps.getD t undef):=fun t ht=>by
   refine I.env t j (by omega) fun i p hp hd=> ?_;by_cases cF:i=j
   ·subst cF;simp[pf]
   ·exact yu t (.inr ht) i p hp hd cF
  have kq:∀i,(L.setIfInBounds j true).getD i false=true↔i=j\/L.getD i false=true:=fun i=>wH lX
  have Au:∀(x:Value) (bR:World) (bu:bX),a8 C fid bu (S ops.size).H bR->(∀m,m<=(S (j+1)).low->Ext az aG bu bR m st.H.length)->(∀t,o.dst=some t->bh fid bu bR (dP vars (S (j+1)) t) x)->
    (∀i,i<ops.size->a7 i=true->i≠j->L.getD i false=false->bu.β (S i).H.length=Option.none)->wpAnyIn (eJ ro) 0 C.P .any ops Q fuel (L.setIfInBounds j true) (al.put o.dst x) bR:=by
   intro x bR bu p1 p2 p3 k8;have oP:=p2 0 (cJ _);refine yr _ bu _ bR ⟨by simp[I.size],fun x hx i hb=> ?_,p1,fun i hi ag rh=> ?_,fun t m hm et=> ?_,by rw[yq];exact I.qu,by rw[put_defers];exact I.defers,fun m hm=> ?_⟩ rfl
   ·rw[kq]at hx⊢
    rcases hx with rfl|hx
    ·exact .inr (yt i hb)
    ·exact .inr (I.closed x hx i hb)
   ·have bg:i≠j:=fun e=>by
     have:=(kq i).2 (.inl e);rw[this]at rh;cases rh
    refine k8 i hi ag bg ?_;cases ad:L.getD i false with
    |false=>rfl
    |true=>
     have:=(kq i).2 (.inr ad);rw[this]at rh;cases rh
   ·refine Ao (fun d hd=>by rw[I.qu];exact bc.lt d hd) (fun h=> ?_) (fun h=> ?_)
    ·have Gr:j<m:=(et j o ho h).1 ((kq j).2 (.inl rfl))
     have e:dP vars (S m) t=dP vars (S (j+1)) t:=by
      obtain⟨d,rfl⟩:=oz (show j+1<=m from Gr);refine T.slot (by omega) fun x p h1 h2 hp hd=> ?_;have tF:x≠j:=by omega
      have al:=(kq x).1 ((et x p hp hd).2 h2);have a2:=(yu t (.inl h) x p hp hd tF).1 (al.resolve_left tF);omega
     rw[e];exact p3 t h
    ·refine(I.env t m hm fun i p hp hd=> ?_).ext I.rel oP
     have cF:i≠j:=fun e=>by subst e;rw[ho]at hp;cases hp;exact h hd
     rw[<-et i p hp hd,kq];simp[cF]
   ·have af:=(T.nV bb.b2 (i:=j+1) (j:=ops.size) i6 (aH _)).1.low
    exact(I.ext m hm).trans (p2 m (by omega))
  by_cases ht:gr bd.op=true
  ·
   obtain⟨K0,es,z,bytes,mC,ac,dy⟩:=Ys lY gk ht;rcases ct with⟨hw,v,H1,bO,h1,aA,km⟩|⟨hw,-,-⟩
   case inr=>rw[K0]at hw;simp[gE]at hw
   have Al:o.guard=none:=by
    have:=bc.guard;rw[K0]at this;cases ba:o.guard with
    |none=>rfl
    |some p=>
     obtain⟨q,b⟩:=p;rw[ba]at this;simp only[Ctx.guard]at this;split at this<;>simp at this
   have K1:C.op vars o.pos o.op=.mkSlice es z bytes mC ac:=by rw[<-bc.op];exact dy
   obtain⟨ey,fk,c',eX,-⟩:=Yq K1;let hN:aj->V:=fun cO=>open Classical in if cO∈bd.op.operands then aj.ah (S j).aF (S j).au cO else .undef
   have aP:fB C fid vars az aG hN al.eval:=fun x cO hx=>by
    by_cases hin:cO∈bd.op.operands
    ·have wF:=Du cO hin
     simp only[hN,hin,if_true];cases x with
     |tmp t=>
      simp only[Ctx.cg,aB]at hx;have P2:t∈Ctx.fV ops o:=by rw[<-hx]at wF;split at wF<;>exact wF
      have:=KZ t P2;have e:cO.ah (S j).aF (S j).au=dP vars (S j) t:=by rw[<-hx];unfold dP;split<;>rfl
      rw[e];exact this
     |const u=>
      simp only[Ctx.cg]at hx;obtain⟨Yi,gv,rfl⟩:=cA.1 hx;rcases FY (I:=az.I) (w:=aG) u gv with rfl|hp
      ·exact .undef _
      ·exact .p _ _ hp
     |func f=>exact Pg bC hx
     |global g=>simp[Ctx.cg]at hx
    ·simp only[hN,hin,if_false];exact .undef _
   rw[dy]at h1;obtain⟨k,bF,n,m,af,ak,hb,sw⟩:=Yr h1
   have K2:hN mC=.int k n:=by
    have:mC∈bd.op.operands:=by rw[dy];simp[cV.operands]
    simp only[hN,this,if_true];exact af
   have Gt:hN ac=.int bF m:=by
    have:ac∈bd.op.operands:=by rw[dy];simp[cV.operands]
    simp only[hN,this,if_true];exact ak
   obtain⟨iV,e,cells,cm,lU,hu,pr⟩:=run_mk (w:=aG) aP K1 K2 Gt hb;refine Yu ho Al (by rw[eX];simp) cm ?_;have gl:=kI {S j with H:=H1,low:=min (S j).low bO} bd.dst v
   have lH:∀t,o.dst=some t->dP vars (S (j+1)) t=v:=fun t ht=>by
    rw[aA];rcases bc.dst with⟨h2,-⟩|⟨d,-,h2,ar⟩
    ·rw[h2]at ht;cases ht
    ·rw[h2]at ht;cases ht
     rw[ar,Gk,if_pos rfl]
   rcases sw with⟨nn,rfl,rfl,-⟩|⟨nn,rfl,Dv,-⟩
   ·subst nn
    have hk:∀b,b<aG.heap.size->(aG.alloc (.cells cells e)).heap[b]? =aG.heap[b]? :=fun b hb=>alloc_old hb;refine Au _ _ az (I.rel.restore (by simp) hk) (fun m _=>.restore (by simp) hk rfl rfl m _) (fun t ht=> ?_) fun i hi ag _ ei=>I.free i hi ag ei;rw[lH t ht];exact .p _ _ (.emp _)
   ·have iw:a7 j=true:=by rw[km,Dv];simp[ew]
    have tH:=I.free j i6 iw pf
    have Av:(S ops.size).H[(S j).H.length]? =some (.row es (List.replicate n.toNat (lz z)) false):=by
     obtain⟨d,hd⟩:=oz (show j+1<=ops.size from i6);rw[hd];refine Qc T bb.b2 lY (by omega) _ _ ?_;rw[aA,gl.1,Dv];simp
    have amx:0<n.toNat:=by omega
    have Qd:=I.rel.place tH Av (.cells cells e) n.toNat cells.size ⟨by simp,by simpa using amx,rfl,iV,hu,cells,e,cells.toList,[],mr _ _,rfl,by simp,pr _ _⟩;refine Au _ _ _ Qd (fun m _=>.place tH _ _ _ m (tG j (by omega))) (fun t ht=> ?_) fun i hi ag cF ei=> ?_
    ·rw[lH t ht]
     refine .bJ _ _ 0 n.toNat n.toNat ⟨aG.heap.size,n.toNat,cells.size,false⟩ _ _ _ (dr _ _ _) (aH _) (fun _=>⟨by simp,rfl,?_,aH _⟩);rw[lU,dA];exact aH _
    ·have bg:(S i).H.length≠(S j).H.length:=by
      rcases gh i j with q|q
      ·have:=Yt T bb.b2 lY q i6 ag;omega
      ·have:=Yt T bb.b2 lY (show j<i by omega) hi iw;omega
     show cp az.β (S j).H.length _ (S i).H.length=_;rw[dE bg];exact I.free i hi ag ei
  ·have eh:gr bd.op=false:=by simpa using ht
   have iw:a7 j=false:=by
    cases ag:a7 j with
    |false=>rfl
    |true=>have:=ct.gr ag;rw[eh]at this;cases this
   refine Am (T:=fun t=>t∈Ctx.fV ops o) (Hc:=(S ops.size).H) bC bb ho bc ct I.rel (fun q=>absurd q ht) ?_ KZ Du (fun q want d ba hd=> ?_) I.qu ?_
   ·have af:=(T.nV bb.b2 (i:=0) (j:=j) (cJ _) (by omega)).1.low
    have ak:=tG ops.size (aH _);rw[<-pz.2]at af;omega
   ·simp only[Ctx.fV,iq]
    right;rw[ba];simp only[];rw[hd];simp
   ·intro x bR bu p1 p2 p3
    rw[iw]at p1;refine Au x bR bu p1 (fun m hm=>(p2 m hm).le (aH _) (tG ops.size (aH _))) p3 fun i hi ag cF ei=> ?_;have tH:=I.free i hi ag ei;cases hb:bu.β (S i).H.length with
    |none=>rfl
    |some h'=>
     exfalso;rcases(p2 0 (cJ _)).oE _ _ hb with⟨h,e8,-⟩|⟨hge,-⟩
     ·rw[tH]at e8;cases e8
     ·obtain⟨d,hd⟩:=oz (show i+1<=ops.size from hi)
      have h2:=(T.nV bb.b2 (i:=i+1) (j:=ops.size) hi (aH _)).1.len;rcases Qb T bb.b2 lY hi with⟨q,-⟩|⟨-,o',q⟩
      ·rw[ag]at q;cases q
      ·rw[q]at h2;simp at h2;omega
 have key:∀(fuel:Nat) (L:Array Bool) (az:bX) (al:Act) (aG:World),Gs C fid vars N ops S a7 G w a st.H.length L az al aG->(List.range ops.size).countP (fun i=>!L.getD i false)<=fuel->
   wpAnyIn (eJ ro) 0 C.P .any ops Q fuel L al aG:=by
  intro fuel
  induction fuel with
  |zero=>
   intro L az al aG I hc
   have eP:∀i,i<ops.size->L.getD i false=true:=fun i hi=>by
    have h1:=List.countP_eq_zero.1 (Nat.le_zero.1 hc) i (by simpa using hi);simpa using h1
   refine⟨?_,nW _ _ _ _ I eP⟩;cases hr:Region.ready .any ops L with
   |nil=>rfl
   |cons i r=>
    obtain⟨h1,o,ho,-⟩:=mem_ready.1 (show i∈Region.ready .any ops L by rw[hr];simp);have hi:i<ops.size:=(uP.1 ho).1;have h2:=eP i hi;have:i<L.size:=by rw[I.size];exact hi
    simp only[Array.getD,this,dif_pos]at h1 h2;rw[h1]at h2;cases h2
  |succ fuel ih=>
   intro L az al aG I hc;refine⟨fun hr=>nW _ _ _ _ I (Gn _ _ _ _ I hr),fun j hj=>jl fuel L az al aG j I hj fun ib G' bk w' sc e=>ih ib G' bk w' sc ?_⟩;subst e;obtain⟨h1,o,ho,-⟩:=mem_ready.1 hj;have i6:j<ops.size:=(uP.1 ho).1;have lX:j<L.size:=by rw[I.size];exact i6
   have aT:(List.range ops.size).countP (fun i=>!(L.setIfInBounds j true).getD i false)<(List.range ops.size).countP (fun i=>!L.getD i false):=by
    refine P7 (a:=j) (fun x _ hx=> ?_) (by simpa using i6) ?_ ?_
    ·cases ad:L.getD x false with
     |false=>rfl
     |true=>
      have:=(wH (i:=x) lX).2 (.inr ad);rw[this]at hx;cases hx
    ·simp only[Array.getD,lX,dif_pos]at h1⊢; rw[h1];rfl
    ·have:=(wH (i:=j) lX).2 (.inl rfl)
     rw[this];rfl
   omega
 refine wpIn_region_any cD ?_;have hw:({w with drawn:=w.drawn+1}:World).heap=w.heap:=rfl;have jD:=(ab.clear).jT hw;rw[<-h0]at jD
 have jX:∀i,(Array.replicate ops.size false).getD i false=false:=fun i=>by
  by_cases h:i<ops.size
  ·simp[h]
  ·simp[h]
 refine key ops.size (Array.replicate ops.size false) G a {w with drawn:=w.drawn+1} ⟨by simp,fun x hx=>absurd hx (by rw[jX];simp),jD.rel.longer fun l o hl=> ?_,fun i hi ag _=> ?_,fun t m hm et=> ?_,jD.size,rfl,fun m _=>Ext.jT hw rfl rfl m _⟩ ?_
 ·have:=Qc T bb.b2 lY (i:=0) (k:=ops.size) (by omega) l o hl
  rw[dA]at this;exact this
 ·exact ab.rel.none (tG i (by omega))
 ·have e:dP vars (S m) t=dP vars (S 0) t:=by
   have:=T.slot (t:=t) (i:=0) (k:=m) (by omega) fun x p h1 h2 hp hd=>by
    have:=(et x p hp hd).2 (by omega);rw[jX]at this;cases this
   rw[dA]at this;exact this
  rw[e];exact jD.env t
 ·refine cY List.countP_le_length (by simp)
end
end Go.Abs
namespace Go.Abs
open Go
variable{C:Ctx}{fid:Nat->Nat}{w w':World}{G G':bX}{H H':Heap}
theorem amy{vars:List Nat}{pos:String}{op:Op}{z:List V}(hc:C.op vars pos op=.alloc z):∃t z0,op=.alloc t/\C.zeroCells t=some z0/\z=C.mark t z0:=by
 have cP:C.cX vars pos op=some (.alloc z):=by
  unfold Ctx.op at hc;cases h:C.cX vars pos op with
  |none=>rw[h]at hc;cases hc
  |some a=>rw[h]at hc;simp only[oB]at hc;rw[hc]
 cases ho:op with
 |alloc t=>
  rw[ho]at cP;simp only[Ctx.cX]at cP;obtain⟨rf,h1,h2⟩:=cA.1 cP;cases h2;exact⟨t,rf,rfl,h1,rfl⟩
 |call c=>
  exfalso;rw[ho]at cP;obtain⟨callee,args,dU⟩:=c;cases callee with
  |value f=>
   simp only[Ctx.cX]at cP;split at cP<;>simp at cP
  |builtin b=>
   simp only[Ctx.cX]at cP;unfold Ctx.builtin at cP
   repeat' split at cP
   all_goals first
    |(cases cP;done)
    |(simp only[aB,reduceCtorEq]at cP;done)
    |(obtain⟨_,_,h⟩:=cA.1 cP;cases h;done)
  |invoke r n=>simp[Ctx.cX]at cP
 |binOp a b c d e=>
  exfalso;rw[ho]at cP;simp only[Ctx.cX,Ctx.zS]at cP
  repeat' split at cP
  all_goals first
   |(cases cP;done)
   |(obtain⟨_,_,h⟩:=cA.1 cP;cases h;done)
 |makeFunc g a b=>
  exfalso;rw[ho]at cP;cases g with
  |func f=>
   simp only[Ctx.cX]at cP;split at cP<;>simp at cP
  | _=>simp[Ctx.cX]at cP
 |makeMap t r=>
  exfalso;rw[ho]at cP;cases r<;>simp[Ctx.cX]at cP
 | _=>
   exfalso;rw[ho]at cP;simp only[Ctx.cX]at cP
   repeat' split at cP
   all_goals first
    |(cases cP;done)
    |(obtain⟨_,_,h⟩:=cA.1 cP;cases h;done)
theorem amz{vars:List Nat}{ρ:Operand->Value}{o:Oper}{pos:String}{z:List V}(dy:C.op vars pos o.op=.alloc z):
  ∃t cells,o.op=.alloc t/\(execOp ρ o).run C.P w=.ok (.value (.pointer (some ⟨w.heap.size,0,none⟩))) (w.alloc (.cells cells t))/\(∀G' w',a6 fid G' w' z cells.toList)/\∀(w':World) b,w'.heap[b]? =some (.cells cells t (0,0))->FT C w' b z:=by
 obtain⟨t,z0,ho,aR,rfl⟩:=amy dy;obtain⟨b8,nq,oK,bc,i,hi,-⟩:=Ga (fid:=fid) aR;refine⟨t,b8.cells,ho,?_,fun G' w'=>XH (oK G' w'),fun w' b hb=>XI (G:=⟨fun _=>none,fun _=>False⟩) (fid:=fid) (w:=w) bc (oK _ _) hb⟩;unfold execOp;rw[ho];simp only[Instr.alloc,Sem.run_bind,nq,Result.andThen_ok,Sem.run_pure,newVar,newRow,run_newObj,World.alloc_eq]
section
variable{vars:List Nat}{N:Nat}{ops:Array Oper}{bM:List bS}{call:cW}{S:Nat->av}{a7:Nat->Bool}
structure K3 (ops:Array Oper) (bM:List bS) (call:cW) (S:Nat->av) (a7:Nat->Bool) (p q:Nat):Prop where
 amA:p<=q
 Yv:q<=ops.size
 still:∀i,i<p->a7 i=false
 writer:∀i,q<=i->i<ops.size->a7 i=true->∀(j:Nat) bd,p<=j->bM[j]? =some bd->gr bd.op=true->i≠j->((CheckFast.beforeF ops).getD (max i j) 0).testBit (min i j)=true
 behind:∀(j:Nat) bd,q<=j->bM[j]? =some bd->gr bd.op=true->∀i,p<=i->i<q->((CheckFast.beforeF ops).getD j 0).testBit i=true
 alloc:∀i,p<=i->i<q->∃bd z,bM[i]? =some bd/\bd.op=.alloc z/\bd.guard=none
 jz:∀(j:Nat) bd k,j<p->q<=k->k<=ops.size->bM[j]? =some bd->gr bd.op=true->jz call (bd,S j,(S k).H)=true
structure Gu (C:Ctx) (fid:Nat->Nat) (vars:List Nat) (N:Nat) (ops:Array Oper) (S:Nat->av) (a7:Nat->Bool) (p q:Nat) (G:bX) (w:World) (a:Act) (px:Nat)
  (L:Array Bool) (k:Nat) (az:bX) (al:Act) (aG:World):Prop where
 size:L.size=ops.size
 closed:∀x,L.getD x false=true->∀i,((CheckFast.beforeF ops).getD x 0).testBit i=true->L.getD i false=true
 Yw:q<=k
 wG:k<=ops.size
 sv:∀i,q<=i->i<ops.size->a7 i=true->(L.getD i false=true↔i<k)
 rel:a8 C fid az (S k).H aG
 free:∀i,p<=i->i<q->L.getD i false=false->az.β (S i).H.length=Option.none
 env:∀t m,m<=ops.size->(∀(i:Nat) o,ops[i]? =some o->o.dst=some t->(L.getD i false=true↔i<m))->bh fid az aG (dP vars (S m) t) (al.tmps.getD t undef)
 qu:al.tmps.size=N
 defers:al.defers=a.defers
 ext:∀m,m<=(S ops.size).low->Ext G w az aG m px
theorem K4 (T:ia C vars N ops bM call S a7){p q:Nat}(hl:K3 ops bM call S a7 p q){i:Nat}(h1:p<=i)(h2:i<q):
  a7 i=true/\∃z,(S (i+1)).H=(S i).H++[.cells z]/\∃bd,bM[i]? =some bd/\bd.op=.alloc z/\bd.guard=none/\S (i+1)=({S i with H:=(S i).H++[.cells z],low:=min (S i).low (S i).H.length}:av).put bd.dst (.ptr (S i).H.length 0):=by
 have Yx:=hl.Yv;obtain⟨bd,z,ha,dy,ba⟩:=hl.alloc i h1 h2;obtain⟨o,amB,ho,gk,bc,ct⟩:=T.get (i:=i) (by omega);rw[ha]at gk;cases gk;rcases ct with⟨hw,v,H1,bO,af,aA,km⟩|⟨hw,-,-⟩
 case inr=>rw[ba]at hw;simp[gE]at hw
 rw[dy]at af;have K2:step (aj.ah (S i).aF (S i).au) (S i).H (S i).H.length (.alloc z)=some (v,H1,bO):=af;simp only[step,aB,bx]at K2;obtain⟨rfl,rfl,rfl⟩:=K2;refine⟨by rw[km];simp[ew],z,?_,bd,ha,dy,ba,aA⟩;rw[aA];exact(kI _ _ _).1
theorem Qe (T:ia C vars N ops bM call S a7){p q:Nat}(hl:K3 ops bM call S a7 p q){i:Nat}(h1:p<=i):∀{k:Nat},i+k<=q->∀(l:Nat) (o:b5),(S i).H[l]? =some o->(S (i+k)).H[l]? =some o
 |0,_,l,o,h=>h
 |k+1,hk,l,o,h=>by
  have ih:=Qe T hl h1 (k:=k) (by omega) l o h;obtain⟨-,z,e,-⟩:=K4 T hl (i:=i+k) (by omega) (by omega);show(S (i+k+1)).H[l]? =some o;rw[e,e5 ((fj.1 ih).1)];exact ih
theorem amC{id:Nat}{st aQ:av}{a:Act}{Q:Exit->Act->World->Prop}{ro:Option Nat}(cD:C.P.follows .mixedOrders=true)(bC:e7 C fid)(bb:gS C fid call)
  (hm:dM (C.oper vars N ops) ops.toList=some bM) (jm:Ctx.zT ops=true) (mB:Ctx.zU ops=true) (su:(ops.toList.zip bM).all (fun(o,a)=>Ctx.yf ops o a)=true)
  {S:Nat->av} {a7:Nat->Bool} (h0:S 0={st with aF:=[]}) (hn:S ops.size=aQ) (T:ia C vars N ops bM call S a7) {p q:Nat} (hl:K3 ops bM call S a7 p q) (ab:dI C fid vars N G st a w)
  (dJ:∀G' bk w',dI C fid vars N G' aQ bk w'->(∀m,m<=aQ.low->Ext G w G' w' m st.H.length)->bk.defers=a.defers->Q .normal bk w'):
  (Code.region id ops true).wpIn (eJ ro) 0 C.P Q a w:=by
 have pz:st.H=(S 0).H/\st.low=(S 0).low:=by rw[h0];exact⟨rfl,rfl⟩
 have Gm:st.low<=st.H.length:=ab.low;have Aq:=hl.amA;have Yx:=hl.Yv
 have tG:∀k,k<=ops.size->st.H.length<=(S k).H.length:=fun k hk=>by
  have:=(T.nV bb.b2 (i:=0) (j:=k) (cJ _) hk).1.len;rw[<-pz.1]at this;exact this
 have amD:∀j,j<=p->(S j).H=(S 0).H:=fun j hj=>by
  have:=T.heap bb.b2 (i:=0) (k:=j) (by omega) fun x _ h2=>hl.still x (by omega);rw[dA]at this;exact this
 have amE:∀i,p<=i->i<q->∀k,q<=k->k<=ops.size->(S i).H.length<(S k).H.length:=fun i h1 h2 k ar aS=>by
  obtain⟨-,z,e,-⟩:=K4 T hl h1 h2;have:=(T.nV bb.b2 (i:=i+1) (j:=k) (by omega) aS).1.len;rw[e]at this;simp at this;omega
 have nW:∀L k az al aG,Gu C fid vars N ops S a7 p q G w a st.H.length L k az al aG->(∀i,i<ops.size->L.getD i false=true)->Q .normal al aG:=by
  intro L k az al aG I eP
  have hk:(S ops.size).H=(S k).H:=by
   have Dw:=I.Yw;obtain⟨d,hd⟩:=oz I.wG;rw[hd];refine T.heap bb.b2 (by omega) fun x h1 h2=> ?_;cases ag:a7 x with
   |false=>rfl
   |true=>have:=(I.sv x (by omega) (by omega) ag).1 (eP x (by omega));omega
  refine dJ az al aG ?_ (fun m hm=>I.ext m (by rw[hn];exact hm)) I.defers;rw[<-hn];refine⟨by rw[hk];exact I.rel,fun t=>I.env t ops.size (aH _) fun i o ho _=> ?_,I.qu,?_⟩
  ·have:i<ops.size:=(uP.1 ho).1
   simp[this,eP i this]
  ·exact(T.nV bb.b2 (cJ _) (aH _)).bound (by rw[<-pz.1,<-pz.2];exact Gm)
 have Gn:∀L k az al aG,Gu C fid vars N ops S a7 p q G w a st.H.length L k az al aG->Region.ready .any ops L=[]->∀i,i<ops.size->L.getD i false=true:=by
  intro L k az al aG I hr i
  induction i using Nat.strongRecOn with
  | _ i ih=>
    intro hi;cases ei:L.getD i false with
    |true=>rfl
    |false=>
     exfalso
     have:i∈Region.ready .any ops L:=mem_ready.2 ⟨by
      have:i<L.size:=by rw[I.size];exact hi
      simp only[Array.getD,this,dif_pos]at ei⊢; exact ei,ops[i],by simp[hi],fun e he hb=>by
       have aT:=P6 jm (j:=i) (o:=ops[i]) (by simp[hi]) he hb;exact ih e.on aT (by omega)⟩
     rw[hr]at this;cases this
 have jl:∀(fuel:Nat) (L:Array Bool) (k:Nat) (az:bX) (al:Act) (aG:World) (j:Nat),Gu C fid vars N ops S a7 p q G w a st.H.length L k az al aG->j∈Region.ready .any ops L->
   (∀ib bF G' bk w',Gu C fid vars N ops S a7 p q G w a st.H.length ib bF G' bk w'->ib=L.setIfInBounds j true->wpAnyIn (eJ ro) 0 C.P .any ops Q fuel ib bk w')->
   wpOpIn (eJ ro) 0 C.P ops Q j (wpAnyIn (eJ ro) 0 C.P .any ops Q fuel (L.setIfInBounds j true)) al aG:=by
  intro fuel L k az al aG j I hj yr;obtain⟨ys,o,ho,Gp⟩:=mem_ready.1 hj;have i6:j<ops.size:=(uP.1 ho).1;have lX:j<L.size:=by rw[I.size];exact i6
  have pf:L.getD j false=false:=by simp only[Array.getD,lX,dif_pos]at ys⊢; exact ys
  have Dw:=I.Yw;have tI:=I.wG;obtain⟨o',bd,jU,gk,bc,ct⟩:=T.get i6;rw[ho]at jU;cases jU
  have yt:∀i,((CheckFast.beforeF ops).getD j 0).testBit i=true->L.getD i false=true:=fun i hb=>by
   obtain⟨e,mz,nR,qv⟩:=P4 ho hb;have hl:=Gp e mz nR;rcases qv with rfl|qv
   ·exact hl
   ·exact I.closed e.on hl i qv
  have oQ:∀i,i≠j->((CheckFast.beforeF ops).getD (max i j) 0).testBit (min i j)=true->(L.getD i false=true↔i<j):=by
   intro i cF hb;rcases gh i j with aT|hge
   ·rw[J2 (by omega),qU (by omega)]at hb
    exact⟨fun _=>aT,fun _=>yt i hb⟩
   ·rw[J5 hge,uU hge]at hb
    refine⟨fun ei=> ?_,fun h=>by omega⟩;have:=I.closed i ei j hb;rw[pf]at this;cases this
  have yu:∀t,(o.dst=some t\/t∈Ctx.fV ops o)->∀(i:Nat) p,ops[i]? =some p->p.dst=some t->i≠j->(L.getD i false=true↔i<j):=fun t ht i p hp hd cF=>
   oQ i cF (P5 mB ho hp hd cF ht)
  have eQ:=ct.b2 bb.b2
  have Du:∀x∈bd.op.operands,KW (fun t=>t∈Ctx.fV ops o) x:=by
   intro x hx;have h1:(o,bd)∈ops.toList.zip bM:=pY.2 ⟨j,by rw[Fi];exact⟨by rw[fM];exact ho,gk⟩⟩;have h2:=ev.1 su _ h1;simp only[Ctx.yf,ev]at h2;have ar:=h2 x hx;cases x with
   |tmp t=>exact s9.1 ar
   |var t=>exact s9.1 ar
   |const v=>trivial
   |func i=>trivial
  have KZ:∀t,t∈Ctx.fV ops o->bh fid az aG (dP vars (S j) t) (al.tmps.getD t undef):=fun t ht=>by
   refine I.env t j (by omega) fun i p hp hd=> ?_;by_cases cF:i=j
   ·subst cF;simp[pf]
   ·exact yu t (.inr ht) i p hp hd cF
  have kq:∀i,(L.setIfInBounds j true).getD i false=true↔i=j\/L.getD i false=true:=fun i=>wH lX
  have amF:p<=j->j<q->gr bd.op=true->(S k).H=(S q).H:=fun Yy Yz ht=>by
   obtain⟨d,rfl⟩:=oz Dw;refine T.heap bb.b2 (by omega) fun x h1 h2=> ?_;cases ag:a7 x with
   |false=>rfl
   |true=>
    have hx:=(I.sv x h1 (by omega) ag).2 h2;have hb:=hl.writer x h1 (by omega) ag j bd Yy gk ht (by omega);rw[J5 (by omega),uU (by omega)]at hb;have:=I.closed x hx j hb;rw[pf]at this;cases this
  have Au:∀(bF:Nat) (x:Value) (bR:World) (bu:bX),q<=bF->bF<=ops.size->(∀i,q<=i->i<ops.size->a7 i=true->(i=j\/L.getD i false=true↔i<bF))->a8 C fid bu (S bF).H bR->(∀m,m<=(S (j+1)).low->Ext az aG bu bR m st.H.length)->(∀t,o.dst=some t->bh fid bu bR (dP vars (S (j+1)) t) x)->
    (∀i,p<=i->i<q->i≠j->L.getD i false=false->bu.β (S i).H.length=Option.none)->wpAnyIn (eJ ro) 0 C.P .any ops Q fuel (L.setIfInBounds j true) (al.put o.dst x) bR:=by
   intro bF x bR bu q1 q2 cn p1 p2 p3 k8;have oP:=p2 0 (cJ _);refine yr _ bF bu _ bR ⟨by simp[I.size],fun x hx i hb=> ?_,q1,q2,fun i h1 h2 ag=>by rw[kq];exact cn i h1 h2 ag,p1,fun i hi ag rh=> ?_,fun t m hm et=> ?_,by rw[yq];exact I.qu,by rw[put_defers];exact I.defers,fun m hm=> ?_⟩ rfl
   ·rw[kq]at hx⊢
    rcases hx with rfl|hx
    ·exact .inr (yt i hb)
    ·exact .inr (I.closed x hx i hb)
   ·have bg:i≠j:=fun e=>by
     have:=(kq i).2 (.inl e);rw[this]at rh;cases rh
    refine k8 i hi ag bg ?_;cases ad:L.getD i false with
    |false=>rfl
    |true=>
     have:=(kq i).2 (.inr ad);rw[this]at rh;cases rh
   ·refine Ao (fun d hd=>by rw[I.qu];exact bc.lt d hd) (fun h=> ?_) (fun h=> ?_)
    ·have Gr:j<m:=(et j o ho h).1 ((kq j).2 (.inl rfl))
     have e:dP vars (S m) t=dP vars (S (j+1)) t:=by
      obtain⟨d,rfl⟩:=oz (show j+1<=m from Gr);refine T.slot (by omega) fun x p h1 h2 hp hd=> ?_;have tF:x≠j:=by omega
      have al:=(kq x).1 ((et x p hp hd).2 h2);have a2:=(yu t (.inl h) x p hp hd tF).1 (al.resolve_left tF);omega
     rw[e];exact p3 t h
    ·refine(I.env t m hm fun i p hp hd=> ?_).ext I.rel oP
     have cF:i≠j:=fun e=>by subst e;rw[ho]at hp;cases hp;exact h hd
     rw[<-et i p hp hd,kq];simp[cF]
   ·have af:=(T.nV bb.b2 (i:=j+1) (j:=ops.size) i6 (aH _)).1.low
    exact(I.ext m hm).trans (p2 m (by omega))
  by_cases hA:p<=j/\j<q
  ·
   obtain⟨h1,h2⟩:=hA;obtain⟨iw,z,amG,amB,YA,dy,K0,aA⟩:=K4 T hl h1 h2;rw[gk]at YA;cases YA
   have Al:o.guard=none:=by
    have:=bc.guard;rw[K0]at this;cases ba:o.guard with
    |none=>rfl
    |some p=>
     obtain⟨q,b⟩:=p;rw[ba]at this;simp only[Ctx.guard]at this;split at this<;>simp at this
   have K1:C.op vars o.pos o.op=.alloc z:=by rw[<-bc.op];exact dy
   obtain⟨ty,cells,eX,cm,pr,amH⟩:=amz (fid:=fid) (w:=aG) (ρ:=al.eval) K1;refine Yu ho Al (by rw[eX];simp) cm ?_
   have lH:∀t,o.dst=some t->dP vars (S (j+1)) t=.ptr (S j).H.length 0:=fun t ht=>by
    rw[aA];rcases bc.dst with⟨h2,-⟩|⟨d,-,h2,ar⟩
    ·rw[h2]at ht;cases ht
    ·rw[h2]at ht;cases ht
     rw[ar,Gk,if_pos rfl]
   have hk:(S k).H=(S q).H:=amF h1 h2 (by rw[dy];rfl);have tH:=I.free j h1 h2 pf
   have hcell:(S k).H[(S j).H.length]? =some (.cells z):=by
    rw[hk];obtain⟨d,hd⟩:=oz (show j+1<=q from h2);rw[hd];refine Qe T hl (by omega) (by omega) _ _ ?_;rw[amG];simp
   have Qd:=I.rel.place tH hcell (.cells cells ty) 0 0 ⟨⟨rfl,amH _ _ (mr _ _)⟩,rfl,cells,ty,mr _ _,pr _ _⟩;refine Au k _ _ _ Dw tI (fun i q1 q2 ag=> ?_) Qd (fun m _=>.place tH _ _ _ m (tG j (by omega))) (fun t ht=> ?_) fun i YB rh cF ei=> ?_
   ·rw[<-I.sv i q1 q2 ag]
    exact⟨fun h=>h.resolve_left (by omega),.inr⟩
   ·rw[lH t ht]
    exact .ptr _ _ ⟨aG.heap.size,0,0,false⟩ (dr _ _ _) rfl
   ·have bg:(S i).H.length≠(S j).H.length:=by
     have key:∀i j,p<=i->i<q->i<j->j<q->(S i).H.length<(S j).H.length:=fun i j al a2 a3 a4=>by
      obtain⟨-,z,e,-⟩:=K4 T hl al a2;have:=(T.nV bb.b2 (i:=i+1) (j:=j) (by omega) (by omega)).1.len;rw[e]at this;simp at this;omega
     rcases Nat.lt_or_gt_of_ne cF with c|c
     ·have:=key i j YB rh c h2;omega
     ·have:=key j i h1 h2 c rh;omega
    show cp az.β (S j).H.length _ (S i).H.length=_;rw[dE bg];exact I.free i YB rh ei
  ·
   have P9:gr bd.op=true->(S k).H=(S j).H\/(a7 j=false/\(gE (S j).aF (S j).au bd.guard=some true->∀v H1 bO,cc call (aj.ah (S j).aF (S j).au) (S j).H (S j).H.length bd.op=some (v,H1,bO)->∃H2 dH,cc call (aj.ah (S j).aF (S j).au) (S k).H (S k).H.length bd.op=some (v,H2,dH)/\ew (S k).H H2 dH=false)):=by
    intro ht;rcases gh j p with hjp|hjp
    ·refine .inr ⟨hl.still j hjp,fun hw v H1 bO h1=> ?_⟩
     have nX:=hl.jz j bd k hjp Dw tI gk ht;unfold Abs.jz at nX;simp only[hw,h1]at nX;split at nX
     ·rename_i v' H2 dH h2
      simp only[b6,kB]at nX;have:=wE _ _ nX.1;subst this;exact⟨H2,dH,h2,nX.2⟩
     ·cases nX
    ·have Yz:q<=j:=by
      rcases gh j q with c|c
      ·exact absurd ⟨hjp,c⟩ hA
      ·exact c
     left;have Gq:∀x,q<=x->x<ops.size->a7 x=true->x≠j->(L.getD x false=true↔x<j):=fun x h1 h2 ag hx=>oQ x hx (hl.writer x h1 h2 ag j bd hjp gk ht hx);rcases Nat.le_total k j with wI|hjk
     ·obtain⟨d,rfl⟩:=oz wI
      refine(T.heap bb.b2 (by omega) fun x h1 h2=> ?_).symm;cases ag:a7 x with
      |false=>rfl
      |true=>
       have al:=(Gq x (by omega) (by omega) ag (by omega)).2 (by omega);have a2:=(I.sv x (by omega) (by omega) ag).1 al;omega
     ·obtain⟨d,rfl⟩:=oz hjk
      refine T.heap bb.b2 (by omega) fun x h1 h2=> ?_;cases ag:a7 x with
      |false=>rfl
      |true=>
       have a2:=(I.sv x (by omega) (by omega) ag).2 (by omega);by_cases hx:x=j
       ·subst hx;rw[pf]at a2;cases a2
       ·have:=(Gq x (by omega) (by omega) ag hx).1 a2;omega
   have Qa:(S j).low<=(S k).H.length:=by
    have af:=(T.nV bb.b2 (i:=0) (j:=j) (cJ _) (by omega)).1.low;have ak:=tG k tI;rw[<-pz.2]at af;omega
   refine Am (T:=fun t=>t∈Ctx.fV ops o) bC bb ho bc ct I.rel P9 Qa KZ Du (fun q want d ba hd=> ?_) I.qu ?_
   ·simp only[Ctx.fV,iq]
    right;rw[ba];simp only[];rw[hd];simp
   ·intro x bR bu p1 p2 p3
    have YC:∀i,p<=i->i<q->i≠j->L.getD i false=false->bu.β (S i).H.length=Option.none:=fun i h1 h2 cF ei=>by
     have tH:=I.free i h1 h2 ei;cases hb:bu.β (S i).H.length with
     |none=>rfl
     |some h'=>
      exfalso;rcases(p2 0 (cJ _)).oE _ _ hb with⟨h,e8,-⟩|⟨hge,-⟩
      ·rw[tH]at e8;cases e8
      ·have:=amE i h1 h2 k Dw tI;omega
    have YD:∀m,m<=(S (j+1)).low->Ext az aG bu bR m st.H.length:=fun m hm=>(p2 m hm).le (aH _) (tG k tI);cases iw:a7 j with
    |false=>
     rw[iw]at p1;refine Au k x bR bu Dw tI (fun i q1 q2 ag=> ?_) p1 YD p3 YC;rw[<-I.sv i q1 q2 ag];exact⟨fun h=>h.resolve_left (fun e=>by rw[e,iw]at ag;cases ag),.inr⟩
    |true=>
     rw[iw]at p1
     have Yz:q<=j:=by
      rcases gh j q with c|c
      ·rcases gh j p with c'|c'
       ·rw[hl.still j c']at iw;cases iw
       ·exact absurd ⟨c',c⟩ hA
      ·exact c
     refine Au (j+1) x bR bu (by omega) i6 (fun i q1 q2 ag=> ?_) p1 YD p3 YC;by_cases cF:i=j
     ·subst cF;simp
     ·have:=oQ i cF (hl.writer i q1 q2 ag j bd (by omega) gk (ct.gr iw) cF)
      simp only[cF,false_or];rw[this];omega
 have key:∀(fuel:Nat) (L:Array Bool) (k:Nat) (az:bX) (al:Act) (aG:World),Gu C fid vars N ops S a7 p q G w a st.H.length L k az al aG->(List.range ops.size).countP (fun i=>!L.getD i false)<=fuel->
   wpAnyIn (eJ ro) 0 C.P .any ops Q fuel L al aG:=by
  intro fuel
  induction fuel with
  |zero=>
   intro L k az al aG I hc
   have eP:∀i,i<ops.size->L.getD i false=true:=fun i hi=>by
    have h1:=List.countP_eq_zero.1 (Nat.le_zero.1 hc) i (by simpa using hi);simpa using h1
   refine⟨?_,nW _ _ _ _ _ I eP⟩;cases hr:Region.ready .any ops L with
   |nil=>rfl
   |cons i r=>
    obtain⟨h1,o,ho,-⟩:=mem_ready.1 (show i∈Region.ready .any ops L by rw[hr];simp);have hi:i<ops.size:=(uP.1 ho).1;have h2:=eP i hi;have:i<L.size:=by rw[I.size];exact hi
    simp only[Array.getD,this,dif_pos]at h1 h2;rw[h1]at h2;cases h2
  |succ fuel ih=>
   intro L k az al aG I hc;refine⟨fun hr=>nW _ _ _ _ _ I (Gn _ _ _ _ _ I hr),fun j hj=>jl fuel L k az al aG j I hj fun ib bF G' bk w' sc e=>ih ib bF G' bk w' sc ?_⟩;subst e;obtain⟨h1,o,ho,-⟩:=mem_ready.1 hj;have i6:j<ops.size:=(uP.1 ho).1;have lX:j<L.size:=by rw[I.size];exact i6
   have aT:(List.range ops.size).countP (fun i=>!(L.setIfInBounds j true).getD i false)<(List.range ops.size).countP (fun i=>!L.getD i false):=by
    refine P7 (a:=j) (fun x _ hx=> ?_) (by simpa using i6) ?_ ?_
    ·cases ad:L.getD x false with
     |false=>rfl
     |true=>
      have:=(wH (i:=x) lX).2 (.inr ad);rw[this]at hx;cases hx
    ·simp only[Array.getD,lX,dif_pos]at h1⊢; rw[h1];rfl
    ·have:=(wH (i:=j) lX).2 (.inl rfl)
     rw[this];rfl
   omega
 refine wpIn_region_any cD ?_;have hw:({w with drawn:=w.drawn+1}:World).heap=w.heap:=rfl;have jD:=(ab.clear).jT hw;rw[<-h0]at jD
 have jX:∀i,(Array.replicate ops.size false).getD i false=false:=fun i=>by
  by_cases h:i<ops.size
  ·simp[h]
  ·simp[h]
 refine key ops.size (Array.replicate ops.size false) q G a {w with drawn:=w.drawn+1} ⟨by simp,fun x hx=>absurd hx (by rw[jX];simp),aH _,Yx,fun i h1 _ ag=>by rw[jX];simp;omega,jD.rel.longer fun l o lS=> ?_,fun i h1 h2 _=> ?_,fun t m hm et=> ?_,jD.size,rfl,fun m _=>Ext.jT hw rfl rfl m _⟩ ?_
 ·rw[<-amD p (aH _)]at lS
  obtain⟨d,hd⟩:=oz Aq;rw[hd];exact Qe T hl (aH _) (by omega) l o lS
 ·exact ab.rel.none (tG i (by omega))
 ·have e:dP vars (S m) t=dP vars (S 0) t:=by
   have:=T.slot (t:=t) (i:=0) (k:=m) (by omega) fun x p h1 h2 hp hd=>by
    have:=(et x p hp hd).2 (by omega);rw[jX]at this;cases this
   rw[dA]at this;exact this
  rw[e];exact jD.env t
 ·refine cY List.countP_le_length (by simp)
theorem YE{α:Type}{f:α->Bool}:∀{l:List α} {i:Nat},i<(l.takeWhile f).length->∃a,l[i]? =some a/\f a=true
 |[],i,h=>by simp at h
 |a::l,i,h=>by
  rw[List.takeWhile_cons]at h;split at h
  ·rename_i ag
   cases i with
   |zero=>exact⟨a,rfl,ag⟩
   |succ i=>
    simp only[gD]at h;obtain⟨b,h1,h2⟩:=YE (f:=f) (l:=l) (i:=i) (by omega);exact⟨b,by simpa using h1,h2⟩
  ·simp at h
theorem YF (l:List bS):k1 l<=qd l:=On _ _
theorem Qf{α:Type}(f:α->Bool)(l:List α):(l.takeWhile f).length<=l.length:=(List.takeWhile_sublist f).length_le
theorem amI (l:List bS):qd l<=l.length:=by
 unfold qd;have h1:=Qf Fx (l.drop (k1 l));have h2:k1 l<=l.length:=Qf _ l;simp only[nK]at h1;omega
theorem amJ{l:List bS}{i:Nat}(h1:k1 l<=i)(h2:i<qd l):∃bd z,l[i]? =some bd/\bd.op=.alloc z/\bd.guard=none:=by
 unfold qd at h2;obtain⟨bd,ar,aS⟩:=YE (l:=l.drop (k1 l)) (f:=Fx) (i:=i-k1 l) (by omega);rw[CG]at ar;refine⟨bd,?_⟩;unfold Fx at aS;split at aS
 ·rename_i z af ak
  exact⟨z,by rw[<-ar];congr 1;omega,af,ak⟩
 ·cases aS
theorem amK{st:av}{wr:List Bool}{cl:List av}(hm:dM (C.oper vars N ops) ops.toList=some bM)(py:fx call bM {st with aF:=[]}=some cl)
  (h0:S 0={st with aF:=[]}) (lW:wr=(List.range ops.size).map a7) (hs:∀(i:Nat) bd,bM[i]? =some bd->mG call bd (S i) (S (i+1)) (a7 i))
  (hc:ye (CheckFast.beforeF ops).toList bM wr=true) (hd:(CN bM cl).all (jz call)=true):K3 ops bM call S a7 (k1 bM) (qd bM):=by
 have hlen:bM.length=ops.size:=by rw[wv _ hm,fw]
 have hD:∀i,(CheckFast.beforeF ops).toList.getD i 0=(CheckFast.beforeF ops).getD i 0:=fun i=>by
  rw[kj,fM,x1]
 have Ar:∀i j,qc (CheckFast.beforeF ops).toList i j=true->((CheckFast.beforeF ops).getD (max i j) 0).testBit (min i j)=true:=fun i j this=>by
  rw[KY,hD,hD]at this;split at this
  ·rw[J5 (by omega),uU (by omega)];exact this
  ·rw[J2 (by omega),qU (by omega)];exact this
 have YG:∀i,i<ops.size->wr[i]? =some (a7 i):=fun i hi=>by rw[lW];simp[hi]
 have bf:=amI bM;have Aq:=YF bM;unfold ye at hc;simp only[b6,ev]at hc;obtain⟨⟨df,er⟩,e2⟩:=hc;rw[<-h0]at py;have kn:=KV bM S a7 cl hs py;refine⟨Aq,by omega,fun i hi=> ?_,fun i h1 h2 ag j bd Yy hj ht cF=> ?_,fun j bd h1 hj ht i h2 ar=> ?_,fun i h1 h2=>amJ h1 h2,fun j bd k hj hk P8 ha ht=> ?_⟩
 ·have:=df (a7 i) (pY.2 ⟨i,by rw[Fl,if_pos hi];exact YG i (by omega)⟩)
  simpa using this
 ·have:=er (true,i) (jw.2 (by rw[<-ag];exact YG i h2))
  have hb:Nat.blt i (qd bM)=false:=by
   cases hx:Nat.blt i (qd bM)with
   |false=>rfl
   |true=>have:=mh hx;omega
  simp only[hX,hb,Bool.or_self,uX,ev]at this;have ar:=this (bd,j) (jw.2 hj)
  have pq:Nat.blt j (k1 bM)=false:=by
   cases hx:Nat.blt j (k1 bM)with
   |false=>rfl
   |true=>have:=mh hx;omega
  simp only[ht,pq,hX,uX,iI,beq_iff_eq,cF,false_or]at ar;exact Ar i j ar
 ·have:=e2 (bd,j) (jw.2 hj)
  have hb:Nat.blt j (qd bM)=false:=by
   cases hx:Nat.blt j (qd bM)with
   |false=>rfl
   |true=>have:=mh hx;omega
  simp only[ht,hb,hX,Bool.or_self,uX,ev]at this;have aS:=Ar i j (this i (by rw[List.mem_range'_1];omega));rw[J2 (by omega),qU (by omega)]at aS;exact aS
 ·have eW:(bd,S j,(S k).H)∈CN bM cl:=by
   unfold CN;simp only[CH,Wu];refine⟨S k,pY.2 ⟨k-qd bM,?_⟩,(bd,S j),pY.2 ⟨j,?_⟩,by simp[ht]⟩
   ·rw[CG,<-kn k (by omega)];congr 1;omega
   ·rw[Fl,if_pos hj,Fi]
    exact⟨ha,kn j (by omega)⟩
  exact ev.1 hd _ eW
theorem amL{id:Nat}{st aQ:av}{wr:List Bool}{a:Act}{Q:Exit->Act->World->Prop}{ro:Option Nat}(cD:C.P.follows .mixedOrders=true)(bC:e7 C fid)(bb:gS C fid call)
  (hm:dM (C.oper vars N ops) ops.toList=some bM) (jm:Ctx.zT ops=true) (mB:Ctx.zU ops=true) (su:(ops.toList.zip bM).all (fun(o,a)=>Ctx.yf ops o a)=true)
  (he:c3 call bM {st with aF:=[]} []=some (aQ,wr)) (hin:(r7 (CheckFast.beforeF ops).toList bM wr||pb call (CheckFast.beforeF ops).toList bM wr {st with aF:=[]})=true) (ab:dI C fid vars N G st a w)
  (dJ:∀G' bk w',dI C fid vars N G' aQ bk w'->(∀m,m<=aQ.low->Ext G w G' w' m st.H.length)->bk.defers=a.defers->Q .normal bk w'):
  (Code.region id ops true).wpIn (eJ ro) 0 C.P Q a w:=by
 cases lY:yd bM with
 |true=>exact amw cD bC bb hm jm mB su he lY ab dJ
 |false=>
  unfold r7 at hin;rw[lY,Bool.or_false]at hin;unfold pb at hin;rw[<-Bool.or_assoc,iI]at hin;rcases hin with hin|hin
  ·exact amv cD bC bb hm jm mB su he hin ab dJ
  ·split at hin
   ·rename_i cl py
    rw[b6]at hin;obtain⟨S,a7,h0,hn,lW,hs⟩:=vd _ _ _ _ _ he;have T:ia C vars N ops bM call S a7:=.of hm hs;rw[T.len]at hn lW;simp only[List.reverse_nil,jN]at lW;exact amC cD bC bb hm jm mB su h0 hn T (amK hm py h0 lW hs hin.1 hin.2) ab dJ
   ·cases hin
end
end Go.Abs
