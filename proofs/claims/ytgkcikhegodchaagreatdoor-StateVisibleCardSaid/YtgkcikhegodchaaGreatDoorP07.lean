/- Texts of this claim, joined and written short by a program. -/
import Derived.Test.YtgkcikhegodchaaGreatDoorP06
import Derived.Test.YtgkcikhegodchaaGreatDoorP00
set_option linter.unusedVariables false
set_option linter.unusedSimpArgs false
set_option linter.unusedSectionVars false
namespace Go.Abs
open Go
variable{C:Ctx}{fid:Nat->Nat}{w w':World}{G G':cg}{H H':Heap}
theorem bd.place (U:bd C fid G H w){l:Nat}(hn:G.β l=Option.none){o:cf}(hl:H[l]? =some o)(aY:Obj)(tag fI:Nat)
  (ho:j8 C fid ⟨cE G.β l ⟨w.heap.size,tag,fI,false⟩,G.I⟩ (w.alloc aY) ⟨w.heap.size,tag,fI,false⟩ o):
  bd C fid ⟨cE G.β l ⟨w.heap.size,tag,fI,false⟩,G.I⟩ H (w.alloc aY):=by
 have hle:=Cx hn ⟨w.heap.size,tag,fI,false⟩;refine⟨fun x h hb=> ?_,fun x e1 h h' e e' q=> ?_,fun x h hb=> ?_,fun b hb=> ?_,fun x h hb ag=> ?_,fun b o bb=>⟨(U.ff b o bb).1,by rw[alloc_old (U.c9 b (U.ff b o bb).1).1];exact(U.ff b o bb).2⟩⟩
 ·by_cases hx:x=l
  ·subst hx
   simp only[dw]at hb;cases hb;exact⟨o,hl,ho⟩
  ·simp only[dH hx]at hb
   obtain⟨o',e',hr⟩:=U.obj x h hb;exact⟨o',e',hr.mono (G':=⟨cE G.β l _,G.I⟩) hle (fun b hb=>⟨hb,alloc_old (U.c9 b hb).1⟩) (alloc_old (U.blk x h hb))⟩
 ·by_cases hx:x=l<;>by_cases dZ:e1=l
  ·rw[hx,dZ]
  ·subst hx;simp only[dw]at e;cases e
   simp only[dH dZ]at e';have:=U.blk e1 h' e';simp only at q;omega
  ·subst dZ;simp only[dw]at e';cases e'
   simp only[dH hx]at e;have:=U.blk x h e;simp only at q;omega
  ·simp only[dH hx]at e;simp only[dH dZ]at e'
   exact U.inj x e1 h h' e e' q
 ·rw[World.size_alloc]
  by_cases hx:x=l
  ·subst hx;simp only[dw]at hb;cases hb;simp
  ·simp only[dH hx]at hb;have:=U.blk x h hb;omega
 ·have hi:=U.c9 b hb
  refine⟨by rw[World.size_alloc];omega,fun x h e q=> ?_⟩;by_cases hx:x=l
  ·subst hx;simp only[dw]at e;cases e;simp only at q;omega
  ·simp only[dH hx]at e;exact hi.2 x h e q
 ·by_cases hx:x=l
  ·subst hx;simp only[dw]at hb;cases hb;cases ag
  ·simp only[dH hx]at hb;exact U.kV x h hb ag
theorem Ext.place{l:Nat}(hn:G.β l=Option.none){fB:Nat}(aY:Obj)(tag fI m:Nat)(hl:fB<=l):Ext G w ⟨cE G.β l ⟨w.heap.size,tag,fI,false⟩,G.I⟩ (w.alloc aY) m fB where
 size:=by simp
 os:=rfl
 output:=rfl
 eH b hb _:=alloc_old hb
 homes:=Cx hn _
 oG x h hb:=by
  by_cases hx:x=l
  ·subst hx;simp only[dw]at hb;cases hb;exact .inr ⟨hl,aN _⟩
  ·simp only[dH hx]at hb;exact .inl ⟨h,hb,.inl rfl⟩
 c9 _ h:=h
 pI _ h:=.inl h
theorem bd.longer (U:bd C fid G H w)(h:∀(l:Nat) (o:cf),H[l]? =some o->H'[l]? =some o):bd C fid G H' w:=
 ⟨fun l x e=>by
  obtain⟨o,ho,hr⟩:=U.obj l x e;exact⟨o,h l o ho,hr⟩,U.inj,U.blk,U.c9,U.kV,U.ff⟩
theorem Xo{vars:List Nat}{pos:String}{op:Op}{es:Nat}{z:List V}{bytes:Nat}{mK ac:ai}(hc:C.op vars pos op=.mkSlice es z bytes mK ac):∃t l c,op=.makeSlice t l c/\C.c2 vars pos op=some (.mkSlice es z bytes mK ac):=by
 have cP:C.c2 vars pos op=some (.mkSlice es z bytes mK ac):=by
  unfold Ctx.op at hc;cases h:C.c2 vars pos op with
  |none=>rw[h]at hc;cases hc
  |some a=>rw[h]at hc;simp only[xO]at hc;rw[hc]
 cases ho:op with
 |makeSlice t l c=>rw[ho]at cP;exact⟨t,l,c,rfl,cP⟩
 |call c=>
  exfalso;rw[ho]at cP;obtain⟨callee,args,ea⟩:=c;cases callee with
  |value f=>
   simp only[Ctx.c2]at cP;split at cP<;>simp at cP
  |builtin b=>
   simp only[Ctx.c2]at cP;unfold Ctx.builtin at cP
   repeat' split at cP
   all_goals first
    |(cases cP;done)
    |(simp only[aD,reduceCtorEq]at cP;done)
    |(obtain⟨_,_,h⟩:=cD.1 cP;cases h;done)
  |invoke r n=>simp[Ctx.c2]at cP
 |binOp a b c d e=>
  exfalso;rw[ho]at cP;simp only[Ctx.c2,Ctx.zG]at cP
  repeat' split at cP
  all_goals first
   |(cases cP;done)
   |(obtain⟨_,_,h⟩:=cD.1 cP;cases h;done)
 |makeFunc g a b=>
  exfalso;rw[ho]at cP;cases g with
  |func f=>
   simp only[Ctx.c2]at cP;split at cP<;>simp at cP
  | _=>simp[Ctx.c2]at cP
 |makeMap t r=>
  exfalso;rw[ho]at cP;cases r<;>simp[Ctx.c2]at cP
 | _=>
   exfalso;rw[ho]at cP;simp only[Ctx.c2]at cP
   repeat' split at cP
   all_goals first
    |(cases cP;done)
    |(obtain⟨_,_,h⟩:=cD.1 cP;cases h;done)
theorem run_mk{vars:List Nat}{ah:ai->V}{ρ:Operand->Value}{o:Oper}{pos:String}{es:Nat}{z:List V}{bytes:Nat}{mK ac:ai}(aU:fK C fid vars G w ah ρ)(db:C.op vars pos o.op=.mkSlice es z bytes mK ac)
  {n m:Int} {k bJ:IntKind} (ad:ah mK=.int k n) (e2:ah ac=.int bJ m) (hb:n=m/\0<=n/\n*(bytes+1)<=2^40):
  0<es/\∃e cells,(execOp ρ o).run C.P w=.ok (.value (.slice (some ⟨w.heap.size,0,none⟩) n.toNat n.toNat)) (w.alloc (.cells cells e))/\cells.size=n.toNat*es/\
   (∀d∈List.replicate n.toNat (mA z),(aI d).length=es)/\∀G' w',bj fid G' w' ((List.replicate n.toNat (mA z)).flatMap aI) cells.toList:=by
 obtain⟨t,l,c,ho,hc⟩:=Xo db;rw[ho]at hc;simp only[Ctx.c2]at hc;split at hc
 ·rename_i e hd
  split at hc
  ·rename_i i Ps aAg aAh hi aJ h1 h2
   split at hc
   ·cases hc
   ·rename_i eB
    simp only[not_or,ne_eq,Classical.not_not]at eB;simp only[aD,cX.mkSlice.injEq]at hc;obtain⟨rfl,rfl,rfl,rfl,rfl⟩:=hc;obtain⟨cK,oO,oP,a1,-⟩:=E9 (fid:=fid) aJ;have zT:cK.cells.size=i.size:=by rw[<-gY,(oP G w).length,eB.2]
    have hl:=aU l _ h1;have tu:=aU c _ h2;obtain⟨rfl,nw,hbound⟩:=hb;rw[ad]at hl;rw[e2]at tu;obtain⟨j,rfl⟩:=Eu nw
    have oQ:j<=1099511627776:=by
     have:(j:Int)*1<=(j:Int)*((i.bytes:Int)+1):=Int.mul_le_mul_of_nonneg_left (by omega) nw;omega
    have nW:(i.bytes:Int)*(j:Int)<=1099511627776:=by
     have:(j:Int)*((i.bytes:Int)+1)=(i.bytes:Int)*(j:Int)+j:=by rw[Int.mul_add,Int.mul_comm];omega
     omega
    have hw:=WW nw (by omega:(j:Int)<=1099511627776);have iW:0<i.size:=NH eB.1
    have ct:∃cells,(execOp ρ o).run C.P w=.ok (.value (.slice (some ⟨w.heap.size,0,none⟩) j j)) (w.alloc (.cells cells e))/\cells.toList=(List.range (j*i.size)).map (fun q=>cK.cells[q%cK.cells.size]!):=by
     refine⟨(Array.range (j*i.size)).map (fun q=>(if j*i.size=0 then #[]else cK.cells:Array Value)[q%(if j*i.size=0 then #[]else cK.cells:Array Value).size]!),?_,?_⟩
     ·unfold execOp;rw[ho]
      have rq:¬((decide ((j:Int)<0)||decide ((i.bytes:Int)*(j:Int)>2^48))=true):=by simp;omega
      have pK:¬((decide ((j:Int)<0)||decide ((i.bytes:Int)*(j:Int)>2^48)||decide ((j:Int)<0)||decide ((j:Int)>(j:Int)))=true):=by simp;omega
      simp only[hl.ku,tu.ku,Instr.makeSlice,asInt,asIntOf,Sem.run_bind,Sem.run_pure,Result.andThen_ok,run_underlying hd,run_typeInfo (P:=C.P) w hi,hw];rw[if_neg (by simpa using pK)];simp only[Sem.run_bind,run_askRoom,Result.andThen_ok,sizeOf,run_typeInfo (P:=C.P) w hi,Sem.run_pure,zq];by_cases h0:j*i.size=0
      ·simp only[h0,if_true,Sem.run_bind,Sem.run_pure,Result.andThen_ok,newRow,run_newObj,World.alloc_eq]
      ·simp only[h0,if_false,Sem.run_bind,Sem.run_pure,Result.andThen_ok,oO,newRow,run_newObj,World.alloc_eq]
     ·by_cases h0:j*i.size=0
      ·simp[h0]
      ·simp[h0]
    obtain⟨cells,ct,gm⟩:=ct;have hu:=OU a1 (n:=j) eB.2;rw[zT]at gm
    have pQ:∀G' w',bj fid G' w' ((List.replicate j (mA Ps)).flatMap aI) cells.toList:=fun G' w'=>by
     have:=JH (oP G' w') a1 (by omega) j;rw[zT,<-gm]at this;exact this
    refine⟨iW,e,cells,ct,?_,hu,pQ⟩;rw[<-gY,(pQ G w).length,nv hu,vI];rfl
  ·cases hc
 ·cases hc
section
variable{vars:List Nat}{N:Nat}{ops:Array Oper}{bR:List bU}{call:c5}{S:Nat->aw}{bc:Nat->Bool}
theorem Xp{ah:ai->V}{low bL:Nat}{es:Nat}{z:List V}{bytes:Nat}{mK ac:ai}{v:V}{H1:Heap}(h:ch call ah H low (.mkSlice es z bytes mK ac)=some (v,H1,bL)):
  ∃k bJ n m,ah mK=.int k n/\ah ac=.int bJ m/\(n=m/\0<=n/\n*(bytes+1)<=2^40)/\
   ((n=0/\v=.emp/\H1=H/\bL=low)\/(n≠0/\v=.cB H.length es 0 n.toNat n.toNat/\H1=H++[.row es (List.replicate n.toNat (mA z)) false]/\bL=low)):=by
 have h':step ah H low (.mkSlice es z bytes mK ac)=some (v,H1,bL):=h;simp only[step]at h';split at h'
 ·rename_i k n bJ m ad e2
  split at h'
  ·rename_i hb
   refine⟨k,bJ,n,m,ad,e2,hb,?_⟩;split at h'
   ·rename_i h0
    cases h';exact .inl ⟨h0,rfl,rfl,rfl⟩
   ·rename_i h0
    cases h';exact .inr ⟨h0,rfl,rfl,rfl⟩
  ·cases h'
 ·cases h'
theorem Xq (h:xW bR=true){i:Nat}{bh:bU}(hi:bR[i]? =some bh)(ht:gE bh.op=true):bh.guard=none/\∃es z bytes mK ac,bh.op=.mkSlice es z bytes mK ac:=by
 unfold xW at h;have h1:=eE.1 h bh (eZ hi);rw[ht]at h1;simp only[fZ,tj]at h1;split at h1
 ·rename_i ad e2;exact⟨e2,_,_,_,_,_,ad⟩
 ·cases h1
theorem Pt (T:lq C vars N ops bR call S bc)(hc:mN call)(kF:xW bR=true){i:Nat}(hi:i<ops.size):
  (bc i=false/\(S (i+1)).H=(S i).H)\/(bc i=true/\∃o,(S (i+1)).H=(S i).H++[o]):=by
 obtain⟨o,bh,-,gy,-,ca⟩:=T.get hi;cases ag:bc i with
 |false=>exact .inl ⟨rfl,ca.still hc ag⟩
 |true=>
  right;refine⟨rfl,?_⟩;obtain⟨-,es,z,bytes,mK,ac,db⟩:=Xq kF gy (ca.gE ag);rcases ca with⟨-,v,H1,bL,h1,e,h2⟩|⟨-,-,h2⟩
  ·rw[db]at h1
   obtain⟨k,bJ,n,m,-,-,-,hr⟩:=Xp h1;have hH:(S (i+1)).H=H1:=by rw[e,(kX _ _ _).1]
   rcases hr with⟨-,-,rfl,rfl⟩|⟨-,-,rfl,-⟩
   ·rw[ag]at h2
    simp[eG]at h2
   ·exact⟨_,hH⟩
  ·rw[h2]at ag;cases ag
theorem Pu (T:lq C vars N ops bR call S bc)(hc:mN call)(kF:xW bR=true){i:Nat}:∀{k:Nat},i+k<=ops.size->∀(l:Nat) (o:cf),(S i).H[l]? =some o->(S (i+k)).H[l]? =some o
 |0,_,l,o,h=>h
 |k+1,hk,l,o,h=>by
  have ih:=Pu T hc kF (k:=k) (by omega) l o h;rcases Pt T hc kF (i:=i+k) (by omega)with⟨-,e⟩|⟨-,o',e⟩
  ·rw[show i+(k+1)=i+k+1 from rfl,e];exact ih
  ·rw[show i+(k+1)=i+k+1 from rfl,e,fY ?_]
   ·exact ih
   ·rcases gD l (S (i+k)).H.length with q|q
    ·exact q
    ·rw[nP q]at ih;cases ih
theorem Xr (T:lq C vars N ops bR call S bc)(hc:mN call)(kF:xW bR=true){i j:Nat}(cY:i<j)(hj:j<ops.size)(ag:bc i=true):(S i).H.length<(S j).H.length:=by
 have h1:=(T.n0 hc (i:=i+1) (j:=j) cY (by omega)).1.len;rcases Pt T hc kF (i:=i) (by omega)with⟨e,-⟩|⟨-,o,e⟩
 ·rw[e]at ag;cases ag
 ·rw[e]at h1;simp at h1;omega
structure Fu (C:Ctx) (fid:Nat->Nat) (vars:List Nat) (N:Nat) (ops:Array Oper) (S:Nat->aw) (bc:Nat->Bool) (G:cg) (w:World) (a:Act) (pV:Nat)
  (L:Array Bool) (aB:cg) (ak:Act) (aH:World):Prop where
 size:L.size=ops.size
 closed:∀x,L.getD x false=true->∀i,((CheckFast.beforeF ops).getD x 0).testBit i=true->L.getD i false=true
 rel:bd C fid aB (S ops.size).H aH
 free:∀i,i<ops.size->bc i=true->L.getD i false=false->aB.β (S i).H.length=Option.none
 env:∀t m,m<=ops.size->(∀(i:Nat) o,ops[i]? =some o->o.dst=some t->(L.getD i false=true↔i<m))->bw fid aB aH (dT vars (S m) t) (ak.tmps.getD t undef)
 qJ:ak.tmps.size=N
 defers:ak.defers=a.defers
 ext:∀m,m<=(S ops.size).low->Ext G w aB aH m pV
theorem Xt{j:Nat}{o:Oper}{a:Act}{K:Act->World->Prop}{Q:Exit->Act->World->Prop}{ro:Option Nat}{aH:World}(ho:ops[j]? =some o)(bb:o.guard=none)(hnd:∀c,o.op≠ .defer c){x:Value}
  (ct:(execOp a.eval o).run C.P w=.ok (.value x) aH) (oU:K (a.put o.dst x) aH):wpOpIn (eV ro) 0 C.P ops Q j K a w:=by
 unfold wpOpIn;rw[ho];have hw:Region.wanted o (yielded ops a.tmps)=true:=by unfold Region.wanted;rw[bb]
 simp only[hw,if_true];refine⟨fun _ _=>trivial,?_⟩;rw[Oper.semAt_eq _ _ _ hnd,ct];exact oU
theorem ake{id:Nat}{st bf:aw}{wr:List Bool}{a:Act}{Q:Exit->Act->World->Prop}{ro:Option Nat}(cW:C.P.follows .mixedOrders=true)(bP:fl C fid)(bm:hD C fid call)
  (hm:ee (C.oper vars N ops) ops.toList=some bR) (ky:Ctx.zH ops=true) (mJ:Ctx.zI ops=true) (sG:(ops.toList.zip bR).all (fun(o,a)=>Ctx.xZ ops o a)=true)
  (he:c8 call bR {st with aM:=[]} []=some (bf,wr)) (kF:xW bR=true) (U:dN C fid vars N G st a w)
  (dO:∀G' bn w',dN C fid vars N G' bf bn w'->(∀m,m<=bf.low->Ext G w G' w' m st.H.length)->bn.defers=a.defers->Q .normal bn w'):
  (Code.region id ops true).wpIn (eV ro) 0 C.P Q a w:=by
 obtain⟨S,bc,h0,hn,-,hs⟩:=u1 _ _ _ _ _ he;have T:lq C vars N ops bR call S bc:=.of hm hs;rw[T.len]at hn;have pX:st.H=(S 0).H/\st.low=(S 0).low:=by rw[h0];exact⟨rfl,rfl⟩
 have Fo:st.low<=st.H.length:=U.low
 have tE:∀k,k<=ops.size->st.H.length<=(S k).H.length:=fun k hk=>by
  have:=(T.n0 bm.b7 (i:=0) (j:=k) (cN _) hk).1.len;rw[<-pX.1]at this;exact this
 have oV:∀L aB ak aH,Fu C fid vars N ops S bc G w a st.H.length L aB ak aH->(∀i,i<ops.size->L.getD i false=true)->Q .normal ak aH:=by
  intro L aB ak aH I eC;refine dO aB ak aH ?_ (fun m hm=>I.ext m (by rw[hn];exact hm)) I.defers;rw[<-hn];refine⟨I.rel,fun t=>I.env t ops.size (aN _) fun i o ho _=> ?_,I.qJ,?_⟩
  ·have:i<ops.size:=(uI.1 ho).1
   simp[this,eC i this]
  ·exact(T.n0 bm.b7 (cN _) (aN _)).bound (by rw[<-pX.1,<-pX.2];exact Fo)
 have Fp:∀L aB ak aH,Fu C fid vars N ops S bc G w a st.H.length L aB ak aH->Region.ready .any ops L=[]->∀i,i<ops.size->L.getD i false=true:=by
  intro L aB ak aH I hr i
  induction i using Nat.strongRecOn with
  | _ i ih=>
    intro hi;cases dP:L.getD i false with
    |true=>rfl
    |false=>
     exfalso
     have:i∈Region.ready .any ops L:=mem_ready.2 ⟨by
      have:i<L.size:=by rw[I.size];exact hi
      simp only[Array.getD,this,dif_pos]at dP⊢; exact dP,ops[i],by simp[hi],fun e he hb=>by
       have aG:=Pn ky (j:=i) (o:=ops[i]) (by simp[hi]) he hb;exact ih e.on aG (by omega)⟩
     rw[hr]at this;cases this
 have mG:∀(fuel:Nat) (L:Array Bool) (aB:cg) (ak:Act) (aH:World) (j:Nat),Fu C fid vars N ops S bc G w a st.H.length L aB ak aH->j∈Region.ready .any ops L->
   (∀ik G' bn w',Fu C fid vars N ops S bc G w a st.H.length ik G' bn w'->ik=L.setIfInBounds j true->wpAnyIn (eV ro) 0 C.P .any ops Q fuel ik bn w')->
   wpOpIn (eV ro) 0 C.P ops Q j (wpAnyIn (eV ro) 0 C.P .any ops Q fuel (L.setIfInBounds j true)) ak aH:=by
  intro fuel L aB ak aH j I hj yj;obtain⟨yk,o,ho,Fq⟩:=mem_ready.1 hj;have iX:j<ops.size:=(uI.1 ho).1;have l9:j<L.size:=by rw[I.size];exact iX
  have pJ:L.getD j false=false:=by simp only[Array.getD,l9,dif_pos]at yk⊢; exact yk
  obtain⟨o',bh,ka,gy,a1,ca⟩:=T.get iX;rw[ho]at ka;cases ka
  have yl:∀i,((CheckFast.beforeF ops).getD j 0).testBit i=true->L.getD i false=true:=fun i hb=>by
   obtain⟨e,mH,nV,qK⟩:=Pl ho hb;have hl:=Fq e mH nV;rcases qK with rfl|qK
   ·exact hl
   ·exact I.closed e.on hl i qK
  have ny:∀i,i≠j->((CheckFast.beforeF ops).getD (max i j) 0).testBit (min i j)=true->(L.getD i false=true↔i<j):=by
   intro i cY hb;rcases gD i j with aG|hge
   ·rw[Je (by omega),pz (by omega)]at hb
    exact⟨fun _=>aG,fun _=>yl i hb⟩
   ·rw[Jh hge,sf hge]at hb
    refine⟨fun dP=> ?_,fun h=>by omega⟩;have:=I.closed i dP j hb;rw[pJ]at this;cases this
  have ym:∀t,(o.dst=some t\/t∈Ctx.gd ops o)->∀(i:Nat) p,ops[i]? =some p->p.dst=some t->i≠j->(L.getD i false=true↔i<j):=fun t ht i p hp hd cY=>
   ny i cY (Pm mJ ho hp hd cY ht)
  have eR:=ca.b7 bm.b7
  have CX:∀x∈bh.op.operands,JU (fun t=>t∈Ctx.gd ops o) x:=by
   intro x hx;have h1:(o,bh)∈ops.toList.zip bR:=py.2 ⟨j,by rw[Ch];exact⟨by rw[iG];exact ho,gy⟩⟩;have h2:=eE.1 sG _ h1;simp only[Ctx.xZ,eE]at h2;have au:=h2 x hx;cases x with
   |tmp t=>exact uK.1 au
   |var t=>exact uK.1 au
   |const v=>trivial
   |func i=>trivial
  have JY:∀t,t∈Ctx.gd ops o->bw fid aB aH (dT vars (S j) t) (ak.tmps.getD t undef):=fun t ht=>by
   refine I.env t j (by omega) fun i p hp hd=> ?_;by_cases cY:i=j
   ·subst cY;simp[pJ]
   ·exact ym t (.inr ht) i p hp hd cY
  have kE:∀i,(L.setIfInBounds j true).getD i false=true↔i=j\/L.getD i false=true:=fun i=>wB l9
  have Af:∀(x:Value) (bQ:World) (bC:cg),bd C fid bC (S ops.size).H bQ->(∀m,m<=(S (j+1)).low->Ext aB aH bC bQ m st.H.length)->(∀t,o.dst=some t->bw fid bC bQ (dT vars (S (j+1)) t) x)->
    (∀i,i<ops.size->bc i=true->i≠j->L.getD i false=false->bC.β (S i).H.length=Option.none)->wpAnyIn (eV ro) 0 C.P .any ops Q fuel (L.setIfInBounds j true) (ak.put o.dst x) bQ:=by
   intro x bQ bC p1 p2 p3 mR;have nx:=p2 0 (cN _);refine yj _ bC _ bQ ⟨by simp[I.size],fun x hx i hb=> ?_,p1,fun i hi ag rz=> ?_,fun t m hm eB=> ?_,by rw[yi];exact I.qJ,by rw[put_defers];exact I.defers,fun m hm=> ?_⟩ rfl
   ·rw[kE]at hx⊢
    rcases hx with rfl|hx
    ·exact .inr (yl i hb)
    ·exact .inr (I.closed x hx i hb)
   ·have bq:i≠j:=fun e=>by
     have:=(kE i).2 (.inl e);rw[this]at rz;cases rz
    refine mR i hi ag bq ?_;cases af:L.getD i false with
    |false=>rfl
    |true=>
     have:=(kE i).2 (.inr af);rw[this]at rz;cases rz
   ·refine Aa (fun d hd=>by rw[I.qJ];exact a1.lt d hd) (fun h=> ?_) (fun h=> ?_)
    ·have Ft:j<m:=(eB j o ho h).1 ((kE j).2 (.inl rfl))
     have e:dT vars (S m) t=dT vars (S (j+1)) t:=by
      obtain⟨d,rfl⟩:=oz (show j+1<=m from Ft);refine T.slot (by omega) fun x p h1 h2 hp hd=> ?_;have tD:x≠j:=by omega
      have ak:=(kE x).1 ((eB x p hp hd).2 h2);have a2:=(ym t (.inl h) x p hp hd tD).1 (ak.resolve_left tD);omega
     rw[e];exact p3 t h
    ·refine(I.env t m hm fun i p hp hd=> ?_).ext I.rel nx
     have cY:i≠j:=fun e=>by subst e;rw[ho]at hp;cases hp;exact h hd
     rw[<-eB i p hp hd,kE];simp[cY]
   ·have ad:=(T.n0 bm.b7 (i:=j+1) (j:=ops.size) iX (aN _)).1.low
    exact(I.ext m hm).trans (p2 m (by omega))
  by_cases ht:gE bh.op=true
  ·
   obtain⟨JZ,es,z,bytes,mK,ac,db⟩:=Xq kF gy ht;rcases ca with⟨hw,v,H1,bL,h1,aC,kx⟩|⟨hw,-,-⟩
   case inr=>rw[JZ]at hw;simp[gS]at hw
   have z6:o.guard=none:=by
    have:=a1.guard;rw[JZ]at this;cases bb:o.guard with
    |none=>rfl
    |some p=>
     obtain⟨q,b⟩:=p;rw[bb]at this;simp only[Ctx.guard]at this;split at this<;>simp at this
   have J0:C.op vars o.pos o.op=.mkSlice es z bytes mK ac:=by rw[<-a1.op];exact db
   obtain⟨ed,fB,c',e7,-⟩:=Xo J0;let hU:ai->V:=fun cO=>open Classical in if cO∈bh.op.operands then ai.ah (S j).aM (S j).ay cO else .undef
   have aU:fK C fid vars aB aH hU ak.eval:=fun x cO hx=>by
    by_cases hin:cO∈bh.op.operands
    ·have wz:=CX cO hin
     simp only[hU,hin,if_true];cases x with
     |tmp t=>
      simp only[Ctx.cl,aD]at hx;have Pj:t∈Ctx.gd ops o:=by rw[<-hx]at wz;split at wz<;>exact wz
      have:=JY t Pj;have e:cO.ah (S j).aM (S j).ay=dT vars (S j) t:=by rw[<-hx];unfold dT;split<;>rfl
      rw[e];exact this
     |const u=>
      simp only[Ctx.cl]at hx;obtain⟨Xh,jq,rfl⟩:=cD.1 hx;rcases EW (I:=aB.I) (w:=aH) u jq with rfl|hp
      ·exact .undef _
      ·exact .p _ _ hp
     |func f=>exact Oy bP hx
     |global g=>simp[Ctx.cl]at hx
    ·simp only[hU,hin,if_false];exact .undef _
   rw[db]at h1;obtain⟨k,bJ,n,m,ad,e2,hb,sI⟩:=Xp h1
   have CY:hU mK=.int k n:=by
    have:mK∈bh.op.operands:=by rw[db];simp[cX.operands]
    simp only[hU,this,if_true];exact ad
   have Fv:hU ac=.int bJ m:=by
    have:ac∈bh.op.operands:=by rw[db];simp[cX.operands]
    simp only[hU,this,if_true];exact e2
   obtain⟨iW,e,cells,ct,oJ,hu,pQ⟩:=run_mk (w:=aH) aU J0 CY Fv hb;refine Xt ho z6 (by rw[e7];simp) ct ?_;have gz:=kX {S j with H:=H1,low:=min (S j).low bL} bh.dst v
   have mQ:∀t,o.dst=some t->dT vars (S (j+1)) t=v:=fun t ht=>by
    rw[aC];rcases a1.dst with⟨h2,-⟩|⟨d,-,h2,au⟩
    ·rw[h2]at ht;cases ht
    ·rw[h2]at ht;cases ht
     rw[au,Fk,if_pos rfl]
   rcases sI with⟨nw,rfl,rfl,-⟩|⟨nw,rfl,Xu,-⟩
   ·subst nw
    have hk:∀b,b<aH.heap.size->(aH.alloc (.cells cells e)).heap[b]? =aH.heap[b]? :=fun b hb=>alloc_old hb;refine Af _ _ aB (I.rel.restore (by simp) hk) (fun m _=>.restore (by simp) hk rfl rfl m _) (fun t ht=> ?_) fun i hi ag _ dP=>I.free i hi ag dP;rw[mQ t ht];exact .p _ _ (.emp _)
   ·have iz:bc j=true:=by rw[kx,Xu];simp[eG]
    have tF:=I.free j iX iz pJ
    have Pv:(S ops.size).H[(S j).H.length]? =some (.row es (List.replicate n.toNat (mA z)) false):=by
     obtain⟨d,hd⟩:=oz (show j+1<=ops.size from iX);rw[hd];refine Pu T bm.b7 kF (by omega) _ _ ?_;rw[aC,gz.1,Xu];simp
    have akf:0<n.toNat:=by omega
    have Pw:=I.rel.place tF Pv (.cells cells e) n.toNat cells.size ⟨by simp,by simpa using akf,rfl,iW,hu,cells,e,cells.toList,[],mE _ _,rfl,by simp,pQ _ _⟩;refine Af _ _ _ Pw (fun m _=>.place tF _ _ _ m (tE j (by omega))) (fun t ht=> ?_) fun i hi ag cY dP=> ?_
    ·rw[mQ t ht]
     refine .cB _ _ 0 n.toNat n.toNat ⟨aH.heap.size,n.toNat,cells.size,false⟩ _ _ _ (dw _ _ _) (aN _) (fun _=>⟨by simp,rfl,?_,aN _⟩);rw[oJ,eo];exact aN _
    ·have bq:(S i).H.length≠(S j).H.length:=by
      rcases gD i j with q|q
      ·have:=Xr T bm.b7 kF q iX ag;omega
      ·have:=Xr T bm.b7 kF (show j<i by omega) hi iz;omega
     show cE aB.β (S j).H.length _ (S i).H.length=_;rw[dH bq];exact I.free i hi ag dP
  ·have ey:gE bh.op=false:=by simpa using ht
   have iz:bc j=false:=by
    cases ag:bc j with
    |false=>rfl
    |true=>have:=ca.gE ag;rw[ey]at this;cases this
   refine z7 (T:=fun t=>t∈Ctx.gd ops o) (Hc:=(S ops.size).H) bP bm ho a1 ca I.rel (fun q=>absurd q ht) ?_ JY CX (fun q want d bb hd=> ?_) I.qJ ?_
   ·have ad:=(T.n0 bm.b7 (i:=0) (j:=j) (cN _) (by omega)).1.low
    have e2:=tE ops.size (aN _);rw[<-pX.2]at ad;omega
   ·simp only[Ctx.gd,kq]
    right;rw[bb];simp only[];rw[hd];simp
   ·intro x bQ bC p1 p2 p3
    rw[iz]at p1;refine Af x bQ bC p1 (fun m hm=>(p2 m hm).le (aN _) (tE ops.size (aN _))) p3 fun i hi ag cY dP=> ?_;have tF:=I.free i hi ag dP;cases hb:bC.β (S i).H.length with
    |none=>rfl
    |some h'=>
     exfalso;rcases(p2 0 (cN _)).oG _ _ hb with⟨h,c7,-⟩|⟨hge,-⟩
     ·rw[tF]at c7;cases c7
     ·obtain⟨d,hd⟩:=oz (show i+1<=ops.size from hi)
      have h2:=(T.n0 bm.b7 (i:=i+1) (j:=ops.size) hi (aN _)).1.len;rcases Pt T bm.b7 kF hi with⟨q,-⟩|⟨-,o',q⟩
      ·rw[ag]at q;cases q
      ·rw[q]at h2;simp at h2;omega
 have key:∀(fuel:Nat) (L:Array Bool) (aB:cg) (ak:Act) (aH:World),Fu C fid vars N ops S bc G w a st.H.length L aB ak aH->(List.range ops.size).countP (fun i=>!L.getD i false)<=fuel->
   wpAnyIn (eV ro) 0 C.P .any ops Q fuel L ak aH:=by
  intro fuel
  induction fuel with
  |zero=>
   intro L aB ak aH I hc
   have eC:∀i,i<ops.size->L.getD i false=true:=fun i hi=>by
    have h1:=List.countP_eq_zero.1 (Nat.le_zero.1 hc) i (by simpa using hi);simpa using h1
   refine⟨?_,oV _ _ _ _ I eC⟩;cases hr:Region.ready .any ops L with
   |nil=>rfl
   |cons i r=>
    obtain⟨h1,o,ho,-⟩:=mem_ready.1 (show i∈Region.ready .any ops L by rw[hr];simp);have hi:i<ops.size:=(uI.1 ho).1;have h2:=eC i hi;have:i<L.size:=by rw[I.size];exact hi
    simp only[Array.getD,this,dif_pos]at h1 h2;rw[h1]at h2;cases h2
  |succ fuel ih=>
   intro L aB ak aH I hc;refine⟨fun hr=>oV _ _ _ _ I (Fp _ _ _ _ I hr),fun j hj=>mG fuel L aB ak aH j I hj fun ik G' bn w' sw e=>ih ik G' bn w' sw ?_⟩;subst e;obtain⟨h1,o,ho,-⟩:=mem_ready.1 hj;have iX:j<ops.size:=(uI.1 ho).1;have l9:j<L.size:=by rw[I.size];exact iX
   have aG:(List.range ops.size).countP (fun i=>!(L.setIfInBounds j true).getD i false)<(List.range ops.size).countP (fun i=>!L.getD i false):=by
    refine Po (a:=j) (fun x _ hx=> ?_) (by simpa using iX) ?_ ?_
    ·cases af:L.getD x false with
     |false=>rfl
     |true=>
      have:=(wB (i:=x) l9).2 (.inr af);rw[this]at hx;cases hx
    ·simp only[Array.getD,l9,dif_pos]at h1⊢; rw[h1];rfl
    ·have:=(wB (i:=j) l9).2 (.inl rfl)
     rw[this];rfl
   omega
 refine wpIn_region_any cW ?_;have hw:({w with drawn:=w.drawn+1}:World).heap=w.heap:=rfl;have jO:=(U.clear).jo hw;rw[<-h0]at jO
 have kc:∀i,(Array.replicate ops.size false).getD i false=false:=fun i=>by
  by_cases h:i<ops.size
  ·simp[h]
  ·simp[h]
 refine key ops.size (Array.replicate ops.size false) G a {w with drawn:=w.drawn+1} ⟨by simp,fun x hx=>absurd hx (by rw[kc];simp),jO.rel.longer fun l o hl=> ?_,fun i hi ag _=> ?_,fun t m hm eB=> ?_,jO.size,rfl,fun m _=>Ext.jo hw rfl rfl m _⟩ ?_
 ·have:=Pu T bm.b7 kF (i:=0) (k:=ops.size) (by omega) l o hl
  rw[eo]at this;exact this
 ·exact U.rel.none (tE i (by omega))
 ·have e:dT vars (S m) t=dT vars (S 0) t:=by
   have:=T.slot (t:=t) (i:=0) (k:=m) (by omega) fun x p h1 h2 hp hd=>by
    have:=(eB x p hp hd).2 (by omega);rw[kc]at this;cases this
   rw[eo]at this;exact this
  rw[e];exact jO.env t
 ·refine c4 List.countP_le_length (by simp)
end
end Go.Abs
namespace Go.Abs
open Go
variable{C:Ctx}{fid:Nat->Nat}{w w':World}{G G':cg}{H H':Heap}
theorem akg{vars:List Nat}{pos:String}{op:Op}{z:List V}(hc:C.op vars pos op=.alloc z):∃t z0,op=.alloc t/\C.zeroCells t=some z0/\z=C.mark t z0:=by
 have cP:C.c2 vars pos op=some (.alloc z):=by
  unfold Ctx.op at hc;cases h:C.c2 vars pos op with
  |none=>rw[h]at hc;cases hc
  |some a=>rw[h]at hc;simp only[xO]at hc;rw[hc]
 cases ho:op with
 |alloc t=>
  rw[ho]at cP;simp only[Ctx.c2]at cP;obtain⟨Ps,h1,h2⟩:=cD.1 cP;cases h2;exact⟨t,Ps,rfl,h1,rfl⟩
 |call c=>
  exfalso;rw[ho]at cP;obtain⟨callee,args,ea⟩:=c;cases callee with
  |value f=>
   simp only[Ctx.c2]at cP;split at cP<;>simp at cP
  |builtin b=>
   simp only[Ctx.c2]at cP;unfold Ctx.builtin at cP
   repeat' split at cP
   all_goals first
    |(cases cP;done)
    |(simp only[aD,reduceCtorEq]at cP;done)
    |(obtain⟨_,_,h⟩:=cD.1 cP;cases h;done)
  |invoke r n=>simp[Ctx.c2]at cP
 |binOp a b c d e=>
  exfalso;rw[ho]at cP;simp only[Ctx.c2,Ctx.zG]at cP
  repeat' split at cP
  all_goals first
   |(cases cP;done)
   |(obtain⟨_,_,h⟩:=cD.1 cP;cases h;done)
 |makeFunc g a b=>
  exfalso;rw[ho]at cP;cases g with
  |func f=>
   simp only[Ctx.c2]at cP;split at cP<;>simp at cP
  | _=>simp[Ctx.c2]at cP
 |makeMap t r=>
  exfalso;rw[ho]at cP;cases r<;>simp[Ctx.c2]at cP
 | _=>
   exfalso;rw[ho]at cP;simp only[Ctx.c2]at cP
   repeat' split at cP
   all_goals first
    |(cases cP;done)
    |(obtain⟨_,_,h⟩:=cD.1 cP;cases h;done)
theorem akh{vars:List Nat}{ρ:Operand->Value}{o:Oper}{pos:String}{z:List V}(db:C.op vars pos o.op=.alloc z):
  ∃t cells,o.op=.alloc t/\(execOp ρ o).run C.P w=.ok (.value (.pointer (some ⟨w.heap.size,0,none⟩))) (w.alloc (.cells cells t))/\(∀G' w',bj fid G' w' z cells.toList)/\∀(w':World) b,w'.heap[b]? =some (.cells cells t (0,0))->ES C w' b z:=by
 obtain⟨t,z0,ho,aJ,rfl⟩:=akg db;obtain⟨cK,oO,oP,a1,i,hi,-⟩:=E9 (fid:=fid) aJ;refine⟨t,cK.cells,ho,?_,fun G' w'=>WC (oP G' w'),fun w' b hb=>WD (G:=⟨fun _=>none,fun _=>False⟩) (fid:=fid) (w:=w) a1 (oP _ _) hb⟩;unfold execOp;rw[ho];simp only[Instr.alloc,Sem.run_bind,oO,Result.andThen_ok,Sem.run_pure,newVar,newRow,run_newObj,World.alloc_eq]
section
variable{vars:List Nat}{N:Nat}{ops:Array Oper}{bR:List bU}{call:c5}{S:Nat->aw}{bc:Nat->Bool}
structure J1 (ops:Array Oper) (bR:List bU) (call:c5) (S:Nat->aw) (bc:Nat->Bool) (p q:Nat):Prop where
 aki:p<=q
 Xv:q<=ops.size
 still:∀i,i<p->bc i=false
 writer:∀i,q<=i->i<ops.size->bc i=true->∀(j:Nat) bh,p<=j->bR[j]? =some bh->gE bh.op=true->i≠j->((CheckFast.beforeF ops).getD (max i j) 0).testBit (min i j)=true
 behind:∀(j:Nat) bh,q<=j->bR[j]? =some bh->gE bh.op=true->∀i,p<=i->i<q->((CheckFast.beforeF ops).getD j 0).testBit i=true
 alloc:∀i,p<=i->i<q->∃bh z,bR[i]? =some bh/\bh.op=.alloc z/\bh.guard=none
 jH:∀(j:Nat) bh k,j<p->q<=k->k<=ops.size->bR[j]? =some bh->gE bh.op=true->jH call (bh,S j,(S k).H)=true
structure Fw (C:Ctx) (fid:Nat->Nat) (vars:List Nat) (N:Nat) (ops:Array Oper) (S:Nat->aw) (bc:Nat->Bool) (p q:Nat) (G:cg) (w:World) (a:Act) (pV:Nat)
  (L:Array Bool) (k:Nat) (aB:cg) (ak:Act) (aH:World):Prop where
 size:L.size=ops.size
 closed:∀x,L.getD x false=true->∀i,((CheckFast.beforeF ops).getD x 0).testBit i=true->L.getD i false=true
 Xw:q<=k
 wA:k<=ops.size
 sH:∀i,q<=i->i<ops.size->bc i=true->(L.getD i false=true↔i<k)
 rel:bd C fid aB (S k).H aH
 free:∀i,p<=i->i<q->L.getD i false=false->aB.β (S i).H.length=Option.none
 env:∀t m,m<=ops.size->(∀(i:Nat) o,ops[i]? =some o->o.dst=some t->(L.getD i false=true↔i<m))->bw fid aB aH (dT vars (S m) t) (ak.tmps.getD t undef)
 qJ:ak.tmps.size=N
 defers:ak.defers=a.defers
 ext:∀m,m<=(S ops.size).low->Ext G w aB aH m pV
theorem J2 (T:lq C vars N ops bR call S bc){p q:Nat}(hl:J1 ops bR call S bc p q){i:Nat}(h1:p<=i)(h2:i<q):
  bc i=true/\∃z,(S (i+1)).H=(S i).H++[.cells z]/\∃bh,bR[i]? =some bh/\bh.op=.alloc z/\bh.guard=none/\S (i+1)=({S i with H:=(S i).H++[.cells z],low:=min (S i).low (S i).H.length}:aw).put bh.dst (.ptr (S i).H.length 0):=by
 have Xx:=hl.Xv;obtain⟨bh,z,al,db,bb⟩:=hl.alloc i h1 h2;obtain⟨o,akj,ho,gy,a1,ca⟩:=T.get (i:=i) (by omega);rw[al]at gy;cases gy;rcases ca with⟨hw,v,H1,bL,ad,aC,kx⟩|⟨hw,-,-⟩
 case inr=>rw[bb]at hw;simp[gS]at hw
 rw[db]at ad;have CY:step (ai.ah (S i).aM (S i).ay) (S i).H (S i).H.length (.alloc z)=some (v,H1,bL):=ad;simp only[step,aD,bH]at CY;obtain⟨rfl,rfl,rfl⟩:=CY;refine⟨by rw[kx];simp[eG],z,?_,bh,al,db,bb,aC⟩;rw[aC];exact(kX _ _ _).1
theorem Px (T:lq C vars N ops bR call S bc){p q:Nat}(hl:J1 ops bR call S bc p q){i:Nat}(h1:p<=i):∀{k:Nat},i+k<=q->∀(l:Nat) (o:cf),(S i).H[l]? =some o->(S (i+k)).H[l]? =some o
 |0,_,l,o,h=>h
 |k+1,hk,l,o,h=>by
  have ih:=Px T hl h1 (k:=k) (by omega) l o h;obtain⟨-,z,e,-⟩:=J2 T hl (i:=i+k) (by omega) (by omega);show(S (i+k+1)).H[l]? =some o;rw[e,fY ((eY.1 ih).1)];exact ih
theorem akk{id:Nat}{st bf:aw}{a:Act}{Q:Exit->Act->World->Prop}{ro:Option Nat}(cW:C.P.follows .mixedOrders=true)(bP:fl C fid)(bm:hD C fid call)
  (hm:ee (C.oper vars N ops) ops.toList=some bR) (ky:Ctx.zH ops=true) (mJ:Ctx.zI ops=true) (sG:(ops.toList.zip bR).all (fun(o,a)=>Ctx.xZ ops o a)=true)
  {S:Nat->aw} {bc:Nat->Bool} (h0:S 0={st with aM:=[]}) (hn:S ops.size=bf) (T:lq C vars N ops bR call S bc) {p q:Nat} (hl:J1 ops bR call S bc p q) (U:dN C fid vars N G st a w)
  (dO:∀G' bn w',dN C fid vars N G' bf bn w'->(∀m,m<=bf.low->Ext G w G' w' m st.H.length)->bn.defers=a.defers->Q .normal bn w'):
  (Code.region id ops true).wpIn (eV ro) 0 C.P Q a w:=by
 have pX:st.H=(S 0).H/\st.low=(S 0).low:=by rw[h0];exact⟨rfl,rfl⟩
 have Fo:st.low<=st.H.length:=U.low;have Ac:=hl.aki;have Xx:=hl.Xv
 have tE:∀k,k<=ops.size->st.H.length<=(S k).H.length:=fun k hk=>by
  have:=(T.n0 bm.b7 (i:=0) (j:=k) (cN _) hk).1.len;rw[<-pX.1]at this;exact this
 have akl:∀j,j<=p->(S j).H=(S 0).H:=fun j hj=>by
  have:=T.heap bm.b7 (i:=0) (k:=j) (by omega) fun x _ h2=>hl.still x (by omega);rw[eo]at this;exact this
 have akm:∀i,p<=i->i<q->∀k,q<=k->k<=ops.size->(S i).H.length<(S k).H.length:=fun i h1 h2 k au a7=>by
  obtain⟨-,z,e,-⟩:=J2 T hl h1 h2;have:=(T.n0 bm.b7 (i:=i+1) (j:=k) (by omega) a7).1.len;rw[e]at this;simp at this;omega
 have oV:∀L k aB ak aH,Fw C fid vars N ops S bc p q G w a st.H.length L k aB ak aH->(∀i,i<ops.size->L.getD i false=true)->Q .normal ak aH:=by
  intro L k aB ak aH I eC
  have hk:(S ops.size).H=(S k).H:=by
   have CZ:=I.Xw;obtain⟨d,hd⟩:=oz I.wA;rw[hd];refine T.heap bm.b7 (by omega) fun x h1 h2=> ?_;cases ag:bc x with
   |false=>rfl
   |true=>have:=(I.sH x (by omega) (by omega) ag).1 (eC x (by omega));omega
  refine dO aB ak aH ?_ (fun m hm=>I.ext m (by rw[hn];exact hm)) I.defers;rw[<-hn];refine⟨by rw[hk];exact I.rel,fun t=>I.env t ops.size (aN _) fun i o ho _=> ?_,I.qJ,?_⟩
  ·have:i<ops.size:=(uI.1 ho).1
   simp[this,eC i this]
  ·exact(T.n0 bm.b7 (cN _) (aN _)).bound (by rw[<-pX.1,<-pX.2];exact Fo)
 have Fp:∀L k aB ak aH,Fw C fid vars N ops S bc p q G w a st.H.length L k aB ak aH->Region.ready .any ops L=[]->∀i,i<ops.size->L.getD i false=true:=by
  intro L k aB ak aH I hr i
  induction i using Nat.strongRecOn with
  | _ i ih=>
    intro hi;cases dP:L.getD i false with
    |true=>rfl
    |false=>
     exfalso
     have:i∈Region.ready .any ops L:=mem_ready.2 ⟨by
      have:i<L.size:=by rw[I.size];exact hi
      simp only[Array.getD,this,dif_pos]at dP⊢; exact dP,ops[i],by simp[hi],fun e he hb=>by
       have aG:=Pn ky (j:=i) (o:=ops[i]) (by simp[hi]) he hb;exact ih e.on aG (by omega)⟩
     rw[hr]at this;cases this
 have mG:∀(fuel:Nat) (L:Array Bool) (k:Nat) (aB:cg) (ak:Act) (aH:World) (j:Nat),Fw C fid vars N ops S bc p q G w a st.H.length L k aB ak aH->j∈Region.ready .any ops L->
   (∀ik bJ G' bn w',Fw C fid vars N ops S bc p q G w a st.H.length ik bJ G' bn w'->ik=L.setIfInBounds j true->wpAnyIn (eV ro) 0 C.P .any ops Q fuel ik bn w')->
   wpOpIn (eV ro) 0 C.P ops Q j (wpAnyIn (eV ro) 0 C.P .any ops Q fuel (L.setIfInBounds j true)) ak aH:=by
  intro fuel L k aB ak aH j I hj yj;obtain⟨yk,o,ho,Fq⟩:=mem_ready.1 hj;have iX:j<ops.size:=(uI.1 ho).1;have l9:j<L.size:=by rw[I.size];exact iX
  have pJ:L.getD j false=false:=by simp only[Array.getD,l9,dif_pos]at yk⊢; exact yk
  have CZ:=I.Xw;have tG:=I.wA;obtain⟨o',bh,ka,gy,a1,ca⟩:=T.get iX;rw[ho]at ka;cases ka
  have yl:∀i,((CheckFast.beforeF ops).getD j 0).testBit i=true->L.getD i false=true:=fun i hb=>by
   obtain⟨e,mH,nV,qK⟩:=Pl ho hb;have hl:=Fq e mH nV;rcases qK with rfl|qK
   ·exact hl
   ·exact I.closed e.on hl i qK
  have ny:∀i,i≠j->((CheckFast.beforeF ops).getD (max i j) 0).testBit (min i j)=true->(L.getD i false=true↔i<j):=by
   intro i cY hb;rcases gD i j with aG|hge
   ·rw[Je (by omega),pz (by omega)]at hb
    exact⟨fun _=>aG,fun _=>yl i hb⟩
   ·rw[Jh hge,sf hge]at hb
    refine⟨fun dP=> ?_,fun h=>by omega⟩;have:=I.closed i dP j hb;rw[pJ]at this;cases this
  have ym:∀t,(o.dst=some t\/t∈Ctx.gd ops o)->∀(i:Nat) p,ops[i]? =some p->p.dst=some t->i≠j->(L.getD i false=true↔i<j):=fun t ht i p hp hd cY=>
   ny i cY (Pm mJ ho hp hd cY ht)
  have eR:=ca.b7 bm.b7
  have CX:∀x∈bh.op.operands,JU (fun t=>t∈Ctx.gd ops o) x:=by
   intro x hx;have h1:(o,bh)∈ops.toList.zip bR:=py.2 ⟨j,by rw[Ch];exact⟨by rw[iG];exact ho,gy⟩⟩;have h2:=eE.1 sG _ h1;simp only[Ctx.xZ,eE]at h2;have au:=h2 x hx;cases x with
   |tmp t=>exact uK.1 au
   |var t=>exact uK.1 au
   |const v=>trivial
   |func i=>trivial
  have JY:∀t,t∈Ctx.gd ops o->bw fid aB aH (dT vars (S j) t) (ak.tmps.getD t undef):=fun t ht=>by
   refine I.env t j (by omega) fun i p hp hd=> ?_;by_cases cY:i=j
   ·subst cY;simp[pJ]
   ·exact ym t (.inr ht) i p hp hd cY
  have kE:∀i,(L.setIfInBounds j true).getD i false=true↔i=j\/L.getD i false=true:=fun i=>wB l9
  have akn:p<=j->j<q->gE bh.op=true->(S k).H=(S q).H:=fun Xy Xz ht=>by
   obtain⟨d,rfl⟩:=oz CZ;refine T.heap bm.b7 (by omega) fun x h1 h2=> ?_;cases ag:bc x with
   |false=>rfl
   |true=>
    have hx:=(I.sH x h1 (by omega) ag).2 h2;have hb:=hl.writer x h1 (by omega) ag j bh Xy gy ht (by omega);rw[Jh (by omega),sf (by omega)]at hb;have:=I.closed x hx j hb;rw[pJ]at this;cases this
  have Af:∀(bJ:Nat) (x:Value) (bQ:World) (bC:cg),q<=bJ->bJ<=ops.size->(∀i,q<=i->i<ops.size->bc i=true->(i=j\/L.getD i false=true↔i<bJ))->bd C fid bC (S bJ).H bQ->(∀m,m<=(S (j+1)).low->Ext aB aH bC bQ m st.H.length)->(∀t,o.dst=some t->bw fid bC bQ (dT vars (S (j+1)) t) x)->
    (∀i,p<=i->i<q->i≠j->L.getD i false=false->bC.β (S i).H.length=Option.none)->wpAnyIn (eV ro) 0 C.P .any ops Q fuel (L.setIfInBounds j true) (ak.put o.dst x) bQ:=by
   intro bJ x bQ bC q1 q2 b3 p1 p2 p3 mR;have nx:=p2 0 (cN _);refine yj _ bJ bC _ bQ ⟨by simp[I.size],fun x hx i hb=> ?_,q1,q2,fun i h1 h2 ag=>by rw[kE];exact b3 i h1 h2 ag,p1,fun i hi ag rz=> ?_,fun t m hm eB=> ?_,by rw[yi];exact I.qJ,by rw[put_defers];exact I.defers,fun m hm=> ?_⟩ rfl
   ·rw[kE]at hx⊢
    rcases hx with rfl|hx
    ·exact .inr (yl i hb)
    ·exact .inr (I.closed x hx i hb)
   ·have bq:i≠j:=fun e=>by
     have:=(kE i).2 (.inl e);rw[this]at rz;cases rz
    refine mR i hi ag bq ?_;cases af:L.getD i false with
    |false=>rfl
    |true=>
     have:=(kE i).2 (.inr af);rw[this]at rz;cases rz
   ·refine Aa (fun d hd=>by rw[I.qJ];exact a1.lt d hd) (fun h=> ?_) (fun h=> ?_)
    ·have Ft:j<m:=(eB j o ho h).1 ((kE j).2 (.inl rfl))
     have e:dT vars (S m) t=dT vars (S (j+1)) t:=by
      obtain⟨d,rfl⟩:=oz (show j+1<=m from Ft);refine T.slot (by omega) fun x p h1 h2 hp hd=> ?_;have tD:x≠j:=by omega
      have ak:=(kE x).1 ((eB x p hp hd).2 h2);have a2:=(ym t (.inl h) x p hp hd tD).1 (ak.resolve_left tD);omega
     rw[e];exact p3 t h
    ·refine(I.env t m hm fun i p hp hd=> ?_).ext I.rel nx
     have cY:i≠j:=fun e=>by subst e;rw[ho]at hp;cases hp;exact h hd
     rw[<-eB i p hp hd,kE];simp[cY]
   ·have ad:=(T.n0 bm.b7 (i:=j+1) (j:=ops.size) iX (aN _)).1.low
    exact(I.ext m hm).trans (p2 m (by omega))
  by_cases hA:p<=j/\j<q
  ·
   obtain⟨h1,h2⟩:=hA;obtain⟨iz,z,ako,akj,XA,db,JZ,aC⟩:=J2 T hl h1 h2;rw[gy]at XA;cases XA
   have z6:o.guard=none:=by
    have:=a1.guard;rw[JZ]at this;cases bb:o.guard with
    |none=>rfl
    |some p=>
     obtain⟨q,b⟩:=p;rw[bb]at this;simp only[Ctx.guard]at this;split at this<;>simp at this
   have J0:C.op vars o.pos o.op=.alloc z:=by rw[<-a1.op];exact db
   obtain⟨ty,cells,e7,ct,pQ,Fx⟩:=akh (fid:=fid) (w:=aH) (ρ:=ak.eval) J0;refine Xt ho z6 (by rw[e7];simp) ct ?_
   have mQ:∀t,o.dst=some t->dT vars (S (j+1)) t=.ptr (S j).H.length 0:=fun t ht=>by
    rw[aC];rcases a1.dst with⟨h2,-⟩|⟨d,-,h2,au⟩
    ·rw[h2]at ht;cases ht
    ·rw[h2]at ht;cases ht
     rw[au,Fk,if_pos rfl]
   have hk:(S k).H=(S q).H:=akn h1 h2 (by rw[db];rfl);have tF:=I.free j h1 h2 pJ
   have hcell:(S k).H[(S j).H.length]? =some (.cells z):=by
    rw[hk];obtain⟨d,hd⟩:=oz (show j+1<=q from h2);rw[hd];refine Px T hl (by omega) (by omega) _ _ ?_;rw[ako];simp
   have Pw:=I.rel.place tF hcell (.cells cells ty) 0 0 ⟨⟨rfl,Fx _ _ (mE _ _)⟩,rfl,cells,ty,mE _ _,pQ _ _⟩;refine Af k _ _ _ CZ tG (fun i q1 q2 ag=> ?_) Pw (fun m _=>.place tF _ _ _ m (tE j (by omega))) (fun t ht=> ?_) fun i XB rz cY dP=> ?_
   ·rw[<-I.sH i q1 q2 ag]
    exact⟨fun h=>h.resolve_left (by omega),.inr⟩
   ·rw[mQ t ht]
    exact .ptr _ _ ⟨aH.heap.size,0,0,false⟩ (dw _ _ _) rfl
   ·have bq:(S i).H.length≠(S j).H.length:=by
     have key:∀i j,p<=i->i<q->i<j->j<q->(S i).H.length<(S j).H.length:=fun i j ak a2 a3 a4=>by
      obtain⟨-,z,e,-⟩:=J2 T hl ak a2;have:=(T.n0 bm.b7 (i:=i+1) (j:=j) (by omega) (by omega)).1.len;rw[e]at this;simp at this;omega
     rcases Nat.lt_or_gt_of_ne cY with c|c
     ·have:=key i j XB rz c h2;omega
     ·have:=key j i h1 h2 c rz;omega
    show cE aB.β (S j).H.length _ (S i).H.length=_;rw[dH bq];exact I.free i XB rz dP
  ·
   have Pq:gE bh.op=true->(S k).H=(S j).H\/(bc j=false/\(gS (S j).aM (S j).ay bh.guard=some true->∀v H1 bL,ch call (ai.ah (S j).aM (S j).ay) (S j).H (S j).H.length bh.op=some (v,H1,bL)->∃H2 dL,ch call (ai.ah (S j).aM (S j).ay) (S k).H (S k).H.length bh.op=some (v,H2,dL)/\eG (S k).H H2 dL=false)):=by
    intro ht;rcases gD j p with hjp|hjp
    ·refine .inr ⟨hl.still j hjp,fun hw v H1 bL h1=> ?_⟩
     have n1:=hl.jH j bh k hjp CZ tG gy ht;unfold Abs.jH at n1;simp only[hw,h1]at n1;split at n1
     ·rename_i v' H2 dL h2
      simp only[cm,oB]at n1;have:=wy _ _ n1.1;subst this;exact⟨H2,dL,h2,n1.2⟩
     ·cases n1
    ·have Xz:q<=j:=by
      rcases gD j q with c|c
      ·exact absurd ⟨hjp,c⟩ hA
      ·exact c
     left;have Fs:∀x,q<=x->x<ops.size->bc x=true->x≠j->(L.getD x false=true↔x<j):=fun x h1 h2 ag hx=>ny x hx (hl.writer x h1 h2 ag j bh hjp gy ht hx);rcases Nat.le_total k j with wC|hjk
     ·obtain⟨d,rfl⟩:=oz wC
      refine(T.heap bm.b7 (by omega) fun x h1 h2=> ?_).symm;cases ag:bc x with
      |false=>rfl
      |true=>
       have ak:=(Fs x (by omega) (by omega) ag (by omega)).2 (by omega);have a2:=(I.sH x (by omega) (by omega) ag).1 ak;omega
     ·obtain⟨d,rfl⟩:=oz hjk
      refine T.heap bm.b7 (by omega) fun x h1 h2=> ?_;cases ag:bc x with
      |false=>rfl
      |true=>
       have a2:=(I.sH x (by omega) (by omega) ag).2 (by omega);by_cases hx:x=j
       ·subst hx;rw[pJ]at a2;cases a2
       ·have:=(Fs x (by omega) (by omega) ag hx).1 a2;omega
   have Pr:(S j).low<=(S k).H.length:=by
    have ad:=(T.n0 bm.b7 (i:=0) (j:=j) (cN _) (by omega)).1.low;have e2:=tE k tG;rw[<-pX.2]at ad;omega
   refine z7 (T:=fun t=>t∈Ctx.gd ops o) bP bm ho a1 ca I.rel Pq Pr JY CX (fun q want d bb hd=> ?_) I.qJ ?_
   ·simp only[Ctx.gd,kq]
    right;rw[bb];simp only[];rw[hd];simp
   ·intro x bQ bC p1 p2 p3
    have Fy:∀i,p<=i->i<q->i≠j->L.getD i false=false->bC.β (S i).H.length=Option.none:=fun i h1 h2 cY dP=>by
     have tF:=I.free i h1 h2 dP;cases hb:bC.β (S i).H.length with
     |none=>rfl
     |some h'=>
      exfalso;rcases(p2 0 (cN _)).oG _ _ hb with⟨h,c7,-⟩|⟨hge,-⟩
      ·rw[tF]at c7;cases c7
      ·have:=akm i h1 h2 k CZ tG;omega
    have XC:∀m,m<=(S (j+1)).low->Ext aB aH bC bQ m st.H.length:=fun m hm=>(p2 m hm).le (aN _) (tE k tG);cases iz:bc j with
    |false=>
     rw[iz]at p1;refine Af k x bQ bC CZ tG (fun i q1 q2 ag=> ?_) p1 XC p3 Fy;rw[<-I.sH i q1 q2 ag];exact⟨fun h=>h.resolve_left (fun e=>by rw[e,iz]at ag;cases ag),.inr⟩
    |true=>
     rw[iz]at p1
     have Xz:q<=j:=by
      rcases gD j q with c|c
      ·rcases gD j p with c'|c'
       ·rw[hl.still j c']at iz;cases iz
       ·exact absurd ⟨c',c⟩ hA
      ·exact c
     refine Af (j+1) x bQ bC (by omega) iX (fun i q1 q2 ag=> ?_) p1 XC p3 Fy;by_cases cY:i=j
     ·subst cY;simp
     ·have:=ny i cY (hl.writer i q1 q2 ag j bh (by omega) gy (ca.gE iz) cY)
      simp only[cY,false_or];rw[this];omega
 have key:∀(fuel:Nat) (L:Array Bool) (k:Nat) (aB:cg) (ak:Act) (aH:World),Fw C fid vars N ops S bc p q G w a st.H.length L k aB ak aH->(List.range ops.size).countP (fun i=>!L.getD i false)<=fuel->
   wpAnyIn (eV ro) 0 C.P .any ops Q fuel L ak aH:=by
  intro fuel
  induction fuel with
  |zero=>
   intro L k aB ak aH I hc
   have eC:∀i,i<ops.size->L.getD i false=true:=fun i hi=>by
    have h1:=List.countP_eq_zero.1 (Nat.le_zero.1 hc) i (by simpa using hi);simpa using h1
   refine⟨?_,oV _ _ _ _ _ I eC⟩;cases hr:Region.ready .any ops L with
   |nil=>rfl
   |cons i r=>
    obtain⟨h1,o,ho,-⟩:=mem_ready.1 (show i∈Region.ready .any ops L by rw[hr];simp);have hi:i<ops.size:=(uI.1 ho).1;have h2:=eC i hi;have:i<L.size:=by rw[I.size];exact hi
    simp only[Array.getD,this,dif_pos]at h1 h2;rw[h1]at h2;cases h2
  |succ fuel ih=>
   intro L k aB ak aH I hc;refine⟨fun hr=>oV _ _ _ _ _ I (Fp _ _ _ _ _ I hr),fun j hj=>mG fuel L k aB ak aH j I hj fun ik bJ G' bn w' sw e=>ih ik bJ G' bn w' sw ?_⟩;subst e;obtain⟨h1,o,ho,-⟩:=mem_ready.1 hj;have iX:j<ops.size:=(uI.1 ho).1;have l9:j<L.size:=by rw[I.size];exact iX
   have aG:(List.range ops.size).countP (fun i=>!(L.setIfInBounds j true).getD i false)<(List.range ops.size).countP (fun i=>!L.getD i false):=by
    refine Po (a:=j) (fun x _ hx=> ?_) (by simpa using iX) ?_ ?_
    ·cases af:L.getD x false with
     |false=>rfl
     |true=>
      have:=(wB (i:=x) l9).2 (.inr af);rw[this]at hx;cases hx
    ·simp only[Array.getD,l9,dif_pos]at h1⊢; rw[h1];rfl
    ·have:=(wB (i:=j) l9).2 (.inl rfl)
     rw[this];rfl
   omega
 refine wpIn_region_any cW ?_;have hw:({w with drawn:=w.drawn+1}:World).heap=w.heap:=rfl;have jO:=(U.clear).jo hw;rw[<-h0]at jO
 have kc:∀i,(Array.replicate ops.size false).getD i false=false:=fun i=>by
  by_cases h:i<ops.size
  ·simp[h]
  ·simp[h]
 refine key ops.size (Array.replicate ops.size false) q G a {w with drawn:=w.drawn+1} ⟨by simp,fun x hx=>absurd hx (by rw[kc];simp),aN _,Xx,fun i h1 _ ag=>by rw[kc];simp;omega,jO.rel.longer fun l o nR=> ?_,fun i h1 h2 _=> ?_,fun t m hm eB=> ?_,jO.size,rfl,fun m _=>Ext.jo hw rfl rfl m _⟩ ?_
 ·rw[<-akl p (aN _)]at nR
  obtain⟨d,hd⟩:=oz Ac;rw[hd];exact Px T hl (aN _) (by omega) l o nR
 ·exact U.rel.none (tE i (by omega))
 ·have e:dT vars (S m) t=dT vars (S 0) t:=by
   have:=T.slot (t:=t) (i:=0) (k:=m) (by omega) fun x p h1 h2 hp hd=>by
    have:=(eB x p hp hd).2 (by omega);rw[kc]at this;cases this
   rw[eo]at this;exact this
  rw[e];exact jO.env t
 ·refine c4 List.countP_le_length (by simp)
theorem XD{α:Type}{f:α->Bool}:∀{l:List α} {i:Nat},i<(l.takeWhile f).length->∃a,l[i]? =some a/\f a=true
 |[],i,h=>by simp at h
 |a::l,i,h=>by
  rw[List.takeWhile_cons]at h;split at h
  ·rename_i ag
   cases i with
   |zero=>exact⟨a,rfl,ag⟩
   |succ i=>
    simp only[iI]at h;obtain⟨b,h1,h2⟩:=XD (f:=f) (l:=l) (i:=i) (by omega);exact⟨b,by simpa using h1,h2⟩
  ·simp at h
theorem XE (l:List bU):lk l<=qw l:=NK _ _
theorem Py{α:Type}(f:α->Bool)(l:List α):(l.takeWhile f).length<=l.length:=(List.takeWhile_sublist f).length_le
theorem akp (l:List bU):qw l<=l.length:=by
 unfold qw;have h1:=Py EH (l.drop (lk l));have h2:lk l<=l.length:=Py _ l;simp only[qs]at h1;omega
theorem akq{l:List bU}{i:Nat}(h1:lk l<=i)(h2:i<qw l):∃bh z,l[i]? =some bh/\bh.op=.alloc z/\bh.guard=none:=by
 unfold qw at h2;obtain⟨bh,au,a7⟩:=XD (l:=l.drop (lk l)) (f:=EH) (i:=i-lk l) (by omega);rw[Vp]at au;refine⟨bh,?_⟩;unfold EH at a7;split at a7
 ·rename_i z ad e2
  exact⟨z,by rw[<-au];congr 1;omega,ad,e2⟩
 ·cases a7
theorem akr{st:aw}{wr:List Bool}{cv:List aw}(hm:ee (C.oper vars N ops) ops.toList=some bR)(pW:fH call bR {st with aM:=[]}=some cv)
  (h0:S 0={st with aM:=[]}) (lr:wr=(List.range ops.size).map bc) (hs:∀(i:Nat) bh,bR[i]? =some bh->mP call bh (S i) (S (i+1)) (bc i))
  (hc:xX (CheckFast.beforeF ops).toList bR wr=true) (hd:(Cp bR cv).all (jH call)=true):J1 ops bR call S bc (lk bR) (qw bR):=by
 have hlen:bR.length=ops.size:=by rw[wm _ hm,gY]
 have hC:∀i,(CheckFast.beforeF ops).toList.getD i 0=(CheckFast.beforeF ops).getD i 0:=fun i=>by
  rw[nq,iG,xL]
 have Ad:∀i j,qv (CheckFast.beforeF ops).toList i j=true->((CheckFast.beforeF ops).getD (max i j) 0).testBit (min i j)=true:=fun i j this=>by
  rw[JW,hC,hC]at this;split at this
  ·rw[Jh (by omega),sf (by omega)];exact this
  ·rw[Je (by omega),pz (by omega)];exact this
 have XF:∀i,i<ops.size->wr[i]? =some (bc i):=fun i hi=>by rw[lr];simp[hi]
 have bu:=akp bR;have Ac:=XE bR;unfold xX at hc;simp only[cm,eE]at hc;obtain⟨⟨cT,dI⟩,fg⟩:=hc;rw[<-h0]at pW;have oK:=JT bR S bc cv hs pW;refine⟨Ac,by omega,fun i hi=> ?_,fun i h1 h2 ag j bh Xy hj ht cY=> ?_,fun j bh h1 hj ht i h2 au=> ?_,fun i h1 h2=>akq h1 h2,fun j bh k hj hk JX al ht=> ?_⟩
 ·have:=cT (bc i) (py.2 ⟨i,by rw[I7,if_pos hi];exact XF i (by omega)⟩)
  simpa using this
 ·have:=dI (true,i) (jC.2 (by rw[<-ag];exact XF i h2))
  have hb:Nat.blt i (qw bR)=false:=by
   cases hx:Nat.blt i (qw bR)with
   |false=>rfl
   |true=>have:=j1 hx;omega
  simp only[fZ,hb,zx,tj,eE]at this;have au:=this (bh,j) (jC.2 hj)
  have nW:Nat.blt j (lk bR)=false:=by
   cases hx:Nat.blt j (lk bR)with
   |false=>rfl
   |true=>have:=j1 hx;omega
  simp only[ht,nW,fZ,tj,j2,beq_iff_eq,cY,false_or]at au;exact Ad i j au
 ·have:=fg (bh,j) (jC.2 hj)
  have hb:Nat.blt j (qw bR)=false:=by
   cases hx:Nat.blt j (qw bR)with
   |false=>rfl
   |true=>have:=j1 hx;omega
  simp only[ht,hb,fZ,zx,tj,eE]at this;have a7:=Ad i j (this i (by rw[List.mem_range'_1];omega));rw[Je (by omega),pz (by omega)]at a7;exact a7
 ·have dD:(bh,S j,(S k).H)∈Cp bR cv:=by
   unfold Cp;simp only[Jd,Vt];refine⟨S k,py.2 ⟨k-qw bR,?_⟩,(bh,S j),py.2 ⟨j,?_⟩,by simp[ht]⟩
   ·rw[Vp,<-oK k (by omega)];congr 1;omega
   ·rw[I7,if_pos hj,Ch]
    exact⟨al,oK j (by omega)⟩
  exact eE.1 hd _ dD
theorem aks{id:Nat}{st bf:aw}{wr:List Bool}{a:Act}{Q:Exit->Act->World->Prop}{ro:Option Nat}(cW:C.P.follows .mixedOrders=true)(bP:fl C fid)(bm:hD C fid call)
  (hm:ee (C.oper vars N ops) ops.toList=some bR) (ky:Ctx.zH ops=true) (mJ:Ctx.zI ops=true) (sG:(ops.toList.zip bR).all (fun(o,a)=>Ctx.xZ ops o a)=true)
  (he:c8 call bR {st with aM:=[]} []=some (bf,wr)) (hin:(sr (CheckFast.beforeF ops).toList bR wr||pD call (CheckFast.beforeF ops).toList bR wr {st with aM:=[]})=true) (U:dN C fid vars N G st a w)
  (dO:∀G' bn w',dN C fid vars N G' bf bn w'->(∀m,m<=bf.low->Ext G w G' w' m st.H.length)->bn.defers=a.defers->Q .normal bn w'):
  (Code.region id ops true).wpIn (eV ro) 0 C.P Q a w:=by
 cases kF:xW bR with
 |true=>exact ake cW bP bm hm ky mJ sG he kF U dO
 |false=>
  unfold sr at hin;rw[kF,NQ]at hin;unfold pD at hin;rw[<-Bool.or_assoc,j2]at hin;rcases hin with hin|hin
  ·exact akd cW bP bm hm ky mJ sG he hin U dO
  ·split at hin
   ·rename_i cv pW
    rw[cm]at hin;obtain⟨S,bc,h0,hn,lr,hs⟩:=u1 _ _ _ _ _ he;have T:lq C vars N ops bR call S bc:=.of hm hs;rw[T.len]at hn lr;simp only[List.reverse_nil,j4]at lr;exact akk cW bP bm hm ky mJ sG h0 hn T (akr hm pW h0 lr hs hin.1 hin.2) U dO
   ·cases hin
end
end Go.Abs
