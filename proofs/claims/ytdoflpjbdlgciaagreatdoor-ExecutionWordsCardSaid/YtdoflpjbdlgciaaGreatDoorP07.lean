/- Texts of this claim, joined and written short by a program. -/
import Derived.Test.YtdoflpjbdlgciaaGreatDoorP06
import Derived.Test.YtdoflpjbdlgciaaGreatDoorP00
set_option linter.unusedVariables false
set_option linter.unusedSimpArgs false
set_option linter.unusedSectionVars false
namespace Go.Abs
open Go
variable{C:Ctx}{fid:Nat->Nat}{w w':World}{G G':cc}{H H':Heap}
theorem bf.place (aa:bf C fid G H w){l:Nat}(hn:G.β l=Option.none){o:cD}(hl:H[l]? =some o)(a1:Obj)(tag fB:Nat)
  (ho:jQ C fid ⟨cA G.β l ⟨w.heap.size,tag,fB,false⟩,G.I⟩ (w.alloc a1) ⟨w.heap.size,tag,fB,false⟩ o):
  bf C fid ⟨cA G.β l ⟨w.heap.size,tag,fB,false⟩,G.I⟩ H (w.alloc a1):=by
 have hle:=BD hn ⟨w.heap.size,tag,fB,false⟩;refine⟨fun x h hb=> ?_,fun x gx h h' e e' q=> ?_,fun x h hb=> ?_,fun b hb=> ?_,fun x h hb ae=> ?_,fun b o bx=>⟨(aa.fG b o bx).1,by rw[alloc_old (aa.dd b (aa.fG b o bx).1).1];exact(aa.fG b o bx).2⟩⟩
 ·by_cases hx:x=l
  ·subst hx
   simp only[du]at hb;cases hb;exact⟨o,hl,ho⟩
  ·simp only[dH hx]at hb
   obtain⟨o',e',hr⟩:=aa.obj x h hb;exact⟨o',e',hr.mono (G':=⟨cA G.β l _,G.I⟩) hle (fun b hb=>⟨hb,alloc_old (aa.dd b hb).1⟩) (alloc_old (aa.blk x h hb))⟩
 ·by_cases hx:x=l<;>by_cases en:gx=l
  ·rw[hx,en]
  ·subst hx;simp only[du]at e;cases e
   simp only[dH en]at e';have:=aa.blk gx h' e';simp only at q;omega
  ·subst en;simp only[du]at e';cases e'
   simp only[dH hx]at e;have:=aa.blk x h e;simp only at q;omega
  ·simp only[dH hx]at e;simp only[dH en]at e'
   exact aa.inj x gx h h' e e' q
 ·rw[World.size_alloc]
  by_cases hx:x=l
  ·subst hx;simp only[du]at hb;cases hb;simp
  ·simp only[dH hx]at hb;have:=aa.blk x h hb;omega
 ·have hi:=aa.dd b hb
  refine⟨by rw[World.size_alloc];omega,fun x h e q=> ?_⟩;by_cases hx:x=l
  ·subst hx;simp only[du]at e;cases e;simp only at q;omega
  ·simp only[dH hx]at e;exact hi.2 x h e q
 ·by_cases hx:x=l
  ·subst hx;simp only[du]at hb;cases hb;cases ae
  ·simp only[dH hx]at hb;exact aa.kX x h hb ae
theorem Ext.place{l:Nat}(hn:G.β l=Option.none){fS:Nat}(a1:Obj)(tag fB m:Nat)(hl:fS<=l):Ext G w ⟨cA G.β l ⟨w.heap.size,tag,fB,false⟩,G.I⟩ (w.alloc a1) m fS where
 size:=by simp
 os:=rfl
 output:=rfl
 ey b hb _:=alloc_old hb
 homes:=BD hn _
 n7 x h hb:=by
  by_cases hx:x=l
  ·subst hx;simp only[du]at hb;cases hb;exact .inr ⟨hl,aM _⟩
  ·simp only[dH hx]at hb;exact .inl ⟨h,hb,.inl rfl⟩
 dd _ h:=h
 oR _ h:=.inl h
theorem bf.longer (aa:bf C fid G H w)(h:∀(l:Nat) (o:cD),H[l]? =some o->H'[l]? =some o):bf C fid G H' w:=
 ⟨fun l x e=>by
  obtain⟨o,ho,hr⟩:=aa.obj l x e;exact⟨o,h l o ho,hr⟩,aa.inj,aa.blk,aa.dd,aa.kX,aa.fG⟩
theorem VT{vars:List Nat}{pos:String}{op:Op}{es:Nat}{z:List V}{bytes:Nat}{mu ac:aj}(hc:C.op vars pos op=.mkSlice es z bytes mu ac):∃t l c,op=.makeSlice t l c/\C.cY vars pos op=some (.mkSlice es z bytes mu ac):=by
 have cK:C.cY vars pos op=some (.mkSlice es z bytes mu ac):=by
  unfold Ctx.op at hc;cases h:C.cY vars pos op with
  |none=>rw[h]at hc;cases hc
  |some a=>rw[h]at hc;simp only[w8]at hc;rw[hc]
 cases ho:op with
 |makeSlice t l c=>rw[ho]at cK;exact⟨t,l,c,rfl,cK⟩
 |call c=>
  exfalso;rw[ho]at cK;obtain⟨callee,args,ec⟩:=c;cases callee with
  |value f=>
   simp only[Ctx.cY]at cK;split at cK<;>simp at cK
  |builtin b=>
   simp only[Ctx.cY]at cK;unfold Ctx.builtin at cK
   repeat' split at cK
   all_goals first
    |(cases cK;done)
    |(simp only[aA,reduceCtorEq]at cK;done)
    |(obtain⟨_,_,h⟩:=cG.1 cK;cases h;done)
  |invoke r n=>simp[Ctx.cY]at cK
 |binOp a b c d e=>
  exfalso;rw[ho]at cK;simp only[Ctx.cY,Ctx.yC]at cK
  repeat' split at cK
  all_goals first
   |(cases cK;done)
   |(obtain⟨_,_,h⟩:=cG.1 cK;cases h;done)
 |makeFunc g a b=>
  exfalso;rw[ho]at cK;cases g with
  |func f=>
   simp only[Ctx.cY]at cK;split at cK<;>simp at cK
  | _=>simp[Ctx.cY]at cK
 |makeMap t r=>
  exfalso;rw[ho]at cK;cases r<;>simp[Ctx.cY]at cK
 | _=>
   exfalso;rw[ho]at cK;simp only[Ctx.cY]at cK
   repeat' split at cK
   all_goals first
    |(cases cK;done)
    |(obtain⟨_,_,h⟩:=cG.1 cK;cases h;done)
theorem run_mk{vars:List Nat}{ai:aj->V}{ρ:Operand->Value}{o:Oper}{pos:String}{es:Nat}{z:List V}{bytes:Nat}{mu ac:aj}(aR:fC C fid vars G w ai ρ)(c9:C.op vars pos o.op=.mkSlice es z bytes mu ac)
  {n m:Int} {k bE:IntKind} (ag:ai mu=.int k n) (e2:ai ac=.int bE m) (hb:n=m/\0<=n/\n*(bytes+1)<=2^40):
  0<es/\∃e cells,(execOp ρ o).run C.P w=.ok (.value (.slice (some ⟨w.heap.size,0,none⟩) n.toNat n.toNat)) (w.alloc (.cells cells e))/\cells.size=n.toNat*es/\
   (∀d∈List.replicate n.toNat (lJ z),(aF d).length=es)/\∀G' w',bk fid G' w' ((List.replicate n.toNat (lJ z)).flatMap aF) cells.toList:=by
 obtain⟨t,l,c,ho,hc⟩:=VT c9;rw[ho]at hc;simp only[Ctx.cY]at hc;split at hc
 ·rename_i e hd
  split at hc
  ·rename_i i OW aAI aAJ hi aI h1 h2
   split at hc
   ·cases hc
   ·rename_i ev
    simp only[not_or,ne_eq,Classical.not_not]at ev;simp only[aA,cS.mkSlice.injEq]at hc;obtain⟨rfl,rfl,rfl,rfl,rfl⟩:=hc;obtain⟨cC,oc,od,aZ,-⟩:=Ev (fid:=fid) aI;have yS:cC.cells.size=i.size:=by rw[<-hJ,(od G w).length,ev.2]
    have hl:=aR l _ h1;have vf:=aR c _ h2;obtain⟨rfl,oa,hbound⟩:=hb;rw[ag]at hl;rw[e2]at vf;obtain⟨j,rfl⟩:=DF oa
    have oe:j<=1099511627776:=by
     have:(j:Int)*1<=(j:Int)*((i.bytes:Int)+1):=Int.mul_le_mul_of_nonneg_left (by omega) oa;omega
    have qF:(i.bytes:Int)*(j:Int)<=1099511627776:=by
     have:(j:Int)*((i.bytes:Int)+1)=(i.bytes:Int)*(j:Int)+j:=by rw[Int.mul_add,Int.mul_comm];omega
     omega
    have hw:=Vs oa (by omega:(j:Int)<=1099511627776);have jb:0<i.size:=M4 ev.1
    have cn:∃cells,(execOp ρ o).run C.P w=.ok (.value (.slice (some ⟨w.heap.size,0,none⟩) j j)) (w.alloc (.cells cells e))/\cells.toList=(List.range (j*i.size)).map (fun q=>cC.cells[q%cC.cells.size]!):=by
     refine⟨(Array.range (j*i.size)).map (fun q=>(if j*i.size=0 then #[]else cC.cells:Array Value)[q%(if j*i.size=0 then #[]else cC.cells:Array Value).size]!),?_,?_⟩
     ·unfold execOp;rw[ho]
      have qG:¬((decide ((j:Int)<0)||decide ((i.bytes:Int)*(j:Int)>2^48))=true):=by simp;omega
      have oT:¬((decide ((j:Int)<0)||decide ((i.bytes:Int)*(j:Int)>2^48)||decide ((j:Int)<0)||decide ((j:Int)>(j:Int)))=true):=by simp;omega
      simp only[hl.kf,vf.kf,Instr.makeSlice,asInt,asIntOf,Sem.run_bind,Sem.run_pure,Result.andThen_ok,run_underlying hd,run_typeInfo (P:=C.P) w hi,hw];rw[if_neg (by simpa using oT)];simp only[Sem.run_bind,run_askRoom,Result.andThen_ok,sizeOf,run_typeInfo (P:=C.P) w hi,Sem.run_pure,Bf];by_cases h0:j*i.size=0
      ·simp only[h0,if_true,Sem.run_bind,Sem.run_pure,Result.andThen_ok,newRow,run_newObj,World.alloc_eq]
      ·simp only[h0,if_false,Sem.run_bind,Sem.run_pure,Result.andThen_ok,oc,newRow,run_newObj,World.alloc_eq]
     ·by_cases h0:j*i.size=0
      ·simp[h0]
      ·simp[h0]
    obtain⟨cells,cn,h8⟩:=cn;have hu:=Ol aZ (n:=j) ev.2;rw[yS]at h8
    have qH:∀G' w',bk fid G' w' ((List.replicate j (lJ OW)).flatMap aF) cells.toList:=fun G' w'=>by
     have:=I5 (od G' w') aZ (by omega) j;rw[yS,<-h8]at this;exact this
    refine⟨jb,e,cells,cn,?_,hu,qH⟩;rw[<-hJ,(qH G w).length,nc hu,w6];rfl
  ·cases hc
 ·cases hc
section
variable{vars:List Nat}{N:Nat}{ops:Array Oper}{bK:List bP}{call:c1}{S:Nat->au}{bb:Nat->Bool}
theorem VU{ai:aj->V}{low bS:Nat}{es:Nat}{z:List V}{bytes:Nat}{mu ac:aj}{v:V}{H1:Heap}(h:cf call ai H low (.mkSlice es z bytes mu ac)=some (v,H1,bS)):
  ∃k bE n m,ai mu=.int k n/\ai ac=.int bE m/\(n=m/\0<=n/\n*(bytes+1)<=2^40)/\
   ((n=0/\v=.emp/\H1=H/\bS=low)\/(n≠0/\v=.b7 H.length es 0 n.toNat n.toNat/\H1=H++[.row es (List.replicate n.toNat (lJ z)) false]/\bS=low)):=by
 have h':step ai H low (.mkSlice es z bytes mu ac)=some (v,H1,bS):=h;simp only[step]at h';split at h'
 ·rename_i k n bE m ag e2
  split at h'
  ·rename_i hb
   refine⟨k,bE,n,m,ag,e2,hb,?_⟩;split at h'
   ·rename_i h0
    cases h';exact .inl ⟨h0,rfl,rfl,rfl⟩
   ·rename_i h0
    cases h';exact .inr ⟨h0,rfl,rfl,rfl⟩
  ·cases h'
 ·cases h'
theorem VV (h:xi bK=true){i:Nat}{bh:bP}(hi:bK[i]? =some bh)(ht:gr bh.op=true):bh.guard=none/\∃es z bytes mu ac,bh.op=.mkSlice es z bytes mu ac:=by
 unfold xi at h;have h1:=eV.1 h bh (e0 hi);rw[ht]at h1;simp only[fQ,qp]at h1;split at h1
 ·rename_i ag e2;exact⟨e2,_,_,_,_,_,ag⟩
 ·cases h1
theorem OX (T:k3 C vars N ops bK call S bb)(hc:my call)(kl:xi bK=true){i:Nat}(hi:i<ops.size):
  (bb i=false/\(S (i+1)).H=(S i).H)\/(bb i=true/\∃o,(S (i+1)).H=(S i).H++[o]):=by
 obtain⟨o,bh,-,gi,-,cg⟩:=T.get hi;cases ae:bb i with
 |false=>exact .inl ⟨rfl,cg.still hc ae⟩
 |true=>
  right;refine⟨rfl,?_⟩;obtain⟨-,es,z,bytes,mu,ac,c9⟩:=VV kl gi (cg.gr ae);rcases cg with⟨-,v,H1,bS,h1,e,h2⟩|⟨-,-,h2⟩
  ·rw[c9]at h1
   obtain⟨k,bE,n,m,-,-,-,hr⟩:=VU h1;have fo:(S (i+1)).H=H1:=by rw[e,(kE _ _ _).1]
   rcases hr with⟨-,-,rfl,rfl⟩|⟨-,-,rfl,-⟩
   ·rw[ae]at h2
    simp[fm]at h2
   ·exact⟨_,fo⟩
  ·rw[h2]at ae;cases ae
theorem OY (T:k3 C vars N ops bK call S bb)(hc:my call)(kl:xi bK=true){i:Nat}:∀{k:Nat},i+k<=ops.size->∀(l:Nat) (o:cD),(S i).H[l]? =some o->(S (i+k)).H[l]? =some o
 |0,_,l,o,h=>h
 |k+1,ah,l,o,h=>by
  have ih:=OY T hc kl (k:=k) (by omega) l o h;rcases OX T hc kl (i:=i+k) (by omega)with⟨-,e⟩|⟨-,o',e⟩
  ·rw[show i+(k+1)=i+k+1 from rfl,e];exact ih
  ·rw[show i+(k+1)=i+k+1 from rfl,e,gM ?_]
   ·exact ih
   ·rcases gq l (S (i+k)).H.length with q|q
    ·exact q
    ·rw[nt q]at ih;cases ih
theorem VW (T:k3 C vars N ops bK call S bb)(hc:my call)(kl:xi bK=true){i j:Nat}(cW:i<j)(hj:j<ops.size)(ae:bb i=true):(S i).H.length<(S j).H.length:=by
 have h1:=(T.nF hc (i:=i+1) (j:=j) cW (by omega)).1.len;rcases OX T hc kl (i:=i) (by omega)with⟨e,-⟩|⟨-,o,e⟩
 ·rw[e]at ae;cases ae
 ·rw[e]at h1;simp at h1;omega
structure EM (C:Ctx) (fid:Nat->Nat) (vars:List Nat) (N:Nat) (ops:Array Oper) (S:Nat->au) (bb:Nat->Bool) (G:cc) (w:World) (a:Act) (om:Nat)
  (L:Array Bool) (az:cc) (al:Act) (aE:World):Prop where
 size:L.size=ops.size
 closed:∀x,L.getD x false=true->∀i,((CheckFast.beforeF ops).getD x 0).testBit i=true->L.getD i false=true
 rel:bf C fid az (S ops.size).H aE
 free:∀i,i<ops.size->bb i=true->L.getD i false=false->az.β (S i).H.length=Option.none
 env:∀t m,m<=ops.size->(∀(i:Nat) o,ops[i]? =some o->o.dst=some t->(L.getD i false=true↔i<m))->bq fid az aE (dX vars (S m) t) (al.tmps.getD t undef)
 pU:al.tmps.size=N
 defers:al.defers=a.defers
 ext:∀m,m<=(S ops.size).low->Ext G w az aE m om
theorem VX{j:Nat}{o:Oper}{a:Act}{K:Act->World->Prop}{Q:Exit->Act->World->Prop}{ro:Option Nat}{aE:World}(ho:ops[j]? =some o)(bx:o.guard=none)(hnd:∀c,o.op≠ .defer c){x:Value}
  (cn:(execOp a.eval o).run C.P w=.ok (.value x) aE) (oi:K (a.put o.dst x) aE):wpOpIn (eJ ro) 0 C.P ops Q j K a w:=by
 unfold wpOpIn;rw[ho];have hw:Region.wanted o (yielded ops a.tmps)=true:=by unfold Region.wanted;rw[bx]
 simp only[hw,if_true];refine⟨fun _ _=>trivial,?_⟩;rw[Oper.semAt_eq _ _ _ hnd,cn];exact oi
theorem aiF{id:Nat}{st aX:au}{wr:List Bool}{a:Act}{Q:Exit->Act->World->Prop}{ro:Option Nat}(cR:C.P.follows .mixedOrders=true)(bF:fp C fid)(bn:hB C fid call)
  (hm:ee (C.oper vars N ops) ops.toList=some bK) (kh:Ctx.yD ops=true) (mr:Ctx.yE ops=true) (rJ:(ops.toList.zip bK).all (fun(o,a)=>Ctx.xl ops o a)=true)
  (he:c5 call bK {st with aG:=[]} []=some (aX,wr)) (kl:xi bK=true) (aa:dO C fid vars N G st a w)
  (dP:∀G' bl w',dO C fid vars N G' aX bl w'->(∀m,m<=aX.low->Ext G w G' w' m st.H.length)->bl.defers=a.defers->Q .normal bl w'):
  (Code.region id ops true).wpIn (eJ ro) 0 C.P Q a w:=by
 obtain⟨S,bb,h0,hn,-,hs⟩:=tQ _ _ _ _ _ he;have T:k3 C vars N ops bK call S bb:=.of hm hs;rw[T.len]at hn;have o4:st.H=(S 0).H/\st.low=(S 0).low:=by rw[h0];exact⟨rfl,rfl⟩
 have EG:st.low<=st.H.length:=aa.low
 have sE:∀k,k<=ops.size->st.H.length<=(S k).H.length:=fun k ah=>by
  have:=(T.nF bn.b2 (i:=0) (j:=k) (cI _) ah).1.len;rw[<-o4.1]at this;exact this
 have oo:∀L az al aE,EM C fid vars N ops S bb G w a st.H.length L az al aE->(∀i,i<ops.size->L.getD i false=true)->Q .normal al aE:=by
  intro L az al aE I eD;refine dP az al aE ?_ (fun m hm=>I.ext m (by rw[hn];exact hm)) I.defers;rw[<-hn];refine⟨I.rel,fun t=>I.env t ops.size (aM _) fun i o ho _=> ?_,I.pU,?_⟩
  ·have:i<ops.size:=(tt.1 ho).1
   simp[this,eD i this]
  ·exact(T.nF bn.b2 (cI _) (aM _)).bound (by rw[<-o4.1,<-o4.2];exact EG)
 have EH:∀L az al aE,EM C fid vars N ops S bb G w a st.H.length L az al aE->Region.ready .any ops L=[]->∀i,i<ops.size->L.getD i false=true:=by
  intro L az al aE I hr i
  induction i using Nat.strongRecOn with
  | _ i ih=>
    intro hi;cases dY:L.getD i false with
    |true=>rfl
    |false=>
     exfalso
     have:i∈Region.ready .any ops L:=mem_ready.2 ⟨by
      have:i<L.size:=by rw[I.size];exact hi
      simp only[Array.getD,this,dif_pos]at dY⊢; exact dY,ops[i],by simp[hi],fun e he hb=>by
       have aH:=OQ kh (j:=i) (o:=ops[i]) (by simp[hi]) he hb;exact ih e.on aH (by omega)⟩
     rw[hr]at this;cases this
 have nz:∀(fuel:Nat) (L:Array Bool) (az:cc) (al:Act) (aE:World) (j:Nat),EM C fid vars N ops S bb G w a st.H.length L az al aE->j∈Region.ready .any ops L->
   (∀hY G' bl w',EM C fid vars N ops S bb G w a st.H.length hY G' bl w'->hY=L.setIfInBounds j true->wpAnyIn (eJ ro) 0 C.P .any ops Q fuel hY bl w')->
   wpOpIn (eJ ro) 0 C.P ops Q j (wpAnyIn (eJ ro) 0 C.P .any ops Q fuel (L.setIfInBounds j true)) al aE:=by
  intro fuel L az al aE j I hj rL;obtain⟨xy,o,ho,EI⟩:=mem_ready.1 hj;have iJ:j<ops.size:=(tt.1 ho).1;have lT:j<L.size:=by rw[I.size];exact iJ
  have oS:L.getD j false=false:=by simp only[Array.getD,lT,dif_pos]at xy⊢; exact xy
  obtain⟨o',bh,kZ,gi,aZ,cg⟩:=T.get iJ;rw[ho]at kZ;cases kZ
  have xz:∀i,((CheckFast.beforeF ops).getD j 0).testBit i=true->L.getD i false=true:=fun i hb=>by
   obtain⟨e,mo,nC,pW⟩:=OO ho hb;have hl:=EI e mo nC;rcases pW with rfl|pW
   ·exact hl
   ·exact I.closed e.on hl i pW
  have nd:∀i,i≠j->((CheckFast.beforeF ops).getD (max i j) 0).testBit (min i j)=true->(L.getD i false=true↔i<j):=by
   intro i cW hb;rcases gq i j with aH|hge
   ·rw[H6 (by omega),n6 (by omega)]at hb
    exact⟨fun _=>aH,fun _=>xz i hb⟩
   ·rw[H8 hge,tw hge]at hb
    refine⟨fun dY=> ?_,fun h=>by omega⟩;have:=I.closed i dY j hb;rw[oS]at this;cases this
  have xA:∀t,(o.dst=some t\/t∈Ctx.fU ops o)->∀(i:Nat) p,ops[i]? =some p->p.dst=some t->i≠j->(L.getD i false=true↔i<j):=fun t ht i p hp hd cW=>
   nd i cW (OP mr ho hp hd cW ht)
  have eP:=cg.b2 bn.b2
  have B5:∀x∈bh.op.operands,Jj (fun t=>t∈Ctx.fU ops o) x:=by
   intro x hx;have h1:(o,bh)∈ops.toList.zip bK:=oN.2 ⟨j,by rw[Bc];exact⟨by rw[iX];exact ho,gi⟩⟩;have h2:=eV.1 rJ _ h1;simp only[Ctx.xl,eV]at h2;have av:=h2 x hx;cases x with
   |tmp t=>exact uW.1 av
   |var t=>exact uW.1 av
   |const v=>trivial
   |func i=>trivial
  have Jm:∀t,t∈Ctx.fU ops o->bq fid az aE (dX vars (S j) t) (al.tmps.getD t undef):=fun t ht=>by
   refine I.env t j (by omega) fun i p hp hd=> ?_;by_cases cW:i=j
   ·subst cW;simp[oS]
   ·exact xA t (.inr ht) i p hp hd cW
  have k4:∀i,(L.setIfInBounds j true).getD i false=true↔i=j\/L.getD i false=true:=fun i=>vz lT
  have za:∀(x:Value) (bG:World) (bD:cc),bf C fid bD (S ops.size).H bG->(∀m,m<=(S (j+1)).low->Ext az aE bD bG m st.H.length)->(∀t,o.dst=some t->bq fid bD bG (dX vars (S (j+1)) t) x)->
    (∀i,i<ops.size->bb i=true->i≠j->L.getD i false=false->bD.β (S i).H.length=Option.none)->wpAnyIn (eJ ro) 0 C.P .any ops Q fuel (L.setIfInBounds j true) (al.put o.dst x) bG:=by
   intro x bG bD p1 p2 p3 mC;have oj:=p2 0 (cI _);refine rL _ bD _ bG ⟨by simp[I.size],fun x hx i hb=> ?_,p1,fun i hi ae qI=> ?_,fun t m hm ev=> ?_,by rw[xx];exact I.pU,by rw[put_defers];exact I.defers,fun m hm=> ?_⟩ rfl
   ·rw[k4]at hx⊢
    rcases hx with rfl|hx
    ·exact .inr (xz i hb)
    ·exact .inr (I.closed x hx i hb)
   ·have bu:i≠j:=fun e=>by
     have:=(k4 i).2 (.inl e);rw[this]at qI;cases qI
    refine mC i hi ae bu ?_;cases af:L.getD i false with
    |false=>rfl
    |true=>
     have:=(k4 i).2 (.inr af);rw[this]at qI;cases qI
   ·refine y5 (fun d hd=>by rw[I.pU];exact aZ.lt d hd) (fun h=> ?_) (fun h=> ?_)
    ·have EL:j<m:=(ev j o ho h).1 ((k4 j).2 (.inl rfl))
     have e:dX vars (S m) t=dX vars (S (j+1)) t:=by
      obtain⟨d,rfl⟩:=n5 (show j+1<=m from EL);refine T.slot (by omega) fun x p h1 h2 hp hd=> ?_;have sD:x≠j:=by omega
      have al:=(k4 x).1 ((ev x p hp hd).2 h2);have a2:=(xA t (.inl h) x p hp hd sD).1 (al.resolve_left sD);omega
     rw[e];exact p3 t h
    ·refine(I.env t m hm fun i p hp hd=> ?_).ext I.rel oj
     have cW:i≠j:=fun e=>by subst e;rw[ho]at hp;cases hp;exact h hd
     rw[<-ev i p hp hd,k4];simp[cW]
   ·have ag:=(T.nF bn.b2 (i:=j+1) (j:=ops.size) iJ (aM _)).1.low
    exact(I.ext m hm).trans (p2 m (by omega))
  by_cases ht:gr bh.op=true
  ·
   obtain⟨Jn,es,z,bytes,mu,ac,c9⟩:=VV kl gi ht;rcases cg with⟨hw,v,H1,bS,h1,aD,ll⟩|⟨hw,-,-⟩
   case inr=>rw[Jn]at hw;simp[gE]at hw
   have y2:o.guard=none:=by
    have:=aZ.guard;rw[Jn]at this;cases bx:o.guard with
    |none=>rfl
    |some p=>
     obtain⟨q,b⟩:=p;rw[bx]at this;simp only[Ctx.guard]at this;split at this<;>simp at this
   have Jo:C.op vars o.pos o.op=.mkSlice es z bytes mu ac:=by rw[<-aZ.op];exact c9
   obtain⟨e9,fS,c',eT,-⟩:=VT Jo;let hM:aj->V:=fun cJ=>open Classical in if cJ∈bh.op.operands then aj.ai (S j).aG (S j).aw cJ else .undef
   have aR:fC C fid vars az aE hM al.eval:=fun x cJ hx=>by
    by_cases hin:cJ∈bh.op.operands
    ·have vx:=B5 cJ hin
     simp only[hM,hin,if_true];cases x with
     |tmp t=>
      simp only[Ctx.ch,aA]at hx;have OM:t∈Ctx.fU ops o:=by rw[<-hx]at vx;split at vx<;>exact vx
      have:=Jm t OM;have e:cJ.ai (S j).aG (S j).aw=dX vars (S j) t:=by rw[<-hx];unfold dX;split<;>rfl
      rw[e];exact this
     |const u=>
      simp only[Ctx.ch]at hx;obtain⟨VM,jS,rfl⟩:=cG.1 hx;rcases Eh (I:=az.I) (w:=aE) u jS with rfl|hp
      ·exact .undef _
      ·exact .p _ _ hp
     |func f=>exact NW bF hx
     |global g=>simp[Ctx.ch]at hx
    ·simp only[hM,hin,if_false];exact .undef _
   rw[c9]at h1;obtain⟨k,bE,n,m,ag,e2,hb,tS⟩:=VU h1
   have B6:hM mu=.int k n:=by
    have:mu∈bh.op.operands:=by rw[c9];simp[cS.operands]
    simp only[hM,this,if_true];exact ag
   have aiG:hM ac=.int bE m:=by
    have:ac∈bh.op.operands:=by rw[c9];simp[cS.operands]
    simp only[hM,this,if_true];exact e2
   obtain⟨jb,e,cells,cn,oW,hu,qH⟩:=run_mk (w:=aE) aR Jo B6 aiG hb;refine VX ho y2 (by rw[eT];simp) cn ?_;have gj:=kE {S j with H:=H1,low:=min (S j).low bS} bh.dst v
   have mB:∀t,o.dst=some t->dX vars (S (j+1)) t=v:=fun t ht=>by
    rw[aD];rcases aZ.dst with⟨h2,-⟩|⟨d,-,h2,av⟩
    ·rw[h2]at ht;cases ht
    ·rw[h2]at ht;cases ht
     rw[av,EE,if_pos rfl]
   rcases tS with⟨oa,rfl,rfl,-⟩|⟨oa,rfl,VY,-⟩
   ·subst oa
    have ah:∀b,b<aE.heap.size->(aE.alloc (.cells cells e)).heap[b]? =aE.heap[b]? :=fun b hb=>alloc_old hb;refine za _ _ az (I.rel.restore (by simp) ah) (fun m _=>.restore (by simp) ah rfl rfl m _) (fun t ht=> ?_) fun i hi ae _ dY=>I.free i hi ae dY;rw[mB t ht];exact .p _ _ (.emp _)
   ·have ia:bb j=true:=by rw[ll,VY];simp[fm]
    have sF:=I.free j iJ ia oS
    have OZ:(S ops.size).H[(S j).H.length]? =some (.row es (List.replicate n.toNat (lJ z)) false):=by
     obtain⟨d,hd⟩:=n5 (show j+1<=ops.size from iJ);rw[hd];refine OY T bn.b2 kl (by omega) _ _ ?_;rw[aD,gj.1,VY];simp
    have aiH:0<n.toNat:=by omega
    have O0:=I.rel.place sF OZ (.cells cells e) n.toNat cells.size ⟨by simp,by simpa using aiH,rfl,jb,hu,cells,e,cells.toList,[],ml _ _,rfl,by simp,qH _ _⟩;refine za _ _ _ O0 (fun m _=>.place sF _ _ _ m (sE j (by omega))) (fun t ht=> ?_) fun i hi ae cW dY=> ?_
    ·rw[mB t ht]
     refine .b7 _ _ 0 n.toNat n.toNat ⟨aE.heap.size,n.toNat,cells.size,false⟩ _ _ _ (du _ _ _) (aM _) (fun _=>⟨by simp,rfl,?_,aM _⟩);rw[oW,er];exact aM _
    ·have bu:(S i).H.length≠(S j).H.length:=by
      rcases gq i j with q|q
      ·have:=VW T bn.b2 kl q iJ ae;omega
      ·have:=VW T bn.b2 kl (show j<i by omega) hi ia;omega
     show cA az.β (S j).H.length _ (S i).H.length=_;rw[dH bu];exact I.free i hi ae dY
  ·have eo:gr bh.op=false:=by simpa using ht
   have ia:bb j=false:=by
    cases ae:bb j with
    |false=>rfl
    |true=>have:=cg.gr ae;rw[eo]at this;cases this
   refine y3 (T:=fun t=>t∈Ctx.fU ops o) (Hc:=(S ops.size).H) bF bn ho aZ cg I.rel (fun q=>absurd q ht) ?_ Jm B5 (fun q want d bx hd=> ?_) I.pU ?_
   ·have ag:=(T.nF bn.b2 (i:=0) (j:=j) (cI _) (by omega)).1.low
    have e2:=sE ops.size (aM _);rw[<-o4.2]at ag;omega
   ·simp only[Ctx.fU,kS]
    right;rw[bx];simp only[];rw[hd];simp
   ·intro x bG bD p1 p2 p3
    rw[ia]at p1;refine za x bG bD p1 (fun m hm=>(p2 m hm).le (aM _) (sE ops.size (aM _))) p3 fun i hi ae cW dY=> ?_;have sF:=I.free i hi ae dY;cases hb:bD.β (S i).H.length with
    |none=>rfl
    |some h'=>
     exfalso;rcases(p2 0 (cI _)).n7 _ _ hb with⟨h,eS,-⟩|⟨hge,-⟩
     ·rw[sF]at eS;cases eS
     ·obtain⟨d,hd⟩:=n5 (show i+1<=ops.size from hi)
      have h2:=(T.nF bn.b2 (i:=i+1) (j:=ops.size) hi (aM _)).1.len;rcases OX T bn.b2 kl hi with⟨q,-⟩|⟨-,o',q⟩
      ·rw[ae]at q;cases q
      ·rw[q]at h2;simp at h2;omega
 have key:∀(fuel:Nat) (L:Array Bool) (az:cc) (al:Act) (aE:World),EM C fid vars N ops S bb G w a st.H.length L az al aE->(List.range ops.size).countP (fun i=>!L.getD i false)<=fuel->
   wpAnyIn (eJ ro) 0 C.P .any ops Q fuel L al aE:=by
  intro fuel
  induction fuel with
  |zero=>
   intro L az al aE I hc
   have eD:∀i,i<ops.size->L.getD i false=true:=fun i hi=>by
    have h1:=List.countP_eq_zero.1 (Nat.le_zero.1 hc) i (by simpa using hi);simpa using h1
   refine⟨?_,oo _ _ _ _ I eD⟩;cases hr:Region.ready .any ops L with
   |nil=>rfl
   |cons i r=>
    obtain⟨h1,o,ho,-⟩:=mem_ready.1 (show i∈Region.ready .any ops L by rw[hr];simp);have hi:i<ops.size:=(tt.1 ho).1;have h2:=eD i hi;have:i<L.size:=by rw[I.size];exact hi
    simp only[Array.getD,this,dif_pos]at h1 h2;rw[h1]at h2;cases h2
  |succ fuel ih=>
   intro L az al aE I hc;refine⟨fun hr=>oo _ _ _ _ I (EH _ _ _ _ I hr),fun j hj=>nz fuel L az al aE j I hj fun hY G' bl w' ry e=>ih hY G' bl w' ry ?_⟩;subst e;obtain⟨h1,o,ho,-⟩:=mem_ready.1 hj;have iJ:j<ops.size:=(tt.1 ho).1;have lT:j<L.size:=by rw[I.size];exact iJ
   have aH:(List.range ops.size).countP (fun i=>!(L.setIfInBounds j true).getD i false)<(List.range ops.size).countP (fun i=>!L.getD i false):=by
    refine OR (a:=j) (fun x _ hx=> ?_) (by simpa using iJ) ?_ ?_
    ·cases af:L.getD x false with
     |false=>rfl
     |true=>
      have:=(vz (i:=x) lT).2 (.inr af);rw[this]at hx;cases hx
    ·simp only[Array.getD,lT,dif_pos]at h1⊢; rw[h1];rfl
    ·have:=(vz (i:=j) lT).2 (.inl rfl)
     rw[this];rfl
   omega
 refine wpIn_region_any cR ?_;have hw:({w with drawn:=w.drawn+1}:World).heap=w.heap:=rfl;have ju:=(aa.clear).jR hw;rw[<-h0]at ju
 have jU:∀i,(Array.replicate ops.size false).getD i false=false:=fun i=>by
  by_cases h:i<ops.size
  ·simp[h]
  ·simp[h]
 refine key ops.size (Array.replicate ops.size false) G a {w with drawn:=w.drawn+1} ⟨by simp,fun x hx=>absurd hx (by rw[jU];simp),ju.rel.longer fun l o hl=> ?_,fun i hi ae _=> ?_,fun t m hm ev=> ?_,ju.size,rfl,fun m _=>Ext.jR hw rfl rfl m _⟩ ?_
 ·have:=OY T bn.b2 kl (i:=0) (k:=ops.size) (by omega) l o hl
  rw[er]at this;exact this
 ·exact aa.rel.none (sE i (by omega))
 ·have e:dX vars (S m) t=dX vars (S 0) t:=by
   have:=T.slot (t:=t) (i:=0) (k:=m) (by omega) fun x p h1 h2 hp hd=>by
    have:=(ev x p hp hd).2 (by omega);rw[jU]at this;cases this
   rw[er]at this;exact this
  rw[e];exact ju.env t
 ·refine dc List.countP_le_length (by simp)
end
end Go.Abs
namespace Go.Abs
open Go
variable{C:Ctx}{fid:Nat->Nat}{w w':World}{G G':cc}{H H':Heap}
theorem aiI{vars:List Nat}{pos:String}{op:Op}{z:List V}(hc:C.op vars pos op=.alloc z):∃t z0,op=.alloc t/\C.zeroCells t=some z0/\z=C.mark t z0:=by
 have cK:C.cY vars pos op=some (.alloc z):=by
  unfold Ctx.op at hc;cases h:C.cY vars pos op with
  |none=>rw[h]at hc;cases hc
  |some a=>rw[h]at hc;simp only[w8]at hc;rw[hc]
 cases ho:op with
 |alloc t=>
  rw[ho]at cK;simp only[Ctx.cY]at cK;obtain⟨OW,h1,h2⟩:=cG.1 cK;cases h2;exact⟨t,OW,rfl,h1,rfl⟩
 |call c=>
  exfalso;rw[ho]at cK;obtain⟨callee,args,ec⟩:=c;cases callee with
  |value f=>
   simp only[Ctx.cY]at cK;split at cK<;>simp at cK
  |builtin b=>
   simp only[Ctx.cY]at cK;unfold Ctx.builtin at cK
   repeat' split at cK
   all_goals first
    |(cases cK;done)
    |(simp only[aA,reduceCtorEq]at cK;done)
    |(obtain⟨_,_,h⟩:=cG.1 cK;cases h;done)
  |invoke r n=>simp[Ctx.cY]at cK
 |binOp a b c d e=>
  exfalso;rw[ho]at cK;simp only[Ctx.cY,Ctx.yC]at cK
  repeat' split at cK
  all_goals first
   |(cases cK;done)
   |(obtain⟨_,_,h⟩:=cG.1 cK;cases h;done)
 |makeFunc g a b=>
  exfalso;rw[ho]at cK;cases g with
  |func f=>
   simp only[Ctx.cY]at cK;split at cK<;>simp at cK
  | _=>simp[Ctx.cY]at cK
 |makeMap t r=>
  exfalso;rw[ho]at cK;cases r<;>simp[Ctx.cY]at cK
 | _=>
   exfalso;rw[ho]at cK;simp only[Ctx.cY]at cK
   repeat' split at cK
   all_goals first
    |(cases cK;done)
    |(obtain⟨_,_,h⟩:=cG.1 cK;cases h;done)
theorem aiJ{vars:List Nat}{ρ:Operand->Value}{o:Oper}{pos:String}{z:List V}(c9:C.op vars pos o.op=.alloc z):
  ∃t cells,o.op=.alloc t/\(execOp ρ o).run C.P w=.ok (.value (.pointer (some ⟨w.heap.size,0,none⟩))) (w.alloc (.cells cells t))/\(∀G' w',bk fid G' w' z cells.toList)/\∀(w':World) b,w'.heap[b]? =some (.cells cells t (0,0))->Ec C w' b z:=by
 obtain⟨t,z0,ho,aI,rfl⟩:=aiI c9;obtain⟨cC,oc,od,aZ,i,hi,-⟩:=Ev (fid:=fid) aI;refine⟨t,cC.cells,ho,?_,fun G' w'=>Va (od G' w'),fun w' b hb=>Vb (G:=⟨fun _=>none,fun _=>False⟩) (fid:=fid) (w:=w) aZ (od _ _) hb⟩;unfold execOp;rw[ho];simp only[Instr.alloc,Sem.run_bind,oc,Result.andThen_ok,Sem.run_pure,newVar,newRow,run_newObj,World.alloc_eq]
section
variable{vars:List Nat}{N:Nat}{ops:Array Oper}{bK:List bP}{call:c1}{S:Nat->au}{bb:Nat->Bool}
structure Jp (ops:Array Oper) (bK:List bP) (call:c1) (S:Nat->au) (bb:Nat->Bool) (p q:Nat):Prop where
 aiK:p<=q
 VZ:q<=ops.size
 still:∀i,i<p->bb i=false
 writer:∀i,q<=i->i<ops.size->bb i=true->∀(j:Nat) bh,p<=j->bK[j]? =some bh->gr bh.op=true->i≠j->((CheckFast.beforeF ops).getD (max i j) 0).testBit (min i j)=true
 behind:∀(j:Nat) bh,q<=j->bK[j]? =some bh->gr bh.op=true->∀i,p<=i->i<q->((CheckFast.beforeF ops).getD j 0).testBit i=true
 alloc:∀i,p<=i->i<q->∃bh z,bK[i]? =some bh/\bh.op=.alloc z/\bh.guard=none
 jo:∀(j:Nat) bh k,j<p->q<=k->k<=ops.size->bK[j]? =some bh->gr bh.op=true->jo call (bh,S j,(S k).H)=true
structure EN (C:Ctx) (fid:Nat->Nat) (vars:List Nat) (N:Nat) (ops:Array Oper) (S:Nat->au) (bb:Nat->Bool) (p q:Nat) (G:cc) (w:World) (a:Act) (om:Nat)
  (L:Array Bool) (k:Nat) (az:cc) (al:Act) (aE:World):Prop where
 size:L.size=ops.size
 closed:∀x,L.getD x false=true->∀i,((CheckFast.beforeF ops).getD x 0).testBit i=true->L.getD i false=true
 V0:q<=k
 vy:k<=ops.size
 rK:∀i,q<=i->i<ops.size->bb i=true->(L.getD i false=true↔i<k)
 rel:bf C fid az (S k).H aE
 free:∀i,p<=i->i<q->L.getD i false=false->az.β (S i).H.length=Option.none
 env:∀t m,m<=ops.size->(∀(i:Nat) o,ops[i]? =some o->o.dst=some t->(L.getD i false=true↔i<m))->bq fid az aE (dX vars (S m) t) (al.tmps.getD t undef)
 pU:al.tmps.size=N
 defers:al.defers=a.defers
 ext:∀m,m<=(S ops.size).low->Ext G w az aE m om
theorem Jq (T:k3 C vars N ops bK call S bb){p q:Nat}(hl:Jp ops bK call S bb p q){i:Nat}(h1:p<=i)(h2:i<q):
  bb i=true/\∃z,(S (i+1)).H=(S i).H++[.cells z]/\∃bh,bK[i]? =some bh/\bh.op=.alloc z/\bh.guard=none/\S (i+1)=({S i with H:=(S i).H++[.cells z],low:=min (S i).low (S i).H.length}:au).put bh.dst (.ptr (S i).H.length 0):=by
 have V1:=hl.VZ;obtain⟨bh,z,ao,c9,bx⟩:=hl.alloc i h1 h2;obtain⟨o,aiL,ho,gi,aZ,cg⟩:=T.get (i:=i) (by omega);rw[ao]at gi;cases gi;rcases cg with⟨hw,v,H1,bS,ag,aD,ll⟩|⟨hw,-,-⟩
 case inr=>rw[bx]at hw;simp[gE]at hw
 rw[c9]at ag;have B6:step (aj.ai (S i).aG (S i).aw) (S i).H (S i).H.length (.alloc z)=some (v,H1,bS):=ag;simp only[step,aA,bC]at B6;obtain⟨rfl,rfl,rfl⟩:=B6;refine⟨by rw[ll];simp[fm],z,?_,bh,ao,c9,bx,aD⟩;rw[aD];exact(kE _ _ _).1
theorem O1 (T:k3 C vars N ops bK call S bb){p q:Nat}(hl:Jp ops bK call S bb p q){i:Nat}(h1:p<=i):∀{k:Nat},i+k<=q->∀(l:Nat) (o:cD),(S i).H[l]? =some o->(S (i+k)).H[l]? =some o
 |0,_,l,o,h=>h
 |k+1,ah,l,o,h=>by
  have ih:=O1 T hl h1 (k:=k) (by omega) l o h;obtain⟨-,z,e,-⟩:=Jq T hl (i:=i+k) (by omega) (by omega);show(S (i+k+1)).H[l]? =some o;rw[e,gM ((fF.1 ih).1)];exact ih
theorem aiM{id:Nat}{st aX:au}{a:Act}{Q:Exit->Act->World->Prop}{ro:Option Nat}(cR:C.P.follows .mixedOrders=true)(bF:fp C fid)(bn:hB C fid call)
  (hm:ee (C.oper vars N ops) ops.toList=some bK) (kh:Ctx.yD ops=true) (mr:Ctx.yE ops=true) (rJ:(ops.toList.zip bK).all (fun(o,a)=>Ctx.xl ops o a)=true)
  {S:Nat->au} {bb:Nat->Bool} (h0:S 0={st with aG:=[]}) (hn:S ops.size=aX) (T:k3 C vars N ops bK call S bb) {p q:Nat} (hl:Jp ops bK call S bb p q) (aa:dO C fid vars N G st a w)
  (dP:∀G' bl w',dO C fid vars N G' aX bl w'->(∀m,m<=aX.low->Ext G w G' w' m st.H.length)->bl.defers=a.defers->Q .normal bl w'):
  (Code.region id ops true).wpIn (eJ ro) 0 C.P Q a w:=by
 have o4:st.H=(S 0).H/\st.low=(S 0).low:=by rw[h0];exact⟨rfl,rfl⟩
 have EG:st.low<=st.H.length:=aa.low;have y7:=hl.aiK;have V1:=hl.VZ
 have sE:∀k,k<=ops.size->st.H.length<=(S k).H.length:=fun k ah=>by
  have:=(T.nF bn.b2 (i:=0) (j:=k) (cI _) ah).1.len;rw[<-o4.1]at this;exact this
 have aiN:∀j,j<=p->(S j).H=(S 0).H:=fun j hj=>by
  have:=T.heap bn.b2 (i:=0) (k:=j) (by omega) fun x _ h2=>hl.still x (by omega);rw[er]at this;exact this
 have aiO:∀i,p<=i->i<q->∀k,q<=k->k<=ops.size->(S i).H.length<(S k).H.length:=fun i h1 h2 k av bc=>by
  obtain⟨-,z,e,-⟩:=Jq T hl h1 h2;have:=(T.nF bn.b2 (i:=i+1) (j:=k) (by omega) bc).1.len;rw[e]at this;simp at this;omega
 have oo:∀L k az al aE,EN C fid vars N ops S bb p q G w a st.H.length L k az al aE->(∀i,i<ops.size->L.getD i false=true)->Q .normal al aE:=by
  intro L k az al aE I eD
  have ah:(S ops.size).H=(S k).H:=by
   have B7:=I.V0;obtain⟨d,hd⟩:=n5 I.vy;rw[hd];refine T.heap bn.b2 (by omega) fun x h1 h2=> ?_;cases ae:bb x with
   |false=>rfl
   |true=>have:=(I.rK x (by omega) (by omega) ae).1 (eD x (by omega));omega
  refine dP az al aE ?_ (fun m hm=>I.ext m (by rw[hn];exact hm)) I.defers;rw[<-hn];refine⟨by rw[ah];exact I.rel,fun t=>I.env t ops.size (aM _) fun i o ho _=> ?_,I.pU,?_⟩
  ·have:i<ops.size:=(tt.1 ho).1
   simp[this,eD i this]
  ·exact(T.nF bn.b2 (cI _) (aM _)).bound (by rw[<-o4.1,<-o4.2];exact EG)
 have EH:∀L k az al aE,EN C fid vars N ops S bb p q G w a st.H.length L k az al aE->Region.ready .any ops L=[]->∀i,i<ops.size->L.getD i false=true:=by
  intro L k az al aE I hr i
  induction i using Nat.strongRecOn with
  | _ i ih=>
    intro hi;cases dY:L.getD i false with
    |true=>rfl
    |false=>
     exfalso
     have:i∈Region.ready .any ops L:=mem_ready.2 ⟨by
      have:i<L.size:=by rw[I.size];exact hi
      simp only[Array.getD,this,dif_pos]at dY⊢; exact dY,ops[i],by simp[hi],fun e he hb=>by
       have aH:=OQ kh (j:=i) (o:=ops[i]) (by simp[hi]) he hb;exact ih e.on aH (by omega)⟩
     rw[hr]at this;cases this
 have nz:∀(fuel:Nat) (L:Array Bool) (k:Nat) (az:cc) (al:Act) (aE:World) (j:Nat),EN C fid vars N ops S bb p q G w a st.H.length L k az al aE->j∈Region.ready .any ops L->
   (∀hY bE G' bl w',EN C fid vars N ops S bb p q G w a st.H.length hY bE G' bl w'->hY=L.setIfInBounds j true->wpAnyIn (eJ ro) 0 C.P .any ops Q fuel hY bl w')->
   wpOpIn (eJ ro) 0 C.P ops Q j (wpAnyIn (eJ ro) 0 C.P .any ops Q fuel (L.setIfInBounds j true)) al aE:=by
  intro fuel L k az al aE j I hj rL;obtain⟨xy,o,ho,EI⟩:=mem_ready.1 hj;have iJ:j<ops.size:=(tt.1 ho).1;have lT:j<L.size:=by rw[I.size];exact iJ
  have oS:L.getD j false=false:=by simp only[Array.getD,lT,dif_pos]at xy⊢; exact xy
  have B7:=I.V0;have sG:=I.vy;obtain⟨o',bh,kZ,gi,aZ,cg⟩:=T.get iJ;rw[ho]at kZ;cases kZ
  have xz:∀i,((CheckFast.beforeF ops).getD j 0).testBit i=true->L.getD i false=true:=fun i hb=>by
   obtain⟨e,mo,nC,pW⟩:=OO ho hb;have hl:=EI e mo nC;rcases pW with rfl|pW
   ·exact hl
   ·exact I.closed e.on hl i pW
  have nd:∀i,i≠j->((CheckFast.beforeF ops).getD (max i j) 0).testBit (min i j)=true->(L.getD i false=true↔i<j):=by
   intro i cW hb;rcases gq i j with aH|hge
   ·rw[H6 (by omega),n6 (by omega)]at hb
    exact⟨fun _=>aH,fun _=>xz i hb⟩
   ·rw[H8 hge,tw hge]at hb
    refine⟨fun dY=> ?_,fun h=>by omega⟩;have:=I.closed i dY j hb;rw[oS]at this;cases this
  have xA:∀t,(o.dst=some t\/t∈Ctx.fU ops o)->∀(i:Nat) p,ops[i]? =some p->p.dst=some t->i≠j->(L.getD i false=true↔i<j):=fun t ht i p hp hd cW=>
   nd i cW (OP mr ho hp hd cW ht)
  have eP:=cg.b2 bn.b2
  have B5:∀x∈bh.op.operands,Jj (fun t=>t∈Ctx.fU ops o) x:=by
   intro x hx;have h1:(o,bh)∈ops.toList.zip bK:=oN.2 ⟨j,by rw[Bc];exact⟨by rw[iX];exact ho,gi⟩⟩;have h2:=eV.1 rJ _ h1;simp only[Ctx.xl,eV]at h2;have av:=h2 x hx;cases x with
   |tmp t=>exact uW.1 av
   |var t=>exact uW.1 av
   |const v=>trivial
   |func i=>trivial
  have Jm:∀t,t∈Ctx.fU ops o->bq fid az aE (dX vars (S j) t) (al.tmps.getD t undef):=fun t ht=>by
   refine I.env t j (by omega) fun i p hp hd=> ?_;by_cases cW:i=j
   ·subst cW;simp[oS]
   ·exact xA t (.inr ht) i p hp hd cW
  have k4:∀i,(L.setIfInBounds j true).getD i false=true↔i=j\/L.getD i false=true:=fun i=>vz lT
  have aiP:p<=j->j<q->gr bh.op=true->(S k).H=(S q).H:=fun V2 V3 ht=>by
   obtain⟨d,rfl⟩:=n5 B7;refine T.heap bn.b2 (by omega) fun x h1 h2=> ?_;cases ae:bb x with
   |false=>rfl
   |true=>
    have hx:=(I.rK x h1 (by omega) ae).2 h2;have hb:=hl.writer x h1 (by omega) ae j bh V2 gi ht (by omega);rw[H8 (by omega),tw (by omega)]at hb;have:=I.closed x hx j hb;rw[oS]at this;cases this
  have za:∀(bE:Nat) (x:Value) (bG:World) (bD:cc),q<=bE->bE<=ops.size->(∀i,q<=i->i<ops.size->bb i=true->(i=j\/L.getD i false=true↔i<bE))->bf C fid bD (S bE).H bG->(∀m,m<=(S (j+1)).low->Ext az aE bD bG m st.H.length)->(∀t,o.dst=some t->bq fid bD bG (dX vars (S (j+1)) t) x)->
    (∀i,p<=i->i<q->i≠j->L.getD i false=false->bD.β (S i).H.length=Option.none)->wpAnyIn (eJ ro) 0 C.P .any ops Q fuel (L.setIfInBounds j true) (al.put o.dst x) bG:=by
   intro bE x bG bD q1 aT b3 p1 p2 p3 mC;have oj:=p2 0 (cI _);refine rL _ bE bD _ bG ⟨by simp[I.size],fun x hx i hb=> ?_,q1,aT,fun i h1 h2 ae=>by rw[k4];exact b3 i h1 h2 ae,p1,fun i hi ae qI=> ?_,fun t m hm ev=> ?_,by rw[xx];exact I.pU,by rw[put_defers];exact I.defers,fun m hm=> ?_⟩ rfl
   ·rw[k4]at hx⊢
    rcases hx with rfl|hx
    ·exact .inr (xz i hb)
    ·exact .inr (I.closed x hx i hb)
   ·have bu:i≠j:=fun e=>by
     have:=(k4 i).2 (.inl e);rw[this]at qI;cases qI
    refine mC i hi ae bu ?_;cases af:L.getD i false with
    |false=>rfl
    |true=>
     have:=(k4 i).2 (.inr af);rw[this]at qI;cases qI
   ·refine y5 (fun d hd=>by rw[I.pU];exact aZ.lt d hd) (fun h=> ?_) (fun h=> ?_)
    ·have EL:j<m:=(ev j o ho h).1 ((k4 j).2 (.inl rfl))
     have e:dX vars (S m) t=dX vars (S (j+1)) t:=by
      obtain⟨d,rfl⟩:=n5 (show j+1<=m from EL);refine T.slot (by omega) fun x p h1 h2 hp hd=> ?_;have sD:x≠j:=by omega
      have al:=(k4 x).1 ((ev x p hp hd).2 h2);have a2:=(xA t (.inl h) x p hp hd sD).1 (al.resolve_left sD);omega
     rw[e];exact p3 t h
    ·refine(I.env t m hm fun i p hp hd=> ?_).ext I.rel oj
     have cW:i≠j:=fun e=>by subst e;rw[ho]at hp;cases hp;exact h hd
     rw[<-ev i p hp hd,k4];simp[cW]
   ·have ag:=(T.nF bn.b2 (i:=j+1) (j:=ops.size) iJ (aM _)).1.low
    exact(I.ext m hm).trans (p2 m (by omega))
  by_cases hA:p<=j/\j<q
  ·
   obtain⟨h1,h2⟩:=hA;obtain⟨ia,z,aiQ,aiL,V4,c9,Jn,aD⟩:=Jq T hl h1 h2;rw[gi]at V4;cases V4
   have y2:o.guard=none:=by
    have:=aZ.guard;rw[Jn]at this;cases bx:o.guard with
    |none=>rfl
    |some p=>
     obtain⟨q,b⟩:=p;rw[bx]at this;simp only[Ctx.guard]at this;split at this<;>simp at this
   have Jo:C.op vars o.pos o.op=.alloc z:=by rw[<-aZ.op];exact c9
   obtain⟨ty,cells,eT,cn,qH,aiR⟩:=aiJ (fid:=fid) (w:=aE) (ρ:=al.eval) Jo;refine VX ho y2 (by rw[eT];simp) cn ?_
   have mB:∀t,o.dst=some t->dX vars (S (j+1)) t=.ptr (S j).H.length 0:=fun t ht=>by
    rw[aD];rcases aZ.dst with⟨h2,-⟩|⟨d,-,h2,av⟩
    ·rw[h2]at ht;cases ht
    ·rw[h2]at ht;cases ht
     rw[av,EE,if_pos rfl]
   have ah:(S k).H=(S q).H:=aiP h1 h2 (by rw[c9];rfl);have sF:=I.free j h1 h2 oS
   have hcell:(S k).H[(S j).H.length]? =some (.cells z):=by
    rw[ah];obtain⟨d,hd⟩:=n5 (show j+1<=q from h2);rw[hd];refine O1 T hl (by omega) (by omega) _ _ ?_;rw[aiQ];simp
   have O0:=I.rel.place sF hcell (.cells cells ty) 0 0 ⟨⟨rfl,aiR _ _ (ml _ _)⟩,rfl,cells,ty,ml _ _,qH _ _⟩;refine za k _ _ _ B7 sG (fun i q1 aT ae=> ?_) O0 (fun m _=>.place sF _ _ _ m (sE j (by omega))) (fun t ht=> ?_) fun i V5 qI cW dY=> ?_
   ·rw[<-I.rK i q1 aT ae]
    exact⟨fun h=>h.resolve_left (by omega),.inr⟩
   ·rw[mB t ht]
    exact .ptr _ _ ⟨aE.heap.size,0,0,false⟩ (du _ _ _) rfl
   ·have bu:(S i).H.length≠(S j).H.length:=by
     have key:∀i j,p<=i->i<q->i<j->j<q->(S i).H.length<(S j).H.length:=fun i j al a2 a3 a4=>by
      obtain⟨-,z,e,-⟩:=Jq T hl al a2;have:=(T.nF bn.b2 (i:=i+1) (j:=j) (by omega) (by omega)).1.len;rw[e]at this;simp at this;omega
     rcases Nat.lt_or_gt_of_ne cW with c|c
     ·have:=key i j V5 qI c h2;omega
     ·have:=key j i h1 h2 c qI;omega
    show cA az.β (S j).H.length _ (S i).H.length=_;rw[dH bu];exact I.free i V5 qI dY
  ·
   have OU:gr bh.op=true->(S k).H=(S j).H\/(bb j=false/\(gE (S j).aG (S j).aw bh.guard=some true->∀v H1 bS,cf call (aj.ai (S j).aG (S j).aw) (S j).H (S j).H.length bh.op=some (v,H1,bS)->∃H2 dM,cf call (aj.ai (S j).aG (S j).aw) (S k).H (S k).H.length bh.op=some (v,H2,dM)/\fm (S k).H H2 dM=false)):=by
    intro ht;rcases gq j p with EO|EO
    ·refine .inr ⟨hl.still j EO,fun hw v H1 bS h1=> ?_⟩
     have nG:=hl.jo j bh k EO B7 sG gi ht;unfold Abs.jo at nG;simp only[hw,h1]at nG;split at nG
     ·rename_i v' H2 dM h2
      simp only[ca,mb]at nG;have:=vw _ _ nG.1;subst this;exact⟨H2,dM,h2,nG.2⟩
     ·cases nG
    ·have V3:q<=j:=by
      rcases gq j q with c|c
      ·exact absurd ⟨EO,c⟩ hA
      ·exact c
     left;have EJ:∀x,q<=x->x<ops.size->bb x=true->x≠j->(L.getD x false=true↔x<j):=fun x h1 h2 ae hx=>nd x hx (hl.writer x h1 h2 ae j bh EO gi ht hx);rcases Nat.le_total k j with vA|EK
     ·obtain⟨d,rfl⟩:=n5 vA
      refine(T.heap bn.b2 (by omega) fun x h1 h2=> ?_).symm;cases ae:bb x with
      |false=>rfl
      |true=>
       have al:=(EJ x (by omega) (by omega) ae (by omega)).2 (by omega);have a2:=(I.rK x (by omega) (by omega) ae).1 al;omega
     ·obtain⟨d,rfl⟩:=n5 EK
      refine T.heap bn.b2 (by omega) fun x h1 h2=> ?_;cases ae:bb x with
      |false=>rfl
      |true=>
       have a2:=(I.rK x (by omega) (by omega) ae).2 (by omega);by_cases hx:x=j
       ·subst hx;rw[oS]at a2;cases a2
       ·have:=(EJ x (by omega) (by omega) ae hx).1 a2;omega
   have OV:(S j).low<=(S k).H.length:=by
    have ag:=(T.nF bn.b2 (i:=0) (j:=j) (cI _) (by omega)).1.low;have e2:=sE k sG;rw[<-o4.2]at ag;omega
   refine y3 (T:=fun t=>t∈Ctx.fU ops o) bF bn ho aZ cg I.rel OU OV Jm B5 (fun q want d bx hd=> ?_) I.pU ?_
   ·simp only[Ctx.fU,kS]
    right;rw[bx];simp only[];rw[hd];simp
   ·intro x bG bD p1 p2 p3
    have V6:∀i,p<=i->i<q->i≠j->L.getD i false=false->bD.β (S i).H.length=Option.none:=fun i h1 h2 cW dY=>by
     have sF:=I.free i h1 h2 dY;cases hb:bD.β (S i).H.length with
     |none=>rfl
     |some h'=>
      exfalso;rcases(p2 0 (cI _)).n7 _ _ hb with⟨h,eS,-⟩|⟨hge,-⟩
      ·rw[sF]at eS;cases eS
      ·have:=aiO i h1 h2 k B7 sG;omega
    have V7:∀m,m<=(S (j+1)).low->Ext az aE bD bG m st.H.length:=fun m hm=>(p2 m hm).le (aM _) (sE k sG);cases ia:bb j with
    |false=>
     rw[ia]at p1;refine za k x bG bD B7 sG (fun i q1 aT ae=> ?_) p1 V7 p3 V6;rw[<-I.rK i q1 aT ae];exact⟨fun h=>h.resolve_left (fun e=>by rw[e,ia]at ae;cases ae),.inr⟩
    |true=>
     rw[ia]at p1
     have V3:q<=j:=by
      rcases gq j q with c|c
      ·rcases gq j p with c'|c'
       ·rw[hl.still j c']at ia;cases ia
       ·exact absurd ⟨c',c⟩ hA
      ·exact c
     refine za (j+1) x bG bD (by omega) iJ (fun i q1 aT ae=> ?_) p1 V7 p3 V6;by_cases cW:i=j
     ·subst cW;simp
     ·have:=nd i cW (hl.writer i q1 aT ae j bh (by omega) gi (cg.gr ia) cW)
      simp only[cW,false_or];rw[this];omega
 have key:∀(fuel:Nat) (L:Array Bool) (k:Nat) (az:cc) (al:Act) (aE:World),EN C fid vars N ops S bb p q G w a st.H.length L k az al aE->(List.range ops.size).countP (fun i=>!L.getD i false)<=fuel->
   wpAnyIn (eJ ro) 0 C.P .any ops Q fuel L al aE:=by
  intro fuel
  induction fuel with
  |zero=>
   intro L k az al aE I hc
   have eD:∀i,i<ops.size->L.getD i false=true:=fun i hi=>by
    have h1:=List.countP_eq_zero.1 (Nat.le_zero.1 hc) i (by simpa using hi);simpa using h1
   refine⟨?_,oo _ _ _ _ _ I eD⟩;cases hr:Region.ready .any ops L with
   |nil=>rfl
   |cons i r=>
    obtain⟨h1,o,ho,-⟩:=mem_ready.1 (show i∈Region.ready .any ops L by rw[hr];simp);have hi:i<ops.size:=(tt.1 ho).1;have h2:=eD i hi;have:i<L.size:=by rw[I.size];exact hi
    simp only[Array.getD,this,dif_pos]at h1 h2;rw[h1]at h2;cases h2
  |succ fuel ih=>
   intro L k az al aE I hc;refine⟨fun hr=>oo _ _ _ _ _ I (EH _ _ _ _ _ I hr),fun j hj=>nz fuel L k az al aE j I hj fun hY bE G' bl w' ry e=>ih hY bE G' bl w' ry ?_⟩;subst e;obtain⟨h1,o,ho,-⟩:=mem_ready.1 hj;have iJ:j<ops.size:=(tt.1 ho).1;have lT:j<L.size:=by rw[I.size];exact iJ
   have aH:(List.range ops.size).countP (fun i=>!(L.setIfInBounds j true).getD i false)<(List.range ops.size).countP (fun i=>!L.getD i false):=by
    refine OR (a:=j) (fun x _ hx=> ?_) (by simpa using iJ) ?_ ?_
    ·cases af:L.getD x false with
     |false=>rfl
     |true=>
      have:=(vz (i:=x) lT).2 (.inr af);rw[this]at hx;cases hx
    ·simp only[Array.getD,lT,dif_pos]at h1⊢; rw[h1];rfl
    ·have:=(vz (i:=j) lT).2 (.inl rfl)
     rw[this];rfl
   omega
 refine wpIn_region_any cR ?_;have hw:({w with drawn:=w.drawn+1}:World).heap=w.heap:=rfl;have ju:=(aa.clear).jR hw;rw[<-h0]at ju
 have jU:∀i,(Array.replicate ops.size false).getD i false=false:=fun i=>by
  by_cases h:i<ops.size
  ·simp[h]
  ·simp[h]
 refine key ops.size (Array.replicate ops.size false) q G a {w with drawn:=w.drawn+1} ⟨by simp,fun x hx=>absurd hx (by rw[jU];simp),aM _,V1,fun i h1 _ ae=>by rw[jU];simp;omega,ju.rel.longer fun l o nb=> ?_,fun i h1 h2 _=> ?_,fun t m hm ev=> ?_,ju.size,rfl,fun m _=>Ext.jR hw rfl rfl m _⟩ ?_
 ·rw[<-aiN p (aM _)]at nb
  obtain⟨d,hd⟩:=n5 y7;rw[hd];exact O1 T hl (aM _) (by omega) l o nb
 ·exact aa.rel.none (sE i (by omega))
 ·have e:dX vars (S m) t=dX vars (S 0) t:=by
   have:=T.slot (t:=t) (i:=0) (k:=m) (by omega) fun x p h1 h2 hp hd=>by
    have:=(ev x p hp hd).2 (by omega);rw[jU]at this;cases this
   rw[er]at this;exact this
  rw[e];exact ju.env t
 ·refine dc List.countP_le_length (by simp)
theorem V8{α:Type}{f:α->Bool}:∀{l:List α} {i:Nat},i<(l.takeWhile f).length->∃a,l[i]? =some a/\f a=true
 |[],i,h=>by simp at h
 |a::l,i,h=>by
  rw[List.takeWhile_cons]at h;split at h
  ·rename_i ae
   cases i with
   |zero=>exact⟨a,rfl,ae⟩
   |succ i=>
    simp only[dE]at h;obtain⟨b,h1,h2⟩:=V8 (f:=f) (l:=l) (i:=i) (by omega);exact⟨b,by simpa using h1,h2⟩
  ·simp at h
theorem V9 (l:List bP):kV l<=pH l:=M7 _ _
theorem O2{α:Type}(f:α->Bool)(l:List α):(l.takeWhile f).length<=l.length:=(List.takeWhile_sublist f).length_le
theorem aiS (l:List bP):pH l<=l.length:=by
 unfold pH;have h1:=O2 DR (l.drop (kV l));have h2:kV l<=l.length:=O2 _ l;simp only[pD]at h1;omega
theorem aiT{l:List bP}{i:Nat}(h1:kV l<=i)(h2:i<pH l):∃bh z,l[i]? =some bh/\bh.op=.alloc z/\bh.guard=none:=by
 unfold pH at h2;obtain⟨bh,av,bc⟩:=V8 (l:=l.drop (kV l)) (f:=DR) (i:=i-kV l) (by omega);rw[TR]at av;refine⟨bh,?_⟩;unfold DR at bc;split at bc
 ·rename_i z ag e2
  exact⟨z,by rw[<-av];congr 1;omega,ag,e2⟩
 ·cases bc
theorem aiU{st:au}{wr:List Bool}{cq:List au}(hm:ee (C.oper vars N ops) ops.toList=some bK)(o3:fA call bK {st with aG:=[]}=some cq)
  (h0:S 0={st with aG:=[]}) (lS:wr=(List.range ops.size).map bb) (hs:∀(i:Nat) bh,bK[i]? =some bh->mA call bh (S i) (S (i+1)) (bb i))
  (hc:xj (CheckFast.beforeF ops).toList bK wr=true) (hd:(Bn bK cq).all (jo call)=true):Jp ops bK call S bb (kV bK) (pH bK):=by
 have hlen:bK.length=ops.size:=by rw[vn _ hm,hJ]
 have kg:∀i,(CheckFast.beforeF ops).toList.getD i 0=(CheckFast.beforeF ops).getD i 0:=fun i=>by
  rw[yn,iX,w4]
 have y8:∀i j,pG (CheckFast.beforeF ops).toList i j=true->((CheckFast.beforeF ops).getD (max i j) 0).testBit (min i j)=true:=fun i j this=>by
  rw[Jl,kg,kg]at this;split at this
  ·rw[H8 (by omega),tw (by omega)];exact this
  ·rw[H6 (by omega),n6 (by omega)];exact this
 have Wa:∀i,i<ops.size->wr[i]? =some (bb i):=fun i hi=>by rw[lS];simp[hi]
 have bj:=aiS bK;have y7:=V9 bK;unfold xj at hc;simp only[ca,eV]at hc;obtain⟨⟨dk,eu⟩,fe⟩:=hc;rw[<-h0]at o3;have rz:=Ji bK S bb cq hs o3;refine⟨y7,by omega,fun i hi=> ?_,fun i h1 h2 ae j bh V2 hj ht cW=> ?_,fun j bh h1 hj ht i h2 av=> ?_,fun i h1 h2=>aiT h1 h2,fun j bh k hj ah OS ao ht=> ?_⟩
 ·have:=dk (bb i) (oN.2 ⟨i,by rw[HX,if_pos hi];exact Wa i (by omega)⟩)
  simpa using this
 ·have:=eu (true,i) (jm.2 (by rw[<-ae];exact Wa i h2))
  have hb:Nat.blt i (pH bK)=false:=by
   cases hx:Nat.blt i (pH bK)with
   |false=>rfl
   |true=>have:=ma hx;omega
  simp only[fQ,hb,Bj,qp,eV]at this;have av:=this (bh,j) (jm.2 hj)
  have qF:Nat.blt j (kV bK)=false:=by
   cases hx:Nat.blt j (kV bK)with
   |false=>rfl
   |true=>have:=ma hx;omega
  simp only[ht,qF,fQ,qp,kz,beq_iff_eq,cW,false_or]at av;exact y8 i j av
 ·have:=fe (bh,j) (jm.2 hj)
  have hb:Nat.blt j (pH bK)=false:=by
   cases hx:Nat.blt j (pH bK)with
   |false=>rfl
   |true=>have:=ma hx;omega
  simp only[ht,hb,fQ,Bj,qp,eV]at this;have bc:=y8 i j (this i (by rw[List.mem_range'_1];omega));rw[H6 (by omega),n6 (by omega)]at bc;exact bc
 ·have dG:(bh,S j,(S k).H)∈Bn bK cq:=by
   unfold Bn;simp only[H5,TV];refine⟨S k,oN.2 ⟨k-pH bK,?_⟩,(bh,S j),oN.2 ⟨j,?_⟩,by simp[ht]⟩
   ·rw[TR,<-rz k (by omega)];congr 1;omega
   ·rw[HX,if_pos hj,Bc]
    exact⟨ao,rz j (by omega)⟩
  exact eV.1 hd _ dG
theorem aiV{id:Nat}{st aX:au}{wr:List Bool}{a:Act}{Q:Exit->Act->World->Prop}{ro:Option Nat}(cR:C.P.follows .mixedOrders=true)(bF:fp C fid)(bn:hB C fid call)
  (hm:ee (C.oper vars N ops) ops.toList=some bK) (kh:Ctx.yD ops=true) (mr:Ctx.yE ops=true) (rJ:(ops.toList.zip bK).all (fun(o,a)=>Ctx.xl ops o a)=true)
  (he:c5 call bK {st with aG:=[]} []=some (aX,wr)) (hin:(rp (CheckFast.beforeF ops).toList bK wr||oO call (CheckFast.beforeF ops).toList bK wr {st with aG:=[]})=true) (aa:dO C fid vars N G st a w)
  (dP:∀G' bl w',dO C fid vars N G' aX bl w'->(∀m,m<=aX.low->Ext G w G' w' m st.H.length)->bl.defers=a.defers->Q .normal bl w'):
  (Code.region id ops true).wpIn (eJ ro) 0 C.P Q a w:=by
 cases kl:xi bK with
 |true=>exact aiF cR bF bn hm kh mr rJ he kl aa dP
 |false=>
  unfold rp at hin;rw[kl,Ib]at hin;unfold oO at hin;rw[<-Bool.or_assoc,kz]at hin;rcases hin with hin|hin
  ·exact aiE cR bF bn hm kh mr rJ he hin aa dP
  ·split at hin
   ·rename_i cq o3
    rw[ca]at hin;obtain⟨S,bb,h0,hn,lS,hs⟩:=tQ _ _ _ _ _ he;have T:k3 C vars N ops bK call S bb:=.of hm hs;rw[T.len]at hn lS;simp only[List.reverse_nil,ke]at lS;exact aiM cR bF bn hm kh mr rJ h0 hn T (aiU hm o3 h0 lS hs hin.1 hin.2) aa dP
   ·cases hin
end
end Go.Abs
