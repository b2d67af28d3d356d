/- Texts of this claim, joined and written short by a program. -/
import Derived.Test.YtoimeckpnnkbpaaGreatDoorP03
import Derived.Laws.Append
import Derived.Test.YtoimeckpnnkbpaaGreatDoorP00
set_option linter.unusedVariables false
set_option linter.unusedSimpArgs false
set_option linter.unusedSectionVars false
namespace Go.Abs
open Go
variable{C:Ctx}{fid:Nat->Nat}{w w':World}{G G':bX}{H:Heap}
variable{vars:List Nat}{ae:ag->V}{ρ:Operand->Value}{low low':Nat}{v:V}{H':Heap}{pos:String}{c8:cH}{o:Oper}
theorem R1 (off:Nat):∀(dd:List Value) (k:Nat) (cells:Array Value),off+k+dd.length<=cells.size->
  ((dd.zipIdx k).foldl (fun(cs:Array Value) (p:Value × Nat)=>cs.setIfInBounds (off+p.2) p.1) cells).toList=cells.toList.take (off+k)++dd++cells.toList.drop (off+k+dd.length)
 |[],k,cells,_=>by simp
 |z::dd,k,cells,h=>by
  simp only[ev]at h;rw[List.zipIdx_cons,qu,R1 off dd (k+1) _ (by simp;omega)];have e:=list_seg_step cells.toList (off+k) z dd (by simp;omega);rw[ev];simpa[Array.toList_setIfInBounds,pr]using e
theorem R2{place:Nat->Option (Nat × Nat)}{cells:Array Value}{i:Nat}{x:Value}{rest:List (Nat × Value)}{off n:Nat}(hp:place i=some (off,n))(hs:x.cells.size=n)(lW:off+n<=cells.size):
  ∃qI,Instr.fill place cells ((i,x)::rest)=Instr.fill place qI rest/\qI.toList=cells.toList.take off++x.cells.toList++cells.toList.drop (off+x.cells.toList.length):=by
 refine⟨x.cells.zipIdx.foldl (fun cs (c,j)=>cs.setIfInBounds (off+j) c) cells,?_,?_⟩
 ·have:¬(x.cells.size≠n||decide (off+x.cells.size>cells.size))=true:=by simp;omega
  simp only[Instr.fill,hp];rw[if_neg (by simpa using this)]
 ·rw[<-QM,Array.toList_zipIdx]
  have:=R1 off x.cells.toList 0 cells (by simp;omega);simpa using this
theorem R3{place:Nat->Option (Nat × Nat)}:∀{ps:List (Nat × Value)} {aO:List (Nat × Nat × V)} {cs cs':List V} {cells:Array Value},ps.length=aO.length->
  (∀(j:Nat) p a,ps[j]? =some p->aO[j]? =some a->place p.1=some (a.1,a.2.1)/\a8 fid G w a.2.2 p.2)->aY fid G w cs cells.toList->uj cs aO=some cs'->
  ∃qI,Instr.fill place cells ps=some qI/\aY fid G w cs' qI.toList
 |[],[],cs,cs',cells,_,_,ad,h=>by
  simp only[uj,az]at h;subst h;exact⟨cells,rfl,ad⟩
 |[],_::_,_,_,_,hl,_,_,_=>by simp at hl
 | _::_,[],_,_,_,hl,_,_,_=>by simp at hl
 |(i,x)::ps,(off,n,u)::aO,cs,cs',cells,hl,hp,ad,h=>by
  simp only[uj]at h;split at h
  ·rename_i hc
   obtain⟨Au,Gk⟩:=hp 0 _ _ rfl rfl;obtain⟨bA,b9⟩:=Al Gk hc.2.2;have hG:=ad.length;have jH:=bA.length;have eQ:x.cells.size=n:=by rw[<-hB];simp only at jH;rw[jH,hc.1]
   obtain⟨Lj,af,e2⟩:=R2 (rest:=ps) Au eQ (by rw[<-hB,hG];exact hc.2.1);have qJ:aY fid G w (setCells cs off (aE u)) Lj.toList:=by rw[e2];exact Cz off ad bA (by rw[hc.1];exact hc.2.1)
   obtain⟨qI,bT,cF⟩:=R3 (by simpa using hl) (fun j p a h1 h2=>hp (j+1) p a (by simpa using h1) (by simpa using h2)) qJ h;exact⟨qI,by rw[af,bT],cF⟩
  ·cases h
theorem acZ:∀(xs cs:List V),xs.length=cs.length->setCells cs 0 xs=xs:=by
 have key:∀(xs a b:List V),xs.length=b.length->setCells (a++b) a.length xs=a++xs:=by
  intro xs
  induction xs with
  |nil=>intro a b h;cases b<;>simp_all [setCells]
  |cons x xs ih=>
   intro a b h;cases b with
   |nil=>simp at h
   |cons y b=>
    have:=ih (a++[x]) b (by simpa using h);simp only[setCells];simpa using this
 intro xs cs h;simpa using key xs [] cs h
theorem R4{es:Nat}:∀{ps:List (Nat × Value)} {aO:List (Nat × V)} {ds ds':List V} {cells:Array Value},ps.length=aO.length->
  (∀(j:Nat) p a,ps[j]? =some p->aO[j]? =some a->p.1=a.1/\a8 fid G w a.2 p.2)->(∀d∈ds,(aE d).length=es)->aY fid G w (ds.flatMap aE) cells.toList->oK es ds aO=some ds'->
  ∃qI,Instr.fill (fun i=>some (i*es,es)) cells ps=some qI/\aY fid G w (ds'.flatMap aE) qI.toList/\(∀d∈ds',(aE d).length=es)/\ds'.length=ds.length
 |[],[],ds,ds',cells,_,_,hu,ad,h=>by
  simp only[oK,az]at h;subst h;exact⟨cells,rfl,ad,hu,rfl⟩
 |[],_::_,_,_,_,hl,_,_,_,_=>by simp at hl
 | _::_,[],_,_,_,hl,_,_,_,_=>by simp at hl
 |(i,x)::ps,(z1,u)::aO,ds,ds',cells,hl,hp,hu,ad,h=>by
  simp only[oK]at h;split at h
  ·rename_i hc
   obtain⟨Au,Gk⟩:=hp 0 _ _ rfl rfl;simp only at Au Gk;subst Au;obtain⟨bA,b9⟩:=Al Gk hc.2.2;have hG:=ad.length;have kA:=nv hu;have jH:=bA.length;have eQ:x.cells.size=es:=by rw[<-hB,jH,hc.1]
   have hi:i*es+es<=ds.length*es:=by
    have:(i+1)*es<=ds.length*es:=Ki _ hc.2.1;rw[Cg]at this;exact this
   obtain⟨Lj,af,e2⟩:=R2 (place:=fun i=>some (i*es,es)) (cells:=cells) (rest:=ps) (i:=i) rfl eQ (by rw[<-hB,hG];omega);obtain⟨d,hd⟩:∃d,ds[i]? =some d:=⟨_,hX hc.2.1⟩;have sX:=KZ hu hd (d':=u) (f:=0) (xs:=aE u) (by rw[hc.1];omega) (acZ _ _ (by rw[hc.1,hu d (hz hd)])).symm;rw[zW]at sX;have qJ:aY fid G w ((ds.set i u).flatMap aE) Lj.toList:=by rw[e2,sX];exact Cz _ ad bA (by rw[hc.1];omega)
   obtain⟨qI,bT,cF,ej,j2⟩:=R4 (by simpa using hl) (fun j p a h1 h2=>hp (j+1) p a (by simpa using h1) (by simpa using h2))
    (fun a ao=>by rcases List.mem_or_eq_of_mem_set ao with q|rfl;exact hu a q;exact hc.1) qJ h
   exact⟨qI,by rw[af,bT],cF,ej,by rw[j2];simp⟩
  ·cases h
theorem R5{α β:Type}(f:α->Sem β)(g:α->β):∀(l:List α),(∀a∈l,∀w,(f a).run C.P w=.ok (g a) w)->(l.mapM f).run C.P w=.ok (l.map g) w
 |[],_=>by simp
 |a::l,h=>by
  rw[List.mapM_cons,Sem.run_bind,h a (by simp),Result.andThen_ok,Sem.run_bind,R5 f g l (fun b hb=>h b (by simp[hb])),Result.andThen_ok,Sem.run_pure];rfl
theorem ac0{α β:Type}(f:α->Sem β)(g:α->β)(l:Array α)(h:∀a∈l.toList,∀w,(f a).run C.P w=.ok (g a) w):(l.mapM f).run C.P w=.ok (l.map g) w:=by
 rw[Array.mapM_eq_mapM_toList,Sem.run_map,R5 f g _ h,Result.andThen_ok];congr 1;apply Array.ext';simp
theorem CI{t:TypeId}{z:List V}(aT:C.zeroCells t=some z):∃cE,(∀w,(zeroValue t).run C.P w=.ok cE w)/\(∀(G:bX) (w:World),aY fid G w z cE.cells.toList)/\bS z=true/\
  ∃i,C.P.info? t=some i/\i.zero=some cE:=by
 unfold Ctx.zeroCells at aT;split at aT
 ·rename_i i hi
  split at aT
  ·rename_i cE An
   split at aT
   ·rename_i vs cS
    split at aT
    ·rename_i bx
     simp only[az]at aT;subst aT;refine⟨cE,fun w=> ?_,fun G w=>c7.oP (Ge _ cS),bx,i,hi,An⟩;simp only[zeroValue,Sem.run_bind,run_typeInfo (P:=C.P) w hi,Result.andThen_ok,An,Sem.run_pure]
    ·cases aT
   ·cases aT
  ·cases aT
 ·cases aT
theorem uF{α β:Type}(f:α->Option β):∀{l:List α} {r:List β},dH f l=some r->r.length=l.length
 |[],_,h=>by simp only[dH,az]at h;subst h;rfl
 |a::l,_,h=>by
  simp only[dH]at h;split at h
  ·split at h
   ·rename_i aI CJ
    simp only[az]at h;subst h;simp[uF f CJ]
   ·cases h
  ·cases h
theorem uG{α β:Type}(f:α->Option β):∀{l:List α} {r:List β},dH f l=some r->∀{j:Nat} {a:α} {b:β},l[j]? =some a->r[j]? =some b->f a=some b
 |[],_,h,j,a,b,h1,_=>by simp at h1
 |a::l,_,h,j,a7,eL,h1,h2=>by
  simp only[dH]at h;split at h
  ·rename_i b hb
   split at h
   ·rename_i aI CJ
    simp only[az]at h;subst h;cases j with
    |zero=>simp at h1 h2;subst h1;subst h2;exact hb
    |succ j=>exact uG f CJ (by simpa using h1) (by simpa using h2)
   ·cases h
  ·cases h
theorem ac1 (U:aZ C fid G H w)(aL:fh C fid vars G w ae ρ){t:TypeId}{parts:Array (Nat × Operand)}(ho:o.op=.build t parts)(hc:C.cI vars pos o.op=some c8)(he:step ae H low c8=some (v,H',low')):
  dj C fid G H w low ((execOp ρ o).run C.P w) v H' low':=by
 rw[ho]at hc
 have cr:(execOp ρ o).run C.P w=((Instr.build t (parts.map fun(i,x)=>(i,ρ x))).run C.P w).andThen fun z w'=>.ok (.value z) w':=by
  unfold execOp;rw[ho];simp only[Sem.run_bind];rfl
 have main:∀(z:List V) (ap:List (Nat × Nat × ag)) (place:Nat->Option (Nat × Nat)),C.zeroCells t=some z->ap.length=parts.toList.length->
   (∀(j:Nat) p a,parts.toList[j]? =some p->ap[j]? =some a->place p.1=some (a.1,a.2.1)/\C.b3 vars p.2=some a.2.2)->
   (∀(cE:Value) (w:World),(∀w,(zeroValue t).run C.P w=.ok cE w)->∀cells,Instr.fill place cE.cells (parts.toList.map fun(i,x)=>(i,ρ x))=some cells->
     (Instr.build t (parts.map fun(i,x)=>(i,ρ x))).run C.P w=.ok (.agg cells) w)->
   step ae H low (.build z ap)=some (v,H',low')->dj C fid G H w low ((execOp ρ o).run C.P w) v H' low':=by
  intro z ap place aT hlen jG hb he;obtain⟨cE,ny,n9,bx,-⟩:=CI (fid:=fid) aT;simp only[step]at he;obtain⟨cs,fS,he⟩:=ct.1 he;simp only[bt]at he;obtain⟨rfl,rfl,rfl⟩:=he
  obtain⟨cells,af,e2⟩:=R3 (fid:=fid) (G:=G) (w:=w) (place:=place) (ps:=parts.toList.map fun(i,x)=>(i,ρ x)) (aO:=ap.map fun p=>(p.1,p.2.1,ae p.2.2))
   (by simp[hlen]) (fun j p a h1 h2=>by
     simp only[jy,ct]at h1 h2;obtain⟨CK,oU,rfl⟩:=h1;obtain⟨a7,gv,rfl⟩:=h2;exact⟨(jG j CK a7 oU gv).1,aL _ _ (jG j CK a7 oU gv).2⟩) (n9 G w) fS
  refine dj.same U (x:=.agg cells) ?_ (.agg _ cells.toList e2);rw[cr,hb cE w ny cells af];rfl
 simp only[Ctx.cI]at hc;split at hc
 ·rename_i fs z hd aT
  split at hc
  ·cases hc
  ·rename_i eA
   obtain⟨ap,lZ,rfl⟩:=ct.1 hc
   have dJ:∀f∈fs.toList,∃n,C.sizeOf f.type=some n:=by
    intro f ab;cases bc:C.sizeOf f.type with
    |some n=>exact⟨n,rfl⟩
    |none=>exact absurd (ry.2 ⟨f,ab,by simp[bc]⟩) eA
   refine main z ap (fun i=>(fs.map fun f=>(f.offset,(C.sizeOf f.type).getD 0))[i]?) aT (uF _ lZ) ?_ ?_ he
   ·intro j p a h1 h2
    have:=uG _ lZ h1 h2;split at this
    ·rename_i f ab
     split at this
     ·rename_i n x hn hx
      simp only[az]at this;subst this;refine⟨?_,hx⟩;simp only[Array.getElem?_map,ab,pq,hn,sO]
     ·cases this
    ·cases this
   ·intro cE w ny cells Lk
    have hm:=ac0 (C:=C) (w:=w) (fun(f:Field)=>(do pure (f.offset,<-Go.sizeOf f.type):Sem (Nat × Nat))) (fun f=>(f.offset,(C.sizeOf f.type).getD 0)) fs (fun f ab w=>by
     obtain⟨n,hn⟩:=dJ f ab;simp only[Sem.run_bind,x2 (C:=C) hn,Result.andThen_ok,Sem.run_pure,hn,sO])
    have jG:(parts.map fun(i,x)=>(i,ρ x)).toList=parts.toList.map fun(i,x)=>(i,ρ x):=by simp
    unfold Instr.build;simp only[Sem.run_bind,ny,run_underlying hd,Result.andThen_ok,hm,jG,Lk,Sem.run_pure]
 ·rename_i n e z hd aT
  split at hc
  ·rename_i kV hs
   obtain⟨ap,lZ,rfl⟩:=ct.1 hc;refine main z ap (fun i=>some (i*kV,kV)) aT (uF _ lZ) ?_ ?_ he
   ·intro j p a h1 h2
    have:=uG _ lZ h1 h2;split at this
    ·rename_i x hx
     simp only[az]at this;subst this;exact⟨rfl,hx⟩
    ·cases this
   ·intro cE w ny cells Lk
    have jG:(parts.map fun(i,x)=>(i,ρ x)).toList=parts.toList.map fun(i,x)=>(i,ρ x):=by simp
    unfold Instr.build;simp only[Sem.run_bind,ny,run_underlying hd,Result.andThen_ok,x2 (C:=C) hs,jG,Lk,Sem.run_pure]
  ·cases hc
 ·cases hc
end Go.Abs
namespace Go.Abs
open Go
variable{C:Ctx}{fid:Nat->Nat}{w w':World}{G G':bX}{H:Heap}
variable{vars:List Nat}{ae:ag->V}{ρ:Operand->Value}{low low':Nat}{v:V}{H':Heap}{pos:String}{c8:cH}{o:Oper}
theorem aZ.sY (U:aZ C fid G H w)(aP:Obj)(p:Prop):aZ C fid ⟨G.β,fun b=>G.I b\/(b=w.heap.size/\p)⟩ H (w.alloc aP) where
 obj l h hb:=by
  obtain⟨o,ho,hr⟩:=U.obj l h hb;exact⟨o,ho,jg.mono (G:=G) (G':=⟨G.β,fun b=>G.I b\/(b=w.heap.size/\p)⟩) (lT.refl _) (fun b (hi:G.I b)=>⟨.inl hi,alloc_old (U.cX b hi).1⟩) (alloc_old (U.blk l h hb)) hr⟩
 inj:=U.inj
 blk l h hb:=by rw[World.size_alloc];have:=U.blk l h hb;omega
 cX b hi:=by
  rw[World.size_alloc];rcases hi with hi|⟨rfl,-⟩
  ·exact⟨by have:=(U.cX b hi).1;omega,(U.cX b hi).2⟩
  ·exact⟨by omega,fun l h hb q=>by have:=U.blk l h hb;omega⟩
 ku l h hb ab:=.inl (U.ku l h hb ab)
 e9 b o bj:=⟨.inl (U.e9 b o bj).1,by rw[alloc_old (U.cX b (U.e9 b o bj).1).1];exact(U.e9 b o bj).2⟩
theorem Ext.sY (aP:Obj)(p:Prop)(m n:Nat):Ext G w ⟨G.β,fun b=>G.I b\/(b=w.heap.size/\p)⟩ (w.alloc aP) m n where
 size:=by simp
 os:=rfl
 output:=rfl
 dQ b hb _:=alloc_old hb
 homes:=.refl _
 nt l h hb:=.inl ⟨h,hb,.inl rfl⟩
 cX _ h:=.inl h
 n1 b hi:=by
  rcases hi with hi|⟨rfl,-⟩
  ·exact .inl hi
  ·exact .inr (.inl (aK _))
theorem R6{z:List V}(h:bS z=true):aE (kT z)=z:=by
 unfold kT;split
 ·rename_i x
  simp only[bS,xH]at h;cases x<;>first|rfl|simp[ed]at h
 ·rfl
theorem Gl{z:List V}{cE:Array Value}(aT:aY fid G w z cE.toList)(bx:bS z=true)(lV:0<cE.size):∀(n:Nat),
  aY fid G w ((List.replicate n (kT z)).flatMap aE) ((List.range (n*cE.size)).map fun i=>cE[i%cE.size]!)
 |0=>by simpa using aY.nil
 |n+1=>by
  have ih:=Gl aT bx lV n;have af:(n+1)*cE.size=cE.size+n*cE.size:=by rw[Cg,avO]
  rw[Ca,kn,R6 bx,af,List.range_add,nW,rB]
  have e2:(List.range cE.size).map (fun i=>cE[i%cE.size]!)=cE.toList:=by
   apply wg;intro j;simp only[jy];by_cases hj:j<cE.size
   ·rw[List.getElem?_range hj]
    simp[Nat.mod_eq_of_lt hj,hj]
   ·rw[lb (by simpa using hj),lb (by simpa using hj)];rfl
  have bT:((fun i=>cE[i%cE.size]!) ∘ (cE.size+ ·))=fun i=>cE[i%cE.size]! :=by
   funext i;simp
  rw[e2,bT];exact aT.append ih
theorem Ll{z:List V}(bx:bS z=true){n k:Nat}(cW:z.length=k):∀d∈List.replicate n (kT z),(aE d).length=k:=by
 intro d hd;rw[(List.mem_replicate.1 hd).2,R6 bx,cW]
theorem Lm (U:aZ C fid G H w){es:Nat}{ds:List V}{c:Array Value}{vals rest:List Value}{e:TypeId}(fa:0<es)(hn:0<ds.length)(hu:∀d∈ds,(aE d).length=es)(hc:c.toList=vals++rest)
  (ad:aY fid G w (ds.flatMap aE) vals):
  jg C fid ⟨ck G.β H.length ⟨w.heap.size,ds.length,c.size,false⟩,G.I⟩ (w.alloc (.cells c e)) ⟨w.heap.size,ds.length,c.size,false⟩ (.row es ds false):=
 ⟨rfl,hn,rfl,fa,hu,c,e,vals,rest,oQ _ _,rfl,hc,ad.ext U (Ext.push U _ ds.length c.size 0)⟩
theorem ac2 (U:aZ C fid G H w)(aL:fh C fid vars G w ae ρ){t:TypeId}{len:Nat}{parts:Array (Nat × Operand)}(ho:o.op=.buildSlice t len parts)(hc:C.cI vars pos o.op=some c8)(he:step ae H low c8=some (v,H',low')):
  dj C fid G H w low ((execOp ρ o).run C.P w) v H' low':=by
 rw[ho]at hc
 have cr:(execOp ρ o).run C.P w=((Instr.buildSlice t len (parts.map fun(i,x)=>(i,ρ x))).run C.P w).andThen fun z w'=>.ok (.value z) w':=by
  unfold execOp;rw[ho];simp only[Sem.run_bind];rfl
 simp only[Ctx.cI]at hc;split at hc
 ·rename_i e hd
  split at hc
  ·rename_i n z ap hn aT lZ
   split at hc
   ·cases hc
   ·rename_i ep
    simp only[not_or,Nat.not_lt,ne_eq,Classical.not_not]at ep;obtain⟨nx,asI,Am⟩:=ep;obtain⟨jc,rfl⟩:∃jc,c8=.lit n z len ap jc:=⟨_,(rA hc).symm⟩;obtain⟨cE,ny,n9,bx,-⟩:=CI (fid:=fid) aT;have hlen:=uF _ lZ;have x5:cE.cells.size=n:=by rw[<-hB,(n9 G w).length,Am]
    simp only[step]at he;split at he
    ·rename_i vs H1 bI ab
     have ac3:aY fid G w (ap.map fun p=>ae p.2) (parts.toList.map fun p=>ρ p.2):=by
      refine aY.abV (by simp[hlen]) (fun j a x h1 h2=> ?_);simp only[jy,ct]at h1 h2;obtain⟨a7,gv,rfl⟩:=h1;obtain⟨CK,oU,rfl⟩:=h2;have:=uG _ lZ oU gv;obtain⟨cv,hx,rfl⟩:=ct.1 this;exact aL _ _ hx
     obtain⟨ay,f1,cq⟩:=KV U ac3 ab;have ac4:vs.length=ap.length:=by have:=cq.length;simp only[oG]at this;omega
     split at he
     ·rename_i ds sX
      have ac5:((parts.map fun(i,x)=>(i,ρ x)).toList)=parts.toList.map fun(i,x)=>(i,ρ x):=by simp
      have ac6:aY fid ay w ((List.replicate len (kT z)).flatMap aE) (((Array.range (len*n)).map fun i=>(if len*n=0 then #[]else cE.cells)[i%(if len*n=0 then #[]else cE.cells:Array Value).size]!).toList):=by
       by_cases pF:len=0
       ·subst pF;simpa using aY.nil
       ·have h0:len*n≠0:=Nat.mul_ne_zero pF nx
        have:=Gl (n9 ay w) bx (by omega) len;rw[x5]at this;simpa[h0,x5]using this
      obtain⟨cells,af,e2,bT,cF⟩:=R4 (fid:=fid) (G:=ay) (w:=w) (es:=n) (ps:=parts.toList.map fun(i,x)=>(i,ρ x)) (aO:=(ap.zip vs).map fun(p,v)=>(p.1,v))
       (by simp[hlen,ac4]) (fun j p a h1 h2=>by
         simp only[jy,ct]at h1 h2;obtain⟨CK,oU,rfl⟩:=h1;obtain⟨⟨a7,v'⟩,gv,rfl⟩:=h2;rw[xD]at gv;have:=uG _ lZ oU gv.1;obtain⟨cv,hx,rfl⟩:=ct.1 this;refine⟨rfl,?_⟩;obtain⟨y,hy,fg⟩:=cq.get gv.2;simp only[jy,oU,pq,az]at hy;subst hy;exact fg) (Ll bx Am) ac6 sX
      rw[xE]at cF
      have hb:(Instr.buildSlice t len (parts.map fun(i,x)=>(i,ρ x))).run C.P w=.ok (.slice (some ⟨w.heap.size,0,none⟩) len len) (w.alloc (.cells cells e)):=by
       unfold Instr.buildSlice;have hl:¬len*n>2^24:=by omega
       simp only[Sem.run_bind,run_underlying hd,Result.andThen_ok,x2 (C:=C) hn,hl,if_false,ac5];by_cases h0:len*n=0
       ·simp only[h0,if_true]at af⊢
        simp only[Sem.run_bind,Sem.run_pure,Result.andThen_ok,af,newRow,run_newObj,World.alloc_eq]
       ·simp only[h0,if_false]at af⊢
        simp only[Sem.run_bind,Sem.run_pure,Result.andThen_ok,ny,af,newRow,run_newObj,World.alloc_eq]
      have hval:(execOp ρ o).run C.P w=.ok (.value (.slice (some ⟨w.heap.size,0,none⟩) len len)) (w.alloc (.cells cells e)):=by rw[cr,hb];rfl
      have fa:0<n:=QN nx;have emp:dj C fid G H w low ((execOp ρ o).run C.P w) .emp H1 bI->True:=fun _=>trivial
      have R7:len=0->dj C fid G H w low ((execOp ρ o).run C.P w) .emp H1 bI:=by
       intro h0;refine dj.Aj f1 ⟨_,_,_,.inl hval,f1.rel.sY _ False,fun m _=>Ext.sY _ _ _ _,?_,aK _,aK _⟩;subst h0;exact .p _ _ (.emp _)
      split at he
      ·split at he
       ·rename_i asJ hp
        by_cases h0:len=0
        ·simp only[h0,if_true,az,bt]at he
         obtain⟨rfl,rfl,rfl⟩:=he;exact R7 h0
        ·simp only[h0,if_false,az,bt]at he
         obtain⟨rfl,rfl,rfl⟩:=he;refine dj.Aj f1 ⟨_,_,⟨ay.β,fun b=>ay.I b\/(b=w.heap.size/\True)⟩,.inl hval,f1.rel.sY _ True,fun m _=>Ext.sY _ _ _ _,?_,aK _,aK _⟩;have hx:=Ext.sY (G:=ay) (w:=w) (.cells cells e) True 0 H1.length
         have key:=fz.list (w:=w.alloc (.cells cells e)) (I:=fun b=>ay.I b\/(b=w.heap.size/\True)) n ds w.heap.size 0 len cells.toList (.inr ⟨rfl,trivial⟩)
          (iz.xU (rest:=[]) (oQ _ _) (by simp)) bT ((e2.ext f1.rel hx).pz (KN hp)) (by omega)
         rw[cF]at key;exact .p _ _ key
       ·cases he
      ·split at he
       ·rename_i h0
        simp only[az,bt]at he;obtain⟨rfl,rfl,rfl⟩:=he;exact R7 h0
       ·rename_i h0
        simp only[az,bt]at he;obtain⟨rfl,rfl,rfl⟩:=he
        have qB:cells.size=len*n:=by
         rw[<-hB,e2.length,nv bT,cF]
        refine dj.Aj f1 (dj.alloc f1.rel ds.length cells.size hval (Lm f1.rel fa (by omega) bT (rest:=[]) (by simp) e2) ?_);refine .cz _ n 0 len len ⟨w.heap.size,ds.length,cells.size,false⟩ _ _ _ (de _ _ _) (by simp only;omega) (fun _=>⟨by simp,rfl,?_,aK _⟩);rw[qB,eO];exact aK _
     ·cases he
    ·cases he
  ·cases hc
 ·cases hc
end Go.Abs
namespace Go.Abs
open Go
variable{C:Ctx}{fid:Nat->Nat}{w w':World}{G G':bX}{H:Heap}
variable{vars:List Nat}{ae:ag->V}{ρ:Operand->Value}{low low':Nat}{v:V}{H':Heap}{pos:String}{c8:cH}{o:Oper}
theorem R8{n:Int}(h0:0<=n)(h:n<=1099511627776):IntKind.i64.wrap n=n:=by
 have e:n%(2^IntKind.i64.bits:Int)=n:=Int.emod_eq_of_lt h0 (by show n<(2^64:Int);omega);unfold IntKind.wrap;rw[e];have:¬(n>=(2^(IntKind.i64.bits-1):Int)):=by show ¬n>=(2^63:Int);omega
 simp[this]
theorem ac7 (U:aZ C fid G H w)(aL:fh C fid vars G w ae ρ){t:TypeId}{l c:Operand}(ho:o.op=.makeSlice t l c)(hc:C.cI vars pos o.op=some c8)(he:step ae H low c8=some (v,H',low')):
  dj C fid G H w low ((execOp ρ o).run C.P w) v H' low':=by
 rw[ho]at hc;simp only[Ctx.cI]at hc;split at hc
 ·rename_i e hd
  split at hc
  ·rename_i i z l0 ac hi aT h1 h2
   split at hc
   ·cases hc
   ·rename_i ep
    simp only[not_or,ne_eq,Classical.not_not]at ep;simp only[az]at hc;subst hc;obtain⟨cE,ny,n9,bx,-⟩:=CI (fid:=fid) aT;have x5:cE.cells.size=i.size:=by rw[<-hB,(n9 G w).length,ep.2]
    have hl:=aL l l0 h1;have uy:=aL c ac h2;simp only[step]at he;split at he
    ·rename_i k n bp m af e2
     split at he
     ·rename_i hb
      obtain⟨rfl,nx,hbound⟩:=hb;rw[af]at hl;rw[e2]at uy;obtain⟨j,rfl⟩:=Kg nx
      have oV:j<=1099511627776:=by
       have:(j:Int)*1<=(j:Int)*((i.bytes:Int)+1):=Int.mul_le_mul_of_nonneg_left (by omega) nx;omega
      have rN:(i.bytes:Int)*(j:Int)<=1099511627776:=by
       have:(j:Int)*((i.bytes:Int)+1)=(i.bytes:Int)*(j:Int)+j:=by rw[Int.mul_add,Int.mul_comm];omega
       omega
      have hw:=R8 nx (by omega:(j:Int)<=1099511627776);have lV:0<i.size:=QN ep.1
      have cr:∃cells,(execOp ρ o).run C.P w=.ok (.value (.slice (some ⟨w.heap.size,0,none⟩) j j)) (w.alloc (.cells cells e))/\cells.toList=(List.range (j*i.size)).map (fun q=>cE.cells[q%cE.cells.size]!):=by
       refine⟨(Array.range (j*i.size)).map (fun q=>(if j*i.size=0 then #[]else cE.cells:Array Value)[q%(if j*i.size=0 then #[]else cE.cells:Array Value).size]!),?_,?_⟩
       ·unfold execOp;rw[ho]
        have pG:¬((decide ((j:Int)<0)||decide ((i.bytes:Int)*(j:Int)>2^48))=true):=by simp;omega
        have n3:¬((decide ((j:Int)<0)||decide ((i.bytes:Int)*(j:Int)>2^48)||decide ((j:Int)<0)||decide ((j:Int)>(j:Int)))=true):=by simp;omega
        simp only[hl.jE,uy.jE,Instr.makeSlice,asInt,asIntOf,Sem.run_bind,Sem.run_pure,Result.andThen_ok,run_underlying hd,run_typeInfo (P:=C.P) w hi,hw];rw[if_neg (by simpa using n3)];simp only[Sem.run_bind,run_askRoom,Result.andThen_ok,sizeOf,run_typeInfo (P:=C.P) w hi,Sem.run_pure,FL];by_cases h0:j*i.size=0
        ·simp only[h0,if_true,Sem.run_bind,Sem.run_pure,Result.andThen_ok,newRow,run_newObj,World.alloc_eq]
        ·simp only[h0,if_false,Sem.run_bind,Sem.run_pure,Result.andThen_ok,ny,newRow,run_newObj,World.alloc_eq]
       ·by_cases h0:j*i.size=0
        ·simp[h0]
        ·simp[h0]
      obtain⟨cells,cr,hG⟩:=cr;split at he
      ·rename_i ac8
       simp only[az,bt]at he;obtain⟨rfl,rfl,rfl⟩:=he;obtain rfl:j=0:=by omega
       exact⟨_,_,_,.inl cr,U.sY _ False,fun m _=>Ext.sY _ _ _ _,.p _ _ (.emp _),aK _,aK _⟩
      ·rename_i ac8
       simp only[az,bt,FL]at he;obtain⟨rfl,rfl,rfl⟩:=he;have pH:=Gl (n9 G w) bx (by omega) j;rw[x5]at pH hG;rw[<-hG]at pH;have hu:=Ll bx (n:=j) ep.2;have fS:cells.size=j*i.size:=by rw[<-hB,pH.length,nv hu,xE]
       refine dj.alloc U (List.replicate j (kT z)).length cells.size cr (Lm U lV (by simp;omega) hu (rest:=[]) (by simp) pH) ?_;refine .cz _ _ 0 j j ⟨w.heap.size,(List.replicate j (kT z)).length,cells.size,false⟩ _ _ _ (de _ _ _) (by simp) (fun _=>⟨by simp,rfl,?_,aK _⟩);rw[fS,eO];exact aK _
     ·cases he
    ·cases he
  ·cases hc
 ·cases hc
theorem Gm (U:aZ C fid G H w){es:Nat}{a:V}{xs:List V}{x:Value}(ao:a8 fid G w a x)(he:elems H es a=some xs):
  ∃dc cap,x=.slice dc xs.length cap/\(xs≠[]->∃b off vals,dc=some ⟨b,off,none⟩/\iz w b off vals/\aY fid G w (xs.flatMap aE) vals/\∀d∈xs,(aE d).length=es):=by
 unfold elems at he;split at he
 ·simp only[az]at he;subst he
  exact⟨none,0,ao.j0,fun h=>absurd rfl h⟩
 ·simp only[az]at he;subst he
  obtain⟨dc,hx⟩:=ao.rI;exact⟨some dc,0,hx,fun h=>absurd rfl h⟩
 ·split at he
  ·rename_i fa
   simp only[az]at he;subst he;subst fa;obtain⟨dc,cap,hx,-,bc⟩:=ao.wy;refine⟨some dc,cap,hx,fun bf=> ?_⟩;rcases bc with rfl|⟨b,off,vals,rfl,aW,hc,hu,hr⟩
   ·exact absurd rfl bf
   ·exact⟨b,off,vals,rfl,hc,hr.oP,hu⟩
  ·cases he
 ·rename_i l bD off len tag
  split at he
  ·rename_i eX ds dt hl
   split at he
   ·rename_i ep
    obtain⟨rfl,rfl,fR,qH⟩:=ep;simp only[az]at he;subst he;obtain⟨h0,dc,cJ,cap,cY,rH,jF,eg⟩:=ao.pA;obtain⟨aP,eM,hr⟩:=U.obj l h0 cY;rw[hl]at eM;cases eM;obtain⟨ht,lV,ab,fa,hu,c,e,vals,rest,hc,fS,ad,fg⟩:=hr;obtain⟨rfl,rfl,-,-⟩:=jF (ht.trans fR);have hlen:((ds.drop off).take cJ).length=cJ:=by simp;omega
    rw[hlen];refine⟨_,cap,eg,fun _=>⟨h0.b,off*eX,(vals.drop (off*eX)).take (cJ*eX),rfl,?_,?_,fun d hd=>hu d (B8 (zP hd))⟩⟩
    ·have:=((iz.xU hc ad).drop (off*eX)).take (cJ*eX)
     rwa [eO]at this
    ·have nw:∀d∈ds.drop off,(aE d).length=eX:=fun d hd=>hu d (B8 hd)
     rw[Ag nw,xT hu];exact(fg.drop _).take _
   ·cases he
  ·cases he
 ·cases he
theorem Ln{size n cap:Nat}{b off:Nat}{vals:List Value}(hc:iz w b off vals)(hl:vals.length=n*size):
  (Builtin.firstCells size n (.slice (some ⟨b,off,none⟩) n cap)).run C.P w=.ok vals.toArray w:=by
 have:=run_loadCells_list (P:=C.P) w ⟨b,off,none⟩ vals (fun j v hj=>by rw[Addr.add_lit];exact hc j v hj);rw[hl]at this;exact this
theorem R9:∀{vs vs':List V} {xs:List Value} {G:bX} {H H':Heap} {low low':Nat},aZ C fid G H w->aY fid G w (vs.flatMap aE) xs->dX H low vs=some (vs',H',low')->
  ∃G',lh C fid G H w low G' H' low'/\aY fid G' w (vs'.flatMap aE) xs/\vs'.length=vs.length/\∀es,(∀d∈vs,(aE d).length=es)->∀d∈vs',(aE d).length=es
 |[],_,_,G,H,H',low,low',U,h,he=>by
  simp only[dX,az,bt]at he;obtain⟨rfl,rfl,rfl⟩:=he;exact⟨G,.refl U _,h,rfl,fun _ h=>h⟩
 |v::r,_,xs,G,H,H',low,low',U,h,he=>by
  simp only[dX]at he;split at he
  ·rename_i v1 H1 bI h1
   split at he
   ·rename_i b9 H2 c5 h2
    simp only[az,bt]at he;obtain⟨rfl,rfl,rfl⟩:=he;rw[kn]at h;obtain⟨cR,dd,rfl,hy,aT⟩:=h.split;obtain⟨ay,f1,cq,bF⟩:=ab3 U hy h1;obtain⟨bl,f2,ee,iB,oR⟩:=R9 f1.rel (aT.ext U (f1.ext 0 (cx _))) h2;refine⟨bl,f1.trans f2,?_,by simp[iB],fun es hu d hd=> ?_⟩
    ·rw[kn];exact(cq.ext f1.rel (f2.ext 0 (cx _))).append ee
    ·rcases dA.1 hd with rfl|hd
     ·rw[bF];exact hu v (by simp)
     ·exact oR es (fun d hd=>hu d (by simp[hd])) d hd
   ·cases he
  ·cases he
end Go.Abs
namespace Go.Abs
open Go
variable{C:Ctx}{fid:Nat->Nat}{w w':World}{G G':bX}{H:Heap}
variable{vars:List Nat}{ae:ag->V}{ρ:Operand->Value}{low low':Nat}{v:V}{H':Heap}{pos:String}{c8:cH}{o:Oper}
theorem Sa{P:Program}{t u ty e e':TypeId}{i:TypeInfo}(hd:P.underlying t=some (.slice e))(hu:P.underlying u=some (.slice e'))(hi:P.info? e=some i){base lj:Option Addr}{sLen sCap n sZ:Nat}{news:List Value}
  (hx:(Builtin.firstCells i.size n (.slice lj n sZ)).run P w=.ok news.toArray w) (lW:sLen+n<=sCap):
  (Builtin.append_ #[t,u] ty #[.slice base sLen sCap,.slice lj n sZ]).run P w=
    ((match base with|some a=>storeCells (a.add (sLen*i.size)) news|none=>pure ()).run P w).andThen fun _ w'=>.ok (.slice base (sLen+n) sCap) w':=by
 cases base with
 |none=>simp[Builtin.append_,run_underlying hd,run_underlying hu,sizeOf,typeInfo,hi,Builtin.lenOf,lW,hx]
 |some a=>simp[Builtin.append_,run_underlying hd,run_underlying hu,sizeOf,typeInfo,hi,Builtin.lenOf,lW,hx]
theorem Sb{P:Program}{t u ty e e':TypeId}{i:TypeInfo}{cE:Value}(hd:P.underlying t=some (.slice e))(hu:P.underlying u=some (.slice e'))(hi:P.info? e=some i)(aT:i.zero=some cE)
  {base lj:Option Addr} {sLen sCap n sZ:Nat} {olds news:List Value}
  (hx:(Builtin.firstCells i.size n (.slice lj n sZ)).run P w.drew=.ok news.toArray w.drew) (ho:(Builtin.firstCells i.size sLen (.slice base sLen sCap)).run P w.drew=.ok olds.toArray w.drew)
  (lW:sCap<sLen+n) (hb:(sLen+n)*(i.bytes+1)<=1099511627776):
  ∃iD,sLen+n<=iD/\(Builtin.append_ #[t,u] ty #[.slice base sLen sCap,.slice lj n sZ]).run P w=
   .ok (.slice (some ⟨w.heap.size,0,none⟩) (sLen+n) iD) (w.drew.alloc (.cells (olds.toArray++news.toArray++Builtin.zeroCells cE.cells (iD-(sLen+n))) e)):=by
 have h1:¬sLen+n<=sCap:=by omega
 have hm:(sLen+n)*i.bytes+(sLen+n)=(sLen+n)*(i.bytes+1):=by rw[Nat.mul_succ]
 have h2:¬(((sLen+n:Nat):Int)>9223372036854775807):=by omega
 have ar:=growslice_fits (need:=sLen+n) (old:=sCap) (bytes:=i.bytes) lW (by omega);have aQ:¬(281474976710656<Builtin.nextslicecap (sLen+n) sCap*i.bytes):=by omega
 refine⟨sLen+n+(w.tape w.drawn (.appendCap (sLen+n) sCap e))%(9223372036854775808-(sLen+n)),Kn _ _,?_⟩;have wA:¬(9223372036854775807<(sLen:Int)+(n:Int)):=by omega
 simp[Builtin.append_,run_underlying hd,run_underlying hu,sizeOf,typeInfo,hi,Builtin.lenOf,h1,wA,aQ,Question.forced,Question.cut,hx,ho,zeroValue,aT,newRow];congr 2;apply Array.ext';simp
theorem Gn (z:Array Value)(n:Nat):(Builtin.zeroCells z n).size=n*z.size:=by simp[Builtin.zeroCells]
theorem Sc{xs:List V}{vals:List Value}(h:aY fid G w xs vals)(hc:bS xs=true):∀x∈vals,x.oneCell'=true:=Gf h hc
theorem dj.newRow (U:aZ C fid G H w){low:Nat}{r:Result Next}{es:Nat}{ds:List V}{c:Array Value}{vals rest:List Value}{e:TypeId}{cap:Nat}(fa:0<es)(hn:0<ds.length)(hu:∀d∈ds,(aE d).length=es)
  (hc:c.toList=vals++rest) (ad:aY fid G w (ds.flatMap aE) vals) (e4:cap*es<=c.size) (hle:ds.length<=cap)
  (hr:r=.ok (.value (.slice (some ⟨w.heap.size,0,none⟩) ds.length cap)) (w.drew.alloc (.cells c e))):
  dj C fid G H w low r (.cz H.length es 0 ds.length ds.length) (H++[.row es ds false]) low:=by
 have l1:aZ C fid G H w.drew:=U.lU rfl;have du:∀m n,Ext G w G w.drew m n:=fun m n=>Ext.lU (w:=w) (w':=w.drew) rfl rfl rfl m n;have ac9:=ad.ext U (du 0 0);refine⟨_,_,⟨ck G.β H.length ⟨w.drew.heap.size,ds.length,c.size,false⟩,G.I⟩,.inl hr,l1.push _ _ ds.length c.size (Lm l1 fa hn hu hc ac9),fun m _=>(du m H.length).trans (Ext.push l1 _ _ _ m),?_,aK _,by simp⟩;exact .cz _ es 0 _ _ ⟨w.drew.heap.size,ds.length,c.size,false⟩ _ _ _ (de _ _ _) (aK _) (fun _=>⟨by simp,rfl,by rw[eO];exact e4,hle⟩)
theorem ada (U:aZ C fid G H w)(aL:fh C fid vars G w ae ρ){a b:Operand}{t u e e':TypeId}{i:TypeInfo}{cE:Value}{args:Array Operand}{ts:Array TypeId}(ho:o.op=.call {callee:=.builtin .append,args,argTypes:=ts})
  (ao:args= #[a,b]) (ht:ts= #[t,u]) {nz j4:ag} (h1:C.b3 vars a=some nz) (h2:C.b3 vars b=some j4) (hd:C.P.underlying t=some (.slice e)) (hu:C.P.underlying u=some (.slice e')) (hi:C.P.info? e=some i)
  (aT:i.zero=some cE) (uH:cE.cells.size=i.size) (lV:0<i.size) (he:step ae H low (.append i.size i.bytes nz j4)=some (v,H',low')):dj C fid G H w low ((execOp ρ o).run C.P w) v H' low':=by
 subst ao;subst ht;have hx:=aL a nz h1;have hy:=aL b j4 h2
 have cr:(execOp ρ o).run C.P w=((Builtin.append_ #[t,u] o.type #[ρ a,ρ b]).run C.P w).andThen fun z w'=>.ok (.value z) w':=by
  rw[x4 ho];simp only[builtin,Sem.run_bind,Ko,eo,mT];rfl
 simp only[step]at he;split at he
 ·rename_i xs eQ
  obtain⟨x6,Gp,CL,Gq⟩:=Gm U hy eQ;split at he
  ·rename_i eR H1 bI ab
   have news:∃vals ay,lh C fid G H w low ay H1 bI/\aY fid ay w (eR.flatMap aE) vals/\eR.length=xs.length/\(∀d∈eR,(aE d).length=i.size)/\
     ∀hF,hF.heap=w.heap->(Builtin.firstCells i.size xs.length (.slice x6 xs.length Gp)).run C.P hF=.ok vals.toArray hF:=by
    by_cases bf:xs=[]
    ·subst bf
     simp only[dX,az,bt]at ab;obtain⟨rfl,rfl,rfl⟩:=ab;refine⟨[],G,.refl U _,.nil,rfl,by simp,fun hF _=> ?_⟩;cases x6 with
     |none=>simp[Builtin.firstCells]
     |some dc=>simp[Builtin.firstCells,loadCells,loadCellsFrom]
    ·obtain⟨As,off,vals,rfl,xX,fg,nw⟩:=Gq bf
     obtain⟨ay,f1,cq,bF,ky⟩:=R9 U fg ab;refine⟨vals,ay,f1,cq,bF,ky _ nw,fun hF hw=> ?_⟩;exact Ln (fun j x hj=>by rw[Rt (w:=w) (w':=hF) (by rw[hw])];exact xX j x hj) (by rw[fg.length,nv nw])
   obtain⟨vals,ay,f1,cq,bF,ky,wB⟩:=news;rw[CL]at cr;have kY:=hx.ext U (f1.ext 0 (cx _));refine dj.Aj f1 ?_;have gO:=f1.rel;split at he
   ·
    rename_i uI
    have adb:xs=[]:=by
     have:eR=[]:=by simpa using uI
     rw[this]at bF;exact Kf.1 bF.symm
    have CM:vals=[]:=by
     have:=cq.length;have dI:eR=[]:=by simpa using uI
     rw[dI]at this;exact Kf.1 (by simpa using this)
    subst adb;subst CM
    have same:∀base n cap,ρ a=.slice base n cap->n<=cap->(execOp ρ o).run C.P w=.ok (.value (ρ a)) w:=by
     intro base n cap hs hle;rw[cr,hs,Sa (P:=C.P) hd hu hi (wB w rfl) (by simpa using hle)];cases base<;>simp[storeCells]
    split at he
    ·rename_i af
     simp only[az,bt]at he;obtain⟨rfl,rfl,rfl⟩:=he;rw[af]at kY;exact .same gO (same _ _ _ kY.j0 (aK _)) kY
    ·rename_i af
     simp only[az,bt]at he;obtain⟨rfl,rfl,rfl⟩:=he;rw[af]at kY;obtain⟨dc,eg⟩:=kY.rI;exact .same gO (same _ _ _ eg (aK _)) kY
    ·rename_i bD ds af
     simp only[az,bt]at he;obtain⟨rfl,rfl,rfl⟩:=he;rw[af]at kY;obtain⟨dc,cap,eg,e4,-⟩:=kY.wy;exact .same gO (same _ _ _ eg e4) kY
    ·rename_i l bD off len tag af
     rw[af]at kY;split at he
     ·rename_i eX ds dt hl
      split at he
      ·rename_i fR
       simp only[az,bt]at he;obtain⟨rfl,rfl,rfl⟩:=he;obtain⟨h0,dc,cJ,cap,cY,rH,jF,eg⟩:=kY.pA;obtain⟨aP,eM,hr⟩:=gO.obj l h0 cY;rw[hl]at eM;cases eM;obtain⟨rfl,rfl,-,qG⟩:=jF (hr.1.trans fR);exact .same gO (same _ _ _ eg qG) kY
      ·cases he
     ·cases he
    ·cases he
   ·rename_i uI
    have bf:0<eR.length:=by
     rcases U2 eR.length with q|q
     ·exact absurd (by simpa using Kf.1 q) uI
     ·exact q
    split at he
    ·cases he
    ·rename_i bx
     have bx:bS (eR.flatMap aE)=true:=by simpa using bx
     have Lo:=Sc cq bx;have lX:vals.length=xs.length*i.size:=by rw[cq.length,nv ky,bF]
     have fresh:∀base,ρ a=.slice base 0 0->eR.length*(i.bytes+1)<=1099511627776->dj C fid ay H1 w bI ((execOp ρ o).run C.P w) (.cz H1.length i.size 0 eR.length eR.length) (H1++[.row i.size eR false]) bI:=by
      intro base hs hb
      have hold:(Builtin.firstCells i.size 0 (.slice base 0 0)).run C.P w.drew=.ok ([]:List Value).toArray w.drew:=by
       cases base<;>simp[Builtin.firstCells,loadCells,loadCellsFrom]
      obtain⟨iD,e4,pI⟩:=Sb (P:=C.P) (t:=t) (u:=u) (ty:=o.type) hd hu hi aT (wB w.drew rfl) hold (by omega) (by rw[eO,<-bF];exact hb);rw[eO,<-bF]at pI e4;refine dj.newRow gO (cap:=iD) (e:=e) lV bf ky (vals:=vals) (rest:=(Builtin.zeroCells cE.cells (iD-eR.length)).toList) ?_ cq ?_ e4 (by rw[cr,hs,<-bF,pI];rfl)
      ·simp
      ·simp only[Cb,zR,ja,eO,Gn,lX,uH,<-bF,<-rC]
       rw[Nat.add_sub_cancel' e4];exact aK _
     split at he
     ·rename_i af
      split at he
      ·rename_i hb
       simp only[az,bt]at he;obtain⟨rfl,rfl,rfl⟩:=he;rw[af]at kY;exact fresh _ kY.j0 hb
      ·cases he
     ·rename_i af
      split at he
      ·rename_i hb
       simp only[az,bt]at he;obtain⟨rfl,rfl,rfl⟩:=he;rw[af]at kY;obtain⟨dc,eg⟩:=kY.rI;exact fresh _ eg hb
      ·cases he
     ·rename_i l bD off len tag af
      rw[af]at kY;split at he
      ·rename_i eX ds hl
       split at he
       ·rename_i ep
        obtain⟨rfl,rfl,fR,rfl,rfl,hb⟩:=ep;simp only[az,bt]at he;obtain⟨rfl,rfl,rfl⟩:=he;obtain⟨h0,dc,cJ,cap,cY,rH,jF,eg⟩:=kY.pA;obtain⟨aP,eM,hr⟩:=gO.obj l h0 cY;rw[hl]at eM;cases eM;obtain⟨CN,Sd,hfz,fa,mW,c,uJ,kB,rest,hc,fS,kU,fg⟩:=hr;obtain⟨rfl,rfl,qB,qG⟩:=jF (CN.trans fR);rw[Nat.zero_mul]at eg;rw[eO]at qB;have kW:ds.length=cJ:=fR;have qH:kB.length=cJ*i.size:=by rw[fg.length,nv mW,kW]
        have hG:c.size=kB.length+rest.length:=by rw[<-hB,kU,gM]
        have s0:∀d∈ds++eR,(aE d).length=i.size:=fun d hd=>by
         rcases jA.1 hd with q|q
         ·exact mW d q
         ·exact ky d q
        have CO:aY fid ay w ((ds++eR).flatMap aE) (kB++vals):=by rw[Kk];exact fg.append cq
        by_cases lW:cJ+xs.length<=cap
        ·
         have hmul:(cJ+xs.length)*i.size<=c.size:=cV (Ki _ lW) (by rw[<-fS];exact qB);rw[rC]at hmul;have cd:=run_storeCells_at C.P h0.b (cJ*i.size) uJ vals 0 c w hc (by omega) Lo
         have hval:(execOp ρ o).run C.P w=.ok (.value (.slice (some ⟨h0.b,0,none⟩) (cJ+xs.length) cap)) (w.setRow h0.b (c.toList.take (cJ*i.size)++vals++c.toList.drop (cJ*i.size+vals.length)).toArray):=by
          rw[cr,eg,Sa (P:=C.P) hd hu hi (wB w rfl) lW];simp only[Addr.add_lit,eO];simp only[zW]at cd;rw[cd];rfl
         have dW:Ext ay w ⟨ck ay.β l {h0 with tag:=cJ+eR.length},ay.I⟩ (w.setRow h0.b (c.toList.take (cJ*i.size)++vals++c.toList.drop (cJ*i.size+vals.length)).toArray) l H1.length:=
          Ext.write gO cY hfz rfl (by simp only;omega) (fun q=>by omega) rfl (setRow_size _ _) (fun b bf=>setRow_other bf _) rfl rfl
         refine⟨_,_,_,.inl hval,aZ.write gO cY hfz (h':={h0 with tag:=cJ+eR.length}) rfl hfz (by simp only;omega) (fun q=>by omega) rfl (setRow_size _ _) (fun b bf=>setRow_other bf _) (.row i.size (ds++eR) false) ?_,
          fun m hm=>dW.le (cV hm (qt _ _)) (aK _),?_,jU _ _,by simp⟩
         ·refine⟨by simp[kW],by simp;omega,hfz,fa,s0,_,uJ,kB++vals,rest.drop vals.length,setRow_heap w h0.b c _ uJ _ hc,?_,?_,CO.ext gO dW⟩
          ·show h0.ff=_
           rw[fS];simp only[zR,gM,sM,sN,hB];omega
          ·rw[QJ,kU,<-qH,List.take_left,QS,mS,mS]
           congr 2;rw[aa5 (by omega),jB];congr 1;omega
         ·rw[<-bF]
          exact .cz l i.size 0 _ _ {h0 with tag:=cJ+eR.length} _ _ _ (de _ _ _) (aK _) (fun _=>⟨by simp,rfl,by rw[eO];exact qB,by omega⟩)
        ·
         have hold:(Builtin.firstCells i.size cJ (.slice (some ⟨h0.b,0,none⟩) cJ cap)).run C.P w.drew=.ok kB.toArray w.drew:=
          Ln (iz.xU (w:=w.drew) hc kU) qH
         obtain⟨iD,e4,pI⟩:=Sb (P:=C.P) (t:=t) (u:=u) (ty:=o.type) hd hu hi aT (wB w.drew rfl) hold (by omega) (by rw[<-bF];exact hb);have x7:aZ C fid ay H1 w.drew:=gO.lU rfl;have du:∀m n,Ext ay w ay w.drew m n:=fun m n=>Ext.lU (w:=w) (w':=w.drew) rfl rfl rfl m n
         obtain⟨bA,b9⟩:=aZ.move x7 cY hfz (.cells (kB.toArray++vals.toArray++Builtin.zeroCells cE.cells (iD-(cJ+xs.length))) e) (cJ+eR.length)
          (kB.toArray++vals.toArray++Builtin.zeroCells cE.cells (iD-(cJ+xs.length))).size (by omega) (by omega) (.row i.size (ds++eR) false)
          ⟨by simp[kW],by simp;omega,rfl,fa,s0,_,e,kB++vals,(Builtin.zeroCells cE.cells (iD-(cJ+xs.length))).toList,oQ _ _,rfl,by simp,aY.mono (G:=ay) (w:=w.drew) (G':=⟨ck ay.β l ⟨w.drew.heap.size,cJ+eR.length,(kB.toArray++vals.toArray++Builtin.zeroCells cE.cells (iD-(cJ+xs.length))).size,false⟩,ay.I⟩) (by
           intro x fj dI;by_cases jH:x=l
           ·subst jH;rw[cY]at dI;cases dI
            exact⟨_,de _ _ _,by simp only;omega,fun q=>by omega,fun q=>by simp only at q;omega,fun q=>by rw[hfz]at q;cases q⟩
           ·exact⟨fj,by simp only[dp jH];exact dI,aK _,id,fun _=>⟨rfl,rfl⟩,fun _=>rfl⟩) (fun b s3=>⟨s3,alloc_old (w:=w.drew) (x7.cX b s3).1⟩) (CO.ext gO (du 0 0))⟩
         refine⟨_,_,_,.inl (by rw[cr,eg,pI];rfl),bA,fun m hm=>(du m H1.length).trans (b9.le (cV hm (qt _ _)) (aK _)),?_,jU _ _,by simp⟩;rw[<-bF];refine .cz l i.size 0 _ _ ⟨w.drew.heap.size,cJ+eR.length,_,false⟩ _ _ _ (de _ _ _) (aK _) (fun _=>⟨by simp,rfl,?_,by omega⟩);simp only[Cb,zR,Gn,lX,qH,uH,<-rC,eO];have uD:cJ+xs.length+(iD-(cJ+eR.length))=iD:=by omega
         rw[uD];exact aK _
       ·cases he
      ·cases he
     ·cases he
  ·cases he
 ·cases he
theorem dj.ag3 (U:aZ C fid G H w){low:Nat}{r:Result Next}{es:Nat}{ds:List V}{c:Array Value}{vals rest:List Value}{e:TypeId}{cap:Nat}(hu:∀d∈ds,(aE d).length=es)(hp:bW ds=true)
  (hc:c.toList=vals++rest) (ad:aY fid G w (ds.flatMap aE) vals) (hle:ds.length<=cap)
  (hr:r=.ok (.value (.slice (some ⟨w.heap.size,0,none⟩) ds.length cap)) (w.drew.alloc (.cells c e))):
  dj C fid G H w low r (.list es ds) H low:=by
 have l1:aZ C fid G H w.drew:=U.lU rfl;have du:∀m n,Ext G w G w.drew m n:=fun m n=>Ext.lU (w:=w) (w':=w.drew) rfl rfl rfl m n;have hx:∀m n,Ext G w ⟨G.β,fun b=>G.I b\/(b=w.drew.heap.size/\True)⟩ (w.drew.alloc (.cells c e)) m n:=fun m n=>(du m n).trans (Ext.sY (.cells c e) True m n);refine⟨_,_,⟨G.β,fun b=>G.I b\/(b=w.drew.heap.size/\True)⟩,.inl hr,l1.sY (.cells c e) True,fun m _=>hx m _,.p _ _ ?_,aK _,aK _⟩;exact .list es ds w.drew.heap.size 0 cap vals (.inr ⟨rfl,trivial⟩) (iz.xU (rest:=rest) (oQ _ _) hc) hu ((ad.ext U (hx 0 0)).pz (KN hp)) hle
theorem ag4 (U:aZ C fid G H w)(aL:fh C fid vars G w ae ρ){a b:Operand}{t u e e':TypeId}{i:TypeInfo}{cE:Value}{args:Array Operand}{ts:Array TypeId}(ho:o.op=.call {callee:=.builtin .append,args,argTypes:=ts})
  (ao:args= #[a,b]) (ht:ts= #[t,u]) {nz j4:ag} (h1:C.b3 vars a=some nz) (h2:C.b3 vars b=some j4) (hd:C.P.underlying t=some (.slice e)) (hu:C.P.underlying u=some (.slice e')) (hi:C.P.info? e=some i)
  (aT:i.zero=some cE) (uH:cE.cells.size=i.size) (lV:0<i.size) (he:step ae H low (.xC i.size i.bytes nz j4)=some (v,H',low')):dj C fid G H w low ((execOp ρ o).run C.P w) v H' low':=by
 subst ao;subst ht;have kY:=aL a nz h1;have hy:=aL b j4 h2
 have cr:(execOp ρ o).run C.P w=((Builtin.append_ #[t,u] o.type #[ρ a,ρ b]).run C.P w).andThen fun z w'=>.ok (.value z) w':=by
  rw[x4 ho];simp only[builtin,Sem.run_bind,Ko,eo,mT];rfl
 simp only[step]at he;split at he
 ·rename_i xs eQ
  obtain⟨x6,Gp,CL,Gq⟩:=Gm U hy eQ;split at he
  ·cases he
  rename_i hp;have hp:bW xs=true:=by simpa using hp
  obtain⟨vals,cq,ky,wB⟩:∃vals,aY fid G w (xs.flatMap aE) vals/\(∀d∈xs,(aE d).length=i.size)/\∀hF,hF.heap=w.heap->(Builtin.firstCells i.size xs.length (.slice x6 xs.length Gp)).run C.P hF=.ok vals.toArray hF:=by
   by_cases bf:xs=[]
   ·subst bf
    refine⟨[],.nil,by simp,fun hF _=> ?_⟩;cases x6 with
    |none=>simp[Builtin.firstCells]
    |some dc=>simp[Builtin.firstCells,loadCells,loadCellsFrom]
   ·obtain⟨As,off,vals,rfl,xX,fg,nw⟩:=Gq bf
    exact⟨vals,fg,nw,fun hF hw=>Ln (fun j x hj=>by rw[Rt (w:=w) (w':=hF) (by rw[hw])];exact xX j x hj) (by rw[fg.length,nv nw])⟩
  rw[CL]at cr
  have same:xs=[]->∀base n cap,ρ a=.slice base n cap->n<=cap->(execOp ρ o).run C.P w=.ok (.value (ρ a)) w:=by
   intro adb base n cap hs hle;subst adb;have CM:vals=[]:=Kf.1 (by rw[cq.length];rfl);subst CM;rw[cr,hs,Sa (P:=C.P) hd hu hi (wB w rfl) (by simpa using hle)];cases base<;>simp[storeCells]
  have fresh:∀base,ρ a=.slice base 0 0->0<xs.length->xs.length*(i.bytes+1)<=1099511627776->dj C fid G H w low ((execOp ρ o).run C.P w) (.list i.size xs) H low:=by
   intro base hs bf hb;have lX:vals.length=xs.length*i.size:=by rw[cq.length,nv ky]
   have hold:(Builtin.firstCells i.size 0 (.slice base 0 0)).run C.P w.drew=.ok ([]:List Value).toArray w.drew:=by
    cases base<;>simp[Builtin.firstCells,loadCells,loadCellsFrom]
   obtain⟨iD,e4,pI⟩:=Sb (P:=C.P) (t:=t) (u:=u) (ty:=o.type) hd hu hi aT (wB w.drew rfl) hold (by omega) (by rw[eO];exact hb);rw[eO]at pI e4;refine dj.ag3 U (cap:=iD) (e:=e) ky hp (vals:=vals) (rest:=(Builtin.zeroCells cE.cells (iD-xs.length)).toList) ?_ cq e4 (by rw[cr,hs,pI];rfl);simp
  have pos:¬xs.isEmpty=true->0<xs.length:=fun q=>by
   rcases U2 xs.length with q'|q'
   ·exact absurd (by simpa using Kf.1 q') q
   ·exact q'
  have nil:xs.isEmpty=true->xs=[]:=fun q=>by simpa using q
  split at he
  ·rename_i af
   rw[af]at kY;split at he
   ·rename_i q
    simp only[az,bt]at he;obtain⟨rfl,rfl,rfl⟩:=he;exact .same U (same (nil q) _ _ _ kY.j0 (aK _)) kY
   ·rename_i q
    split at he
    ·rename_i hb
     simp only[az,bt]at he;obtain⟨rfl,rfl,rfl⟩:=he;exact fresh _ kY.j0 (pos q) hb.2
    ·cases he
  ·rename_i af
   rw[af]at kY;obtain⟨dc,eg⟩:=kY.rI;split at he
   ·rename_i q
    simp only[az,bt]at he;obtain⟨rfl,rfl,rfl⟩:=he;exact .same U (same (nil q) _ _ _ eg (aK _)) kY
   ·rename_i q
    split at he
    ·rename_i hb
     simp only[az,bt]at he;obtain⟨rfl,rfl,rfl⟩:=he;exact fresh _ eg (pos q) hb.2
    ·cases he
  ·cases he
 ·cases he
end Go.Abs
namespace Go.Abs
open Go
variable{C:Ctx}{fid:Nat->Nat}{w w':World}{G G':bX}{H:Heap}
variable{vars:List Nat}{ae:ag->V}{ρ:Operand->Value}{low low':Nat}{v:V}{H':Heap}{pos:String}{c8:cH}{o:Oper}
theorem Se:∀{a b:List V},lQ (a++b)=(lQ a&&lQ b)
 |[],b=>by simp[lQ]
 |x::a,b=>by simp[lQ,Se (a:=a),Cf]
theorem ade (U:aZ C fid G H w)(aL:fh C fid vars G w ae ρ){a b:Operand}{t u e e':TypeId}{n:Nat}{args:Array Operand}{ts:Array TypeId}(ho:o.op=.call {callee:=.builtin .copy,args,argTypes:=ts})
  (ao:args= #[a,b]) (ht:ts= #[t,u]) {nz j4:ag} (h1:C.b3 vars a=some nz) (h2:C.b3 vars b=some j4) (hd:C.P.underlying t=some (.slice e)) (hn:C.sizeOf e=some n)
  (he:step ae H low (.copy n nz j4)=some (v,H',low')):dj C fid G H w low ((execOp ρ o).run C.P w) v H' low':=by
 subst ao;subst ht;have hx:=aL a nz h1;have hy:=aL b j4 h2
 have cr:(execOp ρ o).run C.P w=((Builtin.copy_ #[t,u] o.type #[ρ a,ρ b]).run C.P w).andThen fun z w'=>.ok (.value z) w':=by
  rw[x4 ho];simp only[builtin,Sem.run_bind,Ko,eo,mT];rfl
 have zero:∀base,(∃xs,elems H n (ae j4)=some xs)->ρ a=.slice base 0 0->dj C fid G H w low ((execOp ρ o).run C.P w) (.int .i64 0) H low:=by
  rintro base ⟨xs,eQ⟩ hs;obtain⟨x6,Gp,CL,Gq⟩:=Gm U hy eQ;refine .same U (x:=.int .i64 0) ?_ (.p _ _ (.int _ _));rw[cr,hs,CL];cases x6<;>cases base<;>simp[Builtin.copy_,run_underlying hd,Builtin.lenOf,Builtin.firstCells,loadCells,loadCellsFrom,x2 (C:=C) hn,storeCells,goInt]
 simp only[step]at he;split at he
 ·rename_i xs af eQ
  simp only[az,bt]at he;obtain⟨rfl,rfl,rfl⟩:=he;rw[af]at hx;exact zero _ ⟨_,eQ⟩ hx.j0
 ·rename_i xs af eQ
  simp only[az,bt]at he;obtain⟨rfl,rfl,rfl⟩:=he;rw[af]at hx;obtain⟨dc,eg⟩:=hx.rI;exact zero _ ⟨_,eQ⟩ eg
 ·rename_i l bD off len tag xs af eQ
  split at he
  ·rename_i eX ds hl
   split at he
   ·rename_i ep
    obtain⟨rfl,rfl,fR,qH,jG⟩:=ep;simp only[az,bt]at he;obtain⟨rfl,rfl,rfl⟩:=he;rw[af]at hx;obtain⟨x6,Gp,CL,Gq⟩:=Gm U hy eQ;obtain⟨h0,dc,cJ,cap,cY,rH,jF,eg⟩:=hx.pA;obtain⟨aP,eM,hr⟩:=U.obj l h0 cY;rw[hl]at eM;cases eM;obtain⟨CN,Sd,hfz,fa,mW,c,uJ,kB,rest,hc,fS,kU,fg⟩:=hr;obtain⟨rfl,rfl,-,-⟩:=jF (CN.trans fR)
    have key:∃dd,(Builtin.firstCells eX (Nat.min xs.length cJ) (.slice x6 xs.length Gp)).run C.P w=.ok dd.toArray w/\aY fid G w ((xs.take cJ).flatMap aE) dd/\((xs.take cJ).flatMap aE).length=(xs.take cJ).length*eX/\∀d∈xs.take cJ,(aE d).length=eX:=by
     by_cases bf:xs=[]
     ·subst bf
      refine⟨[],?_,by simpa using aY.nil,by simp,by simp⟩;cases x6<;>simp[Builtin.firstCells,loadCells,loadCellsFrom]
     ·obtain⟨As,o',vals,rfl,xX,oW,nw⟩:=Gq bf
      have s0:∀d∈xs.take cJ,(aE d).length=eX:=fun d hd=>nw d (zP hd);refine⟨vals.take (cJ*eX),?_,by rw[Ag nw];exact oW.take _,nv s0,s0⟩;have lX:vals.length=xs.length*eX:=by rw[oW.length,nv nw]
      have e2:(vals.take (cJ*eX)).length=Nat.min xs.length cJ*eX:=by
       rw[sM,lX,Nat.mul_min_mul_right,Nat.min_comm]
      have:=run_loadCells_list (P:=C.P) w ⟨As,o',none⟩ (vals.take (cJ*eX)) (fun j v hj=>by rw[Addr.add_lit];exact(xX.take _) j v hj);rw[e2]at this;exact this
    obtain⟨dd,Sf,Gr,Lp,adf⟩:=key
    have bx:∀x∈dd,x.oneCell'=true:=by
     refine Gf Gr (K0 ?_);have:lQ ((xs.take cJ++xs.drop cJ).flatMap aE)=true:=by rw[B7];exact jG
     rw[Kk,Se,b8]at this;exact this.1
    have Am:=Gr.length;have jH:(xs.take cJ).length=min cJ xs.length:=by simp
    have kW:ds.length=tag:=fR;have hmul:(off+min cJ xs.length)*eX<=ds.length*eX:=Ki _ (by have:=jU cJ xs.length;omega);rw[rC]at hmul;have asK:kB.length=ds.length*eX:=by rw[fg.length,nv mW]
    have hG:c.size=kB.length+rest.length:=by rw[<-hB,kU,gM]
    have cd:=run_storeCells_at C.P h0.b (off*eX) uJ dd 0 c w hc (by rw[Am,Lp,jH];omega) bx
    obtain⟨G',bA,b9⟩:=RR U cY hl (ds':=ds.take off++xs.take cJ++ds.drop (off+min cJ xs.length)) (by simp only[gM,sM,sN];omega)
     (fun d hd=>by
       rcases jA.1 hd with q|q
       ·rcases jA.1 q with q|q
        ·exact mW d (zP q)
        ·exact adf d q
       ·exact mW d (B8 q)) (o:=off*eX) Gr (by rw[Lp,jH];omega)
     (fun vals ad=>by
       rw[Kk,Kk,Ag mW,xT mW,Am,Lp,jH,<-rC];exact((ad.take _).append Gr).append (ad.drop _)) hc
    refine⟨_,_,G',.inl ?_,bA,fun m hm=>b9.le (cV hm (qt _ _)) (aK _),.p _ _ (.int _ _),jU _ _,by simp⟩;rw[cr,eg,CL];simp only[zW]at cd;have uD:xs.length.min cJ=min cJ xs.length:=Nat.min_comm _ _;rw[uD]at Sf;simp[Builtin.copy_,run_underlying hd,Builtin.lenOf,x2 (C:=C) hn,uD,Sf,cd,goInt]
   ·cases he
  ·cases he
 ·cases he
theorem s4{k:TypeId}{bK:Nat}(cW:C.jd k=some bK)(em:Bool)(n:Nat)(x:Value):(Instr.checkKey em (n+1) k x).run C.P w=.ok () w:=by
 unfold Ctx.jd at cW;unfold Instr.checkKey;split at cW<;>rename_i hd<;>first|(cases cW;done)|(rw[Sem.run_bind,run_underlying hd];rfl)
theorem wC{k:TypeId}{bK:Nat}{d:TypeDesc}(cW:C.jd k=some bK)(hd:C.P.underlying k=some d){a b:V}{e:Bool}{x y:Value}(ao:a8 fid G w a x)(hb:a8 fid G w b y)(he:ix bK a b=some e):
  Instr.sameNow d x y=some e/\(e=true->Instr.sameBits 10000 y x=true):=by
 unfold Ctx.jd at cW;rw[hd]at cW;unfold ix at he;split at he
 ·split at he
  ·rename_i CA
   simp only[az]at he;subst he;subst CA;rw[ao.jE,hb.jE];cases d<;>simp at cW;refine⟨by simp[Instr.sameNow],fun h=> ?_⟩;simp at h;subst h;simp[Instr.sameBits]
  ·cases he
 ·simp only[az]at he;subst he
  rw[ao.oS,hb.oS];cases d<;>simp at cW;refine⟨by simp[Instr.sameNow,beq_toListBytes,ByteArray.toList_eq],fun h=> ?_⟩;simp at h;subst h;simp[Instr.sameBits,beq_toListBytes,ByteArray.toList_eq]
 ·simp only[az]at he;subst he
  rw[ao.kz,hb.kz];cases d<;>simp at cW;refine⟨by simp[Instr.sameNow],fun h=> ?_⟩;simp at h;subst h;simp[Instr.sameBits]
 ·cases he
theorem qK{k:TypeId}{bK:Nat}{d:TypeDesc}(cW:C.jd k=some bK)(hd:C.P.underlying k=some d){a:V}{x:Value}(ao:a8 fid G w a x):∀{bb:List (V × V)} {es:List MapEntry} (i:Nat) {r:Option V},
  aY fid G w (bb.map (·.1)) (es.map (·.key))->aY fid G w (bb.map (·.2)) (es.map (·.val))->h4 bK a bb=some r->
  match r with
  |none=>Instr.findNow d x es i=some none
  |some u=>∃j y,Instr.findNow d x es i=some (some (i+j,y))/\a8 fid G w u y/\(∃e,es[j]? =some e/\Instr.sameBits 10000 e.key x=true)
 |[],[],i,r,_,_,h=>by
  simp only[h4,az]at h;subst h;rfl
 |[],_::_,_,_,h,_,_=>by simp at h;cases h
 | _::_,[],_,_,h,_,_=>by simp at h;cases h
 |(bp,u)::bb,e::es,i,r,ef,cS,h=>by
  simp only[eo]at ef cS;cases ef with
  |cons _ _ _ _ il ef=>
   cases cS with
   |cons _ _ _ _ qJ cS=>
    simp only[h4]at h;split at h
    ·rename_i he
     simp only[az]at h;subst h;obtain⟨hs,hb⟩:=wC cW hd ao il he;exact⟨0,e.val,by simp[Instr.findNow,hs],qJ,e,rfl,hb rfl⟩
    ·rename_i he
     obtain⟨hs,-⟩:=wC cW hd ao il he;have ih:=qK cW hd ao (i+1) ef cS h;cases r with
     |none=>simpa[Instr.findNow,hs]using ih
     |some u'=>
      obtain⟨j,y,h1,h2,e',ar,aQ⟩:=ih;refine⟨j+1,y,?_,h2,e',by simpa using ar,aQ⟩;have:i+(j+1)=i+1+j:=by omega
      rw[this];simpa[Instr.findNow,hs]using h1
    ·cases h
theorem uK{k:TypeId}{d:TypeDesc}(hd:C.P.underlying k=some d){x:Value}{es:List MapEntry}{r:Option (Nat × Value)}(h:Instr.findNow d x es 0=some r):(Instr.findKey k x es).run C.P w=.ok r w:=by
 unfold Instr.findKey;simp only[Sem.run_bind,run_underlying hd,Result.andThen_ok,h,Sem.run_pure]
theorem Gs{k:TypeId}{bK:Nat}(cW:C.jd k=some bK):∃d,C.P.underlying k=some d:=by
 unfold Ctx.jd at cW;split at cW<;>rename_i hd<;>first|exact⟨_,hd⟩|cases cW
theorem adg{t:TypeId}{z:V}(aT:C.zeroV t=some z)(hu:ui z=false):∃cE,(∀w,(zeroValue t).run C.P w=.ok cE w)/\∀(G:bX) (w:World),a8 fid G w z cE:=by
 unfold Ctx.zeroV at aT;split at aT
 ·rename_i i hi
  split at aT
  ·rename_i cE An
   refine⟨cE,fun w=> ?_,fun G w=>.p _ _ ((Cw cE aT).resolve_left (by rintro rfl;simp[ui]at hu))⟩;simp only[zeroValue,Sem.run_bind,run_typeInfo (P:=C.P) w hi,Result.andThen_ok,An,Sem.run_pure]
  ·cases aT
 ·cases aT
theorem wD{r:Nat}{es:Array MapEntry}{bE:Nat}(h:w.heap[r]? =some (.map es bE)):(getObj r).run C.P w=.ok (.map es bE) w:=by simp[getObj,Sem.run,h]
theorem Av{r:Nat}{es:Array MapEntry}{bE:Nat}(o:Obj)(h:w.heap[r]? =some (.map es bE)):(setObj r o).run C.P w=.ok () {w with heap:=w.heap.setIfInBounds r o}:=by simp[setObj,Sem.run,h]
theorem adh (U:aZ C fid G H w)(aL:fh C fid vars G w ae ρ){t:TypeId}{x i:Operand}{ok:Bool}(ho:o.op=.lookup t x i ok)(hc:C.cI vars pos o.op=some c8)(he:step ae H low c8=some (v,H',low')):
  dj C fid G H w low ((execOp ρ o).run C.P w) v H' low':=by
 rw[ho]at hc;simp only[Ctx.cI]at hc;split at hc
 ·rename_i k e cv ij hd h1 h2
  split at hc
  ·rename_i bK z gp aT
   split at hc
   ·cases hc
   ·rename_i adi
    simp only[az]at hc;subst hc;have hx:=aL x cv h1;have hi:=aL i ij h2;obtain⟨cE,ny,n9⟩:=adg (fid:=fid) aT (by simpa using adi);obtain⟨Gt,iP⟩:=Gs gp
    have cr:(execOp ρ o).run C.P w=((Instr.lookup t (ρ x) (ρ i) ok).run C.P w).andThen fun z w'=>.ok (.value z) w':=by
     unfold execOp;rw[ho];simp only[Sem.run_bind];rfl
    have res:∀(u:V) (y:Value) (b:Bool),a8 fid G w u y->a8 fid G w (if ok then .aU [u,.bool b]else u) (if ok then .tuple #[y,.bool b]else y):=by
     intro u y b h;cases ok
     ·exact h
     ·exact .aU _ [y,.bool b] (.cons _ _ _ _ h (.cons _ _ _ _ (.p _ _ (.bool _)) .nil))
    simp only[step]at he;split at he
    ·rename_i af
     simp only[az,bt]at he;obtain⟨rfl,rfl,rfl⟩:=he;rw[af]at hx;refine .same U ?_ (res z cE false (n9 G w));rw[cr,hx.K3];unfold Instr.lookup;have ab:=uK (C:=C) (w:=w) iP (x:=ρ i) (es:=[]) (r:=none) rfl;simp only[Sem.run_bind,run_underlying hd,Result.andThen_ok,Sem.run_pure,s4 gp,ab,ny]
    ·rename_i l af
     rw[af]at hx;obtain⟨h0,cY,-,eg⟩:=hx.mapInv;split at he
     ·rename_i bb hl
      obtain⟨aP,eM,hr⟩:=U.obj l h0 cY;rw[hl]at eM;cases eM;obtain⟨-,-,es,bE,hm,il,CH,-⟩:=hr;split at he
      ·rename_i u iE
       simp only[az,bt]at he;obtain⟨rfl,rfl,rfl⟩:=he;obtain⟨j,y,ab,fg,-⟩:=qK gp iP hi 0 il CH iE;refine .same U ?_ (res u y true fg);rw[cr,eg];unfold Instr.lookup;simp only[Sem.run_bind,run_underlying hd,Result.andThen_ok,Sem.run_pure,wD hm,s4 gp,uK (C:=C) iP ab]
      ·rename_i iE
       simp only[az,bt]at he;obtain⟨rfl,rfl,rfl⟩:=he;have ab:=qK gp iP hi 0 il CH iE;refine .same U ?_ (res z cE false (n9 G w));rw[cr,eg];unfold Instr.lookup;simp only[Sem.run_bind,run_underlying hd,Result.andThen_ok,Sem.run_pure,wD hm,s4 gp,uK (C:=C) iP ab,ny]
      ·cases he
     ·cases he
    ·cases he
  ·cases hc
 ·cases hc
theorem Lq{bK:Nat}{k u:V}:∀{bb:List (V × V)},h4 bK k bb=some none->ld bK k u bb=bb++[(k,u)]
 |[],_=>rfl
 |(bp,v)::r,h=>by
  simp only[h4]at h;split at h
  ·cases h
  ·rename_i he
   simp[ld,he,Lq h]
  ·cases h
theorem Sg{k:TypeId}{bK:Nat}{d:TypeDesc}(cW:C.jd k=some bK)(hd:C.P.underlying k=some d){a:V}{x:Value}(ao:a8 fid G w a x){u:V}{y:Value}(hu:a8 fid G w u y):∀{bb:List (V × V)} {es:List MapEntry} (i:Nat) {r:V} {j:Nat} {z:Value},
  aY fid G w (bb.map (·.1)) (es.map (·.key))->aY fid G w (bb.map (·.2)) (es.map (·.val))->h4 bK a bb=some (some r)->Instr.findNow d x es i=some (some (i+j,z))->
  aY fid G w ((ld bK a u bb).map (·.1)) ((es.modify j fun e=>{e with key:=x,val:=y}).map (·.key))/\aY fid G w ((ld bK a u bb).map (·.2)) ((es.modify j fun e=>{e with key:=x,val:=y}).map (·.val))
 |[],[],i,r,j,z,_,_,h,_=>by simp[h4]at h
 |[],_::_,_,_,_,_,h,_,_,_=>by simp at h;cases h
 | _::_,[],_,_,_,_,h,_,_,_=>by simp at h;cases h
 |(bp,u')::bb,e::es,i,r,j,z,ef,cS,h,ab=>by
  simp only[eo]at ef cS;cases ef with
  |cons _ _ _ _ il ef=>
   cases cS with
   |cons _ _ _ _ qJ cS=>
    simp only[h4]at h;split at h
    ·rename_i he
     obtain⟨hs,-⟩:=wC cW hd ao il he;simp only[Instr.findNow,hs,az,bt]at ab;obtain rfl:j=0:=by omega
     simp only[ld,he,if_true,eo,List.modify_zero_cons];exact⟨.cons _ _ _ _ ao ef,.cons _ _ _ _ hu cS⟩
    ·rename_i he
     obtain⟨hs,-⟩:=wC cW hd ao il he;simp only[Instr.findNow,hs]at ab;have im:=qK cW hd ao (i+1) ef cS h;obtain⟨uL,n8,h1,-,-⟩:=im;rw[h1]at ab;simp only[az,bt]at ab;obtain⟨hj,rfl⟩:=ab;obtain rfl:j=uL+1:=by omega
     have ih:=Sg cW hd ao hu (i+1) ef cS h h1;have bf:¬(ix bK a bp=some true):=by rw[he];simp
     simp only[ld,bf,if_false,eo,List.modify_succ_cons];exact⟨.cons _ _ _ _ il ih.1,.cons _ _ _ _ qJ ih.2⟩
    ·cases h
theorem n0.push{es:Array MapEntry}{bE:Nat}(h:n0 es bE)(x y:Value):n0 (es.push {key:=x,val:=y,born:=bE}) (bE+1):=by
 refine⟨fun e he=> ?_,?_⟩
 ·rw[QQ,jA]at he
  rcases he with he|he
  ·exact Cc (h.1 e he)
  ·rw[FI]at he;subst he;exact wh _
 ·rw[QQ,nW,FM]
  refine⟨h.2,by simp,fun a ao b hb=> ?_⟩;simp only[eo,mT,FI]at hb;subst hb;obtain⟨e,he,rfl⟩:=ey.1 ao;exact oH (h.1 e he)
theorem Sh (x y:Value):∀(l:List MapEntry) (j:Nat),(l.modify j fun e=>{e with key:=x,val:=y}).map (·.born)=l.map (·.born)
 |[],j=>by cases j<;>simp
 |e::l,0=>by simp
 |e::l,j+1=>by simp[Sh x y l j]
theorem n0.modify{es:Array MapEntry}{bE:Nat}(h:n0 es bE)(j:Nat)(x y:Value):n0 (es.modify j fun e=>{e with key:=x,val:=y}) bE:=by
 have af:(es.modify j fun e=>{e with key:=x,val:=y}).toList.map (·.born)=es.toList.map (·.born):=by
  rw[Array.toList_modify];exact Sh x y _ j
 refine⟨fun e he=> ?_,by rw[af];exact h.2⟩;have:e.born∈es.toList.map (·.born):=by rw[<-af];exact ey.2 ⟨e,he,rfl⟩
 obtain⟨e',he',q⟩:=ey.1 this;rw[<-q];exact h.1 e' he'
theorem Si (U:aZ C fid G H w)(aL:fh C fid vars G w ae ρ){t:TypeId}{m k x:Operand}(ho:o.op=.mapUpdate t m k x\/o.op=.insert t m k x)(hc:C.cI vars pos o.op=some c8)(he:step ae H low c8=some (v,H',low')):
  dj C fid G H w low ((execOp ρ o).run C.P w) v H' low':=by
 have hc:C.cI vars pos (.mapUpdate t m k x)=some c8:=by
  rcases ho with ho|ho
  ·rw[ho]at hc;exact hc
  ·rw[ho]at hc;exact hc
 simp only[Ctx.cI]at hc;split at hc
 ·rename_i ei rO am gX cv hd h1 h2 ar
  obtain⟨bK,gp,rfl⟩:=ct.1 hc;have hm:=aL m am h1;have cW:=aL k gX h2;have hx:=aL x cv ar;obtain⟨Gt,iP⟩:=Gs gp
  have cr:(execOp ρ o).run C.P w=((Instr.mapUpdate t (ρ m) (ρ k) (ρ x)).run C.P w).andThen fun _ w'=>.ok .skip w':=by
   unfold execOp;rcases ho with ho|ho<;>(rw[ho];simp only[Sem.run_bind];rfl)
  simp only[step]at he;split at he
  ·rename_i u' H1 bI hfz
   split at he
   ·cases he
   ·rename_i mW
    obtain⟨ay,f1,cq⟩:=Gc U hx hfz;have gO:=f1.rel;have Gu:=f1.ext 0 (cx _);have l2:=hm.ext U Gu;have il:=cW.ext U Gu;refine dj.Aj f1 ?_;split at he
    ·rename_i l af
     rw[af]at l2;obtain⟨h0,cY,Sj,eg⟩:=l2.mapInv;split at he
     ·rename_i bb hl
      obtain⟨aP,eM,hr⟩:=gO.obj l h0 cY;rw[hl]at eM;cases eM;obtain⟨oY,jh,es,bE,eB,ef,cS,cd⟩:=hr;split at he
      ·rename_i bM iE
       simp only[az,bt]at he;obtain⟨rfl,rfl,rfl⟩:=he;have aX:h0.b<w.heap.size:=gO.blk l h0 cY
       have fin:∀(s5:Obj) (bD:Array MapEntry) (rP:Nat),s5=.map bD rP->(Instr.mapUpdate t (ρ m) (ρ k) (ρ x)).run C.P w=.ok () {w with heap:=w.heap.setIfInBounds h0.b s5}->
         aY fid ay w ((ld bK (ae gX) u' bb).map (·.1)) (bD.toList.map (·.key))->aY fid ay w ((ld bK (ae gX) u' bb).map (·.2)) (bD.toList.map (·.val))->n0 bD rP->
         dj C fid ay H1 w bI ((execOp ρ o).run C.P w) .undef (H1.set l (.map (ld bK (ae gX) u' bb))) (min bI l):=by
        rintro s5 bD rP rfl pI wE x8 x9
        have uM:∀b,b≠h0.b->({w with heap:=w.heap.setIfInBounds h0.b (.map bD rP)}:World).heap[b]? =w.heap[b]? :=fun b bf=>by
         show(w.heap.setIfInBounds h0.b _)[b]? =_;rw[QC (kp bf)]
        have Aw:({w with heap:=w.heap.setIfInBounds h0.b (.map bD rP)}:World).heap[h0.b]? =some (.map bD rP):=by
         show(w.heap.setIfInBounds h0.b _)[h0.b]? =_;simp[aX]
        have dJ:({w with heap:=w.heap.setIfInBounds h0.b (.map bD rP)}:World).heap.size=w.heap.size:=by simp
        have dW:Ext ay w ⟨ck ay.β l h0,ay.I⟩ {w with heap:=w.heap.setIfInBounds h0.b (.map bD rP)} l H1.length:=
         Ext.write gO cY jh rfl (aK _) id rfl dJ uM rfl rfl
        refine⟨undef,_,_,.inr ⟨by rw[cr,pI];rfl,rfl⟩,aZ.write gO cY jh rfl jh (aK _) id rfl dJ uM (.map (ld bK (ae gX) u' bb)) ⟨oY,jh,bD,rP,Aw,wE.ext gO dW,x8.ext gO dW,x9⟩,
         fun m hm=>dW.le (cV hm (qt _ _)) (aK _),.undef _,jU _ _,by simp⟩
       cases bM with
       |none=>
        have ab:=qK gp iP il 0 ef cS iE;refine fin _ (es.push {key:=ρ k,val:=ρ x,born:=bE}) (bE+1) rfl ?_ ?_ ?_ (cd.push _ _)
        ·unfold Instr.mapUpdate
         simp only[eg,Sem.run_bind,run_underlying hd,Result.andThen_ok,wD eB,s4 gp,uK (C:=C) iP ab,Av _ eB]
        ·rw[Lq iE]
         simp only[nW,eo,mT,QQ];exact ef.append (.cons _ _ _ _ il .nil)
        ·rw[Lq iE]
         simp only[nW,eo,mT,QQ];exact cS.append (.cons _ _ _ _ cq .nil)
       |some r=>
        obtain⟨j,y,ab,-,adj,adk,adl⟩:=qK gp iP il 0 ef cS iE;obtain⟨s1,s2⟩:=Sg gp iP il cq 0 ef cS iE ab;rw[eO]at ab;refine fin _ (es.modify j fun e=>{e with key:=ρ k,val:=ρ x}) bE rfl ?_ (by simpa using s1) (by simpa using s2) (cd.modify _ _ _);have adm:es[j]? =some adj:=by rw[<-auF];exact adk
        unfold Instr.mapUpdate;simp only[eg,Sem.run_bind,run_underlying hd,Result.andThen_ok,wD eB,s4 gp,uK (C:=C) iP ab,adm,pq,sO,Instr.keyThatStays,adl,if_true,Sem.run_pure,Av _ eB]
      ·cases he
     ·cases he
    ·cases he
  ·cases he
 ·cases hc
end Go.Abs
