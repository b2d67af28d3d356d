/- Texts of this claim, joined and written short by a program. -/
import Derived.Test.YtgkcikhegodchaaGreatDoorS03
import Derived.Laws.Append
import Derived.Test.YtgkcikhegodchaaGreatDoorS00
set_option linter.unusedVariables false
set_option linter.unusedSimpArgs false
set_option linter.unusedSectionVars false
namespace Go.Abs
open Go
variable{C:Ctx}{fid:Nat->Nat}{w w':World}{G G':bT}{H:Heap}
variable{vars:List Nat}{ag:ai->V}{ρ:Operand->Value}{low low':Nat}{v:V}{H':Heap}{pos:String}{df:cN}{o:Oper}
theorem Uo (off:Nat):∀(c1:List Value) (k:Nat) (cells:Array Value),off+k+c1.length<=cells.size->
  ((c1.zipIdx k).foldl (fun(cs:Array Value) (p:Value × Nat)=>cs.setIfInBounds (off+p.2) p.1) cells).toList=cells.toList.take (off+k)++c1++cells.toList.drop (off+k+c1.length)
 |[],k,cells,_=>by simp
 |z::c1,k,cells,h=>by
  simp only[fl]at h;rw[List.zipIdx_cons,ot,Uo off c1 (k+1) _ (by simp;omega)];have e:=list_seg_step cells.toList (off+k) z c1 (by simp;omega);rw[fl];simpa[Array.toList_setIfInBounds,qy]using e
theorem Up{place:Nat->Option (Nat × Nat)}{cells:Array Value}{i:Nat}{x:Value}{rest:List (Nat × Value)}{off n:Nat}(hp:place i=some (off,n))(hs:x.cells.size=n)(hN:off+n<=cells.size):
  ∃rS,Instr.fill place cells ((i,x)::rest)=Instr.fill place rS rest/\rS.toList=cells.toList.take off++x.cells.toList++cells.toList.drop (off+x.cells.toList.length):=by
 refine⟨x.cells.zipIdx.foldl (fun cs (c,j)=>cs.setIfInBounds (off+j) c) cells,?_,?_⟩
 ·have:¬(x.cells.size≠n||decide (off+x.cells.size>cells.size))=true:=by simp;omega
  simp only[Instr.fill,hp];rw[if_neg (by simpa using this)]
 ·rw[<-S1,Array.toList_zipIdx]
  have:=Uo off x.cells.toList 0 cells (by simp;omega);simpa using this
theorem Uq{place:Nat->Option (Nat × Nat)}:∀{ps:List (Nat × Value)} {aQ:List (Nat × Nat × V)} {cs cs':List V} {cells:Array Value},ps.length=aQ.length->
  (∀(j:Nat) p a,ps[j]? =some p->aQ[j]? =some a->place p.1=some (a.1,a.2.1)/\bd fid G w a.2.2 p.2)->a1 fid G w cs cells.toList->sJ cs aQ=some cs'->
  ∃rS,Instr.fill place cells ps=some rS/\a1 fid G w cs' rS.toList
 |[],[],cs,cs',cells,_,_,af,h=>by
  simp only[sJ,aA]at h;subst h;exact⟨cells,rfl,af⟩
 |[],_::_,_,_,_,hl,_,_,_=>by simp at hl
 | _::_,[],_,_,_,hl,_,_,_=>by simp at hl
 |(i,x)::ps,(off,n,u)::aQ,cs,cs',cells,hl,hp,af,h=>by
  simp only[sJ]at h;split at h
  ·rename_i hc
   obtain⟨BN,xw⟩:=hp 0 _ _ rfl rfl;obtain⟨bB,b4⟩:=BG xw hc.2.2;have fe:=af.length;have ly:=bB.length;have eC:x.cells.size=n:=by rw[<-fC];simp only at ly;rw[ly,hc.1]
   obtain⟨Nv,ab,aj⟩:=Up (rest:=ps) BN eC (by rw[<-fC,fe];exact hc.2.1);have qL:a1 fid G w (setCells cs off (aE u)) Nv.toList:=by rw[aj];exact D9 off af bB (by rw[hc.1];exact hc.2.1)
   obtain⟨rS,bC,cu⟩:=Uq (by simpa using hl) (fun j p a h1 h2=>hp (j+1) p a (by simpa using h1) (by simpa using h2)) qL h;exact⟨rS,by rw[ab,bC],cu⟩
  ·cases h
theorem ahg:∀(xs cs:List V),xs.length=cs.length->setCells cs 0 xs=xs:=by
 have key:∀(xs a b:List V),xs.length=b.length->setCells (a++b) a.length xs=a++xs:=by
  intro xs
  induction xs with
  |nil=>intro a b h;cases b<;>simp_all [setCells]
  |cons x xs ih=>
   intro a b h;cases b with
   |nil=>simp at h
   |cons y b=>
    have:=ih (a++[x]) b (by simpa using h);simp only[setCells];simpa using this
 intro xs cs h;simpa using key xs [] cs h
theorem Ur{es:Nat}:∀{ps:List (Nat × Value)} {aQ:List (Nat × V)} {ds ds':List V} {cells:Array Value},ps.length=aQ.length->
  (∀(j:Nat) p a,ps[j]? =some p->aQ[j]? =some a->p.1=a.1/\bd fid G w a.2 p.2)->(∀d∈ds,(aE d).length=es)->a1 fid G w (ds.flatMap aE) cells.toList->pT es ds aQ=some ds'->
  ∃rS,Instr.fill (fun i=>some (i*es,es)) cells ps=some rS/\a1 fid G w (ds'.flatMap aE) rS.toList/\(∀d∈ds',(aE d).length=es)/\ds'.length=ds.length
 |[],[],ds,ds',cells,_,_,hu,af,h=>by
  simp only[pT,aA]at h;subst h;exact⟨cells,rfl,af,hu,rfl⟩
 |[],_::_,_,_,_,hl,_,_,_,_=>by simp at hl
 | _::_,[],_,_,_,hl,_,_,_,_=>by simp at hl
 |(i,x)::ps,(Bn,u)::aQ,ds,ds',cells,hl,hp,hu,af,h=>by
  simp only[pT]at h;split at h
  ·rename_i hc
   obtain⟨BN,xw⟩:=hp 0 _ _ rfl rfl;simp only at BN xw;subst BN;obtain⟨bB,b4⟩:=BG xw hc.2.2;have fe:=af.length;have lu:=mV hu;have ly:=bB.length;have eC:x.cells.size=es:=by rw[<-fC,ly,hc.1]
   have hi:i*es+es<=ds.length*es:=by
    have:(i+1)*es<=ds.length*es:=HH _ hc.2.1;rw[yG]at this;exact this
   obtain⟨Nv,ab,aj⟩:=Up (place:=fun i=>some (i*es,es)) (cells:=cells) (rest:=ps) (i:=i) rfl eC (by rw[<-fC,fe];omega);obtain⟨d,hd⟩:∃d,ds[i]? =some d:=⟨_,gq hc.2.1⟩;have rL:=Nb hu hd (d':=u) (f:=0) (xs:=aE u) (by rw[hc.1];omega) (ahg _ _ (by rw[hc.1,hu d (gV hd)])).symm;rw[yH]at rL;have qL:a1 fid G w ((ds.set i u).flatMap aE) Nv.toList:=by rw[aj,rL];exact D9 _ af bB (by rw[hc.1];omega)
   obtain⟨rS,bC,cu,dv,gY⟩:=Ur (by simpa using hl) (fun j p a h1 h2=>hp (j+1) p a (by simpa using h1) (by simpa using h2))
    (fun a ha=>by rcases List.mem_or_eq_of_mem_set ha with q|rfl;exact hu a q;exact hc.1) qL h
   exact⟨rS,by rw[ab,bC],cu,dv,by rw[gY];simp⟩
  ·cases h
theorem Us{α β:Type}(f:α->Sem β)(g:α->β):∀(l:List α),(∀a∈l,∀w,(f a).run C.P w=.ok (g a) w)->(l.mapM f).run C.P w=.ok (l.map g) w
 |[],_=>by simp
 |a::l,h=>by
  rw[List.mapM_cons,Sem.run_bind,h a (by simp),Result.andThen_ok,Sem.run_bind,Us f g l (fun b hb=>h b (by simp[hb])),Result.andThen_ok,Sem.run_pure];rfl
theorem ahh{α β:Type}(f:α->Sem β)(g:α->β)(l:Array α)(h:∀a∈l.toList,∀w,(f a).run C.P w=.ok (g a) w):(l.mapM f).run C.P w=.ok (l.map g) w:=by
 rw[Array.mapM_eq_mapM_toList,Sem.run_map,Us f g _ h,Result.andThen_ok];congr 1;apply Array.ext';simp
theorem Ei{t:TypeId}{z:List V}(aO:C.zeroCells t=some z):∃cv,(∀w,(zeroValue t).run C.P w=.ok cv w)/\(∀(G:bT) (w:World),a1 fid G w z cv.cells.toList)/\bM z=true/\
  ∃i,C.P.info? t=some i/\i.zero=some cv:=by
 unfold Ctx.zeroCells at aO;split at aO
 ·rename_i i hi
  split at aO
  ·rename_i cv BJ
   split at aO
   ·rename_i vs cW
    split at aO
    ·rename_i bh
     simp only[aA]at aO;subst aO;refine⟨cv,fun w=> ?_,fun G w=>c8.ov (D6 _ cW),bh,i,hi,BJ⟩;simp only[zeroValue,Sem.run_bind,run_typeInfo (P:=C.P) w hi,Result.andThen_ok,BJ,Sem.run_pure]
    ·cases aO
   ·cases aO
  ·cases aO
 ·cases aO
theorem vr{α β:Type}(f:α->Option β):∀{l:List α} {r:List β},dF f l=some r->r.length=l.length
 |[],_,h=>by simp only[dF,aA]at h;subst h;rfl
 |a::l,_,h=>by
  simp only[dF]at h;split at h
  ·split at h
   ·rename_i aH Ej
    simp only[aA]at h;subst h;simp[vr f Ej]
   ·cases h
  ·cases h
theorem vt{α β:Type}(f:α->Option β):∀{l:List α} {r:List β},dF f l=some r->∀{j:Nat} {a:α} {b:β},l[j]? =some a->r[j]? =some b->f a=some b
 |[],_,h,j,a,b,h1,_=>by simp at h1
 |a::l,_,h,j,a8,eA,h1,h2=>by
  simp only[dF]at h;split at h
  ·rename_i b hb
   split at h
   ·rename_i aH Ej
    simp only[aA]at h;subst h;cases j with
    |zero=>simp at h1 h2;subst h1;subst h2;exact hb
    |succ j=>exact vt f Ej (by simpa using h1) (by simpa using h2)
   ·cases h
  ·cases h
theorem ahi (U:aX C fid G H w)(aN:fr C fid vars G w ag ρ){t:TypeId}{parts:Array (Nat × Operand)}(ho:o.op=.build t parts)(hc:C.cO vars pos o.op=some df)(he:step ag H low df=some (v,H',low')):
  c3 C fid G H w low ((execOp ρ o).run C.P w) v H' low':=by
 rw[ho]at hc
 have cc:(execOp ρ o).run C.P w=((Instr.build t (parts.map fun(i,x)=>(i,ρ x))).run C.P w).andThen fun z w'=>.ok (.value z) w':=by
  unfold execOp;rw[ho];simp only[Sem.run_bind];rfl
 have main:∀(z:List V) (ap:List (Nat × Nat × ai)) (place:Nat->Option (Nat × Nat)),C.zeroCells t=some z->ap.length=parts.toList.length->
   (∀(j:Nat) p a,parts.toList[j]? =some p->ap[j]? =some a->place p.1=some (a.1,a.2.1)/\C.b5 vars p.2=some a.2.2)->
   (∀(cv:Value) (w:World),(∀w,(zeroValue t).run C.P w=.ok cv w)->∀cells,Instr.fill place cv.cells (parts.toList.map fun(i,x)=>(i,ρ x))=some cells->
     (Instr.build t (parts.map fun(i,x)=>(i,ρ x))).run C.P w=.ok (.agg cells) w)->
   step ag H low (.build z ap)=some (v,H',low')->c3 C fid G H w low ((execOp ρ o).run C.P w) v H' low':=by
  intro z ap place aO hlen jg hb he;obtain⟨cv,oz,oA,bh,-⟩:=Ei (fid:=fid) aO;simp only[step]at he;obtain⟨cs,fq,he⟩:=cj.1 he;simp only[bq]at he;obtain⟨rfl,rfl,rfl⟩:=he
  obtain⟨cells,ab,aj⟩:=Uq (fid:=fid) (G:=G) (w:=w) (place:=place) (ps:=parts.toList.map fun(i,x)=>(i,ρ x)) (aQ:=ap.map fun p=>(p.1,p.2.1,ag p.2.2))
   (by simp[hlen]) (fun j p a h1 h2=>by
     simp only[h8,cj]at h1 h2;obtain⟨y5,p4,rfl⟩:=h1;obtain⟨a8,gJ,rfl⟩:=h2;exact⟨(jg j y5 a8 p4 gJ).1,aN _ _ (jg j y5 a8 p4 gJ).2⟩) (oA G w) fq
  refine c3.same U (x:=.agg cells) ?_ (.agg _ cells.toList aj);rw[cc,hb cv w oz cells ab];rfl
 simp only[Ctx.cO]at hc;split at hc
 ·rename_i fs z hd aO
  split at hc
  ·cases hc
  ·rename_i eP
   obtain⟨ap,mo,rfl⟩:=cj.1 hc
   have dk:∀f∈fs.toList,∃n,C.sizeOf f.type=some n:=by
    intro f ae;cases bg:C.sizeOf f.type with
    |some n=>exact⟨n,rfl⟩
    |none=>exact absurd (rD.2 ⟨f,ae,by simp[bg]⟩) eP
   refine main z ap (fun i=>(fs.map fun f=>(f.offset,(C.sizeOf f.type).getD 0))[i]?) aO (vr _ mo) ?_ ?_ he
   ·intro j p a h1 h2
    have:=vt _ mo h1 h2;split at this
    ·rename_i f ae
     split at this
     ·rename_i n x hn hx
      simp only[aA]at this;subst this;refine⟨?_,hx⟩;simp only[Array.getElem?_map,ae,o1,hn,tW]
     ·cases this
    ·cases this
   ·intro cv w oz cells Nw
    have hm:=ahh (C:=C) (w:=w) (fun(f:Field)=>(do pure (f.offset,<-Go.sizeOf f.type):Sem (Nat × Nat))) (fun f=>(f.offset,(C.sizeOf f.type).getD 0)) fs (fun f ae w=>by
     obtain⟨n,hn⟩:=dk f ae;simp only[Sem.run_bind,y4 (C:=C) hn,Result.andThen_ok,Sem.run_pure,hn,tW])
    have jg:(parts.map fun(i,x)=>(i,ρ x)).toList=parts.toList.map fun(i,x)=>(i,ρ x):=by simp
    unfold Instr.build;simp only[Sem.run_bind,oz,run_underlying hd,Result.andThen_ok,hm,jg,Nw,Sem.run_pure]
 ·rename_i n e z hd aO
  split at hc
  ·rename_i nJ hs
   obtain⟨ap,mo,rfl⟩:=cj.1 hc;refine main z ap (fun i=>some (i*nJ,nJ)) aO (vr _ mo) ?_ ?_ he
   ·intro j p a h1 h2
    have:=vt _ mo h1 h2;split at this
    ·rename_i x hx
     simp only[aA]at this;subst this;exact⟨rfl,hx⟩
    ·cases this
   ·intro cv w oz cells Nw
    have jg:(parts.map fun(i,x)=>(i,ρ x)).toList=parts.toList.map fun(i,x)=>(i,ρ x):=by simp
    unfold Instr.build;simp only[Sem.run_bind,oz,run_underlying hd,Result.andThen_ok,y4 (C:=C) hs,jg,Nw,Sem.run_pure]
  ·cases hc
 ·cases hc
end Go.Abs
namespace Go.Abs
open Go
variable{C:Ctx}{fid:Nat->Nat}{w w':World}{G G':bT}{H:Heap}
variable{vars:List Nat}{ag:ai->V}{ρ:Operand->Value}{low low':Nat}{v:V}{H':Heap}{pos:String}{df:cN}{o:Oper}
theorem aX.rT (U:aX C fid G H w)(aP:Obj)(p:Prop):aX C fid ⟨G.β,fun b=>G.I b\/(b=w.heap.size/\p)⟩ H (w.alloc aP) where
 obj l h hb:=by
  obtain⟨o,ho,hr⟩:=U.obj l h hb;exact⟨o,ho,jT.mono (G:=G) (G':=⟨G.β,fun b=>G.I b\/(b=w.heap.size/\p)⟩) (mh.refl _) (fun b (hi:G.I b)=>⟨.inl hi,alloc_old (U.c0 b hi).1⟩) (alloc_old (U.blk l h hb)) hr⟩
 inj:=U.inj
 blk l h hb:=by rw[World.size_alloc];have:=U.blk l h hb;omega
 c0 b hi:=by
  rw[World.size_alloc];rcases hi with hi|⟨rfl,-⟩
  ·exact⟨by have:=(U.c0 b hi).1;omega,(U.c0 b hi).2⟩
  ·exact⟨by omega,fun l h hb q=>by have:=U.blk l h hb;omega⟩
 ky l h hb ae:=.inl (U.ky l h hb ae)
 e2 b o a6:=⟨.inl (U.e2 b o a6).1,by rw[alloc_old (U.c0 b (U.e2 b o a6).1).1];exact(U.e2 b o a6).2⟩
theorem Ext.rT (aP:Obj)(p:Prop)(m n:Nat):Ext G w ⟨G.β,fun b=>G.I b\/(b=w.heap.size/\p)⟩ (w.alloc aP) m n where
 size:=by simp
 os:=rfl
 output:=rfl
 ek b hb _:=alloc_old hb
 homes:=.refl _
 ow l h hb:=.inl ⟨h,hb,.inl rfl⟩
 c0 _ h:=.inl h
 o5 b hi:=by
  rcases hi with hi|⟨rfl,-⟩
  ·exact .inl hi
  ·exact .inr (.inl (aF _))
theorem Ut{z:List V}(h:bM z=true):aE (lr z)=z:=by
 unfold lr;split
 ·rename_i x
  simp only[bM,Bk]at h;cases x<;>first|rfl|simp[ez]at h
 ·rfl
theorem Im{z:List V}{cv:Array Value}(aO:a1 fid G w z cv.toList)(bh:bM z=true)(hC:0<cv.size):∀(n:Nat),
  a1 fid G w ((List.replicate n (lr z)).flatMap aE) ((List.range (n*cv.size)).map fun i=>cv[i%cv.size]!)
 |0=>by simpa using a1.nil
 |n+1=>by
  have ih:=Im aO bh hC n;have ab:(n+1)*cv.size=cv.size+n*cv.size:=by rw[yG,Nat.add_comm]
  rw[DF,kd,Ut bh,ab,List.range_add,jP,kR]
  have aj:(List.range cv.size).map (fun i=>cv[i%cv.size]!)=cv.toList:=by
   apply o0;intro j;simp only[h8];by_cases hj:j<cv.size
   ·rw[List.getElem?_range hj]
    simp[Nat.mod_eq_of_lt hj,hj]
   ·rw[nA (by simpa using hj),nA (by simpa using hj)];rfl
  have bC:((fun i=>cv[i%cv.size]!) ∘ (cv.size+ ·))=fun i=>cv[i%cv.size]! :=by
   funext i;simp
  rw[aj,bC];exact aO.append ih
theorem Nx{z:List V}(bh:bM z=true){n k:Nat}(hk:z.length=k):∀d∈List.replicate n (lr z),(aE d).length=k:=by
 intro d hd;rw[(List.mem_replicate.1 hd).2,Ut bh,hk]
theorem Ny (U:aX C fid G H w){es:Nat}{ds:List V}{c:Array Value}{vals rest:List Value}{e:TypeId}(eM:0<es)(hn:0<ds.length)(hu:∀d∈ds,(aE d).length=es)(hc:c.toList=vals++rest)
  (af:a1 fid G w (ds.flatMap aE) vals):
  jT C fid ⟨ck G.β H.length ⟨w.heap.size,ds.length,c.size,false⟩,G.I⟩ (w.alloc (.cells c e)) ⟨w.heap.size,ds.length,c.size,false⟩ (.row es ds false):=
 ⟨rfl,hn,rfl,eM,hu,c,e,vals,rest,mi _ _,rfl,hc,af.ext U (Ext.push U _ ds.length c.size 0)⟩
theorem ahj (U:aX C fid G H w)(aN:fr C fid vars G w ag ρ){t:TypeId}{len:Nat}{parts:Array (Nat × Operand)}(ho:o.op=.buildSlice t len parts)(hc:C.cO vars pos o.op=some df)(he:step ag H low df=some (v,H',low')):
  c3 C fid G H w low ((execOp ρ o).run C.P w) v H' low':=by
 rw[ho]at hc
 have cc:(execOp ρ o).run C.P w=((Instr.buildSlice t len (parts.map fun(i,x)=>(i,ρ x))).run C.P w).andThen fun z w'=>.ok (.value z) w':=by
  unfold execOp;rw[ho];simp only[Sem.run_bind];rfl
 simp only[Ctx.cO]at hc;split at hc
 ·rename_i e hd
  split at hc
  ·rename_i n z ap hn aO mo
   split at hc
   ·cases hc
   ·rename_i eh
    simp only[not_or,Nat.not_lt,ne_eq,Classical.not_not]at eh;obtain⟨mY,azw,qG⟩:=eh;obtain⟨ju,rfl⟩:∃ju,df=.lit n z len ap ju:=⟨_,(u3 hc).symm⟩;obtain⟨cv,oz,oA,bh,-⟩:=Ei (fid:=fid) aO;have hlen:=vr _ mo;have y6:cv.cells.size=n:=by rw[<-fC,(oA G w).length,qG]
    simp only[step]at he;split at he
    ·rename_i vs H1 bG ae
     have Nz:a1 fid G w (ap.map fun p=>ag p.2) (parts.toList.map fun p=>ρ p.2):=by
      refine a1.agd (by simp[hlen]) (fun j a x h1 h2=> ?_);simp only[h8,cj]at h1 h2;obtain⟨a8,gJ,rfl⟩:=h1;obtain⟨y5,p4,rfl⟩:=h2;have:=vt _ mo p4 gJ;obtain⟨cE,hx,rfl⟩:=cj.1 this;exact aN _ _ hx
     obtain⟨ay,f1,b6⟩:=M7 U Nz ae;have ahk:vs.length=ap.length:=by have:=b6.length;simp only[ef]at this;omega
     split at he
     ·rename_i ds rL
      have ahl:((parts.map fun(i,x)=>(i,ρ x)).toList)=parts.toList.map fun(i,x)=>(i,ρ x):=by simp
      have ahm:a1 fid ay w ((List.replicate len (lr z)).flatMap aE) (((Array.range (len*n)).map fun i=>(if len*n=0 then #[]else cv.cells)[i%(if len*n=0 then #[]else cv.cells:Array Value).size]!).toList):=by
       by_cases oB:len=0
       ·subst oB;simpa using a1.nil
       ·have h0:len*n≠0:=Nat.mul_ne_zero oB mY
        have:=Im (oA ay w) bh (by omega) len;rw[y6]at this;simpa[h0,y6]using this
      obtain⟨cells,ab,aj,bC,cu⟩:=Ur (fid:=fid) (G:=ay) (w:=w) (es:=n) (ps:=parts.toList.map fun(i,x)=>(i,ρ x)) (aQ:=(ap.zip vs).map fun(p,v)=>(p.1,v))
       (by simp[hlen,ahk]) (fun j p a h1 h2=>by
         simp only[h8,cj]at h1 h2;obtain⟨y5,p4,rfl⟩:=h1;obtain⟨⟨a8,v'⟩,gJ,rfl⟩:=h2;rw[Dz]at gJ;have:=vt _ mo p4 gJ.1;obtain⟨cE,hx,rfl⟩:=cj.1 this;refine⟨rfl,?_⟩;obtain⟨y,hy,e5⟩:=b6.get gJ.2;simp only[h8,p4,o1,aA]at hy;subst hy;exact e5) (Nx bh qG) ahm rL
      rw[Bf]at cu
      have hb:(Instr.buildSlice t len (parts.map fun(i,x)=>(i,ρ x))).run C.P w=.ok (.slice (some ⟨w.heap.size,0,none⟩) len len) (w.alloc (.cells cells e)):=by
       unfold Instr.buildSlice;have hl:¬len*n>2^24:=by omega
       simp only[Sem.run_bind,run_underlying hd,Result.andThen_ok,y4 (C:=C) hn,hl,if_false,ahl];by_cases h0:len*n=0
       ·simp only[h0,if_true]at ab⊢
        simp only[Sem.run_bind,Sem.run_pure,Result.andThen_ok,ab,newRow,run_newObj,World.alloc_eq]
       ·simp only[h0,if_false]at ab⊢
        simp only[Sem.run_bind,Sem.run_pure,Result.andThen_ok,oz,ab,newRow,run_newObj,World.alloc_eq]
      have hval:(execOp ρ o).run C.P w=.ok (.value (.slice (some ⟨w.heap.size,0,none⟩) len len)) (w.alloc (.cells cells e)):=by rw[cc,hb];rfl
      have eM:0<n:=Mk mY;have emp:c3 C fid G H w low ((execOp ρ o).run C.P w) .emp H1 bG->True:=fun _=>trivial
      have Uu:len=0->c3 C fid G H w low ((execOp ρ o).run C.P w) .emp H1 bG:=by
       intro h0;refine c3.BD f1 ⟨_,_,_,.inl hval,f1.rel.rT _ False,fun m _=>Ext.rT _ _ _ _,?_,aF _,aF _⟩;subst h0;exact .p _ _ (.emp _)
      split at he
      ·split at he
       ·rename_i azx hp
        by_cases h0:len=0
        ·simp only[h0,if_true,aA,bq]at he
         obtain⟨rfl,rfl,rfl⟩:=he;exact Uu h0
        ·simp only[h0,if_false,aA,bq]at he
         obtain⟨rfl,rfl,rfl⟩:=he;refine c3.BD f1 ⟨_,_,⟨ay.β,fun b=>ay.I b\/(b=w.heap.size/\True)⟩,.inl hval,f1.rel.rT _ True,fun m _=>Ext.rT _ _ _ _,?_,aF _,aF _⟩;have hx:=Ext.rT (G:=ay) (w:=w) (.cells cells e) True 0 H1.length
         have key:=fG.list (w:=w.alloc (.cells cells e)) (I:=fun b=>ay.I b\/(b=w.heap.size/\True)) n ds w.heap.size 0 len cells.toList (.inr ⟨rfl,trivial⟩)
          (iz.vf (rest:=[]) (mi _ _) (by simp)) bC ((aj.ext f1.rel hx).pZ (Ia hp)) (by omega)
         rw[cu]at key;exact .p _ _ key
       ·cases he
      ·split at he
       ·rename_i h0
        simp only[aA,bq]at he;obtain⟨rfl,rfl,rfl⟩:=he;exact Uu h0
       ·rename_i h0
        simp only[aA,bq]at he;obtain⟨rfl,rfl,rfl⟩:=he
        have nK:cells.size=len*n:=by
         rw[<-fC,aj.length,mV bC,cu]
        refine c3.BD f1 (c3.alloc f1.rel ds.length cells.size hval (Ny f1.rel eM (by omega) bC (rest:=[]) (by simp) aj) ?_);refine .ca _ n 0 len len ⟨w.heap.size,ds.length,cells.size,false⟩ _ _ _ (dh _ _ _) (by simp only;omega) (fun _=>⟨by simp,rfl,?_,aF _⟩);rw[nK,dP];exact aF _
     ·cases he
    ·cases he
  ·cases hc
 ·cases hc
end Go.Abs
namespace Go.Abs
open Go
variable{C:Ctx}{fid:Nat->Nat}{w w':World}{G G':bT}{H:Heap}
variable{vars:List Nat}{ag:ai->V}{ρ:Operand->Value}{low low':Nat}{v:V}{H':Heap}{pos:String}{df:cN}{o:Oper}
theorem Uv{n:Int}(h0:0<=n)(h:n<=1099511627776):IntKind.i64.wrap n=n:=by
 have e:n%(2^IntKind.i64.bits:Int)=n:=Int.emod_eq_of_lt h0 (by show n<(2^64:Int);omega);unfold IntKind.wrap;rw[e];have:¬(n>=(2^(IntKind.i64.bits-1):Int)):=by show ¬n>=(2^63:Int);omega
 simp[this]
theorem ahn (U:aX C fid G H w)(aN:fr C fid vars G w ag ρ){t:TypeId}{l c:Operand}(ho:o.op=.makeSlice t l c)(hc:C.cO vars pos o.op=some df)(he:step ag H low df=some (v,H',low')):
  c3 C fid G H w low ((execOp ρ o).run C.P w) v H' low':=by
 rw[ho]at hc;simp only[Ctx.cO]at hc;split at hc
 ·rename_i e hd
  split at hc
  ·rename_i i z mq ac hi aO h1 h2
   split at hc
   ·cases hc
   ·rename_i eh
    simp only[not_or,ne_eq,Classical.not_not]at eh;simp only[aA]at hc;subst hc;obtain⟨cv,oz,oA,bh,-⟩:=Ei (fid:=fid) aO;have y6:cv.cells.size=i.size:=by rw[<-fC,(oA G w).length,eh.2]
    have hl:=aN l mq h1;have sQ:=aN c ac h2;simp only[step]at he;split at he
    ·rename_i k n bz m ab aj
     split at he
     ·rename_i hb
      obtain⟨rfl,mY,hbound⟩:=hb;rw[ab]at hl;rw[aj]at sQ;obtain⟨j,rfl⟩:=HD mY
      have p5:j<=1099511627776:=by
       have:(j:Int)*1<=(j:Int)*((i.bytes:Int)+1):=Int.mul_le_mul_of_nonneg_left (by omega) mY;omega
      have sU:(i.bytes:Int)*(j:Int)<=1099511627776:=by
       have:(j:Int)*((i.bytes:Int)+1)=(i.bytes:Int)*(j:Int)+j:=by rw[Int.mul_add,Int.mul_comm];omega
       omega
      have hw:=Uv mY (by omega:(j:Int)<=1099511627776);have hC:0<i.size:=Mk eh.1
      have cc:∃cells,(execOp ρ o).run C.P w=.ok (.value (.slice (some ⟨w.heap.size,0,none⟩) j j)) (w.alloc (.cells cells e))/\cells.toList=(List.range (j*i.size)).map (fun q=>cv.cells[q%cv.cells.size]!):=by
       refine⟨(Array.range (j*i.size)).map (fun q=>(if j*i.size=0 then #[]else cv.cells:Array Value)[q%(if j*i.size=0 then #[]else cv.cells:Array Value).size]!),?_,?_⟩
       ·unfold execOp;rw[ho]
        have qM:¬((decide ((j:Int)<0)||decide ((i.bytes:Int)*(j:Int)>2^48))=true):=by simp;omega
        have o7:¬((decide ((j:Int)<0)||decide ((i.bytes:Int)*(j:Int)>2^48)||decide ((j:Int)<0)||decide ((j:Int)>(j:Int)))=true):=by simp;omega
        simp only[hl.jA,sQ.jA,Instr.makeSlice,asInt,asIntOf,Sem.run_bind,Sem.run_pure,Result.andThen_ok,run_underlying hd,run_typeInfo (P:=C.P) w hi,hw];rw[if_neg (by simpa using o7)];simp only[Sem.run_bind,run_askRoom,Result.andThen_ok,sizeOf,run_typeInfo (P:=C.P) w hi,Sem.run_pure,HL];by_cases h0:j*i.size=0
        ·simp only[h0,if_true,Sem.run_bind,Sem.run_pure,Result.andThen_ok,newRow,run_newObj,World.alloc_eq]
        ·simp only[h0,if_false,Sem.run_bind,Sem.run_pure,Result.andThen_ok,oz,newRow,run_newObj,World.alloc_eq]
       ·by_cases h0:j*i.size=0
        ·simp[h0]
        ·simp[h0]
      obtain⟨cells,cc,fe⟩:=cc;split at he
      ·rename_i Io
       simp only[aA,bq]at he;obtain⟨rfl,rfl,rfl⟩:=he;obtain rfl:j=0:=by omega
       exact⟨_,_,_,.inl cc,U.rT _ False,fun m _=>Ext.rT _ _ _ _,.p _ _ (.emp _),aF _,aF _⟩
      ·rename_i Io
       simp only[aA,bq,HL]at he;obtain⟨rfl,rfl,rfl⟩:=he;have pf:=Im (oA G w) bh (by omega) j;rw[y6]at pf fe;rw[<-fe]at pf;have hu:=Nx bh (n:=j) eh.2;have fq:cells.size=j*i.size:=by rw[<-fC,pf.length,mV hu,Bf]
       refine c3.alloc U (List.replicate j (lr z)).length cells.size cc (Ny U hC (by simp;omega) hu (rest:=[]) (by simp) pf) ?_;refine .ca _ _ 0 j j ⟨w.heap.size,(List.replicate j (lr z)).length,cells.size,false⟩ _ _ _ (dh _ _ _) (by simp) (fun _=>⟨by simp,rfl,?_,aF _⟩);rw[fq,dP];exact aF _
     ·cases he
    ·cases he
  ·cases hc
 ·cases hc
theorem Ek (U:aX C fid G H w){es:Nat}{a:V}{xs:List V}{x:Value}(ha:bd fid G w a x)(he:elems H es a=some xs):
  ∃c4 cap,x=.slice c4 xs.length cap/\(xs≠[]->∃b off vals,c4=some ⟨b,off,none⟩/\iz w b off vals/\a1 fid G w (xs.flatMap aE) vals/\∀d∈xs,(aE d).length=es):=by
 unfold elems at he;split at he
 ·simp only[aA]at he;subst he
  exact⟨none,0,ha.jh,fun h=>absurd rfl h⟩
 ·simp only[aA]at he;subst he
  obtain⟨c4,hx⟩:=ha.rO;exact⟨some c4,0,hx,fun h=>absurd rfl h⟩
 ·split at he
  ·rename_i eM
   simp only[aA]at he;subst he;subst eM;obtain⟨c4,cap,hx,-,bg⟩:=ha.xt;refine⟨some c4,cap,hx,fun aZ=> ?_⟩;rcases bg with rfl|⟨b,off,vals,rfl,bk,hc,hu,hr⟩
   ·exact absurd rfl aZ
   ·exact⟨b,off,vals,rfl,hc,hr.ov,hu⟩
  ·cases he
 ·rename_i l bK off len tag
  split at he
  ·rename_i fb ds fz hl
   split at he
   ·rename_i eh
    obtain⟨rfl,rfl,fP,rR⟩:=eh;simp only[aA]at he;subst he;obtain⟨h0,c4,cI,cap,cp,o9,hD,dG⟩:=ha.nI;obtain⟨aP,en,hr⟩:=U.obj l h0 cp;rw[hl]at en;cases en;obtain⟨ht,hC,ae,eM,hu,c,e,vals,rest,hc,fq,af,e5⟩:=hr;obtain⟨rfl,rfl,-,-⟩:=hD (ht.trans fP);have hlen:((ds.drop off).take cI).length=cI:=by simp;omega
    rw[hlen];refine⟨_,cap,dG,fun _=>⟨h0.b,off*fb,(vals.drop (off*fb)).take (cI*fb),rfl,?_,?_,fun d hd=>hu d (HF (DC hd))⟩⟩
    ·have:=((iz.vf hc af).drop (off*fb)).take (cI*fb)
     rwa [dP]at this
    ·have ml:∀d∈ds.drop off,(aE d).length=fb:=fun d hd=>hu d (HF hd)
     rw[Bz ml,yY hu];exact(e5.drop _).take _
   ·cases he
  ·cases he
 ·cases he
theorem El{size n cap:Nat}{b off:Nat}{vals:List Value}(hc:iz w b off vals)(hl:vals.length=n*size):
  (Builtin.firstCells size n (.slice (some ⟨b,off,none⟩) n cap)).run C.P w=.ok vals.toArray w:=by
 have:=run_loadCells_list (P:=C.P) w ⟨b,off,none⟩ vals (fun j v hj=>by rw[Addr.add_lit];exact hc j v hj);rw[hl]at this;exact this
theorem Uw:∀{vs vs':List V} {xs:List Value} {G:bT} {H H':Heap} {low low':Nat},aX C fid G H w->a1 fid G w (vs.flatMap aE) xs->eV H low vs=some (vs',H',low')->
  ∃G',lO C fid G H w low G' H' low'/\a1 fid G' w (vs'.flatMap aE) xs/\vs'.length=vs.length/\∀es,(∀d∈vs,(aE d).length=es)->∀d∈vs',(aE d).length=es
 |[],_,_,G,H,H',low,low',U,h,he=>by
  simp only[eV,aA,bq]at he;obtain⟨rfl,rfl,rfl⟩:=he;exact⟨G,.refl U _,h,rfl,fun _ h=>h⟩
 |v::r,_,xs,G,H,H',low,low',U,h,he=>by
  simp only[eV]at he;split at he
  ·rename_i v1 H1 bG h1
   split at he
   ·rename_i b4 H2 dB h2
    simp only[aA,bq]at he;obtain⟨rfl,rfl,rfl⟩:=he;rw[kd]at h;obtain⟨cB,c1,rfl,hy,aO⟩:=h.split;obtain⟨ay,f1,b6,ch⟩:=agm U hy h1;obtain⟨bl,f2,dI,kX,mW⟩:=Uw f1.rel (aO.ext U (f1.ext 0 (cD _))) h2;refine⟨bl,f1.trans f2,?_,by simp[kX],fun es hu d hd=> ?_⟩
    ·rw[kd];exact(b6.ext f1.rel (f2.ext 0 (cD _))).append dI
    ·rcases dp.1 hd with rfl|hd
     ·rw[ch];exact hu v (by simp)
     ·exact mW es (fun d hd=>hu d (by simp[hd])) d hd
   ·cases he
  ·cases he
end Go.Abs
namespace Go.Abs
open Go
variable{C:Ctx}{fid:Nat->Nat}{w w':World}{G G':bT}{H:Heap}
variable{vars:List Nat}{ag:ai->V}{ρ:Operand->Value}{low low':Nat}{v:V}{H':Heap}{pos:String}{df:cN}{o:Oper}
theorem NA{P:Program}{t u ty e e':TypeId}{i:TypeInfo}(hd:P.underlying t=some (.slice e))(hu:P.underlying u=some (.slice e'))(hi:P.info? e=some i){base fH:Option Addr}{sLen sCap n lz:Nat}{news:List Value}
  (hx:(Builtin.firstCells i.size n (.slice fH n lz)).run P w=.ok news.toArray w) (hN:sLen+n<=sCap):
  (Builtin.append_ #[t,u] ty #[.slice base sLen sCap,.slice fH n lz]).run P w=
    ((match base with|some a=>storeCells (a.add (sLen*i.size)) news|none=>pure ()).run P w).andThen fun _ w'=>.ok (.slice base (sLen+n) sCap) w':=by
 cases base with
 |none=>simp[Builtin.append_,run_underlying hd,run_underlying hu,sizeOf,typeInfo,hi,Builtin.lenOf,hN,hx]
 |some a=>simp[Builtin.append_,run_underlying hd,run_underlying hu,sizeOf,typeInfo,hi,Builtin.lenOf,hN,hx]
theorem NB{P:Program}{t u ty e e':TypeId}{i:TypeInfo}{cv:Value}(hd:P.underlying t=some (.slice e))(hu:P.underlying u=some (.slice e'))(hi:P.info? e=some i)(aO:i.zero=some cv)
  {base fH:Option Addr} {sLen sCap n lz:Nat} {olds news:List Value}
  (hx:(Builtin.firstCells i.size n (.slice fH n lz)).run P w.drew=.ok news.toArray w.drew) (ho:(Builtin.firstCells i.size sLen (.slice base sLen sCap)).run P w.drew=.ok olds.toArray w.drew)
  (hN:sCap<sLen+n) (hb:(sLen+n)*(i.bytes+1)<=1099511627776):
  ∃gm,sLen+n<=gm/\(Builtin.append_ #[t,u] ty #[.slice base sLen sCap,.slice fH n lz]).run P w=
   .ok (.slice (some ⟨w.heap.size,0,none⟩) (sLen+n) gm) (w.drew.alloc (.cells (olds.toArray++news.toArray++Builtin.zeroCells cv.cells (gm-(sLen+n))) e)):=by
 have h1:¬sLen+n<=sCap:=by omega
 have hm:(sLen+n)*i.bytes+(sLen+n)=(sLen+n)*(i.bytes+1):=by rw[Nat.mul_succ]
 have h2:¬(((sLen+n:Nat):Int)>9223372036854775807):=by omega
 have ar:=growslice_fits (need:=sLen+n) (old:=sCap) (bytes:=i.bytes) hN (by omega);have aR:¬(281474976710656<Builtin.nextslicecap (sLen+n) sCap*i.bytes):=by omega
 refine⟨sLen+n+(w.tape w.drawn (.appendCap (sLen+n) sCap e))%(9223372036854775808-(sLen+n)),Mn _ _,?_⟩;have xx:¬(9223372036854775807<(sLen:Int)+(n:Int)):=by omega
 simp[Builtin.append_,run_underlying hd,run_underlying hu,sizeOf,typeInfo,hi,Builtin.lenOf,h1,xx,aR,Question.forced,Question.cut,hx,ho,zeroValue,aO,newRow];congr 2;apply Array.ext';simp
theorem BO (z:Array Value)(n:Nat):(Builtin.zeroCells z n).size=n*z.size:=by simp[Builtin.zeroCells]
theorem Ux{xs:List V}{vals:List Value}(h:a1 fid G w xs vals)(hc:bM xs=true):∀x∈vals,x.oneCell'=true:=Ih h hc
theorem c3.newRow (U:aX C fid G H w){low:Nat}{r:Result Next}{es:Nat}{ds:List V}{c:Array Value}{vals rest:List Value}{e:TypeId}{cap:Nat}(eM:0<es)(hn:0<ds.length)(hu:∀d∈ds,(aE d).length=es)
  (hc:c.toList=vals++rest) (af:a1 fid G w (ds.flatMap aE) vals) (ec:cap*es<=c.size) (hle:ds.length<=cap)
  (hr:r=.ok (.value (.slice (some ⟨w.heap.size,0,none⟩) ds.length cap)) (w.drew.alloc (.cells c e))):
  c3 C fid G H w low r (.ca H.length es 0 ds.length ds.length) (H++[.row es ds false]) low:=by
 have kh:aX C fid G H w.drew:=U.jf rfl;have c7:∀m n,Ext G w G w.drew m n:=fun m n=>Ext.jf (w:=w) (w':=w.drew) rfl rfl rfl m n;have BH:=af.ext U (c7 0 0);refine⟨_,_,⟨ck G.β H.length ⟨w.drew.heap.size,ds.length,c.size,false⟩,G.I⟩,.inl hr,kh.push _ _ ds.length c.size (Ny kh eM hn hu hc BH),fun m _=>(c7 m H.length).trans (Ext.push kh _ _ _ m),?_,aF _,by simp⟩;exact .ca _ es 0 _ _ ⟨w.drew.heap.size,ds.length,c.size,false⟩ _ _ _ (dh _ _ _) (aF _) (fun _=>⟨by simp,rfl,by rw[dP];exact ec,hle⟩)
theorem aho (U:aX C fid G H w)(aN:fr C fid vars G w ag ρ){a b:Operand}{t u e e':TypeId}{i:TypeInfo}{cv:Value}{args:Array Operand}{ts:Array TypeId}(ho:o.op=.call {callee:=.builtin .append,args,argTypes:=ts})
  (ha:args= #[a,b]) (ht:ts= #[t,u]) {ki hP:ai} (h1:C.b5 vars a=some ki) (h2:C.b5 vars b=some hP) (hd:C.P.underlying t=some (.slice e)) (hu:C.P.underlying u=some (.slice e')) (hi:C.P.info? e=some i)
  (aO:i.zero=some cv) (pg:cv.cells.size=i.size) (hC:0<i.size) (he:step ag H low (.append i.size i.bytes ki hP)=some (v,H',low')):c3 C fid G H w low ((execOp ρ o).run C.P w) v H' low':=by
 subst ha;subst ht;have hx:=aN a ki h1;have hy:=aN b hP h2
 have cc:(execOp ρ o).run C.P w=((Builtin.append_ #[t,u] o.type #[ρ a,ρ b]).run C.P w).andThen fun z w'=>.ok (.value z) w':=by
  rw[vq ho];simp only[builtin,Sem.run_bind,DH,de,iO];rfl
 simp only[step]at he;split at he
 ·rename_i xs eC
  obtain⟨uh,BP,y7,BQ⟩:=Ek U hy eC;split at he
  ·rename_i e4 H1 bG ae
   have news:∃vals ay,lO C fid G H w low ay H1 bG/\a1 fid ay w (e4.flatMap aE) vals/\e4.length=xs.length/\(∀d∈e4,(aE d).length=i.size)/\
     ∀gl,gl.heap=w.heap->(Builtin.firstCells i.size xs.length (.slice uh xs.length BP)).run C.P gl=.ok vals.toArray gl:=by
    by_cases aZ:xs=[]
    ·subst aZ
     simp only[eV,aA,bq]at ae;obtain⟨rfl,rfl,rfl⟩:=ae;refine⟨[],G,.refl U _,.nil,rfl,by simp,fun gl _=> ?_⟩;cases uh with
     |none=>simp[Builtin.firstCells]
     |some c4=>simp[Builtin.firstCells,loadCells,loadCellsFrom]
    ·obtain⟨ug,off,vals,rfl,vi,e5,ml⟩:=BQ aZ
     obtain⟨ay,f1,b6,ch,jV⟩:=Uw U e5 ae;refine⟨vals,ay,f1,b6,ch,jV _ ml,fun gl hw=> ?_⟩;exact El (fun j x hj=>by rw[MS (w:=w) (w':=gl) (by rw[hw])];exact vi j x hj) (by rw[e5.length,mV ml])
   obtain⟨vals,ay,f1,b6,ch,jV,sV⟩:=news;rw[y7]at cc;have hQ:=hx.ext U (f1.ext 0 (cD _));refine c3.BD f1 ?_;have fI:=f1.rel;split at he
   ·
    rename_i pj
    have NC:xs=[]:=by
     have:e4=[]:=by simpa using pj
     rw[this]at ch;exact yx.1 ch.symm
    have vu:vals=[]:=by
     have:=b6.length;have eL:e4=[]:=by simpa using pj
     rw[eL]at this;exact yx.1 (by simpa using this)
    subst NC;subst vu
    have same:∀base n cap,ρ a=.slice base n cap->n<=cap->(execOp ρ o).run C.P w=.ok (.value (ρ a)) w:=by
     intro base n cap hs hle;rw[cc,hs,NA (P:=C.P) hd hu hi (sV w rfl) (by simpa using hle)];cases base<;>simp[storeCells]
    split at he
    ·rename_i ab
     simp only[aA,bq]at he;obtain⟨rfl,rfl,rfl⟩:=he;rw[ab]at hQ;exact .same fI (same _ _ _ hQ.jh (aF _)) hQ
    ·rename_i ab
     simp only[aA,bq]at he;obtain⟨rfl,rfl,rfl⟩:=he;rw[ab]at hQ;obtain⟨c4,dG⟩:=hQ.rO;exact .same fI (same _ _ _ dG (aF _)) hQ
    ·rename_i bK ds ab
     simp only[aA,bq]at he;obtain⟨rfl,rfl,rfl⟩:=he;rw[ab]at hQ;obtain⟨c4,cap,dG,ec,-⟩:=hQ.xt;exact .same fI (same _ _ _ dG ec) hQ
    ·rename_i l bK off len tag ab
     rw[ab]at hQ;split at he
     ·rename_i fb ds fz hl
      split at he
      ·rename_i fP
       simp only[aA,bq]at he;obtain⟨rfl,rfl,rfl⟩:=he;obtain⟨h0,c4,cI,cap,cp,o9,hD,dG⟩:=hQ.nI;obtain⟨aP,en,hr⟩:=fI.obj l h0 cp;rw[hl]at en;cases en;obtain⟨rfl,rfl,-,nO⟩:=hD (hr.1.trans fP);exact .same fI (same _ _ _ dG nO) hQ
      ·cases he
     ·cases he
    ·cases he
   ·rename_i pj
    have aZ:0<e4.length:=by
     rcases S2 e4.length with q|q
     ·exact absurd (by simpa using yx.1 q) pj
     ·exact q
    split at he
    ·cases he
    ·rename_i bh
     have bh:bM (e4.flatMap aE)=true:=by simpa using bh
     have Em:=Ux b6 bh;have lv:vals.length=xs.length*i.size:=by rw[b6.length,mV jV,ch]
     have fresh:∀base,ρ a=.slice base 0 0->e4.length*(i.bytes+1)<=1099511627776->c3 C fid ay H1 w bG ((execOp ρ o).run C.P w) (.ca H1.length i.size 0 e4.length e4.length) (H1++[.row i.size e4 false]) bG:=by
      intro base hs hb
      have hold:(Builtin.firstCells i.size 0 (.slice base 0 0)).run C.P w.drew=.ok ([]:List Value).toArray w.drew:=by
       cases base<;>simp[Builtin.firstCells,loadCells,loadCellsFrom]
      obtain⟨gm,ec,lA⟩:=NB (P:=C.P) (t:=t) (u:=u) (ty:=o.type) hd hu hi aO (sV w.drew rfl) hold (by omega) (by rw[dP,<-ch];exact hb);rw[dP,<-ch]at lA ec;refine c3.newRow fI (cap:=gm) (e:=e) hC aZ jV (vals:=vals) (rest:=(Builtin.zeroCells cv.cells (gm-e4.length)).toList) ?_ b6 ?_ ec (by rw[cc,hs,<-ch,lA];rfl)
      ·simp
      ·simp only[yB,u2,mQ,dP,BO,lv,pg,<-ch,<-u4]
       rw[Nat.add_sub_cancel' ec];exact aF _
     split at he
     ·rename_i ab
      split at he
      ·rename_i hb
       simp only[aA,bq]at he;obtain⟨rfl,rfl,rfl⟩:=he;rw[ab]at hQ;exact fresh _ hQ.jh hb
      ·cases he
     ·rename_i ab
      split at he
      ·rename_i hb
       simp only[aA,bq]at he;obtain⟨rfl,rfl,rfl⟩:=he;rw[ab]at hQ;obtain⟨c4,dG⟩:=hQ.rO;exact fresh _ dG hb
      ·cases he
     ·rename_i l bK off len tag ab
      rw[ab]at hQ;split at he
      ·rename_i fb ds hl
       split at he
       ·rename_i eh
        obtain⟨rfl,rfl,fP,rfl,rfl,hb⟩:=eh;simp only[aA,bq]at he;obtain⟨rfl,rfl,rfl⟩:=he;obtain⟨h0,c4,cI,cap,cp,o9,hD,dG⟩:=hQ.nI;obtain⟨aP,en,hr⟩:=fI.obj l h0 cp;rw[hl]at en;cases en;obtain⟨p6,En,hfz,eM,mX,c,vv,kZ,rest,hc,fq,hM,e5⟩:=hr;obtain⟨rfl,rfl,nK,nO⟩:=hD (p6.trans fP);rw[HV]at dG;rw[dP]at nK;have lP:ds.length=cI:=fP;have rR:kZ.length=cI*i.size:=by rw[e5.length,mV mX,lP]
        have fe:c.size=kZ.length+rest.length:=by rw[<-fC,hM,fD]
        have ui:∀d∈ds++e4,(aE d).length=i.size:=fun d hd=>by
         rcases jc.1 hd with q|q
         ·exact mX d q
         ·exact jV d q
        have Eo:a1 fid ay w ((ds++e4).flatMap aE) (kZ++vals):=by rw[Mg];exact e5.append b6
        by_cases hN:cI+xs.length<=cap
        ·
         have hmul:(cI+xs.length)*i.size<=c.size:=cM (HH _ hN) (by rw[<-fq];exact nK);rw[u4]at hmul;have b7:=run_storeCells_at C.P h0.b (cI*i.size) vv vals 0 c w hc (by omega) Em
         have hval:(execOp ρ o).run C.P w=.ok (.value (.slice (some ⟨h0.b,0,none⟩) (cI+xs.length) cap)) (w.setRow h0.b (c.toList.take (cI*i.size)++vals++c.toList.drop (cI*i.size+vals.length)).toArray):=by
          rw[cc,dG,NA (P:=C.P) hd hu hi (sV w rfl) hN];simp only[Addr.add_lit,dP];simp only[yH]at b7;rw[b7];rfl
         have dM:Ext ay w ⟨ck ay.β l {h0 with tag:=cI+e4.length},ay.I⟩ (w.setRow h0.b (c.toList.take (cI*i.size)++vals++c.toList.drop (cI*i.size+vals.length)).toArray) l H1.length:=
          Ext.write fI cp hfz rfl (by simp only;omega) (fun q=>by omega) rfl (setRow_size _ _) (fun b aZ=>setRow_other aZ _) rfl rfl
         refine⟨_,_,_,.inl hval,aX.write fI cp hfz (h':={h0 with tag:=cI+e4.length}) rfl hfz (by simp only;omega) (fun q=>by omega) rfl (setRow_size _ _) (fun b aZ=>setRow_other aZ _) (.row i.size (ds++e4) false) ?_,
          fun m hm=>dM.le (cM hm (nB _ _)) (aF _),?_,jO _ _,by simp⟩
         ·refine⟨by simp[lP],by simp;omega,hfz,eM,ui,_,vv,kZ++vals,rest.drop vals.length,setRow_heap w h0.b c _ vv _ hc,?_,?_,Eo.ext fI dM⟩
          ·show h0.fp=_
           rw[fq];simp only[u2,fD,tV,qv,fC];omega
          ·rw[Mf,hM,<-rR,List.take_left,Mo,kr,kr]
           congr 2;rw[Mc (by omega),iM];congr 1;omega
         ·rw[<-ch]
          exact .ca l i.size 0 _ _ {h0 with tag:=cI+e4.length} _ _ _ (dh _ _ _) (aF _) (fun _=>⟨by simp,rfl,by rw[dP];exact nK,by omega⟩)
        ·
         have hold:(Builtin.firstCells i.size cI (.slice (some ⟨h0.b,0,none⟩) cI cap)).run C.P w.drew=.ok kZ.toArray w.drew:=
          El (iz.vf (w:=w.drew) hc hM) rR
         obtain⟨gm,ec,lA⟩:=NB (P:=C.P) (t:=t) (u:=u) (ty:=o.type) hd hu hi aO (sV w.drew rfl) hold (by omega) (by rw[<-ch];exact hb);have rU:aX C fid ay H1 w.drew:=fI.jf rfl;have c7:∀m n,Ext ay w ay w.drew m n:=fun m n=>Ext.jf (w:=w) (w':=w.drew) rfl rfl rfl m n
         obtain⟨bB,b4⟩:=aX.move rU cp hfz (.cells (kZ.toArray++vals.toArray++Builtin.zeroCells cv.cells (gm-(cI+xs.length))) e) (cI+e4.length)
          (kZ.toArray++vals.toArray++Builtin.zeroCells cv.cells (gm-(cI+xs.length))).size (by omega) (by omega) (.row i.size (ds++e4) false)
          ⟨by simp[lP],by simp;omega,rfl,eM,ui,_,e,kZ++vals,(Builtin.zeroCells cv.cells (gm-(cI+xs.length))).toList,mi _ _,rfl,by simp,a1.mono (G:=ay) (w:=w.drew) (G':=⟨ck ay.β l ⟨w.drew.heap.size,cI+e4.length,(kZ.toArray++vals.toArray++Builtin.zeroCells cv.cells (gm-(cI+xs.length))).size,false⟩,ay.I⟩) (by
           intro x fY eL;by_cases ly:x=l
           ·subst ly;rw[cp]at eL;cases eL
            exact⟨_,dh _ _ _,by simp only;omega,fun q=>by omega,fun q=>by simp only at q;omega,fun q=>by rw[hfz]at q;cases q⟩
           ·exact⟨fY,by simp only[dx ly];exact eL,aF _,id,fun _=>⟨rfl,rfl⟩,fun _=>rfl⟩) (fun b qN=>⟨qN,alloc_old (w:=w.drew) (rU.c0 b qN).1⟩) (Eo.ext fI (c7 0 0))⟩
         refine⟨_,_,_,.inl (by rw[cc,dG,lA];rfl),bB,fun m hm=>(c7 m H1.length).trans (b4.le (cM hm (nB _ _)) (aF _)),?_,jO _ _,by simp⟩;rw[<-ch];refine .ca l i.size 0 _ _ ⟨w.drew.heap.size,cI+e4.length,_,false⟩ _ _ _ (dh _ _ _) (aF _) (fun _=>⟨by simp,rfl,?_,by omega⟩);simp only[yB,u2,BO,lv,rR,pg,<-u4,dP];have vn:cI+xs.length+(gm-(cI+e4.length))=gm:=by omega
         rw[vn];exact aF _
       ·cases he
      ·cases he
     ·cases he
  ·cases he
 ·cases he
theorem c3.ahp (U:aX C fid G H w){low:Nat}{r:Result Next}{es:Nat}{ds:List V}{c:Array Value}{vals rest:List Value}{e:TypeId}{cap:Nat}(hu:∀d∈ds,(aE d).length=es)(hp:cg ds=true)
  (hc:c.toList=vals++rest) (af:a1 fid G w (ds.flatMap aE) vals) (hle:ds.length<=cap)
  (hr:r=.ok (.value (.slice (some ⟨w.heap.size,0,none⟩) ds.length cap)) (w.drew.alloc (.cells c e))):
  c3 C fid G H w low r (.list es ds) H low:=by
 have kh:aX C fid G H w.drew:=U.jf rfl;have c7:∀m n,Ext G w G w.drew m n:=fun m n=>Ext.jf (w:=w) (w':=w.drew) rfl rfl rfl m n;have hx:∀m n,Ext G w ⟨G.β,fun b=>G.I b\/(b=w.drew.heap.size/\True)⟩ (w.drew.alloc (.cells c e)) m n:=fun m n=>(c7 m n).trans (Ext.rT (.cells c e) True m n);refine⟨_,_,⟨G.β,fun b=>G.I b\/(b=w.drew.heap.size/\True)⟩,.inl hr,kh.rT (.cells c e) True,fun m _=>hx m _,.p _ _ ?_,aF _,aF _⟩;exact .list es ds w.drew.heap.size 0 cap vals (.inr ⟨rfl,trivial⟩) (iz.vf (rest:=rest) (mi _ _) hc) hu ((af.ext U (hx 0 0)).pZ (Ia hp)) hle
theorem ahq (U:aX C fid G H w)(aN:fr C fid vars G w ag ρ){a b:Operand}{t u e e':TypeId}{i:TypeInfo}{cv:Value}{args:Array Operand}{ts:Array TypeId}(ho:o.op=.call {callee:=.builtin .append,args,argTypes:=ts})
  (ha:args= #[a,b]) (ht:ts= #[t,u]) {ki hP:ai} (h1:C.b5 vars a=some ki) (h2:C.b5 vars b=some hP) (hd:C.P.underlying t=some (.slice e)) (hu:C.P.underlying u=some (.slice e')) (hi:C.P.info? e=some i)
  (aO:i.zero=some cv) (pg:cv.cells.size=i.size) (hC:0<i.size) (he:step ag H low (.xe i.size i.bytes ki hP)=some (v,H',low')):c3 C fid G H w low ((execOp ρ o).run C.P w) v H' low':=by
 subst ha;subst ht;have hQ:=aN a ki h1;have hy:=aN b hP h2
 have cc:(execOp ρ o).run C.P w=((Builtin.append_ #[t,u] o.type #[ρ a,ρ b]).run C.P w).andThen fun z w'=>.ok (.value z) w':=by
  rw[vq ho];simp only[builtin,Sem.run_bind,DH,de,iO];rfl
 simp only[step]at he;split at he
 ·rename_i xs eC
  obtain⟨uh,BP,y7,BQ⟩:=Ek U hy eC;split at he
  ·cases he
  rename_i hp;have hp:cg xs=true:=by simpa using hp
  obtain⟨vals,b6,jV,sV⟩:∃vals,a1 fid G w (xs.flatMap aE) vals/\(∀d∈xs,(aE d).length=i.size)/\∀gl,gl.heap=w.heap->(Builtin.firstCells i.size xs.length (.slice uh xs.length BP)).run C.P gl=.ok vals.toArray gl:=by
   by_cases aZ:xs=[]
   ·subst aZ
    refine⟨[],.nil,by simp,fun gl _=> ?_⟩;cases uh with
    |none=>simp[Builtin.firstCells]
    |some c4=>simp[Builtin.firstCells,loadCells,loadCellsFrom]
   ·obtain⟨ug,off,vals,rfl,vi,e5,ml⟩:=BQ aZ
    exact⟨vals,e5,ml,fun gl hw=>El (fun j x hj=>by rw[MS (w:=w) (w':=gl) (by rw[hw])];exact vi j x hj) (by rw[e5.length,mV ml])⟩
  rw[y7]at cc
  have same:xs=[]->∀base n cap,ρ a=.slice base n cap->n<=cap->(execOp ρ o).run C.P w=.ok (.value (ρ a)) w:=by
   intro NC base n cap hs hle;subst NC;have vu:vals=[]:=yx.1 (by rw[b6.length];rfl);subst vu;rw[cc,hs,NA (P:=C.P) hd hu hi (sV w rfl) (by simpa using hle)];cases base<;>simp[storeCells]
  have fresh:∀base,ρ a=.slice base 0 0->0<xs.length->xs.length*(i.bytes+1)<=1099511627776->c3 C fid G H w low ((execOp ρ o).run C.P w) (.list i.size xs) H low:=by
   intro base hs aZ hb;have lv:vals.length=xs.length*i.size:=by rw[b6.length,mV jV]
   have hold:(Builtin.firstCells i.size 0 (.slice base 0 0)).run C.P w.drew=.ok ([]:List Value).toArray w.drew:=by
    cases base<;>simp[Builtin.firstCells,loadCells,loadCellsFrom]
   obtain⟨gm,ec,lA⟩:=NB (P:=C.P) (t:=t) (u:=u) (ty:=o.type) hd hu hi aO (sV w.drew rfl) hold (by omega) (by rw[dP];exact hb);rw[dP]at lA ec;refine c3.ahp U (cap:=gm) (e:=e) jV hp (vals:=vals) (rest:=(Builtin.zeroCells cv.cells (gm-xs.length)).toList) ?_ b6 ec (by rw[cc,hs,lA];rfl);simp
  have pos:¬xs.isEmpty=true->0<xs.length:=fun q=>by
   rcases S2 xs.length with q'|q'
   ·exact absurd (by simpa using yx.1 q') q
   ·exact q'
  have nil:xs.isEmpty=true->xs=[]:=fun q=>by simpa using q
  split at he
  ·rename_i ab
   rw[ab]at hQ;split at he
   ·rename_i q
    simp only[aA,bq]at he;obtain⟨rfl,rfl,rfl⟩:=he;exact .same U (same (nil q) _ _ _ hQ.jh (aF _)) hQ
   ·rename_i q
    split at he
    ·rename_i hb
     simp only[aA,bq]at he;obtain⟨rfl,rfl,rfl⟩:=he;exact fresh _ hQ.jh (pos q) hb.2
    ·cases he
  ·rename_i ab
   rw[ab]at hQ;obtain⟨c4,dG⟩:=hQ.rO;split at he
   ·rename_i q
    simp only[aA,bq]at he;obtain⟨rfl,rfl,rfl⟩:=he;exact .same U (same (nil q) _ _ _ dG (aF _)) hQ
   ·rename_i q
    split at he
    ·rename_i hb
     simp only[aA,bq]at he;obtain⟨rfl,rfl,rfl⟩:=he;exact fresh _ dG (pos q) hb.2
    ·cases he
  ·cases he
 ·cases he
end Go.Abs
namespace Go.Abs
open Go
variable{C:Ctx}{fid:Nat->Nat}{w w':World}{G G':bT}{H:Heap}
variable{vars:List Nat}{ag:ai->V}{ρ:Operand->Value}{low low':Nat}{v:V}{H':Heap}{pos:String}{df:cN}{o:Oper}
theorem Uy:∀{a b:List V},mc (a++b)=(mc a&&mc b)
 |[],b=>by simp[mc]
 |x::a,b=>by simp[mc,Uy (a:=a),yF]
theorem ahr (U:aX C fid G H w)(aN:fr C fid vars G w ag ρ){a b:Operand}{t u e e':TypeId}{n:Nat}{args:Array Operand}{ts:Array TypeId}(ho:o.op=.call {callee:=.builtin .copy,args,argTypes:=ts})
  (ha:args= #[a,b]) (ht:ts= #[t,u]) {ki hP:ai} (h1:C.b5 vars a=some ki) (h2:C.b5 vars b=some hP) (hd:C.P.underlying t=some (.slice e)) (hn:C.sizeOf e=some n)
  (he:step ag H low (.copy n ki hP)=some (v,H',low')):c3 C fid G H w low ((execOp ρ o).run C.P w) v H' low':=by
 subst ha;subst ht;have hx:=aN a ki h1;have hy:=aN b hP h2
 have cc:(execOp ρ o).run C.P w=((Builtin.copy_ #[t,u] o.type #[ρ a,ρ b]).run C.P w).andThen fun z w'=>.ok (.value z) w':=by
  rw[vq ho];simp only[builtin,Sem.run_bind,DH,de,iO];rfl
 have zero:∀base,(∃xs,elems H n (ag hP)=some xs)->ρ a=.slice base 0 0->c3 C fid G H w low ((execOp ρ o).run C.P w) (.int .i64 0) H low:=by
  rintro base ⟨xs,eC⟩ hs;obtain⟨uh,BP,y7,BQ⟩:=Ek U hy eC;refine .same U (x:=.int .i64 0) ?_ (.p _ _ (.int _ _));rw[cc,hs,y7];cases uh<;>cases base<;>simp[Builtin.copy_,run_underlying hd,Builtin.lenOf,Builtin.firstCells,loadCells,loadCellsFrom,y4 (C:=C) hn,storeCells,goInt]
 simp only[step]at he;split at he
 ·rename_i xs ab eC
  simp only[aA,bq]at he;obtain⟨rfl,rfl,rfl⟩:=he;rw[ab]at hx;exact zero _ ⟨_,eC⟩ hx.jh
 ·rename_i xs ab eC
  simp only[aA,bq]at he;obtain⟨rfl,rfl,rfl⟩:=he;rw[ab]at hx;obtain⟨c4,dG⟩:=hx.rO;exact zero _ ⟨_,eC⟩ dG
 ·rename_i l bK off len tag xs ab eC
  split at he
  ·rename_i fb ds hl
   split at he
   ·rename_i eh
    obtain⟨rfl,rfl,fP,rR,jg⟩:=eh;simp only[aA,bq]at he;obtain⟨rfl,rfl,rfl⟩:=he;rw[ab]at hx;obtain⟨uh,BP,y7,BQ⟩:=Ek U hy eC;obtain⟨h0,c4,cI,cap,cp,o9,hD,dG⟩:=hx.nI;obtain⟨aP,en,hr⟩:=U.obj l h0 cp;rw[hl]at en;cases en;obtain⟨p6,En,hfz,eM,mX,c,vv,kZ,rest,hc,fq,hM,e5⟩:=hr;obtain⟨rfl,rfl,-,-⟩:=hD (p6.trans fP)
    have key:∃c1,(Builtin.firstCells fb (Nat.min xs.length cI) (.slice uh xs.length BP)).run C.P w=.ok c1.toArray w/\a1 fid G w ((xs.take cI).flatMap aE) c1/\((xs.take cI).flatMap aE).length=(xs.take cI).length*fb/\∀d∈xs.take cI,(aE d).length=fb:=by
     by_cases aZ:xs=[]
     ·subst aZ
      refine⟨[],?_,by simpa using a1.nil,by simp,by simp⟩;cases uh<;>simp[Builtin.firstCells,loadCells,loadCellsFrom]
     ·obtain⟨ug,o',vals,rfl,vi,p7,ml⟩:=BQ aZ
      have ui:∀d∈xs.take cI,(aE d).length=fb:=fun d hd=>ml d (DC hd);refine⟨vals.take (cI*fb),?_,by rw[Bz ml];exact p7.take _,mV ui,ui⟩;have lv:vals.length=xs.length*fb:=by rw[p7.length,mV ml]
      have aj:(vals.take (cI*fb)).length=Nat.min xs.length cI*fb:=by
       rw[tV,lv,Nat.mul_min_mul_right,Nat.min_comm]
      have:=run_loadCells_list (P:=C.P) w ⟨ug,o',none⟩ (vals.take (cI*fb)) (fun j v hj=>by rw[Addr.add_lit];exact(vi.take _) j v hj);rw[aj]at this;exact this
    obtain⟨c1,Uz,Ip,ND,ahs⟩:=key
    have bh:∀x∈c1,x.oneCell'=true:=by
     refine Ih Ip (Nc ?_);have:mc ((xs.take cI++xs.drop cI).flatMap aE)=true:=by rw[Md];exact jg
     rw[Mg,Uy,cn]at this;exact this.1
    have qG:=Ip.length;have ly:(xs.take cI).length=min cI xs.length:=by simp
    have lP:ds.length=tag:=fP;have hmul:(off+min cI xs.length)*fb<=ds.length*fb:=HH _ (by have:=jO cI xs.length;omega);rw[u4]at hmul;have azy:kZ.length=ds.length*fb:=by rw[e5.length,mV mX]
    have fe:c.size=kZ.length+rest.length:=by rw[<-fC,hM,fD]
    have b7:=run_storeCells_at C.P h0.b (off*fb) vv c1 0 c w hc (by rw[qG,ND,ly];omega) bh
    obtain⟨G',bB,b4⟩:=Ub U cp hl (ds':=ds.take off++xs.take cI++ds.drop (off+min cI xs.length)) (by simp only[fD,tV,qv];omega)
     (fun d hd=>by
       rcases jc.1 hd with q|q
       ·rcases jc.1 q with q|q
        ·exact mX d (DC q)
        ·exact ahs d q
       ·exact mX d (HF q)) (o:=off*fb) Ip (by rw[ND,ly];omega)
     (fun vals af=>by
       rw[Mg,Mg,Bz mX,yY mX,qG,ND,ly,<-u4];exact((af.take _).append Ip).append (af.drop _)) hc
    refine⟨_,_,G',.inl ?_,bB,fun m hm=>b4.le (cM hm (nB _ _)) (aF _),.p _ _ (.int _ _),jO _ _,by simp⟩;rw[cc,dG,y7];simp only[yH]at b7;have vn:xs.length.min cI=min cI xs.length:=Nat.min_comm _ _;rw[vn]at Uz;simp[Builtin.copy_,run_underlying hd,Builtin.lenOf,y4 (C:=C) hn,vn,Uz,b7,goInt]
   ·cases he
  ·cases he
 ·cases he
theorem uj{k:TypeId}{bP:Nat}(hk:C.jS k=some bP)(em:Bool)(n:Nat)(x:Value):(Instr.checkKey em (n+1) k x).run C.P w=.ok () w:=by
 unfold Ctx.jS at hk;unfold Instr.checkKey;split at hk<;>rename_i hd<;>first|(cases hk;done)|(rw[Sem.run_bind,run_underlying hd];rfl)
theorem xy{k:TypeId}{bP:Nat}{d:TypeDesc}(hk:C.jS k=some bP)(hd:C.P.underlying k=some d){a b:V}{e:Bool}{x y:Value}(ha:bd fid G w a x)(hb:bd fid G w b y)(he:ix bP a b=some e):
  Instr.sameNow d x y=some e/\(e=true->Instr.sameBits 10000 y x=true):=by
 unfold Ctx.jS at hk;rw[hd]at hk;unfold ix at he;split at he
 ·split at he
  ·rename_i Ea
   simp only[aA]at he;subst he;subst Ea;rw[ha.jA,hb.jA];cases d<;>simp at hk;refine⟨by simp[Instr.sameNow],fun h=> ?_⟩;simp at h;subst h;simp[Instr.sameBits]
  ·cases he
 ·simp only[aA]at he;subst he
  rw[ha.ox,hb.ox];cases d<;>simp at hk;refine⟨by simp[Instr.sameNow,beq_toListBytes,ByteArray.toList_eq],fun h=> ?_⟩;simp at h;subst h;simp[Instr.sameBits,beq_toListBytes,ByteArray.toList_eq]
 ·simp only[aA]at he;subst he
  rw[ha.kY,hb.kY];cases d<;>simp at hk;refine⟨by simp[Instr.sameNow],fun h=> ?_⟩;simp at h;subst h;simp[Instr.sameBits]
 ·cases he
theorem rV{k:TypeId}{bP:Nat}{d:TypeDesc}(hk:C.jS k=some bP)(hd:C.P.underlying k=some d){a:V}{x:Value}(ha:bd fid G w a x):∀{bf:List (V × V)} {es:List MapEntry} (i:Nat) {r:Option V},
  a1 fid G w (bf.map (·.1)) (es.map (·.key))->a1 fid G w (bf.map (·.2)) (es.map (·.val))->hK bP a bf=some r->
  match r with
  |none=>Instr.findNow d x es i=some none
  |some u=>∃j y,Instr.findNow d x es i=some (some (i+j,y))/\bd fid G w u y/\(∃e,es[j]? =some e/\Instr.sameBits 10000 e.key x=true)
 |[],[],i,r,_,_,h=>by
  simp only[hK,aA]at h;subst h;rfl
 |[],_::_,_,_,h,_,_=>by simp at h;cases h
 | _::_,[],_,_,h,_,_=>by simp at h;cases h
 |(bz,u)::bf,e::es,i,r,eD,cW,h=>by
  simp only[de]at eD cW;cases eD with
  |cons _ _ _ _ gx eD=>
   cases cW with
   |cons _ _ _ _ qL cW=>
    simp only[hK]at h;split at h
    ·rename_i he
     simp only[aA]at h;subst h;obtain⟨hs,hb⟩:=xy hk hd ha gx he;exact⟨0,e.val,by simp[Instr.findNow,hs],qL,e,rfl,hb rfl⟩
    ·rename_i he
     obtain⟨hs,-⟩:=xy hk hd ha gx he;have ih:=rV hk hd ha (i+1) eD cW h;cases r with
     |none=>simpa[Instr.findNow,hs]using ih
     |some u'=>
      obtain⟨j,y,h1,h2,e',ar,aR⟩:=ih;refine⟨j+1,y,?_,h2,e',by simpa using ar,aR⟩;have:i+(j+1)=i+1+j:=by omega
      rw[this];simpa[Instr.findNow,hs]using h1
    ·cases h
theorem vw{k:TypeId}{d:TypeDesc}(hd:C.P.underlying k=some d){x:Value}{es:List MapEntry}{r:Option (Nat × Value)}(h:Instr.findNow d x es 0=some r):(Instr.findKey k x es).run C.P w=.ok r w:=by
 unfold Instr.findKey;simp only[Sem.run_bind,run_underlying hd,Result.andThen_ok,h,Sem.run_pure]
theorem Iq{k:TypeId}{bP:Nat}(hk:C.jS k=some bP):∃d,C.P.underlying k=some d:=by
 unfold Ctx.jS at hk;split at hk<;>rename_i hd<;>first|exact⟨_,hd⟩|cases hk
theorem aht{t:TypeId}{z:V}(aO:C.zeroV t=some z)(hu:uc z=false):∃cv,(∀w,(zeroValue t).run C.P w=.ok cv w)/\∀(G:bT) (w:World),bd fid G w z cv:=by
 unfold Ctx.zeroV at aO;split at aO
 ·rename_i i hi
  split at aO
  ·rename_i cv BJ
   refine⟨cv,fun w=> ?_,fun G w=>.p _ _ ((D5 cv aO).resolve_left (by rintro rfl;simp[uc]at hu))⟩;simp only[zeroValue,Sem.run_bind,run_typeInfo (P:=C.P) w hi,Result.andThen_ok,BJ,Sem.run_pure]
  ·cases aO
 ·cases aO
theorem xz{r:Nat}{es:Array MapEntry}{bL:Nat}(h:w.heap[r]? =some (.map es bL)):(getObj r).run C.P w=.ok (.map es bL) w:=by simp[getObj,Sem.run,h]
theorem BR{r:Nat}{es:Array MapEntry}{bL:Nat}(o:Obj)(h:w.heap[r]? =some (.map es bL)):(setObj r o).run C.P w=.ok () {w with heap:=w.heap.setIfInBounds r o}:=by simp[setObj,Sem.run,h]
theorem ahu (U:aX C fid G H w)(aN:fr C fid vars G w ag ρ){t:TypeId}{x i:Operand}{ok:Bool}(ho:o.op=.lookup t x i ok)(hc:C.cO vars pos o.op=some df)(he:step ag H low df=some (v,H',low')):
  c3 C fid G H w low ((execOp ρ o).run C.P w) v H' low':=by
 rw[ho]at hc;simp only[Ctx.cO]at hc;split at hc
 ·rename_i k e cE kg hd h1 h2
  split at hc
  ·rename_i bP z gK aO
   split at hc
   ·cases hc
   ·rename_i ahv
    simp only[aA]at hc;subst hc;have hx:=aN x cE h1;have hi:=aN i kg h2;obtain⟨cv,oz,oA⟩:=aht (fid:=fid) aO (by simpa using ahv);obtain⟨Ir,jC⟩:=Iq gK
    have cc:(execOp ρ o).run C.P w=((Instr.lookup t (ρ x) (ρ i) ok).run C.P w).andThen fun z w'=>.ok (.value z) w':=by
     unfold execOp;rw[ho];simp only[Sem.run_bind];rfl
    have res:∀(u:V) (y:Value) (b:Bool),bd fid G w u y->bd fid G w (if ok then .aU [u,.bool b]else u) (if ok then .tuple #[y,.bool b]else y):=by
     intro u y b h;cases ok
     ·exact h
     ·exact .aU _ [y,.bool b] (.cons _ _ _ _ h (.cons _ _ _ _ (.p _ _ (.bool _)) .nil))
    simp only[step]at he;split at he
    ·rename_i ab
     simp only[aA,bq]at he;obtain⟨rfl,rfl,rfl⟩:=he;rw[ab]at hx;refine .same U ?_ (res z cv false (oA G w));rw[cc,hx.Ng];unfold Instr.lookup;have ae:=vw (C:=C) (w:=w) jC (x:=ρ i) (es:=[]) (r:=none) rfl;simp only[Sem.run_bind,run_underlying hd,Result.andThen_ok,Sem.run_pure,uj gK,ae,oz]
    ·rename_i l ab
     rw[ab]at hx;obtain⟨h0,cp,-,dG⟩:=hx.mapInv;split at he
     ·rename_i bf hl
      obtain⟨aP,en,hr⟩:=U.obj l h0 cp;rw[hl]at en;cases en;obtain⟨-,-,es,bL,hm,gx,xv,-⟩:=hr;split at he
      ·rename_i u ji
       simp only[aA,bq]at he;obtain⟨rfl,rfl,rfl⟩:=he;obtain⟨j,y,ae,e5,-⟩:=rV gK jC hi 0 gx xv ji;refine .same U ?_ (res u y true e5);rw[cc,dG];unfold Instr.lookup;simp only[Sem.run_bind,run_underlying hd,Result.andThen_ok,Sem.run_pure,xz hm,uj gK,vw (C:=C) jC ae]
      ·rename_i ji
       simp only[aA,bq]at he;obtain⟨rfl,rfl,rfl⟩:=he;have ae:=rV gK jC hi 0 gx xv ji;refine .same U ?_ (res z cv false (oA G w));rw[cc,dG];unfold Instr.lookup;simp only[Sem.run_bind,run_underlying hd,Result.andThen_ok,Sem.run_pure,xz hm,uj gK,vw (C:=C) jC ae,oz]
      ·cases he
     ·cases he
    ·cases he
  ·cases hc
 ·cases hc
theorem NF{bP:Nat}{k u:V}:∀{bf:List (V × V)},hK bP k bf=some none->kU bP k u bf=bf++[(k,u)]
 |[],_=>rfl
 |(bz,v)::r,h=>by
  simp only[hK]at h;split at h
  ·cases h
  ·rename_i he
   simp[kU,he,NF h]
  ·cases h
theorem UA{k:TypeId}{bP:Nat}{d:TypeDesc}(hk:C.jS k=some bP)(hd:C.P.underlying k=some d){a:V}{x:Value}(ha:bd fid G w a x){u:V}{y:Value}(hu:bd fid G w u y):∀{bf:List (V × V)} {es:List MapEntry} (i:Nat) {r:V} {j:Nat} {z:Value},
  a1 fid G w (bf.map (·.1)) (es.map (·.key))->a1 fid G w (bf.map (·.2)) (es.map (·.val))->hK bP a bf=some (some r)->Instr.findNow d x es i=some (some (i+j,z))->
  a1 fid G w ((kU bP a u bf).map (·.1)) ((es.modify j fun e=>{e with key:=x,val:=y}).map (·.key))/\a1 fid G w ((kU bP a u bf).map (·.2)) ((es.modify j fun e=>{e with key:=x,val:=y}).map (·.val))
 |[],[],i,r,j,z,_,_,h,_=>by simp[hK]at h
 |[],_::_,_,_,_,_,h,_,_,_=>by simp at h;cases h
 | _::_,[],_,_,_,_,h,_,_,_=>by simp at h;cases h
 |(bz,u')::bf,e::es,i,r,j,z,eD,cW,h,ae=>by
  simp only[de]at eD cW;cases eD with
  |cons _ _ _ _ gx eD=>
   cases cW with
   |cons _ _ _ _ qL cW=>
    simp only[hK]at h;split at h
    ·rename_i he
     obtain⟨hs,-⟩:=xy hk hd ha gx he;simp only[Instr.findNow,hs,aA,bq]at ae;obtain rfl:j=0:=by omega
     simp only[kU,he,if_true,de,List.modify_zero_cons];exact⟨.cons _ _ _ _ ha eD,.cons _ _ _ _ hu cW⟩
    ·rename_i he
     obtain⟨hs,-⟩:=xy hk hd ha gx he;simp only[Instr.findNow,hs]at ae;have h9:=rV hk hd ha (i+1) eD cW h;obtain⟨vx,oy,h1,-,-⟩:=h9;rw[h1]at ae;simp only[aA,bq]at ae;obtain⟨hj,rfl⟩:=ae;obtain rfl:j=vx+1:=by omega
     have ih:=UA hk hd ha hu (i+1) eD cW h h1;have aZ:¬(ix bP a bz=some true):=by rw[he];simp
     simp only[kU,aZ,if_false,de,List.modify_succ_cons];exact⟨.cons _ _ _ _ gx ih.1,.cons _ _ _ _ qL ih.2⟩
    ·cases h
theorem o4.push{es:Array MapEntry}{bL:Nat}(h:o4 es bL)(x y:Value):o4 (es.push {key:=x,val:=y,born:=bL}) (bL+1):=by
 refine⟨fun e he=> ?_,?_⟩
 ·rw[S4,jc]at he
  rcases he with he|he
  ·exact Ml (h.1 e he)
  ·rw[yA]at he;subst he;exact yC _
 ·rw[S4,jP,tU]
  refine⟨h.2,by simp,fun a ha b hb=> ?_⟩;simp only[de,iO,yA]at hb;subst hb;obtain⟨e,he,rfl⟩:=dX.1 ha;exact qA (h.1 e he)
theorem UB (x y:Value):∀(l:List MapEntry) (j:Nat),(l.modify j fun e=>{e with key:=x,val:=y}).map (·.born)=l.map (·.born)
 |[],j=>by cases j<;>simp
 |e::l,0=>by simp
 |e::l,j+1=>by simp[UB x y l j]
theorem o4.modify{es:Array MapEntry}{bL:Nat}(h:o4 es bL)(j:Nat)(x y:Value):o4 (es.modify j fun e=>{e with key:=x,val:=y}) bL:=by
 have ab:(es.modify j fun e=>{e with key:=x,val:=y}).toList.map (·.born)=es.toList.map (·.born):=by
  rw[Array.toList_modify];exact UB x y _ j
 refine⟨fun e he=> ?_,by rw[ab];exact h.2⟩;have:e.born∈es.toList.map (·.born):=by rw[<-ab];exact dX.2 ⟨e,he,rfl⟩
 obtain⟨e',p8,q⟩:=dX.1 this;rw[<-q];exact h.1 e' p8
theorem UC (U:aX C fid G H w)(aN:fr C fid vars G w ag ρ){t:TypeId}{m k x:Operand}(ho:o.op=.mapUpdate t m k x\/o.op=.insert t m k x)(hc:C.cO vars pos o.op=some df)(he:step ag H low df=some (v,H',low')):
  c3 C fid G H w low ((execOp ρ o).run C.P w) v H' low':=by
 have hc:C.cO vars pos (.mapUpdate t m k x)=some df:=by
  rcases ho with ho|ho
  ·rw[ho]at hc;exact hc
  ·rw[ho]at hc;exact hc
 simp only[Ctx.cO]at hc;split at hc
 ·rename_i eB sW am hR cE hd h1 h2 ar
  obtain⟨bP,gK,rfl⟩:=cj.1 hc;have hm:=aN m am h1;have hk:=aN k hR h2;have hx:=aN x cE ar;obtain⟨Ir,jC⟩:=Iq gK
  have cc:(execOp ρ o).run C.P w=((Instr.mapUpdate t (ρ m) (ρ k) (ρ x)).run C.P w).andThen fun _ w'=>.ok .skip w':=by
   unfold execOp;rcases ho with ho|ho<;>(rw[ho];simp only[Sem.run_bind];rfl)
  simp only[step]at he;split at he
  ·rename_i u' H1 bG hfz
   split at he
   ·cases he
   ·rename_i mX
    obtain⟨ay,f1,b6⟩:=Ie U hx hfz;have fI:=f1.rel;have Is:=f1.ext 0 (cD _);have mr:=hm.ext U Is;have gx:=hk.ext U Is;refine c3.BD f1 ?_;split at he
    ·rename_i l ab
     rw[ab]at mr;obtain⟨h0,cp,UD,dG⟩:=mr.mapInv;split at he
     ·rename_i bf hl
      obtain⟨aP,en,hr⟩:=fI.obj l h0 cp;rw[hl]at en;cases en;obtain⟨oC,jW,es,bL,eQ,eD,cW,b7⟩:=hr;split at he
      ·rename_i bQ ji
       simp only[aA,bq]at he;obtain⟨rfl,rfl,rfl⟩:=he;have aK:h0.b<w.heap.size:=fI.blk l h0 cp
       have fin:∀(uk:Obj) (bK:Array MapEntry) (sX:Nat),uk=.map bK sX->(Instr.mapUpdate t (ρ m) (ρ k) (ρ x)).run C.P w=.ok () {w with heap:=w.heap.setIfInBounds h0.b uk}->
         a1 fid ay w ((kU bP (ag hR) u' bf).map (·.1)) (bK.toList.map (·.key))->a1 fid ay w ((kU bP (ag hR) u' bf).map (·.2)) (bK.toList.map (·.val))->o4 bK sX->
         c3 C fid ay H1 w bG ((execOp ρ o).run C.P w) .undef (H1.set l (.map (kU bP (ag hR) u' bf))) (min bG l):=by
        rintro uk bK sX rfl lA xA y8 y9
        have vy:∀b,b≠h0.b->({w with heap:=w.heap.setIfInBounds h0.b (.map bK sX)}:World).heap[b]? =w.heap[b]? :=fun b aZ=>by
         show(w.heap.setIfInBounds h0.b _)[b]? =_;rw[SS (kS aZ)]
        have BS:({w with heap:=w.heap.setIfInBounds h0.b (.map bK sX)}:World).heap[h0.b]? =some (.map bK sX):=by
         show(w.heap.setIfInBounds h0.b _)[h0.b]? =_;simp[aK]
        have dk:({w with heap:=w.heap.setIfInBounds h0.b (.map bK sX)}:World).heap.size=w.heap.size:=by simp
        have dM:Ext ay w ⟨ck ay.β l h0,ay.I⟩ {w with heap:=w.heap.setIfInBounds h0.b (.map bK sX)} l H1.length:=
         Ext.write fI cp jW rfl (aF _) id rfl dk vy rfl rfl
        refine⟨undef,_,_,.inr ⟨by rw[cc,lA];rfl,rfl⟩,aX.write fI cp jW rfl jW (aF _) id rfl dk vy (.map (kU bP (ag hR) u' bf)) ⟨oC,jW,bK,sX,BS,xA.ext fI dM,y8.ext fI dM,y9⟩,
         fun m hm=>dM.le (cM hm (nB _ _)) (aF _),.undef _,jO _ _,by simp⟩
       cases bQ with
       |none=>
        have ae:=rV gK jC gx 0 eD cW ji;refine fin _ (es.push {key:=ρ k,val:=ρ x,born:=bL}) (bL+1) rfl ?_ ?_ ?_ (b7.push _ _)
        ·unfold Instr.mapUpdate
         simp only[dG,Sem.run_bind,run_underlying hd,Result.andThen_ok,xz eQ,uj gK,vw (C:=C) jC ae,BR _ eQ]
        ·rw[NF ji]
         simp only[jP,de,iO,S4];exact eD.append (.cons _ _ _ _ gx .nil)
        ·rw[NF ji]
         simp only[jP,de,iO,S4];exact cW.append (.cons _ _ _ _ b6 .nil)
       |some r=>
        obtain⟨j,y,ae,-,ahw,ahx,ahy⟩:=rV gK jC gx 0 eD cW ji;obtain⟨s1,s2⟩:=UA gK jC gx b6 0 eD cW ji ae;rw[dP]at ae;refine fin _ (es.modify j fun e=>{e with key:=ρ k,val:=ρ x}) bL rfl ?_ (by simpa using s1) (by simpa using s2) (b7.modify _ _ _);have ahz:es[j]? =some ahw:=by rw[<-gr];exact ahx
        unfold Instr.mapUpdate;simp only[dG,Sem.run_bind,run_underlying hd,Result.andThen_ok,xz eQ,uj gK,vw (C:=C) jC ae,ahz,o1,tW,Instr.keyThatStays,ahy,if_true,Sem.run_pure,BR _ eQ]
      ·cases he
     ·cases he
    ·cases he
  ·cases he
 ·cases hc
end Go.Abs
