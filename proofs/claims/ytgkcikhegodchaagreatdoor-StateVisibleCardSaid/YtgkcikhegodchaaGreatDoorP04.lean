/- Texts of this claim, joined and written short by a program. -/
import Derived.Test.YtgkcikhegodchaaGreatDoorP03
import Derived.Laws.Append
import Derived.Test.YtgkcikhegodchaaGreatDoorP00
set_option linter.unusedVariables false
set_option linter.unusedSimpArgs false
set_option linter.unusedSectionVars false
namespace Go.Abs
open Go
variable{C:Ctx}{fid:Nat->Nat}{w w':World}{G G':cg}{H:Heap}
variable{vars:List Nat}{ah:ai->V}{ρ:Operand->Value}{low low':Nat}{v:V}{H':Heap}{pos:String}{dv:cX}{o:Oper}
theorem WO (off:Nat):∀(dk:List Value) (k:Nat) (cells:Array Value),off+k+dk.length<=cells.size->
  ((dk.zipIdx k).foldl (fun(cs:Array Value) (p:Value × Nat)=>cs.setIfInBounds (off+p.2) p.1) cells).toList=cells.toList.take (off+k)++dk++cells.toList.drop (off+k+dk.length)
 |[],k,cells,_=>by simp
 |z::dk,k,cells,h=>by
  simp only[iI]at h;rw[List.zipIdx_cons,ti,WO off dk (k+1) _ (by simp;omega)];have e:=list_seg_step cells.toList (off+k) z dk (by simp;omega);rw[iI];simpa[Array.toList_setIfInBounds,rb]using e
theorem WQ{place:Nat->Option (Nat × Nat)}{cells:Array Value}{i:Nat}{x:Value}{rest:List (Nat × Value)}{off n:Nat}(hp:place i=some (off,n))(hs:x.cells.size=n)(ia:off+n<=cells.size):
  ∃sC,Instr.fill place cells ((i,x)::rest)=Instr.fill place sC rest/\sC.toList=cells.toList.take off++x.cells.toList++cells.toList.drop (off+x.cells.toList.length):=by
 refine⟨x.cells.zipIdx.foldl (fun cs (c,j)=>cs.setIfInBounds (off+j) c) cells,?_,?_⟩
 ·have:¬(x.cells.size≠n||decide (off+x.cells.size>cells.size))=true:=by simp;omega
  simp only[Instr.fill,hp];rw[if_neg (by simpa using this)]
 ·rw[<-Vr,Array.toList_zipIdx]
  have:=WO off x.cells.toList 0 cells (by simp;omega);simpa using this
theorem WR{place:Nat->Option (Nat × Nat)}:∀{ps:List (Nat × Value)} {aX:List (Nat × Nat × V)} {cs cs':List V} {cells:Array Value},ps.length=aX.length->
  (∀(j:Nat) p a,ps[j]? =some p->aX[j]? =some a->place p.1=some (a.1,a.2.1)/\bw fid G w a.2.2 p.2)->bj fid G w cs cells.toList->vP cs aX=some cs'->
  ∃sC,Instr.fill place cells ps=some sC/\bj fid G w cs' sC.toList
 |[],[],cs,cs',cells,_,_,af,h=>by
  simp only[vP,aD]at h;subst h;exact⟨cells,rfl,af⟩
 |[],_::_,_,_,_,hl,_,_,_=>by simp at hl
 | _::_,[],_,_,_,hl,_,_,_=>by simp at hl
 |(i,x)::ps,(off,n,u)::aX,cs,cs',cells,hl,hp,af,h=>by
  simp only[vP]at h;split at h
  ·rename_i hc
   obtain⟨CL,ya⟩:=hp 0 _ _ rfl rfl;obtain⟨bI,cq⟩:=CF ya hc.2.2;have gm:=af.length;have js:=bI.length;have e0:x.cells.size=n:=by rw[<-gY];simp only at js;rw[js,hc.1]
   obtain⟨OS,ad,e2⟩:=WQ (rest:=ps) CL e0 (by rw[<-gY,gm];exact hc.2.1);have kB:bj fid G w (setCells cs off (aI u)) OS.toList:=by rw[e2];exact E0 off af bI (by rw[hc.1];exact hc.2.1)
   obtain⟨sC,bK,cw⟩:=WR (by simpa using hl) (fun j p a h1 h2=>hp (j+1) p a (by simpa using h1) (by simpa using h2)) kB h;exact⟨sC,by rw[ad,bK],cw⟩
  ·cases h
theorem ajq:∀(xs cs:List V),xs.length=cs.length->setCells cs 0 xs=xs:=by
 have key:∀(xs a b:List V),xs.length=b.length->setCells (a++b) a.length xs=a++xs:=by
  intro xs
  induction xs with
  |nil=>intro a b h;cases b<;>simp_all [setCells]
  |cons x xs ih=>
   intro a b h;cases b with
   |nil=>simp at h
   |cons y b=>
    have:=ih (a++[x]) b (by simpa using h);simp only[setCells];simpa using this
 intro xs cs h;simpa using key xs [] cs h
theorem WS{es:Nat}:∀{ps:List (Nat × Value)} {aX:List (Nat × V)} {ds ds':List V} {cells:Array Value},ps.length=aX.length->
  (∀(j:Nat) p a,ps[j]? =some p->aX[j]? =some a->p.1=a.1/\bw fid G w a.2 p.2)->(∀d∈ds,(aI d).length=es)->bj fid G w (ds.flatMap aI) cells.toList->sq es ds aX=some ds'->
  ∃sC,Instr.fill (fun i=>some (i*es,es)) cells ps=some sC/\bj fid G w (ds'.flatMap aI) sC.toList/\(∀d∈ds',(aI d).length=es)/\ds'.length=ds.length
 |[],[],ds,ds',cells,_,_,hu,af,h=>by
  simp only[sq,aD]at h;subst h;exact⟨cells,rfl,af,hu,rfl⟩
 |[],_::_,_,_,_,hl,_,_,_,_=>by simp at hl
 | _::_,[],_,_,_,hl,_,_,_,_=>by simp at hl
 |(i,x)::ps,(zC,u)::aX,ds,ds',cells,hl,hp,hu,af,h=>by
  simp only[sq]at h;split at h
  ·rename_i hc
   obtain⟨CL,ya⟩:=hp 0 _ _ rfl rfl;simp only at CL ya;subst CL;obtain⟨bI,cq⟩:=CF ya hc.2.2;have gm:=af.length;have kx:=nv hu;have js:=bI.length;have e0:x.cells.size=es:=by rw[<-gY,js,hc.1]
   have hi:i*es+es<=ds.length*es:=by
    have:(i+1)*es<=ds.length*es:=Nx _ hc.2.1;rw[EC]at this;exact this
   obtain⟨OS,ad,e2⟩:=WQ (place:=fun i=>some (i*es,es)) (cells:=cells) (rest:=ps) (i:=i) rfl e0 (by rw[<-gY,gm];omega);obtain⟨d,hd⟩:∃d,ds[i]? =some d:=⟨_,jD hc.2.1⟩;have sx:=OB hu hd (d':=u) (f:=0) (xs:=aI u) (by rw[hc.1];omega) (ajq _ _ (by rw[hc.1,hu d (eZ hd)])).symm;rw[zw]at sx;have kB:bj fid G w ((ds.set i u).flatMap aI) OS.toList:=by rw[e2,sx];exact E0 _ af bI (by rw[hc.1];omega)
   obtain⟨sC,bK,cw,dC,gp⟩:=WS (by simpa using hl) (fun j p a h1 h2=>hp (j+1) p a (by simpa using h1) (by simpa using h2))
    (fun a al=>by rcases List.mem_or_eq_of_mem_set al with q|rfl;exact hu a q;exact hc.1) kB h
   exact⟨sC,by rw[ad,bK],cw,dC,by rw[gp];simp⟩
  ·cases h
theorem WT{α β:Type}(f:α->Sem β)(g:α->β):∀(l:List α),(∀a∈l,∀w,(f a).run C.P w=.ok (g a) w)->(l.mapM f).run C.P w=.ok (l.map g) w
 |[],_=>by simp
 |a::l,h=>by
  rw[List.mapM_cons,Sem.run_bind,h a (by simp),Result.andThen_ok,Sem.run_bind,WT f g l (fun b hb=>h b (by simp[hb])),Result.andThen_ok,Sem.run_pure];rfl
theorem ajr{α β:Type}(f:α->Sem β)(g:α->β)(l:Array α)(h:∀a∈l.toList,∀w,(f a).run C.P w=.ok (g a) w):(l.mapM f).run C.P w=.ok (l.map g) w:=by
 rw[Array.mapM_eq_mapM_toList,Sem.run_map,WT f g _ h,Result.andThen_ok];congr 1;apply Array.ext';simp
theorem E9{t:TypeId}{z:List V}(aJ:C.zeroCells t=some z):∃cK,(∀w,(zeroValue t).run C.P w=.ok cK w)/\(∀(G:cg) (w:World),bj fid G w z cK.cells.toList)/\bM z=true/\
  ∃i,C.P.info? t=some i/\i.zero=some cK:=by
 unfold Ctx.zeroCells at aJ;split at aJ
 ·rename_i i hi
  split at aJ
  ·rename_i cK CH
   split at aJ
   ·rename_i vs c6
    split at aJ
    ·rename_i a1
     simp only[aD]at aJ;subst aJ;refine⟨cK,fun w=> ?_,fun G w=>dp.pG (EX _ c6),a1,i,hi,CH⟩;simp only[zeroValue,Sem.run_bind,run_typeInfo (P:=C.P) w hi,Result.andThen_ok,CH,Sem.run_pure]
    ·cases aJ
   ·cases aJ
  ·cases aJ
 ·cases aJ
theorem wm{α β:Type}(f:α->Option β):∀{l:List α} {r:List β},ee f l=some r->r.length=l.length
 |[],_,h=>by simp only[ee,aD]at h;subst h;rfl
 |a::l,_,h=>by
  simp only[ee]at h;split at h
  ·split at h
   ·rename_i aQ Fa
    simp only[aD]at h;subst h;simp[wm f Fa]
   ·cases h
  ·cases h
theorem wo{α β:Type}(f:α->Option β):∀{l:List α} {r:List β},ee f l=some r->∀{j:Nat} {a:α} {b:β},l[j]? =some a->r[j]? =some b->f a=some b
 |[],_,h,j,a,b,h1,_=>by simp at h1
 |a::l,_,h,j,bn,eN,h1,h2=>by
  simp only[ee]at h;split at h
  ·rename_i b hb
   split at h
   ·rename_i aQ Fa
    simp only[aD]at h;subst h;cases j with
    |zero=>simp at h1 h2;subst h1;subst h2;exact hb
    |succ j=>exact wo f Fa (by simpa using h1) (by simpa using h2)
   ·cases h
  ·cases h
theorem ajs (U:bd C fid G H w)(aU:fK C fid vars G w ah ρ){t:TypeId}{parts:Array (Nat × Operand)}(ho:o.op=.build t parts)(hc:C.c2 vars pos o.op=some dv)(he:step ah H low dv=some (v,H',low')):
  df C fid G H w low ((execOp ρ o).run C.P w) v H' low':=by
 rw[ho]at hc
 have ct:(execOp ρ o).run C.P w=((Instr.build t (parts.map fun(i,x)=>(i,ρ x))).run C.P w).andThen fun z w'=>.ok (.value z) w':=by
  unfold execOp;rw[ho];simp only[Sem.run_bind];rfl
 have main:∀(z:List V) (ap:List (Nat × Nat × ai)) (place:Nat->Option (Nat × Nat)),C.zeroCells t=some z->ap.length=parts.toList.length->
   (∀(j:Nat) p a,parts.toList[j]? =some p->ap[j]? =some a->place p.1=some (a.1,a.2.1)/\C.cl vars p.2=some a.2.2)->
   (∀(cK:Value) (w:World),(∀w,(zeroValue t).run C.P w=.ok cK w)->∀cells,Instr.fill place cK.cells (parts.toList.map fun(i,x)=>(i,ρ x))=some cells->
     (Instr.build t (parts.map fun(i,x)=>(i,ρ x))).run C.P w=.ok (.agg cells) w)->
   step ah H low (.build z ap)=some (v,H',low')->df C fid G H w low ((execOp ρ o).run C.P w) v H' low':=by
  intro z ap place aJ hlen ky hb he;obtain⟨cK,oO,oP,a1,-⟩:=E9 (fid:=fid) aJ;simp only[step]at he;obtain⟨cs,fJ,he⟩:=cD.1 he;simp only[bH]at he;obtain⟨rfl,rfl,rfl⟩:=he
  obtain⟨cells,ad,e2⟩:=WR (fid:=fid) (G:=G) (w:=w) (place:=place) (ps:=parts.toList.map fun(i,x)=>(i,ρ x)) (aX:=ap.map fun p=>(p.1,p.2.1,ah p.2.2))
   (by simp[hlen]) (fun j p a h1 h2=>by
     simp only[iH,cD]at h1 h2;obtain⟨Fb,qF,rfl⟩:=h1;obtain⟨bn,hf,rfl⟩:=h2;exact⟨(ky j Fb bn qF hf).1,aU _ _ (ky j Fb bn qF hf).2⟩) (oP G w) fJ
  refine df.same U (x:=.agg cells) ?_ (.agg _ cells.toList e2);rw[ct,hb cK w oO cells ad];rfl
 simp only[Ctx.c2]at hc;split at hc
 ·rename_i fs z hd aJ
  split at hc
  ·cases hc
  ·rename_i eC
   obtain⟨ap,mJ,rfl⟩:=cD.1 hc
   have dr:∀f∈fs.toList,∃n,C.sizeOf f.type=some n:=by
    intro f ag;cases bu:C.sizeOf f.type with
    |some n=>exact⟨n,rfl⟩
    |none=>exact absurd (uL.2 ⟨f,ag,by simp[bu]⟩) eC
   refine main z ap (fun i=>(fs.map fun f=>(f.offset,(C.sizeOf f.type).getD 0))[i]?) aJ (wm _ mJ) ?_ ?_ he
   ·intro j p a h1 h2
    have:=wo _ mJ h1 h2;split at this
    ·rename_i f ag
     split at this
     ·rename_i n x hn hx
      simp only[aD]at this;subst this;refine⟨?_,hx⟩;simp only[Array.getElem?_map,ag,si,hn,xO]
     ·cases this
    ·cases this
   ·intro cK w oO cells OT
    have hm:=ajr (C:=C) (w:=w) (fun(f:Field)=>(do pure (f.offset,<-Go.sizeOf f.type):Sem (Nat × Nat))) (fun f=>(f.offset,(C.sizeOf f.type).getD 0)) fs (fun f ag w=>by
     obtain⟨n,hn⟩:=dr f ag;simp only[Sem.run_bind,zQ (C:=C) hn,Result.andThen_ok,Sem.run_pure,hn,xO])
    have ky:(parts.map fun(i,x)=>(i,ρ x)).toList=parts.toList.map fun(i,x)=>(i,ρ x):=by simp
    unfold Instr.build;simp only[Sem.run_bind,oO,run_underlying hd,Result.andThen_ok,hm,ky,OT,Sem.run_pure]
 ·rename_i n e z hd aJ
  split at hc
  ·rename_i nT hs
   obtain⟨ap,mJ,rfl⟩:=cD.1 hc;refine main z ap (fun i=>some (i*nT,nT)) aJ (wm _ mJ) ?_ ?_ he
   ·intro j p a h1 h2
    have:=wo _ mJ h1 h2;split at this
    ·rename_i x hx
     simp only[aD]at this;subst this;exact⟨rfl,hx⟩
    ·cases this
   ·intro cK w oO cells OT
    have ky:(parts.map fun(i,x)=>(i,ρ x)).toList=parts.toList.map fun(i,x)=>(i,ρ x):=by simp
    unfold Instr.build;simp only[Sem.run_bind,oO,run_underlying hd,Result.andThen_ok,zQ (C:=C) hs,ky,OT,Sem.run_pure]
  ·cases hc
 ·cases hc
end Go.Abs
namespace Go.Abs
open Go
variable{C:Ctx}{fid:Nat->Nat}{w w':World}{G G':cg}{H:Heap}
variable{vars:List Nat}{ah:ai->V}{ρ:Operand->Value}{low low':Nat}{v:V}{H':Heap}{pos:String}{dv:cX}{o:Oper}
theorem bd.sD (U:bd C fid G H w)(aY:Obj)(p:Prop):bd C fid ⟨G.β,fun b=>G.I b\/(b=w.heap.size/\p)⟩ H (w.alloc aY) where
 obj l h hb:=by
  obtain⟨o,ho,hr⟩:=U.obj l h hb;exact⟨o,ho,j8.mono (G:=G) (G':=⟨G.β,fun b=>G.I b\/(b=w.heap.size/\p)⟩) (mD.refl _) (fun b (hi:G.I b)=>⟨.inl hi,alloc_old (U.c9 b hi).1⟩) (alloc_old (U.blk l h hb)) hr⟩
 inj:=U.inj
 blk l h hb:=by rw[World.size_alloc];have:=U.blk l h hb;omega
 c9 b hi:=by
  rw[World.size_alloc];rcases hi with hi|⟨rfl,-⟩
  ·exact⟨by have:=(U.c9 b hi).1;omega,(U.c9 b hi).2⟩
  ·exact⟨by omega,fun l h hb q=>by have:=U.blk l h hb;omega⟩
 kV l h hb ag:=.inl (U.kV l h hb ag)
 ff b o bb:=⟨.inl (U.ff b o bb).1,by rw[alloc_old (U.c9 b (U.ff b o bb).1).1];exact(U.ff b o bb).2⟩
theorem Ext.sD (aY:Obj)(p:Prop)(m n:Nat):Ext G w ⟨G.β,fun b=>G.I b\/(b=w.heap.size/\p)⟩ (w.alloc aY) m n where
 size:=by simp
 os:=rfl
 output:=rfl
 eH b hb _:=alloc_old hb
 homes:=.refl _
 oG l h hb:=.inl ⟨h,hb,.inl rfl⟩
 c9 _ h:=.inl h
 pI b hi:=by
  rcases hi with hi|⟨rfl,-⟩
  ·exact .inl hi
  ·exact .inr (.inl (aN _))
theorem WU{z:List V}(h:bM z=true):aI (mA z)=z:=by
 unfold mA;split
 ·rename_i x
  simp only[bM,sj]at h;cases x<;>first|rfl|simp[dY]at h
 ·rfl
theorem JH{z:List V}{cK:Array Value}(aJ:bj fid G w z cK.toList)(a1:bM z=true)(iW:0<cK.size):∀(n:Nat),
  bj fid G w ((List.replicate n (mA z)).flatMap aI) ((List.range (n*cK.size)).map fun i=>cK[i%cK.size]!)
 |0=>by simpa using bj.nil
 |n+1=>by
  have ih:=JH aJ a1 iW n;have ad:(n+1)*cK.size=cK.size+n*cK.size:=by rw[EC,Nat.add_comm]
  rw[Ex,lH,WU a1,ad,List.range_add,kS,pC]
  have e2:(List.range cK.size).map (fun i=>cK[i%cK.size]!)=cK.toList:=by
   apply q7;intro j;simp only[iH];by_cases hj:j<cK.size
   ·rw[NA hj]
    simp[Nat.mod_eq_of_lt hj,hj]
   ·rw[nP (by simpa using hj),nP (by simpa using hj)];rfl
  have bK:((fun i=>cK[i%cK.size]!) ∘ (cK.size+ ·))=fun i=>cK[i%cK.size]! :=by
   funext i;simp
  rw[e2,bK];exact aJ.append ih
theorem OU{z:List V}(a1:bM z=true){n k:Nat}(hk:z.length=k):∀d∈List.replicate n (mA z),(aI d).length=k:=by
 intro d hd;rw[(List.mem_replicate.1 hd).2,WU a1,hk]
theorem OV (U:bd C fid G H w){es:Nat}{ds:List V}{c:Array Value}{vals rest:List Value}{e:TypeId}(fc:0<es)(hn:0<ds.length)(hu:∀d∈ds,(aI d).length=es)(hc:c.toList=vals++rest)
  (af:bj fid G w (ds.flatMap aI) vals):
  j8 C fid ⟨cE G.β H.length ⟨w.heap.size,ds.length,c.size,false⟩,G.I⟩ (w.alloc (.cells c e)) ⟨w.heap.size,ds.length,c.size,false⟩ (.row es ds false):=
 ⟨rfl,hn,rfl,fc,hu,c,e,vals,rest,mE _ _,rfl,hc,af.ext U (Ext.push U _ ds.length c.size 0)⟩
theorem ajt (U:bd C fid G H w)(aU:fK C fid vars G w ah ρ){t:TypeId}{len:Nat}{parts:Array (Nat × Operand)}(ho:o.op=.buildSlice t len parts)(hc:C.c2 vars pos o.op=some dv)(he:step ah H low dv=some (v,H',low')):
  df C fid G H w low ((execOp ρ o).run C.P w) v H' low':=by
 rw[ho]at hc
 have ct:(execOp ρ o).run C.P w=((Instr.buildSlice t len (parts.map fun(i,x)=>(i,ρ x))).run C.P w).andThen fun z w'=>.ok (.value z) w':=by
  unfold execOp;rw[ho];simp only[Sem.run_bind];rfl
 simp only[Ctx.c2]at hc;split at hc
 ·rename_i e hd
  split at hc
  ·rename_i n z ap hn aJ mJ
   split at hc
   ·cases hc
   ·rename_i eB
    simp only[not_or,Nat.not_lt,ne_eq,Classical.not_not]at eB;obtain⟨nw,aAc,rn⟩:=eB;obtain⟨jG,rfl⟩:∃jG,dv=.lit n z len ap jG:=⟨_,(ra hc).symm⟩;obtain⟨cK,oO,oP,a1,-⟩:=E9 (fid:=fid) aJ;have hlen:=wm _ mJ;have zT:cK.cells.size=n:=by rw[<-gY,(oP G w).length,rn]
    simp only[step]at he;split at he
    ·rename_i vs H1 bL ag
     have aju:bj fid G w (ap.map fun p=>ah p.2) (parts.toList.map fun p=>ρ p.2):=by
      refine bj.aio (by simp[hlen]) (fun j a x h1 h2=> ?_);simp only[iH,cD]at h1 h2;obtain⟨bn,hf,rfl⟩:=h1;obtain⟨Fb,qF,rfl⟩:=h2;have:=wo _ mJ qF hf;obtain⟨cO,hx,rfl⟩:=cD.1 this;exact aU _ _ hx
     obtain⟨aB,f1,b4⟩:=Ox U aju ag;have ajv:vs.length=ap.length:=by have:=b4.length;simp only[gR]at this;omega
     split at he
     ·rename_i ds sx
      have ajw:((parts.map fun(i,x)=>(i,ρ x)).toList)=parts.toList.map fun(i,x)=>(i,ρ x):=by simp
      have ajx:bj fid aB w ((List.replicate len (mA z)).flatMap aI) (((Array.range (len*n)).map fun i=>(if len*n=0 then #[]else cK.cells)[i%(if len*n=0 then #[]else cK.cells:Array Value).size]!).toList):=by
       by_cases qG:len=0
       ·subst qG;simpa using bj.nil
       ·have h0:len*n≠0:=Nat.mul_ne_zero qG nw
        have:=JH (oP aB w) a1 (by omega) len;rw[zT]at this;simpa[h0,zT]using this
      obtain⟨cells,ad,e2,bK,cw⟩:=WS (fid:=fid) (G:=aB) (w:=w) (es:=n) (ps:=parts.toList.map fun(i,x)=>(i,ρ x)) (aX:=(ap.zip vs).map fun(p,v)=>(p.1,v))
       (by simp[hlen,ajv]) (fun j p a h1 h2=>by
         simp only[iH,cD]at h1 h2;obtain⟨Fb,qF,rfl⟩:=h1;obtain⟨⟨bn,v'⟩,hf,rfl⟩:=h2;rw[Ch]at hf;have:=wo _ mJ qF hf.1;obtain⟨cO,hx,rfl⟩:=cD.1 this;refine⟨rfl,?_⟩;obtain⟨y,hy,fC⟩:=b4.get hf.2;simp only[iH,qF,si,aD]at hy;subst hy;exact fC) (OU a1 rn) ajx sx
      rw[vI]at cw
      have hb:(Instr.buildSlice t len (parts.map fun(i,x)=>(i,ρ x))).run C.P w=.ok (.slice (some ⟨w.heap.size,0,none⟩) len len) (w.alloc (.cells cells e)):=by
       unfold Instr.buildSlice;have hl:¬len*n>2^24:=by omega
       simp only[Sem.run_bind,run_underlying hd,Result.andThen_ok,zQ (C:=C) hn,hl,if_false,ajw];by_cases h0:len*n=0
       ·simp only[h0,if_true]at ad⊢
        simp only[Sem.run_bind,Sem.run_pure,Result.andThen_ok,ad,newRow,run_newObj,World.alloc_eq]
       ·simp only[h0,if_false]at ad⊢
        simp only[Sem.run_bind,Sem.run_pure,Result.andThen_ok,oO,ad,newRow,run_newObj,World.alloc_eq]
      have hval:(execOp ρ o).run C.P w=.ok (.value (.slice (some ⟨w.heap.size,0,none⟩) len len)) (w.alloc (.cells cells e)):=by rw[ct,hb];rfl
      have fc:0<n:=NH nw;have emp:df C fid G H w low ((execOp ρ o).run C.P w) .emp H1 bL->True:=fun _=>trivial
      have WV:len=0->df C fid G H w low ((execOp ρ o).run C.P w) .emp H1 bL:=by
       intro h0;refine df.CD f1 ⟨_,_,_,.inl hval,f1.rel.sD _ False,fun m _=>Ext.sD _ _ _ _,?_,aN _,aN _⟩;subst h0;exact .p _ _ (.emp _)
      split at he
      ·split at he
       ·rename_i aAd hp
        by_cases h0:len=0
        ·simp only[h0,if_true,aD,bH]at he
         obtain⟨rfl,rfl,rfl⟩:=he;exact WV h0
        ·simp only[h0,if_false,aD,bH]at he
         obtain⟨rfl,rfl,rfl⟩:=he;refine df.CD f1 ⟨_,_,⟨aB.β,fun b=>aB.I b\/(b=w.heap.size/\True)⟩,.inl hval,f1.rel.sD _ True,fun m _=>Ext.sD _ _ _ _,?_,aN _,aN _⟩;have hx:=Ext.sD (G:=aB) (w:=w) (.cells cells e) True 0 H1.length
         have key:=gf.list (w:=w.alloc (.cells cells e)) (I:=fun b=>aB.I b\/(b=w.heap.size/\True)) n ds w.heap.size 0 len cells.toList (.inr ⟨rfl,trivial⟩)
          (iM.vX (rest:=[]) (mE _ _) (by simp)) bK ((e2.ext f1.rel hx).qA (Jx hp)) (by omega)
         rw[cw]at key;exact .p _ _ key
       ·cases he
      ·split at he
       ·rename_i h0
        simp only[aD,bH]at he;obtain⟨rfl,rfl,rfl⟩:=he;exact WV h0
       ·rename_i h0
        simp only[aD,bH]at he;obtain⟨rfl,rfl,rfl⟩:=he
        have oJ:cells.size=len*n:=by
         rw[<-gY,e2.length,nv bK,cw]
        refine df.CD f1 (df.alloc f1.rel ds.length cells.size hval (OV f1.rel fc (by omega) bK (rest:=[]) (by simp) e2) ?_);refine .cB _ n 0 len len ⟨w.heap.size,ds.length,cells.size,false⟩ _ _ _ (dw _ _ _) (by simp only;omega) (fun _=>⟨by simp,rfl,?_,aN _⟩);rw[oJ,eo];exact aN _
     ·cases he
    ·cases he
  ·cases hc
 ·cases hc
end Go.Abs
namespace Go.Abs
open Go
variable{C:Ctx}{fid:Nat->Nat}{w w':World}{G G':cg}{H:Heap}
variable{vars:List Nat}{ah:ai->V}{ρ:Operand->Value}{low low':Nat}{v:V}{H':Heap}{pos:String}{dv:cX}{o:Oper}
theorem WW{n:Int}(h0:0<=n)(h:n<=1099511627776):IntKind.i64.wrap n=n:=by
 have e:n%(2^IntKind.i64.bits:Int)=n:=Int.emod_eq_of_lt h0 (by show n<(2^64:Int);omega);unfold IntKind.wrap;rw[e];have:¬(n>=(2^(IntKind.i64.bits-1):Int)):=by show ¬n>=(2^63:Int);omega
 simp[this]
theorem ajy (U:bd C fid G H w)(aU:fK C fid vars G w ah ρ){t:TypeId}{l c:Operand}(ho:o.op=.makeSlice t l c)(hc:C.c2 vars pos o.op=some dv)(he:step ah H low dv=some (v,H',low')):
  df C fid G H w low ((execOp ρ o).run C.P w) v H' low':=by
 rw[ho]at hc;simp only[Ctx.c2]at hc;split at hc
 ·rename_i e hd
  split at hc
  ·rename_i i z mK ac hi aJ h1 h2
   split at hc
   ·cases hc
   ·rename_i eB
    simp only[not_or,ne_eq,Classical.not_not]at eB;simp only[aD]at hc;subst hc;obtain⟨cK,oO,oP,a1,-⟩:=E9 (fid:=fid) aJ;have zT:cK.cells.size=i.size:=by rw[<-gY,(oP G w).length,eB.2]
    have hl:=aU l mK h1;have tu:=aU c ac h2;simp only[step]at he;split at he
    ·rename_i k n bJ m ad e2
     split at he
     ·rename_i hb
      obtain⟨rfl,nw,hbound⟩:=hb;rw[ad]at hl;rw[e2]at tu;obtain⟨j,rfl⟩:=Eu nw
      have oQ:j<=1099511627776:=by
       have:(j:Int)*1<=(j:Int)*((i.bytes:Int)+1):=Int.mul_le_mul_of_nonneg_left (by omega) nw;omega
      have nW:(i.bytes:Int)*(j:Int)<=1099511627776:=by
       have:(j:Int)*((i.bytes:Int)+1)=(i.bytes:Int)*(j:Int)+j:=by rw[Int.mul_add,Int.mul_comm];omega
       omega
      have hw:=WW nw (by omega:(j:Int)<=1099511627776);have iW:0<i.size:=NH eB.1
      have ct:∃cells,(execOp ρ o).run C.P w=.ok (.value (.slice (some ⟨w.heap.size,0,none⟩) j j)) (w.alloc (.cells cells e))/\cells.toList=(List.range (j*i.size)).map (fun q=>cK.cells[q%cK.cells.size]!):=by
       refine⟨(Array.range (j*i.size)).map (fun q=>(if j*i.size=0 then #[]else cK.cells:Array Value)[q%(if j*i.size=0 then #[]else cK.cells:Array Value).size]!),?_,?_⟩
       ·unfold execOp;rw[ho]
        have rq:¬((decide ((j:Int)<0)||decide ((i.bytes:Int)*(j:Int)>2^48))=true):=by simp;omega
        have pK:¬((decide ((j:Int)<0)||decide ((i.bytes:Int)*(j:Int)>2^48)||decide ((j:Int)<0)||decide ((j:Int)>(j:Int)))=true):=by simp;omega
        simp only[hl.ku,tu.ku,Instr.makeSlice,asInt,asIntOf,Sem.run_bind,Sem.run_pure,Result.andThen_ok,run_underlying hd,run_typeInfo (P:=C.P) w hi,hw];rw[if_neg (by simpa using pK)];simp only[Sem.run_bind,run_askRoom,Result.andThen_ok,sizeOf,run_typeInfo (P:=C.P) w hi,Sem.run_pure,zq];by_cases h0:j*i.size=0
        ·simp only[h0,if_true,Sem.run_bind,Sem.run_pure,Result.andThen_ok,newRow,run_newObj,World.alloc_eq]
        ·simp only[h0,if_false,Sem.run_bind,Sem.run_pure,Result.andThen_ok,oO,newRow,run_newObj,World.alloc_eq]
       ·by_cases h0:j*i.size=0
        ·simp[h0]
        ·simp[h0]
      obtain⟨cells,ct,gm⟩:=ct;split at he
      ·rename_i JI
       simp only[aD,bH]at he;obtain⟨rfl,rfl,rfl⟩:=he;obtain rfl:j=0:=by omega
       exact⟨_,_,_,.inl ct,U.sD _ False,fun m _=>Ext.sD _ _ _ _,.p _ _ (.emp _),aN _,aN _⟩
      ·rename_i JI
       simp only[aD,bH,zq]at he;obtain⟨rfl,rfl,rfl⟩:=he;have pQ:=JH (oP G w) a1 (by omega) j;rw[zT]at pQ gm;rw[<-gm]at pQ;have hu:=OU a1 (n:=j) eB.2;have fJ:cells.size=j*i.size:=by rw[<-gY,pQ.length,nv hu,vI]
       refine df.alloc U (List.replicate j (mA z)).length cells.size ct (OV U iW (by simp;omega) hu (rest:=[]) (by simp) pQ) ?_;refine .cB _ _ 0 j j ⟨w.heap.size,(List.replicate j (mA z)).length,cells.size,false⟩ _ _ _ (dw _ _ _) (by simp) (fun _=>⟨by simp,rfl,?_,aN _⟩);rw[fJ,eo];exact aN _
     ·cases he
    ·cases he
  ·cases hc
 ·cases hc
theorem Fc (U:bd C fid G H w){es:Nat}{a:V}{xs:List V}{x:Value}(al:bw fid G w a x)(he:elems H es a=some xs):
  ∃dh cap,x=.slice dh xs.length cap/\(xs≠[]->∃b off vals,dh=some ⟨b,off,none⟩/\iM w b off vals/\bj fid G w (xs.flatMap aI) vals/\∀d∈xs,(aI d).length=es):=by
 unfold elems at he;split at he
 ·simp only[aD]at he;subst he
  exact⟨none,0,al.jM,fun h=>absurd rfl h⟩
 ·simp only[aD]at he;subst he
  obtain⟨dh,hx⟩:=al.sz;exact⟨some dh,0,hx,fun h=>absurd rfl h⟩
 ·split at he
  ·rename_i fc
   simp only[aD]at he;subst he;subst fc;obtain⟨dh,cap,hx,-,bu⟩:=al.x8;refine⟨some dh,cap,hx,fun bq=> ?_⟩;rcases bu with rfl|⟨b,off,vals,rfl,bp,hc,hu,hr⟩
   ·exact absurd rfl bq
   ·exact⟨b,off,vals,rfl,hc,hr.pG,hu⟩
  ·cases he
 ·rename_i l bV off len tag
  split at he
  ·rename_i fu ds fz hl
   split at he
   ·rename_i eB
    obtain⟨rfl,rfl,gg,qE⟩:=eB;simp only[aD]at he;subst he;obtain⟨h0,dh,cU,cap,cC,qB,iy,dS⟩:=al.oI;obtain⟨aY,eI,hr⟩:=U.obj l h0 cC;rw[hl]at eI;cases eI;obtain⟨ht,iW,ag,fc,hu,c,e,vals,rest,hc,fJ,af,fC⟩:=hr;obtain⟨rfl,rfl,-,-⟩:=iy (ht.trans gg);have hlen:((ds.drop off).take cU).length=cU:=by simp;omega
    rw[hlen];refine⟨_,cap,dS,fun _=>⟨h0.b,off*fu,(vals.drop (off*fu)).take (cU*fu),rfl,?_,?_,fun d hd=>hu d (I3 (Ew hd))⟩⟩
    ·have:=((iM.vX hc af).drop (off*fu)).take (cU*fu)
     rwa [eo]at this
    ·have mF:∀d∈ds.drop off,(aI d).length=fu:=fun d hd=>hu d (I3 hd)
     rw[Cz mF,zL hu];exact(fC.drop _).take _
   ·cases he
  ·cases he
 ·cases he
theorem Fe{size n cap:Nat}{b off:Nat}{vals:List Value}(hc:iM w b off vals)(hl:vals.length=n*size):
  (Builtin.firstCells size n (.slice (some ⟨b,off,none⟩) n cap)).run C.P w=.ok vals.toArray w:=by
 have:=run_loadCells_list (P:=C.P) w ⟨b,off,none⟩ vals (fun j v hj=>by rw[Addr.add_lit];exact hc j v hj);rw[hl]at this;exact this
theorem WX:∀{vs vs':List V} {xs:List Value} {G:cg} {H H':Heap} {low low':Nat},bd C fid G H w->bj fid G w (vs.flatMap aI) xs->fb H low vs=some (vs',H',low')->
  ∃G',l6 C fid G H w low G' H' low'/\bj fid G' w (vs'.flatMap aI) xs/\vs'.length=vs.length/\∀es,(∀d∈vs,(aI d).length=es)->∀d∈vs',(aI d).length=es
 |[],_,_,G,H,H',low,low',U,h,he=>by
  simp only[fb,aD,bH]at he;obtain⟨rfl,rfl,rfl⟩:=he;exact⟨G,.refl U _,h,rfl,fun _ h=>h⟩
 |v::r,_,xs,G,H,H',low,low',U,h,he=>by
  simp only[fb]at he;split at he
  ·rename_i v1 H1 bL h1
   split at he
   ·rename_i cq H2 dL h2
    simp only[aD,bH]at he;obtain⟨rfl,rfl,rfl⟩:=he;rw[lH]at h;obtain⟨cQ,dk,rfl,hy,aJ⟩:=h.split;obtain⟨aB,f1,b4,b6⟩:=aiw U hy h1;obtain⟨bC,f2,dq,ll,rm⟩:=WX f1.rel (aJ.ext U (f1.ext 0 (cN _))) h2;refine⟨bC,f1.trans f2,?_,by simp[ll],fun es hu d hd=> ?_⟩
    ·rw[lH];exact(b4.ext f1.rel (f2.ext 0 (cN _))).append dq
    ·rcases dG.1 hd with rfl|hd
     ·rw[b6];exact hu v (by simp)
     ·exact rm es (fun d hd=>hu d (by simp[hd])) d hd
   ·cases he
  ·cases he
end Go.Abs
namespace Go.Abs
open Go
variable{C:Ctx}{fid:Nat->Nat}{w w':World}{G G':cg}{H:Heap}
variable{vars:List Nat}{ah:ai->V}{ρ:Operand->Value}{low low':Nat}{v:V}{H':Heap}{pos:String}{dv:cX}{o:Oper}
theorem OW{P:Program}{t u ty e e':TypeId}{i:TypeInfo}(hd:P.underlying t=some (.slice e))(hu:P.underlying u=some (.slice e'))(hi:P.info? e=some i){base fW:Option Addr}{sLen sCap n lL:Nat}{news:List Value}
  (hx:(Builtin.firstCells i.size n (.slice fW n lL)).run P w=.ok news.toArray w) (ia:sLen+n<=sCap):
  (Builtin.append_ #[t,u] ty #[.slice base sLen sCap,.slice fW n lL]).run P w=
    ((match base with|some a=>storeCells (a.add (sLen*i.size)) news|none=>pure ()).run P w).andThen fun _ w'=>.ok (.slice base (sLen+n) sCap) w':=by
 cases base with
 |none=>simp[Builtin.append_,run_underlying hd,run_underlying hu,sizeOf,typeInfo,hi,Builtin.lenOf,ia,hx]
 |some a=>simp[Builtin.append_,run_underlying hd,run_underlying hu,sizeOf,typeInfo,hi,Builtin.lenOf,ia,hx]
theorem OX{P:Program}{t u ty e e':TypeId}{i:TypeInfo}{cK:Value}(hd:P.underlying t=some (.slice e))(hu:P.underlying u=some (.slice e'))(hi:P.info? e=some i)(aJ:i.zero=some cK)
  {base fW:Option Addr} {sLen sCap n lL:Nat} {olds news:List Value}
  (hx:(Builtin.firstCells i.size n (.slice fW n lL)).run P w.drew=.ok news.toArray w.drew) (ho:(Builtin.firstCells i.size sLen (.slice base sLen sCap)).run P w.drew=.ok olds.toArray w.drew)
  (ia:sCap<sLen+n) (hb:(sLen+n)*(i.bytes+1)<=1099511627776):
  ∃gG,sLen+n<=gG/\(Builtin.append_ #[t,u] ty #[.slice base sLen sCap,.slice fW n lL]).run P w=
   .ok (.slice (some ⟨w.heap.size,0,none⟩) (sLen+n) gG) (w.drew.alloc (.cells (olds.toArray++news.toArray++Builtin.zeroCells cK.cells (gG-(sLen+n))) e)):=by
 have h1:¬sLen+n<=sCap:=by omega
 have hm:(sLen+n)*i.bytes+(sLen+n)=(sLen+n)*(i.bytes+1):=by rw[Nat.mul_succ]
 have h2:¬(((sLen+n:Nat):Int)>9223372036854775807):=by omega
 have au:=growslice_fits (need:=sLen+n) (old:=sCap) (bytes:=i.bytes) ia (by omega);have a7:¬(281474976710656<Builtin.nextslicecap (sLen+n) sCap*i.bytes):=by omega
 refine⟨sLen+n+(w.tape w.drawn (.appendCap (sLen+n) sCap e))%(9223372036854775808-(sLen+n)),NK _ _,?_⟩;have yb:¬(9223372036854775807<(sLen:Int)+(n:Int)):=by omega
 simp[Builtin.append_,run_underlying hd,run_underlying hu,sizeOf,typeInfo,hi,Builtin.lenOf,h1,yb,a7,Question.forced,Question.cut,hx,ho,zeroValue,aJ,newRow];congr 2;apply Array.ext';simp
theorem CM (z:Array Value)(n:Nat):(Builtin.zeroCells z n).size=n*z.size:=by simp[Builtin.zeroCells]
theorem WY{xs:List V}{vals:List Value}(h:bj fid G w xs vals)(hc:bM xs=true):∀x∈vals,x.oneCell'=true:=JC h hc
theorem df.newRow (U:bd C fid G H w){low:Nat}{r:Result Next}{es:Nat}{ds:List V}{c:Array Value}{vals rest:List Value}{e:TypeId}{cap:Nat}(fc:0<es)(hn:0<ds.length)(hu:∀d∈ds,(aI d).length=es)
  (hc:c.toList=vals++rest) (af:bj fid G w (ds.flatMap aI) vals) (ev:cap*es<=c.size) (hle:ds.length<=cap)
  (hr:r=.ok (.value (.slice (some ⟨w.heap.size,0,none⟩) ds.length cap)) (w.drew.alloc (.cells c e))):
  df C fid G H w low r (.cB H.length es 0 ds.length ds.length) (H++[.row es ds false]) low:=by
 have kC:bd C fid G H w.drew:=U.jo rfl;have de:∀m n,Ext G w G w.drew m n:=fun m n=>Ext.jo (w:=w) (w':=w.drew) rfl rfl rfl m n;have CG:=af.ext U (de 0 0);refine⟨_,_,⟨cE G.β H.length ⟨w.drew.heap.size,ds.length,c.size,false⟩,G.I⟩,.inl hr,kC.push _ _ ds.length c.size (OV kC fc hn hu hc CG),fun m _=>(de m H.length).trans (Ext.push kC _ _ _ m),?_,aN _,by simp⟩;exact .cB _ es 0 _ _ ⟨w.drew.heap.size,ds.length,c.size,false⟩ _ _ _ (dw _ _ _) (aN _) (fun _=>⟨by simp,rfl,by rw[eo];exact ev,hle⟩)
theorem ajz (U:bd C fid G H w)(aU:fK C fid vars G w ah ρ){a b:Operand}{t u e e':TypeId}{i:TypeInfo}{cK:Value}{args:Array Operand}{ts:Array TypeId}(ho:o.op=.call {callee:=.builtin .append,args,argTypes:=ts})
  (al:args= #[a,b]) (ht:ts= #[t,u]) {kD ie:ai} (h1:C.cl vars a=some kD) (h2:C.cl vars b=some ie) (hd:C.P.underlying t=some (.slice e)) (hu:C.P.underlying u=some (.slice e')) (hi:C.P.info? e=some i)
  (aJ:i.zero=some cK) (pR:cK.cells.size=i.size) (iW:0<i.size) (he:step ah H low (.append i.size i.bytes kD ie)=some (v,H',low')):df C fid G H w low ((execOp ρ o).run C.P w) v H' low':=by
 subst al;subst ht;have hx:=aU a kD h1;have hy:=aU b ie h2
 have ct:(execOp ρ o).run C.P w=((Builtin.append_ #[t,u] o.type #[ρ a,ρ b]).run C.P w).andThen fun z w'=>.ok (.value z) w':=by
  rw[wk ho];simp only[builtin,Sem.run_bind,Ez,dX,jF];rfl
 simp only[step]at he;split at he
 ·rename_i xs e0
  obtain⟨uU,CN,zU,CO⟩:=Fc U hy e0;split at he
  ·rename_i fh H1 bL ag
   have news:∃vals aB,l6 C fid G H w low aB H1 bL/\bj fid aB w (fh.flatMap aI) vals/\fh.length=xs.length/\(∀d∈fh,(aI d).length=i.size)/\
     ∀gF,gF.heap=w.heap->(Builtin.firstCells i.size xs.length (.slice uU xs.length CN)).run C.P gF=.ok vals.toArray gF:=by
    by_cases bq:xs=[]
    ·subst bq
     simp only[fb,aD,bH]at ag;obtain⟨rfl,rfl,rfl⟩:=ag;refine⟨[],G,.refl U _,.nil,rfl,by simp,fun gF _=> ?_⟩;cases uU with
     |none=>simp[Builtin.firstCells]
     |some dh=>simp[Builtin.firstCells,loadCells,loadCellsFrom]
    ·obtain⟨zR,off,vals,rfl,vZ,fC,mF⟩:=CO bq
     obtain⟨aB,f1,b4,b6,kW⟩:=WX U fC ag;refine⟨vals,aB,f1,b4,b6,kW _ mF,fun gF hw=> ?_⟩;exact Fe (fun j x hj=>by rw[Of (w:=w) (w':=gF) (by rw[hw])];exact vZ j x hj) (by rw[fC.length,nv mF])
   obtain⟨vals,aB,f1,b4,b6,kW,rr⟩:=news;rw[zU]at ct;have ig:=hx.ext U (f1.ext 0 (cN _));refine df.CD f1 ?_;have gq:=f1.rel;split at he
   ·
    rename_i pS
    have OY:xs=[]:=by
     have:fh=[]:=by simpa using pS
     rw[this]at b6;exact zp.1 b6.symm
    have zV:vals=[]:=by
     have:=b4.length;have eP:fh=[]:=by simpa using pS
     rw[eP]at this;exact zp.1 (by simpa using this)
    subst OY;subst zV
    have same:∀base n cap,ρ a=.slice base n cap->n<=cap->(execOp ρ o).run C.P w=.ok (.value (ρ a)) w:=by
     intro base n cap hs hle;rw[ct,hs,OW (P:=C.P) hd hu hi (rr w rfl) (by simpa using hle)];cases base<;>simp[storeCells]
    split at he
    ·rename_i ad
     simp only[aD,bH]at he;obtain⟨rfl,rfl,rfl⟩:=he;rw[ad]at ig;exact .same gq (same _ _ _ ig.jM (aN _)) ig
    ·rename_i ad
     simp only[aD,bH]at he;obtain⟨rfl,rfl,rfl⟩:=he;rw[ad]at ig;obtain⟨dh,dS⟩:=ig.sz;exact .same gq (same _ _ _ dS (aN _)) ig
    ·rename_i bV ds ad
     simp only[aD,bH]at he;obtain⟨rfl,rfl,rfl⟩:=he;rw[ad]at ig;obtain⟨dh,cap,dS,ev,-⟩:=ig.x8;exact .same gq (same _ _ _ dS ev) ig
    ·rename_i l bV off len tag ad
     rw[ad]at ig;split at he
     ·rename_i fu ds fz hl
      split at he
      ·rename_i gg
       simp only[aD,bH]at he;obtain⟨rfl,rfl,rfl⟩:=he;obtain⟨h0,dh,cU,cap,cC,qB,iy,dS⟩:=ig.oI;obtain⟨aY,eI,hr⟩:=gq.obj l h0 cC;rw[hl]at eI;cases eI;obtain⟨rfl,rfl,-,oM⟩:=iy (hr.1.trans gg);exact .same gq (same _ _ _ dS oM) ig
      ·cases he
     ·cases he
    ·cases he
   ·rename_i pS
    have bq:0<fh.length:=by
     rcases Vs fh.length with q|q
     ·exact absurd (by simpa using zp.1 q) pS
     ·exact q
    split at he
    ·cases he
    ·rename_i a1
     have a1:bM (fh.flatMap aI)=true:=by simpa using a1
     have Ff:=WY b4 a1;have l8:vals.length=xs.length*i.size:=by rw[b4.length,nv kW,b6]
     have fresh:∀base,ρ a=.slice base 0 0->fh.length*(i.bytes+1)<=1099511627776->df C fid aB H1 w bL ((execOp ρ o).run C.P w) (.cB H1.length i.size 0 fh.length fh.length) (H1++[.row i.size fh false]) bL:=by
      intro base hs hb
      have hold:(Builtin.firstCells i.size 0 (.slice base 0 0)).run C.P w.drew=.ok ([]:List Value).toArray w.drew:=by
       cases base<;>simp[Builtin.firstCells,loadCells,loadCellsFrom]
      obtain⟨gG,ev,lM⟩:=OX (P:=C.P) (t:=t) (u:=u) (ty:=o.type) hd hu hi aJ (rr w.drew rfl) hold (by omega) (by rw[eo,<-b6];exact hb);rw[eo,<-b6]at lM ev;refine df.newRow gq (cap:=gG) (e:=e) iW bq kW (vals:=vals) (rest:=(Builtin.zeroCells cK.cells (gG-fh.length)).toList) ?_ b4 ?_ ev (by rw[ct,hs,<-b6,lM];rfl)
      ·simp
      ·simp only[zr,vJ,oD,eo,CM,l8,pR,<-b6,<-vK]
       rw[Nat.add_sub_cancel' ev];exact aN _
     split at he
     ·rename_i ad
      split at he
      ·rename_i hb
       simp only[aD,bH]at he;obtain⟨rfl,rfl,rfl⟩:=he;rw[ad]at ig;exact fresh _ ig.jM hb
      ·cases he
     ·rename_i ad
      split at he
      ·rename_i hb
       simp only[aD,bH]at he;obtain⟨rfl,rfl,rfl⟩:=he;rw[ad]at ig;obtain⟨dh,dS⟩:=ig.sz;exact fresh _ dS hb
      ·cases he
     ·rename_i l bV off len tag ad
      rw[ad]at ig;split at he
      ·rename_i fu ds hl
       split at he
       ·rename_i eB
        obtain⟨rfl,rfl,gg,rfl,rfl,hb⟩:=eB;simp only[aD,bH]at he;obtain⟨rfl,rfl,rfl⟩:=he;obtain⟨h0,dh,cU,cap,cC,qB,iy,dS⟩:=ig.oI;obtain⟨aY,eI,hr⟩:=gq.obj l h0 cC;rw[hl]at eI;cases eI;obtain⟨uV,WZ,hfz,fc,nU,c,wq,lp,rest,hc,fJ,jq,fC⟩:=hr;obtain⟨rfl,rfl,oJ,oM⟩:=iy (uV.trans gg);rw[Nat.zero_mul]at dS;rw[eo]at oJ;have l7:ds.length=cU:=gg;have qE:lp.length=cU*i.size:=by rw[fC.length,nv nU,l7]
        have gm:c.size=lp.length+rest.length:=by rw[<-gY,jq,hO]
        have uW:∀d∈ds++fh,(aI d).length=i.size:=fun d hd=>by
         rcases kq.1 hd with q|q
         ·exact nU d q
         ·exact kW d q
        have Fg:bj fid aB w ((ds++fh).flatMap aI) (lp++vals):=by rw[NB];exact fC.append b4
        by_cases ia:cU+xs.length<=cap
        ·
         have hmul:(cU+xs.length)*i.size<=c.size:=c4 (Nx _ ia) (by rw[<-fJ];exact oJ);rw[vK]at hmul;have ca:=run_storeCells_at C.P h0.b (cU*i.size) wq vals 0 c w hc (by omega) Ff
         have hval:(execOp ρ o).run C.P w=.ok (.value (.slice (some ⟨h0.b,0,none⟩) (cU+xs.length) cap)) (w.setRow h0.b (c.toList.take (cU*i.size)++vals++c.toList.drop (cU*i.size+vals.length)).toArray):=by
          rw[ct,dS,OW (P:=C.P) hd hu hi (rr w rfl) ia];simp only[Addr.add_lit,eo];simp only[zw]at ca;rw[ca];rfl
         have dZ:Ext aB w ⟨cE aB.β l {h0 with tag:=cU+fh.length},aB.I⟩ (w.setRow h0.b (c.toList.take (cU*i.size)++vals++c.toList.drop (cU*i.size+vals.length)).toArray) l H1.length:=
          Ext.write gq cC hfz rfl (by simp only;omega) (fun q=>by omega) rfl (setRow_size _ _) (fun b bq=>setRow_other bq _) rfl rfl
         refine⟨_,_,_,.inl hval,bd.write gq cC hfz (h':={h0 with tag:=cU+fh.length}) rfl hfz (by simp only;omega) (fun q=>by omega) rfl (setRow_size _ _) (fun b bq=>setRow_other bq _) (.row i.size (ds++fh) false) ?_,
          fun m hm=>dZ.le (c4 hm (oC _ _)) (aN _),?_,j3 _ _,by simp⟩
         ·refine⟨by simp[l7],by simp;omega,hfz,fc,uW,_,wq,lp++vals,rest.drop vals.length,setRow_heap w h0.b c _ wq _ hc,?_,?_,Fg.ext gq dZ⟩
          ·show h0.fI=_
           rw[fJ];simp only[vJ,hO,q9,qs,gY];omega
          ·rw[Nz,jq,<-qE,List.take_left,NL,kR,kR]
           congr 2;rw[Nu (by omega),j4];congr 1;omega
         ·rw[<-b6]
          exact .cB l i.size 0 _ _ {h0 with tag:=cU+fh.length} _ _ _ (dw _ _ _) (aN _) (fun _=>⟨by simp,rfl,by rw[eo];exact oJ,by omega⟩)
        ·
         have hold:(Builtin.firstCells i.size cU (.slice (some ⟨h0.b,0,none⟩) cU cap)).run C.P w.drew=.ok lp.toArray w.drew:=
          Fe (iM.vX (w:=w.drew) hc jq) qE
         obtain⟨gG,ev,lM⟩:=OX (P:=C.P) (t:=t) (u:=u) (ty:=o.type) hd hu hi aJ (rr w.drew rfl) hold (by omega) (by rw[<-b6];exact hb);have sE:bd C fid aB H1 w.drew:=gq.jo rfl;have de:∀m n,Ext aB w aB w.drew m n:=fun m n=>Ext.jo (w:=w) (w':=w.drew) rfl rfl rfl m n
         obtain⟨bI,cq⟩:=bd.move sE cC hfz (.cells (lp.toArray++vals.toArray++Builtin.zeroCells cK.cells (gG-(cU+xs.length))) e) (cU+fh.length)
          (lp.toArray++vals.toArray++Builtin.zeroCells cK.cells (gG-(cU+xs.length))).size (by omega) (by omega) (.row i.size (ds++fh) false)
          ⟨by simp[l7],by simp;omega,rfl,fc,uW,_,e,lp++vals,(Builtin.zeroCells cK.cells (gG-(cU+xs.length))).toList,mE _ _,rfl,by simp,bj.mono (G:=aB) (w:=w.drew) (G':=⟨cE aB.β l ⟨w.drew.heap.size,cU+fh.length,(lp.toArray++vals.toArray++Builtin.zeroCells cK.cells (gG-(cU+xs.length))).size,false⟩,aB.I⟩) (by
           intro x c7 eP;by_cases js:x=l
           ·subst js;rw[cC]at eP;cases eP
            exact⟨_,dw _ _ _,by simp only;omega,fun q=>by omega,fun q=>by simp only at q;omega,fun q=>by rw[hfz]at q;cases q⟩
           ·exact⟨c7,by simp only[dH js];exact eP,aN _,id,fun _=>⟨rfl,rfl⟩,fun _=>rfl⟩) (fun b ru=>⟨ru,alloc_old (w:=w.drew) (sE.c9 b ru).1⟩) (Fg.ext gq (de 0 0))⟩
         refine⟨_,_,_,.inl (by rw[ct,dS,lM];rfl),bI,fun m hm=>(de m H1.length).trans (cq.le (c4 hm (oC _ _)) (aN _)),?_,j3 _ _,by simp⟩;rw[<-b6];refine .cB l i.size 0 _ _ ⟨w.drew.heap.size,cU+fh.length,_,false⟩ _ _ _ (dw _ _ _) (aN _) (fun _=>⟨by simp,rfl,?_,by omega⟩);simp only[zr,vJ,CM,l8,qE,pR,<-vK,eo];have wg:cU+xs.length+(gG-(cU+fh.length))=gG:=by omega
         rw[wg];exact aN _
       ·cases he
      ·cases he
     ·cases he
  ·cases he
 ·cases he
theorem df.ajA (U:bd C fid G H w){low:Nat}{r:Result Next}{es:Nat}{ds:List V}{c:Array Value}{vals rest:List Value}{e:TypeId}{cap:Nat}(hu:∀d∈ds,(aI d).length=es)(hp:cj ds=true)
  (hc:c.toList=vals++rest) (af:bj fid G w (ds.flatMap aI) vals) (hle:ds.length<=cap)
  (hr:r=.ok (.value (.slice (some ⟨w.heap.size,0,none⟩) ds.length cap)) (w.drew.alloc (.cells c e))):
  df C fid G H w low r (.list es ds) H low:=by
 have kC:bd C fid G H w.drew:=U.jo rfl;have de:∀m n,Ext G w G w.drew m n:=fun m n=>Ext.jo (w:=w) (w':=w.drew) rfl rfl rfl m n;have hx:∀m n,Ext G w ⟨G.β,fun b=>G.I b\/(b=w.drew.heap.size/\True)⟩ (w.drew.alloc (.cells c e)) m n:=fun m n=>(de m n).trans (Ext.sD (.cells c e) True m n);refine⟨_,_,⟨G.β,fun b=>G.I b\/(b=w.drew.heap.size/\True)⟩,.inl hr,kC.sD (.cells c e) True,fun m _=>hx m _,.p _ _ ?_,aN _,aN _⟩;exact .list es ds w.drew.heap.size 0 cap vals (.inr ⟨rfl,trivial⟩) (iM.vX (rest:=rest) (mE _ _) hc) hu ((af.ext U (hx 0 0)).qA (Jx hp)) hle
theorem ajB (U:bd C fid G H w)(aU:fK C fid vars G w ah ρ){a b:Operand}{t u e e':TypeId}{i:TypeInfo}{cK:Value}{args:Array Operand}{ts:Array TypeId}(ho:o.op=.call {callee:=.builtin .append,args,argTypes:=ts})
  (al:args= #[a,b]) (ht:ts= #[t,u]) {kD ie:ai} (h1:C.cl vars a=some kD) (h2:C.cl vars b=some ie) (hd:C.P.underlying t=some (.slice e)) (hu:C.P.underlying u=some (.slice e')) (hi:C.P.info? e=some i)
  (aJ:i.zero=some cK) (pR:cK.cells.size=i.size) (iW:0<i.size) (he:step ah H low (.xS i.size i.bytes kD ie)=some (v,H',low')):df C fid G H w low ((execOp ρ o).run C.P w) v H' low':=by
 subst al;subst ht;have ig:=aU a kD h1;have hy:=aU b ie h2
 have ct:(execOp ρ o).run C.P w=((Builtin.append_ #[t,u] o.type #[ρ a,ρ b]).run C.P w).andThen fun z w'=>.ok (.value z) w':=by
  rw[wk ho];simp only[builtin,Sem.run_bind,Ez,dX,jF];rfl
 simp only[step]at he;split at he
 ·rename_i xs e0
  obtain⟨uU,CN,zU,CO⟩:=Fc U hy e0;split at he
  ·cases he
  rename_i hp;have hp:cj xs=true:=by simpa using hp
  obtain⟨vals,b4,kW,rr⟩:∃vals,bj fid G w (xs.flatMap aI) vals/\(∀d∈xs,(aI d).length=i.size)/\∀gF,gF.heap=w.heap->(Builtin.firstCells i.size xs.length (.slice uU xs.length CN)).run C.P gF=.ok vals.toArray gF:=by
   by_cases bq:xs=[]
   ·subst bq
    refine⟨[],.nil,by simp,fun gF _=> ?_⟩;cases uU with
    |none=>simp[Builtin.firstCells]
    |some dh=>simp[Builtin.firstCells,loadCells,loadCellsFrom]
   ·obtain⟨zR,off,vals,rfl,vZ,fC,mF⟩:=CO bq
    exact⟨vals,fC,mF,fun gF hw=>Fe (fun j x hj=>by rw[Of (w:=w) (w':=gF) (by rw[hw])];exact vZ j x hj) (by rw[fC.length,nv mF])⟩
  rw[zU]at ct
  have same:xs=[]->∀base n cap,ρ a=.slice base n cap->n<=cap->(execOp ρ o).run C.P w=.ok (.value (ρ a)) w:=by
   intro OY base n cap hs hle;subst OY;have zV:vals=[]:=zp.1 (by rw[b4.length];rfl);subst zV;rw[ct,hs,OW (P:=C.P) hd hu hi (rr w rfl) (by simpa using hle)];cases base<;>simp[storeCells]
  have fresh:∀base,ρ a=.slice base 0 0->0<xs.length->xs.length*(i.bytes+1)<=1099511627776->df C fid G H w low ((execOp ρ o).run C.P w) (.list i.size xs) H low:=by
   intro base hs bq hb;have l8:vals.length=xs.length*i.size:=by rw[b4.length,nv kW]
   have hold:(Builtin.firstCells i.size 0 (.slice base 0 0)).run C.P w.drew=.ok ([]:List Value).toArray w.drew:=by
    cases base<;>simp[Builtin.firstCells,loadCells,loadCellsFrom]
   obtain⟨gG,ev,lM⟩:=OX (P:=C.P) (t:=t) (u:=u) (ty:=o.type) hd hu hi aJ (rr w.drew rfl) hold (by omega) (by rw[eo];exact hb);rw[eo]at lM ev;refine df.ajA U (cap:=gG) (e:=e) kW hp (vals:=vals) (rest:=(Builtin.zeroCells cK.cells (gG-xs.length)).toList) ?_ b4 ev (by rw[ct,hs,lM];rfl);simp
  have pos:¬xs.isEmpty=true->0<xs.length:=fun q=>by
   rcases Vs xs.length with q'|q'
   ·exact absurd (by simpa using zp.1 q') q
   ·exact q'
  have nil:xs.isEmpty=true->xs=[]:=fun q=>by simpa using q
  split at he
  ·rename_i ad
   rw[ad]at ig;split at he
   ·rename_i q
    simp only[aD,bH]at he;obtain⟨rfl,rfl,rfl⟩:=he;exact .same U (same (nil q) _ _ _ ig.jM (aN _)) ig
   ·rename_i q
    split at he
    ·rename_i hb
     simp only[aD,bH]at he;obtain⟨rfl,rfl,rfl⟩:=he;exact fresh _ ig.jM (pos q) hb.2
    ·cases he
  ·rename_i ad
   rw[ad]at ig;obtain⟨dh,dS⟩:=ig.sz;split at he
   ·rename_i q
    simp only[aD,bH]at he;obtain⟨rfl,rfl,rfl⟩:=he;exact .same U (same (nil q) _ _ _ dS (aN _)) ig
   ·rename_i q
    split at he
    ·rename_i hb
     simp only[aD,bH]at he;obtain⟨rfl,rfl,rfl⟩:=he;exact fresh _ dS (pos q) hb.2
    ·cases he
  ·cases he
 ·cases he
end Go.Abs
namespace Go.Abs
open Go
variable{C:Ctx}{fid:Nat->Nat}{w w':World}{G G':cg}{H:Heap}
variable{vars:List Nat}{ah:ai->V}{ρ:Operand->Value}{low low':Nat}{v:V}{H':Heap}{pos:String}{dv:cX}{o:Oper}
theorem W0:∀{a b:List V},mz (a++b)=(mz a&&mz b)
 |[],b=>by simp[mz]
 |x::a,b=>by simp[mz,W0 (a:=a),Cj]
theorem ajC (U:bd C fid G H w)(aU:fK C fid vars G w ah ρ){a b:Operand}{t u e e':TypeId}{n:Nat}{args:Array Operand}{ts:Array TypeId}(ho:o.op=.call {callee:=.builtin .copy,args,argTypes:=ts})
  (al:args= #[a,b]) (ht:ts= #[t,u]) {kD ie:ai} (h1:C.cl vars a=some kD) (h2:C.cl vars b=some ie) (hd:C.P.underlying t=some (.slice e)) (hn:C.sizeOf e=some n)
  (he:step ah H low (.copy n kD ie)=some (v,H',low')):df C fid G H w low ((execOp ρ o).run C.P w) v H' low':=by
 subst al;subst ht;have hx:=aU a kD h1;have hy:=aU b ie h2
 have ct:(execOp ρ o).run C.P w=((Builtin.copy_ #[t,u] o.type #[ρ a,ρ b]).run C.P w).andThen fun z w'=>.ok (.value z) w':=by
  rw[wk ho];simp only[builtin,Sem.run_bind,Ez,dX,jF];rfl
 have zero:∀base,(∃xs,elems H n (ah ie)=some xs)->ρ a=.slice base 0 0->df C fid G H w low ((execOp ρ o).run C.P w) (.int .i64 0) H low:=by
  rintro base ⟨xs,e0⟩ hs;obtain⟨uU,CN,zU,CO⟩:=Fc U hy e0;refine .same U (x:=.int .i64 0) ?_ (.p _ _ (.int _ _));rw[ct,hs,zU];cases uU<;>cases base<;>simp[Builtin.copy_,run_underlying hd,Builtin.lenOf,Builtin.firstCells,loadCells,loadCellsFrom,zQ (C:=C) hn,storeCells,goInt]
 simp only[step]at he;split at he
 ·rename_i xs ad e0
  simp only[aD,bH]at he;obtain⟨rfl,rfl,rfl⟩:=he;rw[ad]at hx;exact zero _ ⟨_,e0⟩ hx.jM
 ·rename_i xs ad e0
  simp only[aD,bH]at he;obtain⟨rfl,rfl,rfl⟩:=he;rw[ad]at hx;obtain⟨dh,dS⟩:=hx.sz;exact zero _ ⟨_,e0⟩ dS
 ·rename_i l bV off len tag xs ad e0
  split at he
  ·rename_i fu ds hl
   split at he
   ·rename_i eB
    obtain⟨rfl,rfl,gg,qE,ky⟩:=eB;simp only[aD,bH]at he;obtain⟨rfl,rfl,rfl⟩:=he;rw[ad]at hx;obtain⟨uU,CN,zU,CO⟩:=Fc U hy e0;obtain⟨h0,dh,cU,cap,cC,qB,iy,dS⟩:=hx.oI;obtain⟨aY,eI,hr⟩:=U.obj l h0 cC;rw[hl]at eI;cases eI;obtain⟨uV,WZ,hfz,fc,nU,c,wq,lp,rest,hc,fJ,jq,fC⟩:=hr;obtain⟨rfl,rfl,-,-⟩:=iy (uV.trans gg)
    have key:∃dk,(Builtin.firstCells fu (Nat.min xs.length cU) (.slice uU xs.length CN)).run C.P w=.ok dk.toArray w/\bj fid G w ((xs.take cU).flatMap aI) dk/\((xs.take cU).flatMap aI).length=(xs.take cU).length*fu/\∀d∈xs.take cU,(aI d).length=fu:=by
     by_cases bq:xs=[]
     ·subst bq
      refine⟨[],?_,by simpa using bj.nil,by simp,by simp⟩;cases uU<;>simp[Builtin.firstCells,loadCells,loadCellsFrom]
     ·obtain⟨zR,o',vals,rfl,vZ,qH,mF⟩:=CO bq
      have uW:∀d∈xs.take cU,(aI d).length=fu:=fun d hd=>mF d (Ew hd);refine⟨vals.take (cU*fu),?_,by rw[Cz mF];exact qH.take _,nv uW,uW⟩;have l8:vals.length=xs.length*fu:=by rw[qH.length,nv mF]
      have e2:(vals.take (cU*fu)).length=Nat.min xs.length cU*fu:=by
       rw[q9,l8,Nat.mul_min_mul_right,Nat.min_comm]
      have:=run_loadCells_list (P:=C.P) w ⟨zR,o',none⟩ (vals.take (cU*fu)) (fun j v hj=>by rw[Addr.add_lit];exact(vZ.take _) j v hj);rw[e2]at this;exact this
    obtain⟨dk,W1,JJ,OZ,ajD⟩:=key
    have a1:∀x∈dk,x.oneCell'=true:=by
     refine JC JJ (OC ?_);have:mz ((xs.take cU++xs.drop cU).flatMap aI)=true:=by rw[Nv];exact ky
     rw[NB,W0,cm]at this;exact this.1
    have rn:=JJ.length;have js:(xs.take cU).length=min cU xs.length:=by simp
    have l7:ds.length=tag:=gg;have hmul:(off+min cU xs.length)*fu<=ds.length*fu:=Nx _ (by have:=j3 cU xs.length;omega);rw[vK]at hmul;have aAe:lp.length=ds.length*fu:=by rw[fC.length,nv nU]
    have gm:c.size=lp.length+rest.length:=by rw[<-gY,jq,hO]
    have ca:=run_storeCells_at C.P h0.b (off*fu) wq dk 0 c w hc (by rw[rn,OZ,js];omega) a1
    obtain⟨G',bI,cq⟩:=WA U cC hl (ds':=ds.take off++xs.take cU++ds.drop (off+min cU xs.length)) (by simp only[hO,q9,qs];omega)
     (fun d hd=>by
       rcases kq.1 hd with q|q
       ·rcases kq.1 q with q|q
        ·exact nU d (Ew q)
        ·exact ajD d q
       ·exact nU d (I3 q)) (o:=off*fu) JJ (by rw[OZ,js];omega)
     (fun vals af=>by
       rw[NB,NB,Cz nU,zL nU,rn,OZ,js,<-vK];exact((af.take _).append JJ).append (af.drop _)) hc
    refine⟨_,_,G',.inl ?_,bI,fun m hm=>cq.le (c4 hm (oC _ _)) (aN _),.p _ _ (.int _ _),j3 _ _,by simp⟩;rw[ct,dS,zU];simp only[zw]at ca;have wg:xs.length.min cU=min cU xs.length:=Nat.min_comm _ _;rw[wg]at W1;simp[Builtin.copy_,run_underlying hd,Builtin.lenOf,zQ (C:=C) hn,wg,W1,ca,goInt]
   ·cases he
  ·cases he
 ·cases he
theorem uX{k:TypeId}{b5:Nat}(hk:C.j7 k=some b5)(em:Bool)(n:Nat)(x:Value):(Instr.checkKey em (n+1) k x).run C.P w=.ok () w:=by
 unfold Ctx.j7 at hk;unfold Instr.checkKey;split at hk<;>rename_i hd<;>first|(cases hk;done)|(rw[Sem.run_bind,run_underlying hd];rfl)
theorem yc{k:TypeId}{b5:Nat}{d:TypeDesc}(hk:C.j7 k=some b5)(hd:C.P.underlying k=some d){a b:V}{e:Bool}{x y:Value}(al:bw fid G w a x)(hb:bw fid G w b y)(he:jl b5 a b=some e):
  Instr.sameNow d x y=some e/\(e=true->Instr.sameBits 10000 y x=true):=by
 unfold Ctx.j7 at hk;rw[hd]at hk;unfold jl at he;split at he
 ·split at he
  ·rename_i E1
   simp only[aD]at he;subst he;subst E1;rw[al.ku,hb.ku];cases d<;>simp at hk;refine⟨by simp[Instr.sameNow],fun h=> ?_⟩;simp at h;subst h;simp[Instr.sameBits]
  ·cases he
 ·simp only[aD]at he;subst he
  rw[al.oH,hb.oH];cases d<;>simp at hk;refine⟨by simp[Instr.sameNow,beq_toListBytes,ByteArray.toList_eq],fun h=> ?_⟩;simp at h;subst h;simp[Instr.sameBits,beq_toListBytes,ByteArray.toList_eq]
 ·simp only[aD]at he;subst he
  rw[al.ln,hb.ln];cases d<;>simp at hk;refine⟨by simp[Instr.sameNow],fun h=> ?_⟩;simp at h;subst h;simp[Instr.sameBits]
 ·cases he
theorem sF{k:TypeId}{b5:Nat}{d:TypeDesc}(hk:C.j7 k=some b5)(hd:C.P.underlying k=some d){a:V}{x:Value}(al:bw fid G w a x):∀{bz:List (V × V)} {es:List MapEntry} (i:Nat) {r:Option V},
  bj fid G w (bz.map (·.1)) (es.map (·.key))->bj fid G w (bz.map (·.2)) (es.map (·.val))->iJ b5 a bz=some r->
  match r with
  |none=>Instr.findNow d x es i=some none
  |some u=>∃j y,Instr.findNow d x es i=some (some (i+j,y))/\bw fid G w u y/\(∃e,es[j]? =some e/\Instr.sameBits 10000 e.key x=true)
 |[],[],i,r,_,_,h=>by
  simp only[iJ,aD]at h;subst h;rfl
 |[],_::_,_,_,h,_,_=>by simp at h;cases h
 | _::_,[],_,_,h,_,_=>by simp at h;cases h
 |(bJ,u)::bz,e::es,i,r,eQ,c6,h=>by
  simp only[dX]at eQ c6;cases eQ with
  |cons _ _ _ _ ha eQ=>
   cases c6 with
   |cons _ _ _ _ kB c6=>
    simp only[iJ]at h;split at h
    ·rename_i he
     simp only[aD]at h;subst h;obtain⟨hs,hb⟩:=yc hk hd al ha he;exact⟨0,e.val,by simp[Instr.findNow,hs],kB,e,rfl,hb rfl⟩
    ·rename_i he
     obtain⟨hs,-⟩:=yc hk hd al ha he;have ih:=sF hk hd al (i+1) eQ c6 h;cases r with
     |none=>simpa[Instr.findNow,hs]using ih
     |some u'=>
      obtain⟨j,y,h1,h2,e',au,a7⟩:=ih;refine⟨j+1,y,?_,h2,e',by simpa using au,a7⟩;have:i+(j+1)=i+1+j:=by omega
      rw[this];simpa[Instr.findNow,hs]using h1
    ·cases h
theorem wu{k:TypeId}{d:TypeDesc}(hd:C.P.underlying k=some d){x:Value}{es:List MapEntry}{r:Option (Nat × Value)}(h:Instr.findNow d x es 0=some r):(Instr.findKey k x es).run C.P w=.ok r w:=by
 unfold Instr.findKey;simp only[Sem.run_bind,run_underlying hd,Result.andThen_ok,h,Sem.run_pure]
theorem JK{k:TypeId}{b5:Nat}(hk:C.j7 k=some b5):∃d,C.P.underlying k=some d:=by
 unfold Ctx.j7 at hk;split at hk<;>rename_i hd<;>first|exact⟨_,hd⟩|cases hk
theorem ajE{t:TypeId}{z:V}(aJ:C.zeroV t=some z)(hu:vO z=false):∃cK,(∀w,(zeroValue t).run C.P w=.ok cK w)/\∀(G:cg) (w:World),bw fid G w z cK:=by
 unfold Ctx.zeroV at aJ;split at aJ
 ·rename_i i hi
  split at aJ
  ·rename_i cK CH
   refine⟨cK,fun w=> ?_,fun G w=>.p _ _ ((EW cK aJ).resolve_left (by rintro rfl;simp[vO]at hu))⟩;simp only[zeroValue,Sem.run_bind,run_typeInfo (P:=C.P) w hi,Result.andThen_ok,CH,Sem.run_pure]
  ·cases aJ
 ·cases aJ
theorem yd{r:Nat}{es:Array MapEntry}{bX:Nat}(h:w.heap[r]? =some (.map es bX)):(getObj r).run C.P w=.ok (.map es bX) w:=by simp[getObj,Sem.run,h]
theorem CP{r:Nat}{es:Array MapEntry}{bX:Nat}(o:Obj)(h:w.heap[r]? =some (.map es bX)):(setObj r o).run C.P w=.ok () {w with heap:=w.heap.setIfInBounds r o}:=by simp[setObj,Sem.run,h]
theorem ajF (U:bd C fid G H w)(aU:fK C fid vars G w ah ρ){t:TypeId}{x i:Operand}{ok:Bool}(ho:o.op=.lookup t x i ok)(hc:C.c2 vars pos o.op=some dv)(he:step ah H low dv=some (v,H',low')):
  df C fid G H w low ((execOp ρ o).run C.P w) v H' low':=by
 rw[ho]at hc;simp only[Ctx.c2]at hc;split at hc
 ·rename_i k e cO kb hd h1 h2
  split at hc
  ·rename_i b5 z gT aJ
   split at hc
   ·cases hc
   ·rename_i ajG
    simp only[aD]at hc;subst hc;have hx:=aU x cO h1;have hi:=aU i kb h2;obtain⟨cK,oO,oP⟩:=ajE (fid:=fid) aJ (by simpa using ajG);obtain⟨JL,jN⟩:=JK gT
    have ct:(execOp ρ o).run C.P w=((Instr.lookup t (ρ x) (ρ i) ok).run C.P w).andThen fun z w'=>.ok (.value z) w':=by
     unfold execOp;rw[ho];simp only[Sem.run_bind];rfl
    have res:∀(u:V) (y:Value) (b:Bool),bw fid G w u y->bw fid G w (if ok then .aF [u,.bool b]else u) (if ok then .tuple #[y,.bool b]else y):=by
     intro u y b h;cases ok
     ·exact h
     ·exact .aF _ [y,.bool b] (.cons _ _ _ _ h (.cons _ _ _ _ (.p _ _ (.bool _)) .nil))
    simp only[step]at he;split at he
    ·rename_i ad
     simp only[aD,bH]at he;obtain⟨rfl,rfl,rfl⟩:=he;rw[ad]at hx;refine .same U ?_ (res z cK false (oP G w));rw[ct,hx.OG];unfold Instr.lookup;have ag:=wu (C:=C) (w:=w) jN (x:=ρ i) (es:=[]) (r:=none) rfl;simp only[Sem.run_bind,run_underlying hd,Result.andThen_ok,Sem.run_pure,uX gT,ag,oO]
    ·rename_i l ad
     rw[ad]at hx;obtain⟨h0,cC,-,dS⟩:=hx.mapInv;split at he
     ·rename_i bz hl
      obtain⟨aY,eI,hr⟩:=U.obj l h0 cC;rw[hl]at eI;cases eI;obtain⟨-,-,es,bX,hm,ha,zS,-⟩:=hr;split at he
      ·rename_i u jt
       simp only[aD,bH]at he;obtain⟨rfl,rfl,rfl⟩:=he;obtain⟨j,y,ag,fC,-⟩:=sF gT jN hi 0 ha zS jt;refine .same U ?_ (res u y true fC);rw[ct,dS];unfold Instr.lookup;simp only[Sem.run_bind,run_underlying hd,Result.andThen_ok,Sem.run_pure,yd hm,uX gT,wu (C:=C) jN ag]
      ·rename_i jt
       simp only[aD,bH]at he;obtain⟨rfl,rfl,rfl⟩:=he;have ag:=sF gT jN hi 0 ha zS jt;refine .same U ?_ (res z cK false (oP G w));rw[ct,dS];unfold Instr.lookup;simp only[Sem.run_bind,run_underlying hd,Result.andThen_ok,Sem.run_pure,yd hm,uX gT,wu (C:=C) jN ag,oO]
      ·cases he
     ·cases he
    ·cases he
  ·cases hc
 ·cases hc
theorem O0{b5:Nat}{k u:V}:∀{bz:List (V × V)},iJ b5 k bz=some none->l5 b5 k u bz=bz++[(k,u)]
 |[],_=>rfl
 |(bJ,v)::r,h=>by
  simp only[iJ]at h;split at h
  ·cases h
  ·rename_i he
   simp[l5,he,O0 h]
  ·cases h
theorem W2{k:TypeId}{b5:Nat}{d:TypeDesc}(hk:C.j7 k=some b5)(hd:C.P.underlying k=some d){a:V}{x:Value}(al:bw fid G w a x){u:V}{y:Value}(hu:bw fid G w u y):∀{bz:List (V × V)} {es:List MapEntry} (i:Nat) {r:V} {j:Nat} {z:Value},
  bj fid G w (bz.map (·.1)) (es.map (·.key))->bj fid G w (bz.map (·.2)) (es.map (·.val))->iJ b5 a bz=some (some r)->Instr.findNow d x es i=some (some (i+j,z))->
  bj fid G w ((l5 b5 a u bz).map (·.1)) ((es.modify j fun e=>{e with key:=x,val:=y}).map (·.key))/\bj fid G w ((l5 b5 a u bz).map (·.2)) ((es.modify j fun e=>{e with key:=x,val:=y}).map (·.val))
 |[],[],i,r,j,z,_,_,h,_=>by simp[iJ]at h
 |[],_::_,_,_,_,_,h,_,_,_=>by simp at h;cases h
 | _::_,[],_,_,_,_,h,_,_,_=>by simp at h;cases h
 |(bJ,u')::bz,e::es,i,r,j,z,eQ,c6,h,ag=>by
  simp only[dX]at eQ c6;cases eQ with
  |cons _ _ _ _ ha eQ=>
   cases c6 with
   |cons _ _ _ _ kB c6=>
    simp only[iJ]at h;split at h
    ·rename_i he
     obtain⟨hs,-⟩:=yc hk hd al ha he;simp only[Instr.findNow,hs,aD,bH]at ag;obtain rfl:j=0:=by omega
     simp only[l5,he,if_true,dX,List.modify_zero_cons];exact⟨.cons _ _ _ _ al eQ,.cons _ _ _ _ hu c6⟩
    ·rename_i he
     obtain⟨hs,-⟩:=yc hk hd al ha he;simp only[Instr.findNow,hs]at ag;have hS:=sF hk hd al (i+1) eQ c6 h;obtain⟨wv,oL,h1,-,-⟩:=hS;rw[h1]at ag;simp only[aD,bH]at ag;obtain⟨hj,rfl⟩:=ag;obtain rfl:j=wv+1:=by omega
     have ih:=W2 hk hd al hu (i+1) eQ c6 h h1;have bq:¬(jl b5 a bJ=some true):=by rw[he];simp
     simp only[l5,bq,if_false,dX,List.modify_succ_cons];exact⟨.cons _ _ _ _ ha ih.1,.cons _ _ _ _ kB ih.2⟩
    ·cases h
theorem pH.push{es:Array MapEntry}{bX:Nat}(h:pH es bX)(x y:Value):pH (es.push {key:=x,val:=y,born:=bX}) (bX+1):=by
 refine⟨fun e he=> ?_,?_⟩
 ·rw[Vv,kq]at he
  rcases he with he|he
  ·exact NI (h.1 e he)
  ·rw[I8]at he;subst he;exact zt _
 ·rw[Vv,kS,zs]
  refine⟨h.2,by simp,fun a al b hb=> ?_⟩;simp only[dX,jF,I8]at hb;subst hb;obtain⟨e,he,rfl⟩:=eA.1 al;exact re (h.1 e he)
theorem W3 (x y:Value):∀(l:List MapEntry) (j:Nat),(l.modify j fun e=>{e with key:=x,val:=y}).map (·.born)=l.map (·.born)
 |[],j=>by cases j<;>simp
 |e::l,0=>by simp
 |e::l,j+1=>by simp[W3 x y l j]
theorem pH.modify{es:Array MapEntry}{bX:Nat}(h:pH es bX)(j:Nat)(x y:Value):pH (es.modify j fun e=>{e with key:=x,val:=y}) bX:=by
 have ad:(es.modify j fun e=>{e with key:=x,val:=y}).toList.map (·.born)=es.toList.map (·.born):=by
  rw[Array.toList_modify];exact W3 x y _ j
 refine⟨fun e he=> ?_,by rw[ad];exact h.2⟩;have:e.born∈es.toList.map (·.born):=by rw[<-ad];exact eA.2 ⟨e,he,rfl⟩
 obtain⟨e',he',q⟩:=eA.1 this;rw[<-q];exact h.1 e' he'
theorem W4 (U:bd C fid G H w)(aU:fK C fid vars G w ah ρ){t:TypeId}{m k x:Operand}(ho:o.op=.mapUpdate t m k x\/o.op=.insert t m k x)(hc:C.c2 vars pos o.op=some dv)(he:step ah H low dv=some (v,H',low')):
  df C fid G H w low ((execOp ρ o).run C.P w) v H' low':=by
 have hc:C.c2 vars pos (.mapUpdate t m k x)=some dv:=by
  rcases ho with ho|ho
  ·rw[ho]at hc;exact hc
  ·rw[ho]at hc;exact hc
 simp only[Ctx.c2]at hc;split at hc
 ·rename_i eO nX am ij cO hd h1 h2 au
  obtain⟨b5,gT,rfl⟩:=cD.1 hc;have hm:=aU m am h1;have hk:=aU k ij h2;have hx:=aU x cO au;obtain⟨JL,jN⟩:=JK gT
  have ct:(execOp ρ o).run C.P w=((Instr.mapUpdate t (ρ m) (ρ k) (ρ x)).run C.P w).andThen fun _ w'=>.ok .skip w':=by
   unfold execOp;rcases ho with ho|ho<;>(rw[ho];simp only[Sem.run_bind];rfl)
  simp only[step]at he;split at he
  ·rename_i u' H1 bL hfz
   split at he
   ·cases he
   ·rename_i nU
    obtain⟨aB,f1,b4⟩:=JA U hx hfz;have gq:=f1.rel;have pT:=f1.ext 0 (cN _);have mL:=hm.ext U pT;have ha:=hk.ext U pT;refine df.CD f1 ?_;split at he
    ·rename_i l ad
     rw[ad]at mL;obtain⟨h0,cC,W5,dS⟩:=mL.mapInv;split at he
     ·rename_i bz hl
      obtain⟨aY,eI,hr⟩:=gq.obj l h0 cC;rw[hl]at eI;cases eI;obtain⟨oR,kc,es,bX,dD,eQ,c6,ca⟩:=hr;split at he
      ·rename_i b7 jt
       simp only[aD,bH]at he;obtain⟨rfl,rfl,rfl⟩:=he;have aG:h0.b<w.heap.size:=gq.blk l h0 cC
       have fin:∀(uY:Obj) (bV:Array MapEntry) (tz:Nat),uY=.map bV tz->(Instr.mapUpdate t (ρ m) (ρ k) (ρ x)).run C.P w=.ok () {w with heap:=w.heap.setIfInBounds h0.b uY}->
         bj fid aB w ((l5 b5 (ah ij) u' bz).map (·.1)) (bV.toList.map (·.key))->bj fid aB w ((l5 b5 (ah ij) u' bz).map (·.2)) (bV.toList.map (·.val))->pH bV tz->
         df C fid aB H1 w bL ((execOp ρ o).run C.P w) .undef (H1.set l (.map (l5 b5 (ah ij) u' bz))) (min bL l):=by
        rintro uY bV tz rfl lM ye zW zX
        have wx:∀b,b≠h0.b->({w with heap:=w.heap.setIfInBounds h0.b (.map bV tz)}:World).heap[b]? =w.heap[b]? :=fun b bq=>by
         show(w.heap.setIfInBounds h0.b _)[b]? =_;rw[Vk (lI bq)]
        have yf:({w with heap:=w.heap.setIfInBounds h0.b (.map bV tz)}:World).heap[h0.b]? =some (.map bV tz):=by
         show(w.heap.setIfInBounds h0.b _)[h0.b]? =_;simp[aG]
        have dr:({w with heap:=w.heap.setIfInBounds h0.b (.map bV tz)}:World).heap.size=w.heap.size:=by simp
        have dZ:Ext aB w ⟨cE aB.β l h0,aB.I⟩ {w with heap:=w.heap.setIfInBounds h0.b (.map bV tz)} l H1.length:=
         Ext.write gq cC kc rfl (aN _) id rfl dr wx rfl rfl
        refine⟨undef,_,_,.inr ⟨by rw[ct,lM];rfl,rfl⟩,bd.write gq cC kc rfl kc (aN _) id rfl dr wx (.map (l5 b5 (ah ij) u' bz)) ⟨oR,kc,bV,tz,yf,ye.ext gq dZ,zW.ext gq dZ,zX⟩,
         fun m hm=>dZ.le (c4 hm (oC _ _)) (aN _),.undef _,j3 _ _,by simp⟩
       cases b7 with
       |none=>
        have ag:=sF gT jN ha 0 eQ c6 jt;refine fin _ (es.push {key:=ρ k,val:=ρ x,born:=bX}) (bX+1) rfl ?_ ?_ ?_ (ca.push _ _)
        ·unfold Instr.mapUpdate
         simp only[dS,Sem.run_bind,run_underlying hd,Result.andThen_ok,yd dD,uX gT,wu (C:=C) jN ag,CP _ dD]
        ·rw[O0 jt]
         simp only[kS,dX,jF,Vv];exact eQ.append (.cons _ _ _ _ ha .nil)
        ·rw[O0 jt]
         simp only[kS,dX,jF,Vv];exact c6.append (.cons _ _ _ _ b4 .nil)
       |some r=>
        obtain⟨j,y,ag,-,ajH,ajI,ajJ⟩:=sF gT jN ha 0 eQ c6 jt;obtain⟨s1,s2⟩:=W2 gT jN ha b4 0 eQ c6 jt ag;rw[eo]at ag;refine fin _ (es.modify j fun e=>{e with key:=ρ k,val:=ρ x}) bX rfl ?_ (by simpa using s1) (by simpa using s2) (ca.modify _ _ _);have ajK:es[j]? =some ajH:=by rw[<-iG];exact ajI
        unfold Instr.mapUpdate;simp only[dS,Sem.run_bind,run_underlying hd,Result.andThen_ok,yd dD,uX gT,wu (C:=C) jN ag,ajK,si,xO,Instr.keyThatStays,ajJ,if_true,Sem.run_pure,CP _ dD]
      ·cases he
     ·cases he
    ·cases he
  ·cases he
 ·cases hc
end Go.Abs
