/- Texts of this claim, joined and written short by a program. -/
import Derived.Test.YtonmjjfciemcoaaGreatDoorP03
import Derived.Laws.Append
import Derived.Test.YtonmjjfciemcoaaGreatDoorP00
set_option linter.unusedVariables false
set_option linter.unusedSimpArgs false
set_option linter.unusedSectionVars false
namespace Go.Abs
open Go
variable{C:Ctx}{fid:Nat->Nat}{w w':World}{G G':bX}{H:Heap}
variable{vars:List Nat}{ah:aj->V}{ρ:Operand->Value}{low low':Nat}{v:V}{H':Heap}{pos:String}{dm:cV}{o:Oper}
theorem XS (off:Nat):∀(zs:List Value) (k:Nat) (cells:Array Value),off+k+zs.length<=cells.size->
  ((zs.zipIdx k).foldl (fun(cs:Array Value) (p:Value × Nat)=>cs.setIfInBounds (off+p.2) p.1) cells).toList=cells.toList.take (off+k)++zs++cells.toList.drop (off+k+zs.length)
 |[],k,cells,_=>by simp
 |z::zs,k,cells,h=>by
  simp only[gD]at h;rw[List.zipIdx_cons,p6,XS off zs (k+1) _ (by simp;omega)];have e:=list_seg_step cells.toList (off+k) z zs (by simp;omega);rw[gD];simpa[Array.toList_setIfInBounds,qV]using e
theorem XT{place:Nat->Option (Nat × Nat)}{cells:Array Value}{i:Nat}{x:Value}{rest:List (Nat × Value)}{off n:Nat}(hp:place i=some (off,n))(hs:x.cells.size=n)(h4:off+n<=cells.size):
  ∃sj,Instr.fill place cells ((i,x)::rest)=Instr.fill place sj rest/\sj.toList=cells.toList.take off++x.cells.toList++cells.toList.drop (off+x.cells.toList.length):=by
 refine⟨x.cells.zipIdx.foldl (fun cs (c,j)=>cs.setIfInBounds (off+j) c) cells,?_,?_⟩
 ·have:¬(x.cells.size≠n||decide (off+x.cells.size>cells.size))=true:=by simp;omega
  simp only[Instr.fill,hp];rw[if_neg (by simpa using this)]
 ·rw[<-Ws,Array.toList_zipIdx]
  have:=XS off x.cells.toList 0 cells (by simp;omega);simpa using this
theorem XU{place:Nat->Option (Nat × Nat)}:∀{ps:List (Nat × Value)} {ay:List (Nat × Nat × V)} {cs cs':List V} {cells:Array Value},ps.length=ay.length->
  (∀(j:Nat) p a,ps[j]? =some p->ay[j]? =some a->place p.1=some (a.1,a.2.1)/\bh fid G w a.2.2 p.2)->a6 fid G w cs cells.toList->tk cs ay=some cs'->
  ∃sj,Instr.fill place cells ps=some sj/\a6 fid G w cs' sj.toList
 |[],[],cs,cs',cells,_,_,ad,h=>by
  simp only[tk,aB]at h;subst h;exact⟨cells,rfl,ad⟩
 |[],_::_,_,_,_,hl,_,_,_=>by simp at hl
 | _::_,[],_,_,_,hl,_,_,_=>by simp at hl
 |(i,x)::ps,(off,n,u)::ay,cs,cs',cells,hl,hp,ad,h=>by
  simp only[tk]at h;split at h
  ·rename_i hc
   obtain⟨Dg,u6⟩:=hp 0 _ _ rfl rfl;obtain⟨bB,ca⟩:=Da u6 hc.2.2;have fm:=ad.length;have lD:=bB.length;have eN:x.cells.size=n:=by rw[<-fw];simp only at lD;rw[lD,hc.1]
   obtain⟨PC,af,ak⟩:=XT (rest:=ps) Dg eN (by rw[<-fw,fm];exact hc.2.1);have sk:a6 fid G w (setCells cs off (aC u)) PC.toList:=by rw[ak];exact F2 off ad bB (by rw[hc.1];exact hc.2.1)
   obtain⟨sj,bK,cL⟩:=XU (by simpa using hl) (fun j p a h1 h2=>hp (j+1) p a (by simpa using h1) (by simpa using h2)) sk h;exact⟨sj,by rw[af,bK],cL⟩
  ·cases h
theorem alI:∀(xs cs:List V),xs.length=cs.length->setCells cs 0 xs=xs:=by
 have key:∀(xs a b:List V),xs.length=b.length->setCells (a++b) a.length xs=a++xs:=by
  intro xs
  induction xs with
  |nil=>intro a b h;cases b<;>simp_all [setCells]
  |cons x xs ih=>
   intro a b h;cases b with
   |nil=>simp at h
   |cons y b=>
    have:=ih (a++[x]) b (by simpa using h);simp only[setCells];simpa using this
 intro xs cs h;simpa using key xs [] cs h
theorem XV{es:Nat}:∀{ps:List (Nat × Value)} {ay:List (Nat × V)} {ds ds':List V} {cells:Array Value},ps.length=ay.length->
  (∀(j:Nat) p a,ps[j]? =some p->ay[j]? =some a->p.1=a.1/\bh fid G w a.2 p.2)->(∀d∈ds,(aC d).length=es)->a6 fid G w (ds.flatMap aC) cells.toList->qb es ds ay=some ds'->
  ∃sj,Instr.fill (fun i=>some (i*es,es)) cells ps=some sj/\a6 fid G w (ds'.flatMap aC) sj.toList/\(∀d∈ds',(aC d).length=es)/\ds'.length=ds.length
 |[],[],ds,ds',cells,_,_,hu,ad,h=>by
  simp only[qb,aB]at h;subst h;exact⟨cells,rfl,ad,hu,rfl⟩
 |[],_::_,_,_,_,hl,_,_,_,_=>by simp at hl
 | _::_,[],_,_,_,hl,_,_,_,_=>by simp at hl
 |(i,x)::ps,(CL,u)::ay,ds,ds',cells,hl,hp,hu,ad,h=>by
  simp only[qb]at h;split at h
  ·rename_i hc
   obtain⟨Dg,u6⟩:=hp 0 _ _ rfl rfl;simp only at Dg u6;subst Dg;obtain⟨bB,ca⟩:=Da u6 hc.2.2;have fm:=ad.length;have km:=nj hu;have lD:=bB.length;have eN:x.cells.size=es:=by rw[<-fw,lD,hc.1]
   have hi:i*es+es<=ds.length*es:=by
    have:(i+1)*es<=ds.length*es:=x4 _ hc.2.1;rw[zL]at this;exact this
   obtain⟨PC,af,ak⟩:=XT (place:=fun i=>some (i*es,es)) (cells:=cells) (rest:=ps) (i:=i) rfl eN (by rw[<-fw,fm];omega);obtain⟨d,hd⟩:∃d,ds[i]? =some d:=⟨_,eg hc.2.1⟩;have sd:=Pk hu hd (d':=u) (f:=0) (xs:=aC u) (by rw[hc.1];omega) (alI _ _ (by rw[hc.1,hu d (gg hd)])).symm;rw[x9]at sd;have sk:a6 fid G w ((ds.set i u).flatMap aC) PC.toList:=by rw[ak,sd];exact F2 _ ad bB (by rw[hc.1];omega)
   obtain⟨sj,bK,cL,dF,hE⟩:=XV (by simpa using hl) (fun j p a h1 h2=>hp (j+1) p a (by simpa using h1) (by simpa using h2))
    (fun a ha=>by rcases aj0 ha with q|rfl;exact hu a q;exact hc.1) sk h
   exact⟨sj,by rw[af,bK],cL,dF,by rw[hE];simp⟩
  ·cases h
theorem XW{α β:Type}(f:α->Sem β)(g:α->β):∀(l:List α),(∀a∈l,∀w,(f a).run C.P w=.ok (g a) w)->(l.mapM f).run C.P w=.ok (l.map g) w
 |[],_=>by simp
 |a::l,h=>by
  rw[List.mapM_cons,Sem.run_bind,h a (by simp),Result.andThen_ok,Sem.run_bind,XW f g l (fun b hb=>h b (by simp[hb])),Result.andThen_ok,Sem.run_pure];rfl
theorem alJ{α β:Type}(f:α->Sem β)(g:α->β)(l:Array α)(h:∀a∈l.toList,∀w,(f a).run C.P w=.ok (g a) w):(l.mapM f).run C.P w=.ok (l.map g) w:=by
 rw[Array.mapM_eq_mapM_toList,Sem.run_map,XW f g _ h,Result.andThen_ok];congr 1;apply Array.ext';simp
theorem Ga{t:TypeId}{z:List V}(aR:C.zeroCells t=some z):∃b8,(∀w,(zeroValue t).run C.P w=.ok b8 w)/\(∀(G:bX) (w:World),a6 fid G w z b8.cells.toList)/\bL z=true/\
  ∃i,C.P.info? t=some i/\i.zero=some b8:=by
 unfold Ctx.zeroCells at aR;split at aR
 ·rename_i i hi
  split at aR
  ·rename_i b8 Dc
   split at aR
   ·rename_i vs c2
    split at aR
    ·rename_i bc
     simp only[aB]at aR;subst aR;refine⟨b8,fun w=> ?_,fun G w=>dh.oD (FZ _ c2),bc,i,hi,Dc⟩;simp only[zeroValue,Sem.run_bind,run_typeInfo (P:=C.P) w hi,Result.andThen_ok,Dc,Sem.run_pure]
    ·cases aR
   ·cases aR
  ·cases aR
 ·cases aR
theorem wv{α β:Type}(f:α->Option β):∀{l:List α} {r:List β},dM f l=some r->r.length=l.length
 |[],_,h=>by simp only[dM,aB]at h;subst h;rfl
 |a::l,_,h=>by
  simp only[dM]at h;split at h
  ·split at h
   ·rename_i aK Gb
    simp only[aB]at h;subst h;simp[wv f Gb]
   ·cases h
  ·cases h
theorem wx{α β:Type}(f:α->Option β):∀{l:List α} {r:List β},dM f l=some r->∀{j:Nat} {a:α} {b:β},l[j]? =some a->r[j]? =some b->f a=some b
 |[],_,h,j,a,b,h1,_=>by simp at h1
 |a::l,_,h,j,bk,e1,h1,h2=>by
  simp only[dM]at h;split at h
  ·rename_i b hb
   split at h
   ·rename_i aK Gb
    simp only[aB]at h;subst h;cases j with
    |zero=>simp at h1 h2;subst h1;subst h2;exact hb
    |succ j=>exact wx f Gb (by simpa using h1) (by simpa using h2)
   ·cases h
  ·cases h
theorem alK (ab:a8 C fid G H w)(aP:fB C fid vars G w ah ρ){t:TypeId}{parts:Array (Nat × Operand)}(ho:o.op=.build t parts)(hc:C.cX vars pos o.op=some dm)(he:step ah H low dm=some (v,H',low')):
  db C fid G H w low ((execOp ρ o).run C.P w) v H' low':=by
 rw[ho]at hc
 have cm:(execOp ρ o).run C.P w=((Instr.build t (parts.map fun(i,x)=>(i,ρ x))).run C.P w).andThen fun z w'=>.ok (.value z) w':=by
  unfold execOp;rw[ho];simp only[Sem.run_bind];rfl
 have main:∀(z:List V) (ap:List (Nat × Nat × aj)) (place:Nat->Option (Nat × Nat)),C.zeroCells t=some z->ap.length=parts.toList.length->
   (∀(j:Nat) p a,parts.toList[j]? =some p->ap[j]? =some a->place p.1=some (a.1,a.2.1)/\C.cg vars p.2=some a.2.2)->
   (∀(b8:Value) (w:World),(∀w,(zeroValue t).run C.P w=.ok b8 w)->∀cells,Instr.fill place b8.cells (parts.toList.map fun(i,x)=>(i,ρ x))=some cells->
     (Instr.build t (parts.map fun(i,x)=>(i,ρ x))).run C.P w=.ok (.agg cells) w)->
   step ah H low (.build z ap)=some (v,H',low')->db C fid G H w low ((execOp ρ o).run C.P w) v H' low':=by
  intro z ap place aR hlen jm hb he;obtain⟨b8,nq,oK,bc,-⟩:=Ga (fid:=fid) aR;simp only[step]at he;obtain⟨cs,eV,he⟩:=cA.1 he;simp only[bx]at he;obtain⟨rfl,rfl,rfl⟩:=he
  obtain⟨cells,af,ak⟩:=XU (fid:=fid) (G:=G) (w:=w) (place:=place) (ps:=parts.toList.map fun(i,x)=>(i,ρ x)) (ay:=ap.map fun p=>(p.1,p.2.1,ah p.2.2))
   (by simp[hlen]) (fun j p a h1 h2=>by
     simp only[hL,cA]at h1 h2;obtain⟨Ac,qm,rfl⟩:=h1;obtain⟨bk,gQ,rfl⟩:=h2;exact⟨(jm j Ac bk qm gQ).1,aP _ _ (jm j Ac bk qm gQ).2⟩) (oK G w) eV
  refine db.same ab (x:=.agg cells) ?_ (.agg _ cells.toList ak);rw[cm,hb b8 w nq cells af];rfl
 simp only[Ctx.cX]at hc;split at hc
 ·rename_i fs z hd aR
  split at hc
  ·cases hc
  ·rename_i eP
   obtain⟨ap,mB,rfl⟩:=cA.1 hc
   have de:∀f∈fs.toList,∃n,C.sizeOf f.type=some n:=by
    intro f ag;cases bf:C.sizeOf f.type with
    |some n=>exact⟨n,rfl⟩
    |none=>exact absurd (tc.2 ⟨f,ag,by simp[bf]⟩) eP
   refine main z ap (fun i=>(fs.map fun f=>(f.offset,(C.sizeOf f.type).getD 0))[i]?) aR (wv _ mB) ?_ ?_ he
   ·intro j p a h1 h2
    have:=wx _ mB h1 h2;split at this
    ·rename_i f ag
     split at this
     ·rename_i n x hn hx
      simp only[aB]at this;subst this;refine⟨?_,hx⟩;simp only[Array.getElem?_map,ag,nM,hn,oB]
     ·cases this
    ·cases this
   ·intro b8 w nq cells PD
    have hm:=alJ (C:=C) (w:=w) (fun(f:Field)=>(do pure (f.offset,<-Go.sizeOf f.type):Sem (Nat × Nat))) (fun f=>(f.offset,(C.sizeOf f.type).getD 0)) fs (fun f ag w=>by
     obtain⟨n,hn⟩:=de f ag;simp only[Sem.run_bind,Aa (C:=C) hn,Result.andThen_ok,Sem.run_pure,hn,oB])
    have jm:(parts.map fun(i,x)=>(i,ρ x)).toList=parts.toList.map fun(i,x)=>(i,ρ x):=by simp
    unfold Instr.build;simp only[Sem.run_bind,nq,run_underlying hd,Result.andThen_ok,hm,jm,PD,Sem.run_pure]
 ·rename_i n e z hd aR
  split at hc
  ·rename_i mw hs
   obtain⟨ap,mB,rfl⟩:=cA.1 hc;refine main z ap (fun i=>some (i*mw,mw)) aR (wv _ mB) ?_ ?_ he
   ·intro j p a h1 h2
    have:=wx _ mB h1 h2;split at this
    ·rename_i x hx
     simp only[aB]at this;subst this;exact⟨rfl,hx⟩
    ·cases this
   ·intro b8 w nq cells PD
    have jm:(parts.map fun(i,x)=>(i,ρ x)).toList=parts.toList.map fun(i,x)=>(i,ρ x):=by simp
    unfold Instr.build;simp only[Sem.run_bind,nq,run_underlying hd,Result.andThen_ok,Aa (C:=C) hs,jm,PD,Sem.run_pure]
  ·cases hc
 ·cases hc
end Go.Abs
namespace Go.Abs
open Go
variable{C:Ctx}{fid:Nat->Nat}{w w':World}{G G':bX}{H:Heap}
variable{vars:List Nat}{ah:aj->V}{ρ:Operand->Value}{low low':Nat}{v:V}{H':Heap}{pos:String}{dm:cV}{o:Oper}
theorem a8.sn (ab:a8 C fid G H w)(aV:Obj)(p:Prop):a8 C fid ⟨G.β,fun b=>G.I b\/(b=w.heap.size/\p)⟩ H (w.alloc aV) where
 obj l h hb:=by
  obtain⟨o,ho,hr⟩:=ab.obj l h hb;exact⟨o,ho,jS.mono (G:=G) (G':=⟨G.β,fun b=>G.I b\/(b=w.heap.size/\p)⟩) (mq.refl _) (fun b (hi:G.I b)=>⟨.inl hi,alloc_old (ab.da b hi).1⟩) (alloc_old (ab.blk l h hb)) hr⟩
 inj:=ab.inj
 blk l h hb:=by rw[World.size_alloc];have:=ab.blk l h hb;omega
 da b hi:=by
  rw[World.size_alloc];rcases hi with hi|⟨rfl,-⟩
  ·exact⟨by have:=(ab.da b hi).1;omega,(ab.da b hi).2⟩
  ·exact⟨by omega,fun l h hb q=>by have:=ab.blk l h hb;omega⟩
 k4 l h hb ag:=.inl (ab.k4 l h hb ag)
 fG b o ba:=⟨.inl (ab.fG b o ba).1,by rw[alloc_old (ab.da b (ab.fG b o ba).1).1];exact(ab.fG b o ba).2⟩
theorem Ext.sn (aV:Obj)(p:Prop)(m n:Nat):Ext G w ⟨G.β,fun b=>G.I b\/(b=w.heap.size/\p)⟩ (w.alloc aV) m n where
 size:=by simp
 os:=rfl
 output:=rfl
 keep b hb _:=alloc_old hb
 homes:=.refl _
 oE l h hb:=.inl ⟨h,hb,.inl rfl⟩
 da _ h:=.inl h
 pe b hi:=by
  rcases hi with hi|⟨rfl,-⟩
  ·exact .inl hi
  ·exact .inr (.inl (aH _))
theorem XX{z:List V}(h:bL z=true):aC (lz z)=z:=by
 unfold lz;split
 ·rename_i x
  simp only[bL,uW]at h;cases x<;>first|rfl|simp[eF]at h
 ·rfl
theorem KJ{z:List V}{b8:Array Value}(aR:a6 fid G w z b8.toList)(bc:bL z=true)(iV:0<b8.size):∀(n:Nat),
  a6 fid G w ((List.replicate n (lz z)).flatMap aC) ((List.range (n*b8.size)).map fun i=>b8[i%b8.size]!)
 |0=>by simpa using a6.nil
 |n+1=>by
  have ih:=KJ aR bc iV n;have af:(n+1)*b8.size=b8.size+n*b8.size:=by rw[zL,Nat.add_comm]
  rw[zz,im,XX bc,af,List.range_add,kk,kX]
  have ak:(List.range b8.size).map (fun i=>b8[i%b8.size]!)=b8.toList:=by
   apply oA;intro j;simp only[hL];by_cases hj:j<b8.size
   ·rw[Wq hj]
    simp[Nat.mod_eq_of_lt hj,hj]
   ·rw[lQ (by simpa using hj),lQ (by simpa using hj)];rfl
  have bK:((fun i=>b8[i%b8.size]!) ∘ (b8.size+ ·))=fun i=>b8[i%b8.size]! :=by
   funext i;simp
  rw[ak,bK];exact aR.append ih
theorem PE{z:List V}(bc:bL z=true){n k:Nat}(hk:z.length=k):∀d∈List.replicate n (lz z),(aC d).length=k:=by
 intro d hd;rw[(List.mem_replicate.1 hd).2,XX bc,hk]
theorem PF (ab:a8 C fid G H w){es:Nat}{ds:List V}{c:Array Value}{vals rest:List Value}{e:TypeId}(eo:0<es)(hn:0<ds.length)(hu:∀d∈ds,(aC d).length=es)(hc:c.toList=vals++rest)
  (ad:a6 fid G w (ds.flatMap aC) vals):
  jS C fid ⟨cp G.β H.length ⟨w.heap.size,ds.length,c.size,false⟩,G.I⟩ (w.alloc (.cells c e)) ⟨w.heap.size,ds.length,c.size,false⟩ (.row es ds false):=
 ⟨rfl,hn,rfl,eo,hu,c,e,vals,rest,mr _ _,rfl,hc,ad.ext ab (Ext.push ab _ ds.length c.size 0)⟩
theorem alL (ab:a8 C fid G H w)(aP:fB C fid vars G w ah ρ){t:TypeId}{len:Nat}{parts:Array (Nat × Operand)}(ho:o.op=.buildSlice t len parts)(hc:C.cX vars pos o.op=some dm)(he:step ah H low dm=some (v,H',low')):
  db C fid G H w low ((execOp ρ o).run C.P w) v H' low':=by
 rw[ho]at hc
 have cm:(execOp ρ o).run C.P w=((Instr.buildSlice t len (parts.map fun(i,x)=>(i,ρ x))).run C.P w).andThen fun z w'=>.ok (.value z) w':=by
  unfold execOp;rw[ho];simp only[Sem.run_bind];rfl
 simp only[Ctx.cX]at hc;split at hc
 ·rename_i e hd
  split at hc
  ·rename_i n z ap hn aR mB
   split at hc
   ·cases hc
   ·rename_i et
    simp only[not_or,Nat.not_lt,ne_eq,Classical.not_not]at et;obtain⟨nn,aDg,jW⟩:=et;obtain⟨jP,rfl⟩:∃jP,dm=.lit n z len ap jP:=⟨_,(te hc).symm⟩;obtain⟨b8,nq,oK,bc,-⟩:=Ga (fid:=fid) aR;have hlen:=wv _ mB;have Ad:b8.cells.size=n:=by rw[<-fw,(oK G w).length,jW]
    simp only[step]at he;split at he
    ·rename_i vs H1 bO ag
     have PG:a6 fid G w (ap.map fun p=>ah p.2) (parts.toList.map fun p=>ρ p.2):=by
      refine a6.akE (by simp[hlen]) (fun j a x h1 h2=> ?_);simp only[hL,cA]at h1 h2;obtain⟨bk,gQ,rfl⟩:=h1;obtain⟨Ac,qm,rfl⟩:=h2;have:=wx _ mB qm gQ;obtain⟨cO,hx,rfl⟩:=cA.1 this;exact aP _ _ hx
     obtain⟨az,f1,bQ⟩:=Pf ab PG ag;have alM:vs.length=ap.length:=by have:=bQ.length;simp only[eL]at this;omega
     split at he
     ·rename_i ds sd
      have alN:((parts.map fun(i,x)=>(i,ρ x)).toList)=parts.toList.map fun(i,x)=>(i,ρ x):=by simp
      have alO:a6 fid az w ((List.replicate len (lz z)).flatMap aC) (((Array.range (len*n)).map fun i=>(if len*n=0 then #[]else b8.cells)[i%(if len*n=0 then #[]else b8.cells:Array Value).size]!).toList):=by
       by_cases rb:len=0
       ·subst rb;simpa using a6.nil
       ·have h0:len*n≠0:=Nat.mul_ne_zero rb nn
        have:=KJ (oK az w) bc (by omega) len;rw[Ad]at this;simpa[h0,Ad]using this
      obtain⟨cells,af,ak,bK,cL⟩:=XV (fid:=fid) (G:=az) (w:=w) (es:=n) (ps:=parts.toList.map fun(i,x)=>(i,ρ x)) (ay:=(ap.zip vs).map fun(p,v)=>(p.1,v))
       (by simp[hlen,alM]) (fun j p a h1 h2=>by
         simp only[hL,cA]at h1 h2;obtain⟨Ac,qm,rfl⟩:=h1;obtain⟨⟨bk,v'⟩,gQ,rfl⟩:=h2;rw[Fi]at gQ;have:=wx _ mB qm gQ.1;obtain⟨cO,hx,rfl⟩:=cA.1 this;refine⟨rfl,?_⟩;obtain⟨y,hy,ep⟩:=bQ.get gQ.2;simp only[hL,qm,nM,aB]at hy;subst hy;exact ep) (PE bc jW) alO sd
      rw[CE]at cL
      have hb:(Instr.buildSlice t len (parts.map fun(i,x)=>(i,ρ x))).run C.P w=.ok (.slice (some ⟨w.heap.size,0,none⟩) len len) (w.alloc (.cells cells e)):=by
       unfold Instr.buildSlice;have hl:¬len*n>2^24:=by omega
       simp only[Sem.run_bind,run_underlying hd,Result.andThen_ok,Aa (C:=C) hn,hl,if_false,alN];by_cases h0:len*n=0
       ·simp only[h0,if_true]at af⊢
        simp only[Sem.run_bind,Sem.run_pure,Result.andThen_ok,af,newRow,run_newObj,World.alloc_eq]
       ·simp only[h0,if_false]at af⊢
        simp only[Sem.run_bind,Sem.run_pure,Result.andThen_ok,nq,af,newRow,run_newObj,World.alloc_eq]
      have hval:(execOp ρ o).run C.P w=.ok (.value (.slice (some ⟨w.heap.size,0,none⟩) len len)) (w.alloc (.cells cells e)):=by rw[cm,hb];rfl
      have eo:0<n:=Fm nn;have emp:db C fid G H w low ((execOp ρ o).run C.P w) .emp H1 bO->True:=fun _=>trivial
      have XY:len=0->db C fid G H w low ((execOp ρ o).run C.P w) .emp H1 bO:=by
       intro h0;refine db.C7 f1 ⟨_,_,_,.inl hval,f1.rel.sn _ False,fun m _=>Ext.sn _ _ _ _,?_,aH _,aH _⟩;subst h0;exact .p _ _ (.emp _)
      split at he
      ·split at he
       ·rename_i aDh hp
        by_cases h0:len=0
        ·simp only[h0,if_true,aB,bx]at he
         obtain⟨rfl,rfl,rfl⟩:=he;exact XY h0
        ·simp only[h0,if_false,aB,bx]at he
         obtain⟨rfl,rfl,rfl⟩:=he;refine db.C7 f1 ⟨_,_,⟨az.β,fun b=>az.I b\/(b=w.heap.size/\True)⟩,.inl hval,f1.rel.sn _ True,fun m _=>Ext.sn _ _ _ _,?_,aH _,aH _⟩;have hx:=Ext.sn (G:=az) (w:=w) (.cells cells e) True 0 H1.length
         have key:=fN.list (w:=w.alloc (.cells cells e)) (I:=fun b=>az.I b\/(b=w.heap.size/\True)) n ds w.heap.size 0 len cells.toList (.inr ⟨rfl,trivial⟩)
          (iL.vZ (rest:=[]) (mr _ _) (by simp)) bK ((ak.ext f1.rel hx).qk (KA hp)) (by omega)
         rw[cL]at key;exact .p _ _ key
       ·cases he
      ·split at he
       ·rename_i h0
        simp only[aB,bx]at he;obtain⟨rfl,rfl,rfl⟩:=he;exact XY h0
       ·rename_i h0
        simp only[aB,bx]at he;obtain⟨rfl,rfl,rfl⟩:=he
        have lU:cells.size=len*n:=by
         rw[<-fw,ak.length,nj bK,cL]
        refine db.C7 f1 (db.alloc f1.rel ds.length cells.size hval (PF f1.rel eo (by omega) bK (rest:=[]) (by simp) ak) ?_);refine .bJ _ n 0 len len ⟨w.heap.size,ds.length,cells.size,false⟩ _ _ _ (dr _ _ _) (by simp only;omega) (fun _=>⟨by simp,rfl,?_,aH _⟩);rw[lU,dA];exact aH _
     ·cases he
    ·cases he
  ·cases hc
 ·cases hc
end Go.Abs
namespace Go.Abs
open Go
variable{C:Ctx}{fid:Nat->Nat}{w w':World}{G G':bX}{H:Heap}
variable{vars:List Nat}{ah:aj->V}{ρ:Operand->Value}{low low':Nat}{v:V}{H':Heap}{pos:String}{dm:cV}{o:Oper}
theorem XZ{n:Int}(h0:0<=n)(h:n<=1099511627776):IntKind.i64.wrap n=n:=by
 have e:n%(2^IntKind.i64.bits:Int)=n:=Int.emod_eq_of_lt h0 (by show n<(2^64:Int);omega);unfold IntKind.wrap;rw[e];have:¬(n>=(2^(IntKind.i64.bits-1):Int)):=by show ¬n>=(2^63:Int);omega
 simp[this]
theorem alP (ab:a8 C fid G H w)(aP:fB C fid vars G w ah ρ){t:TypeId}{l c:Operand}(ho:o.op=.makeSlice t l c)(hc:C.cX vars pos o.op=some dm)(he:step ah H low dm=some (v,H',low')):
  db C fid G H w low ((execOp ρ o).run C.P w) v H' low':=by
 rw[ho]at hc;simp only[Ctx.cX]at hc;split at hc
 ·rename_i e hd
  split at hc
  ·rename_i i z mC ac hi aR h1 h2
   split at hc
   ·cases hc
   ·rename_i et
    simp only[not_or,ne_eq,Classical.not_not]at et;simp only[aB]at hc;subst hc;obtain⟨b8,nq,oK,bc,-⟩:=Ga (fid:=fid) aR;have Ad:b8.cells.size=i.size:=by rw[<-fw,(oK G w).length,et.2]
    have hl:=aP l mC h1;have tt:=aP c ac h2;simp only[step]at he;split at he
    ·rename_i k n bF m af ak
     split at he
     ·rename_i hb
      obtain⟨rfl,nn,hbound⟩:=hb;rw[af]at hl;rw[ak]at tt;obtain⟨j,rfl⟩:=zw nn
      have qn:j<=1099511627776:=by
       have:(j:Int)*1<=(j:Int)*((i.bytes:Int)+1):=Int.mul_le_mul_of_nonneg_left (by omega) nn;omega
      have pq:(i.bytes:Int)*(j:Int)<=1099511627776:=by
       have:(j:Int)*((i.bytes:Int)+1)=(i.bytes:Int)*(j:Int)+j:=by rw[Int.mul_add,Int.mul_comm];omega
       omega
      have hw:=XZ nn (by omega:(j:Int)<=1099511627776);have iV:0<i.size:=Fm et.1
      have cm:∃cells,(execOp ρ o).run C.P w=.ok (.value (.slice (some ⟨w.heap.size,0,none⟩) j j)) (w.alloc (.cells cells e))/\cells.toList=(List.range (j*i.size)).map (fun q=>b8.cells[q%b8.cells.size]!):=by
       refine⟨(Array.range (j*i.size)).map (fun q=>(if j*i.size=0 then #[]else b8.cells:Array Value)[q%(if j*i.size=0 then #[]else b8.cells:Array Value).size]!),?_,?_⟩
       ·unfold execOp;rw[ho]
        have re:¬((decide ((j:Int)<0)||decide ((i.bytes:Int)*(j:Int)>2^48))=true):=by simp;omega
        have pg:¬((decide ((j:Int)<0)||decide ((i.bytes:Int)*(j:Int)>2^48)||decide ((j:Int)<0)||decide ((j:Int)>(j:Int)))=true):=by simp;omega
        simp only[hl.iW,tt.iW,Instr.makeSlice,asInt,asIntOf,Sem.run_bind,Sem.run_pure,Result.andThen_ok,run_underlying hd,run_typeInfo (P:=C.P) w hi,hw];rw[if_neg (by simpa using pg)];simp only[Sem.run_bind,run_askRoom,Result.andThen_ok,sizeOf,run_typeInfo (P:=C.P) w hi,Sem.run_pure,Oi];by_cases h0:j*i.size=0
        ·simp only[h0,if_true,Sem.run_bind,Sem.run_pure,Result.andThen_ok,newRow,run_newObj,World.alloc_eq]
        ·simp only[h0,if_false,Sem.run_bind,Sem.run_pure,Result.andThen_ok,nq,newRow,run_newObj,World.alloc_eq]
       ·by_cases h0:j*i.size=0
        ·simp[h0]
        ·simp[h0]
      obtain⟨cells,cm,fm⟩:=cm;split at he
      ·rename_i KK
       simp only[aB,bx]at he;obtain⟨rfl,rfl,rfl⟩:=he;obtain rfl:j=0:=by omega
       exact⟨_,_,_,.inl cm,ab.sn _ False,fun m _=>Ext.sn _ _ _ _,.p _ _ (.emp _),aH _,aH _⟩
      ·rename_i KK
       simp only[aB,bx,Oi]at he;obtain⟨rfl,rfl,rfl⟩:=he;have pr:=KJ (oK G w) bc (by omega) j;rw[Ad]at pr fm;rw[<-fm]at pr;have hu:=PE bc (n:=j) et.2;have eV:cells.size=j*i.size:=by rw[<-fw,pr.length,nj hu,CE]
       refine db.alloc ab (List.replicate j (lz z)).length cells.size cm (PF ab iV (by simp;omega) hu (rest:=[]) (by simp) pr) ?_;refine .bJ _ _ 0 j j ⟨w.heap.size,(List.replicate j (lz z)).length,cells.size,false⟩ _ _ _ (dr _ _ _) (by simp) (fun _=>⟨by simp,rfl,?_,aH _⟩);rw[eV,dA];exact aH _
     ·cases he
    ·cases he
  ·cases hc
 ·cases hc
theorem Gc (ab:a8 C fid G H w){es:Nat}{a:V}{xs:List V}{x:Value}(ha:bh fid G w a x)(he:elems H es a=some xs):
  ∃c8 cap,x=.slice c8 xs.length cap/\(xs≠[]->∃b off vals,c8=some ⟨b,off,none⟩/\iL w b off vals/\a6 fid G w (xs.flatMap aC) vals/\∀d∈xs,(aC d).length=es):=by
 unfold elems at he;split at he
 ·simp only[aB]at he;subst he
  exact⟨none,0,ha.iZ,fun h=>absurd rfl h⟩
 ·simp only[aB]at he;subst he
  obtain⟨c8,hx⟩:=ha.q5;exact⟨some c8,0,hx,fun h=>absurd rfl h⟩
 ·split at he
  ·rename_i eo
   simp only[aB]at he;subst he;subst eo;obtain⟨c8,cap,hx,-,bf⟩:=ha.yk;refine⟨some c8,cap,hx,fun bg=> ?_⟩;rcases bf with rfl|⟨b,off,vals,rfl,bq,hc,hu,hr⟩
   ·exact absurd rfl bg
   ·exact⟨b,off,vals,rfl,hc,hr.oD,hu⟩
  ·cases he
 ·rename_i l bN off len tag
  split at he
  ·rename_i e6 ds fz hl
   split at he
   ·rename_i et
    obtain⟨rfl,rfl,fX,si⟩:=et;simp only[aB]at he;subst he;obtain⟨h0,c8,cR,cap,cy,oH,gY,dN⟩:=ha.nk;obtain⟨aV,eO,hr⟩:=ab.obj l h0 cy;rw[hl]at eO;cases eO;obtain⟨ht,iV,ag,eo,hu,c,e,vals,rest,hc,eV,ad,ep⟩:=hr;obtain⟨rfl,rfl,-,-⟩:=gY (ht.trans fX);have hlen:((ds.drop off).take cR).length=cR:=by simp;omega
    rw[hlen];refine⟨_,cap,dN,fun _=>⟨h0.b,off*e6,(vals.drop (off*e6)).take (cR*e6),rfl,?_,?_,fun d hd=>hu d (x2 (x3 hd))⟩⟩
    ·have:=((iL.vZ hc ad).drop (off*e6)).take (cR*e6)
     rwa [dA]at this
    ·have mu:∀d∈ds.drop off,(aC d).length=e6:=fun d hd=>hu d (x2 hd)
     rw[C4 mu,zZ hu];exact(ep.drop _).take _
   ·cases he
  ·cases he
 ·cases he
theorem Gd{size n cap:Nat}{b off:Nat}{vals:List Value}(hc:iL w b off vals)(hl:vals.length=n*size):
  (Builtin.firstCells size n (.slice (some ⟨b,off,none⟩) n cap)).run C.P w=.ok vals.toArray w:=by
 have:=run_loadCells_list (P:=C.P) w ⟨b,off,none⟩ vals (fun j v hj=>by rw[Addr.add_lit];exact hc j v hj);rw[hl]at this;exact this
theorem X0:∀{vs vs':List V} {xs:List Value} {G:bX} {H H':Heap} {low low':Nat},a8 C fid G H w->a6 fid G w (vs.flatMap aC) xs->e0 H low vs=some (vs',H',low')->
  ∃G',lT C fid G H w low G' H' low'/\a6 fid G' w (vs'.flatMap aC) xs/\vs'.length=vs.length/\∀es,(∀d∈vs,(aC d).length=es)->∀d∈vs',(aC d).length=es
 |[],_,_,G,H,H',low,low',ab,h,he=>by
  simp only[e0,aB,bx]at he;obtain⟨rfl,rfl,rfl⟩:=he;exact⟨G,.refl ab _,h,rfl,fun _ h=>h⟩
 |v::r,_,xs,G,H,H',low,low',ab,h,he=>by
  simp only[e0]at he;split at he
  ·rename_i v1 H1 bO h1
   split at he
   ·rename_i ca H2 dH h2
    simp only[aB,bx]at he;obtain⟨rfl,rfl,rfl⟩:=he;rw[im]at h;obtain⟨cK,zs,rfl,hy,aR⟩:=h.split;obtain⟨az,f1,bQ,cb⟩:=akM ab hy h1;obtain⟨bu,f2,c6,jk,oF⟩:=X0 f1.rel (aR.ext ab (f1.ext 0 (cJ _))) h2;refine⟨bu,f1.trans f2,?_,by simp[jk],fun es hu d hd=> ?_⟩
    ·rw[im];exact(bQ.ext f1.rel (f2.ext 0 (cJ _))).append c6
    ·rcases dx.1 hd with rfl|hd
     ·rw[cb];exact hu v (by simp)
     ·exact oF es (fun d hd=>hu d (by simp[hd])) d hd
   ·cases he
  ·cases he
end Go.Abs
namespace Go.Abs
open Go
variable{C:Ctx}{fid:Nat->Nat}{w w':World}{G G':bX}{H:Heap}
variable{vars:List Nat}{ah:aj->V}{ρ:Operand->Value}{low low':Nat}{v:V}{H':Heap}{pos:String}{dm:cV}{o:Oper}
theorem PH{P:Program}{t u ty e e':TypeId}{i:TypeInfo}(hd:P.underlying t=some (.slice e))(hu:P.underlying u=some (.slice e'))(hi:P.info? e=some i){base fP:Option Addr}{sLen sCap n lE:Nat}{news:List Value}
  (hx:(Builtin.firstCells i.size n (.slice fP n lE)).run P w=.ok news.toArray w) (h4:sLen+n<=sCap):
  (Builtin.append_ #[t,u] ty #[.slice base sLen sCap,.slice fP n lE]).run P w=
    ((match base with|some a=>storeCells (a.add (sLen*i.size)) news|none=>pure ()).run P w).andThen fun _ w'=>.ok (.slice base (sLen+n) sCap) w':=by
 cases base with
 |none=>simp[Builtin.append_,run_underlying hd,run_underlying hu,sizeOf,typeInfo,hi,Builtin.lenOf,h4,hx]
 |some a=>simp[Builtin.append_,run_underlying hd,run_underlying hu,sizeOf,typeInfo,hi,Builtin.lenOf,h4,hx]
theorem PI{P:Program}{t u ty e e':TypeId}{i:TypeInfo}{b8:Value}(hd:P.underlying t=some (.slice e))(hu:P.underlying u=some (.slice e'))(hi:P.info? e=some i)(aR:i.zero=some b8)
  {base fP:Option Addr} {sLen sCap n lE:Nat} {olds news:List Value}
  (hx:(Builtin.firstCells i.size n (.slice fP n lE)).run P w.drew=.ok news.toArray w.drew) (ho:(Builtin.firstCells i.size sLen (.slice base sLen sCap)).run P w.drew=.ok olds.toArray w.drew)
  (h4:sCap<sLen+n) (hb:(sLen+n)*(i.bytes+1)<=1099511627776):
  ∃gx,sLen+n<=gx/\(Builtin.append_ #[t,u] ty #[.slice base sLen sCap,.slice fP n lE]).run P w=
   .ok (.slice (some ⟨w.heap.size,0,none⟩) (sLen+n) gx) (w.drew.alloc (.cells (olds.toArray++news.toArray++Builtin.zeroCells b8.cells (gx-(sLen+n))) e)):=by
 have h1:¬sLen+n<=sCap:=by omega
 have hm:(sLen+n)*i.bytes+(sLen+n)=(sLen+n)*(i.bytes+1):=by rw[Nat.mul_succ]
 have h2:¬(((sLen+n:Nat):Int)>9223372036854775807):=by omega
 have ar:=growslice_fits (need:=sLen+n) (old:=sCap) (bytes:=i.bytes) h4 (by omega);have aS:¬(281474976710656<Builtin.nextslicecap (sLen+n) sCap*i.bytes):=by omega
 refine⟨sLen+n+(w.tape w.drawn (.appendCap (sLen+n) sCap e))%(9223372036854775808-(sLen+n)),On _ _,?_⟩;have ym:¬(9223372036854775807<(sLen:Int)+(n:Int)):=by omega
 simp[Builtin.append_,run_underlying hd,run_underlying hu,sizeOf,typeInfo,hi,Builtin.lenOf,h1,ym,aS,Question.forced,Question.cut,hx,ho,zeroValue,aR,newRow];congr 2;apply Array.ext';simp
theorem Dh (z:Array Value)(n:Nat):(Builtin.zeroCells z n).size=n*z.size:=by simp[Builtin.zeroCells]
theorem X1{xs:List V}{vals:List Value}(h:a6 fid G w xs vals)(hc:bL xs=true):∀x∈vals,x.oneCell'=true:=C9 h hc
theorem db.newRow (ab:a8 C fid G H w){low:Nat}{r:Result Next}{es:Nat}{ds:List V}{c:Array Value}{vals rest:List Value}{e:TypeId}{cap:Nat}(eo:0<es)(hn:0<ds.length)(hu:∀d∈ds,(aC d).length=es)
  (hc:c.toList=vals++rest) (ad:a6 fid G w (ds.flatMap aC) vals) (ea:cap*es<=c.size) (hle:ds.length<=cap)
  (hr:r=.ok (.value (.slice (some ⟨w.heap.size,0,none⟩) ds.length cap)) (w.drew.alloc (.cells c e))):
  db C fid G H w low r (.bJ H.length es 0 ds.length ds.length) (H++[.row es ds false]) low:=by
 have ko:a8 C fid G H w.drew:=ab.jT rfl;have c5:∀m n,Ext G w G w.drew m n:=fun m n=>Ext.jT (w:=w) (w':=w.drew) rfl rfl rfl m n;have wc:=ad.ext ab (c5 0 0);refine⟨_,_,⟨cp G.β H.length ⟨w.drew.heap.size,ds.length,c.size,false⟩,G.I⟩,.inl hr,ko.push _ _ ds.length c.size (PF ko eo hn hu hc wc),fun m _=>(c5 m H.length).trans (Ext.push ko _ _ _ m),?_,aH _,by simp⟩;exact .bJ _ es 0 _ _ ⟨w.drew.heap.size,ds.length,c.size,false⟩ _ _ _ (dr _ _ _) (aH _) (fun _=>⟨by simp,rfl,by rw[dA];exact ea,hle⟩)
theorem alQ (ab:a8 C fid G H w)(aP:fB C fid vars G w ah ρ){a b:Operand}{t u e e':TypeId}{i:TypeInfo}{b8:Value}{args:Array Operand}{ts:Array TypeId}(ho:o.op=.call {callee:=.builtin .append,args,argTypes:=ts})
  (ha:args= #[a,b]) (ht:ts= #[t,u]) {kp h8:aj} (h1:C.cg vars a=some kp) (h2:C.cg vars b=some h8) (hd:C.P.underlying t=some (.slice e)) (hu:C.P.underlying u=some (.slice e')) (hi:C.P.info? e=some i)
  (aR:i.zero=some b8) (jB:b8.cells.size=i.size) (iV:0<i.size) (he:step ah H low (.append i.size i.bytes kp h8)=some (v,H',low')):db C fid G H w low ((execOp ρ o).run C.P w) v H' low':=by
 subst ha;subst ht;have hx:=aP a kp h1;have hy:=aP b h8 h2
 have cm:(execOp ρ o).run C.P w=((Builtin.append_ #[t,u] o.type #[ρ a,ρ b]).run C.P w).andThen fun z w'=>.ok (.value z) w':=by
  rw[wq ho];simp only[builtin,Sem.run_bind,Fq,dv,iT];rfl
 simp only[step]at he;split at he
 ·rename_i xs eN
  obtain⟨u7,Di,Ae,Dj⟩:=Gc ab hy eN;split at he
  ·rename_i fb H1 bO ag
   have news:∃vals az,lT C fid G H w low az H1 bO/\a6 fid az w (fb.flatMap aC) vals/\fb.length=xs.length/\(∀d∈fb,(aC d).length=i.size)/\
     ∀gu,gu.heap=w.heap->(Builtin.firstCells i.size xs.length (.slice u7 xs.length Di)).run C.P gu=.ok vals.toArray gu:=by
    by_cases bg:xs=[]
    ·subst bg
     simp only[e0,aB,bx]at ag;obtain⟨rfl,rfl,rfl⟩:=ag;refine⟨[],G,.refl ab _,.nil,rfl,by simp,fun gu _=> ?_⟩;cases u7 with
     |none=>simp[Builtin.firstCells]
     |some c8=>simp[Builtin.firstCells,loadCells,loadCellsFrom]
    ·obtain⟨Ab,off,vals,rfl,we,ep,mu⟩:=Dj bg
     obtain⟨az,f1,bQ,cb,jV⟩:=X0 ab ep ag;refine⟨vals,az,f1,bQ,cb,jV _ mu,fun gu hw=> ?_⟩;exact Gd (fun j x hj=>by rw[OZ (w:=w) (w':=gu) (by rw[hw])];exact we j x hj) (by rw[ep.length,nj mu])
   obtain⟨vals,az,f1,bQ,cb,jV,tz⟩:=news;rw[Ae]at cm;have gj:=hx.ext ab (f1.ext 0 (cJ _));refine db.C7 f1 ?_;have gy:=f1.rel;split at he
   ·
    rename_i pt
    have PJ:xs=[]:=by
     have:fb=[]:=by simpa using pt
     rw[this]at cb;exact uR.1 cb.symm
    have oL:vals=[]:=by
     have:=bQ.length;have eM:fb=[]:=by simpa using pt
     rw[eM]at this;exact uR.1 (by simpa using this)
    subst PJ;subst oL
    have same:∀base n cap,ρ a=.slice base n cap->n<=cap->(execOp ρ o).run C.P w=.ok (.value (ρ a)) w:=by
     intro base n cap hs hle;rw[cm,hs,PH (P:=C.P) hd hu hi (tz w rfl) (by simpa using hle)];cases base<;>simp[storeCells]
    split at he
    ·rename_i af
     simp only[aB,bx]at he;obtain⟨rfl,rfl,rfl⟩:=he;rw[af]at gj;exact .same gy (same _ _ _ gj.iZ (aH _)) gj
    ·rename_i af
     simp only[aB,bx]at he;obtain⟨rfl,rfl,rfl⟩:=he;rw[af]at gj;obtain⟨c8,dN⟩:=gj.q5;exact .same gy (same _ _ _ dN (aH _)) gj
    ·rename_i bN ds af
     simp only[aB,bx]at he;obtain⟨rfl,rfl,rfl⟩:=he;rw[af]at gj;obtain⟨c8,cap,dN,ea,-⟩:=gj.yk;exact .same gy (same _ _ _ dN ea) gj
    ·rename_i l bN off len tag af
     rw[af]at gj;split at he
     ·rename_i e6 ds fz hl
      split at he
      ·rename_i fX
       simp only[aB,bx]at he;obtain⟨rfl,rfl,rfl⟩:=he;obtain⟨h0,c8,cR,cap,cy,oH,gY,dN⟩:=gj.nk;obtain⟨aV,eO,hr⟩:=gy.obj l h0 cy;rw[hl]at eO;cases eO;obtain⟨rfl,rfl,-,np⟩:=gY (hr.1.trans fX);exact .same gy (same _ _ _ dN np) gj
      ·cases he
     ·cases he
    ·cases he
   ·rename_i pt
    have bg:0<fb.length:=by
     rcases Wt fb.length with q|q
     ·exact absurd (by simpa using uR.1 q) pt
     ·exact q
    split at he
    ·cases he
    ·rename_i bc
     have bc:bL (fb.flatMap aC)=true:=by simpa using bc
     have Ge:=X1 bQ bc;have lB:vals.length=xs.length*i.size:=by rw[bQ.length,nj jV,cb]
     have fresh:∀base,ρ a=.slice base 0 0->fb.length*(i.bytes+1)<=1099511627776->db C fid az H1 w bO ((execOp ρ o).run C.P w) (.bJ H1.length i.size 0 fb.length fb.length) (H1++[.row i.size fb false]) bO:=by
      intro base hs hb
      have hold:(Builtin.firstCells i.size 0 (.slice base 0 0)).run C.P w.drew=.ok ([]:List Value).toArray w.drew:=by
       cases base<;>simp[Builtin.firstCells,loadCells,loadCellsFrom]
      obtain⟨gx,ea,lF⟩:=PI (P:=C.P) (t:=t) (u:=u) (ty:=o.type) hd hu hi aR (tz w.drew rfl) hold (by omega) (by rw[dA,<-cb];exact hb);rw[dA,<-cb]at lF ea;refine db.newRow gy (cap:=gx) (e:=e) iV bg jV (vals:=vals) (rest:=(Builtin.zeroCells b8.cells (gx-fb.length)).toList) ?_ bQ ?_ ea (by rw[cm,hs,<-cb,lF];rfl)
      ·simp
      ·simp only[zC,ta,nL,dA,Dh,lB,jB,<-cb,<-p7]
       rw[Nat.add_sub_cancel' ea];exact aH _
     split at he
     ·rename_i af
      split at he
      ·rename_i hb
       simp only[aB,bx]at he;obtain⟨rfl,rfl,rfl⟩:=he;rw[af]at gj;exact fresh _ gj.iZ hb
      ·cases he
     ·rename_i af
      split at he
      ·rename_i hb
       simp only[aB,bx]at he;obtain⟨rfl,rfl,rfl⟩:=he;rw[af]at gj;obtain⟨c8,dN⟩:=gj.q5;exact fresh _ dN hb
      ·cases he
     ·rename_i l bN off len tag af
      rw[af]at gj;split at he
      ·rename_i e6 ds hl
       split at he
       ·rename_i et
        obtain⟨rfl,rfl,fX,rfl,rfl,hb⟩:=et;simp only[aB,bx]at he;obtain⟨rfl,rfl,rfl⟩:=he;obtain⟨h0,c8,cR,cap,cy,oH,gY,dN⟩:=gj.nk;obtain⟨aV,eO,hr⟩:=gy.obj l h0 cy;rw[hl]at eO;cases eO;obtain⟨nr,wy,hfz,eo,iY,c,wz,k6,rest,hc,eV,gv,ep⟩:=hr;obtain⟨rfl,rfl,lU,np⟩:=gY (nr.trans fX);rw[vS]at dN;rw[dA]at lU;have lA:ds.length=cR:=fX;have si:k6.length=cR*i.size:=by rw[ep.length,nj iY,lA]
        have fm:c.size=k6.length+rest.length:=by rw[<-fw,gv,eZ]
        have sq:∀d∈ds++fb,(aC d).length=i.size:=fun d hd=>by
         rcases iq.1 hd with q|q
         ·exact iY d q
         ·exact jV d q
        have Gf:a6 fid az w ((ds++fb).flatMap aC) (k6++vals):=by rw[zA];exact ep.append bQ
        by_cases h4:cR+xs.length<=cap
        ·
         have hmul:(cR+xs.length)*i.size<=c.size:=cY (x4 _ h4) (by rw[<-eV];exact lU);rw[p7]at hmul;have ct:=run_storeCells_at C.P h0.b (cR*i.size) wz vals 0 c w hc (by omega) Ge
         have hval:(execOp ρ o).run C.P w=.ok (.value (.slice (some ⟨h0.b,0,none⟩) (cR+xs.length) cap)) (w.setRow h0.b (c.toList.take (cR*i.size)++vals++c.toList.drop (cR*i.size+vals.length)).toArray):=by
          rw[cm,dN,PH (P:=C.P) hd hu hi (tz w rfl) h4];simp only[Addr.add_lit,dA];simp only[x9]at ct;rw[ct];rfl
         have dT:Ext az w ⟨cp az.β l {h0 with tag:=cR+fb.length},az.I⟩ (w.setRow h0.b (c.toList.take (cR*i.size)++vals++c.toList.drop (cR*i.size+vals.length)).toArray) l H1.length:=
          Ext.write gy cy hfz rfl (by simp only;omega) (fun q=>by omega) rfl (setRow_size _ _) (fun b bg=>setRow_other bg _) rfl rfl
         refine⟨_,_,_,.inl hval,a8.write gy cy hfz (h':={h0 with tag:=cR+fb.length}) rfl hfz (by simp only;omega) (fun q=>by omega) rfl (setRow_size _ _) (fun b bg=>setRow_other bg _) (.row i.size (ds++fb) false) ?_,
          fun m hm=>dT.le (cY hm (nJ _ _)) (aH _),?_,jM _ _,by simp⟩
         ·refine⟨by simp[lA],by simp;omega,hfz,eo,sq,_,wz,k6++vals,rest.drop vals.length,setRow_heap w h0.b c _ wz _ hc,?_,?_,Gf.ext gy dT⟩
          ·show h0.fA=_
           rw[eV];simp only[ta,eZ,nc,nK,fw];omega
          ·rw[CF,gv,<-si,List.take_left,Oo,kA,kA]
           congr 2;rw[Od (by omega),jN];congr 1;omega
         ·rw[<-cb]
          exact .bJ l i.size 0 _ _ {h0 with tag:=cR+fb.length} _ _ _ (dr _ _ _) (aH _) (fun _=>⟨by simp,rfl,by rw[dA];exact lU,by omega⟩)
        ·
         have hold:(Builtin.firstCells i.size cR (.slice (some ⟨h0.b,0,none⟩) cR cap)).run C.P w.drew=.ok k6.toArray w.drew:=
          Gd (iL.vZ (w:=w.drew) hc gv) si
         obtain⟨gx,ea,lF⟩:=PI (P:=C.P) (t:=t) (u:=u) (ty:=o.type) hd hu hi aR (tz w.drew rfl) hold (by omega) (by rw[<-cb];exact hb);have wA:a8 C fid az H1 w.drew:=gy.jT rfl;have c5:∀m n,Ext az w az w.drew m n:=fun m n=>Ext.jT (w:=w) (w':=w.drew) rfl rfl rfl m n
         obtain⟨bB,ca⟩:=a8.move wA cy hfz (.cells (k6.toArray++vals.toArray++Builtin.zeroCells b8.cells (gx-(cR+xs.length))) e) (cR+fb.length)
          (k6.toArray++vals.toArray++Builtin.zeroCells b8.cells (gx-(cR+xs.length))).size (by omega) (by omega) (.row i.size (ds++fb) false)
          ⟨by simp[lA],by simp;omega,rfl,eo,sq,_,e,k6++vals,(Builtin.zeroCells b8.cells (gx-(cR+xs.length))).toList,mr _ _,rfl,by simp,a6.mono (G:=az) (w:=w.drew) (G':=⟨cp az.β l ⟨w.drew.heap.size,cR+fb.length,(k6.toArray++vals.toArray++Builtin.zeroCells b8.cells (gx-(cR+xs.length))).size,false⟩,az.I⟩) (by
           intro x e8 eM;by_cases lD:x=l
           ·subst lD;rw[cy]at eM;cases eM
            exact⟨_,dr _ _ _,by simp only;omega,fun q=>by omega,fun q=>by simp only at q;omega,fun q=>by rw[hfz]at q;cases q⟩
           ·exact⟨e8,by simp only[dE lD];exact eM,aH _,id,fun _=>⟨rfl,rfl⟩,fun _=>rfl⟩) (fun b qo=>⟨qo,alloc_old (w:=w.drew) (wA.da b qo).1⟩) (Gf.ext gy (c5 0 0))⟩
         refine⟨_,_,_,.inl (by rw[cm,dN,lF];rfl),bB,fun m hm=>(c5 m H1.length).trans (ca.le (cY hm (nJ _ _)) (aH _)),?_,jM _ _,by simp⟩;rw[<-cb];refine .bJ l i.size 0 _ _ ⟨w.drew.heap.size,cR+fb.length,_,false⟩ _ _ _ (dr _ _ _) (aH _) (fun _=>⟨by simp,rfl,?_,by omega⟩);simp only[zC,ta,Dh,lB,si,jB,<-p7,dA];have wk:cR+xs.length+(gx-(cR+fb.length))=gx:=by omega
         rw[wk];exact aH _
       ·cases he
      ·cases he
     ·cases he
  ·cases he
 ·cases he
theorem db.alR (ab:a8 C fid G H w){low:Nat}{r:Result Next}{es:Nat}{ds:List V}{c:Array Value}{vals rest:List Value}{e:TypeId}{cap:Nat}(hu:∀d∈ds,(aC d).length=es)(hp:cj ds=true)
  (hc:c.toList=vals++rest) (ad:a6 fid G w (ds.flatMap aC) vals) (hle:ds.length<=cap)
  (hr:r=.ok (.value (.slice (some ⟨w.heap.size,0,none⟩) ds.length cap)) (w.drew.alloc (.cells c e))):
  db C fid G H w low r (.list es ds) H low:=by
 have ko:a8 C fid G H w.drew:=ab.jT rfl;have c5:∀m n,Ext G w G w.drew m n:=fun m n=>Ext.jT (w:=w) (w':=w.drew) rfl rfl rfl m n;have hx:∀m n,Ext G w ⟨G.β,fun b=>G.I b\/(b=w.drew.heap.size/\True)⟩ (w.drew.alloc (.cells c e)) m n:=fun m n=>(c5 m n).trans (Ext.sn (.cells c e) True m n);refine⟨_,_,⟨G.β,fun b=>G.I b\/(b=w.drew.heap.size/\True)⟩,.inl hr,ko.sn (.cells c e) True,fun m _=>hx m _,.p _ _ ?_,aH _,aH _⟩;exact .list es ds w.drew.heap.size 0 cap vals (.inr ⟨rfl,trivial⟩) (iL.vZ (rest:=rest) (mr _ _) hc) hu ((ad.ext ab (hx 0 0)).qk (KA hp)) hle
theorem alS (ab:a8 C fid G H w)(aP:fB C fid vars G w ah ρ){a b:Operand}{t u e e':TypeId}{i:TypeInfo}{b8:Value}{args:Array Operand}{ts:Array TypeId}(ho:o.op=.call {callee:=.builtin .append,args,argTypes:=ts})
  (ha:args= #[a,b]) (ht:ts= #[t,u]) {kp h8:aj} (h1:C.cg vars a=some kp) (h2:C.cg vars b=some h8) (hd:C.P.underlying t=some (.slice e)) (hu:C.P.underlying u=some (.slice e')) (hi:C.P.info? e=some i)
  (aR:i.zero=some b8) (jB:b8.cells.size=i.size) (iV:0<i.size) (he:step ah H low (.ya i.size i.bytes kp h8)=some (v,H',low')):db C fid G H w low ((execOp ρ o).run C.P w) v H' low':=by
 subst ha;subst ht;have gj:=aP a kp h1;have hy:=aP b h8 h2
 have cm:(execOp ρ o).run C.P w=((Builtin.append_ #[t,u] o.type #[ρ a,ρ b]).run C.P w).andThen fun z w'=>.ok (.value z) w':=by
  rw[wq ho];simp only[builtin,Sem.run_bind,Fq,dv,iT];rfl
 simp only[step]at he;split at he
 ·rename_i xs eN
  obtain⟨u7,Di,Ae,Dj⟩:=Gc ab hy eN;split at he
  ·cases he
  rename_i hp;have hp:cj xs=true:=by simpa using hp
  obtain⟨vals,bQ,jV,tz⟩:∃vals,a6 fid G w (xs.flatMap aC) vals/\(∀d∈xs,(aC d).length=i.size)/\∀gu,gu.heap=w.heap->(Builtin.firstCells i.size xs.length (.slice u7 xs.length Di)).run C.P gu=.ok vals.toArray gu:=by
   by_cases bg:xs=[]
   ·subst bg
    refine⟨[],.nil,by simp,fun gu _=> ?_⟩;cases u7 with
    |none=>simp[Builtin.firstCells]
    |some c8=>simp[Builtin.firstCells,loadCells,loadCellsFrom]
   ·obtain⟨Ab,off,vals,rfl,we,ep,mu⟩:=Dj bg
    exact⟨vals,ep,mu,fun gu hw=>Gd (fun j x hj=>by rw[OZ (w:=w) (w':=gu) (by rw[hw])];exact we j x hj) (by rw[ep.length,nj mu])⟩
  rw[Ae]at cm
  have same:xs=[]->∀base n cap,ρ a=.slice base n cap->n<=cap->(execOp ρ o).run C.P w=.ok (.value (ρ a)) w:=by
   intro PJ base n cap hs hle;subst PJ;have oL:vals=[]:=uR.1 (by rw[bQ.length];rfl);subst oL;rw[cm,hs,PH (P:=C.P) hd hu hi (tz w rfl) (by simpa using hle)];cases base<;>simp[storeCells]
  have fresh:∀base,ρ a=.slice base 0 0->0<xs.length->xs.length*(i.bytes+1)<=1099511627776->db C fid G H w low ((execOp ρ o).run C.P w) (.list i.size xs) H low:=by
   intro base hs bg hb;have lB:vals.length=xs.length*i.size:=by rw[bQ.length,nj jV]
   have hold:(Builtin.firstCells i.size 0 (.slice base 0 0)).run C.P w.drew=.ok ([]:List Value).toArray w.drew:=by
    cases base<;>simp[Builtin.firstCells,loadCells,loadCellsFrom]
   obtain⟨gx,ea,lF⟩:=PI (P:=C.P) (t:=t) (u:=u) (ty:=o.type) hd hu hi aR (tz w.drew rfl) hold (by omega) (by rw[dA];exact hb);rw[dA]at lF ea;refine db.alR ab (cap:=gx) (e:=e) jV hp (vals:=vals) (rest:=(Builtin.zeroCells b8.cells (gx-xs.length)).toList) ?_ bQ ea (by rw[cm,hs,lF];rfl);simp
  have pos:¬xs.isEmpty=true->0<xs.length:=fun q=>by
   rcases Wt xs.length with q'|q'
   ·exact absurd (by simpa using uR.1 q') q
   ·exact q'
  have nil:xs.isEmpty=true->xs=[]:=fun q=>by simpa using q
  split at he
  ·rename_i af
   rw[af]at gj;split at he
   ·rename_i q
    simp only[aB,bx]at he;obtain⟨rfl,rfl,rfl⟩:=he;exact .same ab (same (nil q) _ _ _ gj.iZ (aH _)) gj
   ·rename_i q
    split at he
    ·rename_i hb
     simp only[aB,bx]at he;obtain⟨rfl,rfl,rfl⟩:=he;exact fresh _ gj.iZ (pos q) hb.2
    ·cases he
  ·rename_i af
   rw[af]at gj;obtain⟨c8,dN⟩:=gj.q5;split at he
   ·rename_i q
    simp only[aB,bx]at he;obtain⟨rfl,rfl,rfl⟩:=he;exact .same ab (same (nil q) _ _ _ dN (aH _)) gj
   ·rename_i q
    split at he
    ·rename_i hb
     simp only[aB,bx]at he;obtain⟨rfl,rfl,rfl⟩:=he;exact fresh _ dN (pos q) hb.2
    ·cases he
  ·cases he
 ·cases he
end Go.Abs
namespace Go.Abs
open Go
variable{C:Ctx}{fid:Nat->Nat}{w w':World}{G G':bX}{H:Heap}
variable{vars:List Nat}{ah:aj->V}{ρ:Operand->Value}{low low':Nat}{v:V}{H':Heap}{pos:String}{dm:cV}{o:Oper}
theorem X2:∀{a b:List V},mj (a++b)=(mj a&&mj b)
 |[],b=>by simp[mj]
 |x::a,b=>by simp[mj,X2 (a:=a),zI]
theorem alT (ab:a8 C fid G H w)(aP:fB C fid vars G w ah ρ){a b:Operand}{t u e e':TypeId}{n:Nat}{args:Array Operand}{ts:Array TypeId}(ho:o.op=.call {callee:=.builtin .copy,args,argTypes:=ts})
  (ha:args= #[a,b]) (ht:ts= #[t,u]) {kp h8:aj} (h1:C.cg vars a=some kp) (h2:C.cg vars b=some h8) (hd:C.P.underlying t=some (.slice e)) (hn:C.sizeOf e=some n)
  (he:step ah H low (.copy n kp h8)=some (v,H',low')):db C fid G H w low ((execOp ρ o).run C.P w) v H' low':=by
 subst ha;subst ht;have hx:=aP a kp h1;have hy:=aP b h8 h2
 have cm:(execOp ρ o).run C.P w=((Builtin.copy_ #[t,u] o.type #[ρ a,ρ b]).run C.P w).andThen fun z w'=>.ok (.value z) w':=by
  rw[wq ho];simp only[builtin,Sem.run_bind,Fq,dv,iT];rfl
 have zero:∀base,(∃xs,elems H n (ah h8)=some xs)->ρ a=.slice base 0 0->db C fid G H w low ((execOp ρ o).run C.P w) (.int .i64 0) H low:=by
  rintro base ⟨xs,eN⟩ hs;obtain⟨u7,Di,Ae,Dj⟩:=Gc ab hy eN;refine .same ab (x:=.int .i64 0) ?_ (.p _ _ (.int _ _));rw[cm,hs,Ae];cases u7<;>cases base<;>simp[Builtin.copy_,run_underlying hd,Builtin.lenOf,Builtin.firstCells,loadCells,loadCellsFrom,Aa (C:=C) hn,storeCells,goInt]
 simp only[step]at he;split at he
 ·rename_i xs af eN
  simp only[aB,bx]at he;obtain⟨rfl,rfl,rfl⟩:=he;rw[af]at hx;exact zero _ ⟨_,eN⟩ hx.iZ
 ·rename_i xs af eN
  simp only[aB,bx]at he;obtain⟨rfl,rfl,rfl⟩:=he;rw[af]at hx;obtain⟨c8,dN⟩:=hx.q5;exact zero _ ⟨_,eN⟩ dN
 ·rename_i l bN off len tag xs af eN
  split at he
  ·rename_i e6 ds hl
   split at he
   ·rename_i et
    obtain⟨rfl,rfl,fX,si,jm⟩:=et;simp only[aB,bx]at he;obtain⟨rfl,rfl,rfl⟩:=he;rw[af]at hx;obtain⟨u7,Di,Ae,Dj⟩:=Gc ab hy eN;obtain⟨h0,c8,cR,cap,cy,oH,gY,dN⟩:=hx.nk;obtain⟨aV,eO,hr⟩:=ab.obj l h0 cy;rw[hl]at eO;cases eO;obtain⟨nr,wy,hfz,eo,iY,c,wz,k6,rest,hc,eV,gv,ep⟩:=hr;obtain⟨rfl,rfl,-,-⟩:=gY (nr.trans fX)
    have key:∃zs,(Builtin.firstCells e6 (Nat.min xs.length cR) (.slice u7 xs.length Di)).run C.P w=.ok zs.toArray w/\a6 fid G w ((xs.take cR).flatMap aC) zs/\((xs.take cR).flatMap aC).length=(xs.take cR).length*e6/\∀d∈xs.take cR,(aC d).length=e6:=by
     by_cases bg:xs=[]
     ·subst bg
      refine⟨[],?_,by simpa using a6.nil,by simp,by simp⟩;cases u7<;>simp[Builtin.firstCells,loadCells,loadCellsFrom]
     ·obtain⟨Ab,o',vals,rfl,we,qp,mu⟩:=Dj bg
      have sq:∀d∈xs.take cR,(aC d).length=e6:=fun d hd=>mu d (x3 hd);refine⟨vals.take (cR*e6),?_,by rw[C4 mu];exact qp.take _,nj sq,sq⟩;have lB:vals.length=xs.length*e6:=by rw[qp.length,nj mu]
      have ak:(vals.take (cR*e6)).length=Nat.min xs.length cR*e6:=by
       rw[nc,lB,Nat.mul_min_mul_right,Nat.min_comm]
      have:=run_loadCells_list (P:=C.P) w ⟨Ab,o',none⟩ (vals.take (cR*e6)) (fun j v hj=>by rw[Addr.add_lit];exact(we.take _) j v hj);rw[ak]at this;exact this
    obtain⟨zs,Gg,KL,PK,alU⟩:=key
    have bc:∀x∈zs,x.oneCell'=true:=by
     refine C9 KL (Pl ?_);have:mj ((xs.take cR++xs.drop cR).flatMap aC)=true:=by rw[Oe];exact jm
     rw[zA,X2,b6]at this;exact this.1
    have jW:=KL.length;have lD:(xs.take cR).length=min cR xs.length:=by simp
    have lA:ds.length=tag:=fX;have hmul:(off+min cR xs.length)*e6<=ds.length*e6:=x4 _ (by have:=jM cR xs.length;omega);rw[p7]at hmul;have aDi:k6.length=ds.length*e6:=by rw[ep.length,nj iY]
    have fm:c.size=k6.length+rest.length:=by rw[<-fw,gv,eZ]
    have ct:=run_storeCells_at C.P h0.b (off*e6) wz zs 0 c w hc (by rw[jW,PK,lD];omega) bc
    obtain⟨G',bB,ca⟩:=XF ab cy hl (ds':=ds.take off++xs.take cR++ds.drop (off+min cR xs.length)) (by simp only[eZ,nc,nK];omega)
     (fun d hd=>by
       rcases iq.1 hd with q|q
       ·rcases iq.1 q with q|q
        ·exact iY d (x3 q)
        ·exact alU d q
       ·exact iY d (x2 q)) (o:=off*e6) KL (by rw[PK,lD];omega)
     (fun vals ad=>by
       rw[zA,zA,C4 iY,zZ iY,jW,PK,lD,<-p7];exact((ad.take _).append KL).append (ad.drop _)) hc
    refine⟨_,_,G',.inl ?_,bB,fun m hm=>ca.le (cY hm (nJ _ _)) (aH _),.p _ _ (.int _ _),jM _ _,by simp⟩;rw[cm,dN,Ae];simp only[x9]at ct;have wk:xs.length.min cR=min cR xs.length:=Nat.min_comm _ _;rw[wk]at Gg;simp[Builtin.copy_,run_underlying hd,Builtin.lenOf,Aa (C:=C) hn,wk,Gg,ct,goInt]
   ·cases he
  ·cases he
 ·cases he
theorem u9{k:TypeId}{bY:Nat}(hk:C.jR k=some bY)(em:Bool)(n:Nat)(x:Value):(Instr.checkKey em (n+1) k x).run C.P w=.ok () w:=by
 unfold Ctx.jR at hk;unfold Instr.checkKey;split at hk<;>rename_i hd<;>first|(cases hk;done)|(rw[Sem.run_bind,run_underlying hd];rfl)
theorem yn{k:TypeId}{bY:Nat}{d:TypeDesc}(hk:C.jR k=some bY)(hd:C.P.underlying k=some d){a b:V}{e:Bool}{x y:Value}(ha:bh fid G w a x)(hb:bh fid G w b y)(he:iK bY a b=some e):
  Instr.sameNow d x y=some e/\(e=true->Instr.sameBits 10000 y x=true):=by
 unfold Ctx.jR at hk;rw[hd]at hk;unfold iK at he;split at he
 ·split at he
  ·rename_i F3
   simp only[aB]at he;subst he;subst F3;rw[ha.iW,hb.iW];cases d<;>simp at hk;refine⟨by simp[Instr.sameNow],fun h=> ?_⟩;simp at h;subst h;simp[Instr.sameBits]
  ·cases he
 ·simp only[aB]at he;subst he
  rw[ha.oG,hb.oG];cases d<;>simp at hk;refine⟨by simp[Instr.sameNow,beq_toListBytes,ByteArray.toList_eq],fun h=> ?_⟩;simp at h;subst h;simp[Instr.sameBits,beq_toListBytes,ByteArray.toList_eq]
 ·simp only[aB]at he;subst he
  rw[ha.k5,hb.k5];cases d<;>simp at hk;refine⟨by simp[Instr.sameNow],fun h=> ?_⟩;simp at h;subst h;simp[Instr.sameBits]
 ·cases he
theorem sr{k:TypeId}{bY:Nat}{d:TypeDesc}(hk:C.jR k=some bY)(hd:C.P.underlying k=some d){a:V}{x:Value}(ha:bh fid G w a x):∀{bp:List (V × V)} {es:List MapEntry} (i:Nat) {r:Option V},
  a6 fid G w (bp.map (·.1)) (es.map (·.key))->a6 fid G w (bp.map (·.2)) (es.map (·.val))->hZ bY a bp=some r->
  match r with
  |none=>Instr.findNow d x es i=some none
  |some u=>∃j y,Instr.findNow d x es i=some (some (i+j,y))/\bh fid G w u y/\(∃e,es[j]? =some e/\Instr.sameBits 10000 e.key x=true)
 |[],[],i,r,_,_,h=>by
  simp only[hZ,aB]at h;subst h;rfl
 |[],_::_,_,_,h,_,_=>by simp at h;cases h
 | _::_,[],_,_,h,_,_=>by simp at h;cases h
 |(bF,u)::bp,e::es,i,r,eG,c2,h=>by
  simp only[dv]at eG c2;cases eG with
  |cons _ _ _ _ gG eG=>
   cases c2 with
   |cons _ _ _ _ sk c2=>
    simp only[hZ]at h;split at h
    ·rename_i he
     simp only[aB]at h;subst h;obtain⟨hs,hb⟩:=yn hk hd ha gG he;exact⟨0,e.val,by simp[Instr.findNow,hs],sk,e,rfl,hb rfl⟩
    ·rename_i he
     obtain⟨hs,-⟩:=yn hk hd ha gG he;have ih:=sr hk hd ha (i+1) eG c2 h;cases r with
     |none=>simpa[Instr.findNow,hs]using ih
     |some u'=>
      obtain⟨j,y,h1,h2,e',ar,aS⟩:=ih;refine⟨j+1,y,?_,h2,e',by simpa using ar,aS⟩;have:i+(j+1)=i+1+j:=by omega
      rw[this];simpa[Instr.findNow,hs]using h1
    ·cases h
theorem wB{k:TypeId}{d:TypeDesc}(hd:C.P.underlying k=some d){x:Value}{es:List MapEntry}{r:Option (Nat × Value)}(h:Instr.findNow d x es 0=some r):(Instr.findKey k x es).run C.P w=.ok r w:=by
 unfold Instr.findKey;simp only[Sem.run_bind,run_underlying hd,Result.andThen_ok,h,Sem.run_pure]
theorem KM{k:TypeId}{bY:Nat}(hk:C.jR k=some bY):∃d,C.P.underlying k=some d:=by
 unfold Ctx.jR at hk;split at hk<;>rename_i hd<;>first|exact⟨_,hd⟩|cases hk
theorem alV{t:TypeId}{z:V}(aR:C.zeroV t=some z)(hu:u0 z=false):∃b8,(∀w,(zeroValue t).run C.P w=.ok b8 w)/\∀(G:bX) (w:World),bh fid G w z b8:=by
 unfold Ctx.zeroV at aR;split at aR
 ·rename_i i hi
  split at aR
  ·rename_i b8 Dc
   refine⟨b8,fun w=> ?_,fun G w=>.p _ _ ((FY b8 aR).resolve_left (by rintro rfl;simp[u0]at hu))⟩;simp only[zeroValue,Sem.run_bind,run_typeInfo (P:=C.P) w hi,Result.andThen_ok,Dc,Sem.run_pure]
  ·cases aR
 ·cases aR
theorem yo{r:Nat}{es:Array MapEntry}{bT:Nat}(h:w.heap[r]? =some (.map es bT)):(getObj r).run C.P w=.ok (.map es bT) w:=by simp[getObj,Sem.run,h]
theorem Dk{r:Nat}{es:Array MapEntry}{bT:Nat}(o:Obj)(h:w.heap[r]? =some (.map es bT)):(setObj r o).run C.P w=.ok () {w with heap:=w.heap.setIfInBounds r o}:=by simp[setObj,Sem.run,h]
theorem alW (ab:a8 C fid G H w)(aP:fB C fid vars G w ah ρ){t:TypeId}{x i:Operand}{ok:Bool}(ho:o.op=.lookup t x i ok)(hc:C.cX vars pos o.op=some dm)(he:step ah H low dm=some (v,H',low')):
  db C fid G H w low ((execOp ρ o).run C.P w) v H' low':=by
 rw[ho]at hc;simp only[Ctx.cX]at hc;split at hc
 ·rename_i k e cO jA hd h1 h2
  split at hc
  ·rename_i bY z gR aR
   split at hc
   ·cases hc
   ·rename_i alX
    simp only[aB]at hc;subst hc;have hx:=aP x cO h1;have hi:=aP i jA h2;obtain⟨b8,nq,oK⟩:=alV (fid:=fid) aR (by simpa using alX);obtain⟨KN,jC⟩:=KM gR
    have cm:(execOp ρ o).run C.P w=((Instr.lookup t (ρ x) (ρ i) ok).run C.P w).andThen fun z w'=>.ok (.value z) w':=by
     unfold execOp;rw[ho];simp only[Sem.run_bind];rfl
    have res:∀(u:V) (y:Value) (b:Bool),bh fid G w u y->bh fid G w (if ok then .aU [u,.bool b]else u) (if ok then .tuple #[y,.bool b]else y):=by
     intro u y b h;cases ok
     ·exact h
     ·exact .aU _ [y,.bool b] (.cons _ _ _ _ h (.cons _ _ _ _ (.p _ _ (.bool _)) .nil))
    simp only[step]at he;split at he
    ·rename_i af
     simp only[aB,bx]at he;obtain⟨rfl,rfl,rfl⟩:=he;rw[af]at hx;refine .same ab ?_ (res z b8 false (oK G w));rw[cm,hx.Po];unfold Instr.lookup;have ag:=wB (C:=C) (w:=w) jC (x:=ρ i) (es:=[]) (r:=none) rfl;simp only[Sem.run_bind,run_underlying hd,Result.andThen_ok,Sem.run_pure,u9 gR,ag,nq]
    ·rename_i l af
     rw[af]at hx;obtain⟨h0,cy,-,dN⟩:=hx.mapInv;split at he
     ·rename_i bp hl
      obtain⟨aV,eO,hr⟩:=ab.obj l h0 cy;rw[hl]at eO;cases eO;obtain⟨-,-,es,bT,hm,gG,wu,-⟩:=hr;split at he
      ·rename_i u jn
       simp only[aB,bx]at he;obtain⟨rfl,rfl,rfl⟩:=he;obtain⟨j,y,ag,ep,-⟩:=sr gR jC hi 0 gG wu jn;refine .same ab ?_ (res u y true ep);rw[cm,dN];unfold Instr.lookup;simp only[Sem.run_bind,run_underlying hd,Result.andThen_ok,Sem.run_pure,yo hm,u9 gR,wB (C:=C) jC ag]
      ·rename_i jn
       simp only[aB,bx]at he;obtain⟨rfl,rfl,rfl⟩:=he;have ag:=sr gR jC hi 0 gG wu jn;refine .same ab ?_ (res z b8 false (oK G w));rw[cm,dN];unfold Instr.lookup;simp only[Sem.run_bind,run_underlying hd,Result.andThen_ok,Sem.run_pure,yo hm,u9 gR,wB (C:=C) jC ag,nq]
      ·cases he
     ·cases he
    ·cases he
  ·cases hc
 ·cases hc
theorem PL{bY:Nat}{k u:V}:∀{bp:List (V × V)},hZ bY k bp=some none->kZ bY k u bp=bp++[(k,u)]
 |[],_=>rfl
 |(bF,v)::r,h=>by
  simp only[hZ]at h;split at h
  ·cases h
  ·rename_i he
   simp[kZ,he,PL h]
  ·cases h
theorem X3{k:TypeId}{bY:Nat}{d:TypeDesc}(hk:C.jR k=some bY)(hd:C.P.underlying k=some d){a:V}{x:Value}(ha:bh fid G w a x){u:V}{y:Value}(hu:bh fid G w u y):∀{bp:List (V × V)} {es:List MapEntry} (i:Nat) {r:V} {j:Nat} {z:Value},
  a6 fid G w (bp.map (·.1)) (es.map (·.key))->a6 fid G w (bp.map (·.2)) (es.map (·.val))->hZ bY a bp=some (some r)->Instr.findNow d x es i=some (some (i+j,z))->
  a6 fid G w ((kZ bY a u bp).map (·.1)) ((es.modify j fun e=>{e with key:=x,val:=y}).map (·.key))/\a6 fid G w ((kZ bY a u bp).map (·.2)) ((es.modify j fun e=>{e with key:=x,val:=y}).map (·.val))
 |[],[],i,r,j,z,_,_,h,_=>by simp[hZ]at h
 |[],_::_,_,_,_,_,h,_,_,_=>by simp at h;cases h
 | _::_,[],_,_,_,_,h,_,_,_=>by simp at h;cases h
 |(bF,u')::bp,e::es,i,r,j,z,eG,c2,h,ag=>by
  simp only[dv]at eG c2;cases eG with
  |cons _ _ _ _ gG eG=>
   cases c2 with
   |cons _ _ _ _ sk c2=>
    simp only[hZ]at h;split at h
    ·rename_i he
     obtain⟨hs,-⟩:=yn hk hd ha gG he;simp only[Instr.findNow,hs,aB,bx]at ag;obtain rfl:j=0:=by omega
     simp only[kZ,he,if_true,dv,List.modify_zero_cons];exact⟨.cons _ _ _ _ ha eG,.cons _ _ _ _ hu c2⟩
    ·rename_i he
     obtain⟨hs,-⟩:=yn hk hd ha gG he;simp only[Instr.findNow,hs]at ag;have iv:=sr hk hd ha (i+1) eG c2 h;obtain⟨wC,oI,h1,-,-⟩:=iv;rw[h1]at ag;simp only[aB,bx]at ag;obtain⟨hj,rfl⟩:=ag;obtain rfl:j=wC+1:=by omega
     have ih:=X3 hk hd ha hu (i+1) eG c2 h h1;have bg:¬(iK bY a bF=some true):=by rw[he];simp
     simp only[kZ,bg,if_false,dv,List.modify_succ_cons];exact⟨.cons _ _ _ _ gG ih.1,.cons _ _ _ _ sk ih.2⟩
    ·cases h
theorem pd.push{es:Array MapEntry}{bT:Nat}(h:pd es bT)(x y:Value):pd (es.push {key:=x,val:=y,born:=bT}) (bT+1):=by
 refine⟨fun e he=> ?_,?_⟩
 ·rw[Ww,iq]at he
  rcases he with he|he
  ·exact Oj (h.1 e he)
  ·rw[zB]at he;subst he;exact zE _
 ·rw[Ww,kk,uT]
  refine⟨h.2,by simp,fun a ha b hb=> ?_⟩;simp only[dv,iT,zB]at hb;subst hb;obtain⟨e,he,rfl⟩:=dZ.1 ha;exact qW (h.1 e he)
theorem X4 (x y:Value):∀(l:List MapEntry) (j:Nat),(l.modify j fun e=>{e with key:=x,val:=y}).map (·.born)=l.map (·.born)
 |[],j=>by cases j<;>simp
 |e::l,0=>by simp
 |e::l,j+1=>by simp[X4 x y l j]
theorem pd.modify{es:Array MapEntry}{bT:Nat}(h:pd es bT)(j:Nat)(x y:Value):pd (es.modify j fun e=>{e with key:=x,val:=y}) bT:=by
 have af:(es.modify j fun e=>{e with key:=x,val:=y}).toList.map (·.born)=es.toList.map (·.born):=by
  rw[Array.toList_modify];exact X4 x y _ j
 refine⟨fun e he=> ?_,by rw[af];exact h.2⟩;have:e.born∈es.toList.map (·.born):=by rw[<-af];exact dZ.2 ⟨e,he,rfl⟩
 obtain⟨e',qq,q⟩:=dZ.1 this;rw[<-q];exact h.1 e' qq
theorem X5 (ab:a8 C fid G H w)(aP:fB C fid vars G w ah ρ){t:TypeId}{m k x:Operand}(ho:o.op=.mapUpdate t m k x\/o.op=.insert t m k x)(hc:C.cX vars pos o.op=some dm)(he:step ah H low dm=some (v,H',low')):
  db C fid G H w low ((execOp ρ o).run C.P w) v H' low':=by
 have hc:C.cX vars pos (.mapUpdate t m k x)=some dm:=by
  rcases ho with ho|ho
  ·rw[ho]at hc;exact hc
  ·rw[ho]at hc;exact hc
 simp only[Ctx.cX]at hc;split at hc
 ·rename_i eI tA am h9 cO hd h1 h2 ar
  obtain⟨bY,gR,rfl⟩:=cA.1 hc;have hm:=aP m am h1;have hk:=aP k h9 h2;have hx:=aP x cO ar;obtain⟨KN,jC⟩:=KM gR
  have cm:(execOp ρ o).run C.P w=((Instr.mapUpdate t (ρ m) (ρ k) (ρ x)).run C.P w).andThen fun _ w'=>.ok .skip w':=by
   unfold execOp;rcases ho with ho|ho<;>(rw[ho];simp only[Sem.run_bind];rfl)
  simp only[step]at he;split at he
  ·rename_i u' H1 bO hfz
   split at he
   ·cases he
   ·rename_i iY
    obtain⟨az,f1,bQ⟩:=FX ab hx hfz;have gy:=f1.rel;have KO:=f1.ext 0 (cJ _);have mD:=hm.ext ab KO;have gG:=hk.ext ab KO;refine db.C7 f1 ?_;split at he
    ·rename_i l af
     rw[af]at mD;obtain⟨h0,cy,X6,dN⟩:=mD.mapInv;split at he
     ·rename_i bp hl
      obtain⟨aV,eO,hr⟩:=gy.obj l h0 cy;rw[hl]at eO;cases eO;obtain⟨qs,jX,es,bT,eW,eG,c2,ct⟩:=hr;split at he
      ·rename_i b2 jn
       simp only[aB,bx]at he;obtain⟨rfl,rfl,rfl⟩:=he;have aT:h0.b<w.heap.size:=gy.blk l h0 cy
       have fin:∀(va:Obj) (bN:Array MapEntry) (tB:Nat),va=.map bN tB->(Instr.mapUpdate t (ρ m) (ρ k) (ρ x)).run C.P w=.ok () {w with heap:=w.heap.setIfInBounds h0.b va}->
         a6 fid az w ((kZ bY (ah h9) u' bp).map (·.1)) (bN.toList.map (·.key))->a6 fid az w ((kZ bY (ah h9) u' bp).map (·.2)) (bN.toList.map (·.val))->pd bN tB->
         db C fid az H1 w bO ((execOp ρ o).run C.P w) .undef (H1.set l (.map (kZ bY (ah h9) u' bp))) (min bO l):=by
        rintro va bN tB rfl lF yp Af Ag
        have wD:∀b,b≠h0.b->({w with heap:=w.heap.setIfInBounds h0.b (.map bN tB)}:World).heap[b]? =w.heap[b]? :=fun b bg=>by
         show(w.heap.setIfInBounds h0.b _)[b]? =_;rw[Wl (ly bg)]
        have Dl:({w with heap:=w.heap.setIfInBounds h0.b (.map bN tB)}:World).heap[h0.b]? =some (.map bN tB):=by
         show(w.heap.setIfInBounds h0.b _)[h0.b]? =_;simp[aT]
        have de:({w with heap:=w.heap.setIfInBounds h0.b (.map bN tB)}:World).heap.size=w.heap.size:=by simp
        have dT:Ext az w ⟨cp az.β l h0,az.I⟩ {w with heap:=w.heap.setIfInBounds h0.b (.map bN tB)} l H1.length:=
         Ext.write gy cy jX rfl (aH _) id rfl de wD rfl rfl
        refine⟨undef,_,_,.inr ⟨by rw[cm,lF];rfl,rfl⟩,a8.write gy cy jX rfl jX (aH _) id rfl de wD (.map (kZ bY (ah h9) u' bp)) ⟨qs,jX,bN,tB,Dl,yp.ext gy dT,Af.ext gy dT,Ag⟩,
         fun m hm=>dT.le (cY hm (nJ _ _)) (aH _),.undef _,jM _ _,by simp⟩
       cases b2 with
       |none=>
        have ag:=sr gR jC gG 0 eG c2 jn;refine fin _ (es.push {key:=ρ k,val:=ρ x,born:=bT}) (bT+1) rfl ?_ ?_ ?_ (ct.push _ _)
        ·unfold Instr.mapUpdate
         simp only[dN,Sem.run_bind,run_underlying hd,Result.andThen_ok,yo eW,u9 gR,wB (C:=C) jC ag,Dk _ eW]
        ·rw[PL jn]
         simp only[kk,dv,iT,Ww];exact eG.append (.cons _ _ _ _ gG .nil)
        ·rw[PL jn]
         simp only[kk,dv,iT,Ww];exact c2.append (.cons _ _ _ _ bQ .nil)
       |some r=>
        obtain⟨j,y,ag,-,alY,alZ,al0⟩:=sr gR jC gG 0 eG c2 jn;obtain⟨s1,s2⟩:=X3 gR jC gG bQ 0 eG c2 jn ag;rw[dA]at ag;refine fin _ (es.modify j fun e=>{e with key:=ρ k,val:=ρ x}) bT rfl ?_ (by simpa using s1) (by simpa using s2) (ct.modify _ _ _);have al1:es[j]? =some alY:=by rw[<-fM];exact alZ
        unfold Instr.mapUpdate;simp only[dN,Sem.run_bind,run_underlying hd,Result.andThen_ok,yo eW,u9 gR,wB (C:=C) jC ag,al1,nM,oB,Instr.keyThatStays,al0,if_true,Sem.run_pure,Dk _ eW]
      ·cases he
     ·cases he
    ·cases he
  ·cases he
 ·cases hc
end Go.Abs
