/- Texts of this claim, joined and written short by a program. -/
import Derived.Test.YtemakagmboeodaaGreatDoorP03
import Derived.Laws.Append
import Derived.Test.YtemakagmboeodaaGreatDoorP00
set_option linter.unusedVariables false
set_option linter.unusedSimpArgs false
set_option linter.unusedSectionVars false
namespace Go.Abs
open Go
variable{C:Ctx}{fid:Nat->Nat}{w w':World}{G G':bw}{H:Heap}
variable{vars:List Nat}{ag:ah->V}{ρ:Operand->Value}{low low':Nat}{v:V}{H':Heap}{pos:String}{cF:b8}{o:Oper}
theorem Kl (off:Nat):∀(cq:List Value) (k:Nat) (cells:Array Value),off+k+cq.length<=cells.size->
  ((cq.zipIdx k).foldl (fun(cs:Array Value) (p:Value × Nat)=>cs.setIfInBounds (off+p.2) p.1) cells).toList=cells.toList.take (off+k)++cq++cells.toList.drop (off+k+cq.length)
 |[],k,cells,_=>by simp
 |z::cq,k,cells,h=>by
  simp only[iN]at h;rw[List.zipIdx_cons,xl,Kl off cq (k+1) _ (by simp;omega)];have e:=list_seg_step cells.toList (off+k) z cq (by simp;omega);rw[iN];simpa[Array.toList_setIfInBounds,n9]using e
theorem Km{place:Nat->Option (Nat × Nat)}{cells:Array Value}{i:Nat}{x:Value}{rest:List (Nat × Value)}{off n:Nat}(hp:place i=some (off,n))(hs:x.cells.size=n)(fG:off+n<=cells.size):
  ∃nv,Instr.fill place cells ((i,x)::rest)=Instr.fill place nv rest/\nv.toList=cells.toList.take off++x.cells.toList++cells.toList.drop (off+x.cells.toList.length):=by
 refine⟨x.cells.zipIdx.foldl (fun cs (c,j)=>cs.setIfInBounds (off+j) c) cells,?_,?_⟩
 ·have:¬(x.cells.size≠n||decide (off+x.cells.size>cells.size))=true:=by simp;omega
  simp only[Instr.fill,hp];rw[if_neg (by simpa using this)]
 ·rw[<-IQ,Array.toList_zipIdx]
  have:=Kl off x.cells.toList 0 cells (by simp;omega);simpa using this
theorem Kn{place:Nat->Option (Nat × Nat)}:∀{ps:List (Nat × Value)} {aC:List (Nat × Nat × V)} {cs ey:List V} {cells:Array Value},ps.length=aC.length->
  (∀(j:Nat) p a,ps[j]? =some p->aC[j]? =some a->place p.1=some (a.1,a.2.1)/\aZ fid G w a.2.2 p.2)->aW fid G w cs cells.toList->o6 cs aC=some ey->
  ∃nv,Instr.fill place cells ps=some nv/\aW fid G w ey nv.toList
 |[],[],cs,ey,cells,_,_,ad,h=>by
  simp only[o6,ay]at h;subst h;exact⟨cells,rfl,ad⟩
 |[],_::_,_,_,_,hl,_,_,_=>by simp at hl
 | _::_,[],_,_,_,hl,_,_,_=>by simp at hl
 |(i,x)::ps,(off,n,u)::aC,cs,ey,cells,hl,hp,ad,h=>by
  simp only[o6]at h;split at h
  ·rename_i hc
   obtain⟨AA,rN⟩:=hp 0 _ _ rfl rfl;obtain⟨bq,cc⟩:=vx rN hc.2.2;have ew:=ad.length;have iW:=bq.length;have dW:x.cells.size=n:=by rw[<-e9];simp only at iW;rw[iW,hc.1]
   obtain⟨Ey,ae,ai⟩:=Km (rest:=ps) AA dW (by rw[<-e9,ew];exact hc.2.1);have oq:aW fid G w (setCells cs off (aL u)) Ey.toList:=by rw[ai];exact xK off ad bq (by rw[hc.1];exact hc.2.1)
   obtain⟨nv,bz,cn⟩:=Kn (by simpa using hl) (fun j p a h1 h2=>hp (j+1) p a (by simpa using h1) (by simpa using h2)) oq h;exact⟨nv,by rw[ae,bz],cn⟩
  ·cases h
theorem VS:∀(xs cs:List V),xs.length=cs.length->setCells cs 0 xs=xs:=by
 have key:∀(xs a b:List V),xs.length=b.length->setCells (a++b) a.length xs=a++xs:=by
  intro xs
  induction xs with
  |nil=>intro a b h;cases b<;>simp_all [setCells]
  |cons x xs ih=>
   intro a b h;cases b with
   |nil=>simp at h
   |cons y b=>
    have:=ih (a++[x]) b (by simpa using h);simp only[setCells];simpa using this
 intro xs cs h;simpa using key xs [] cs h
theorem Ko{es:Nat}:∀{ps:List (Nat × Value)} {aC:List (Nat × V)} {ds ds':List V} {cells:Array Value},ps.length=aC.length->
  (∀(j:Nat) p a,ps[j]? =some p->aC[j]? =some a->p.1=a.1/\aZ fid G w a.2 p.2)->(∀d∈ds,(aL d).length=es)->aW fid G w (ds.flatMap aL) cells.toList->lT es ds aC=some ds'->
  ∃nv,Instr.fill (fun i=>some (i*es,es)) cells ps=some nv/\aW fid G w (ds'.flatMap aL) nv.toList/\(∀d∈ds',(aL d).length=es)/\ds'.length=ds.length
 |[],[],ds,ds',cells,_,_,hu,ad,h=>by
  simp only[lT,ay]at h;subst h;exact⟨cells,rfl,ad,hu,rfl⟩
 |[],_::_,_,_,_,hl,_,_,_,_=>by simp at hl
 | _::_,[],_,_,_,hl,_,_,_,_=>by simp at hl
 |(i,x)::ps,(xv,u)::aC,ds,ds',cells,hl,hp,hu,ad,h=>by
  simp only[lT]at h;split at h
  ·rename_i hc
   obtain⟨AA,rN⟩:=hp 0 _ _ rfl rfl;simp only at AA rN;subst AA;obtain⟨bq,cc⟩:=vx rN hc.2.2;have ew:=ad.length;have hB:=j5 hu;have iW:=bq.length;have dW:x.cells.size=es:=by rw[<-e9,iW,hc.1]
   have hi:i*es+es<=ds.length*es:=by
    have:(i+1)*es<=ds.length*es:=CZ _ hc.2.1;rw[xo]at this;exact this
   obtain⟨Ey,ae,ai⟩:=Km (place:=fun i=>some (i*es,es)) (cells:=cells) (rest:=ps) (i:=i) rfl dW (by rw[<-e9,ew];omega);obtain⟨d,hd⟩:∃d,ds[i]? =some d:=⟨_,gk hc.2.1⟩;have nn:=Ef hu hd (d':=u) (f:=0) (xs:=aL u) (by rw[hc.1];omega) (VS _ _ (by rw[hc.1,hu d (ml hd)])).symm;rw[sN]at nn;have oq:aW fid G w ((ds.set i u).flatMap aL) Ey.toList:=by rw[ai,nn];exact xK _ ad bq (by rw[hc.1];omega)
   obtain⟨nv,bz,cn,dG,gW⟩:=Ko (by simpa using hl) (fun j p a h1 h2=>hp (j+1) p a (by simpa using h1) (by simpa using h2))
    (fun a ha=>by rcases List.mem_or_eq_of_mem_set ha with q|rfl;exact hu a q;exact hc.1) oq h
   exact⟨nv,by rw[ae,bz],cn,dG,by rw[gW];simp⟩
  ·cases h
theorem Kp{α β:Type}(f:α->Sem β)(g:α->β):∀(l:List α),(∀a∈l,∀w,(f a).run C.P w=.ok (g a) w)->(l.mapM f).run C.P w=.ok (l.map g) w
 |[],_=>by simp
 |a::l,h=>by
  rw[List.mapM_cons,Sem.run_bind,h a (by simp),Result.andThen_ok,Sem.run_bind,Kp f g l (fun b hb=>h b (by simp[hb])),Result.andThen_ok,Sem.run_pure];rfl
theorem VT{α β:Type}(f:α->Sem β)(g:α->β)(l:Array α)(h:∀a∈l.toList,∀w,(f a).run C.P w=.ok (g a) w):(l.mapM f).run C.P w=.ok (l.map g) w:=by
 rw[Array.mapM_eq_mapM_toList,Sem.run_map,Kp f g _ h,Result.andThen_ok];congr 1;apply Array.ext';simp
theorem xR{t:TypeId}{z:List V}(aP:C.zeroCells t=some z):∃bO,(∀w,(zeroValue t).run C.P w=.ok bO w)/\(∀(G:bw) (w:World),aW fid G w z bO.cells.toList)/\b7 z=true/\
  ∃i,C.P.info? t=some i/\i.zero=some bO:=by
 unfold Ctx.zeroCells at aP;split at aP
 ·rename_i i hi
  split at aP
  ·rename_i bO vA
   split at aP
   ·rename_i vs cO
    split at aP
    ·rename_i bx
     simp only[ay]at aP;subst aP;refine⟨bO,fun w=> ?_,fun G w=>cD.la (xI _ cO),bx,i,hi,vA⟩;simp only[zeroValue,Sem.run_bind,run_typeInfo (P:=C.P) w hi,Result.andThen_ok,vA,Sem.run_pure]
    ·cases aP
   ·cases aP
  ·cases aP
 ·cases aP
theorem ql{α β:Type}(f:α->Option β):∀{l:List α} {r:List β},c7 f l=some r->r.length=l.length
 |[],_,h=>by simp only[c7,ay]at h;subst h;rfl
 |a::l,_,h=>by
  simp only[c7]at h;split at h
  ·split at h
   ·rename_i aB xS
    simp only[ay]at h;subst h;simp[ql f xS]
   ·cases h
  ·cases h
theorem qm{α β:Type}(f:α->Option β):∀{l:List α} {r:List β},c7 f l=some r->∀{j:Nat} {a:α} {b:β},l[j]? =some a->r[j]? =some b->f a=some b
 |[],_,h,j,a,b,h1,_=>by simp at h1
 |a::l,_,h,j,bg,dE,h1,h2=>by
  simp only[c7]at h;split at h
  ·rename_i b hb
   split at h
   ·rename_i aB xS
    simp only[ay]at h;subst h;cases j with
    |zero=>simp at h1 h2;subst h1;subst h2;exact hb
    |succ j=>exact qm f xS (by simpa using h1) (by simpa using h2)
   ·cases h
  ·cases h
theorem VU (aa:aQ C fid G H w)(aE:eo C fid vars G w ag ρ){t:TypeId}{parts:Array (Nat × Operand)}(ho:o.op=.build t parts)(hc:C.ca vars pos o.op=some cF)(he:step ag H low cF=some (v,H',low')):
  cv C fid G H w low ((execOp ρ o).run C.P w) v H' low':=by
 rw[ho]at hc
 have bR:(execOp ρ o).run C.P w=((Instr.build t (parts.map fun(i,x)=>(i,ρ x))).run C.P w).andThen fun z w'=>.ok (.value z) w':=by
  unfold execOp;rw[ho];simp only[Sem.run_bind];rfl
 have main:∀(z:List V) (ap:List (Nat × Nat × ah)) (place:Nat->Option (Nat × Nat)),C.zeroCells t=some z->ap.length=parts.toList.length->
   (∀(j:Nat) p a,parts.toList[j]? =some p->ap[j]? =some a->place p.1=some (a.1,a.2.1)/\C.bF vars p.2=some a.2.2)->
   (∀(bO:Value) (w:World),(∀w,(zeroValue t).run C.P w=.ok bO w)->∀cells,Instr.fill place bO.cells (parts.toList.map fun(i,x)=>(i,ρ x))=some cells->
     (Instr.build t (parts.map fun(i,x)=>(i,ρ x))).run C.P w=.ok (.agg cells) w)->
   step ag H low (.build z ap)=some (v,H',low')->cv C fid G H w low ((execOp ρ o).run C.P w) v H' low':=by
  intro z ap place aP hlen gV hb he;obtain⟨bO,kP,kQ,bx,-⟩:=xR (fid:=fid) aP;simp only[step]at he;obtain⟨cs,en,he⟩:=bW.1 he;simp only[a6]at he;obtain⟨rfl,rfl,rfl⟩:=he
  obtain⟨cells,ae,ai⟩:=Kn (fid:=fid) (G:=G) (w:=w) (place:=place) (ps:=parts.toList.map fun(i,x)=>(i,ρ x)) (aC:=ap.map fun p=>(p.1,p.2.1,ag p.2.2))
   (by simp[hlen]) (fun j p a h1 h2=>by
     simp only[iM,bW]at h1 h2;obtain⟨xT,l3,rfl⟩:=h1;obtain⟨bg,ff,rfl⟩:=h2;exact⟨(gV j xT bg l3 ff).1,aE _ _ (gV j xT bg l3 ff).2⟩) (kQ G w) en
  refine cv.same aa (x:=.agg cells) ?_ (.agg _ cells.toList ai);rw[bR,hb bO w kP cells ae];rfl
 simp only[Ctx.ca]at hc;split at hc
 ·rename_i fs z hd aP
  split at hc
  ·cases hc
  ·rename_i fw
   obtain⟨ap,jK,rfl⟩:=bW.1 hc
   have du:∀f∈fs.toList,∃n,C.sizeOf f.type=some n:=by
    intro f af;cases a8:C.sizeOf f.type with
    |some n=>exact⟨n,rfl⟩
    |none=>exact absurd (zT.2 ⟨f,af,by simp[a8]⟩) fw
   refine main z ap (fun i=>(fs.map fun f=>(f.offset,(C.sizeOf f.type).getD 0))[i]?) aP (ql _ jK) ?_ ?_ he
   ·intro j p a h1 h2
    have:=qm _ jK h1 h2;split at this
    ·rename_i f af
     split at this
     ·rename_i n x hn hx
      simp only[ay]at this;subst this;refine⟨?_,hx⟩;simp only[Array.getElem?_map,af,lR,hn,sJ]
     ·cases this
    ·cases this
   ·intro bO w kP cells Ez
    have hm:=VT (C:=C) (w:=w) (fun(f:Field)=>(do pure (f.offset,<-Go.sizeOf f.type):Sem (Nat × Nat))) (fun f=>(f.offset,(C.sizeOf f.type).getD 0)) fs (fun f af w=>by
     obtain⟨n,hn⟩:=du f af;simp only[Sem.run_bind,tA (C:=C) hn,Result.andThen_ok,Sem.run_pure,hn,sJ])
    have gV:(parts.map fun(i,x)=>(i,ρ x)).toList=parts.toList.map fun(i,x)=>(i,ρ x):=by simp
    unfold Instr.build;simp only[Sem.run_bind,kP,run_underlying hd,Result.andThen_ok,hm,gV,Ez,Sem.run_pure]
 ·rename_i n e z hd aP
  split at hc
  ·rename_i kj hs
   obtain⟨ap,jK,rfl⟩:=bW.1 hc;refine main z ap (fun i=>some (i*kj,kj)) aP (ql _ jK) ?_ ?_ he
   ·intro j p a h1 h2
    have:=qm _ jK h1 h2;split at this
    ·rename_i x hx
     simp only[ay]at this;subst this;exact⟨rfl,hx⟩
    ·cases this
   ·intro bO w kP cells Ez
    have gV:(parts.map fun(i,x)=>(i,ρ x)).toList=parts.toList.map fun(i,x)=>(i,ρ x):=by simp
    unfold Instr.build;simp only[Sem.run_bind,kP,run_underlying hd,Result.andThen_ok,tA (C:=C) hs,gV,Ez,Sem.run_pure]
  ·cases hc
 ·cases hc
end Go.Abs
namespace Go.Abs
open Go
variable{C:Ctx}{fid:Nat->Nat}{w w':World}{G G':bw}{H:Heap}
variable{vars:List Nat}{ag:ah->V}{ρ:Operand->Value}{low low':Nat}{v:V}{H':Heap}{pos:String}{cF:b8}{o:Oper}
theorem aQ.nw (aa:aQ C fid G H w)(aJ:Obj)(p:Prop):aQ C fid ⟨G.β,fun b=>G.I b\/(b=w.heap.size/\p)⟩ H (w.alloc aJ) where
 obj l h hb:=by
  obtain⟨o,ho,hr⟩:=aa.obj l h hb;exact⟨o,ho,gT.mono (G:=G) (G':=⟨G.β,fun b=>G.I b\/(b=w.heap.size/\p)⟩) (jE.refl _) (fun b (hi:G.I b)=>⟨.inl hi,alloc_old (aa.cu b hi).1⟩) (alloc_old (aa.cL l h hb)) hr⟩
 inj:=aa.inj
 cL l h hb:=by rw[World.size_alloc];have:=aa.cL l h hb;omega
 cu b hi:=by
  rw[World.size_alloc];rcases hi with hi|⟨rfl,-⟩
  ·exact⟨by have:=(aa.cu b hi).1;omega,(aa.cu b hi).2⟩
  ·exact⟨by omega,fun l h hb q=>by have:=aa.cL l h hb;omega⟩
 iq l h hb af:=.inl (aa.iq l h hb af)
 ej b o aT:=⟨.inl (aa.ej b o aT).1,by rw[alloc_old (aa.cu b (aa.ej b o aT).1).1];exact(aa.ej b o aT).2⟩
theorem Ext.nw (aJ:Obj)(p:Prop)(m n:Nat):Ext G w ⟨G.β,fun b=>G.I b\/(b=w.heap.size/\p)⟩ (w.alloc aJ) m n where
 size:=by simp
 os:=rfl
 output:=rfl
 eg b hb _:=alloc_old hb
 homes:=.refl _
 kJ l h hb:=.inl ⟨h,hb,.inl rfl⟩
 cu _ h:=.inl h
 lb b hi:=by
  rcases hi with hi|⟨rfl,-⟩
  ·exact .inl hi
  ·exact .inr (.inl (aI _))
theorem Kq{z:List V}(h:b7 z=true):aL (jo z)=z:=by
 unfold jo;split
 ·rename_i x
  simp only[b7,xn]at h;cases x<;>first|rfl|simp[e1]at h
 ·rfl
theorem AB{z:List V}{bO:Array Value}(aP:aW fid G w z bO.toList)(bx:b7 z=true)(iT:0<bO.size):∀(n:Nat),
  aW fid G w ((List.replicate n (jo z)).flatMap aL) ((List.range (n*bO.size)).map fun i=>bO[i%bO.size]!)
 |0=>by simpa using aW.nil
 |n+1=>by
  have ih:=AB aP bx iT n;have ae:(n+1)*bO.size=bO.size+n*bO.size:=by rw[xo,Nat.add_comm]
  rw[List.replicate_succ,j0,Kq bx,ae,List.range_add,hM,jm]
  have ai:(List.range bO.size).map (fun i=>bO[i%bO.size]!)=bO.toList:=by
   apply lP;intro j;simp only[iM];by_cases hj:j<bO.size
   ·rw[List.getElem?_range hj]
    simp[Nat.mod_eq_of_lt hj,hj]
   ·rw[k6 (by simpa using hj),k6 (by simpa using hj)];rfl
  have bz:((fun i=>bO[i%bO.size]!) ∘ (bO.size+ ·))=fun i=>bO[i%bO.size]! :=by
   funext i;simp
  rw[ai,bz];exact aP.append ih
theorem EA{z:List V}(bx:b7 z=true){n k:Nat}(hk:z.length=k):∀d∈List.replicate n (jo z),(aL d).length=k:=by
 intro d hd;rw[(List.mem_replicate.1 hd).2,Kq bx,hk]
theorem EB (aa:aQ C fid G H w){es:Nat}{ds:List V}{c:Array Value}{vals rest:List Value}{e:TypeId}(dT:0<es)(hn:0<ds.length)(hu:∀d∈ds,(aL d).length=es)(hc:c.toList=vals++rest)
  (ad:aW fid G w (ds.flatMap aL) vals):
  gT C fid ⟨b0 G.β H.length ⟨w.heap.size,ds.length,c.size,false⟩,G.I⟩ (w.alloc (.cells c e)) ⟨w.heap.size,ds.length,c.size,false⟩ (.row es ds false):=
 ⟨rfl,hn,rfl,dT,hu,c,e,vals,rest,j4 _ _,rfl,hc,ad.ext aa (Ext.push aa _ ds.length c.size 0)⟩
theorem VV (aa:aQ C fid G H w)(aE:eo C fid vars G w ag ρ){t:TypeId}{len:Nat}{parts:Array (Nat × Operand)}(ho:o.op=.buildSlice t len parts)(hc:C.ca vars pos o.op=some cF)(he:step ag H low cF=some (v,H',low')):
  cv C fid G H w low ((execOp ρ o).run C.P w) v H' low':=by
 rw[ho]at hc
 have bR:(execOp ρ o).run C.P w=((Instr.buildSlice t len (parts.map fun(i,x)=>(i,ρ x))).run C.P w).andThen fun z w'=>.ok (.value z) w':=by
  unfold execOp;rw[ho];simp only[Sem.run_bind];rfl
 simp only[Ctx.ca]at hc;split at hc
 ·rename_i e hd
  split at hc
  ·rename_i n z ap hn aP jK
   split at hc
   ·cases hc
   ·rename_i dy
    simp only[not_or,Nat.not_lt,ne_eq,Classical.not_not]at dy;obtain⟨j8,ah6,vy⟩:=dy;obtain⟨gQ,rfl⟩:∃gQ,cF=.lit n z len ap gQ:=⟨_,(xm hc).symm⟩;obtain⟨bO,kP,kQ,bx,-⟩:=xR (fid:=fid) aP;have hlen:=ql _ jK;have tC:bO.cells.size=n:=by rw[<-e9,(kQ G w).length,vy]
    simp only[step]at he;split at he
    ·rename_i vs H1 bm af
     have EC:aW fid G w (ap.map fun p=>ag p.2) (parts.toList.map fun p=>ρ p.2):=by
      refine aW.UJ (by simp[hlen]) (fun j a x h1 h2=> ?_);simp only[iM,bW]at h1 h2;obtain⟨bg,ff,rfl⟩:=h1;obtain⟨xT,l3,rfl⟩:=h2;have:=qm _ jK l3 ff;obtain⟨bY,hx,rfl⟩:=bW.1 this;exact aE _ _ hx
     obtain⟨az,f1,bM⟩:=Ea aa EC af;have VW:vs.length=ap.length:=by have:=bM.length;simp only[eA]at this;omega
     split at he
     ·rename_i ds nn
      have VX:((parts.map fun(i,x)=>(i,ρ x)).toList)=parts.toList.map fun(i,x)=>(i,ρ x):=by simp
      have VY:aW fid az w ((List.replicate len (jo z)).flatMap aL) (((Array.range (len*n)).map fun i=>(if len*n=0 then #[]else bO.cells)[i%(if len*n=0 then #[]else bO.cells:Array Value).size]!).toList):=by
       by_cases pg:len=0
       ·subst pg;simpa using aW.nil
       ·have h0:len*n≠0:=Nat.mul_ne_zero pg j8
        have:=AB (kQ az w) bx (by omega) len;rw[tC]at this;simpa[h0,tC]using this
      obtain⟨cells,ae,ai,bz,cn⟩:=Ko (fid:=fid) (G:=az) (w:=w) (es:=n) (ps:=parts.toList.map fun(i,x)=>(i,ρ x)) (aC:=(ap.zip vs).map fun(p,v)=>(p.1,v))
       (by simp[hlen,VW]) (fun j p a h1 h2=>by
         simp only[iM,bW]at h1 h2;obtain⟨xT,l3,rfl⟩:=h1;obtain⟨⟨bg,v'⟩,ff,rfl⟩:=h2;rw[CT]at ff;have:=qm _ jK l3 ff.1;obtain⟨bY,hx,rfl⟩:=bW.1 this;refine⟨rfl,?_⟩;obtain⟨y,hy,dU⟩:=bM.get ff.2;simp only[iM,l3,lR,ay]at hy;subst hy;exact dU) (EA bx vy) VY nn
      rw[List.length_replicate]at cn
      have hb:(Instr.buildSlice t len (parts.map fun(i,x)=>(i,ρ x))).run C.P w=.ok (.slice (some ⟨w.heap.size,0,none⟩) len len) (w.alloc (.cells cells e)):=by
       unfold Instr.buildSlice;have hl:¬len*n>2^24:=by omega
       simp only[Sem.run_bind,run_underlying hd,Result.andThen_ok,tA (C:=C) hn,hl,if_false,VX];by_cases h0:len*n=0
       ·simp only[h0,if_true]at ae⊢
        simp only[Sem.run_bind,Sem.run_pure,Result.andThen_ok,ae,newRow,run_newObj,World.alloc_eq]
       ·simp only[h0,if_false]at ae⊢
        simp only[Sem.run_bind,Sem.run_pure,Result.andThen_ok,kP,ae,newRow,run_newObj,World.alloc_eq]
      have hval:(execOp ρ o).run C.P w=.ok (.value (.slice (some ⟨w.heap.size,0,none⟩) len len)) (w.alloc (.cells cells e)):=by rw[bR,hb];rfl
      have dT:0<n:=C5 j8;have emp:cv C fid G H w low ((execOp ρ o).run C.P w) .emp H1 bm->True:=fun _=>trivial
      have Kr:len=0->cv C fid G H w low ((execOp ρ o).run C.P w) .emp H1 bm:=by
       intro h0;refine cv.vv f1 ⟨_,_,_,.inl hval,f1.rel.nw _ False,fun m _=>Ext.nw _ _ _ _,?_,aI _,aI _⟩;subst h0;exact .p _ _ (.emp _)
      split at he
      ·split at he
       ·rename_i ah7 hp
        by_cases h0:len=0
        ·simp only[h0,if_true,ay,a6]at he
         obtain⟨rfl,rfl,rfl⟩:=he;exact Kr h0
        ·simp only[h0,if_false,ay,a6]at he
         obtain⟨rfl,rfl,rfl⟩:=he;refine cv.vv f1 ⟨_,_,⟨az.β,fun b=>az.I b\/(b=w.heap.size/\True)⟩,.inl hval,f1.rel.nw _ True,fun m _=>Ext.nw _ _ _ _,?_,aI _,aI _⟩;have hx:=Ext.nw (G:=az) (w:=w) (.cells cells e) True 0 H1.length
         have key:=ev.list (w:=w.alloc (.cells cells e)) (I:=fun b=>az.I b\/(b=w.heap.size/\True)) n ds w.heap.size 0 len cells.toList (.inr ⟨rfl,trivial⟩)
          (gb.qc (rest:=[]) (j4 _ _) (by simp)) bz ((ai.ext f1.rel hx).lZ (Ar hp)) (by omega)
         rw[cn]at key;exact .p _ _ key
       ·cases he
      ·split at he
       ·rename_i h0
        simp only[ay,a6]at he;obtain⟨rfl,rfl,rfl⟩:=he;exact Kr h0
       ·rename_i h0
        simp only[ay,a6]at he;obtain⟨rfl,rfl,rfl⟩:=he
        have kN:cells.size=len*n:=by
         rw[<-e9,ai.length,j5 bz,cn]
        refine cv.vv f1 (cv.alloc f1.rel ds.length cells.size hval (EB f1.rel dT (by omega) bz (rest:=[]) (by simp) ai) ?_);refine .aN _ n 0 len len ⟨w.heap.size,ds.length,cells.size,false⟩ _ _ _ (cM _ _ _) (by simp only;omega) (fun _=>⟨by simp,rfl,?_,aI _⟩);rw[kN,dK];exact aI _
     ·cases he
    ·cases he
  ·cases hc
 ·cases hc
end Go.Abs
namespace Go.Abs
open Go
variable{C:Ctx}{fid:Nat->Nat}{w w':World}{G G':bw}{H:Heap}
variable{vars:List Nat}{ag:ah->V}{ρ:Operand->Value}{low low':Nat}{v:V}{H':Heap}{pos:String}{cF:b8}{o:Oper}
theorem Ks{n:Int}(h0:0<=n)(h:n<=1099511627776):IntKind.i64.wrap n=n:=by
 have e:n%(2^IntKind.i64.bits:Int)=n:=Int.emod_eq_of_lt h0 (by show n<(2^64:Int);omega);unfold IntKind.wrap;rw[e];have:¬(n>=(2^(IntKind.i64.bits-1):Int)):=by show ¬n>=(2^63:Int);omega
 simp[this]
theorem VZ (aa:aQ C fid G H w)(aE:eo C fid vars G w ag ρ){t:TypeId}{l c:Operand}(ho:o.op=.makeSlice t l c)(hc:C.ca vars pos o.op=some cF)(he:step ag H low cF=some (v,H',low')):
  cv C fid G H w low ((execOp ρ o).run C.P w) v H' low':=by
 rw[ho]at hc;simp only[Ctx.ca]at hc;split at hc
 ·rename_i e hd
  split at hc
  ·rename_i i z jL ac hi aP h1 h2
   split at hc
   ·cases hc
   ·rename_i dy
    simp only[not_or,ne_eq,Classical.not_not]at dy;simp only[ay]at hc;subst hc;obtain⟨bO,kP,kQ,bx,-⟩:=xR (fid:=fid) aP;have tC:bO.cells.size=i.size:=by rw[<-e9,(kQ G w).length,dy.2]
    have hl:=aE l jL h1;have oj:=aE c ac h2;simp only[step]at he;split at he
    ·rename_i k n bJ m ae ai
     split at he
     ·rename_i hb
      obtain⟨rfl,j8,hbound⟩:=hb;rw[ae]at hl;rw[ai]at oj;obtain⟨j,rfl⟩:=CU j8
      have nx:j<=1099511627776:=by
       have:(j:Int)*1<=(j:Int)*((i.bytes:Int)+1):=Int.mul_le_mul_of_nonneg_left (by omega) j8;omega
      have tD:(i.bytes:Int)*(j:Int)<=1099511627776:=by
       have:(j:Int)*((i.bytes:Int)+1)=(i.bytes:Int)*(j:Int)+j:=by rw[Int.mul_add,Int.mul_comm];omega
       omega
      have hw:=Ks j8 (by omega:(j:Int)<=1099511627776);have iT:0<i.size:=C5 dy.1
      have bR:∃cells,(execOp ρ o).run C.P w=.ok (.value (.slice (some ⟨w.heap.size,0,none⟩) j j)) (w.alloc (.cells cells e))/\cells.toList=(List.range (j*i.size)).map (fun q=>bO.cells[q%bO.cells.size]!):=by
       refine⟨(Array.range (j*i.size)).map (fun q=>(if j*i.size=0 then #[]else bO.cells:Array Value)[q%(if j*i.size=0 then #[]else bO.cells:Array Value).size]!),?_,?_⟩
       ·unfold execOp;rw[ho]
        have rO:¬((decide ((j:Int)<0)||decide ((i.bytes:Int)*(j:Int)>2^48))=true):=by simp;omega
        have oh:¬((decide ((j:Int)<0)||decide ((i.bytes:Int)*(j:Int)>2^48)||decide ((j:Int)<0)||decide ((j:Int)>(j:Int)))=true):=by simp;omega
        simp only[hl.gH,oj.gH,Instr.makeSlice,asInt,asIntOf,Sem.run_bind,Sem.run_pure,Result.andThen_ok,run_underlying hd,run_typeInfo (P:=C.P) w hi,hw];rw[if_neg (by simpa using oh)];simp only[Sem.run_bind,run_askRoom,Result.andThen_ok,sizeOf,run_typeInfo (P:=C.P) w hi,Sem.run_pure,Int.toNat_natCast];by_cases h0:j*i.size=0
        ·simp only[h0,if_true,Sem.run_bind,Sem.run_pure,Result.andThen_ok,newRow,run_newObj,World.alloc_eq]
        ·simp only[h0,if_false,Sem.run_bind,Sem.run_pure,Result.andThen_ok,kP,newRow,run_newObj,World.alloc_eq]
       ·by_cases h0:j*i.size=0
        ·simp[h0]
        ·simp[h0]
      obtain⟨cells,bR,ew⟩:=bR;split at he
      ·rename_i AD
       simp only[ay,a6]at he;obtain⟨rfl,rfl,rfl⟩:=he;obtain rfl:j=0:=by omega
       exact⟨_,_,_,.inl bR,aa.nw _ False,fun m _=>Ext.nw _ _ _ _,.p _ _ (.emp _),aI _,aI _⟩
      ·rename_i AD
       simp only[ay,a6,Int.toNat_natCast]at he;obtain⟨rfl,rfl,rfl⟩:=he;have ll:=AB (kQ G w) bx (by omega) j;rw[tC]at ll ew;rw[<-ew]at ll;have hu:=EA bx (n:=j) dy.2;have en:cells.size=j*i.size:=by rw[<-e9,ll.length,j5 hu,List.length_replicate]
       refine cv.alloc aa (List.replicate j (jo z)).length cells.size bR (EB aa iT (by simp;omega) hu (rest:=[]) (by simp) ll) ?_;refine .aN _ _ 0 j j ⟨w.heap.size,(List.replicate j (jo z)).length,cells.size,false⟩ _ _ _ (cM _ _ _) (by simp) (fun _=>⟨by simp,rfl,?_,aI _⟩);rw[en,dK];exact aI _
     ·cases he
    ·cases he
  ·cases hc
 ·cases hc
theorem xU (aa:aQ C fid G H w){es:Nat}{a:V}{xs:List V}{x:Value}(ha:aZ fid G w a x)(he:elems H es a=some xs):
  ∃dd cap,x=.slice dd xs.length cap/\(xs≠[]->∃b off vals,dd=some ⟨b,off,none⟩/\gb w b off vals/\aW fid G w (xs.flatMap aL) vals/\∀d∈xs,(aL d).length=es):=by
 unfold elems at he;split at he
 ·simp only[ay]at he;subst he
  exact⟨none,0,ha.gz,fun h=>absurd rfl h⟩
 ·simp only[ay]at he;subst he
  obtain⟨dd,hx⟩:=ha.ns;exact⟨some dd,0,hx,fun h=>absurd rfl h⟩
 ·split at he
  ·rename_i dT
   simp only[ay]at he;subst he;subst dT;obtain⟨dd,cap,hx,-,a8⟩:=ha.rJ;refine⟨some dd,cap,hx,fun bb=> ?_⟩;rcases a8 with rfl|⟨b,off,vals,rfl,ch,hc,hu,hr⟩
   ·exact absurd rfl bb
   ·exact⟨b,off,vals,rfl,hc,hr.la,hu⟩
  ·cases he
 ·rename_i l bG off len tag
  split at he
  ·rename_i dZ ds fz hl
   split at he
   ·rename_i dy
    obtain⟨rfl,rfl,eD,pf⟩:=dy;simp only[ay]at he;subst he;obtain⟨h0,dd,b5,cap,bN,l1,fQ,c8⟩:=ha.kL;obtain⟨aJ,dF,hr⟩:=aa.obj l h0 bN;rw[hl]at dF;cases dF;obtain⟨ht,iT,af,dT,hu,c,e,vals,rest,hc,en,ad,dU⟩:=hr;obtain⟨rfl,rfl,-,-⟩:=fQ (ht.trans eD);have hlen:((ds.drop off).take b5).length=b5:=by simp;omega
    rw[hlen];refine⟨_,cap,c8,fun _=>⟨h0.b,off*dZ,(vals.drop (off*dZ)).take (b5*dZ),rfl,?_,?_,fun d hd=>hu d (zO (CY hd))⟩⟩
    ·have:=((gb.qc hc ad).drop (off*dZ)).take (b5*dZ)
     rwa [dK]at this
    ·have jF:∀d∈ds.drop off,(aL d).length=dZ:=fun d hd=>hu d (zO hd)
     rw[vq jF,tq hu];exact(dU.drop _).take _
   ·cases he
  ·cases he
 ·cases he
theorem xV{size n cap:Nat}{b off:Nat}{vals:List Value}(hc:gb w b off vals)(hl:vals.length=n*size):
  (Builtin.firstCells size n (.slice (some ⟨b,off,none⟩) n cap)).run C.P w=.ok vals.toArray w:=by
 have:=run_loadCells_list (P:=C.P) w ⟨b,off,none⟩ vals (fun j v hj=>by rw[Addr.add_lit];exact hc j v hj);rw[hl]at this;exact this
theorem Kt:∀{vs vs':List V} {xs:List Value} {G:bw} {H H':Heap} {low low':Nat},aQ C fid G H w->aW fid G w (vs.flatMap aL) xs->eL H low vs=some (vs',H',low')->
  ∃G',jq C fid G H w low G' H' low'/\aW fid G' w (vs'.flatMap aL) xs/\vs'.length=vs.length/\∀es,(∀d∈vs,(aL d).length=es)->∀d∈vs',(aL d).length=es
 |[],_,_,G,H,H',low,low',aa,h,he=>by
  simp only[eL,ay,a6]at he;obtain⟨rfl,rfl,rfl⟩:=he;exact⟨G,.refl aa _,h,rfl,fun _ h=>h⟩
 |v::r,_,xs,G,H,H',low,low',aa,h,he=>by
  simp only[eL]at he;split at he
  ·rename_i v1 H1 bm h1
   split at he
   ·rename_i cc cT eH h2
    simp only[ay,a6]at he;obtain⟨rfl,rfl,rfl⟩:=he;rw[j0]at h;obtain⟨bX,cq,rfl,hy,aP⟩:=h.split;obtain⟨az,f1,bM,dH⟩:=UU aa hy h1;obtain⟨a7,f2,dC,rH,iu⟩:=Kt f1.rel (aP.ext aa (f1.ext 0 (ct _))) h2;refine⟨a7,f1.trans f2,?_,by simp[rH],fun es hu d hd=> ?_⟩
    ·rw[j0];exact(bM.ext f1.rel (f2.ext 0 (ct _))).append dC
    ·rcases cY.1 hd with rfl|hd
     ·rw[dH];exact hu v (by simp)
     ·exact iu es (fun d hd=>hu d (by simp[hd])) d hd
   ·cases he
  ·cases he
end Go.Abs
namespace Go.Abs
open Go
variable{C:Ctx}{fid:Nat->Nat}{w w':World}{G G':bw}{H:Heap}
variable{vars:List Nat}{ag:ah->V}{ρ:Operand->Value}{low low':Nat}{v:V}{H':Heap}{pos:String}{cF:b8}{o:Oper}
theorem ED{P:Program}{t u ty e e':TypeId}{i:TypeInfo}(hd:P.underlying t=some (.slice e))(hu:P.underlying u=some (.slice e'))(hi:P.info? e=some i){base ez:Option Addr}{sLen sCap n kl:Nat}{news:List Value}
  (hx:(Builtin.firstCells i.size n (.slice ez n kl)).run P w=.ok news.toArray w) (fG:sLen+n<=sCap):
  (Builtin.append_ #[t,u] ty #[.slice base sLen sCap,.slice ez n kl]).run P w=
    ((match base with|some a=>storeCells (a.add (sLen*i.size)) news|none=>pure ()).run P w).andThen fun _ w'=>.ok (.slice base (sLen+n) sCap) w':=by
 cases base with
 |none=>simp[Builtin.append_,run_underlying hd,run_underlying hu,sizeOf,typeInfo,hi,Builtin.lenOf,fG,hx]
 |some a=>simp[Builtin.append_,run_underlying hd,run_underlying hu,sizeOf,typeInfo,hi,Builtin.lenOf,fG,hx]
theorem EE{P:Program}{t u ty e e':TypeId}{i:TypeInfo}{bO:Value}(hd:P.underlying t=some (.slice e))(hu:P.underlying u=some (.slice e'))(hi:P.info? e=some i)(aP:i.zero=some bO)
  {base ez:Option Addr} {sLen sCap n kl:Nat} {olds news:List Value}
  (hx:(Builtin.firstCells i.size n (.slice ez n kl)).run P w.drew=.ok news.toArray w.drew) (ho:(Builtin.firstCells i.size sLen (.slice base sLen sCap)).run P w.drew=.ok olds.toArray w.drew)
  (fG:sCap<sLen+n) (hb:(sLen+n)*(i.bytes+1)<=1099511627776):
  ∃eX,sLen+n<=eX/\(Builtin.append_ #[t,u] ty #[.slice base sLen sCap,.slice ez n kl]).run P w=
   .ok (.slice (some ⟨w.heap.size,0,none⟩) (sLen+n) eX) (w.drew.alloc (.cells (olds.toArray++news.toArray++Builtin.zeroCells bO.cells (eX-(sLen+n))) e)):=by
 have h1:¬sLen+n<=sCap:=by omega
 have hm:(sLen+n)*i.bytes+(sLen+n)=(sLen+n)*(i.bytes+1):=by rw[Nat.mul_succ]
 have h2:¬(((sLen+n:Nat):Int)>9223372036854775807):=by omega
 have aq:=growslice_fits (need:=sLen+n) (old:=sCap) (bytes:=i.bytes) fG (by omega);have bf:¬(281474976710656<Builtin.nextslicecap (sLen+n) sCap*i.bytes):=by omega
 refine⟨sLen+n+(w.tape w.drawn (.appendCap (sLen+n) sCap e))%(9223372036854775808-(sLen+n)),Da _ _,?_⟩;have EF:¬(9223372036854775807<(sLen:Int)+(n:Int)):=by omega
 simp[Builtin.append_,run_underlying hd,run_underlying hu,sizeOf,typeInfo,hi,Builtin.lenOf,h1,EF,bf,Question.forced,Question.cut,hx,ho,zeroValue,aP,newRow];congr 2;apply Array.ext';simp
theorem vG (z:Array Value)(n:Nat):(Builtin.zeroCells z n).size=n*z.size:=by simp[Builtin.zeroCells]
theorem Ku{xs:List V}{vals:List Value}(h:aW fid G w xs vals)(hc:b7 xs=true):∀x∈vals,x.oneCell'=true:=Ax h hc
theorem cv.newRow (aa:aQ C fid G H w){low:Nat}{r:Result Next}{es:Nat}{ds:List V}{c:Array Value}{vals rest:List Value}{e:TypeId}{cap:Nat}(dT:0<es)(hn:0<ds.length)(hu:∀d∈ds,(aL d).length=es)
  (hc:c.toList=vals++rest) (ad:aW fid G w (ds.flatMap aL) vals) (dB:cap*es<=c.size) (hle:ds.length<=cap)
  (hr:r=.ok (.value (.slice (some ⟨w.heap.size,0,none⟩) ds.length cap)) (w.drew.alloc (.cells c e))):
  cv C fid G H w low r (.aN H.length es 0 ds.length ds.length) (H++[.row es ds false]) low:=by
 have hC:aQ C fid G H w.drew:=aa.hZ rfl;have cP:∀m n,Ext G w G w.drew m n:=fun m n=>Ext.hZ (w:=w) (w':=w.drew) rfl rfl rfl m n;have Ee:=ad.ext aa (cP 0 0);refine⟨_,_,⟨b0 G.β H.length ⟨w.drew.heap.size,ds.length,c.size,false⟩,G.I⟩,.inl hr,hC.push _ _ ds.length c.size (EB hC dT hn hu hc Ee),fun m _=>(cP m H.length).trans (Ext.push hC _ _ _ m),?_,aI _,by simp⟩;exact .aN _ es 0 _ _ ⟨w.drew.heap.size,ds.length,c.size,false⟩ _ _ _ (cM _ _ _) (aI _) (fun _=>⟨by simp,rfl,by rw[dK];exact dB,hle⟩)
theorem V0 (aa:aQ C fid G H w)(aE:eo C fid vars G w ag ρ){a b:Operand}{t u e e':TypeId}{i:TypeInfo}{bO:Value}{args:Array Operand}{bc:Array TypeId}(ho:o.op=.call {callee:=.builtin .append,args,argTypes:=bc})
  (ha:args= #[a,b]) (ht:bc= #[t,u]) {hD fH:ah} (h1:C.bF vars a=some hD) (h2:C.bF vars b=some fH) (hd:C.P.underlying t=some (.slice e)) (hu:C.P.underlying u=some (.slice e')) (hi:C.P.info? e=some i)
  (aP:i.zero=some bO) (ln:bO.cells.size=i.size) (iT:0<i.size) (he:step ag H low (.append i.size i.bytes hD fH)=some (v,H',low')):cv C fid G H w low ((execOp ρ o).run C.P w) v H' low':=by
 subst ha;subst ht;have hx:=aE a hD h1;have hy:=aE b fH h2
 have bR:(execOp ρ o).run C.P w=((Builtin.append_ #[t,u] o.type #[ρ a,ρ b]).run C.P w).andThen fun z w'=>.ok (.value z) w':=by
  rw[rM ho];simp only[builtin,Sem.run_bind,zU,cW,hP];rfl
 simp only[step]at he;split at he
 ·rename_i xs dW
  obtain⟨ph,vH,tE,vI⟩:=xU aa hy dW;split at he
  ·rename_i dR H1 bm af
   have news:∃vals az,jq C fid G H w low az H1 bm/\aW fid az w (dR.flatMap aL) vals/\dR.length=xs.length/\(∀d∈dR,(aL d).length=i.size)/\
     ∀eW,eW.heap=w.heap->(Builtin.firstCells i.size xs.length (.slice ph xs.length vH)).run C.P eW=.ok vals.toArray eW:=by
    by_cases bb:xs=[]
    ·subst bb
     simp only[eL,ay,a6]at af;obtain⟨rfl,rfl,rfl⟩:=af;refine⟨[],G,.refl aa _,.nil,rfl,by simp,fun eW _=> ?_⟩;cases ph with
     |none=>simp[Builtin.firstCells]
     |some dd=>simp[Builtin.firstCells,loadCells,loadCellsFrom]
    ·obtain⟨tB,off,vals,rfl,tt,dU,jF⟩:=vI bb
     obtain⟨az,f1,bM,dH,gf⟩:=Kt aa dU af;refine⟨vals,az,f1,bM,dH,gf _ jF,fun eW hw=> ?_⟩;exact xV (fun j x hj=>by rw[DW (w:=w) (w':=eW) (by rw[hw])];exact tt j x hj) (by rw[dU.length,j5 jF])
   obtain⟨vals,az,f1,bM,dH,gf,ot⟩:=news;rw[tE]at bR;have fI:=hx.ext aa (f1.ext 0 (ct _));refine cv.vv f1 ?_;have fg:=f1.rel;split at he
   ·
    rename_i lo
    have EG:xs=[]:=by
     have:dR=[]:=by simpa using lo
     rw[this]at dH;exact u5.1 dH.symm
    have tF:vals=[]:=by
     have:=bM.length;have fa:dR=[]:=by simpa using lo
     rw[fa]at this;exact u5.1 (by simpa using this)
    subst EG;subst tF
    have same:∀base n cap,ρ a=.slice base n cap->n<=cap->(execOp ρ o).run C.P w=.ok (.value (ρ a)) w:=by
     intro base n cap hs hle;rw[bR,hs,ED (P:=C.P) hd hu hi (ot w rfl) (by simpa using hle)];cases base<;>simp[storeCells]
    split at he
    ·rename_i ae
     simp only[ay,a6]at he;obtain⟨rfl,rfl,rfl⟩:=he;rw[ae]at fI;exact .same fg (same _ _ _ fI.gz (aI _)) fI
    ·rename_i ae
     simp only[ay,a6]at he;obtain⟨rfl,rfl,rfl⟩:=he;rw[ae]at fI;obtain⟨dd,c8⟩:=fI.ns;exact .same fg (same _ _ _ c8 (aI _)) fI
    ·rename_i bG ds ae
     simp only[ay,a6]at he;obtain⟨rfl,rfl,rfl⟩:=he;rw[ae]at fI;obtain⟨dd,cap,c8,dB,-⟩:=fI.rJ;exact .same fg (same _ _ _ c8 dB) fI
    ·rename_i l bG off len tag ae
     rw[ae]at fI;split at he
     ·rename_i dZ ds fz hl
      split at he
      ·rename_i eD
       simp only[ay,a6]at he;obtain⟨rfl,rfl,rfl⟩:=he;obtain⟨h0,dd,b5,cap,bN,l1,fQ,c8⟩:=fI.kL;obtain⟨aJ,dF,hr⟩:=fg.obj l h0 bN;rw[hl]at dF;cases dF;obtain⟨rfl,rfl,-,lj⟩:=fQ (hr.1.trans eD);exact .same fg (same _ _ _ c8 lj) fI
      ·cases he
     ·cases he
    ·cases he
   ·rename_i lo
    have bb:0<dR.length:=by
     rcases IU dR.length with q|q
     ·exact absurd (by simpa using u5.1 q) lo
     ·exact q
    split at he
    ·cases he
    ·rename_i bx
     have bx:b7 (dR.flatMap aL)=true:=by simpa using bx
     have xW:=Ku bM bx;have jH:vals.length=xs.length*i.size:=by rw[bM.length,j5 gf,dH]
     have fresh:∀base,ρ a=.slice base 0 0->dR.length*(i.bytes+1)<=1099511627776->cv C fid az H1 w bm ((execOp ρ o).run C.P w) (.aN H1.length i.size 0 dR.length dR.length) (H1++[.row i.size dR false]) bm:=by
      intro base hs hb
      have hold:(Builtin.firstCells i.size 0 (.slice base 0 0)).run C.P w.drew=.ok ([]:List Value).toArray w.drew:=by
       cases base<;>simp[Builtin.firstCells,loadCells,loadCellsFrom]
      obtain⟨eX,dB,iX⟩:=EE (P:=C.P) (t:=t) (u:=u) (ty:=o.type) hd hu hi aP (ot w.drew rfl) hold (by omega) (by rw[dK,<-dH];exact hb);rw[dK,<-dH]at iX dB;refine cv.newRow fg (cap:=eX) (e:=e) iT bb gf (vals:=vals) (rest:=(Builtin.zeroCells bO.cells (eX-dR.length)).toList) ?_ bM ?_ dB (by rw[bR,hs,<-dH,iX];rfl)
      ·simp
      ·simp only[sH,pW,n3,dK,vG,jH,ln,<-dH,<-pY]
       rw[Nat.add_sub_cancel' dB];exact aI _
     split at he
     ·rename_i ae
      split at he
      ·rename_i hb
       simp only[ay,a6]at he;obtain⟨rfl,rfl,rfl⟩:=he;rw[ae]at fI;exact fresh _ fI.gz hb
      ·cases he
     ·rename_i ae
      split at he
      ·rename_i hb
       simp only[ay,a6]at he;obtain⟨rfl,rfl,rfl⟩:=he;rw[ae]at fI;obtain⟨dd,c8⟩:=fI.ns;exact fresh _ c8 hb
      ·cases he
     ·rename_i l bG off len tag ae
      rw[ae]at fI;split at he
      ·rename_i dZ ds hl
       split at he
       ·rename_i dy
        obtain⟨rfl,rfl,eD,rfl,rfl,hb⟩:=dy;simp only[ay,a6]at he;obtain⟨rfl,rfl,rfl⟩:=he;obtain⟨h0,dd,b5,cap,bN,l1,fQ,c8⟩:=fI.kL;obtain⟨aJ,dF,hr⟩:=fg.obj l h0 bN;rw[hl]at dF;cases dF;obtain⟨ou,xX,hfz,dT,j7,c,qn,iy,rest,hc,en,gd,dU⟩:=hr;obtain⟨rfl,rfl,kN,lj⟩:=fQ (ou.trans eD);rw[Nat.zero_mul]at c8;rw[dK]at kN;have kM:ds.length=b5:=eD;have pf:iy.length=b5*i.size:=by rw[dU.length,j5 j7,kM]
        have ew:c.size=iy.length+rest.length:=by rw[<-e9,gd,fO]
        have rP:∀d∈ds++dR,(aL d).length=i.size:=fun d hd=>by
         rcases hN.1 hd with q|q
         ·exact j7 d q
         ·exact gf d q
        have xY:aW fid az w ((ds++dR).flatMap aL) (iy++vals):=by rw[C1];exact dU.append bM
        by_cases fG:b5+xs.length<=cap
        ·
         have hmul:(b5+xs.length)*i.size<=c.size:=cA (CZ _ fG) (by rw[<-en];exact kN);rw[pY]at hmul;have cG:=run_storeCells_at C.P h0.b (b5*i.size) qn vals 0 c w hc (by omega) xW
         have hval:(execOp ρ o).run C.P w=.ok (.value (.slice (some ⟨h0.b,0,none⟩) (b5+xs.length) cap)) (w.setRow h0.b (c.toList.take (b5*i.size)++vals++c.toList.drop (b5*i.size+vals.length)).toArray):=by
          rw[bR,c8,ED (P:=C.P) hd hu hi (ot w rfl) fG];simp only[Addr.add_lit,dK];simp only[sN]at cG;rw[cG];rfl
         have dV:Ext az w ⟨b0 az.β l {h0 with tag:=b5+dR.length},az.I⟩ (w.setRow h0.b (c.toList.take (b5*i.size)++vals++c.toList.drop (b5*i.size+vals.length)).toArray) l H1.length:=
          Ext.write fg bN hfz rfl (by simp only;omega) (fun q=>by omega) rfl (setRow_size _ _) (fun b bb=>setRow_other bb _) rfl rfl
         refine⟨_,_,_,.inl hval,aQ.write fg bN hfz (h':={h0 with tag:=b5+dR.length}) rfl hfz (by simp only;omega) (fun q=>by omega) rfl (setRow_size _ _) (fun b bb=>setRow_other bb _) (.row i.size (ds++dR) false) ?_,
          fun m hm=>dV.le (cA hm (mn _ _)) (aI _),?_,ig _ _,by simp⟩
         ·refine⟨by simp[kM],by simp;omega,hfz,dT,rP,_,qn,iy++vals,rest.drop vals.length,setRow_heap w h0.b c _ qn _ hc,?_,?_,xY.ext fg dV⟩
          ·show h0.ef=_
           rw[en];simp only[pW,fO,sI,xj,e9];omega
          ·rw[IM,gd,<-pf,List.take_left,IY,jl,jl]
           congr 2;rw[CW (by omega),ij];congr 1;omega
         ·rw[<-dH]
          exact .aN l i.size 0 _ _ {h0 with tag:=b5+dR.length} _ _ _ (cM _ _ _) (aI _) (fun _=>⟨by simp,rfl,by rw[dK];exact kN,by omega⟩)
        ·
         have hold:(Builtin.firstCells i.size b5 (.slice (some ⟨h0.b,0,none⟩) b5 cap)).run C.P w.drew=.ok iy.toArray w.drew:=
          xV (gb.qc (w:=w.drew) hc gd) pf
         obtain⟨eX,dB,iX⟩:=EE (P:=C.P) (t:=t) (u:=u) (ty:=o.type) hd hu hi aP (ot w.drew rfl) hold (by omega) (by rw[<-dH];exact hb);have qo:aQ C fid az H1 w.drew:=fg.hZ rfl;have cP:∀m n,Ext az w az w.drew m n:=fun m n=>Ext.hZ (w:=w) (w':=w.drew) rfl rfl rfl m n
         obtain⟨bq,cc⟩:=aQ.move qo bN hfz (.cells (iy.toArray++vals.toArray++Builtin.zeroCells bO.cells (eX-(b5+xs.length))) e) (b5+dR.length)
          (iy.toArray++vals.toArray++Builtin.zeroCells bO.cells (eX-(b5+xs.length))).size (by omega) (by omega) (.row i.size (ds++dR) false)
          ⟨by simp[kM],by simp;omega,rfl,dT,rP,_,e,iy++vals,(Builtin.zeroCells bO.cells (eX-(b5+xs.length))).toList,j4 _ _,rfl,by simp,aW.mono (G:=az) (w:=w.drew) (G':=⟨b0 az.β l ⟨w.drew.heap.size,b5+dR.length,(iy.toArray++vals.toArray++Builtin.zeroCells bO.cells (eX-(b5+xs.length))).size,false⟩,az.I⟩) (by
           intro x h3 fa;by_cases iW:x=l
           ·subst iW;rw[bN]at fa;cases fa
            exact⟨_,cM _ _ _,by simp only;omega,fun q=>by omega,fun q=>by simp only at q;omega,fun q=>by rw[hfz]at q;cases q⟩
           ·exact⟨h3,by simp only[cZ iW];exact fa,aI _,id,fun _=>⟨rfl,rfl⟩,fun _=>rfl⟩) (fun b pj=>⟨pj,alloc_old (w:=w.drew) (qo.cu b pj).1⟩) (xY.ext fg (cP 0 0))⟩
         refine⟨_,_,_,.inl (by rw[bR,c8,iX];rfl),bq,fun m hm=>(cP m H1.length).trans (cc.le (cA hm (mn _ _)) (aI _)),?_,ig _ _,by simp⟩;rw[<-dH];refine .aN l i.size 0 _ _ ⟨w.drew.heap.size,b5+dR.length,_,false⟩ _ _ _ (cM _ _ _) (aI _) (fun _=>⟨by simp,rfl,?_,by omega⟩);simp only[sH,pW,vG,jH,pf,ln,<-pY,dK];have qj:b5+xs.length+(eX-(b5+dR.length))=eX:=by omega
         rw[qj];exact aI _
       ·cases he
      ·cases he
     ·cases he
  ·cases he
 ·cases he
theorem cv.V1 (aa:aQ C fid G H w){low:Nat}{r:Result Next}{es:Nat}{ds:List V}{c:Array Value}{vals rest:List Value}{e:TypeId}{cap:Nat}(hu:∀d∈ds,(aL d).length=es)(hp:cB ds=true)
  (hc:c.toList=vals++rest) (ad:aW fid G w (ds.flatMap aL) vals) (hle:ds.length<=cap)
  (hr:r=.ok (.value (.slice (some ⟨w.heap.size,0,none⟩) ds.length cap)) (w.drew.alloc (.cells c e))):
  cv C fid G H w low r (.list es ds) H low:=by
 have hC:aQ C fid G H w.drew:=aa.hZ rfl;have cP:∀m n,Ext G w G w.drew m n:=fun m n=>Ext.hZ (w:=w) (w':=w.drew) rfl rfl rfl m n;have hx:∀m n,Ext G w ⟨G.β,fun b=>G.I b\/(b=w.drew.heap.size/\True)⟩ (w.drew.alloc (.cells c e)) m n:=fun m n=>(cP m n).trans (Ext.nw (.cells c e) True m n);refine⟨_,_,⟨G.β,fun b=>G.I b\/(b=w.drew.heap.size/\True)⟩,.inl hr,hC.nw (.cells c e) True,fun m _=>hx m _,.p _ _ ?_,aI _,aI _⟩;exact .list es ds w.drew.heap.size 0 cap vals (.inr ⟨rfl,trivial⟩) (gb.qc (rest:=rest) (j4 _ _) hc) hu ((ad.ext aa (hx 0 0)).lZ (Ar hp)) hle
theorem V2 (aa:aQ C fid G H w)(aE:eo C fid vars G w ag ρ){a b:Operand}{t u e e':TypeId}{i:TypeInfo}{bO:Value}{args:Array Operand}{bc:Array TypeId}(ho:o.op=.call {callee:=.builtin .append,args,argTypes:=bc})
  (ha:args= #[a,b]) (ht:bc= #[t,u]) {hD fH:ah} (h1:C.bF vars a=some hD) (h2:C.bF vars b=some fH) (hd:C.P.underlying t=some (.slice e)) (hu:C.P.underlying u=some (.slice e')) (hi:C.P.info? e=some i)
  (aP:i.zero=some bO) (ln:bO.cells.size=i.size) (iT:0<i.size) (he:step ag H low (.rh i.size i.bytes hD fH)=some (v,H',low')):cv C fid G H w low ((execOp ρ o).run C.P w) v H' low':=by
 subst ha;subst ht;have fI:=aE a hD h1;have hy:=aE b fH h2
 have bR:(execOp ρ o).run C.P w=((Builtin.append_ #[t,u] o.type #[ρ a,ρ b]).run C.P w).andThen fun z w'=>.ok (.value z) w':=by
  rw[rM ho];simp only[builtin,Sem.run_bind,zU,cW,hP];rfl
 simp only[step]at he;split at he
 ·rename_i xs dW
  obtain⟨ph,vH,tE,vI⟩:=xU aa hy dW;split at he
  ·cases he
  rename_i hp;have hp:cB xs=true:=by simpa using hp
  obtain⟨vals,bM,gf,ot⟩:∃vals,aW fid G w (xs.flatMap aL) vals/\(∀d∈xs,(aL d).length=i.size)/\∀eW,eW.heap=w.heap->(Builtin.firstCells i.size xs.length (.slice ph xs.length vH)).run C.P eW=.ok vals.toArray eW:=by
   by_cases bb:xs=[]
   ·subst bb
    refine⟨[],.nil,by simp,fun eW _=> ?_⟩;cases ph with
    |none=>simp[Builtin.firstCells]
    |some dd=>simp[Builtin.firstCells,loadCells,loadCellsFrom]
   ·obtain⟨tB,off,vals,rfl,tt,dU,jF⟩:=vI bb
    exact⟨vals,dU,jF,fun eW hw=>xV (fun j x hj=>by rw[DW (w:=w) (w':=eW) (by rw[hw])];exact tt j x hj) (by rw[dU.length,j5 jF])⟩
  rw[tE]at bR
  have same:xs=[]->∀base n cap,ρ a=.slice base n cap->n<=cap->(execOp ρ o).run C.P w=.ok (.value (ρ a)) w:=by
   intro EG base n cap hs hle;subst EG;have tF:vals=[]:=u5.1 (by rw[bM.length];rfl);subst tF;rw[bR,hs,ED (P:=C.P) hd hu hi (ot w rfl) (by simpa using hle)];cases base<;>simp[storeCells]
  have fresh:∀base,ρ a=.slice base 0 0->0<xs.length->xs.length*(i.bytes+1)<=1099511627776->cv C fid G H w low ((execOp ρ o).run C.P w) (.list i.size xs) H low:=by
   intro base hs bb hb;have jH:vals.length=xs.length*i.size:=by rw[bM.length,j5 gf]
   have hold:(Builtin.firstCells i.size 0 (.slice base 0 0)).run C.P w.drew=.ok ([]:List Value).toArray w.drew:=by
    cases base<;>simp[Builtin.firstCells,loadCells,loadCellsFrom]
   obtain⟨eX,dB,iX⟩:=EE (P:=C.P) (t:=t) (u:=u) (ty:=o.type) hd hu hi aP (ot w.drew rfl) hold (by omega) (by rw[dK];exact hb);rw[dK]at iX dB;refine cv.V1 aa (cap:=eX) (e:=e) gf hp (vals:=vals) (rest:=(Builtin.zeroCells bO.cells (eX-xs.length)).toList) ?_ bM dB (by rw[bR,hs,iX];rfl);simp
  have pos:¬xs.isEmpty=true->0<xs.length:=fun q=>by
   rcases IU xs.length with q'|q'
   ·exact absurd (by simpa using u5.1 q') q
   ·exact q'
  have nil:xs.isEmpty=true->xs=[]:=fun q=>by simpa using q
  split at he
  ·rename_i ae
   rw[ae]at fI;split at he
   ·rename_i q
    simp only[ay,a6]at he;obtain⟨rfl,rfl,rfl⟩:=he;exact .same aa (same (nil q) _ _ _ fI.gz (aI _)) fI
   ·rename_i q
    split at he
    ·rename_i hb
     simp only[ay,a6]at he;obtain⟨rfl,rfl,rfl⟩:=he;exact fresh _ fI.gz (pos q) hb.2
    ·cases he
  ·rename_i ae
   rw[ae]at fI;obtain⟨dd,c8⟩:=fI.ns;split at he
   ·rename_i q
    simp only[ay,a6]at he;obtain⟨rfl,rfl,rfl⟩:=he;exact .same aa (same (nil q) _ _ _ c8 (aI _)) fI
   ·rename_i q
    split at he
    ·rename_i hb
     simp only[ay,a6]at he;obtain⟨rfl,rfl,rfl⟩:=he;exact fresh _ c8 (pos q) hb.2
    ·cases he
  ·cases he
 ·cases he
end Go.Abs
namespace Go.Abs
open Go
variable{C:Ctx}{fid:Nat->Nat}{w w':World}{G G':bw}{H:Heap}
variable{vars:List Nat}{ag:ah->V}{ρ:Operand->Value}{low low':Nat}{v:V}{H':Heap}{pos:String}{cF:b8}{o:Oper}
theorem Kv:∀{a b:List V},kG (a++b)=(kG a&&kG b)
 |[],b=>by simp[kG]
 |x::a,b=>by simp[kG,Kv (a:=a),zY]
theorem V3 (aa:aQ C fid G H w)(aE:eo C fid vars G w ag ρ){a b:Operand}{t u e e':TypeId}{n:Nat}{args:Array Operand}{bc:Array TypeId}(ho:o.op=.call {callee:=.builtin .copy,args,argTypes:=bc})
  (ha:args= #[a,b]) (ht:bc= #[t,u]) {hD fH:ah} (h1:C.bF vars a=some hD) (h2:C.bF vars b=some fH) (hd:C.P.underlying t=some (.slice e)) (hn:C.sizeOf e=some n)
  (he:step ag H low (.copy n hD fH)=some (v,H',low')):cv C fid G H w low ((execOp ρ o).run C.P w) v H' low':=by
 subst ha;subst ht;have hx:=aE a hD h1;have hy:=aE b fH h2
 have bR:(execOp ρ o).run C.P w=((Builtin.copy_ #[t,u] o.type #[ρ a,ρ b]).run C.P w).andThen fun z w'=>.ok (.value z) w':=by
  rw[rM ho];simp only[builtin,Sem.run_bind,zU,cW,hP];rfl
 have zero:∀base,(∃xs,elems H n (ag fH)=some xs)->ρ a=.slice base 0 0->cv C fid G H w low ((execOp ρ o).run C.P w) (.int .i64 0) H low:=by
  rintro base ⟨xs,dW⟩ hs;obtain⟨ph,vH,tE,vI⟩:=xU aa hy dW;refine .same aa (x:=.int .i64 0) ?_ (.p _ _ (.int _ _));rw[bR,hs,tE];cases ph<;>cases base<;>simp[Builtin.copy_,run_underlying hd,Builtin.lenOf,Builtin.firstCells,loadCells,loadCellsFrom,tA (C:=C) hn,storeCells,goInt]
 simp only[step]at he;split at he
 ·rename_i xs ae dW
  simp only[ay,a6]at he;obtain⟨rfl,rfl,rfl⟩:=he;rw[ae]at hx;exact zero _ ⟨_,dW⟩ hx.gz
 ·rename_i xs ae dW
  simp only[ay,a6]at he;obtain⟨rfl,rfl,rfl⟩:=he;rw[ae]at hx;obtain⟨dd,c8⟩:=hx.ns;exact zero _ ⟨_,dW⟩ c8
 ·rename_i l bG off len tag xs ae dW
  split at he
  ·rename_i dZ ds hl
   split at he
   ·rename_i dy
    obtain⟨rfl,rfl,eD,pf,gV⟩:=dy;simp only[ay,a6]at he;obtain⟨rfl,rfl,rfl⟩:=he;rw[ae]at hx;obtain⟨ph,vH,tE,vI⟩:=xU aa hy dW;obtain⟨h0,dd,b5,cap,bN,l1,fQ,c8⟩:=hx.kL;obtain⟨aJ,dF,hr⟩:=aa.obj l h0 bN;rw[hl]at dF;cases dF;obtain⟨ou,xX,hfz,dT,j7,c,qn,iy,rest,hc,en,gd,dU⟩:=hr;obtain⟨rfl,rfl,-,-⟩:=fQ (ou.trans eD)
    have key:∃cq,(Builtin.firstCells dZ (Nat.min xs.length b5) (.slice ph xs.length vH)).run C.P w=.ok cq.toArray w/\aW fid G w ((xs.take b5).flatMap aL) cq/\((xs.take b5).flatMap aL).length=(xs.take b5).length*dZ/\∀d∈xs.take b5,(aL d).length=dZ:=by
     by_cases bb:xs=[]
     ·subst bb
      refine⟨[],?_,by simpa using aW.nil,by simp,by simp⟩;cases ph<;>simp[Builtin.firstCells,loadCells,loadCellsFrom]
     ·obtain⟨tB,cC,vals,rfl,tt,Kw,jF⟩:=vI bb
      have rP:∀d∈xs.take b5,(aL d).length=dZ:=fun d hd=>jF d (CY hd);refine⟨vals.take (b5*dZ),?_,by rw[vq jF];exact Kw.take _,j5 rP,rP⟩;have jH:vals.length=xs.length*dZ:=by rw[Kw.length,j5 jF]
      have ai:(vals.take (b5*dZ)).length=Nat.min xs.length b5*dZ:=by
       rw[sI,jH,Nat.mul_min_mul_right,Nat.min_comm]
      have:=run_loadCells_list (P:=C.P) w ⟨tB,cC,none⟩ (vals.take (b5*dZ)) (fun j v hj=>by rw[Addr.add_lit];exact(tt.take _) j v hj);rw[ai]at this;exact this
    obtain⟨cq,Kx,AE,EH,V4⟩:=key
    have bx:∀x∈cq,x.oneCell'=true:=by
     refine Ax AE (Eg ?_);have:kG ((xs.take b5++xs.drop b5).flatMap aL)=true:=by rw[CX];exact gV
     rw[C1,Kv,cH]at this;exact this.1
    have vy:=AE.length;have iW:(xs.take b5).length=min b5 xs.length:=by simp
    have kM:ds.length=tag:=eD;have hmul:(off+min b5 xs.length)*dZ<=ds.length*dZ:=CZ _ (by have:=ig b5 xs.length;omega);rw[pY]at hmul;have ah8:iy.length=ds.length*dZ:=by rw[dU.length,j5 j7]
    have ew:c.size=iy.length+rest.length:=by rw[<-e9,gd,fO]
    have cG:=run_storeCells_at C.P h0.b (off*dZ) qn cq 0 c w hc (by rw[vy,EH,iW];omega) bx
    obtain⟨G',bq,cc⟩:=J5 aa bN hl (ds':=ds.take off++xs.take b5++ds.drop (off+min b5 xs.length)) (by simp only[fO,sI,xj];omega)
     (fun d hd=>by
       rcases hN.1 hd with q|q
       ·rcases hN.1 q with q|q
        ·exact j7 d (CY q)
        ·exact V4 d q
       ·exact j7 d (zO q)) (o:=off*dZ) AE (by rw[EH,iW];omega)
     (fun vals ad=>by
       rw[C1,C1,vq j7,tq j7,vy,EH,iW,<-pY];exact((ad.take _).append AE).append (ad.drop _)) hc
    refine⟨_,_,G',.inl ?_,bq,fun m hm=>cc.le (cA hm (mn _ _)) (aI _),.p _ _ (.int _ _),ig _ _,by simp⟩;rw[bR,c8,tE];simp only[sN]at cG;have qj:xs.length.min b5=min b5 xs.length:=Nat.min_comm _ _;rw[qj]at Kx;simp[Builtin.copy_,run_underlying hd,Builtin.lenOf,tA (C:=C) hn,qj,Kx,cG,goInt]
   ·cases he
  ·cases he
 ·cases he
theorem rQ{k:TypeId}{bI:Nat}(hk:C.iQ k=some bI)(em:Bool)(n:Nat)(x:Value):(Instr.checkKey em (n+1) k x).run C.P w=.ok () w:=by
 unfold Ctx.iQ at hk;unfold Instr.checkKey;split at hk<;>rename_i hd<;>first|(cases hk;done)|(rw[Sem.run_bind,run_underlying hd];rfl)
theorem vJ{k:TypeId}{bI:Nat}{d:TypeDesc}(hk:C.iQ k=some bI)(hd:C.P.underlying k=some d){a b:V}{e:Bool}{x y:Value}(ha:aZ fid G w a x)(hb:aZ fid G w b y)(he:gS bI a b=some e):
  Instr.sameNow d x y=some e/\(e=true->Instr.sameBits 10000 y x=true):=by
 unfold Ctx.iQ at hk;rw[hd]at hk;unfold gS at he;split at he
 ·split at he
  ·rename_i xL
   simp only[ay]at he;subst he;subst xL;rw[ha.gH,hb.gH];cases d<;>simp at hk;refine⟨by simp[Instr.sameNow],fun h=> ?_⟩;simp at h;subst h;simp[Instr.sameBits]
  ·cases he
 ·simp only[ay]at he;subst he
  rw[ha.kK,hb.kK];cases d<;>simp at hk;refine⟨by simp[Instr.sameNow,beq_toListBytes,ByteArray.toList_eq],fun h=> ?_⟩;simp at h;subst h;simp[Instr.sameBits,beq_toListBytes,ByteArray.toList_eq]
 ·simp only[ay]at he;subst he
  rw[ha.j6,hb.j6];cases d<;>simp at hk;refine⟨by simp[Instr.sameNow],fun h=> ?_⟩;simp at h;subst h;simp[Instr.sameBits]
 ·cases he
theorem qp{k:TypeId}{bI:Nat}{d:TypeDesc}(hk:C.iQ k=some bI)(hd:C.P.underlying k=some d){a:V}{x:Value}(ha:aZ fid G w a x):∀{bA:List (V × V)} {es:List MapEntry} (i:Nat) {r:Option V},
  aW fid G w (bA.map (·.1)) (es.map (·.key))->aW fid G w (bA.map (·.2)) (es.map (·.val))->iP bI a bA=some r->
  match r with
  |none=>Instr.findNow d x es i=some none
  |some u=>∃j y,Instr.findNow d x es i=some (some (i+j,y))/\aZ fid G w u y/\(∃e,es[j]? =some e/\Instr.sameBits 10000 e.key x=true)
 |[],[],i,r,_,_,h=>by
  simp only[iP,ay]at h;subst h;rfl
 |[],_::_,_,_,h,_,_=>by simp at h;cases h
 | _::_,[],_,_,h,_,_=>by simp at h;cases h
 |(bJ,u)::bA,e::es,i,r,eO,cO,h=>by
  simp only[cW]at eO cO;cases eO with
  |cons _ _ _ _ gJ eO=>
   cases cO with
   |cons _ _ _ _ oq cO=>
    simp only[iP]at h;split at h
    ·rename_i he
     simp only[ay]at h;subst h;obtain⟨hs,hb⟩:=vJ hk hd ha gJ he;exact⟨0,e.val,by simp[Instr.findNow,hs],oq,e,rfl,hb rfl⟩
    ·rename_i he
     obtain⟨hs,-⟩:=vJ hk hd ha gJ he;have ih:=qp hk hd ha (i+1) eO cO h;cases r with
     |none=>simpa[Instr.findNow,hs]using ih
     |some u'=>
      obtain⟨j,y,h1,h2,e',aq,bf⟩:=ih;refine⟨j+1,y,?_,h2,e',by simpa using aq,bf⟩;have:i+(j+1)=i+1+j:=by omega
      rw[this];simpa[Instr.findNow,hs]using h1
    ·cases h
theorem tG{k:TypeId}{d:TypeDesc}(hd:C.P.underlying k=some d){x:Value}{es:List MapEntry}{r:Option (Nat × Value)}(h:Instr.findNow d x es 0=some r):(Instr.findKey k x es).run C.P w=.ok r w:=by
 unfold Instr.findKey;simp only[Sem.run_bind,run_underlying hd,Result.andThen_ok,h,Sem.run_pure]
theorem EI{k:TypeId}{bI:Nat}(hk:C.iQ k=some bI):∃d,C.P.underlying k=some d:=by
 unfold Ctx.iQ at hk;split at hk<;>rename_i hd<;>first|exact⟨_,hd⟩|cases hk
theorem V5{t:TypeId}{z:V}(aP:C.zeroV t=some z)(hu:p5 z=false):∃bO,(∀w,(zeroValue t).run C.P w=.ok bO w)/\∀(G:bw) (w:World),aZ fid G w z bO:=by
 unfold Ctx.zeroV at aP;split at aP
 ·rename_i i hi
  split at aP
  ·rename_i bO vA
   refine⟨bO,fun w=> ?_,fun G w=>.p _ _ ((xH bO aP).resolve_left (by rintro rfl;simp[p5]at hu))⟩;simp only[zeroValue,Sem.run_bind,run_typeInfo (P:=C.P) w hi,Result.andThen_ok,vA,Sem.run_pure]
  ·cases aP
 ·cases aP
theorem vK{r:Nat}{es:Array MapEntry}{b3:Nat}(h:w.heap[r]? =some (.map es b3)):(getObj r).run C.P w=.ok (.map es b3) w:=by simp[getObj,Sem.run,h]
theorem AF{r:Nat}{es:Array MapEntry}{b3:Nat}(o:Obj)(h:w.heap[r]? =some (.map es b3)):(setObj r o).run C.P w=.ok () {w with heap:=w.heap.setIfInBounds r o}:=by simp[setObj,Sem.run,h]
theorem V6 (aa:aQ C fid G H w)(aE:eo C fid vars G w ag ρ){t:TypeId}{x i:Operand}{ok:Bool}(ho:o.op=.lookup t x i ok)(hc:C.ca vars pos o.op=some cF)(he:step ag H low cF=some (v,H',low')):
  cv C fid G H w low ((execOp ρ o).run C.P w) v H' low':=by
 rw[ho]at hc;simp only[Ctx.ca]at hc;split at hc
 ·rename_i k e bY oi hd h1 h2
  split at hc
  ·rename_i bI z h4 aP
   split at hc
   ·cases hc
   ·rename_i V7
    simp only[ay]at hc;subst hc;have hx:=aE x bY h1;have hi:=aE i oi h2;obtain⟨bO,kP,kQ⟩:=V5 (fid:=fid) aP (by simpa using V7);obtain⟨Ky,km⟩:=EI h4
    have bR:(execOp ρ o).run C.P w=((Instr.lookup t (ρ x) (ρ i) ok).run C.P w).andThen fun z w'=>.ok (.value z) w':=by
     unfold execOp;rw[ho];simp only[Sem.run_bind];rfl
    have res:∀(u:V) (y:Value) (b:Bool),aZ fid G w u y->aZ fid G w (if ok then .aR [u,.bool b]else u) (if ok then .tuple #[y,.bool b]else y):=by
     intro u y b h;cases ok
     ·exact h
     ·exact .aR _ [y,.bool b] (.cons _ _ _ _ h (.cons _ _ _ _ (.p _ _ (.bool _)) .nil))
    simp only[step]at he;split at he
    ·rename_i ae
     simp only[ay,a6]at he;obtain⟨rfl,rfl,rfl⟩:=he;rw[ae]at hx;refine .same aa ?_ (res z bO false (kQ G w));rw[bR,hx.Ej];unfold Instr.lookup;have af:=tG (C:=C) (w:=w) km (x:=ρ i) (es:=[]) (r:=none) rfl;simp only[Sem.run_bind,run_underlying hd,Result.andThen_ok,Sem.run_pure,rQ h4,af,kP]
    ·rename_i l ae
     rw[ae]at hx;obtain⟨h0,bN,-,c8⟩:=hx.mapInv;split at he
     ·rename_i bA hl
      obtain⟨aJ,dF,hr⟩:=aa.obj l h0 bN;rw[hl]at dF;cases dF;obtain⟨-,-,es,b3,hm,gJ,vF,-⟩:=hr;split at he
      ·rename_i u kn
       simp only[ay,a6]at he;obtain⟨rfl,rfl,rfl⟩:=he;obtain⟨j,y,af,dU,-⟩:=qp h4 km hi 0 gJ vF kn;refine .same aa ?_ (res u y true dU);rw[bR,c8];unfold Instr.lookup;simp only[Sem.run_bind,run_underlying hd,Result.andThen_ok,Sem.run_pure,vK hm,rQ h4,tG (C:=C) km af]
      ·rename_i kn
       simp only[ay,a6]at he;obtain⟨rfl,rfl,rfl⟩:=he;have af:=qp h4 km hi 0 gJ vF kn;refine .same aa ?_ (res z bO false (kQ G w));rw[bR,c8];unfold Instr.lookup;simp only[Sem.run_bind,run_underlying hd,Result.andThen_ok,Sem.run_pure,vK hm,rQ h4,tG (C:=C) km af,kP]
      ·cases he
     ·cases he
    ·cases he
  ·cases hc
 ·cases hc
theorem EJ{bI:Nat}{k u:V}:∀{bA:List (V × V)},iP bI k bA=some none->kH bI k u bA=bA++[(k,u)]
 |[],_=>rfl
 |(bJ,v)::r,h=>by
  simp only[iP]at h;split at h
  ·cases h
  ·rename_i he
   simp[kH,he,EJ h]
  ·cases h
theorem Kz{k:TypeId}{bI:Nat}{d:TypeDesc}(hk:C.iQ k=some bI)(hd:C.P.underlying k=some d){a:V}{x:Value}(ha:aZ fid G w a x){u:V}{y:Value}(hu:aZ fid G w u y):∀{bA:List (V × V)} {es:List MapEntry} (i:Nat) {r:V} {j:Nat} {z:Value},
  aW fid G w (bA.map (·.1)) (es.map (·.key))->aW fid G w (bA.map (·.2)) (es.map (·.val))->iP bI a bA=some (some r)->Instr.findNow d x es i=some (some (i+j,z))->
  aW fid G w ((kH bI a u bA).map (·.1)) ((es.modify j fun e=>{e with key:=x,val:=y}).map (·.key))/\aW fid G w ((kH bI a u bA).map (·.2)) ((es.modify j fun e=>{e with key:=x,val:=y}).map (·.val))
 |[],[],i,r,j,z,_,_,h,_=>by simp[iP]at h
 |[],_::_,_,_,_,_,h,_,_,_=>by simp at h;cases h
 | _::_,[],_,_,_,_,h,_,_,_=>by simp at h;cases h
 |(bJ,u')::bA,e::es,i,r,j,z,eO,cO,h,af=>by
  simp only[cW]at eO cO;cases eO with
  |cons _ _ _ _ gJ eO=>
   cases cO with
   |cons _ _ _ _ oq cO=>
    simp only[iP]at h;split at h
    ·rename_i he
     obtain⟨hs,-⟩:=vJ hk hd ha gJ he;simp only[Instr.findNow,hs,ay,a6]at af;obtain rfl:j=0:=by omega
     simp only[kH,he,if_true,cW,List.modify_zero_cons];exact⟨.cons _ _ _ _ ha eO,.cons _ _ _ _ hu cO⟩
    ·rename_i he
     obtain⟨hs,-⟩:=vJ hk hd ha gJ he;simp only[Instr.findNow,hs]at af;have fx:=qp hk hd ha (i+1) eO cO h;obtain⟨xZ,kO,h1,-,-⟩:=fx;rw[h1]at af;simp only[ay,a6]at af;obtain⟨hj,rfl⟩:=af;obtain rfl:j=xZ+1:=by omega
     have ih:=Kz hk hd ha hu (i+1) eO cO h h1;have bb:¬(gS bI a bJ=some true):=by rw[he];simp
     simp only[kH,bb,if_false,cW,List.modify_succ_cons];exact⟨.cons _ _ _ _ gJ ih.1,.cons _ _ _ _ oq ih.2⟩
    ·cases h
theorem mr.push{es:Array MapEntry}{b3:Nat}(h:mr es b3)(x y:Value):mr (es.push {key:=x,val:=y,born:=b3}) (b3+1):=by
 refine⟨fun e he=> ?_,?_⟩
 ·rw[IW,hN]at he
  rcases he with he|he
  ·exact C6 (h.1 e he)
  ·rw[oZ]at he;subst he;exact xk _
 ·rw[IW,hM,ra]
  refine⟨h.2,by simp,fun a ha b hb=> ?_⟩;simp only[cW,hP,oZ]at hb;subst hb;obtain⟨e,he,rfl⟩:=dn.1 ha;exact mo (h.1 e he)
theorem KA (x y:Value):∀(l:List MapEntry) (j:Nat),(l.modify j fun e=>{e with key:=x,val:=y}).map (·.born)=l.map (·.born)
 |[],j=>by cases j<;>simp
 |e::l,0=>by simp
 |e::l,j+1=>by simp[KA x y l j]
theorem mr.modify{es:Array MapEntry}{b3:Nat}(h:mr es b3)(j:Nat)(x y:Value):mr (es.modify j fun e=>{e with key:=x,val:=y}) b3:=by
 have ae:(es.modify j fun e=>{e with key:=x,val:=y}).toList.map (·.born)=es.toList.map (·.born):=by
  rw[Array.toList_modify];exact KA x y _ j
 refine⟨fun e he=> ?_,by rw[ae];exact h.2⟩;have:e.born∈es.toList.map (·.born):=by rw[<-ae];exact dn.2 ⟨e,he,rfl⟩
 obtain⟨e',ov,q⟩:=dn.1 this;rw[<-q];exact h.1 e' ov
theorem KB (aa:aQ C fid G H w)(aE:eo C fid vars G w ag ρ){t:TypeId}{m k x:Operand}(ho:o.op=.mapUpdate t m k x\/o.op=.insert t m k x)(hc:C.ca vars pos o.op=some cF)(he:step ag H low cF=some (v,H',low')):
  cv C fid G H w low ((execOp ρ o).run C.P w) v H' low':=by
 have hc:C.ca vars pos (.mapUpdate t m k x)=some cF:=by
  rcases ho with ho|ho
  ·rw[ho]at hc;exact hc
  ·rw[ho]at hc;exact hc
 simp only[Ctx.ca]at hc;split at hc
 ·rename_i ek x0 am l4 bY hd h1 h2 aq
  obtain⟨bI,h4,rfl⟩:=bW.1 hc;have hm:=aE m am h1;have hk:=aE k l4 h2;have hx:=aE x bY aq;obtain⟨Ky,km⟩:=EI h4
  have bR:(execOp ρ o).run C.P w=((Instr.mapUpdate t (ρ m) (ρ k) (ρ x)).run C.P w).andThen fun _ w'=>.ok .skip w':=by
   unfold execOp;rcases ho with ho|ho<;>(rw[ho];simp only[Sem.run_bind];rfl)
  simp only[step]at he;split at he
  ·rename_i u' H1 bm hfz
   split at he
   ·cases he
   ·rename_i j7
    obtain⟨az,f1,bM⟩:=Av aa hx hfz;have fg:=f1.rel;have AG:=f1.ext 0 (ct _);have KC:=hm.ext aa AG;have gJ:=hk.ext aa AG;refine cv.vv f1 ?_;split at he
    ·rename_i l ae
     rw[ae]at KC;obtain⟨h0,bN,V8,c8⟩:=KC.mapInv;split at he
     ·rename_i bA hl
      obtain⟨aJ,dF,hr⟩:=fg.obj l h0 bN;rw[hl]at dF;cases dF;obtain⟨tH,js,es,b3,gg,eO,cO,cG⟩:=hr;split at he
      ·rename_i bD kn
       simp only[ay,a6]at he;obtain⟨rfl,rfl,rfl⟩:=he;have aY:h0.b<w.heap.size:=fg.cL l h0 bN
       have fin:∀(pk:Obj) (bG:Array MapEntry) (pn:Nat),pk=.map bG pn->(Instr.mapUpdate t (ρ m) (ρ k) (ρ x)).run C.P w=.ok () {w with heap:=w.heap.setIfInBounds h0.b pk}->
         aW fid az w ((kH bI (ag l4) u' bA).map (·.1)) (bG.toList.map (·.key))->aW fid az w ((kH bI (ag l4) u' bA).map (·.2)) (bG.toList.map (·.val))->mr bG pn->
         cv C fid az H1 w bm ((execOp ρ o).run C.P w) .undef (H1.set l (.map (kH bI (ag l4) u' bA))) (min bm l):=by
        rintro pk bG pn rfl iX x1 x2 EK
        have x3:∀b,b≠h0.b->({w with heap:=w.heap.setIfInBounds h0.b (.map bG pn)}:World).heap[b]? =w.heap[b]? :=fun b bb=>by
         show(w.heap.setIfInBounds h0.b _)[b]? =_;rw[Ui (jn bb)]
        have EL:({w with heap:=w.heap.setIfInBounds h0.b (.map bG pn)}:World).heap[h0.b]? =some (.map bG pn):=by
         show(w.heap.setIfInBounds h0.b _)[h0.b]? =_;simp[aY]
        have du:({w with heap:=w.heap.setIfInBounds h0.b (.map bG pn)}:World).heap.size=w.heap.size:=by simp
        have dV:Ext az w ⟨b0 az.β l h0,az.I⟩ {w with heap:=w.heap.setIfInBounds h0.b (.map bG pn)} l H1.length:=
         Ext.write fg bN js rfl (aI _) id rfl du x3 rfl rfl
        refine⟨undef,_,_,.inr ⟨by rw[bR,iX];rfl,rfl⟩,aQ.write fg bN js rfl js (aI _) id rfl du x3 (.map (kH bI (ag l4) u' bA)) ⟨tH,js,bG,pn,EL,x1.ext fg dV,x2.ext fg dV,EK⟩,
         fun m hm=>dV.le (cA hm (mn _ _)) (aI _),.undef _,ig _ _,by simp⟩
       cases bD with
       |none=>
        have af:=qp h4 km gJ 0 eO cO kn;refine fin _ (es.push {key:=ρ k,val:=ρ x,born:=b3}) (b3+1) rfl ?_ ?_ ?_ (cG.push _ _)
        ·unfold Instr.mapUpdate
         simp only[c8,Sem.run_bind,run_underlying hd,Result.andThen_ok,vK gg,rQ h4,tG (C:=C) km af,AF _ gg]
        ·rw[EJ kn]
         simp only[hM,cW,hP,IW];exact eO.append (.cons _ _ _ _ gJ .nil)
        ·rw[EJ kn]
         simp only[hM,cW,hP,IW];exact cO.append (.cons _ _ _ _ bM .nil)
       |some r=>
        obtain⟨j,y,af,-,V9,Wa,Wb⟩:=qp h4 km gJ 0 eO cO kn;obtain⟨s1,s2⟩:=Kz h4 km gJ bM 0 eO cO kn af;rw[dK]at af;refine fin _ (es.modify j fun e=>{e with key:=ρ k,val:=ρ x}) b3 rfl ?_ (by simpa using s1) (by simpa using s2) (cG.modify _ _ _);have Wc:es[j]? =some V9:=by rw[<-fN];exact Wa
        unfold Instr.mapUpdate;simp only[c8,Sem.run_bind,run_underlying hd,Result.andThen_ok,vK gg,rQ h4,tG (C:=C) km af,Wc,lR,sJ,Instr.keyThatStays,Wb,if_true,Sem.run_pure,AF _ gg]
      ·cases he
     ·cases he
    ·cases he
  ·cases he
 ·cases hc
end Go.Abs
