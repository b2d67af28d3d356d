/- Texts of this claim, joined and written short by a program. -/
import Derived.Test.YtdoflpjbdlgciaaGreatDoorP03
import Derived.Laws.Append
import Derived.Test.YtdoflpjbdlgciaaGreatDoorP00
set_option linter.unusedVariables false
set_option linter.unusedSimpArgs false
set_option linter.unusedSectionVars false
namespace Go.Abs
open Go
variable{C:Ctx}{fid:Nat->Nat}{w w':World}{G G':cc}{H:Heap}
variable{vars:List Nat}{ai:aj->V}{ρ:Operand->Value}{low low':Nat}{v:V}{H':Heap}{pos:String}{dq:cS}{o:Oper}
theorem Vl (off:Nat):∀(dj:List Value) (k:Nat) (cells:Array Value),off+k+dj.length<=cells.size->
  ((dj.zipIdx k).foldl (fun(cs:Array Value) (p:Value × Nat)=>cs.setIfInBounds (off+p.2) p.1) cells).toList=cells.toList.take (off+k)++dj++cells.toList.drop (off+k+dj.length)
 |[],k,cells,_=>by simp
 |z::dj,k,cells,h=>by
  simp only[dE]at h;rw[List.zipIdx_cons,xb,Vl off dj (k+1) _ (by simp;omega)];have e:=list_seg_step cells.toList (off+k) z dj (by simp;omega);rw[dE];simpa[Array.toList_setIfInBounds,rl]using e
theorem Vm{place:Nat->Option (Nat × Nat)}{cells:Array Value}{i:Nat}{x:Value}{rest:List (Nat × Value)}{off n:Nat}(hp:place i=some (off,n))(hs:x.cells.size=n)(hS:off+n<=cells.size):
  ∃rE,Instr.fill place cells ((i,x)::rest)=Instr.fill place rE rest/\rE.toList=cells.toList.take off++x.cells.toList++cells.toList.drop (off+x.cells.toList.length):=by
 refine⟨x.cells.zipIdx.foldl (fun cs (c,j)=>cs.setIfInBounds (off+j) c) cells,?_,?_⟩
 ·have:¬(x.cells.size≠n||decide (off+x.cells.size>cells.size))=true:=by simp;omega
  simp only[Instr.fill,hp];rw[if_neg (by simpa using this)]
 ·rw[<-TT,Array.toList_zipIdx]
  have:=Vl off x.cells.toList 0 cells (by simp;omega);simpa using this
theorem Vn{place:Nat->Option (Nat × Nat)}:∀{ps:List (Nat × Value)} {aU:List (Nat × Nat × V)} {cs cs':List V} {cells:Array Value},ps.length=aU.length->
  (∀(j:Nat) p a,ps[j]? =some p->aU[j]? =some a->place p.1=some (a.1,a.2.1)/\bq fid G w a.2.2 p.2)->bk fid G w cs cells.toList->u4 cs aU=some cs'->
  ∃rE,Instr.fill place cells ps=some rE/\bk fid G w cs' rE.toList
 |[],[],cs,cs',cells,_,_,af,h=>by
  simp only[u4,aA]at h;subst h;exact⟨cells,rfl,af⟩
 |[],_::_,_,_,_,hl,_,_,_=>by simp at hl
 | _::_,[],_,_,_,hl,_,_,_=>by simp at hl
 |(i,x)::ps,(off,n,u)::aU,cs,cs',cells,hl,hp,af,h=>by
  simp only[u4]at h;split at h
  ·rename_i hc
   obtain⟨BQ,I4⟩:=hp 0 _ _ rfl rfl;obtain⟨bH,cw⟩:=BL I4 hc.2.2;have h8:=af.length;have jc:=bH.length;have eX:x.cells.size=n:=by rw[<-hJ];simp only at jc;rw[jc,hc.1]
   obtain⟨Oj,ag,e2⟩:=Vm (rest:=ps) BQ eX (by rw[<-hJ,h8];exact hc.2.1);have rF:bk fid G w (setCells cs off (aF u)) Oj.toList:=by rw[e2];exact El off af bH (by rw[hc.1];exact hc.2.1)
   obtain⟨rE,bI,cz⟩:=Vn (by simpa using hl) (fun j p a h1 h2=>hp (j+1) p a (by simpa using h1) (by simpa using h2)) rF h;exact⟨rE,by rw[ag,bI],cz⟩
  ·cases h
theorem ahQ:∀(xs cs:List V),xs.length=cs.length->setCells cs 0 xs=xs:=by
 have key:∀(xs a b:List V),xs.length=b.length->setCells (a++b) a.length xs=a++xs:=by
  intro xs
  induction xs with
  |nil=>intro a b h;cases b<;>simp_all [setCells]
  |cons x xs ih=>
   intro a b h;cases b with
   |nil=>simp at h
   |cons y b=>
    have:=ih (a++[x]) b (by simpa using h);simp only[setCells];simpa using this
 intro xs cs h;simpa using key xs [] cs h
theorem Vo{es:Nat}:∀{ps:List (Nat × Value)} {aU:List (Nat × V)} {ds ds':List V} {cells:Array Value},ps.length=aU.length->
  (∀(j:Nat) p a,ps[j]? =some p->aU[j]? =some a->p.1=a.1/\bq fid G w a.2 p.2)->(∀d∈ds,(aF d).length=es)->bk fid G w (ds.flatMap aF) cells.toList->qw es ds aU=some ds'->
  ∃rE,Instr.fill (fun i=>some (i*es,es)) cells ps=some rE/\bk fid G w (ds'.flatMap aF) rE.toList/\(∀d∈ds',(aF d).length=es)/\ds'.length=ds.length
 |[],[],ds,ds',cells,_,_,hu,af,h=>by
  simp only[qw,aA]at h;subst h;exact⟨cells,rfl,af,hu,rfl⟩
 |[],_::_,_,_,_,hl,_,_,_,_=>by simp at hl
 | _::_,[],_,_,_,hl,_,_,_,_=>by simp at hl
 |(i,x)::ps,(yB,u)::aU,ds,ds',cells,hl,hp,hu,af,h=>by
  simp only[qw]at h;split at h
  ·rename_i hc
   obtain⟨BQ,I4⟩:=hp 0 _ _ rfl rfl;simp only at BQ I4;subst BQ;obtain⟨bH,cw⟩:=BL I4 hc.2.2;have h8:=af.length;have ll:=nc hu;have jc:=bH.length;have eX:x.cells.size=es:=by rw[<-hJ,jc,hc.1]
   have hi:i*es+es<=ds.length*es:=by
    have:(i+1)*es<=ds.length*es:=MY _ hc.2.1;rw[DL]at this;exact this
   obtain⟨Oj,ag,e2⟩:=Vm (place:=fun i=>some (i*es,es)) (cells:=cells) (rest:=ps) (i:=i) rfl eX (by rw[<-hJ,h8];omega);obtain⟨d,hd⟩:∃d,ds[i]? =some d:=⟨_,jI hc.2.1⟩;have tH:=N0 hu hd (d':=u) (f:=0) (xs:=aF u) (by rw[hc.1];omega) (ahQ _ _ (by rw[hc.1,hu d (e0 hd)])).symm;rw[yx]at tH;have rF:bk fid G w ((ds.set i u).flatMap aF) Oj.toList:=by rw[e2,tH];exact El _ af bH (by rw[hc.1];omega)
   obtain⟨rE,bI,cz,dF,hz⟩:=Vo (by simpa using hl) (fun j p a h1 h2=>hp (j+1) p a (by simpa using h1) (by simpa using h2))
    (fun a ao=>by rcases List.mem_or_eq_of_mem_set ao with q|rfl;exact hu a q;exact hc.1) rF h
   exact⟨rE,by rw[ag,bI],cz,dF,by rw[hz];simp⟩
  ·cases h
theorem Vp{α β:Type}(f:α->Sem β)(g:α->β):∀(l:List α),(∀a∈l,∀w,(f a).run C.P w=.ok (g a) w)->(l.mapM f).run C.P w=.ok (l.map g) w
 |[],_=>by simp
 |a::l,h=>by
  rw[List.mapM_cons,Sem.run_bind,h a (by simp),Result.andThen_ok,Sem.run_bind,Vp f g l (fun b hb=>h b (by simp[hb])),Result.andThen_ok,Sem.run_pure];rfl
theorem ahR{α β:Type}(f:α->Sem β)(g:α->β)(l:Array α)(h:∀a∈l.toList,∀w,(f a).run C.P w=.ok (g a) w):(l.mapM f).run C.P w=.ok (l.map g) w:=by
 rw[Array.mapM_eq_mapM_toList,Sem.run_map,Vp f g _ h,Result.andThen_ok];congr 1;apply Array.ext';simp
theorem Ev{t:TypeId}{z:List V}(aI:C.zeroCells t=some z):∃cC,(∀w,(zeroValue t).run C.P w=.ok cC w)/\(∀(G:cc) (w:World),bk fid G w z cC.cells.toList)/\bX z=true/\
  ∃i,C.P.info? t=some i/\i.zero=some cC:=by
 unfold Ctx.zeroCells at aI;split at aI
 ·rename_i i hi
  split at aI
  ·rename_i cC BM
   split at aI
   ·rename_i vs c3
    split at aI
    ·rename_i aZ
     simp only[aA]at aI;subst aI;refine⟨cC,fun w=> ?_,fun G w=>dn.oP (Ei _ c3),aZ,i,hi,BM⟩;simp only[zeroValue,Sem.run_bind,run_typeInfo (P:=C.P) w hi,Result.andThen_ok,BM,Sem.run_pure]
    ·cases aI
   ·cases aI
  ·cases aI
 ·cases aI
theorem vn{α β:Type}(f:α->Option β):∀{l:List α} {r:List β},ee f l=some r->r.length=l.length
 |[],_,h=>by simp only[ee,aA]at h;subst h;rfl
 |a::l,_,h=>by
  simp only[ee]at h;split at h
  ·split at h
   ·rename_i aJ Ew
    simp only[aA]at h;subst h;simp[vn f Ew]
   ·cases h
  ·cases h
theorem vo{α β:Type}(f:α->Option β):∀{l:List α} {r:List β},ee f l=some r->∀{j:Nat} {a:α} {b:β},l[j]? =some a->r[j]? =some b->f a=some b
 |[],_,h,j,a,b,h1,_=>by simp at h1
 |a::l,_,h,j,bl,e3,h1,h2=>by
  simp only[ee]at h;split at h
  ·rename_i b hb
   split at h
   ·rename_i aJ Ew
    simp only[aA]at h;subst h;cases j with
    |zero=>simp at h1 h2;subst h1;subst h2;exact hb
    |succ j=>exact vo f Ew (by simpa using h1) (by simpa using h2)
   ·cases h
  ·cases h
theorem ahS (aa:bf C fid G H w)(aR:fC C fid vars G w ai ρ){t:TypeId}{parts:Array (Nat × Operand)}(ho:o.op=.build t parts)(hc:C.cY vars pos o.op=some dq)(he:step ai H low dq=some (v,H',low')):
  df C fid G H w low ((execOp ρ o).run C.P w) v H' low':=by
 rw[ho]at hc
 have cn:(execOp ρ o).run C.P w=((Instr.build t (parts.map fun(i,x)=>(i,ρ x))).run C.P w).andThen fun z w'=>.ok (.value z) w':=by
  unfold execOp;rw[ho];simp only[Sem.run_bind];rfl
 have main:∀(z:List V) (ap:List (Nat × Nat × aj)) (place:Nat->Option (Nat × Nat)),C.zeroCells t=some z->ap.length=parts.toList.length->
   (∀(j:Nat) p a,parts.toList[j]? =some p->ap[j]? =some a->place p.1=some (a.1,a.2.1)/\C.ch vars p.2=some a.2.2)->
   (∀(cC:Value) (w:World),(∀w,(zeroValue t).run C.P w=.ok cC w)->∀cells,Instr.fill place cC.cells (parts.toList.map fun(i,x)=>(i,ρ x))=some cells->
     (Instr.build t (parts.map fun(i,x)=>(i,ρ x))).run C.P w=.ok (.agg cells) w)->
   step ai H low (.build z ap)=some (v,H',low')->df C fid G H w low ((execOp ρ o).run C.P w) v H' low':=by
  intro z ap place aI hlen kh hb he;obtain⟨cC,oc,od,aZ,-⟩:=Ev (fid:=fid) aI;simp only[step]at he;obtain⟨cs,fa,he⟩:=cG.1 he;simp only[bC]at he;obtain⟨rfl,rfl,rfl⟩:=he
  obtain⟨cells,ag,e2⟩:=Vn (fid:=fid) (G:=G) (w:=w) (place:=place) (ps:=parts.toList.map fun(i,x)=>(i,ρ x)) (aU:=ap.map fun p=>(p.1,p.2.1,ai p.2.2))
   (by simp[hlen]) (fun j p a h1 h2=>by
     simp only[kR,cG]at h1 h2;obtain⟨Ex,pQ,rfl⟩:=h1;obtain⟨bl,gU,rfl⟩:=h2;exact⟨(kh j Ex bl pQ gU).1,aR _ _ (kh j Ex bl pQ gU).2⟩) (od G w) fa
  refine df.same aa (x:=.agg cells) ?_ (.agg _ cells.toList e2);rw[cn,hb cC w oc cells ag];rfl
 simp only[Ctx.cY]at hc;split at hc
 ·rename_i fs z hd aI
  split at hc
  ·cases hc
  ·rename_i eD
   obtain⟨ap,mr,rfl⟩:=cG.1 hc
   have ea:∀f∈fs.toList,∃n,C.sizeOf f.type=some n:=by
    intro f ae;cases bj:C.sizeOf f.type with
    |some n=>exact⟨n,rfl⟩
    |none=>exact absurd (sd.2 ⟨f,ae,by simp[bj]⟩) eD
   refine main z ap (fun i=>(fs.map fun f=>(f.offset,(C.sizeOf f.type).getD 0))[i]?) aI (vn _ mr) ?_ ?_ he
   ·intro j p a h1 h2
    have:=vo _ mr h1 h2;split at this
    ·rename_i f ae
     split at this
     ·rename_i n x hn hx
      simp only[aA]at this;subst this;refine⟨?_,hx⟩;simp only[Array.getElem?_map,ae,tz,hn,w8]
     ·cases this
    ·cases this
   ·intro cC w oc cells Ok
    have hm:=ahR (C:=C) (w:=w) (fun(f:Field)=>(do pure (f.offset,<-Go.sizeOf f.type):Sem (Nat × Nat))) (fun f=>(f.offset,(C.sizeOf f.type).getD 0)) fs (fun f ae w=>by
     obtain⟨n,hn⟩:=ea f ae;simp only[Sem.run_bind,yQ (C:=C) hn,Result.andThen_ok,Sem.run_pure,hn,w8])
    have kh:(parts.map fun(i,x)=>(i,ρ x)).toList=parts.toList.map fun(i,x)=>(i,ρ x):=by simp
    unfold Instr.build;simp only[Sem.run_bind,oc,run_underlying hd,Result.andThen_ok,hm,kh,Ok,Sem.run_pure]
 ·rename_i n e z hd aI
  split at hc
  ·rename_i mn hs
   obtain⟨ap,mr,rfl⟩:=cG.1 hc;refine main z ap (fun i=>some (i*mn,mn)) aI (vn _ mr) ?_ ?_ he
   ·intro j p a h1 h2
    have:=vo _ mr h1 h2;split at this
    ·rename_i x hx
     simp only[aA]at this;subst this;exact⟨rfl,hx⟩
    ·cases this
   ·intro cC w oc cells Ok
    have kh:(parts.map fun(i,x)=>(i,ρ x)).toList=parts.toList.map fun(i,x)=>(i,ρ x):=by simp
    unfold Instr.build;simp only[Sem.run_bind,oc,run_underlying hd,Result.andThen_ok,yQ (C:=C) hs,kh,Ok,Sem.run_pure]
  ·cases hc
 ·cases hc
end Go.Abs
namespace Go.Abs
open Go
variable{C:Ctx}{fid:Nat->Nat}{w w':World}{G G':cc}{H:Heap}
variable{vars:List Nat}{ai:aj->V}{ρ:Operand->Value}{low low':Nat}{v:V}{H':Heap}{pos:String}{dq:cS}{o:Oper}
theorem bf.rG (aa:bf C fid G H w)(a1:Obj)(p:Prop):bf C fid ⟨G.β,fun b=>G.I b\/(b=w.heap.size/\p)⟩ H (w.alloc a1) where
 obj l h hb:=by
  obtain⟨o,ho,hr⟩:=aa.obj l h hb;exact⟨o,ho,jQ.mono (G:=G) (G':=⟨G.β,fun b=>G.I b\/(b=w.heap.size/\p)⟩) (mj.refl _) (fun b (hi:G.I b)=>⟨.inl hi,alloc_old (aa.dd b hi).1⟩) (alloc_old (aa.blk l h hb)) hr⟩
 inj:=aa.inj
 blk l h hb:=by rw[World.size_alloc];have:=aa.blk l h hb;omega
 dd b hi:=by
  rw[World.size_alloc];rcases hi with hi|⟨rfl,-⟩
  ·exact⟨by have:=(aa.dd b hi).1;omega,(aa.dd b hi).2⟩
  ·exact⟨by omega,fun l h hb q=>by have:=aa.blk l h hb;omega⟩
 kX l h hb ae:=.inl (aa.kX l h hb ae)
 fG b o bx:=⟨.inl (aa.fG b o bx).1,by rw[alloc_old (aa.dd b (aa.fG b o bx).1).1];exact(aa.fG b o bx).2⟩
theorem Ext.rG (a1:Obj)(p:Prop)(m n:Nat):Ext G w ⟨G.β,fun b=>G.I b\/(b=w.heap.size/\p)⟩ (w.alloc a1) m n where
 size:=by simp
 os:=rfl
 output:=rfl
 ey b hb _:=alloc_old hb
 homes:=.refl _
 n7 l h hb:=.inl ⟨h,hb,.inl rfl⟩
 dd _ h:=.inl h
 oR b hi:=by
  rcases hi with hi|⟨rfl,-⟩
  ·exact .inl hi
  ·exact .inr (.inl (aM _))
theorem Vq{z:List V}(h:bX z=true):aF (lJ z)=z:=by
 unfold lJ;split
 ·rename_i x
  simp only[bX,u0]at h;cases x<;>first|rfl|simp[eH]at h
 ·rfl
theorem I5{z:List V}{cC:Array Value}(aI:bk fid G w z cC.toList)(aZ:bX z=true)(jb:0<cC.size):∀(n:Nat),
  bk fid G w ((List.replicate n (lJ z)).flatMap aF) ((List.range (n*cC.size)).map fun i=>cC[i%cC.size]!)
 |0=>by simpa using bk.nil
 |n+1=>by
  have ih:=I5 aI aZ jb n;have ag:(n+1)*cC.size=cC.size+n*cC.size:=by rw[DL,Nat.add_comm]
  rw[DG,lH,Vq aZ,ag,List.range_add,lh,sf]
  have e2:(List.range cC.size).map (fun i=>cC[i%cC.size]!)=cC.toList:=by
   apply yp;intro j;simp only[kR];by_cases hj:j<cC.size
   ·rw[List.getElem?_range hj]
    simp[Nat.mod_eq_of_lt hj,hj]
   ·rw[nt (by simpa using hj),nt (by simpa using hj)];rfl
  have bI:((fun i=>cC[i%cC.size]!) ∘ (cC.size+ ·))=fun i=>cC[i%cC.size]! :=by
   funext i;simp
  rw[e2,bI];exact aI.append ih
theorem Ol{z:List V}(aZ:bX z=true){n k:Nat}(ah:z.length=k):∀d∈List.replicate n (lJ z),(aF d).length=k:=by
 intro d hd;rw[(List.mem_replicate.1 hd).2,Vq aZ,ah]
theorem Om (aa:bf C fid G H w){es:Nat}{ds:List V}{c:Array Value}{vals rest:List Value}{e:TypeId}(fc:0<es)(hn:0<ds.length)(hu:∀d∈ds,(aF d).length=es)(hc:c.toList=vals++rest)
  (af:bk fid G w (ds.flatMap aF) vals):
  jQ C fid ⟨cA G.β H.length ⟨w.heap.size,ds.length,c.size,false⟩,G.I⟩ (w.alloc (.cells c e)) ⟨w.heap.size,ds.length,c.size,false⟩ (.row es ds false):=
 ⟨rfl,hn,rfl,fc,hu,c,e,vals,rest,ml _ _,rfl,hc,af.ext aa (Ext.push aa _ ds.length c.size 0)⟩
theorem ahT (aa:bf C fid G H w)(aR:fC C fid vars G w ai ρ){t:TypeId}{len:Nat}{parts:Array (Nat × Operand)}(ho:o.op=.buildSlice t len parts)(hc:C.cY vars pos o.op=some dq)(he:step ai H low dq=some (v,H',low')):
  df C fid G H w low ((execOp ρ o).run C.P w) v H' low':=by
 rw[ho]at hc
 have cn:(execOp ρ o).run C.P w=((Instr.buildSlice t len (parts.map fun(i,x)=>(i,ρ x))).run C.P w).andThen fun z w'=>.ok (.value z) w':=by
  unfold execOp;rw[ho];simp only[Sem.run_bind];rfl
 simp only[Ctx.cY]at hc;split at hc
 ·rename_i e hd
  split at hc
  ·rename_i n z ap hn aI mr
   split at hc
   ·cases hc
   ·rename_i ev
    simp only[not_or,Nat.not_lt,ne_eq,Classical.not_not]at ev;obtain⟨oa,aAD,ss⟩:=ev;obtain⟨jM,rfl⟩:∃jM,dq=.lit n z len ap jM:=⟨_,(yv hc).symm⟩;obtain⟨cC,oc,od,aZ,-⟩:=Ev (fid:=fid) aI;have hlen:=vn _ mr;have yS:cC.cells.size=n:=by rw[<-hJ,(od G w).length,ss]
    simp only[step]at he;split at he
    ·rename_i vs H1 bS ae
     have ahU:bk fid G w (ap.map fun p=>ai p.2) (parts.toList.map fun p=>ρ p.2):=by
      refine bk.agN (by simp[hlen]) (fun j a x h1 h2=> ?_);simp only[kR,cG]at h1 h2;obtain⟨bl,gU,rfl⟩:=h1;obtain⟨Ex,pQ,rfl⟩:=h2;have:=vo _ mr pQ gU;obtain⟨cJ,hx,rfl⟩:=cG.1 this;exact aR _ _ hx
     obtain⟨az,f1,ct⟩:=NV aa ahU ae;have ahV:vs.length=ap.length:=by have:=ct.length;simp only[jn]at this;omega
     split at he
     ·rename_i ds tH
      have ahW:((parts.map fun(i,x)=>(i,ρ x)).toList)=parts.toList.map fun(i,x)=>(i,ρ x):=by simp
      have ahX:bk fid az w ((List.replicate len (lJ z)).flatMap aF) (((Array.range (len*n)).map fun i=>(if len*n=0 then #[]else cC.cells)[i%(if len*n=0 then #[]else cC.cells:Array Value).size]!).toList):=by
       by_cases qE:len=0
       ·subst qE;simpa using bk.nil
       ·have h0:len*n≠0:=Nat.mul_ne_zero qE oa
        have:=I5 (od az w) aZ (by omega) len;rw[yS]at this;simpa[h0,yS]using this
      obtain⟨cells,ag,e2,bI,cz⟩:=Vo (fid:=fid) (G:=az) (w:=w) (es:=n) (ps:=parts.toList.map fun(i,x)=>(i,ρ x)) (aU:=(ap.zip vs).map fun(p,v)=>(p.1,v))
       (by simp[hlen,ahV]) (fun j p a h1 h2=>by
         simp only[kR,cG]at h1 h2;obtain⟨Ex,pQ,rfl⟩:=h1;obtain⟨⟨bl,v'⟩,gU,rfl⟩:=h2;rw[Bc]at gU;have:=vo _ mr pQ gU.1;obtain⟨cJ,hx,rfl⟩:=cG.1 this;refine⟨rfl,?_⟩;obtain⟨y,hy,fx⟩:=ct.get gU.2;simp only[kR,pQ,tz,aA]at hy;subst hy;exact fx) (Ol aZ ss) ahX tH
      rw[w6]at cz
      have hb:(Instr.buildSlice t len (parts.map fun(i,x)=>(i,ρ x))).run C.P w=.ok (.slice (some ⟨w.heap.size,0,none⟩) len len) (w.alloc (.cells cells e)):=by
       unfold Instr.buildSlice;have hl:¬len*n>2^24:=by omega
       simp only[Sem.run_bind,run_underlying hd,Result.andThen_ok,yQ (C:=C) hn,hl,if_false,ahW];by_cases h0:len*n=0
       ·simp only[h0,if_true]at ag⊢
        simp only[Sem.run_bind,Sem.run_pure,Result.andThen_ok,ag,newRow,run_newObj,World.alloc_eq]
       ·simp only[h0,if_false]at ag⊢
        simp only[Sem.run_bind,Sem.run_pure,Result.andThen_ok,oc,ag,newRow,run_newObj,World.alloc_eq]
      have hval:(execOp ρ o).run C.P w=.ok (.value (.slice (some ⟨w.heap.size,0,none⟩) len len)) (w.alloc (.cells cells e)):=by rw[cn,hb];rfl
      have fc:0<n:=M4 oa;have emp:df C fid G H w low ((execOp ρ o).run C.P w) .emp H1 bS->True:=fun _=>trivial
      have Vr:len=0->df C fid G H w low ((execOp ρ o).run C.P w) .emp H1 bS:=by
       intro h0;refine df.BJ f1 ⟨_,_,_,.inl hval,f1.rel.rG _ False,fun m _=>Ext.rG _ _ _ _,?_,aM _,aM _⟩;subst h0;exact .p _ _ (.emp _)
      split at he
      ·split at he
       ·rename_i aAE hp
        by_cases h0:len=0
        ·simp only[h0,if_true,aA,bC]at he
         obtain⟨rfl,rfl,rfl⟩:=he;exact Vr h0
        ·simp only[h0,if_false,aA,bC]at he
         obtain⟨rfl,rfl,rfl⟩:=he;refine df.BJ f1 ⟨_,_,⟨az.β,fun b=>az.I b\/(b=w.heap.size/\True)⟩,.inl hval,f1.rel.rG _ True,fun m _=>Ext.rG _ _ _ _,?_,aM _,aM _⟩;have hx:=Ext.rG (G:=az) (w:=w) (.cells cells e) True 0 H1.length
         have key:=fW.list (w:=w.alloc (.cells cells e)) (I:=fun b=>az.I b\/(b=w.heap.size/\True)) n ds w.heap.size 0 len cells.toList (.inr ⟨rfl,trivial⟩)
          (iv.va (rest:=[]) (ml _ _) (by simp)) bI ((e2.ext f1.rel hx).pM (IQ hp)) (by omega)
         rw[cz]at key;exact .p _ _ key
       ·cases he
      ·split at he
       ·rename_i h0
        simp only[aA,bC]at he;obtain⟨rfl,rfl,rfl⟩:=he;exact Vr h0
       ·rename_i h0
        simp only[aA,bC]at he;obtain⟨rfl,rfl,rfl⟩:=he
        have oW:cells.size=len*n:=by
         rw[<-hJ,e2.length,nc bI,cz]
        refine df.BJ f1 (df.alloc f1.rel ds.length cells.size hval (Om f1.rel fc (by omega) bI (rest:=[]) (by simp) e2) ?_);refine .b7 _ n 0 len len ⟨w.heap.size,ds.length,cells.size,false⟩ _ _ _ (du _ _ _) (by simp only;omega) (fun _=>⟨by simp,rfl,?_,aM _⟩);rw[oW,er];exact aM _
     ·cases he
    ·cases he
  ·cases hc
 ·cases hc
end Go.Abs
namespace Go.Abs
open Go
variable{C:Ctx}{fid:Nat->Nat}{w w':World}{G G':cc}{H:Heap}
variable{vars:List Nat}{ai:aj->V}{ρ:Operand->Value}{low low':Nat}{v:V}{H':Heap}{pos:String}{dq:cS}{o:Oper}
theorem Vs{n:Int}(h0:0<=n)(h:n<=1099511627776):IntKind.i64.wrap n=n:=by
 have e:n%(2^IntKind.i64.bits:Int)=n:=Int.emod_eq_of_lt h0 (by show n<(2^64:Int);omega);unfold IntKind.wrap;rw[e];have:¬(n>=(2^(IntKind.i64.bits-1):Int)):=by show ¬n>=(2^63:Int);omega
 simp[this]
theorem ahY (aa:bf C fid G H w)(aR:fC C fid vars G w ai ρ){t:TypeId}{l c:Operand}(ho:o.op=.makeSlice t l c)(hc:C.cY vars pos o.op=some dq)(he:step ai H low dq=some (v,H',low')):
  df C fid G H w low ((execOp ρ o).run C.P w) v H' low':=by
 rw[ho]at hc;simp only[Ctx.cY]at hc;split at hc
 ·rename_i e hd
  split at hc
  ·rename_i i z mu ac hi aI h1 h2
   split at hc
   ·cases hc
   ·rename_i ev
    simp only[not_or,ne_eq,Classical.not_not]at ev;simp only[aA]at hc;subst hc;obtain⟨cC,oc,od,aZ,-⟩:=Ev (fid:=fid) aI;have yS:cC.cells.size=i.size:=by rw[<-hJ,(od G w).length,ev.2]
    have hl:=aR l mu h1;have vf:=aR c ac h2;simp only[step]at he;split at he
    ·rename_i k n bE m ag e2
     split at he
     ·rename_i hb
      obtain⟨rfl,oa,hbound⟩:=hb;rw[ag]at hl;rw[e2]at vf;obtain⟨j,rfl⟩:=DF oa
      have oe:j<=1099511627776:=by
       have:(j:Int)*1<=(j:Int)*((i.bytes:Int)+1):=Int.mul_le_mul_of_nonneg_left (by omega) oa;omega
      have qF:(i.bytes:Int)*(j:Int)<=1099511627776:=by
       have:(j:Int)*((i.bytes:Int)+1)=(i.bytes:Int)*(j:Int)+j:=by rw[Int.mul_add,Int.mul_comm];omega
       omega
      have hw:=Vs oa (by omega:(j:Int)<=1099511627776);have jb:0<i.size:=M4 ev.1
      have cn:∃cells,(execOp ρ o).run C.P w=.ok (.value (.slice (some ⟨w.heap.size,0,none⟩) j j)) (w.alloc (.cells cells e))/\cells.toList=(List.range (j*i.size)).map (fun q=>cC.cells[q%cC.cells.size]!):=by
       refine⟨(Array.range (j*i.size)).map (fun q=>(if j*i.size=0 then #[]else cC.cells:Array Value)[q%(if j*i.size=0 then #[]else cC.cells:Array Value).size]!),?_,?_⟩
       ·unfold execOp;rw[ho]
        have qG:¬((decide ((j:Int)<0)||decide ((i.bytes:Int)*(j:Int)>2^48))=true):=by simp;omega
        have oT:¬((decide ((j:Int)<0)||decide ((i.bytes:Int)*(j:Int)>2^48)||decide ((j:Int)<0)||decide ((j:Int)>(j:Int)))=true):=by simp;omega
        simp only[hl.kf,vf.kf,Instr.makeSlice,asInt,asIntOf,Sem.run_bind,Sem.run_pure,Result.andThen_ok,run_underlying hd,run_typeInfo (P:=C.P) w hi,hw];rw[if_neg (by simpa using oT)];simp only[Sem.run_bind,run_askRoom,Result.andThen_ok,sizeOf,run_typeInfo (P:=C.P) w hi,Sem.run_pure,Bf];by_cases h0:j*i.size=0
        ·simp only[h0,if_true,Sem.run_bind,Sem.run_pure,Result.andThen_ok,newRow,run_newObj,World.alloc_eq]
        ·simp only[h0,if_false,Sem.run_bind,Sem.run_pure,Result.andThen_ok,oc,newRow,run_newObj,World.alloc_eq]
       ·by_cases h0:j*i.size=0
        ·simp[h0]
        ·simp[h0]
      obtain⟨cells,cn,h8⟩:=cn;split at he
      ·rename_i I6
       simp only[aA,bC]at he;obtain⟨rfl,rfl,rfl⟩:=he;obtain rfl:j=0:=by omega
       exact⟨_,_,_,.inl cn,aa.rG _ False,fun m _=>Ext.rG _ _ _ _,.p _ _ (.emp _),aM _,aM _⟩
      ·rename_i I6
       simp only[aA,bC,Bf]at he;obtain⟨rfl,rfl,rfl⟩:=he;have qH:=I5 (od G w) aZ (by omega) j;rw[yS]at qH h8;rw[<-h8]at qH;have hu:=Ol aZ (n:=j) ev.2;have fa:cells.size=j*i.size:=by rw[<-hJ,qH.length,nc hu,w6]
       refine df.alloc aa (List.replicate j (lJ z)).length cells.size cn (Om aa jb (by simp;omega) hu (rest:=[]) (by simp) qH) ?_;refine .b7 _ _ 0 j j ⟨w.heap.size,(List.replicate j (lJ z)).length,cells.size,false⟩ _ _ _ (du _ _ _) (by simp) (fun _=>⟨by simp,rfl,?_,aM _⟩);rw[fa,er];exact aM _
     ·cases he
    ·cases he
  ·cases hc
 ·cases hc
theorem Ey (aa:bf C fid G H w){es:Nat}{a:V}{xs:List V}{x:Value}(ao:bq fid G w a x)(he:elems H es a=some xs):
  ∃dh cap,x=.slice dh xs.length cap/\(xs≠[]->∃b off vals,dh=some ⟨b,off,none⟩/\iv w b off vals/\bk fid G w (xs.flatMap aF) vals/\∀d∈xs,(aF d).length=es):=by
 unfold elems at he;split at he
 ·simp only[aA]at he;subst he
  exact⟨none,0,ao.js,fun h=>absurd rfl h⟩
 ·simp only[aA]at he;subst he
  obtain⟨dh,hx⟩:=ao.rB;exact⟨some dh,0,hx,fun h=>absurd rfl h⟩
 ·split at he
  ·rename_i fc
   simp only[aA]at he;subst he;subst fc;obtain⟨dh,cap,hx,-,bj⟩:=ao.xp;refine⟨some dh,cap,hx,fun bu=> ?_⟩;rcases bj with rfl|⟨b,off,vals,rfl,a7,hc,hu,hr⟩
   ·exact absurd rfl bu
   ·exact⟨b,off,vals,rfl,hc,hr.oP,hu⟩
  ·cases he
 ·rename_i l bN off len tag
  split at he
  ·rename_i fl ds ej hl
   split at he
   ·rename_i ev
    obtain⟨rfl,rfl,fX,pP⟩:=ev;simp only[aA]at he;subst he;obtain⟨h0,dh,cQ,cap,c6,qB,iG,dU⟩:=ao.oV;obtain⟨a1,eO,hr⟩:=aa.obj l h0 c6;rw[hl]at eO;cases eO;obtain⟨ht,jb,ae,fc,hu,c,e,vals,rest,hc,fa,af,fx⟩:=hr;obtain⟨rfl,rfl,-,-⟩:=iG (ht.trans fX);have hlen:((ds.drop off).take cQ).length=cQ:=by simp;omega
    rw[hlen];refine⟨_,cap,dU,fun _=>⟨h0.b,off*fl,(vals.drop (off*fl)).take (cQ*fl),rfl,?_,?_,fun d hd=>hu d (HV (Be hd))⟩⟩
    ·have:=((iv.va hc af).drop (off*fl)).take (cQ*fl)
     rwa [er]at this
    ·have mm:∀d∈ds.drop off,(aF d).length=fl:=fun d hd=>hu d (HV hd)
     rw[BG mm,yJ hu];exact(fx.drop _).take _
   ·cases he
  ·cases he
 ·cases he
theorem Ez{size n cap:Nat}{b off:Nat}{vals:List Value}(hc:iv w b off vals)(hl:vals.length=n*size):
  (Builtin.firstCells size n (.slice (some ⟨b,off,none⟩) n cap)).run C.P w=.ok vals.toArray w:=by
 have:=run_loadCells_list (P:=C.P) w ⟨b,off,none⟩ vals (fun j v hj=>by rw[Addr.add_lit];exact hc j v hj);rw[hl]at this;exact this
theorem Vt:∀{vs vs':List V} {xs:List Value} {G:cc} {H H':Heap} {low low':Nat},bf C fid G H w->bk fid G w (vs.flatMap aF) xs->e4 H low vs=some (vs',H',low')->
  ∃G',lK C fid G H w low G' H' low'/\bk fid G' w (vs'.flatMap aF) xs/\vs'.length=vs.length/\∀es,(∀d∈vs,(aF d).length=es)->∀d∈vs',(aF d).length=es
 |[],_,_,G,H,H',low,low',aa,h,he=>by
  simp only[e4,aA,bC]at he;obtain⟨rfl,rfl,rfl⟩:=he;exact⟨G,.refl aa _,h,rfl,fun _ h=>h⟩
 |v::r,_,xs,G,H,H',low,low',aa,h,he=>by
  simp only[e4]at he;split at he
  ·rename_i v1 H1 bS h1
   split at he
   ·rename_i cw H2 dM h2
    simp only[aA,bC]at he;obtain⟨rfl,rfl,rfl⟩:=he;rw[lH]at h;obtain⟨cL,dj,rfl,hy,aI⟩:=h.split;obtain⟨az,f1,ct,ck⟩:=agV aa hy h1;obtain⟨bD,f2,dN,kY,qA⟩:=Vt f1.rel (aI.ext aa (f1.ext 0 (cI _))) h2;refine⟨bD,f1.trans f2,?_,by simp[kY],fun es hu d hd=> ?_⟩
    ·rw[lH];exact(ct.ext f1.rel (f2.ext 0 (cI _))).append dN
    ·rcases dL.1 hd with rfl|hd
     ·rw[ck];exact hu v (by simp)
     ·exact qA es (fun d hd=>hu d (by simp[hd])) d hd
   ·cases he
  ·cases he
end Go.Abs
namespace Go.Abs
open Go
variable{C:Ctx}{fid:Nat->Nat}{w w':World}{G G':cc}{H:Heap}
variable{vars:List Nat}{ai:aj->V}{ρ:Operand->Value}{low low':Nat}{v:V}{H':Heap}{pos:String}{dq:cS}{o:Oper}
theorem On{P:Program}{t u ty e e':TypeId}{i:TypeInfo}(hd:P.underlying t=some (.slice e))(hu:P.underlying u=some (.slice e'))(hi:P.info? e=some i){base ki:Option Addr}{sLen sCap n tJ:Nat}{news:List Value}
  (hx:(Builtin.firstCells i.size n (.slice ki n tJ)).run P w=.ok news.toArray w) (hS:sLen+n<=sCap):
  (Builtin.append_ #[t,u] ty #[.slice base sLen sCap,.slice ki n tJ]).run P w=
    ((match base with|some a=>storeCells (a.add (sLen*i.size)) news|none=>pure ()).run P w).andThen fun _ w'=>.ok (.slice base (sLen+n) sCap) w':=by
 cases base with
 |none=>simp[Builtin.append_,run_underlying hd,run_underlying hu,sizeOf,typeInfo,hi,Builtin.lenOf,hS,hx]
 |some a=>simp[Builtin.append_,run_underlying hd,run_underlying hu,sizeOf,typeInfo,hi,Builtin.lenOf,hS,hx]
theorem Oo{P:Program}{t u ty e e':TypeId}{i:TypeInfo}{cC:Value}(hd:P.underlying t=some (.slice e))(hu:P.underlying u=some (.slice e'))(hi:P.info? e=some i)(aI:i.zero=some cC)
  {base ki:Option Addr} {sLen sCap n tJ:Nat} {olds news:List Value}
  (hx:(Builtin.firstCells i.size n (.slice ki n tJ)).run P w.drew=.ok news.toArray w.drew) (ho:(Builtin.firstCells i.size sLen (.slice base sLen sCap)).run P w.drew=.ok olds.toArray w.drew)
  (hS:sCap<sLen+n) (hb:(sLen+n)*(i.bytes+1)<=1099511627776):
  ∃gw,sLen+n<=gw/\(Builtin.append_ #[t,u] ty #[.slice base sLen sCap,.slice ki n tJ]).run P w=
   .ok (.slice (some ⟨w.heap.size,0,none⟩) (sLen+n) gw) (w.drew.alloc (.cells (olds.toArray++news.toArray++Builtin.zeroCells cC.cells (gw-(sLen+n))) e)):=by
 have h1:¬sLen+n<=sCap:=by omega
 have hm:(sLen+n)*i.bytes+(sLen+n)=(sLen+n)*(i.bytes+1):=by rw[Nat.mul_succ]
 have h2:¬(((sLen+n:Nat):Int)>9223372036854775807):=by omega
 have av:=growslice_fits (need:=sLen+n) (old:=sCap) (bytes:=i.bytes) hS (by omega);have bc:¬(281474976710656<Builtin.nextslicecap (sLen+n) sCap*i.bytes):=by omega
 refine⟨sLen+n+(w.tape w.drawn (.appendCap (sLen+n) sCap e))%(9223372036854775808-(sLen+n)),M7 _ _,?_⟩;have xr:¬(9223372036854775807<(sLen:Int)+(n:Int)):=by omega
 simp[Builtin.append_,run_underlying hd,run_underlying hu,sizeOf,typeInfo,hi,Builtin.lenOf,h1,xr,bc,Question.forced,Question.cut,hx,ho,zeroValue,aI,newRow];congr 2;apply Array.ext';simp
theorem BR (z:Array Value)(n:Nat):(Builtin.zeroCells z n).size=n*z.size:=by simp[Builtin.zeroCells]
theorem Vu{xs:List V}{vals:List Value}(h:bk fid G w xs vals)(hc:bX xs=true):∀x∈vals,x.oneCell'=true:=IZ h hc
theorem df.newRow (aa:bf C fid G H w){low:Nat}{r:Result Next}{es:Nat}{ds:List V}{c:Array Value}{vals rest:List Value}{e:TypeId}{cap:Nat}(fc:0<es)(hn:0<ds.length)(hu:∀d∈ds,(aF d).length=es)
  (hc:c.toList=vals++rest) (af:bk fid G w (ds.flatMap aF) vals) (fb:cap*es<=c.size) (hle:ds.length<=cap)
  (hr:r=.ok (.value (.slice (some ⟨w.heap.size,0,none⟩) ds.length cap)) (w.drew.alloc (.cells c e))):
  df C fid G H w low r (.b7 H.length es 0 ds.length ds.length) (H++[.row es ds false]) low:=by
 have kj:bf C fid G H w.drew:=aa.jR rfl;have dw:∀m n,Ext G w G w.drew m n:=fun m n=>Ext.jR (w:=w) (w':=w.drew) rfl rfl rfl m n;have NZ:=af.ext aa (dw 0 0);refine⟨_,_,⟨cA G.β H.length ⟨w.drew.heap.size,ds.length,c.size,false⟩,G.I⟩,.inl hr,kj.push _ _ ds.length c.size (Om kj fc hn hu hc NZ),fun m _=>(dw m H.length).trans (Ext.push kj _ _ _ m),?_,aM _,by simp⟩;exact .b7 _ es 0 _ _ ⟨w.drew.heap.size,ds.length,c.size,false⟩ _ _ _ (du _ _ _) (aM _) (fun _=>⟨by simp,rfl,by rw[er];exact fb,hle⟩)
theorem ahZ (aa:bf C fid G H w)(aR:fC C fid vars G w ai ρ){a b:Operand}{t u e e':TypeId}{i:TypeInfo}{cC:Value}{args:Array Operand}{ts:Array TypeId}(ho:o.op=.call {callee:=.builtin .append,args,argTypes:=ts})
  (ao:args= #[a,b]) (ht:ts= #[t,u]) {kk hU:aj} (h1:C.ch vars a=some kk) (h2:C.ch vars b=some hU) (hd:C.P.underlying t=some (.slice e)) (hu:C.P.underlying u=some (.slice e')) (hi:C.P.info? e=some i)
  (aI:i.zero=some cC) (o0:cC.cells.size=i.size) (jb:0<i.size) (he:step ai H low (.append i.size i.bytes kk hU)=some (v,H',low')):df C fid G H w low ((execOp ρ o).run C.P w) v H' low':=by
 subst ao;subst ht;have hx:=aR a kk h1;have hy:=aR b hU h2
 have cn:(execOp ρ o).run C.P w=((Builtin.append_ #[t,u] o.type #[ρ a,ρ b]).run C.P w).andThen fun z w'=>.ok (.value z) w':=by
  rw[vm ho];simp only[builtin,Sem.run_bind,DJ,eG,me];rfl
 simp only[step]at he;split at he
 ·rename_i xs eX
  obtain⟨tK,BS,yT,BT⟩:=Ey aa hy eX;split at he
  ·rename_i e6 H1 bS ae
   have news:∃vals az,lK C fid G H w low az H1 bS/\bk fid az w (e6.flatMap aF) vals/\e6.length=xs.length/\(∀d∈e6,(aF d).length=i.size)/\
     ∀gv,gv.heap=w.heap->(Builtin.firstCells i.size xs.length (.slice tK xs.length BS)).run C.P gv=.ok vals.toArray gv:=by
    by_cases bu:xs=[]
    ·subst bu
     simp only[e4,aA,bC]at ae;obtain⟨rfl,rfl,rfl⟩:=ae;refine⟨[],G,.refl aa _,.nil,rfl,by simp,fun gv _=> ?_⟩;cases tK with
     |none=>simp[Builtin.firstCells]
     |some dh=>simp[Builtin.firstCells,loadCells,loadCellsFrom]
    ·obtain⟨yR,off,vals,rfl,ve,fx,mm⟩:=BT bu
     obtain⟨az,f1,ct,ck,kD⟩:=Vt aa fx ae;refine⟨vals,az,f1,ct,ck,kD _ mm,fun gv hw=> ?_⟩;exact Ez (fun j x hj=>by rw[NG (w:=w) (w':=gv) (by rw[hw])];exact ve j x hj) (by rw[fx.length,nc mm])
   obtain⟨vals,az,f1,ct,ck,kD,sx⟩:=news;rw[yT]at cn;have iy:=hx.ext aa (f1.ext 0 (cI _));refine df.BJ f1 ?_;have hL:=f1.rel;split at he
   ·
    rename_i o1
    have Oq:xs=[]:=by
     have:e6=[]:=by simpa using o1
     rw[this]at ck;exact yo.1 ck.symm
    have yU:vals=[]:=by
     have:=ct.length;have eW:e6=[]:=by simpa using o1
     rw[eW]at this;exact yo.1 (by simpa using this)
    subst Oq;subst yU
    have same:∀base n cap,ρ a=.slice base n cap->n<=cap->(execOp ρ o).run C.P w=.ok (.value (ρ a)) w:=by
     intro base n cap hs hle;rw[cn,hs,On (P:=C.P) hd hu hi (sx w rfl) (by simpa using hle)];cases base<;>simp[storeCells]
    split at he
    ·rename_i ag
     simp only[aA,bC]at he;obtain⟨rfl,rfl,rfl⟩:=he;rw[ag]at iy;exact .same hL (same _ _ _ iy.js (aM _)) iy
    ·rename_i ag
     simp only[aA,bC]at he;obtain⟨rfl,rfl,rfl⟩:=he;rw[ag]at iy;obtain⟨dh,dU⟩:=iy.rB;exact .same hL (same _ _ _ dU (aM _)) iy
    ·rename_i bN ds ag
     simp only[aA,bC]at he;obtain⟨rfl,rfl,rfl⟩:=he;rw[ag]at iy;obtain⟨dh,cap,dU,fb,-⟩:=iy.xp;exact .same hL (same _ _ _ dU fb) iy
    ·rename_i l bN off len tag ag
     rw[ag]at iy;split at he
     ·rename_i fl ds ej hl
      split at he
      ·rename_i fX
       simp only[aA,bC]at he;obtain⟨rfl,rfl,rfl⟩:=he;obtain⟨h0,dh,cQ,cap,c6,qB,iG,dU⟩:=iy.oV;obtain⟨a1,eO,hr⟩:=hL.obj l h0 c6;rw[hl]at eO;cases eO;obtain⟨rfl,rfl,-,pO⟩:=iG (hr.1.trans fX);exact .same hL (same _ _ _ dU pO) iy
      ·cases he
     ·cases he
    ·cases he
   ·rename_i o1
    have bu:0<e6.length:=by
     rcases TU e6.length with q|q
     ·exact absurd (by simpa using yo.1 q) o1
     ·exact q
    split at he
    ·cases he
    ·rename_i aZ
     have aZ:bX (e6.flatMap aF)=true:=by simpa using aZ
     have EA:=Vu ct aZ;have lM:vals.length=xs.length*i.size:=by rw[ct.length,nc kD,ck]
     have fresh:∀base,ρ a=.slice base 0 0->e6.length*(i.bytes+1)<=1099511627776->df C fid az H1 w bS ((execOp ρ o).run C.P w) (.b7 H1.length i.size 0 e6.length e6.length) (H1++[.row i.size e6 false]) bS:=by
      intro base hs hb
      have hold:(Builtin.firstCells i.size 0 (.slice base 0 0)).run C.P w.drew=.ok ([]:List Value).toArray w.drew:=by
       cases base<;>simp[Builtin.firstCells,loadCells,loadCellsFrom]
      obtain⟨gw,fb,lp⟩:=Oo (P:=C.P) (t:=t) (u:=u) (ty:=o.type) hd hu hi aI (sx w.drew rfl) hold (by omega) (by rw[er,<-ck];exact hb);rw[er,<-ck]at lp fb;refine df.newRow hL (cap:=gw) (e:=e) jb bu kD (vals:=vals) (rest:=(Builtin.zeroCells cC.cells (gw-e6.length)).toList) ?_ ct ?_ fb (by rw[cn,hs,<-ck,lp];rfl)
      ·simp
      ·simp only[yq,uY,eF,er,BR,lM,o0,<-ck,<-si]
       rw[Nat.add_sub_cancel' fb];exact aM _
     split at he
     ·rename_i ag
      split at he
      ·rename_i hb
       simp only[aA,bC]at he;obtain⟨rfl,rfl,rfl⟩:=he;rw[ag]at iy;exact fresh _ iy.js hb
      ·cases he
     ·rename_i ag
      split at he
      ·rename_i hb
       simp only[aA,bC]at he;obtain⟨rfl,rfl,rfl⟩:=he;rw[ag]at iy;obtain⟨dh,dU⟩:=iy.rB;exact fresh _ dU hb
      ·cases he
     ·rename_i l bN off len tag ag
      rw[ag]at iy;split at he
      ·rename_i fl ds hl
       split at he
       ·rename_i ev
        obtain⟨rfl,rfl,fX,rfl,rfl,hb⟩:=ev;simp only[aA,bC]at he;obtain⟨rfl,rfl,rfl⟩:=he;obtain⟨h0,dh,cQ,cap,c6,qB,iG,dU⟩:=iy.oV;obtain⟨a1,eO,hr⟩:=hL.obj l h0 c6;rw[hl]at eO;cases eO;obtain⟨yV,Vv,hfz,fc,nA,c,vp,k2,rest,hc,fa,jS,fx⟩:=hr;obtain⟨rfl,rfl,oW,pO⟩:=iG (yV.trans fX);rw[Nat.zero_mul]at dU;rw[er]at oW;have lL:ds.length=cQ:=fX;have pP:k2.length=cQ*i.size:=by rw[fx.length,nc nA,lL]
        have h8:c.size=k2.length+rest.length:=by rw[<-hJ,jS,e1]
        have tL:∀d∈ds++e6,(aF d).length=i.size:=fun d hd=>by
         rcases kS.1 hd with q|q
         ·exact nA d q
         ·exact kD d q
        have EB:bk fid az w ((ds++e6).flatMap aF) (k2++vals):=by rw[M0];exact fx.append ct
        by_cases hS:cQ+xs.length<=cap
        ·
         have hmul:(cQ+xs.length)*i.size<=c.size:=dc (MY _ hS) (by rw[<-fa];exact oW);rw[si]at hmul;have cg:=run_storeCells_at C.P h0.b (cQ*i.size) vp vals 0 c w hc (by omega) EA
         have hval:(execOp ρ o).run C.P w=.ok (.value (.slice (some ⟨h0.b,0,none⟩) (cQ+xs.length) cap)) (w.setRow h0.b (c.toList.take (cQ*i.size)++vals++c.toList.drop (cQ*i.size+vals.length)).toArray):=by
          rw[cn,dU,On (P:=C.P) hd hu hi (sx w rfl) hS];simp only[Addr.add_lit,er];simp only[yx]at cg;rw[cg];rfl
         have en:Ext az w ⟨cA az.β l {h0 with tag:=cQ+e6.length},az.I⟩ (w.setRow h0.b (c.toList.take (cQ*i.size)++vals++c.toList.drop (cQ*i.size+vals.length)).toArray) l H1.length:=
          Ext.write hL c6 hfz rfl (by simp only;omega) (fun q=>by omega) rfl (setRow_size _ _) (fun b bu=>setRow_other bu _) rfl rfl
         refine⟨_,_,_,.inl hval,bf.write hL c6 hfz (h':={h0 with tag:=cQ+e6.length}) rfl hfz (by simp only;omega) (fun q=>by omega) rfl (setRow_size _ _) (fun b bu=>setRow_other bu _) (.row i.size (ds++e6) false) ?_,
          fun m hm=>en.le (dc hm (pC _ _)) (aM _),?_,jK _ _,by simp⟩
         ·refine⟨by simp[lL],by simp;omega,hfz,fc,tL,_,vp,k2++vals,rest.drop vals.length,setRow_heap w h0.b c _ vp _ hc,?_,?_,EB.ext hL en⟩
          ·show h0.fB=_
           rw[fa];simp only[uY,e1,mc,pD,hJ];omega
          ·rw[MZ,jS,<-pP,List.take_left,H4,jJ,jJ]
           congr 2;rw[MW (by omega),ke];congr 1;omega
         ·rw[<-ck]
          exact .b7 l i.size 0 _ _ {h0 with tag:=cQ+e6.length} _ _ _ (du _ _ _) (aM _) (fun _=>⟨by simp,rfl,by rw[er];exact oW,by omega⟩)
        ·
         have hold:(Builtin.firstCells i.size cQ (.slice (some ⟨h0.b,0,none⟩) cQ cap)).run C.P w.drew=.ok k2.toArray w.drew:=
          Ez (iv.va (w:=w.drew) hc jS) pP
         obtain⟨gw,fb,lp⟩:=Oo (P:=C.P) (t:=t) (u:=u) (ty:=o.type) hd hu hi aI (sx w.drew rfl) hold (by omega) (by rw[<-ck];exact hb);have vq:bf C fid az H1 w.drew:=hL.jR rfl;have dw:∀m n,Ext az w az w.drew m n:=fun m n=>Ext.jR (w:=w) (w':=w.drew) rfl rfl rfl m n
         obtain⟨bH,cw⟩:=bf.move vq c6 hfz (.cells (k2.toArray++vals.toArray++Builtin.zeroCells cC.cells (gw-(cQ+xs.length))) e) (cQ+e6.length)
          (k2.toArray++vals.toArray++Builtin.zeroCells cC.cells (gw-(cQ+xs.length))).size (by omega) (by omega) (.row i.size (ds++e6) false)
          ⟨by simp[lL],by simp;omega,rfl,fc,tL,_,e,k2++vals,(Builtin.zeroCells cC.cells (gw-(cQ+xs.length))).toList,ml _ _,rfl,by simp,bk.mono (G:=az) (w:=w.drew) (G':=⟨cA az.β l ⟨w.drew.heap.size,cQ+e6.length,(k2.toArray++vals.toArray++Builtin.zeroCells cC.cells (gw-(cQ+xs.length))).size,false⟩,az.I⟩) (by
           intro x eS eW;by_cases jc:x=l
           ·subst jc;rw[c6]at eW;cases eW
            exact⟨_,du _ _ _,by simp only;omega,fun q=>by omega,fun q=>by simp only at q;omega,fun q=>by rw[hfz]at q;cases q⟩
           ·exact⟨eS,by simp only[dH jc];exact eW,aM _,id,fun _=>⟨rfl,rfl⟩,fun _=>rfl⟩) (fun b tM=>⟨tM,alloc_old (w:=w.drew) (vq.dd b tM).1⟩) (EB.ext hL (dw 0 0))⟩
         refine⟨_,_,_,.inl (by rw[cn,dU,lp];rfl),bH,fun m hm=>(dw m H1.length).trans (cw.le (dc hm (pC _ _)) (aM _)),?_,jK _ _,by simp⟩;rw[<-ck];refine .b7 l i.size 0 _ _ ⟨w.drew.heap.size,cQ+e6.length,_,false⟩ _ _ _ (du _ _ _) (aM _) (fun _=>⟨by simp,rfl,?_,by omega⟩);simp only[yq,uY,BR,lM,pP,o0,<-si,er];have vk:cQ+xs.length+(gw-(cQ+e6.length))=gw:=by omega
         rw[vk];exact aM _
       ·cases he
      ·cases he
     ·cases he
  ·cases he
 ·cases he
theorem df.ah0 (aa:bf C fid G H w){low:Nat}{r:Result Next}{es:Nat}{ds:List V}{c:Array Value}{vals rest:List Value}{e:TypeId}{cap:Nat}(hu:∀d∈ds,(aF d).length=es)(hp:cx ds=true)
  (hc:c.toList=vals++rest) (af:bk fid G w (ds.flatMap aF) vals) (hle:ds.length<=cap)
  (hr:r=.ok (.value (.slice (some ⟨w.heap.size,0,none⟩) ds.length cap)) (w.drew.alloc (.cells c e))):
  df C fid G H w low r (.list es ds) H low:=by
 have kj:bf C fid G H w.drew:=aa.jR rfl;have dw:∀m n,Ext G w G w.drew m n:=fun m n=>Ext.jR (w:=w) (w':=w.drew) rfl rfl rfl m n;have hx:∀m n,Ext G w ⟨G.β,fun b=>G.I b\/(b=w.drew.heap.size/\True)⟩ (w.drew.alloc (.cells c e)) m n:=fun m n=>(dw m n).trans (Ext.rG (.cells c e) True m n);refine⟨_,_,⟨G.β,fun b=>G.I b\/(b=w.drew.heap.size/\True)⟩,.inl hr,kj.rG (.cells c e) True,fun m _=>hx m _,.p _ _ ?_,aM _,aM _⟩;exact .list es ds w.drew.heap.size 0 cap vals (.inr ⟨rfl,trivial⟩) (iv.va (rest:=rest) (ml _ _) hc) hu ((af.ext aa (hx 0 0)).pM (IQ hp)) hle
theorem ah1 (aa:bf C fid G H w)(aR:fC C fid vars G w ai ρ){a b:Operand}{t u e e':TypeId}{i:TypeInfo}{cC:Value}{args:Array Operand}{ts:Array TypeId}(ho:o.op=.call {callee:=.builtin .append,args,argTypes:=ts})
  (ao:args= #[a,b]) (ht:ts= #[t,u]) {kk hU:aj} (h1:C.ch vars a=some kk) (h2:C.ch vars b=some hU) (hd:C.P.underlying t=some (.slice e)) (hu:C.P.underlying u=some (.slice e')) (hi:C.P.info? e=some i)
  (aI:i.zero=some cC) (o0:cC.cells.size=i.size) (jb:0<i.size) (he:step ai H low (.xe i.size i.bytes kk hU)=some (v,H',low')):df C fid G H w low ((execOp ρ o).run C.P w) v H' low':=by
 subst ao;subst ht;have iy:=aR a kk h1;have hy:=aR b hU h2
 have cn:(execOp ρ o).run C.P w=((Builtin.append_ #[t,u] o.type #[ρ a,ρ b]).run C.P w).andThen fun z w'=>.ok (.value z) w':=by
  rw[vm ho];simp only[builtin,Sem.run_bind,DJ,eG,me];rfl
 simp only[step]at he;split at he
 ·rename_i xs eX
  obtain⟨tK,BS,yT,BT⟩:=Ey aa hy eX;split at he
  ·cases he
  rename_i hp;have hp:cx xs=true:=by simpa using hp
  obtain⟨vals,ct,kD,sx⟩:∃vals,bk fid G w (xs.flatMap aF) vals/\(∀d∈xs,(aF d).length=i.size)/\∀gv,gv.heap=w.heap->(Builtin.firstCells i.size xs.length (.slice tK xs.length BS)).run C.P gv=.ok vals.toArray gv:=by
   by_cases bu:xs=[]
   ·subst bu
    refine⟨[],.nil,by simp,fun gv _=> ?_⟩;cases tK with
    |none=>simp[Builtin.firstCells]
    |some dh=>simp[Builtin.firstCells,loadCells,loadCellsFrom]
   ·obtain⟨yR,off,vals,rfl,ve,fx,mm⟩:=BT bu
    exact⟨vals,fx,mm,fun gv hw=>Ez (fun j x hj=>by rw[NG (w:=w) (w':=gv) (by rw[hw])];exact ve j x hj) (by rw[fx.length,nc mm])⟩
  rw[yT]at cn
  have same:xs=[]->∀base n cap,ρ a=.slice base n cap->n<=cap->(execOp ρ o).run C.P w=.ok (.value (ρ a)) w:=by
   intro Oq base n cap hs hle;subst Oq;have yU:vals=[]:=yo.1 (by rw[ct.length];rfl);subst yU;rw[cn,hs,On (P:=C.P) hd hu hi (sx w rfl) (by simpa using hle)];cases base<;>simp[storeCells]
  have fresh:∀base,ρ a=.slice base 0 0->0<xs.length->xs.length*(i.bytes+1)<=1099511627776->df C fid G H w low ((execOp ρ o).run C.P w) (.list i.size xs) H low:=by
   intro base hs bu hb;have lM:vals.length=xs.length*i.size:=by rw[ct.length,nc kD]
   have hold:(Builtin.firstCells i.size 0 (.slice base 0 0)).run C.P w.drew=.ok ([]:List Value).toArray w.drew:=by
    cases base<;>simp[Builtin.firstCells,loadCells,loadCellsFrom]
   obtain⟨gw,fb,lp⟩:=Oo (P:=C.P) (t:=t) (u:=u) (ty:=o.type) hd hu hi aI (sx w.drew rfl) hold (by omega) (by rw[er];exact hb);rw[er]at lp fb;refine df.ah0 aa (cap:=gw) (e:=e) kD hp (vals:=vals) (rest:=(Builtin.zeroCells cC.cells (gw-xs.length)).toList) ?_ ct fb (by rw[cn,hs,lp];rfl);simp
  have pos:¬xs.isEmpty=true->0<xs.length:=fun q=>by
   rcases TU xs.length with q'|q'
   ·exact absurd (by simpa using yo.1 q') q
   ·exact q'
  have nil:xs.isEmpty=true->xs=[]:=fun q=>by simpa using q
  split at he
  ·rename_i ag
   rw[ag]at iy;split at he
   ·rename_i q
    simp only[aA,bC]at he;obtain⟨rfl,rfl,rfl⟩:=he;exact .same aa (same (nil q) _ _ _ iy.js (aM _)) iy
   ·rename_i q
    split at he
    ·rename_i hb
     simp only[aA,bC]at he;obtain⟨rfl,rfl,rfl⟩:=he;exact fresh _ iy.js (pos q) hb.2
    ·cases he
  ·rename_i ag
   rw[ag]at iy;obtain⟨dh,dU⟩:=iy.rB;split at he
   ·rename_i q
    simp only[aA,bC]at he;obtain⟨rfl,rfl,rfl⟩:=he;exact .same aa (same (nil q) _ _ _ dU (aM _)) iy
   ·rename_i q
    split at he
    ·rename_i hb
     simp only[aA,bC]at he;obtain⟨rfl,rfl,rfl⟩:=he;exact fresh _ dU (pos q) hb.2
    ·cases he
  ·cases he
 ·cases he
end Go.Abs
namespace Go.Abs
open Go
variable{C:Ctx}{fid:Nat->Nat}{w w':World}{G G':cc}{H:Heap}
variable{vars:List Nat}{ai:aj->V}{ρ:Operand->Value}{low low':Nat}{v:V}{H':Heap}{pos:String}{dq:cS}{o:Oper}
theorem Vw:∀{a b:List V},mf (a++b)=(mf a&&mf b)
 |[],b=>by simp[mf]
 |x::a,b=>by simp[mf,Vw (a:=a),DK]
theorem ah2 (aa:bf C fid G H w)(aR:fC C fid vars G w ai ρ){a b:Operand}{t u e e':TypeId}{n:Nat}{args:Array Operand}{ts:Array TypeId}(ho:o.op=.call {callee:=.builtin .copy,args,argTypes:=ts})
  (ao:args= #[a,b]) (ht:ts= #[t,u]) {kk hU:aj} (h1:C.ch vars a=some kk) (h2:C.ch vars b=some hU) (hd:C.P.underlying t=some (.slice e)) (hn:C.sizeOf e=some n)
  (he:step ai H low (.copy n kk hU)=some (v,H',low')):df C fid G H w low ((execOp ρ o).run C.P w) v H' low':=by
 subst ao;subst ht;have hx:=aR a kk h1;have hy:=aR b hU h2
 have cn:(execOp ρ o).run C.P w=((Builtin.copy_ #[t,u] o.type #[ρ a,ρ b]).run C.P w).andThen fun z w'=>.ok (.value z) w':=by
  rw[vm ho];simp only[builtin,Sem.run_bind,DJ,eG,me];rfl
 have zero:∀base,(∃xs,elems H n (ai hU)=some xs)->ρ a=.slice base 0 0->df C fid G H w low ((execOp ρ o).run C.P w) (.int .i64 0) H low:=by
  rintro base ⟨xs,eX⟩ hs;obtain⟨tK,BS,yT,BT⟩:=Ey aa hy eX;refine .same aa (x:=.int .i64 0) ?_ (.p _ _ (.int _ _));rw[cn,hs,yT];cases tK<;>cases base<;>simp[Builtin.copy_,run_underlying hd,Builtin.lenOf,Builtin.firstCells,loadCells,loadCellsFrom,yQ (C:=C) hn,storeCells,goInt]
 simp only[step]at he;split at he
 ·rename_i xs ag eX
  simp only[aA,bC]at he;obtain⟨rfl,rfl,rfl⟩:=he;rw[ag]at hx;exact zero _ ⟨_,eX⟩ hx.js
 ·rename_i xs ag eX
  simp only[aA,bC]at he;obtain⟨rfl,rfl,rfl⟩:=he;rw[ag]at hx;obtain⟨dh,dU⟩:=hx.rB;exact zero _ ⟨_,eX⟩ dU
 ·rename_i l bN off len tag xs ag eX
  split at he
  ·rename_i fl ds hl
   split at he
   ·rename_i ev
    obtain⟨rfl,rfl,fX,pP,kh⟩:=ev;simp only[aA,bC]at he;obtain⟨rfl,rfl,rfl⟩:=he;rw[ag]at hx;obtain⟨tK,BS,yT,BT⟩:=Ey aa hy eX;obtain⟨h0,dh,cQ,cap,c6,qB,iG,dU⟩:=hx.oV;obtain⟨a1,eO,hr⟩:=aa.obj l h0 c6;rw[hl]at eO;cases eO;obtain⟨yV,Vv,hfz,fc,nA,c,vp,k2,rest,hc,fa,jS,fx⟩:=hr;obtain⟨rfl,rfl,-,-⟩:=iG (yV.trans fX)
    have key:∃dj,(Builtin.firstCells fl (Nat.min xs.length cQ) (.slice tK xs.length BS)).run C.P w=.ok dj.toArray w/\bk fid G w ((xs.take cQ).flatMap aF) dj/\((xs.take cQ).flatMap aF).length=(xs.take cQ).length*fl/\∀d∈xs.take cQ,(aF d).length=fl:=by
     by_cases bu:xs=[]
     ·subst bu
      refine⟨[],?_,by simpa using bk.nil,by simp,by simp⟩;cases tK<;>simp[Builtin.firstCells,loadCells,loadCellsFrom]
     ·obtain⟨yR,o',vals,rfl,ve,pR,mm⟩:=BT bu
      have tL:∀d∈xs.take cQ,(aF d).length=fl:=fun d hd=>mm d (Be hd);refine⟨vals.take (cQ*fl),?_,by rw[BG mm];exact pR.take _,nc tL,tL⟩;have lM:vals.length=xs.length*fl:=by rw[pR.length,nc mm]
      have e2:(vals.take (cQ*fl)).length=Nat.min xs.length cQ*fl:=by
       rw[mc,lM,Nat.mul_min_mul_right,Nat.min_comm]
      have:=run_loadCells_list (P:=C.P) w ⟨yR,o',none⟩ (vals.take (cQ*fl)) (fun j v hj=>by rw[Addr.add_lit];exact(ve.take _) j v hj);rw[e2]at this;exact this
    obtain⟨dj,Vx,I7,Ot,ah3⟩:=key
    have aZ:∀x∈dj,x.oneCell'=true:=by
     refine IZ I7 (N1 ?_);have:mf ((xs.take cQ++xs.drop cQ).flatMap aF)=true:=by rw[MX];exact kh
     rw[M0,Vw,ca]at this;exact this.1
    have ss:=I7.length;have jc:(xs.take cQ).length=min cQ xs.length:=by simp
    have lL:ds.length=tag:=fX;have hmul:(off+min cQ xs.length)*fl<=ds.length*fl:=MY _ (by have:=jK cQ xs.length;omega);rw[si]at hmul;have aAF:k2.length=ds.length*fl:=by rw[fx.length,nc nA]
    have h8:c.size=k2.length+rest.length:=by rw[<-hJ,jS,e1]
    have cg:=run_storeCells_at C.P h0.b (off*fl) vp dj 0 c w hc (by rw[ss,Ot,jc];omega) aZ
    obtain⟨G',bH,cw⟩:=U8 aa c6 hl (ds':=ds.take off++xs.take cQ++ds.drop (off+min cQ xs.length)) (by simp only[e1,mc,pD];omega)
     (fun d hd=>by
       rcases kS.1 hd with q|q
       ·rcases kS.1 q with q|q
        ·exact nA d (Be q)
        ·exact ah3 d q
       ·exact nA d (HV q)) (o:=off*fl) I7 (by rw[Ot,jc];omega)
     (fun vals af=>by
       rw[M0,M0,BG nA,yJ nA,ss,Ot,jc,<-si];exact((af.take _).append I7).append (af.drop _)) hc
    refine⟨_,_,G',.inl ?_,bH,fun m hm=>cw.le (dc hm (pC _ _)) (aM _),.p _ _ (.int _ _),jK _ _,by simp⟩;rw[cn,dU,yT];simp only[yx]at cg;have vk:xs.length.min cQ=min cQ xs.length:=Nat.min_comm _ _;rw[vk]at Vx;simp[Builtin.copy_,run_underlying hd,Builtin.lenOf,yQ (C:=C) hn,vk,Vx,cg,goInt]
   ·cases he
  ·cases he
 ·cases he
theorem tN{k:TypeId}{b1:Nat}(ah:C.jP k=some b1)(em:Bool)(n:Nat)(x:Value):(Instr.checkKey em (n+1) k x).run C.P w=.ok () w:=by
 unfold Ctx.jP at ah;unfold Instr.checkKey;split at ah<;>rename_i hd<;>first|(cases ah;done)|(rw[Sem.run_bind,run_underlying hd];rfl)
theorem xt{k:TypeId}{b1:Nat}{d:TypeDesc}(ah:C.jP k=some b1)(hd:C.P.underlying k=some d){a b:V}{e:Bool}{x y:Value}(ao:bq fid G w a x)(hb:bq fid G w b y)(he:iZ b1 a b=some e):
  Instr.sameNow d x y=some e/\(e=true->Instr.sameBits 10000 y x=true):=by
 unfold Ctx.jP at ah;rw[hd]at ah;unfold iZ at he;split at he
 ·split at he
  ·rename_i Em
   simp only[aA]at he;subst he;subst Em;rw[ao.kf,hb.kf];cases d<;>simp at ah;refine⟨by simp[Instr.sameNow],fun h=> ?_⟩;simp at h;subst h;simp[Instr.sameBits]
  ·cases he
 ·simp only[aA]at he;subst he
  rw[ao.n8,hb.n8];cases d<;>simp at ah;refine⟨by simp[Instr.sameNow,beq_toListBytes,ByteArray.toList_eq],fun h=> ?_⟩;simp at h;subst h;simp[Instr.sameBits,beq_toListBytes,ByteArray.toList_eq]
 ·simp only[aA]at he;subst he
  rw[ao.k1,hb.k1];cases d<;>simp at ah;refine⟨by simp[Instr.sameNow],fun h=> ?_⟩;simp at h;subst h;simp[Instr.sameBits]
 ·cases he
theorem rH{k:TypeId}{b1:Nat}{d:TypeDesc}(ah:C.jP k=some b1)(hd:C.P.underlying k=some d){a:V}{x:Value}(ao:bq fid G w a x):∀{bs:List (V × V)} {es:List MapEntry} (i:Nat) {r:Option V},
  bk fid G w (bs.map (·.1)) (es.map (·.key))->bk fid G w (bs.map (·.2)) (es.map (·.val))->iu b1 a bs=some r->
  match r with
  |none=>Instr.findNow d x es i=some none
  |some u=>∃j y,Instr.findNow d x es i=some (some (i+j,y))/\bq fid G w u y/\(∃e,es[j]? =some e/\Instr.sameBits 10000 e.key x=true)
 |[],[],i,r,_,_,h=>by
  simp only[iu,aA]at h;subst h;rfl
 |[],_::_,_,_,h,_,_=>by simp at h;cases h
 | _::_,[],_,_,h,_,_=>by simp at h;cases h
 |(bE,u)::bs,e::es,i,r,eC,c3,h=>by
  simp only[eG]at eC c3;cases eC with
  |cons _ _ _ _ h9 eC=>
   cases c3 with
   |cons _ _ _ _ rF c3=>
    simp only[iu]at h;split at h
    ·rename_i he
     simp only[aA]at h;subst h;obtain⟨hs,hb⟩:=xt ah hd ao h9 he;exact⟨0,e.val,by simp[Instr.findNow,hs],rF,e,rfl,hb rfl⟩
    ·rename_i he
     obtain⟨hs,-⟩:=xt ah hd ao h9 he;have ih:=rH ah hd ao (i+1) eC c3 h;cases r with
     |none=>simpa[Instr.findNow,hs]using ih
     |some u'=>
      obtain⟨j,y,h1,h2,e',av,bc⟩:=ih;refine⟨j+1,y,?_,h2,e',by simpa using av,bc⟩;have:i+(j+1)=i+1+j:=by omega
      rw[this];simpa[Instr.findNow,hs]using h1
    ·cases h
theorem vr{k:TypeId}{d:TypeDesc}(hd:C.P.underlying k=some d){x:Value}{es:List MapEntry}{r:Option (Nat × Value)}(h:Instr.findNow d x es 0=some r):(Instr.findKey k x es).run C.P w=.ok r w:=by
 unfold Instr.findKey;simp only[Sem.run_bind,run_underlying hd,Result.andThen_ok,h,Sem.run_pure]
theorem I8{k:TypeId}{b1:Nat}(ah:C.jP k=some b1):∃d,C.P.underlying k=some d:=by
 unfold Ctx.jP at ah;split at ah<;>rename_i hd<;>first|exact⟨_,hd⟩|cases ah
theorem ah4{t:TypeId}{z:V}(aI:C.zeroV t=some z)(hu:u3 z=false):∃cC,(∀w,(zeroValue t).run C.P w=.ok cC w)/\∀(G:cc) (w:World),bq fid G w z cC:=by
 unfold Ctx.zeroV at aI;split at aI
 ·rename_i i hi
  split at aI
  ·rename_i cC BM
   refine⟨cC,fun w=> ?_,fun G w=>.p _ _ ((Eh cC aI).resolve_left (by rintro rfl;simp[u3]at hu))⟩;simp only[zeroValue,Sem.run_bind,run_typeInfo (P:=C.P) w hi,Result.andThen_ok,BM,Sem.run_pure]
  ·cases aI
 ·cases aI
theorem xu{r:Nat}{es:Array MapEntry}{bT:Nat}(h:w.heap[r]? =some (.map es bT)):(getObj r).run C.P w=.ok (.map es bT) w:=by simp[getObj,Sem.run,h]
theorem BU{r:Nat}{es:Array MapEntry}{bT:Nat}(o:Obj)(h:w.heap[r]? =some (.map es bT)):(setObj r o).run C.P w=.ok () {w with heap:=w.heap.setIfInBounds r o}:=by simp[setObj,Sem.run,h]
theorem ah5 (aa:bf C fid G H w)(aR:fC C fid vars G w ai ρ){t:TypeId}{x i:Operand}{ok:Bool}(ho:o.op=.lookup t x i ok)(hc:C.cY vars pos o.op=some dq)(he:step ai H low dq=some (v,H',low')):
  df C fid G H w low ((execOp ρ o).run C.P w) v H' low':=by
 rw[ho]at hc;simp only[Ctx.cY]at hc;split at hc
 ·rename_i k e cJ jr hd h1 h2
  split at hc
  ·rename_i b1 z gO aI
   split at hc
   ·cases hc
   ·rename_i ah6
    simp only[aA]at hc;subst hc;have hx:=aR x cJ h1;have hi:=aR i jr h2;obtain⟨cC,oc,od⟩:=ah4 (fid:=fid) aI (by simpa using ah6);obtain⟨I9,jt⟩:=I8 gO
    have cn:(execOp ρ o).run C.P w=((Instr.lookup t (ρ x) (ρ i) ok).run C.P w).andThen fun z w'=>.ok (.value z) w':=by
     unfold execOp;rw[ho];simp only[Sem.run_bind];rfl
    have res:∀(u:V) (y:Value) (b:Bool),bq fid G w u y->bq fid G w (if ok then .bd [u,.bool b]else u) (if ok then .tuple #[y,.bool b]else y):=by
     intro u y b h;cases ok
     ·exact h
     ·exact .bd _ [y,.bool b] (.cons _ _ _ _ h (.cons _ _ _ _ (.p _ _ (.bool _)) .nil))
    simp only[step]at he;split at he
    ·rename_i ag
     simp only[aA,bC]at he;obtain⟨rfl,rfl,rfl⟩:=he;rw[ag]at hx;refine .same aa ?_ (res z cC false (od G w));rw[cn,hx.N4];unfold Instr.lookup;have ae:=vr (C:=C) (w:=w) jt (x:=ρ i) (es:=[]) (r:=none) rfl;simp only[Sem.run_bind,run_underlying hd,Result.andThen_ok,Sem.run_pure,tN gO,ae,oc]
    ·rename_i l ag
     rw[ag]at hx;obtain⟨h0,c6,-,dU⟩:=hx.mapInv;split at he
     ·rename_i bs hl
      obtain⟨a1,eO,hr⟩:=aa.obj l h0 c6;rw[hl]at eO;cases eO;obtain⟨-,-,es,bT,hm,h9,tI,-⟩:=hr;split at he
      ·rename_i u jd
       simp only[aA,bC]at he;obtain⟨rfl,rfl,rfl⟩:=he;obtain⟨j,y,ae,fx,-⟩:=rH gO jt hi 0 h9 tI jd;refine .same aa ?_ (res u y true fx);rw[cn,dU];unfold Instr.lookup;simp only[Sem.run_bind,run_underlying hd,Result.andThen_ok,Sem.run_pure,xu hm,tN gO,vr (C:=C) jt ae]
      ·rename_i jd
       simp only[aA,bC]at he;obtain⟨rfl,rfl,rfl⟩:=he;have ae:=rH gO jt hi 0 h9 tI jd;refine .same aa ?_ (res z cC false (od G w));rw[cn,dU];unfold Instr.lookup;simp only[Sem.run_bind,run_underlying hd,Result.andThen_ok,Sem.run_pure,xu hm,tN gO,vr (C:=C) jt ae,oc]
      ·cases he
     ·cases he
    ·cases he
  ·cases hc
 ·cases hc
theorem Ou{b1:Nat}{k u:V}:∀{bs:List (V × V)},iu b1 k bs=some none->lI b1 k u bs=bs++[(k,u)]
 |[],_=>rfl
 |(bE,v)::r,h=>by
  simp only[iu]at h;split at h
  ·cases h
  ·rename_i he
   simp[lI,he,Ou h]
  ·cases h
theorem Vy{k:TypeId}{b1:Nat}{d:TypeDesc}(ah:C.jP k=some b1)(hd:C.P.underlying k=some d){a:V}{x:Value}(ao:bq fid G w a x){u:V}{y:Value}(hu:bq fid G w u y):∀{bs:List (V × V)} {es:List MapEntry} (i:Nat) {r:V} {j:Nat} {z:Value},
  bk fid G w (bs.map (·.1)) (es.map (·.key))->bk fid G w (bs.map (·.2)) (es.map (·.val))->iu b1 a bs=some (some r)->Instr.findNow d x es i=some (some (i+j,z))->
  bk fid G w ((lI b1 a u bs).map (·.1)) ((es.modify j fun e=>{e with key:=x,val:=y}).map (·.key))/\bk fid G w ((lI b1 a u bs).map (·.2)) ((es.modify j fun e=>{e with key:=x,val:=y}).map (·.val))
 |[],[],i,r,j,z,_,_,h,_=>by simp[iu]at h
 |[],_::_,_,_,_,_,h,_,_,_=>by simp at h;cases h
 | _::_,[],_,_,_,_,h,_,_,_=>by simp at h;cases h
 |(bE,u')::bs,e::es,i,r,j,z,eC,c3,h,ae=>by
  simp only[eG]at eC c3;cases eC with
  |cons _ _ _ _ h9 eC=>
   cases c3 with
   |cons _ _ _ _ rF c3=>
    simp only[iu]at h;split at h
    ·rename_i he
     obtain⟨hs,-⟩:=xt ah hd ao h9 he;simp only[Instr.findNow,hs,aA,bC]at ae;obtain rfl:j=0:=by omega
     simp only[lI,he,if_true,eG,List.modify_zero_cons];exact⟨.cons _ _ _ _ ao eC,.cons _ _ _ _ hu c3⟩
    ·rename_i he
     obtain⟨hs,-⟩:=xt ah hd ao h9 he;simp only[Instr.findNow,hs]at ae;have iI:=rH ah hd ao (i+1) eC c3 h;obtain⟨vt,n9,h1,-,-⟩:=iI;rw[h1]at ae;simp only[aA,bC]at ae;obtain⟨hj,rfl⟩:=ae;obtain rfl:j=vt+1:=by omega
     have ih:=Vy ah hd ao hu (i+1) eC c3 h h1;have bu:¬(iZ b1 a bE=some true):=by rw[he];simp
     simp only[lI,bu,if_false,eG,List.modify_succ_cons];exact⟨.cons _ _ _ _ h9 ih.1,.cons _ _ _ _ rF ih.2⟩
    ·cases h
theorem oQ.push{es:Array MapEntry}{bT:Nat}(h:oQ es bT)(x y:Value):oQ (es.push {key:=x,val:=y,born:=bT}) (bT+1):=by
 refine⟨fun e he=> ?_,?_⟩
 ·rw[TX,kS]at he
  rcases he with he|he
  ·exact M5 (h.1 e he)
  ·rw[DH]at he;subst he;exact yr _
 ·rw[TX,lh,Bg]
  refine⟨h.2,by simp,fun a ao b hb=> ?_⟩;simp only[eG,me,DH]at hb;subst hb;obtain⟨e,he,rfl⟩:=eM.1 ao;exact qq (h.1 e he)
theorem Vz (x y:Value):∀(l:List MapEntry) (j:Nat),(l.modify j fun e=>{e with key:=x,val:=y}).map (·.born)=l.map (·.born)
 |[],j=>by cases j<;>simp
 |e::l,0=>by simp
 |e::l,j+1=>by simp[Vz x y l j]
theorem oQ.modify{es:Array MapEntry}{bT:Nat}(h:oQ es bT)(j:Nat)(x y:Value):oQ (es.modify j fun e=>{e with key:=x,val:=y}) bT:=by
 have ag:(es.modify j fun e=>{e with key:=x,val:=y}).toList.map (·.born)=es.toList.map (·.born):=by
  rw[Array.toList_modify];exact Vz x y _ j
 refine⟨fun e he=> ?_,by rw[ag];exact h.2⟩;have:e.born∈es.toList.map (·.born):=by rw[<-ag];exact eM.2 ⟨e,he,rfl⟩
 obtain⟨e',he',q⟩:=eM.1 this;rw[<-q];exact h.1 e' he'
theorem VA (aa:bf C fid G H w)(aR:fC C fid vars G w ai ρ){t:TypeId}{m k x:Operand}(ho:o.op=.mapUpdate t m k x\/o.op=.insert t m k x)(hc:C.cY vars pos o.op=some dq)(he:step ai H low dq=some (v,H',low')):
  df C fid G H w low ((execOp ρ o).run C.P w) v H' low':=by
 have hc:C.cY vars pos (.mapUpdate t m k x)=some dq:=by
  rcases ho with ho|ho
  ·rw[ho]at hc;exact hc
  ·rw[ho]at hc;exact hc
 simp only[Ctx.cY]at hc;split at hc
 ·rename_i eI sy am hX cJ hd h1 h2 av
  obtain⟨b1,gO,rfl⟩:=cG.1 hc;have hm:=aR m am h1;have ah:=aR k hX h2;have hx:=aR x cJ av;obtain⟨I9,jt⟩:=I8 gO
  have cn:(execOp ρ o).run C.P w=((Instr.mapUpdate t (ρ m) (ρ k) (ρ x)).run C.P w).andThen fun _ w'=>.ok .skip w':=by
   unfold execOp;rcases ho with ho|ho<;>(rw[ho];simp only[Sem.run_bind];rfl)
  simp only[step]at he;split at he
  ·rename_i u' H1 bS hfz
   split at he
   ·cases he
   ·rename_i nA
    obtain⟨az,f1,ct⟩:=IX aa hx hfz;have hL:=f1.rel;have Ja:=f1.ext 0 (cI _);have mw:=hm.ext aa Ja;have h9:=ah.ext aa Ja;refine df.BJ f1 ?_;split at he
    ·rename_i l ag
     rw[ag]at mw;obtain⟨h0,c6,VB,dU⟩:=mw.mapInv;split at he
     ·rename_i bs hl
      obtain⟨a1,eO,hr⟩:=hL.obj l h0 c6;rw[hl]at eO;cases eO;obtain⟨pS,jU,es,bT,dG,eC,c3,cg⟩:=hr;split at he
      ·rename_i b2 jd
       simp only[aA,bC]at he;obtain⟨rfl,rfl,rfl⟩:=he;have aH:h0.b<w.heap.size:=hL.blk l h0 c6
       have fin:∀(tO:Obj) (bN:Array MapEntry) (sz:Nat),tO=.map bN sz->(Instr.mapUpdate t (ρ m) (ρ k) (ρ x)).run C.P w=.ok () {w with heap:=w.heap.setIfInBounds h0.b tO}->
         bk fid az w ((lI b1 (ai hX) u' bs).map (·.1)) (bN.toList.map (·.key))->bk fid az w ((lI b1 (ai hX) u' bs).map (·.2)) (bN.toList.map (·.val))->oQ bN sz->
         df C fid az H1 w bS ((execOp ρ o).run C.P w) .undef (H1.set l (.map (lI b1 (ai hX) u' bs))) (min bS l):=by
        rintro tO bN sz rfl lp xv yW yX
        have vu:∀b,b≠h0.b->({w with heap:=w.heap.setIfInBounds h0.b (.map bN sz)}:World).heap[b]? =w.heap[b]? :=fun b bu=>by
         show(w.heap.setIfInBounds h0.b _)[b]? =_;rw[TH (lj bu)]
        have BV:({w with heap:=w.heap.setIfInBounds h0.b (.map bN sz)}:World).heap[h0.b]? =some (.map bN sz):=by
         show(w.heap.setIfInBounds h0.b _)[h0.b]? =_;simp[aH]
        have ea:({w with heap:=w.heap.setIfInBounds h0.b (.map bN sz)}:World).heap.size=w.heap.size:=by simp
        have en:Ext az w ⟨cA az.β l h0,az.I⟩ {w with heap:=w.heap.setIfInBounds h0.b (.map bN sz)} l H1.length:=
         Ext.write hL c6 jU rfl (aM _) id rfl ea vu rfl rfl
        refine⟨undef,_,_,.inr ⟨by rw[cn,lp];rfl,rfl⟩,bf.write hL c6 jU rfl jU (aM _) id rfl ea vu (.map (lI b1 (ai hX) u' bs)) ⟨pS,jU,bN,sz,BV,xv.ext hL en,yW.ext hL en,yX⟩,
         fun m hm=>en.le (dc hm (pC _ _)) (aM _),.undef _,jK _ _,by simp⟩
       cases b2 with
       |none=>
        have ae:=rH gO jt h9 0 eC c3 jd;refine fin _ (es.push {key:=ρ k,val:=ρ x,born:=bT}) (bT+1) rfl ?_ ?_ ?_ (cg.push _ _)
        ·unfold Instr.mapUpdate
         simp only[dU,Sem.run_bind,run_underlying hd,Result.andThen_ok,xu dG,tN gO,vr (C:=C) jt ae,BU _ dG]
        ·rw[Ou jd]
         simp only[lh,eG,me,TX];exact eC.append (.cons _ _ _ _ h9 .nil)
        ·rw[Ou jd]
         simp only[lh,eG,me,TX];exact c3.append (.cons _ _ _ _ ct .nil)
       |some r=>
        obtain⟨j,y,ae,-,ah7,ah8,ah9⟩:=rH gO jt h9 0 eC c3 jd;obtain⟨s1,s2⟩:=Vy gO jt h9 ct 0 eC c3 jd ae;rw[er]at ae;refine fin _ (es.modify j fun e=>{e with key:=ρ k,val:=ρ x}) bT rfl ?_ (by simpa using s1) (by simpa using s2) (cg.modify _ _ _);have aia:es[j]? =some ah7:=by rw[<-iX];exact ah8
        unfold Instr.mapUpdate;simp only[dU,Sem.run_bind,run_underlying hd,Result.andThen_ok,xu dG,tN gO,vr (C:=C) jt ae,aia,tz,w8,Instr.keyThatStays,ah9,if_true,Sem.run_pure,BU _ dG]
      ·cases he
     ·cases he
    ·cases he
  ·cases he
 ·cases hc
end Go.Abs
