/- Texts of this claim, joined and written short by a program. -/
import Derived.Test.YtemakagmboeodaaGreatDoorP02
import Derived.WalkLawsBesides
import Derived.Laws.StructEq
import Derived.Test.YtemakagmboeodaaGreatDoorP00
set_option linter.unusedVariables false
set_option linter.unusedSimpArgs false
set_option linter.unusedSectionVars false
namespace Go.Abs
open Go
variable{C:Ctx}{fid:Nat->Nat}{w w':World}{G G':bw}{H:Heap}
variable{vars:List Nat}{ag:ah->V}{ρ:Operand->Value}{low low':Nat}{v:V}{H':Heap}{pos:String}{cF:b8}{o:Oper}
theorem J6 (aa:aQ C fid G H w)(aE:eo C fid vars G w ag ρ){x:Operand}(ho:o.op=.move x\/o.op=.assign x)(hc:C.ca vars pos o.op=some cF)(he:step ag H low cF=some (v,H',low')):
  cv C fid G H w low ((execOp ρ o).run C.P w) v H' low':=by
 have qe:(C.bF vars x).map b8.mv=some cF:=by rcases ho with ho|ho<;>(rw[ho]at hc;exact hc)
 obtain⟨bY,hx,rfl⟩:=bW.1 qe;simp only[step,ay,a6]at he;obtain⟨rfl,rfl,rfl⟩:=he;exact .same aa (x:=ρ x) (by unfold execOp;rcases ho with ho|ho<;>rw[ho]<;>rfl) (aE x bY hx)
theorem U8 (aa:aQ C fid G H w)(aE:eo C fid vars G w ag ρ){c a b:Operand}(ho:o.op=.pick c a b)(hc:C.ca vars pos o.op=some cF)(he:step ag H low cF=some (v,H',low')):
  cv C fid G H w low ((execOp ρ o).run C.P w) v H' low':=by
 rw[ho]at hc;simp only[Ctx.ca]at hc;split at hc
 ·rename_i c' bg dE h1 h2 aq
  simp only[ay]at hc;subst hc;simp only[step]at he;obtain⟨t,ht,he⟩:=bW.1 he;simp only[a6]at he;obtain⟨rfl,rfl,rfl⟩:=he
  have gd:ag c'=.bool t:=by
   unfold z8 at ht;split at ht
   ·simp only[ay]at ht;subst ht;assumption
   ·cases ht
  have:=aE c c' h1;rw[gd]at this;have hb:=this.j6;refine .same aa (x:=if t then ρ a else ρ b) (by unfold execOp;rw[ho];simp only[hb,asBool,Sem.run_bind,Sem.run_pure,Result.andThen_ok]) ?_;cases t
  ·exact aE b dE aq
  ·exact aE a bg h2
 ·cases hc
theorem U9 (aa:aQ C fid G H w)(aE:eo C fid vars G w ag ρ){x:Operand}(ho:o.op=.nilCheck x)(hc:C.ca vars pos o.op=some cF)(he:step ag H low cF=some (v,H',low')):
  cv C fid G H w low ((execOp ρ o).run C.P w) v H' low':=by
 rw[ho]at hc;obtain⟨bY,hx,rfl⟩:=bW.1 hc;have ad:=aE x bY hx;simp only[step]at he;split at he
 ·rename_i l cC e
  simp only[ay,a6]at he;obtain⟨rfl,rfl,rfl⟩:=he;rw[e]at ad;obtain⟨h0,hb,ht,dV⟩:=ad.mu;exact .same aa (x:=ρ x) (by unfold execOp;rw[ho];simp only[dV];rfl) ad
 ·rename_i l es i f tag e
  simp only[ay,a6]at he;obtain⟨rfl,rfl,rfl⟩:=he;rw[e]at ad;obtain⟨h0,a,hb,hle,ha,dV⟩:=ad.xJ;exact .same aa (x:=ρ x) (by unfold execOp;rw[ho];simp only[dV];rfl) ad
 ·rename_i vs f e
  simp only[ay,a6]at he;obtain⟨rfl,rfl,rfl⟩:=he;rw[e]at ad;obtain⟨b,cC,vals,ch,hc,hr,dV⟩:=ad.Ec;exact .same aa (x:=ρ x) (by unfold execOp;rw[ho];simp only[dV];rfl) ad
 ·rename_i i a b e
  simp only[ay,a6]at he;obtain⟨rfl,rfl,rfl⟩:=he;rw[e]at ad;obtain⟨xs,bX,af,hc,dV⟩:=ad.vw;exact .same aa (x:=ρ x) (by unfold execOp;rw[ho];simp only[dV];rfl) ad
 ·cases he
theorem Va (aa:aQ C fid G H w)(aE:eo C fid vars G w ag ρ){op:UnOp}{t:TypeId}{x:Operand}(ho:o.op=.unOp op t x)(hc:C.ca vars pos o.op=some cF)(he:step ag H low cF=some (v,H',low')):
  cv C fid G H w low ((execOp ρ o).run C.P w) v H' low':=by
 rw[ho]at hc;obtain⟨bY,hx,rfl⟩:=bW.1 hc;have ad:=aE x bY hx;simp only[step]at he;obtain⟨u,hu,he⟩:=bW.1 he;simp only[a6]at he;obtain⟨rfl,rfl,rfl⟩:=he;unfold Aa at hu;split at hu
 ·rename_i k n e
  simp only[ay]at hu;subst hu;rw[e]at ad;exact .same aa (x:=.int k (k.wrap (0-n))) (by unfold execOp;rw[ho];simp only[ad.gH,Op.unary,Op.intArith,Sem.run_bind,Sem.run_pure,Result.andThen_ok]) (.p _ _ (.int _ _))
 ·rename_i b e
  simp only[ay]at hu;subst hu;rw[e]at ad;exact .same aa (x:=.bool !b) (by unfold execOp;rw[ho];simp only[ad.j6,Op.unary,Sem.run_bind,Sem.run_pure,Result.andThen_ok]) (.p _ _ (.bool _))
 ·cases hu
theorem Vb (aa:aQ C fid G H w)(aE:eo C fid vars G w ag ρ){s d:TypeId}{x:Operand}(ho:o.op=.convert s d x)(hnb:∀x,cF≠ .p2 x)(hc:C.ca vars pos o.op=some cF)(he:step ag H low cF=some (v,H',low')):
  cv C fid G H w low ((execOp ρ o).run C.P w) v H' low':=by
 rw[ho]at hc;simp only[Ctx.ca]at hc;split at hc
 ·rename_i k0 k bY h1 h2 aq
  simp only[ay]at hc;subst hc;have ad:=aE x bY aq;simp only[step]at he;split at he
  ·rename_i bJ n e
   simp only[ay,a6]at he;obtain⟨rfl,rfl,rfl⟩:=he;rw[e]at ad;exact .same aa (x:=.int k (k.wrap n)) (by unfold execOp;rw[ho];simp only[ad.gH,convert,Sem.run_bind,run_underlying h1,run_underlying h2,Result.andThen_ok,Conv.intToInt,Sem.run_pure]) (.p _ _ (.int _ _))
  ·cases he
 ·split at hc
  ·simp only[ay]at hc;exact absurd hc.symm (hnb _)
  ·cases hc
 ·cases hc
theorem Vc (aa:aQ C fid G H w)(aE:eo C fid vars G w ag ρ){t:TypeId}{x:Operand}(ho:o.op=.makeInterface t x)(hc:C.ca vars pos o.op=some cF)(he:step ag H low cF=some (v,H',low')):
  cv C fid G H w low ((execOp ρ o).run C.P w) v H' low':=by
 rw[ho]at hc;simp only[Ctx.ca]at hc;split at hc
 ·cases hc
 ·rename_i d bY bb h1 h2
  simp only[ay]at hc;subst hc;have ad:=aE x bY h2;simp only[step]at he;split at he
  ·rename_i v1 H1 bm af
   simp only[ay,a6]at he;obtain⟨rfl,rfl,rfl⟩:=he;obtain⟨az,f1,bM⟩:=Av aa ad af;refine cv.vv f1 (cv.same f1.rel (x:=.iface t (ρ x)) ?_ (.iface _ _ _ bM));unfold execOp;rw[ho];simp only[Instr.makeInterface,Sem.run_bind,run_underlying h1,Result.andThen_ok];cases d<;>first|rfl|(exfalso;exact bb _ h1)
  ·cases he
 ·cases hc
theorem Ay (aE:eo C fid vars G w ag ρ):∀{xs:List Operand} {Eh:List ah},c7 (C.bF vars) xs=some Eh->aW fid G w (Eh.map ag) (xs.map ρ)
 |[],_,h=>by simp only[c7,ay]at h;subst h;exact .nil
 |x::xs,_,h=>by
  simp only[c7]at h;split at h
  ·rename_i bY hx
   split at h
   ·rename_i Eh dW
    simp only[ay]at h;subst h;exact .cons _ _ _ _ (aE x bY hx) (Ay aE dW)
   ·cases h
  ·cases h
theorem Vd (bu:eh C fid)(aa:aQ C fid G H w)(aE:eo C fid vars G w ag ρ){f:Fn}{a b:Array Operand}(ho:o.op=.makeFunc f a b)(hc:C.ca vars pos o.op=some cF)(he:step ag H low cF=some (v,H',low')):
  cv C fid G H w low ((execOp ρ o).run C.P w) v H' low':=by
 rw[ho]at hc;cases f with
 |func f=>
  simp only[Ctx.ca]at hc;split at hc
  ·rename_i i bg dE h1 h2 aq
   simp only[ay]at hc;subst hc;simp only[step,ay,a6]at he;obtain⟨rfl,rfl,rfl⟩:=he;refine .same aa (x:=.func (.func f) (a.map ρ) (b.map ρ)) (by unfold execOp;rw[ho];rfl) ?_;have e:=bu.f f i h1;subst e;have:=aZ.fn (fid:=fid) i _ _ _ _ (Ay aE h2) (Ay aE aq);have ae:a.map ρ=⟨a.toList.map ρ⟩:=by rw[<-Array.toList_map]
   have ai:b.map ρ=⟨b.toList.map ρ⟩:=by rw[<-Array.toList_map]
   rw[ae,ai];exact this
  ·cases hc
 | _=>simp[Ctx.ca]at hc
theorem Ve (aa:aQ C fid G H w)(aE:eo C fid vars G w ag ρ){x:Operand}{i:Nat}(ho:o.op=.extract x i)(hc:C.ca vars pos o.op=some cF)(he:step ag H low cF=some (v,H',low')):
  cv C fid G H w low ((execOp ρ o).run C.P w) v H' low':=by
 rw[ho]at hc;obtain⟨bY,hx,rfl⟩:=bW.1 hc;have ad:=aE x bY hx;simp only[step]at he;split at he
 ·rename_i vs e
  obtain⟨u,hu,he⟩:=bW.1 he;simp only[a6]at he;obtain⟨rfl,rfl,rfl⟩:=he;rw[e]at ad;obtain⟨vals,dV,hr⟩:=ad.D4;obtain⟨y,hy,dU⟩:=hr.get hu;exact .same aa (x:=y) (by unfold execOp;rw[ho];simp only[dV,Instr.extract,n2,hy,Sem.run_bind,Sem.run_pure,Result.andThen_ok]) dU
 ·cases he
theorem Vf (aa:aQ C fid G H w)(aE:eo C fid vars G w ag ρ){s:TypeId}{x:Operand}{f:Nat}(ho:o.op=.field s x f)(hc:C.ca vars pos o.op=some cF)(he:step ag H low cF=some (v,H',low')):
  cv C fid G H w low ((execOp ρ o).run C.P w) v H' low':=by
 rw[ho]at hc;simp only[Ctx.ca]at hc;split at hc
 ·rename_i fs bY h1 h2
  split at hc
  ·rename_i aO aq
   obtain⟨sh,bf,rfl⟩:=bW.1 hc;have ad:=aE x bY h2;simp only[step]at he;split at he
   ·rename_i vs e
    obtain⟨u,hu,he⟩:=bW.1 he;simp only[a6]at he;obtain⟨rfl,rfl,rfl⟩:=he;rw[e]at ad;obtain⟨vals,dV,hr⟩:=ad.xF;have hk:=hr.kF hu;rcases JZ bf with⟨n,rfl,ha,hs⟩|⟨rfl,ha⟩
    ·refine .same aa (x:=.agg ⟨(vals.drop aO.offset).take n⟩) ?_ hk.2
     unfold execOp;rw[ho];simp only[dV,Instr.field,Sem.run_bind,run_underlying h1,Result.andThen_ok,aq,asAgg,Sem.run_pure,part,ha,hs,if_true];congr 3;apply Array.ext';simp
    ·obtain⟨y,hy,dU⟩:=hk
     refine .same aa (x:=y) ?_ dU;unfold execOp;rw[ho];simp only[dV,Instr.field,Sem.run_bind,run_underlying h1,Result.andThen_ok,aq,asAgg,Sem.run_pure,part,ha,ga,if_false,n2,hy]
   ·cases he
  ·cases hc
 ·cases hc
theorem Vg (aa:aQ C fid G H w)(aE:eo C fid vars G w ag ρ){s:TypeId}{x:Operand}{f:Nat}(ho:o.op=.fieldAddr s x f)(hc:C.ca vars pos o.op=some cF)(he:step ag H low cF=some (v,H',low')):
  cv C fid G H w low ((execOp ρ o).run C.P w) v H' low':=by
 rw[ho]at hc;simp only[Ctx.ca]at hc;split at hc
 ·rename_i fs bY h1 h2
  split at hc
  ·rename_i aO aq
   split at hc
   ·rename_i n bf
    split at hc
    ·cases hc
    ·rename_i hn
     simp only[ay]at hc;subst hc;have ad:=aE x bY h2
     have bR:∀a,ρ x=.pointer (some a)->(execOp ρ o).run C.P w=.ok (.value (.pointer (some (a.add aO.offset)))) w:=by
      intro a ha;simp only[Ctx.sizeOf,bW]at bf;obtain⟨i,hi,rfl⟩:=bf;unfold execOp;rw[ho];simp only[ha,Instr.fieldAt,Sem.run_bind,run_underlying h1,Result.andThen_ok,aq,Instr.sureAddr,Sem.run_pure,fieldPlace,sizeOf,run_typeInfo (P:=C.P) w hi,hn,if_false]
     simp only[step]at he;split at he
     ·rename_i l cC e
      simp only[ay,a6]at he;obtain⟨rfl,rfl,rfl⟩:=he;rw[e]at ad;obtain⟨h0,hb,ht,dV⟩:=ad.mu;refine .same aa (bR _ dV) ?_;rw[Addr.add_lit];exact .ptr l _ h0 hb ht
     ·rename_i l es i jD tag e
      simp only[ay,a6]at he;obtain⟨rfl,rfl,rfl⟩:=he;rw[e]at ad;obtain⟨h0,a,hb,hle,ha,dV⟩:=ad.xJ;refine .same aa (bR _ dV) (.fm l es i _ tag h0 _ hb hle (fun ht=> ?_));rw[ha ht,Addr.add_lit,n9]
     ·rename_i vs jD e
      simp only[ay,a6]at he;obtain⟨rfl,rfl,rfl⟩:=he;rw[e]at ad;obtain⟨b,cC,vals,ch,hc,hr,dV⟩:=ad.Ec;refine .same aa (bR _ dV) ?_;rw[Addr.add_lit,n9];exact .dp vs _ b cC vals ch hc hr
     ·cases he
   ·cases hc
  ·cases hc
 ·cases hc
theorem Vh (aa:aQ C fid G H w)(aE:eo C fid vars G w ag ρ){t:TypeId}{a:Operand}(ho:o.op=.load t a)(hc:C.ca vars pos o.op=some cF)(he:step ag H low cF=some (v,H',low')):
  cv C fid G H w low ((execOp ρ o).run C.P w) v H' low':=by
 rw[ho]at hc;simp only[Ctx.ca]at hc;split at hc
 ·rename_i sh bY h1 h2
  simp only[ay]at hc;subst hc;simp only[step]at he;obtain⟨u,hu,he⟩:=bW.1 he;simp only[a6]at he;obtain⟨rfl,rfl,rfl⟩:=he;obtain⟨y,hy,dU⟩:=J0 aa h1 (aE a bY h2) hu;exact .same aa (x:=y) (by unfold execOp;rw[ho];simp only[Sem.run_bind,hy,Result.andThen_ok,Sem.run_pure]) dU
 ·cases hc
theorem Vi (aa:aQ C fid G H w)(aE:eo C fid vars G w ag ρ){t:TypeId}{a x:Operand}(ho:o.op=.store t a x)(hc:C.ca vars pos o.op=some cF)(jI:low<=H.length)(he:step ag H low cF=some (v,H',low')):
  cv C fid G H w low ((execOp ρ o).run C.P w) v H' low':=by
 rw[ho]at hc;simp only[Ctx.ca]at hc;split at hc
 ·rename_i n bY oi h1 h2 aq
  simp only[ay]at hc;subst hc;simp only[step]at he;obtain⟨⟨H1,l⟩,hu,he⟩:=bW.1 he;simp only[a6]at he;obtain⟨rfl,rfl,rfl⟩:=he;obtain⟨aG,az,bR,bq,ae,hl,hlen⟩:=U5 aa h1 (aE a bY h2) (aE x oi aq) hu;exact⟨undef,aG,az,.inr ⟨by unfold execOp;rw[ho];simp only[Sem.run_bind,bR,Result.andThen_ok,Sem.run_pure],rfl⟩,bq,fun m hm=>ae.le (cA hm (mn _ _)) (aI _),.undef _,ig _ _,Nat.le_of_eq hlen.symm⟩
 ·cases hc
theorem J7{t:TypeId}{z:List V}{cs:List Value}(h:aW fid G w z cs):aW fid G w (C.mark t z) cs:=by
 unfold Ctx.mark;split
 ·cases C.Af==some t with
  |true=>cases h with|cons _ x _ xs _ hs=>exact .cons _ _ _ _ (.undef x) hs
  |false=>exact h
 ·exact h
theorem J8{t:TypeId}{z:List V}(bx:b7 z=true){c:Array Value}{b:Nat}(hr:aW fid G w z c.toList)(hb:w'.heap[b]? =some (.cells c t (0,0))):xE C w' b (C.mark t z):=fun v ad=>by
 unfold Ctx.mark at ad;split at ad
 ·cases ht:C.Af==some t with
  |true=>
   refine⟨c,t,hb,eq_of_beq ht,.inl ?_⟩;rw[<-fN];generalize c.toList=l at hr;cases hr with
   |cons _ x _ xs h1 hs=>
    cases h1 with
    |p _ _ h=>cases h;rfl
  |false=>rw[ht]at ad;simp at ad
 ·rw[ad]at bx;simp[b7,e1]at bx
theorem Vj{vs:List V}(bx:b7 vs=true){b:Nat}:xE C w b vs:=fun v ad=>by
 rw[ad]at bx;simp[b7,e1]at bx
theorem Vk (aa:aQ C fid G H w){t:TypeId}(ho:o.op=.alloc t)(hc:C.ca vars pos o.op=some cF)(he:step ag H low cF=some (v,H',low')):
  cv C fid G H w low ((execOp ρ o).run C.P w) v H' low':=by
 rw[ho]at hc;obtain⟨z,aP,rfl⟩:=bW.1 hc;simp only[step,ay,a6]at he;obtain⟨rfl,rfl,rfl⟩:=he;unfold Ctx.zeroCells at aP;split at aP
 ·rename_i i hi
  split at aP
  ·rename_i bO vA
   split at aP
   ·rename_i vs cO
    split at aP
    ·rename_i bx
     simp only[ay]at aP;subst aP;refine .alloc aa 0 0 (x:=.pointer (some ⟨w.heap.size,0,none⟩)) (aJ:=.cells bO.cells t) ?_ ⟨⟨rfl,J8 (G:=G) (fid:=fid) (w:=w) bx (cD.la (xI _ cO)) (j4 _ _)⟩,rfl,bO.cells,t,j4 _ _,?_⟩ (.ptr _ _ ⟨w.heap.size,0,0,false⟩ (cM _ _ _) rfl)
     ·unfold execOp;rw[ho]
      simp only[Instr.alloc,zeroValue,Sem.run_bind,run_typeInfo (P:=C.P) w hi,Result.andThen_ok,vA,Sem.run_pure,newVar,newRow,run_newObj,World.alloc_eq]
     ·exact J7 (cD.la (xI _ cO))
    ·cases aP
   ·cases aP
  ·cases aP
 ·cases aP
theorem Vl (aa:aQ C fid G H w)(aE:eo C fid vars G w ag ρ){t:TypeId}{x:Operand}(ho:o.op=.box t x)(hc:C.ca vars pos o.op=some cF)(he:step ag H low cF=some (v,H',low')):
  cv C fid G H w low ((execOp ρ o).run C.P w) v H' low':=by
 rw[ho]at hc;obtain⟨bY,hx,rfl⟩:=bW.1 hc;simp only[step]at he;split at he
 ·rename_i bx
  simp only[ay,a6]at he;obtain⟨rfl,rfl,rfl⟩:=he;have ad:=aE x bY hx;refine .alloc aa 0 0 (x:=.pointer (some ⟨w.heap.size,0,none⟩)) (aJ:=.cells (ρ x).cells t) ?_ ⟨⟨rfl,Vj bx⟩,rfl,(ρ x).cells,t,j4 _ _,?_⟩ (.ptr _ _ ⟨w.heap.size,0,0,false⟩ (cM _ _ _) rfl)
  ·unfold execOp;rw[ho]
   simp only[Instr.box,Sem.run_bind,Sem.run_pure,Result.andThen_ok,newVar,newRow,run_newObj,World.alloc_eq]
  ·exact(vx ad bx).1.ext aa (Ext.push aa _ 0 0 0)
 ·cases he
theorem Vm (aa:aQ C fid G H w){t:TypeId}{r:Option Operand}(ho:o.op=.makeMap t r)(hc:C.ca vars pos o.op=some cF)(he:step ag H low cF=some (v,H',low')):
  cv C fid G H w low ((execOp ρ o).run C.P w) v H' low':=by
 rw[ho]at hc;cases r with
 |some _=>simp[Ctx.ca]at hc
 |none=>
  simp only[Ctx.ca,ay]at hc;subst hc;simp only[step,ay,a6]at he;obtain⟨rfl,rfl,rfl⟩:=he;refine .alloc aa 0 0 (x:=.map (some w.heap.size)) (aJ:=.map #[] 0) ?_ ⟨rfl,rfl,#[],0,j4 _ _,.nil,.nil,⟨fun x hx=>by simp at hx,by simp⟩⟩ (.map _ ⟨w.heap.size,0,0,false⟩ (cM _ _ _) rfl);unfold execOp;rw[ho];simp only[Instr.makeMap,Sem.run_bind,Sem.run_pure,Result.andThen_ok,run_newObj,World.alloc_eq,sL]
theorem Ei{u:V}{n:Nat}(h:k8 u=some n):∃k m,u=.int k m/\0<=m/\m.toNat=n:=by
 unfold k8 at h;split at h
 ·split at h
  ·simp only[ay]at h
   exact⟨_,_,rfl,by assumption,h⟩
  ·cases h
 ·cases h
theorem Vn (aa:aQ C fid G H w)(aE:eo C fid vars G w ag ρ){t:TypeId}{x i:Operand}(ho:o.op=.index t x i)(hc:C.ca vars pos o.op=some cF)(he:step ag H low cF=some (v,H',low')):
  cv C fid G H w low ((execOp ρ o).run C.P w) v H' low':=by
 rw[ho]at hc;simp only[Ctx.ca]at hc;split at hc
 ·rename_i bY oi h1 h2 aq
  simp only[ay]at hc;subst hc;simp only[step]at he;split at he
  ·rename_i s n ae ai
   obtain⟨c,oj,he⟩:=bW.1 he;simp only[a6]at he;obtain⟨rfl,rfl,rfl⟩:=he;obtain⟨k,m,bz,hm,hn⟩:=Ei ai;have hx:=aE x bY h2;have hi:=aE i oi aq;rw[ae]at hx;rw[bz]at hi;refine .same aa (x:=.int .u8 c.toNat) ?_ (.p _ _ (.int _ _));unfold execOp;rw[ho]
   have np:(⟨⟨s⟩⟩:ByteArray)[m.toNat]? =some c:=by
    rw[hn];obtain⟨aY,a8⟩:=fu.1 oj;have:n<(⟨⟨s⟩⟩:ByteArray).size:=aY;rw[getElem?_pos (c:=(⟨⟨s⟩⟩:ByteArray)) (i:=n) (h:=this)];congr 1
   simp only[hx.kK,hi.gH,Instr.index,asIntOf,Sem.run_bind,Sem.run_pure,Result.andThen_ok,run_underlying h1,hm,if_true,np]
  ·cases he
 ·cases hc
end Go.Abs
namespace Go.Abs
open Go
variable{C:Ctx}{fid:Nat->Nat}{w w':World}{G G':bw}{H:Heap}
variable{vars:List Nat}{ag:ah->V}{ρ:Operand->Value}{low low':Nat}{v:V}{H':Heap}{pos:String}{cF:b8}{o:Oper}
theorem bytes_beq (s t:List UInt8):((⟨⟨s⟩⟩:ByteArray).toList==(⟨⟨t⟩⟩:ByteArray).toList)=(s==t):=by
 rw[ByteArray.toList_eq,ByteArray.toList_eq]
theorem Vo{op:BinOp}{t:TypeId}{a b u:V}{x y:Value}(ha:aZ fid G w a x)(hb:aZ fid G w b y)(hu:gl op a b=some u):
  ∃z,(binOp op t x y).run C.P w=.ok z w/\aZ fid G w u z/\∀(rI qf:Operand),eqGuard op t rI qf x y=pure ():=by
 unfold gl at hu;split at hu
 ·rename_i k bg bJ dE
  split at hu
  ·rename_i hc
   simp only[ay]at hu;subst hu;rw[ha.gH,hb.gH];refine⟨.int k (k.wrap (bg*2^dE.toNat)),?_,.p _ _ (.int _ _),fun _ _=>rfl⟩;simp only[binOp,Op.shift,Int.not_lt.2 hc.1,if_false,rb hc.2,Sem.run_pure]
  ·cases hu
 ·rename_i k bg bJ dE
  split at hu
  ·rename_i hc
   simp only[ay]at hu;subst hu;rw[ha.gH,hb.gH];refine⟨.int k (bg/2^dE.toNat),?_,.p _ _ (.int _ _),fun _ _=>rfl⟩;have h2:(0:Int)<=2^dE.toNat:=Int.pow_nonneg (by decide);simp only[binOp,Op.shift,Int.not_lt.2 hc.1,if_false,rb hc.2,Sem.run_pure,Int.fdiv_eq_ediv_of_nonneg _ h2]
  ·cases hu
 ·rename_i k bg bJ dE iw nq
  split at hu
  ·cases hu
  ·rename_i hk
   have hk:k=bJ:=by simpa using hk
   subst hk;rw[ha.gH,hb.gH];have aT:∀(rI qf:Operand),eqGuard op t rI qf (.int k bg) (.int k dE)=pure ():=fun _ _=>by cases op<;>rfl
   cases op<;>dsimp only at hu<;>
    first
    |(cases hu;done)
    |(simp only[ay]at hu;subst hu
      refine⟨_,?_,.p _ _ (.int _ _),aT⟩;simp only[binOp,ne_eq,not_true,if_false,Op.intArith,Op.intBits,Sem.run_pure];done)
    |(simp only[ay]at hu;subst hu
      refine⟨_,?_,.p _ _ (.bool _),aT⟩;simp only[binOp,ne_eq,not_true,if_false,Op.intCmp,Sem.run_pure];done)
    |(split at hu
      ·cases hu
      ·rename_i aP
       simp only[ay]at hu;subst hu;refine⟨_,?_,.p _ _ (.int _ _),aT⟩;simp only[binOp,ne_eq,not_true,if_false,Op.intDiv,aP,Sem.run_pure])
 ·rename_i bg dE
  split at hu
  ·rename_i hc
   simp only[ay]at hu;subst hu;rw[ha.kK,hb.kK];refine⟨.string ⟨⟨bg++dE⟩⟩,?_,.p _ _ (.str _),fun _ _=>rfl⟩
   have du:¬((((⟨⟨bg⟩⟩:ByteArray).size+(⟨⟨dE⟩⟩:ByteArray).size:Nat):Int)>IntKind.i64.max):=by
    rw[IntKind.max_i64];have ae:(⟨⟨bg⟩⟩:ByteArray).size=bg.length:=rfl;have ai:(⟨⟨dE⟩⟩:ByteArray).size=dE.length:=rfl;rw[ae,ai];omega
   have Vp:(⟨⟨bg⟩⟩:ByteArray)++(⟨⟨dE⟩⟩:ByteArray)=⟨⟨bg++dE⟩⟩:=by
    apply ByteArray.ext;rw[ByteArray.data_append];simp
   simp only[binOp,Op.stringOp,du,if_false,Vp,Sem.run_pure]
  ·cases hu
 ·rename_i bg dE
  simp only[ay]at hu;subst hu;rw[ha.kK,hb.kK];refine⟨.bool (bg==dE),?_,.p _ _ (.bool _),fun _ _=>rfl⟩;simp only[binOp,Op.stringOp,bytes_beq,Sem.run_pure]
 ·rename_i bg dE
  simp only[ay]at hu;subst hu;rw[ha.kK,hb.kK];refine⟨.bool (bg != dE),?_,.p _ _ (.bool _),fun _ _=>rfl⟩;simp only[binOp,Op.stringOp,bytes_beq,Sem.run_pure,bne]
 ·cases hu
theorem aZ.nr{x:Value}(h:aZ fid G w .gy x):x=.pointer none:=by cases h with|p _ _ h=>cases h;rfl
theorem aZ.gz{x:Value}(h:aZ fid G w .ak x):x=.slice none 0 0:=by cases h with|p _ _ h=>cases h;rfl
theorem aZ.ns{x:Value}(h:aZ fid G w .emp x):∃a,x=.slice (some a) 0 0:=by cases h with|p _ _ h=>cases h;exact⟨_,rfl⟩
theorem aZ.qg{x:Value}(h:aZ fid G w .ik x):x=.nilFunc:=by cases h with|p _ _ h=>cases h;rfl
theorem aZ.qh{x:Value}(h:aZ fid G w .gP x):x=.nilIface:=by cases h with|p _ _ h=>cases h;rfl
theorem aZ.Ej{x:Value}(h:aZ fid G w .hQ x):x=.map none:=by cases h with|p _ _ h=>cases h;rfl
theorem aZ.Ek{x:Value}{t:Nat}{v:V}(h:aZ fid G w (.iface t v) x):∃y,x=.iface t y/\aZ fid G w v y:=by
 cases h with
 |p _ _ h=>cases h with|iface _ _ y h=>exact⟨y,rfl,.p _ _ h⟩
 |iface _ _ y h=>exact⟨y,rfl,h⟩
theorem aZ.rJ{x:Value}{es:Nat}{ds:List V}(h:aZ fid G w (.list es ds) x):
  ∃a cap,x=.slice (some a) ds.length cap/\ds.length<=cap/\(ds=[]\/∃b o vals,a=⟨b,o,none⟩/\G.I b/\gb w b o vals/\(∀d∈ds,(aL d).length=es)/\cD w G.I (ds.flatMap aL) vals):=by
 cases h with
 |p _ _ h=>cases h with
  |rF _ a cap=>exact⟨a,cap,rfl,ct _,.inl rfl⟩
  |list _ _ b o cap vals ch hc hu hr hl=>exact⟨_,cap,rfl,hl,.inr ⟨b,o,vals,rfl,ch,hc,hu,hr⟩⟩
def kindOk:Nat->TypeDesc->Prop
 |0,d=>∃dr,d=.pointer dr
 |1,d=>∃dr,d=.slice dr
 |2,d=>∃p r b,d=.func p r b
 |3,d=>∃m,d=.interface m
 |4,d=>d=.bool
 | _,_=>False
theorem Vq{t:TypeId}{d:TypeDesc}(hd:C.P.underlying t=some d){kind:Nat}{a b:V}{e:Bool}{x y:Value}(ha:aZ fid G w a x)(hb:aZ fid G w b y)(hu:mq kind a b=some e)
  (hk:kindOk kind d):
  (Op.equal t x y).run C.P w=.ok e w:=by
 show(Op.equalIn (9999+1) t x y).run C.P w=.ok e w;generalize 9999=depth;unfold mq at hu;split at hu
 ·simp only[ay]at hu;subst hu
  obtain⟨dr,rfl⟩:=hk;rw[ha.nr,hb.nr];simp[Op.equalIn,run_underlying hd]
 ·simp only[ay]at hu;subst hu
  obtain⟨dr,rfl⟩:=hk;obtain⟨h0,-,-,rfl⟩:=ha.mu;rw[hb.nr];simp[Op.equalIn,run_underlying hd]
 ·simp only[ay]at hu;subst hu
  obtain⟨dr,rfl⟩:=hk;obtain⟨h0,-,-,rfl⟩:=hb.mu;rw[ha.nr];simp[Op.equalIn,run_underlying hd]
 ·simp only[ay]at hu;subst hu
  obtain⟨dr,rfl⟩:=hk;rw[ha.gz,hb.gz];simp[Op.equalIn,run_underlying hd]
 ·simp only[ay]at hu;subst hu
  obtain⟨dr,rfl⟩:=hk;obtain⟨_,rfl⟩:=ha.ns;rw[hb.gz];simp[Op.equalIn,run_underlying hd]
 ·simp only[ay]at hu;subst hu
  obtain⟨dr,rfl⟩:=hk;obtain⟨_,_,rfl,-⟩:=ha.rJ;rw[hb.gz];simp[Op.equalIn,run_underlying hd]
 ·simp only[ay]at hu;subst hu
  obtain⟨dr,rfl⟩:=hk;obtain⟨_,_,_,_,-,-,-,rfl⟩:=ha.kL;rw[hb.gz];simp[Op.equalIn,run_underlying hd]
 ·simp only[ay]at hu;subst hu
  obtain⟨p,r,dE,rfl⟩:=hk;rw[ha.qg,hb.qg];simp[Op.equalIn,run_underlying hd]
 ·simp only[ay]at hu;subst hu
  obtain⟨p,r,dE,rfl⟩:=hk;obtain⟨_,_,-,-,rfl⟩:=ha.vw;rw[hb.qg];simp[Op.equalIn,run_underlying hd]
 ·simp only[ay]at hu;subst hu
  obtain⟨m,rfl⟩:=hk;rw[ha.qh,hb.qh];simp[Op.equalIn,run_underlying hd]
 ·simp only[ay]at hu;subst hu
  obtain⟨m,rfl⟩:=hk;obtain⟨_,rfl,-⟩:=ha.Ek;rw[hb.qh];simp[Op.equalIn,run_underlying hd]
 ·simp only[ay]at hu;subst hu
  subst hk;rw[ha.j6,hb.j6];simp[Op.equalIn,run_underlying hd]
 ·cases hu
theorem Vr{t:TypeId}{kind:Nat}{a b:V}{e:Bool}{x y:Value}(ha:aZ fid G w a x)(hb:aZ fid G w b y)(hu:mq kind a b=some e)(neg:Bool)
  (a8:(Op.equal t x y).run C.P w=.ok e w):
  (binOp (if neg then .neq else .eql) t x y).run C.P w=.ok (.bool (if neg then !e else e)) w:=by
 have key:binOp (if neg then .neq else .eql) t x y=(do let q <-Op.equal t x y;pure (.bool (if neg then !q else q))):=by
  unfold mq at hu;split at hu
  ·rw[ha.nr,hb.nr];cases neg<;>rfl
  ·obtain⟨h0,-,-,rfl⟩:=ha.mu;rw[hb.nr];cases neg<;>rfl
  ·obtain⟨h0,-,-,rfl⟩:=hb.mu;rw[ha.nr];cases neg<;>rfl
  ·rw[ha.gz,hb.gz];cases neg<;>rfl
  ·obtain⟨_,rfl⟩:=ha.ns;rw[hb.gz];cases neg<;>rfl
  ·obtain⟨_,_,rfl,-⟩:=ha.rJ;rw[hb.gz];cases neg<;>rfl
  ·obtain⟨_,_,_,_,-,-,-,rfl⟩:=ha.kL;rw[hb.gz];cases neg<;>rfl
  ·rw[ha.qg,hb.qg];cases neg<;>rfl
  ·obtain⟨_,_,-,-,rfl⟩:=ha.vw;rw[hb.qg];cases neg<;>rfl
  ·rw[ha.qh,hb.qh];cases neg<;>rfl
  ·obtain⟨_,rfl,-⟩:=ha.Ek;rw[hb.qh];cases neg<;>rfl
  ·rw[ha.j6,hb.j6];cases neg<;>rfl
  ·cases hu
 rw[key,Sem.run_bind,a8];cases neg<;>rfl
theorem Vs{op:BinOp}{t:TypeId}{kind:Nat}{a b:V}{e:Bool}{x y:Value}{rI qf:Operand}(ha:aZ fid G w a x)(hb:aZ fid G w b y)(hu:mq kind a b=some e)
  (hc:kind=3->∃c,qf=.const c):eqGuard op t rI qf x y=pure ():=by
 unfold mq at hu;split at hu
 ·rw[ha.nr,hb.nr];cases op<;>rfl
 ·obtain⟨h0,-,-,rfl⟩:=ha.mu;rw[hb.nr];cases op<;>rfl
 ·obtain⟨h0,-,-,rfl⟩:=hb.mu;rw[ha.nr];cases op<;>rfl
 ·rw[ha.gz,hb.gz];cases op<;>rfl
 ·obtain⟨_,rfl⟩:=ha.ns;rw[hb.gz];cases op<;>rfl
 ·obtain⟨_,_,rfl,-⟩:=ha.rJ;rw[hb.gz];cases op<;>rfl
 ·obtain⟨_,_,_,_,-,-,-,rfl⟩:=ha.kL;rw[hb.gz];cases op<;>rfl
 ·rw[ha.qg,hb.qg];cases op<;>rfl
 ·obtain⟨_,_,-,-,rfl⟩:=ha.vw;rw[hb.qg];cases op<;>rfl
 ·rw[ha.qh,hb.qh]
  obtain⟨c,rfl⟩:=hc rfl;unfold eqGuard;cases op<;>simp
 ·obtain⟨_,rfl,-⟩:=ha.Ek;rw[hb.qh];cases op<;>rfl
 ·rw[ha.j6,hb.j6];cases op<;>rfl
 ·cases hu
theorem Vt{y:Operand}{iU:ah}(h:C.bF vars y=some iU)(hn:Ctx.Ag iU=true):∃c,y=.const c:=by
 cases y with
 |const c=>exact⟨c,rfl⟩
 |tmp t=>
  simp only[Ctx.bF,ay]at h;subst h;split at hn<;>simp[Ctx.Ag]at hn
 |func f=>
  simp only[Ctx.bF,bW]at h;obtain⟨_,-,rfl⟩:=h;simp[Ctx.Ag]at hn
 |global g=>simp[Ctx.bF]at h
theorem J9{t:TypeId}{k:Nat}(hk:C.iQ t=some k){a b:V}{x y:Value}{e:Bool}(ha:aZ fid G w a x)(hb:aZ fid G w b y)(he:gS k a b=some e)(d:Nat):
  (Op.equalIn (d+1) t x y).run C.P w=.ok e w:=by
 unfold Ctx.iQ at hk;unfold gS at he;split at he
 ·split at he
  ·rename_i xL
   simp only[ay]at he;subst he;subst xL;rw[ha.gH,hb.gH];split at hk<;>rename_i hd<;>simp at hk;exact run_equalIn_int w d t _ _ _ _ hd
  ·cases he
 ·simp only[ay]at he;subst he
  rw[ha.kK,hb.kK];split at hk<;>rename_i hd<;>simp at hk;rw[run_equalIn_string w d t _ _ hd,bytes_beq]
 ·simp only[ay]at he;subst he
  rw[ha.j6,hb.j6];split at hk<;>rename_i hd<;>simp at hk;exact run_equalIn_bool' w d t _ _ hd
 ·cases he
theorem Ka{t:TypeId}{k:Nat}(hk:C.iQ t=some k)(w:World):(isAgg t).run C.P w=.ok false w:=by
 unfold Ctx.iQ at hk;unfold isAgg;split at hk<;>rename_i hd<;>first|(cases hk;done)|(rw[Sem.run_bind,run_underlying hd];rfl)
theorem Kb{xs bX:List V}{lg lh:List Value}(hx:aW fid G w xs lg)(hy:aW fid G w bX lh)(d:Nat):∀(fs:List Field) (i:Nat) (dN:List Nat) (e:Bool),C.xx i fs=some dN->
  hS dN (xs.drop i) (bX.drop i)=some e->(Op.eqFields (d+1) ⟨lg⟩ ⟨lh⟩ fs).run C.P w=.ok e w
 |[],i,dN,e,hk,he=>by
  simp only[Ctx.xx,ay]at hk;subst hk;unfold hS at he;split at he
  ·simp only[ay]at he;subst he;rfl
  ·simp_all
  ·cases he
 |f::fs,i,dN,e,hk,he=>by
  simp only[Ctx.xx]at hk;split at hk
  ·rename_i k vB
   split at hk
   ·rename_i hc
    simp only[cH,bne_iff_ne,ne_eq,beq_iff_eq]at hc;obtain⟨vC,eO,rfl⟩:=bW.1 hk;cases om:xs.drop i with
    |nil=>rw[om]at he;simp[hS]at he
    |cons a pe=>
     cases qi:bX.drop i with
     |nil=>rw[om,qi]at he;simp[hS]at he
     |cons b El=>
      rw[om,qi]at he;simp only[hS]at he;have bY:xs[i]? =some a:=by have:=congrArg (·[0]?) om;simpa using this
      have iU:bX[i]? =some b:=by have:=congrArg (·[0]?) qi;simpa using this
      have Em:xs.drop (i+1)=pe:=by have:=congrArg (List.drop 1) om;simpa[u9]using this
      have En:bX.drop (i+1)=El:=by have:=congrArg (List.drop 1) qi;simpa[u9]using this
      obtain⟨cR,fR,Eo⟩:=hx.get bY;obtain⟨Ep,nt,Er⟩:=hy.get iU;split at he
      ·rename_i ae jJ
       split at he
       ·rename_i ai kk
        simp only[ay]at he;subst he;rw[<-Em,<-En]at kk;have ih:=Kb hx hy d fs (i+1) vC ai eO kk
        have hp:∀(l:List Value) (z:Value),l[i]? =some z->(part f.type ⟨l⟩ f.offset).run C.P w=.ok z w:=by
         intro l z aP;unfold part;simp only[Sem.run_bind,Ka vB,Result.andThen_ok,ga,if_false,hc.2,n2,aP,Sem.run_pure]
        simp only[Op.eqFields,hc.1,ne_eq,not_false_eq_true,if_true,Sem.run_bind,hp lg cR fR,hp lh Ep nt,Result.andThen_ok,J9 vB Eo Er jJ d,Sem.run_ite,Sem.run_pure,ih];cases ae<;>simp
       ·cases he
      ·cases he
   ·cases hk
  ·cases hk
theorem Kc:∀(mw tu:List Nat) (x y:List V) {e:Bool},hS (mw++tu) x y=some e->
  ∃ae ai,hS mw (x.take mw.length) (y.take mw.length)=some ae/\hS tu (x.drop mw.length) (y.drop mw.length)=some ai/\e=(ae&&ai)
 |[],tu,x,y,e,h=>⟨true,e,by simp[hS],by simpa using h,by simp⟩
 |k::dN,tu,[],y,e,h=>by simp[hS]at h
 |k::dN,tu,_::_,[],e,h=>by simp[hS]at h
 |k::dN,tu,a::x,b::y,e,h=>by
  simp only[kE,hS]at h;split at h
  ·rename_i fa h0
   split at h
   ·rename_i qj jr
    obtain⟨ae,ai,q1,q2,rfl⟩:=Kc dN tu x y jr;simp only[ay]at h;exact⟨fa&&ae,ai,by simp[hS,h0,q1],by simpa using q2,by rw[<-h,zY]⟩
   ·cases h
  ·cases h
theorem Es{xs bX:List V}{lg lh:List Value}(hx:aW fid G w xs lg)(hy:aW fid G w bX lh)(d:Nat):∀(fs:List Field) (i:Nat) (dN:List Nat) (e:Bool),C.vg i fs=some dN->
  hS dN (xs.drop i) (bX.drop i)=some e->(Op.eqFields (d+2) ⟨lg⟩ ⟨lh⟩ fs).run C.P w=.ok e w
 |[],i,dN,e,hk,he=>by
  simp only[Ctx.vg,ay]at hk;subst hk;unfold hS at he;split at he
  ·simp only[ay]at he;subst he;rfl
  ·simp_all
  ·cases he
 |f::fs,i,dN,e,hk,he=>by
  simp only[Ctx.vg]at hk;split at hk
  ·rename_i k vB
   split at hk
   ·rename_i hc
    simp only[cH,bne_iff_ne,ne_eq,beq_iff_eq]at hc;obtain⟨vC,eO,rfl⟩:=bW.1 hk;cases om:xs.drop i with
    |nil=>rw[om]at he;simp[hS]at he
    |cons a pe=>
     cases qi:bX.drop i with
     |nil=>rw[om,qi]at he;simp[hS]at he
     |cons b El=>
      rw[om,qi]at he;simp only[hS]at he;have bY:xs[i]? =some a:=by have:=congrArg (·[0]?) om;simpa using this
      have iU:bX[i]? =some b:=by have:=congrArg (·[0]?) qi;simpa using this
      have Em:xs.drop (i+1)=pe:=by have:=congrArg (List.drop 1) om;simpa[u9]using this
      have En:bX.drop (i+1)=El:=by have:=congrArg (List.drop 1) qi;simpa[u9]using this
      obtain⟨cR,fR,Eo⟩:=hx.get bY;obtain⟨Ep,nt,Er⟩:=hy.get iU;split at he
      ·rename_i ae jJ
       split at he
       ·rename_i ai kk
        simp only[ay]at he;subst he;rw[<-Em,<-En]at kk;have ih:=Es hx hy d fs (i+1) vC ai eO kk
        have hp:∀(l:List Value) (z:Value),l[i]? =some z->(part f.type ⟨l⟩ f.offset).run C.P w=.ok z w:=by
         intro l z aP;unfold part;simp only[Sem.run_bind,Ka vB,Result.andThen_ok,ga,if_false,hc.2,n2,aP,Sem.run_pure]
        simp only[Op.eqFields,hc.1,ne_eq,not_false_eq_true,if_true,Sem.run_bind,hp lg cR fR,hp lh Ep nt,Result.andThen_ok,J9 vB Eo Er jJ (d+1),Sem.run_ite,Sem.run_pure,ih];cases ae<;>simp
       ·cases he
      ·cases he
   ·cases hk
  ·rename_i vB
   split at hk
   ·rename_i gs tv
    split at hk
    ·rename_i mw Vu
     split at hk
     ·rename_i hc
      simp only[cH,bne_iff_ne,ne_eq,beq_iff_eq,o1]at hc;obtain⟨⟨⟨c1,c2⟩,ix⟩,l2⟩:=hc;obtain⟨vC,eO,rfl⟩:=bW.1 hk;obtain⟨ae,ai,jJ,kk,rfl⟩:=Kc mw vC _ _ he;rw[u9,u9]at kk;have ih:=Es hx hy d fs (i+mw.length) vC ai eO kk;have tw:C.P.fieldsOf f.type=gs:=by unfold Program.fieldsOf;rw[tv]
      have hp:∀(l:List Value),(part f.type ⟨l⟩ f.offset).run C.P w=.ok (.agg ⟨(l.drop i).take mw.length⟩) w:=by
       intro l;have D5:(isAgg f.type).run C.P w=.ok true w:=by unfold isAgg;rw[Sem.run_bind,run_underlying tv];rfl
       unfold Ctx.sizeOf at l2;obtain⟨inf,Vv,du⟩:=bW.1 l2;unfold part;simp only[Sem.run_bind,D5,Result.andThen_ok,if_true,sizeOf,typeInfo,Vv,run_program,Sem.run_pure,du,c2];congr 2;rw[<-Array.toList_inj];simp[List.take_drop,Nat.add_comm]
      have hin:(Op.equalIn (d+2) f.type (.agg ⟨(lg.drop i).take mw.length⟩) (.agg ⟨(lh.drop i).take mw.length⟩)).run C.P w=.ok ae w:=by
       rw[run_equalIn_struct (P:=C.P) w (d+1) f.type _ _ (by rw[tw];exact tv) ix,tw];exact Kb ((hx.drop i).take _) ((hy.drop i).take _) d gs.toList 0 mw ae Vu (by simpa using jJ)
      simp only[Op.eqFields,c1,ne_eq,not_false_eq_true,if_true,Sem.run_bind,hp lg,hp lh,Result.andThen_ok,hin,Sem.run_ite,Sem.run_pure,ih];cases ae<;>simp
     ·cases hk
    ·cases hk
   ·cases hk
theorem Vw{t:TypeId}{fs:Array Field}{dN:List Nat}(hd:C.P.underlying t=some (.struct fs))(hs:C.structEq t=some dN){xs bX:List V}{lg lh:List Value}(hx:aW fid G w xs lg)(hy:aW fid G w bX lh)
  {e:Bool} (he:hS dN xs bX=some e) (neg:Bool) (rI qf:Operand):
  (do eqGuard (if neg then .neq else .eql) t rI qf (.agg ⟨lg⟩) (.agg ⟨lh⟩);binOp (if neg then .neq else .eql) t (.agg ⟨lg⟩) (.agg ⟨lh⟩)).run C.P w=.ok (.bool (if neg then !e else e)) w:=by
 unfold Ctx.structEq at hs;rw[hd]at hs;simp only at hs;split at hs
 ·rename_i hc
  simp only[cH,o1]at hc;have af:C.P.fieldsOf t=fs:=by unfold Program.fieldsOf;rw[hd]
  have key:(Op.equalIn 10000 t (.agg ⟨lg⟩) (.agg ⟨lh⟩)).run C.P w=.ok e w:=by
   rw[run_equalIn_struct (P:=C.P) w 9999 t _ _ (by rw[af];exact hd) hc.1,af];exact Es hx hy 9997 fs.toList 0 dN e hs (by simpa using he)
  rw[Sem.run_bind,run_eqGuard_agg w _ t rI qf _ _ hc.2];cases neg
  ·simp only[ga,if_false,Result.andThen_ok,run_eql_struct,key]
  ·simp only[if_true,Result.andThen_ok,run_neq_struct,key]
 ·cases hs
theorem Vx (aa:aQ C fid G H w)(aE:eo C fid vars G w ag ρ){xM:BinOp}{t dr:TypeId}{x y:Operand}(ho:o.op=.binOp xM t x y dr)(hc:C.ca vars pos o.op=some cF)(he:step ag H low cF=some (v,H',low')):
  cv C fid G H w low ((execOp ρ o).run C.P w) v H' low':=by
 rw[ho]at hc;simp only[Ctx.ca]at hc;split at hc
 ·rename_i bY iU h1 h2
  have hx:=aE x bY h1;have hy:=aE y iU h2
  have plain:∀{a b:BinOp},step ag H low (.bin xM bY iU)=some (v,H',low')->a=b->cv C fid G H w low ((execOp ρ o).run C.P w) v H' low':=by
   intro _ _ he _;simp only[step]at he;obtain⟨u,hu,he⟩:=bW.1 he;simp only[a6]at he;obtain⟨rfl,rfl,rfl⟩:=he;obtain⟨z,aP,dU,aT⟩:=Vo (C:=C) (t:=t) hx hy hu;refine .same aa (x:=z) ?_ dU;unfold execOp;rw[ho];simp only[aT,Sem.run_bind,Sem.run_pure,Result.andThen_ok,aP]
  have agg:∀(neg:Bool) {fs:Array Field},xM=(if neg then .neq else .eql)->C.P.underlying t=some (.struct fs)->(C.structEq t).map (fun n=>b8.sQ neg n bY iU)=some cF->cv C fid G H w low ((execOp ρ o).run C.P w) v H' low':=by
   intro neg fs c5 hd hm;obtain⟨n,hn,rfl⟩:=bW.1 hm;simp only[step]at he;split at he
   ·rename_i xs bX ae ai
    obtain⟨e,xN,he⟩:=bW.1 he;simp only[a6]at he;obtain⟨rfl,rfl,rfl⟩:=he;rw[ae]at hx;rw[ai]at hy;obtain⟨lg,dV,Vy⟩:=hx.xF;obtain⟨lh,xO,Vz⟩:=hy.xF;have key:=Vw hd hn Vy Vz xN neg x y;rw[<-c5]at key;refine .same aa (x:=.bool (if neg then !e else e)) ?_ (.p _ _ (.bool _));unfold execOp;rw[ho];simp only[dV,xO];rw[Sem.run_bind,key];rfl
   ·cases he
  have kinds:∀(neg:Bool) {d:TypeDesc},xM=(if neg then .neq else .eql)->C.P.underlying t=some d->Ctx.sX d bY iU (.bin xM bY iU) neg=some cF->cv C fid G H w low ((execOp ρ o).run C.P w) v H' low':=by
   intro neg d c5 hd hk
   have go:∀kind,cF=.mY kind neg bY iU->kindOk kind d->
     (kind=3->∃c,y=.const c)->cv C fid G H w low ((execOp ρ o).run C.P w) v H' low':=by
    intro kind ha xL oj;subst ha;simp only[step]at he;obtain⟨e,xN,he⟩:=bW.1 he;simp only[a6]at he;obtain⟨rfl,rfl,rfl⟩:=he;have a8:=Vq (t:=t) hd hx hy xN xL;have hb:=Vr hx hy xN neg a8;rw[<-c5]at hb;refine .same aa (x:=.bool (if neg then !e else e)) ?_ (.p _ _ (.bool _));unfold execOp;rw[ho];simp only[Vs hx hy xN oj,Sem.run_bind,Sem.run_pure,Result.andThen_ok,hb]
   unfold Ctx.sX at hk;split at hk
   ·simp only[ay]at hk;subst hk;exact plain (a:=.add) (b:=.add) he rfl
   ·simp only[ay]at hk;subst hk;exact plain (a:=.add) (b:=.add) he rfl
   ·simp only[ay]at hk;exact go 0 hk.symm ⟨_,rfl⟩ (fun h=>by cases h)
   ·simp only[ay]at hk;exact go 1 hk.symm ⟨_,rfl⟩ (fun h=>by cases h)
   ·simp only[ay]at hk;exact go 2 hk.symm ⟨_,_,_,rfl⟩ (fun h=>by cases h)
   ·split at hk
    ·rename_i VA
     simp only[ay]at hk;exact go 3 hk.symm ⟨_,rfl⟩ (fun _=>Vt h2 VA)
    ·cases hk
   ·simp only[ay]at hk;exact go 4 hk.symm rfl (fun h=>by cases h)
   ·cases hk
  split at hc
  ·rename_i hd;exact agg false rfl hd hc
  ·rename_i hd;exact agg true rfl hd hc
  ·rename_i hd;exact kinds false rfl hd hc
  ·rename_i hd;exact kinds true rfl hd hc
  ·cases hc
  ·cases hc
  ·simp only[ay]at hc;subst hc;exact plain (a:=.add) (b:=.add) he rfl
 ·cases hc
end Go.Abs
namespace Go.Abs
open Go
variable{C:Ctx}{fid:Nat->Nat}{w w':World}{G G':bw}{H:Heap}
variable{vars:List Nat}{ag:ah->V}{ρ:Operand->Value}{low low':Nat}{v:V}{H':Heap}{pos:String}{cF:b8}{o:Oper}
theorem qk{x:Value}{k:IntKind}{m:Int}{n y:Nat}{code:BoundsCode}(hx:x=.int k m)(h0:0<=m)(hn:m.toNat=n)(hy:n<=y):
  (Instr.sliceBound x y code).run C.P w=.ok n w:=by
 subst hx;have:0<=m/\m<=(y:Int):=by omega
 simp only[Instr.sliceBound,asIntOf,Sem.run_bind,Sem.run_pure,Result.andThen_ok,this,and_self,if_true,hn]
theorem vD (aE:eo C fid vars G w ag ρ){x:Option Operand}{bY:Option ah}(hx:C.lX vars x=some bY){d n:Nat}(h:eM ag d bY=some n):
  (x=none/\bY=none/\n=d)\/∃y k m,x=some y/\ρ y=.int k m/\0<=m/\m.toNat=n:=by
 cases x with
 |none=>
  simp only[Ctx.lX,ay]at hx;subst hx;simp only[eM,ay]at h;exact .inl ⟨rfl,rfl,h.symm⟩
 |some y=>
  simp only[Ctx.lX,bW]at hx;obtain⟨iU,hy,rfl⟩:=hx;simp only[eM]at h;obtain⟨k,m,e,hm,hn⟩:=Ei h;have:=aE y iU hy;rw[e]at this;exact .inr ⟨y,k,m,rfl,this.gH,hm,hn⟩
theorem xP (aE:eo C fid vars G w ag ρ){cS hi:Option Operand}{rK oo:Option ah}(iV:C.lX vars cS=some rK)(my:C.lX vars hi=some oo){Kd:Bool}{len cap a b:Nat}
  (ha:eM ag 0 rK=some a) (hb:eM ag len oo=some b) (h1:a<=b) (h2:b<=len) (aq:len<=cap):
  (Instr.sliceBounds Kd len cap (cS.map ρ) (hi.map ρ) none).run C.P w=.ok (a,b,cap) w:=by
 unfold Instr.sliceBounds;have cw:∀(z:Nat × Nat × Nat),True:=fun _=>trivial;rcases vD aE my hb with⟨rfl,-,rfl⟩|⟨y,k,m,rfl,tx,hm,hn⟩
 ·rcases vD aE iV ha with⟨rfl,-,rfl⟩|⟨kO,bJ,m',rfl,xQ,gI,mz⟩
  ·simp only[sL,Sem.run_bind,Sem.run_pure,Result.andThen_ok]
  ·simp only[sL,lR,Sem.run_bind,Sem.run_pure,Result.andThen_ok,qk (C:=C) xQ gI mz h1]
 ·rcases vD aE iV ha with⟨rfl,-,rfl⟩|⟨kO,bJ,m',rfl,xQ,gI,mz⟩
  ·simp only[sL,lR,Sem.run_bind,Sem.run_pure,Result.andThen_ok,qk (C:=C) tx hm hn (cA h2 aq)]
  ·simp only[lR,Sem.run_bind,Sem.run_pure,Result.andThen_ok,qk (C:=C) tx hm hn (cA h2 aq),qk (C:=C) xQ gI mz h1]
theorem Et (aE:eo C fid vars G w ag ρ){cS hi mx:Option Operand}{rK oo:Option ah}{m:ah}(iV:C.lX vars cS=some rK)(my:C.lX vars hi=some oo)(nu:C.lX vars mx=some (some m))
  {len cap a d:Nat} (ha:eM ag 0 rK=some a) (hb:eM ag d oo=some 0) (vE:oo≠none) (h1:a<=0) (hm:k8 (ag m)=some 0):
  (Instr.sliceBounds true len cap (cS.map ρ) (hi.map ρ) (mx.map ρ)).run C.P w=.ok (0,0,0) w:=by
 unfold Instr.sliceBounds;obtain rfl:a=0:=by omega
 rcases vD aE nu (d:=0) (show eM ag 0 (some m)=some 0 from hm)with⟨-,q,-⟩|⟨z,ah3,ah4,rfl,Ke,Kf,Kg⟩
 ·cases q
 ·rcases vD aE my hb with⟨-,q,-⟩|⟨y,k,m',rfl,tx,gI,mz⟩
  ·exact absurd q vE
  ·rcases vD aE iV ha with⟨rfl,-,-⟩|⟨kO,bJ,ah5,rfl,xQ,VB,VC⟩
   ·simp only[sL,lR,Sem.run_bind,Sem.run_pure,Result.andThen_ok,qk (C:=C) Ke Kf Kg (ct _),qk (C:=C) tx gI mz (ct _)]
   ·simp only[lR,Sem.run_bind,Sem.run_pure,Result.andThen_ok,qk (C:=C) Ke Kf Kg (ct _),qk (C:=C) tx gI mz (ct _),qk (C:=C) xQ VB VC (ct _)]
theorem tz{t e:TypeId}(hd:C.P.underlying t=some (.slice e))(x:Value)(cS hi mx:Option Value):(Instr.sliceAt t x cS hi mx).run C.P w=(Instr.slice t x cS hi mx).run C.P w:=by
 unfold Instr.sliceAt;rw[Sem.run_bind,run_underlying hd];rfl
theorem VD{t:TypeId}(hd:C.P.underlying t=some .string)(x:Value)(cS hi mx:Option Value):(Instr.sliceAt t x cS hi mx).run C.P w=(Instr.slice t x cS hi mx).run C.P w:=by
 unfold Instr.sliceAt;rw[Sem.run_bind,run_underlying hd];rfl
theorem tA{t n:Nat}(hs:C.sizeOf t=some n)(w:World):(Go.sizeOf t).run C.P w=.ok n w:=by
 simp only[Ctx.sizeOf,bW]at hs;obtain⟨i,hi,rfl⟩:=hs;unfold Go.sizeOf;rw[Sem.run_bind,run_typeInfo (P:=C.P) w hi];rfl
theorem VE (s:List UInt8)(a b:Nat):(⟨⟨s⟩⟩:ByteArray).extract a b=⟨⟨(s.take b).drop a⟩⟩:=by
 apply ByteArray.ext;rw[ByteArray.data_extract];apply Array.ext';simp[List.drop_take]
theorem VF{es:Nat}{ds:List V}{x:Value}(h:aZ fid G w (.list es ds) x){a b:Nat}(rL:a<=b)(hb:b<=ds.length):
  ∃dd cap,x=.slice (some dd) ds.length cap/\ds.length<=cap/\aZ fid G w (.list es ((ds.take b).drop a)) (.slice (if cap=a then some dd else some (dd.add (a*es))) (b-a) (cap-a)):=by
 obtain⟨dd,cap,rfl,dB,a8⟩:=h.rJ;refine⟨dd,cap,rfl,dB,?_⟩;have hlen:((ds.take b).drop a).length=b-a:=by simp;omega
 by_cases hn:(ds.take b).drop a=[]
 ·have VG:b-a=0:=by rw[<-hlen,hn];rfl
  rw[hn,VG];split
  ·exact .p _ _ (.rF _ _ _)
  ·exact .p _ _ (.rF _ _ _)
 ·have aY:a<b:=by
   rcases fF a b with q|q
   ·exact q
   ·exact absurd (u5.1 (by omega)) hn
  rcases a8 with rfl|⟨tB,cC,vals,rfl,ch,hc,hu,hr⟩
  ·simp at hn
  ·rw[if_neg (by omega),Addr.add_lit]
   have Kh:∀d∈ds.take b,(aL d).length=es:=fun d hd=>hu d (CY hd)
   have key:=ev.list (w:=w) (I:=G.I) es ((ds.take b).drop a) tB (cC+a*es) (cap-a) ((vals.take (b*es)).drop (a*es)) ch ((hc.take _).drop _)
    (fun d hd=>Kh d (zO hd)) (by
      rw[tq Kh,vq hu];exact(hr.take _).drop _) (by rw[hlen];omega)
   rw[hlen]at key;exact .p _ _ key
theorem VH (aa:aQ C fid G H w)(aE:eo C fid vars G w ag ρ){t:TypeId}{x:Operand}{cS hi mx:Option Operand}(ho:o.op=.slice t x cS hi mx)(hc:C.ca vars pos o.op=some cF)(he:step ag H low cF=some (v,H',low')):
  cv C fid G H w low ((execOp ρ o).run C.P w) v H' low':=by
 rw[ho]at hc
 have bR:(execOp ρ o).run C.P w=((Instr.sliceAt t (ρ x) (cS.map ρ) (hi.map ρ) (mx.map ρ)).run C.P w).andThen fun z w'=>.ok (.value z) w':=by
  unfold execOp;rw[ho];simp only[Sem.run_bind];rfl
 simp only[Ctx.ca]at hc;split at hc
 ·rename_i bY rK oo hd h2 iV my nu
  simp only[ay]at hc;subst hc;have ad:=aE x bY h2;simp only[step]at he;split at he
  ·rename_i s ae
   split at he
   ·rename_i a b ha hb
    split at he
    ·rename_i hle
     simp only[ay,a6]at he;obtain⟨rfl,rfl,rfl⟩:=he;rw[ae]at ad
     obtain rfl:mx=none:=by
      cases mx with
      |none=>rfl
      |some y=>simp[Ctx.lX]at nu
     have eN:=xP (C:=C) (Kd:=false) (cap:=s.length) aE iV my ha hb hle.1 hle.2 (aI _);refine .same aa (x:=.string ⟨⟨(s.take b).drop a⟩⟩) ?_ (.p _ _ (.str _));rw[bR,VD hd,ad.kK];unfold Instr.slice;have VI:(⟨⟨s⟩⟩:ByteArray).size=s.length:=rfl;simp only[Sem.run_bind,run_underlying hd,Result.andThen_ok,sL,Option.isSome_none,ga,if_false,VI,eN,Sem.run_pure,VE]
    ·cases he
   ·cases he
  ·cases he
 ·rename_i e bY rK oo Az hd h2 iV my nu
  split at hc
  ·rename_i n hn
   split at hc
   ·cases hc
   ·rename_i j8
    simp only[ay]at hc;subst hc;have ad:=aE x bY h2;have kj:=tA (C:=C) hn
    have VJ:oo.isNone=true->Az.isSome=true->False:=by
     intro h1 h2;simp[h1,h2]at j8
    have Eu:∀{q:Option ah},C.lX vars mx=some q->q=none->mx=none:=by
     intro q h1 h2;cases mx with
     |none=>rfl
     |some y=>simp[Ctx.lX,h2]at h1
    have Ev:∀{m:ah},Az=some m->oo≠none:=by
     rintro m rfl rfl;exact VJ rfl rfl
    have Ki:∀{cap:Nat},0<=cap->eM ag 0 rK=some 0->eM ag 0 oo=some 0->eM ag 0 Az=some 0->(Instr.sliceBounds true 0 0 (cS.map ρ) (hi.map ρ) (mx.map ρ)).run C.P w=.ok (0,0,0) w:=by
     intro _ _ ha hb hm;cases a8:Az with
     |none=>
      rw[a8]at nu;rw[Eu nu rfl];exact xP (C:=C) aE iV my ha hb (aI _) (aI _) (aI _)
     |some m=>
      rw[a8]at nu hm;exact Et (C:=C) aE iV my nu ha hb (Ev a8) (aI _) hm
    simp only[step]at he;split at he
    ·rename_i ae
     split at he
     ·rename_i ha hb hm
      simp only[ay,a6]at he;obtain⟨rfl,rfl,rfl⟩:=he;rw[ae]at ad;refine .same aa (x:=.slice none 0 0) ?_ (.p _ _ .ak);rw[bR,tz hd,ad.gz];unfold Instr.slice;simp only[Sem.run_bind,run_underlying hd,Result.andThen_ok,Ki (cap:=0) (ct _) ha hb hm,kj,Sem.run_pure];rfl
     ·cases he
    ·rename_i ae
     split at he
     ·rename_i ha hb hm
      simp only[ay,a6]at he;obtain⟨rfl,rfl,rfl⟩:=he;rw[ae]at ad;obtain⟨dd,hx⟩:=ad.ns;refine .same aa (x:=.slice (some dd) 0 0) ?_ (.p _ _ (.emp _));rw[bR,tz hd,hx];unfold Instr.slice;simp only[Sem.run_bind,run_underlying hd,Result.andThen_ok,Ki (cap:=0) (ct _) ha hb hm,kj,Sem.run_pure];rfl
     ·cases he
    ·rename_i bG ds ae
     split at he
     ·rename_i a b ha hb
      split at he
      ·rename_i hle
       obtain⟨rL,fp,rfl⟩:=hle;rw[ae]at ad;obtain⟨dd,cap,hx,dB,dU⟩:=VF ad rL fp;split at he
       ·simp only[ay,a6]at he
        obtain⟨rfl,rfl,rfl⟩:=he;obtain rfl:=Eu nu rfl;refine .same aa ?_ dU;rw[bR,tz hd,hx];unfold Instr.slice;simp only[Sem.run_bind,run_underlying hd,Result.andThen_ok,sL,xP (C:=C) aE iV my ha hb rL fp dB,kj,Sem.run_pure];rfl
       ·rename_i m
        split at he
        ·rename_i hm
         obtain⟨Ew,rfl⟩:=hm;simp only[ay,a6]at he;obtain⟨rfl,rfl,rfl⟩:=he;refine .same aa (x:=.slice (some dd) 0 0) ?_ (.p _ _ (.emp _));rw[bR,tz hd,hx];unfold Instr.slice;simp only[Sem.run_bind,run_underlying hd,Result.andThen_ok,Et (C:=C) aE iV my nu ha hb (Ev rfl) rL Ew,kj,Sem.run_pure];rfl
        ·cases he
      ·cases he
     ·cases he
    ·rename_i l bG off len tag ae
     split at he
     ·rename_i a b ha hb
      split at he
      ·rename_i hle
       obtain⟨rL,fp,rfl⟩:=hle;rw[ae]at ad;obtain⟨h0,dd,b5,cap,bN,l1,fQ,hx⟩:=ad.kL;split at he
       ·split at he
        ·rename_i dZ ds fz hl
         split at he
         ·rename_i dy
          obtain⟨eD,rfl⟩:=dy;obtain rfl:=Eu nu rfl;obtain⟨aJ,dF,hr⟩:=aa.obj l h0 bN;rw[hl]at dF;cases dF;obtain⟨rfl,rfl,en,lj⟩:=fQ (hr.1.trans eD);split at he
          ·rename_i aY
           simp only[ay,a6]at he;obtain⟨rfl,rfl,rfl⟩:=he;refine .same aa (x:=.slice (some ⟨h0.b,(off+a)*dZ,none⟩) (b-a) (cap-a)) ?_ (.aN l dZ (off+a) (b-a) tag h0 _ _ _ bN l1 (fun _=>⟨rfl,rfl,?_,by omega⟩))
           ·rw[bR,tz hd,hx]
            unfold Instr.slice;simp only[Sem.run_bind,run_underlying hd,Result.andThen_ok,sL,xP (C:=C) aE iV my ha hb rL fp lj,kj,Sem.run_pure];rw[if_neg (by omega),lR,Addr.add_lit,pY]
           ·have:off+a+(cap-a)=off+cap:=by omega
            rw[this];exact en
          ·rename_i aY
           simp only[ay,a6]at he;obtain⟨rfl,rfl,rfl⟩:=he;obtain rfl:a=b:=by omega
           have key:∀(q:Addr),aZ fid G w (.list dZ []) (.slice (some q) (a-a) (cap-a)):=fun q=>by rw[Nat.sub_self];exact .p _ _ (.rF _ _ _)
           refine .same aa (x:=.slice (if cap=a then some ⟨h0.b,off*dZ,none⟩else some (Addr.add ⟨h0.b,off*dZ,none⟩ (a*dZ))) (a-a) (cap-a)) ?_ (by split<;>exact key _);rw[bR,tz hd,hx];unfold Instr.slice;simp only[Sem.run_bind,run_underlying hd,Result.andThen_ok,sL,xP (C:=C) aE iV my ha hb rL fp lj,kj,Sem.run_pure];rfl
         ·cases he
        ·cases he
       ·rename_i m
        split at he
        ·rename_i hm
         obtain⟨Ew,rfl⟩:=hm;simp only[ay,a6]at he;obtain⟨rfl,rfl,rfl⟩:=he;refine .same aa (x:=.slice (some dd) 0 0) ?_ (.p _ _ (.emp _));rw[bR,tz hd,hx];unfold Instr.slice;simp only[Sem.run_bind,run_underlying hd,Result.andThen_ok,Et (C:=C) aE iV my nu ha hb (Ev rfl) rL Ew,kj,Sem.run_pure];rfl
        ·cases he
      ·cases he
     ·cases he
    ·cases he
  ·cases hc
 ·cases hc
end Go.Abs
namespace Go.Abs
open Go
variable{C:Ctx}{fid:Nat->Nat}{w w':World}{G G':bw}{H:Heap}
variable{vars:List Nat}{ag:ah->V}{ρ:Operand->Value}{low low':Nat}{v:V}{H':Heap}{pos:String}{cF:b8}{o:Oper}
theorem cD.split:∀{vs us:List V} {cq:List Value} {I:Nat->Prop},cD w I (vs++us) cq->∃xs bX,cq=xs++bX/\cD w I vs xs/\cD w I us bX
 |[],us,cq,_,h=>⟨[],cq,rfl,.nil,h⟩
 |v::vs,us,_,_,.cons _ x _ xs h hs=>by
  obtain⟨aC,aB,rfl,h1,h2⟩:=cD.split (vs:=vs) hs;exact⟨x::aC,aB,rfl,.cons v x vs aC h h1,h2⟩
theorem VK (aa:aQ C fid G H w)(aE:eo C fid vars G w ag ρ){t:TypeId}{x i:Operand}(ho:o.op=.indexAddr t x i)(hc:C.ca vars pos o.op=some cF)(he:step ag H low cF=some (v,H',low')):
  cv C fid G H w low ((execOp ρ o).run C.P w) v H' low':=by
 rw[ho]at hc;simp only[Ctx.ca]at hc;split at hc
 ·rename_i e bY oi hd h2 aq
  split at hc
  ·rename_i n hn
   split at hc
   ·cases hc
   ·simp only[ay]at hc;subst hc
    have kj:=tA (C:=C) hn;have hx:=aE x bY h2;have hi:=aE i oi aq;simp only[step]at he;split at he
    ·rename_i j VL
     obtain⟨k,m,em,hm,VM⟩:=Ei VL;rw[em]at hi
     have bR:∀dd len cap,ρ x=.slice (some dd) len cap->j<len->(execOp ρ o).run C.P w=.ok (.value (.pointer (some (dd.add (j*n))))) w:=by
      intro dd len cap c8 aY;have dy:0<=m/\m<(len:Int):=by omega
      unfold execOp;rw[ho];simp only[c8,hi.gH,Instr.indexAt,asIntOf,Sem.run_bind,Sem.run_pure,Result.andThen_ok,run_underlying hd,dy,and_self,if_true,kj,VM]
     split at he
     ·rename_i bG ds ae
      split at he
      ·rename_i dT
       subst dT;obtain⟨d,VN,he⟩:=bW.1 he;simp only[a6]at he;obtain⟨rfl,rfl,rfl⟩:=he;rw[ae]at hx;obtain⟨dd,cap,c8,dB,a8⟩:=hx.rJ;obtain⟨aY,VO⟩:=fu.1 VN;rcases a8 with rfl|⟨b,cC,vals,rfl,ch,hcell,hu,hr⟩
       ·simp at aY
       ·refine .same aa (bR _ _ _ c8 aY) ?_
        rw[Addr.add_lit];have h2:ds.drop j=d::ds.drop (j+1):=by rw[<-VO];exact xh aY
        have aq:=hr.drop (j*bG);rw[<-tq hu,h2,j0]at aq;obtain⟨xs,bX,VP,VQ,-⟩:=aq.split;have vt:=hcell.drop (j*bG);rw[VP]at vt
        have VR:gb w b (cC+j*bG) xs:=fun a c Kj=>vt a c (by
         rw[ft (by
          rcases fF a xs.length with q|q
          ·exact q
          ·simp[k6 q]at Kj)];exact Kj)
        exact .dp _ 0 b (cC+j*bG) xs ch VR VQ
      ·cases he
     ·rename_i l bG off len tag ae
      split at he
      ·rename_i dZ ds fz hl
       split at he
       ·rename_i dy
        obtain⟨rfl,rfl,eD,lk,pf⟩:=dy;simp only[ay,a6]at he;obtain⟨rfl,rfl,rfl⟩:=he;rw[ae]at hx;obtain⟨h0,dd,b5,cap,bN,l1,fQ,c8⟩:=hx.kL;obtain⟨aJ,dF,hr⟩:=aa.obj l h0 bN;rw[hl]at dF;cases dF;obtain⟨rfl,rfl,en,lj⟩:=fQ (hr.1.trans eD);refine .same aa (bR _ _ _ c8 lk) (.fm l _ (off+j) 0 tag h0 _ bN l1 (fun _=> ?_));rw[Addr.add_lit,sN,pY]
       ·cases he
      ·cases he
     ·cases he
    ·cases he
  ·cases hc
 ·cases hc
theorem rM{b:Builtin}{args:Array Operand}{bc:Array TypeId}(ho:o.op=.call {callee:=.builtin b,args,argTypes:=bc}):
  (execOp ρ o).run C.P w=(builtin b bc o.type (args.map fun| .const _=>true| _=>false) (args.map ρ)).run C.P w:=by
 unfold execOp;rw[ho];simp only[resolve,invoke,Sem.run_bind,Sem.run_pure,Result.andThen_ok];rfl
theorem Kk (aa:aQ C fid G H w)(aE:eo C fid vars G w ag ρ){b:Builtin}{x y:Operand}{args:Array Operand}{bc:Array TypeId}(ho:o.op=.call {callee:=.builtin b,args,argTypes:=bc})
  (ha:args= #[x,y]) {mx:Bool} (hb:b=if mx then .max else .min) {bY iU:ah} (h1:C.bF vars x=some bY) (h2:C.bF vars y=some iU) (he:step ag H low (.p3 mx bY iU)=some (v,H',low')):
  cv C fid G H w low ((execOp ρ o).run C.P w) v H' low':=by
 subst ha;have hx:=aE x bY h1;have hy:=aE y iU h2;simp only[step]at he;split at he
 ·rename_i k a bJ dE ae ai
  split at he
  ·rename_i hk
   subst hk;simp only[ay,a6]at he;obtain⟨rfl,rfl,rfl⟩:=he;rw[ae]at hx;rw[ai]at hy;refine .same aa (x:=.int k (if mx then max a dE else min a dE)) ?_ (.p _ _ (.int _ _));rw[rM ho];subst hb;cases mx
   ·have hm:(if dE<a then dE else a)=min a dE:=by
     rw[Int.min_def];split<;>split<;>omega
    simp[builtin,Builtin.min_,Builtin.min2,hx.gH,hy.gH,hm]
   ·have hm:(if a<dE then dE else a)=max a dE:=by
     rw[Int.max_def];split<;>split<;>omega
    simp[builtin,Builtin.max_,Builtin.max2,hx.gH,hy.gH,hm]
  ·cases he
 ·cases he
theorem Ex (aa:aQ C fid G H w)(aE:eo C fid vars G w ag ρ){x:Operand}{t:TypeId}{args:Array Operand}{bc:Array TypeId}(ho:o.op=.call {callee:=.builtin .len,args,argTypes:=bc})
  (ha:args= #[x]) (ht:bc= #[t]) {bY:ah} (h1:C.bF vars x=some bY) {kind:Nat} (hk:match kind with|0=>C.P.underlying t=some .string|1=>∃e,C.P.underlying t=some (.slice e)| _=>∃k e,C.P.underlying t=some (.map k e))
  (he:step ag H low (.len kind bY)=some (v,H',low')):cv C fid G H w low ((execOp ρ o).run C.P w) v H' low':=by
 subst ha;subst ht;have hx:=aE x bY h1
 have bR:∀(n:Nat),(Builtin.len_ #[t] o.type #[ρ x]).run C.P w=.ok (goInt n) w->cv C fid G H w low ((execOp ρ o).run C.P w) (.int .i64 n) H low:=by
  intro n hn;refine .same aa (x:=.int .i64 n) ?_ (.p _ _ (.int _ _));rw[rM ho];simp only[builtin,Sem.run_bind];have e:Array.map ρ #[x]= #[ρ x]:=by simp
  rw[e,hn];rfl
 simp only[step]at he;split at he
 ·rename_i s ae
  simp only[ay,a6]at he;obtain⟨rfl,rfl,rfl⟩:=he;rw[ae]at hx;refine bR s.length ?_;have hk:C.P.underlying t=some .string:=hk;simp only[Builtin.len_,hx.kK,Sem.run_bind,run_underlying hk,Result.andThen_ok,n2,lN,Sem.run_pure];rfl
 ·rename_i ae
  simp only[ay,a6]at he;obtain⟨rfl,rfl,rfl⟩:=he;rw[ae]at hx;obtain⟨e,hk⟩:∃e,C.P.underlying t=some (.slice e):=hk;refine bR 0 ?_;simp only[Builtin.len_,hx.gz,Sem.run_bind,run_underlying hk,Result.andThen_ok,n2,lN,Sem.run_pure]
 ·rename_i ae
  simp only[ay,a6]at he;obtain⟨rfl,rfl,rfl⟩:=he;rw[ae]at hx;obtain⟨e,hk⟩:∃e,C.P.underlying t=some (.slice e):=hk;obtain⟨dd,c8⟩:=hx.ns;refine bR 0 ?_;simp only[Builtin.len_,c8,Sem.run_bind,run_underlying hk,Result.andThen_ok,n2,lN,Sem.run_pure]
 ·rename_i es ds ae
  simp only[ay,a6]at he;obtain⟨rfl,rfl,rfl⟩:=he;rw[ae]at hx;obtain⟨e,hk⟩:∃e,C.P.underlying t=some (.slice e):=hk;obtain⟨dd,cap,c8,-,-⟩:=hx.rJ;refine bR ds.length ?_;simp only[Builtin.len_,c8,Sem.run_bind,run_underlying hk,Result.andThen_ok,n2,lN,Sem.run_pure]
 ·rename_i l es off len tag ae
  obtain⟨e,hk⟩:∃e,C.P.underlying t=some (.slice e):=hk;split at he
  ·rename_i bG ds fz hl
   split at he
   ·rename_i dy
    simp only[ay,a6]at he;obtain⟨rfl,rfl,rfl⟩:=he;rw[ae]at hx;obtain⟨h0,dd,b5,cap,bN,l1,fQ,c8⟩:=hx.kL;obtain⟨aJ,dF,hr⟩:=aa.obj l h0 bN;rw[hl]at dF;cases dF;obtain⟨rfl,rfl,en,lj⟩:=fQ (hr.1.trans dy.2);refine bR b5 ?_;simp only[Builtin.len_,c8,Sem.run_bind,run_underlying hk,Result.andThen_ok,n2,lN,Sem.run_pure]
   ·cases he
  ·rename_i r hl
   split at he
   ·rename_i dy
    simp only[ay,a6]at he;obtain⟨rfl,rfl,rfl⟩:=he;rw[ae]at hx;obtain⟨h0,dd,b5,cap,bN,l1,fQ,c8⟩:=hx.kL;obtain⟨aJ,dF,hr⟩:=aa.obj l h0 bN;rw[hl]at dF;cases dF;obtain⟨rfl,rfl,en,lj⟩:=fQ (hr.2.1.trans dy);refine bR b5 ?_;simp only[Builtin.len_,c8,Sem.run_bind,run_underlying hk,Result.andThen_ok,n2,lN,Sem.run_pure]
   ·cases he
  ·cases he
 ·rename_i ae
  simp only[ay,a6]at he;obtain⟨rfl,rfl,rfl⟩:=he;rw[ae]at hx;obtain⟨k,e,hk⟩:∃k e,C.P.underlying t=some (.map k e):=hk;refine bR 0 ?_;simp only[Builtin.len_,hx.Ej,Sem.run_bind,run_underlying hk,Result.andThen_ok,n2,lN,Sem.run_pure];rfl
 ·rename_i l ae
  obtain⟨k,e,hk⟩:∃k e,C.P.underlying t=some (.map k e):=hk;split at he
  ·rename_i bA hl
   simp only[ay,a6]at he;obtain⟨rfl,rfl,rfl⟩:=he;rw[ae]at hx;obtain⟨h0,bN,-,c8⟩:=hx.mapInv;obtain⟨aJ,dF,hr⟩:=aa.obj l h0 bN;rw[hl]at dF;cases dF;obtain⟨-,-,es,b3,hm,gJ,vF,-⟩:=hr;have hlen:=gJ.length;simp only[eA,e9]at hlen;refine bR bA.length ?_;have aT:(getObj h0.b).run C.P w=.ok (.map es b3) w:=by simp[getObj,Sem.run,hm]
   simp only[Builtin.len_,c8,Sem.run_bind,run_underlying hk,Result.andThen_ok,n2,lN,aT,Sem.run_pure,hlen]
  ·cases he
 ·cases he
end Go.Abs
