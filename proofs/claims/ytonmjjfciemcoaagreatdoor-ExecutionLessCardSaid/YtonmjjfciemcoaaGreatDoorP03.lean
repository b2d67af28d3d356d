/- Texts of this claim, joined and written short by a program. -/
import Derived.Test.YtonmjjfciemcoaaGreatDoorP02
import Derived.WalkLawsBesides
import Derived.Laws.StructEq
import Derived.Test.YtonmjjfciemcoaaGreatDoorP00
set_option linter.unusedVariables false
set_option linter.unusedSimpArgs false
set_option linter.unusedSectionVars false
namespace Go.Abs
open Go
variable{C:Ctx}{fid:Nat->Nat}{w w':World}{G G':bX}{H:Heap}
variable{vars:List Nat}{ah:aj->V}{ρ:Operand->Value}{low low':Nat}{v:V}{H':Heap}{pos:String}{dm:cV}{o:Oper}
theorem XG (ab:a8 C fid G H w)(aP:fB C fid vars G w ah ρ){x:Operand}(ho:o.op=.move x\/o.op=.assign x)(hc:C.cX vars pos o.op=some dm)(he:step ah H low dm=some (v,H',low')):
  db C fid G H w low ((execOp ρ o).run C.P w) v H' low':=by
 have tr:(C.cg vars x).map cV.mv=some dm:=by rcases ho with ho|ho<;>(rw[ho]at hc;exact hc)
 obtain⟨cO,hx,rfl⟩:=cA.1 tr;simp only[step,aB,bx]at he;obtain⟨rfl,rfl,rfl⟩:=he;exact .same ab (x:=ρ x) (by unfold execOp;rcases ho with ho|ho<;>rw[ho]<;>rfl) (aP x cO hx)
theorem akY (ab:a8 C fid G H w)(aP:fB C fid vars G w ah ρ){c a b:Operand}(ho:o.op=.pick c a b)(hc:C.cX vars pos o.op=some dm)(he:step ah H low dm=some (v,H',low')):
  db C fid G H w low ((execOp ρ o).run C.P w) v H' low':=by
 rw[ho]at hc;simp only[Ctx.cX]at hc;split at hc
 ·rename_i c' bk e1 h1 h2 ar
  simp only[aB]at hc;subst hc;simp only[step]at he;obtain⟨t,ht,he⟩:=cA.1 he;simp only[bx]at he;obtain⟨rfl,rfl,rfl⟩:=he
  have gv:ah c'=.bool t:=by
   unfold p9 at ht;split at ht
   ·simp only[aB]at ht;subst ht;assumption
   ·cases ht
  have:=aP c c' h1;rw[gv]at this;have hb:=this.k5;refine .same ab (x:=if t then ρ a else ρ b) (by unfold execOp;rw[ho];simp only[hb,asBool,Sem.run_bind,Sem.run_pure,Result.andThen_ok]) ?_;cases t
  ·exact aP b e1 ar
  ·exact aP a bk h2
 ·cases hc
theorem akZ (ab:a8 C fid G H w)(aP:fB C fid vars G w ah ρ){x:Operand}(ho:o.op=.nilCheck x)(hc:C.cX vars pos o.op=some dm)(he:step ah H low dm=some (v,H',low')):
  db C fid G H w low ((execOp ρ o).run C.P w) v H' low':=by
 rw[ho]at hc;obtain⟨cO,hx,rfl⟩:=cA.1 hc;have ad:=aP x cO hx;simp only[step]at he;split at he
 ·rename_i l o' e
  simp only[aB,bx]at he;obtain⟨rfl,rfl,rfl⟩:=he;rw[e]at ad;obtain⟨h0,hb,ht,dT⟩:=ad.pj;exact .same ab (x:=ρ x) (by unfold execOp;rw[ho];simp only[dT];rfl) ad
 ·rename_i l es i f tag e
  simp only[aB,bx]at he;obtain⟨rfl,rfl,rfl⟩:=he;rw[e]at ad;obtain⟨h0,a,hb,hle,ha,dT⟩:=ad.F0;exact .same ab (x:=ρ x) (by unfold execOp;rw[ho];simp only[dT];rfl) ad
 ·rename_i vs f e
  simp only[aB,bx]at he;obtain⟨rfl,rfl,rfl⟩:=he;rw[e]at ad;obtain⟨b,o',vals,bq,hc,hr,dT⟩:=ad.Ph;exact .same ab (x:=ρ x) (by unfold execOp;rw[ho];simp only[dT];rfl) ad
 ·rename_i i a b e
  simp only[aB,bx]at he;obtain⟨rfl,rfl,rfl⟩:=he;rw[e]at ad;obtain⟨xs,cK,ag,hc,dT⟩:=ad.C8;exact .same ab (x:=ρ x) (by unfold execOp;rw[ho];simp only[dT];rfl) ad
 ·cases he
theorem ak0 (ab:a8 C fid G H w)(aP:fB C fid vars G w ah ρ){op:UnOp}{t:TypeId}{x:Operand}(ho:o.op=.unOp op t x)(hc:C.cX vars pos o.op=some dm)(he:step ah H low dm=some (v,H',low')):
  db C fid G H w low ((execOp ρ o).run C.P w) v H' low':=by
 rw[ho]at hc;obtain⟨cO,hx,rfl⟩:=cA.1 hc;have ad:=aP x cO hx;simp only[step]at he;obtain⟨u,hu,he⟩:=cA.1 he;simp only[bx]at he;obtain⟨rfl,rfl,rfl⟩:=he;unfold qa at hu;split at hu
 ·rename_i k n e
  simp only[aB]at hu;subst hu;rw[e]at ad;exact .same ab (x:=.int k (k.wrap (0-n))) (by unfold execOp;rw[ho];simp only[ad.iW,Op.unary,Op.intArith,Sem.run_bind,Sem.run_pure,Result.andThen_ok]) (.p _ _ (.int _ _))
 ·rename_i b e
  simp only[aB]at hu;subst hu;rw[e]at ad;exact .same ab (x:=.bool !b) (by unfold execOp;rw[ho];simp only[ad.k5,Op.unary,Sem.run_bind,Sem.run_pure,Result.andThen_ok]) (.p _ _ (.bool _))
 ·cases hu
theorem ak1 (ab:a8 C fid G H w)(aP:fB C fid vars G w ah ρ){s d:TypeId}{x:Operand}(ho:o.op=.convert s d x)(hnb:∀x,dm≠ .vT x)(hc:C.cX vars pos o.op=some dm)(he:step ah H low dm=some (v,H',low')):
  db C fid G H w low ((execOp ρ o).run C.P w) v H' low':=by
 rw[ho]at hc;simp only[Ctx.cX]at hc;split at hc
 ·rename_i k0 k cO h1 h2 ar
  simp only[aB]at hc;subst hc;have ad:=aP x cO ar;simp only[step]at he;split at he
  ·rename_i bF n e
   simp only[aB,bx]at he;obtain⟨rfl,rfl,rfl⟩:=he;rw[e]at ad;exact .same ab (x:=.int k (k.wrap n)) (by unfold execOp;rw[ho];simp only[ad.iW,convert,Sem.run_bind,run_underlying h1,run_underlying h2,Result.andThen_ok,Conv.intToInt,Sem.run_pure]) (.p _ _ (.int _ _))
  ·cases he
 ·split at hc
  ·simp only[aB]at hc;exact absurd hc.symm (hnb _)
  ·cases hc
 ·cases hc
theorem ak2 (ab:a8 C fid G H w)(aP:fB C fid vars G w ah ρ){t:TypeId}{x:Operand}(ho:o.op=.makeInterface t x)(hc:C.cX vars pos o.op=some dm)(he:step ah H low dm=some (v,H',low')):
  db C fid G H w low ((execOp ρ o).run C.P w) v H' low':=by
 rw[ho]at hc;simp only[Ctx.cX]at hc;split at hc
 ·cases hc
 ·rename_i d cO bg h1 h2
  simp only[aB]at hc;subst hc;have ad:=aP x cO h2;simp only[step]at he;split at he
  ·rename_i v1 H1 bO ag
   simp only[aB,bx]at he;obtain⟨rfl,rfl,rfl⟩:=he;obtain⟨az,f1,bQ⟩:=FX ab ad ag;refine db.C7 f1 (db.same f1.rel (x:=.iface t (ρ x)) ?_ (.iface _ _ _ bQ));unfold execOp;rw[ho];simp only[Instr.makeInterface,Sem.run_bind,run_underlying h1,Result.andThen_ok];cases d<;>first|rfl|(exfalso;exact bg _ h1)
  ·cases he
 ·cases hc
theorem KF (aP:fB C fid vars G w ah ρ):∀{xs:List Operand} {Pm:List aj},dM (C.cg vars) xs=some Pm->a6 fid G w (Pm.map ah) (xs.map ρ)
 |[],_,h=>by simp only[dM,aB]at h;subst h;exact .nil
 |x::xs,_,h=>by
  simp only[dM]at h;split at h
  ·rename_i cO hx
   split at h
   ·rename_i Pm eN
    simp only[aB]at h;subst h;exact .cons _ _ _ _ (aP x cO hx) (KF aP eN)
   ·cases h
  ·cases h
theorem ak3 (bC:e7 C fid)(ab:a8 C fid G H w)(aP:fB C fid vars G w ah ρ){f:Fn}{a b:Array Operand}(ho:o.op=.makeFunc f a b)(hc:C.cX vars pos o.op=some dm)(he:step ah H low dm=some (v,H',low')):
  db C fid G H w low ((execOp ρ o).run C.P w) v H' low':=by
 rw[ho]at hc;cases f with
 |func f=>
  simp only[Ctx.cX]at hc;split at hc
  ·rename_i i bk e1 h1 h2 ar
   simp only[aB]at hc;subst hc;simp only[step,aB,bx]at he;obtain⟨rfl,rfl,rfl⟩:=he;refine .same ab (x:=.func (.func f) (a.map ρ) (b.map ρ)) (by unfold execOp;rw[ho];rfl) ?_;have e:=bC.f f i h1;subst e;have:=bh.fn (fid:=fid) i _ _ _ _ (KF aP h2) (KF aP ar);have af:a.map ρ=⟨a.toList.map ρ⟩:=by rw[<-Om]
   have ak:b.map ρ=⟨b.toList.map ρ⟩:=by rw[<-Om]
   rw[af,ak];exact this
  ·cases hc
 | _=>simp[Ctx.cX]at hc
theorem ak4 (ab:a8 C fid G H w)(aP:fB C fid vars G w ah ρ){x:Operand}{i:Nat}(ho:o.op=.extract x i)(hc:C.cX vars pos o.op=some dm)(he:step ah H low dm=some (v,H',low')):
  db C fid G H w low ((execOp ρ o).run C.P w) v H' low':=by
 rw[ho]at hc;obtain⟨cO,hx,rfl⟩:=cA.1 hc;have ad:=aP x cO hx;simp only[step]at he;split at he
 ·rename_i vs e
  obtain⟨u,hu,he⟩:=cA.1 he;simp only[bx]at he;obtain⟨rfl,rfl,rfl⟩:=he;rw[e]at ad;obtain⟨vals,dT,hr⟩:=ad.O7;obtain⟨y,hy,ep⟩:=hr.get hu;exact .same ab (x:=y) (by unfold execOp;rw[ho];simp only[dT,Instr.extract,r1,hy,Sem.run_bind,Sem.run_pure,Result.andThen_ok]) ep
 ·cases he
theorem ak5 (ab:a8 C fid G H w)(aP:fB C fid vars G w ah ρ){s:TypeId}{x:Operand}{f:Nat}(ho:o.op=.field s x f)(hc:C.cX vars pos o.op=some dm)(he:step ah H low dm=some (v,H',low')):
  db C fid G H w low ((execOp ρ o).run C.P w) v H' low':=by
 rw[ho]at hc;simp only[Ctx.cX]at hc;split at hc
 ·rename_i fs cO h1 h2
  split at hc
  ·rename_i a7 ar
   obtain⟨sh,aS,rfl⟩:=cA.1 hc;have ad:=aP x cO h2;simp only[step]at he;split at he
   ·rename_i vs e
    obtain⟨u,hu,he⟩:=cA.1 he;simp only[bx]at he;obtain⟨rfl,rfl,rfl⟩:=he;rw[e]at ad;obtain⟨vals,dT,hr⟩:=ad.FU;have hk:=hr.iJ hu;rcases Xz aS with⟨n,rfl,ha,hs⟩|⟨rfl,ha⟩
    ·refine .same ab (x:=.agg ⟨(vals.drop a7.offset).take n⟩) ?_ hk.2
     unfold execOp;rw[ho];simp only[dT,Instr.field,Sem.run_bind,run_underlying h1,Result.andThen_ok,ar,asAgg,Sem.run_pure,part,ha,hs,if_true];congr 3;apply Array.ext';simp
    ·obtain⟨y,hy,ep⟩:=hk
     refine .same ab (x:=y) ?_ ep;unfold execOp;rw[ho];simp only[dT,Instr.field,Sem.run_bind,run_underlying h1,Result.andThen_ok,ar,asAgg,Sem.run_pure,part,ha,gq,if_false,r1,hy]
   ·cases he
  ·cases hc
 ·cases hc
theorem ak6 (ab:a8 C fid G H w)(aP:fB C fid vars G w ah ρ){s:TypeId}{x:Operand}{f:Nat}(ho:o.op=.fieldAddr s x f)(hc:C.cX vars pos o.op=some dm)(he:step ah H low dm=some (v,H',low')):
  db C fid G H w low ((execOp ρ o).run C.P w) v H' low':=by
 rw[ho]at hc;simp only[Ctx.cX]at hc;split at hc
 ·rename_i fs cO h1 h2
  split at hc
  ·rename_i a7 ar
   split at hc
   ·rename_i n aS
    split at hc
    ·cases hc
    ·rename_i hn
     simp only[aB]at hc;subst hc;have ad:=aP x cO h2
     have cm:∀a,ρ x=.pointer (some a)->(execOp ρ o).run C.P w=.ok (.value (.pointer (some (a.add a7.offset)))) w:=by
      intro a ha;simp only[Ctx.sizeOf,cA]at aS;obtain⟨i,hi,rfl⟩:=aS;unfold execOp;rw[ho];simp only[ha,Instr.fieldAt,Sem.run_bind,run_underlying h1,Result.andThen_ok,ar,Instr.sureAddr,Sem.run_pure,fieldPlace,sizeOf,run_typeInfo (P:=C.P) w hi,hn,if_false]
     simp only[step]at he;split at he
     ·rename_i l o' e
      simp only[aB,bx]at he;obtain⟨rfl,rfl,rfl⟩:=he;rw[e]at ad;obtain⟨h0,hb,ht,dT⟩:=ad.pj;refine .same ab (cm _ dT) ?_;rw[Addr.add_lit];exact .ptr l _ h0 hb ht
     ·rename_i l es i ml tag e
      simp only[aB,bx]at he;obtain⟨rfl,rfl,rfl⟩:=he;rw[e]at ad;obtain⟨h0,a,hb,hle,ha,dT⟩:=ad.F0;refine .same ab (cm _ dT) (.hz l es i _ tag h0 _ hb hle (fun ht=> ?_));rw[ha ht,Addr.add_lit,qV]
     ·rename_i vs ml e
      simp only[aB,bx]at he;obtain⟨rfl,rfl,rfl⟩:=he;rw[e]at ad;obtain⟨b,o',vals,bq,hc,hr,dT⟩:=ad.Ph;refine .same ab (cm _ dT) ?_;rw[Addr.add_lit,qV];exact .dO vs _ b o' vals bq hc hr
     ·cases he
   ·cases hc
  ·cases hc
 ·cases hc
theorem ak7 (ab:a8 C fid G H w)(aP:fB C fid vars G w ah ρ){t:TypeId}{a:Operand}(ho:o.op=.load t a)(hc:C.cX vars pos o.op=some dm)(he:step ah H low dm=some (v,H',low')):
  db C fid G H w low ((execOp ρ o).run C.P w) v H' low':=by
 rw[ho]at hc;simp only[Ctx.cX]at hc;split at hc
 ·rename_i sh cO h1 h2
  simp only[aB]at hc;subst hc;simp only[step]at he;obtain⟨u,hu,he⟩:=cA.1 he;simp only[bx]at he;obtain⟨rfl,rfl,rfl⟩:=he;obtain⟨y,hy,ep⟩:=XA ab h1 (aP a cO h2) hu;exact .same ab (x:=y) (by unfold execOp;rw[ho];simp only[Sem.run_bind,hy,Result.andThen_ok,Sem.run_pure]) ep
 ·cases hc
theorem ak8 (ab:a8 C fid G H w)(aP:fB C fid vars G w ah ρ){t:TypeId}{a x:Operand}(ho:o.op=.store t a x)(hc:C.cX vars pos o.op=some dm)(kH:low<=H.length)(he:step ah H low dm=some (v,H',low')):
  db C fid G H w low ((execOp ρ o).run C.P w) v H' low':=by
 rw[ho]at hc;simp only[Ctx.cX]at hc;split at hc
 ·rename_i n cO jA h1 h2 ar
  simp only[aB]at hc;subst hc;simp only[step]at he;obtain⟨⟨H1,l⟩,hu,he⟩:=cA.1 he;simp only[bx]at he;obtain⟨rfl,rfl,rfl⟩:=he;obtain⟨aG,az,cm,bB,af,hl,hlen⟩:=akV ab h1 (aP a cO h2) (aP x jA ar) hu;exact⟨undef,aG,az,.inr ⟨by unfold execOp;rw[ho];simp only[Sem.run_bind,cm,Result.andThen_ok,Sem.run_pure],rfl⟩,bB,fun m hm=>af.le (cY hm (nJ _ _)) (aH _),.undef _,jM _ _,Nat.le_of_eq hlen.symm⟩
 ·cases hc
theorem XH{t:TypeId}{z:List V}{cs:List Value}(h:a6 fid G w z cs):a6 fid G w (C.mark t z) cs:=by
 unfold Ctx.mark;split
 ·cases C.Kd==some t with
  |true=>cases h with|cons _ x _ xs _ hs=>exact .cons _ _ _ _ (.undef x) hs
  |false=>exact h
 ·exact h
theorem XI{t:TypeId}{z:List V}(bc:bL z=true){c:Array Value}{b:Nat}(hr:a6 fid G w z c.toList)(hb:w'.heap[b]? =some (.cells c t (0,0))):FT C w' b (C.mark t z):=fun v ad=>by
 unfold Ctx.mark at ad;split at ad
 ·cases ht:C.Kd==some t with
  |true=>
   refine⟨c,t,hb,eq_of_beq ht,.inl ?_⟩;rw[<-fM];generalize c.toList=l at hr;cases hr with
   |cons _ x _ xs h1 hs=>
    cases h1 with
    |p _ _ h=>cases h;rfl
  |false=>rw[ht]at ad;simp at ad
 ·rw[ad]at bc;simp[bL,eF]at bc
theorem ak9{vs:List V}(bc:bL vs=true){b:Nat}:FT C w b vs:=fun v ad=>by
 rw[ad]at bc;simp[bL,eF]at bc
theorem ala (ab:a8 C fid G H w){t:TypeId}(ho:o.op=.alloc t)(hc:C.cX vars pos o.op=some dm)(he:step ah H low dm=some (v,H',low')):
  db C fid G H w low ((execOp ρ o).run C.P w) v H' low':=by
 rw[ho]at hc;obtain⟨z,aR,rfl⟩:=cA.1 hc;simp only[step,aB,bx]at he;obtain⟨rfl,rfl,rfl⟩:=he;unfold Ctx.zeroCells at aR;split at aR
 ·rename_i i hi
  split at aR
  ·rename_i b8 Dc
   split at aR
   ·rename_i vs c2
    split at aR
    ·rename_i bc
     simp only[aB]at aR;subst aR;refine .alloc ab 0 0 (x:=.pointer (some ⟨w.heap.size,0,none⟩)) (aV:=.cells b8.cells t) ?_ ⟨⟨rfl,XI (G:=G) (fid:=fid) (w:=w) bc (dh.oD (FZ _ c2)) (mr _ _)⟩,rfl,b8.cells,t,mr _ _,?_⟩ (.ptr _ _ ⟨w.heap.size,0,0,false⟩ (dr _ _ _) rfl)
     ·unfold execOp;rw[ho]
      simp only[Instr.alloc,zeroValue,Sem.run_bind,run_typeInfo (P:=C.P) w hi,Result.andThen_ok,Dc,Sem.run_pure,newVar,newRow,run_newObj,World.alloc_eq]
     ·exact XH (dh.oD (FZ _ c2))
    ·cases aR
   ·cases aR
  ·cases aR
 ·cases aR
theorem alb (ab:a8 C fid G H w)(aP:fB C fid vars G w ah ρ){t:TypeId}{x:Operand}(ho:o.op=.box t x)(hc:C.cX vars pos o.op=some dm)(he:step ah H low dm=some (v,H',low')):
  db C fid G H w low ((execOp ρ o).run C.P w) v H' low':=by
 rw[ho]at hc;obtain⟨cO,hx,rfl⟩:=cA.1 hc;simp only[step]at he;split at he
 ·rename_i bc
  simp only[aB,bx]at he;obtain⟨rfl,rfl,rfl⟩:=he;have ad:=aP x cO hx;refine .alloc ab 0 0 (x:=.pointer (some ⟨w.heap.size,0,none⟩)) (aV:=.cells (ρ x).cells t) ?_ ⟨⟨rfl,ak9 bc⟩,rfl,(ρ x).cells,t,mr _ _,?_⟩ (.ptr _ _ ⟨w.heap.size,0,0,false⟩ (dr _ _ _) rfl)
  ·unfold execOp;rw[ho]
   simp only[Instr.box,Sem.run_bind,Sem.run_pure,Result.andThen_ok,newVar,newRow,run_newObj,World.alloc_eq]
  ·exact(Da ad bc).1.ext ab (Ext.push ab _ 0 0 0)
 ·cases he
theorem alc (ab:a8 C fid G H w){t:TypeId}{r:Option Operand}(ho:o.op=.makeMap t r)(hc:C.cX vars pos o.op=some dm)(he:step ah H low dm=some (v,H',low')):
  db C fid G H w low ((execOp ρ o).run C.P w) v H' low':=by
 rw[ho]at hc;cases r with
 |some _=>simp[Ctx.cX]at hc
 |none=>
  simp only[Ctx.cX,aB]at hc;subst hc;simp only[step,aB,bx]at he;obtain⟨rfl,rfl,rfl⟩:=he;refine .alloc ab 0 0 (x:=.map (some w.heap.size)) (aV:=.map #[] 0) ?_ ⟨rfl,rfl,#[],0,mr _ _,.nil,.nil,⟨fun x hx=>by simp at hx,by simp⟩⟩ (.map _ ⟨w.heap.size,0,0,false⟩ (dr _ _ _) rfl);unfold execOp;rw[ho];simp only[Instr.makeMap,Sem.run_bind,Sem.run_pure,Result.andThen_ok,run_newObj,World.alloc_eq,zF]
theorem Pn{u:V}{n:Nat}(h:kE u=some n):∃k m,u=.int k m/\0<=m/\m.toNat=n:=by
 unfold kE at h;split at h
 ·split at h
  ·simp only[aB]at h
   exact⟨_,_,rfl,by assumption,h⟩
  ·cases h
 ·cases h
theorem ald (ab:a8 C fid G H w)(aP:fB C fid vars G w ah ρ){t:TypeId}{x i:Operand}(ho:o.op=.index t x i)(hc:C.cX vars pos o.op=some dm)(he:step ah H low dm=some (v,H',low')):
  db C fid G H w low ((execOp ρ o).run C.P w) v H' low':=by
 rw[ho]at hc;simp only[Ctx.cX]at hc;split at hc
 ·rename_i cO jA h1 h2 ar
  simp only[aB]at hc;subst hc;simp only[step]at he;split at he
  ·rename_i s n af ak
   obtain⟨c,tt,he⟩:=cA.1 he;simp only[bx]at he;obtain⟨rfl,rfl,rfl⟩:=he;obtain⟨k,m,bK,hm,hn⟩:=Pn ak;have hx:=aP x cO h2;have hi:=aP i jA ar;rw[af]at hx;rw[bK]at hi;refine .same ab (x:=.int .u8 c.toNat) ?_ (.p _ _ (.int _ _));unfold execOp;rw[ho]
   have kn:(⟨⟨s⟩⟩:ByteArray)[m.toNat]? =some c:=by
    rw[hn];obtain⟨aT,bf⟩:=fj.1 tt;have:n<(⟨⟨s⟩⟩:ByteArray).size:=aT;rw[getElem?_pos (c:=(⟨⟨s⟩⟩:ByteArray)) (i:=n) (h:=this)];congr 1
   simp only[hx.oG,hi.iW,Instr.index,asIntOf,Sem.run_bind,Sem.run_pure,Result.andThen_ok,run_underlying h1,hm,if_true,kn]
  ·cases he
 ·cases hc
end Go.Abs
namespace Go.Abs
open Go
variable{C:Ctx}{fid:Nat->Nat}{w w':World}{G G':bX}{H:Heap}
variable{vars:List Nat}{ah:aj->V}{ρ:Operand->Value}{low low':Nat}{v:V}{H':Heap}{pos:String}{dm:cV}{o:Oper}
theorem bytes_beq (s t:List UInt8):((⟨⟨s⟩⟩:ByteArray).toList==(⟨⟨t⟩⟩:ByteArray).toList)=(s==t):=by
 rw[ByteArray.toList_eq,ByteArray.toList_eq]
theorem ale{op:BinOp}{t:TypeId}{a b u:V}{x y:Value}(ha:bh fid G w a x)(hb:bh fid G w b y)(hu:en op a b=some u):
  ∃z,(binOp op t x y).run C.P w=.ok z w/\bh fid G w u z/\∀(yj wg:Operand),eqGuard op t yj wg x y=pure ():=by
 unfold en at hu;split at hu
 ·rename_i k bk bF e1
  split at hu
  ·rename_i hc
   simp only[aB]at hu;subst hu;rw[ha.iW,hb.iW];refine⟨.int k (k.wrap (bk*2^e1.toNat)),?_,.p _ _ (.int _ _),fun _ _=>rfl⟩;simp only[binOp,Op.shift,Int.not_lt.2 hc.1,if_false,qU hc.2,Sem.run_pure]
  ·cases hu
 ·rename_i k bk bF e1
  split at hu
  ·rename_i hc
   simp only[aB]at hu;subst hu;rw[ha.iW,hb.iW];refine⟨.int k (bk/2^e1.toNat),?_,.p _ _ (.int _ _),fun _ _=>rfl⟩;have h2:(0:Int)<=2^e1.toNat:=Int.pow_nonneg (by decide);simp only[binOp,Op.shift,Int.not_lt.2 hc.1,if_false,qU hc.2,Sem.run_pure,Int.fdiv_eq_ediv_of_nonneg _ h2]
  ·cases hu
 ·rename_i k bk bF e1 gw my
  split at hu
  ·cases hu
  ·rename_i hk
   have hk:k=bF:=by simpa using hk
   subst hk;rw[ha.iW,hb.iW];have ba:∀(yj wg:Operand),eqGuard op t yj wg (.int k bk) (.int k e1)=pure ():=fun _ _=>by cases op<;>rfl
   cases op<;>dsimp only at hu<;>
    first
    |(cases hu;done)
    |(simp only[aB]at hu;subst hu
      refine⟨_,?_,.p _ _ (.int _ _),ba⟩;simp only[binOp,ne_eq,not_true,if_false,Op.intArith,Op.intBits,Sem.run_pure];done)
    |(simp only[aB]at hu;subst hu
      refine⟨_,?_,.p _ _ (.bool _),ba⟩;simp only[binOp,ne_eq,not_true,if_false,Op.intCmp,Sem.run_pure];done)
    |(split at hu
      ·cases hu
      ·rename_i aR
       simp only[aB]at hu;subst hu;refine⟨_,?_,.p _ _ (.int _ _),ba⟩;simp only[binOp,ne_eq,not_true,if_false,Op.intDiv,aR,Sem.run_pure])
 ·rename_i bk e1
  split at hu
  ·rename_i hc
   simp only[aB]at hu;subst hu;rw[ha.oG,hb.oG];refine⟨.string ⟨⟨bk++e1⟩⟩,?_,.p _ _ (.str _),fun _ _=>rfl⟩
   have de:¬((((⟨⟨bk⟩⟩:ByteArray).size+(⟨⟨e1⟩⟩:ByteArray).size:Nat):Int)>IntKind.i64.max):=by
    rw[IntKind.max_i64];have af:(⟨⟨bk⟩⟩:ByteArray).size=bk.length:=rfl;have ak:(⟨⟨e1⟩⟩:ByteArray).size=e1.length:=rfl;rw[af,ak];omega
   have alf:(⟨⟨bk⟩⟩:ByteArray)++(⟨⟨e1⟩⟩:ByteArray)=⟨⟨bk++e1⟩⟩:=by
    apply ByteArray.ext;rw[ByteArray.data_append];simp
   simp only[binOp,Op.stringOp,de,if_false,alf,Sem.run_pure]
  ·cases hu
 ·rename_i bk e1
  simp only[aB]at hu;subst hu;rw[ha.oG,hb.oG];refine⟨.bool (bk==e1),?_,.p _ _ (.bool _),fun _ _=>rfl⟩;simp only[binOp,Op.stringOp,bytes_beq,Sem.run_pure]
 ·rename_i bk e1
  simp only[aB]at hu;subst hu;rw[ha.oG,hb.oG];refine⟨.bool (bk != e1),?_,.p _ _ (.bool _),fun _ _=>rfl⟩;simp only[binOp,Op.stringOp,bytes_beq,Sem.run_pure,bne]
 ·cases hu
theorem bh.se{x:Value}(h:bh fid G w .ji x):x=.pointer none:=by cases h with|p _ _ h=>cases h;rfl
theorem bh.iZ{x:Value}(h:bh fid G w .aN x):x=.slice none 0 0:=by cases h with|p _ _ h=>cases h;rfl
theorem bh.q5{x:Value}(h:bh fid G w .emp x):∃a,x=.slice (some a) 0 0:=by cases h with|p _ _ h=>cases h;exact⟨_,rfl⟩
theorem bh.wh{x:Value}(h:bh fid G w .kC x):x=.nilFunc:=by cases h with|p _ _ h=>cases h;rfl
theorem bh.wi{x:Value}(h:bh fid G w .jO x):x=.nilIface:=by cases h with|p _ _ h=>cases h;rfl
theorem bh.Po{x:Value}(h:bh fid G w .iu x):x=.map none:=by cases h with|p _ _ h=>cases h;rfl
theorem bh.Pp{x:Value}{t:Nat}{v:V}(h:bh fid G w (.iface t v) x):∃y,x=.iface t y/\bh fid G w v y:=by
 cases h with
 |p _ _ h=>cases h with|iface _ _ y h=>exact⟨y,rfl,.p _ _ h⟩
 |iface _ _ y h=>exact⟨y,rfl,h⟩
theorem bh.yk{x:Value}{es:Nat}{ds:List V}(h:bh fid G w (.list es ds) x):
  ∃a cap,x=.slice (some a) ds.length cap/\ds.length<=cap/\(ds=[]\/∃b o vals,a=⟨b,o,none⟩/\G.I b/\iL w b o vals/\(∀d∈ds,(aC d).length=es)/\dh w G.I (ds.flatMap aC) vals):=by
 cases h with
 |p _ _ h=>cases h with
  |vY _ a cap=>exact⟨a,cap,rfl,cJ _,.inl rfl⟩
  |list _ _ b o cap vals bq hc hu hr hl=>exact⟨_,cap,rfl,hl,.inr ⟨b,o,vals,rfl,bq,hc,hu,hr⟩⟩
def kindOk:Nat->TypeDesc->Prop
 |0,d=>∃ey,d=.pointer ey
 |1,d=>∃ey,d=.slice ey
 |2,d=>∃p r b,d=.func p r b
 |3,d=>∃m,d=.interface m
 |4,d=>d=.bool
 | _,_=>False
theorem alg{t:TypeId}{d:TypeDesc}(hd:C.P.underlying t=some d){kind:Nat}{a b:V}{e:Bool}{x y:Value}(ha:bh fid G w a x)(hb:bh fid G w b y)(hu:qY kind a b=some e)
  (hk:kindOk kind d):
  (Op.equal t x y).run C.P w=.ok e w:=by
 show(Op.equalIn (9999+1) t x y).run C.P w=.ok e w;generalize 9999=depth;unfold qY at hu;split at hu
 ·simp only[aB]at hu;subst hu
  obtain⟨ey,rfl⟩:=hk;rw[ha.se,hb.se];simp[Op.equalIn,run_underlying hd]
 ·simp only[aB]at hu;subst hu
  obtain⟨ey,rfl⟩:=hk;obtain⟨h0,-,-,rfl⟩:=ha.pj;rw[hb.se];simp[Op.equalIn,run_underlying hd]
 ·simp only[aB]at hu;subst hu
  obtain⟨ey,rfl⟩:=hk;obtain⟨h0,-,-,rfl⟩:=hb.pj;rw[ha.se];simp[Op.equalIn,run_underlying hd]
 ·simp only[aB]at hu;subst hu
  obtain⟨ey,rfl⟩:=hk;rw[ha.iZ,hb.iZ];simp[Op.equalIn,run_underlying hd]
 ·simp only[aB]at hu;subst hu
  obtain⟨ey,rfl⟩:=hk;obtain⟨_,rfl⟩:=ha.q5;rw[hb.iZ];simp[Op.equalIn,run_underlying hd]
 ·simp only[aB]at hu;subst hu
  obtain⟨ey,rfl⟩:=hk;obtain⟨_,_,rfl,-⟩:=ha.yk;rw[hb.iZ];simp[Op.equalIn,run_underlying hd]
 ·simp only[aB]at hu;subst hu
  obtain⟨ey,rfl⟩:=hk;obtain⟨_,_,_,_,-,-,-,rfl⟩:=ha.nk;rw[hb.iZ];simp[Op.equalIn,run_underlying hd]
 ·simp only[aB]at hu;subst hu
  obtain⟨p,r,e1,rfl⟩:=hk;rw[ha.wh,hb.wh];simp[Op.equalIn,run_underlying hd]
 ·simp only[aB]at hu;subst hu
  obtain⟨p,r,e1,rfl⟩:=hk;obtain⟨_,_,-,-,rfl⟩:=ha.C8;rw[hb.wh];simp[Op.equalIn,run_underlying hd]
 ·simp only[aB]at hu;subst hu
  obtain⟨m,rfl⟩:=hk;rw[ha.wi,hb.wi];simp[Op.equalIn,run_underlying hd]
 ·simp only[aB]at hu;subst hu
  obtain⟨m,rfl⟩:=hk;obtain⟨_,rfl,-⟩:=ha.Pp;rw[hb.wi];simp[Op.equalIn,run_underlying hd]
 ·simp only[aB]at hu;subst hu
  subst hk;rw[ha.k5,hb.k5];simp[Op.equalIn,run_underlying hd]
 ·cases hu
theorem alh{t:TypeId}{kind:Nat}{a b:V}{e:Bool}{x y:Value}(ha:bh fid G w a x)(hb:bh fid G w b y)(hu:qY kind a b=some e)(neg:Bool)
  (bf:(Op.equal t x y).run C.P w=.ok e w):
  (binOp (if neg then .neq else .eql) t x y).run C.P w=.ok (.bool (if neg then !e else e)) w:=by
 have key:binOp (if neg then .neq else .eql) t x y=(do let q <-Op.equal t x y;pure (.bool (if neg then !q else q))):=by
  unfold qY at hu;split at hu
  ·rw[ha.se,hb.se];cases neg<;>rfl
  ·obtain⟨h0,-,-,rfl⟩:=ha.pj;rw[hb.se];cases neg<;>rfl
  ·obtain⟨h0,-,-,rfl⟩:=hb.pj;rw[ha.se];cases neg<;>rfl
  ·rw[ha.iZ,hb.iZ];cases neg<;>rfl
  ·obtain⟨_,rfl⟩:=ha.q5;rw[hb.iZ];cases neg<;>rfl
  ·obtain⟨_,_,rfl,-⟩:=ha.yk;rw[hb.iZ];cases neg<;>rfl
  ·obtain⟨_,_,_,_,-,-,-,rfl⟩:=ha.nk;rw[hb.iZ];cases neg<;>rfl
  ·rw[ha.wh,hb.wh];cases neg<;>rfl
  ·obtain⟨_,_,-,-,rfl⟩:=ha.C8;rw[hb.wh];cases neg<;>rfl
  ·rw[ha.wi,hb.wi];cases neg<;>rfl
  ·obtain⟨_,rfl,-⟩:=ha.Pp;rw[hb.wi];cases neg<;>rfl
  ·rw[ha.k5,hb.k5];cases neg<;>rfl
  ·cases hu
 rw[key,Sem.run_bind,bf];cases neg<;>rfl
theorem ali{op:BinOp}{t:TypeId}{kind:Nat}{a b:V}{e:Bool}{x y:Value}{yj wg:Operand}(ha:bh fid G w a x)(hb:bh fid G w b y)(hu:qY kind a b=some e)
  (hc:kind=3->∃c,wg=.const c):eqGuard op t yj wg x y=pure ():=by
 unfold qY at hu;split at hu
 ·rw[ha.se,hb.se];cases op<;>rfl
 ·obtain⟨h0,-,-,rfl⟩:=ha.pj;rw[hb.se];cases op<;>rfl
 ·obtain⟨h0,-,-,rfl⟩:=hb.pj;rw[ha.se];cases op<;>rfl
 ·rw[ha.iZ,hb.iZ];cases op<;>rfl
 ·obtain⟨_,rfl⟩:=ha.q5;rw[hb.iZ];cases op<;>rfl
 ·obtain⟨_,_,rfl,-⟩:=ha.yk;rw[hb.iZ];cases op<;>rfl
 ·obtain⟨_,_,_,_,-,-,-,rfl⟩:=ha.nk;rw[hb.iZ];cases op<;>rfl
 ·rw[ha.wh,hb.wh];cases op<;>rfl
 ·obtain⟨_,_,-,-,rfl⟩:=ha.C8;rw[hb.wh];cases op<;>rfl
 ·rw[ha.wi,hb.wi]
  obtain⟨c,rfl⟩:=hc rfl;unfold eqGuard;cases op<;>simp
 ·obtain⟨_,rfl,-⟩:=ha.Pp;rw[hb.wi];cases op<;>rfl
 ·rw[ha.k5,hb.k5];cases op<;>rfl
 ·cases hu
theorem alj{y:Operand}{lC:aj}(h:C.cg vars y=some lC)(hn:Ctx.Ke lC=true):∃c,y=.const c:=by
 cases y with
 |const c=>exact⟨c,rfl⟩
 |tmp t=>
  simp only[Ctx.cg,aB]at h;subst h;split at hn<;>simp[Ctx.Ke]at hn
 |func f=>
  simp only[Ctx.cg,cA]at h;obtain⟨_,-,rfl⟩:=h;simp[Ctx.Ke]at hn
 |global g=>simp[Ctx.cg]at h
theorem XJ{t:TypeId}{k:Nat}(hk:C.jR t=some k){a b:V}{x y:Value}{e:Bool}(ha:bh fid G w a x)(hb:bh fid G w b y)(he:iK k a b=some e)(d:Nat):
  (Op.equalIn (d+1) t x y).run C.P w=.ok e w:=by
 unfold Ctx.jR at hk;unfold iK at he;split at he
 ·split at he
  ·rename_i F3
   simp only[aB]at he;subst he;subst F3;rw[ha.iW,hb.iW];split at hk<;>rename_i hd<;>simp at hk;exact run_equalIn_int w d t _ _ _ _ hd
  ·cases he
 ·simp only[aB]at he;subst he
  rw[ha.oG,hb.oG];split at hk<;>rename_i hd<;>simp at hk;rw[run_equalIn_string w d t _ _ hd,bytes_beq]
 ·simp only[aB]at he;subst he
  rw[ha.k5,hb.k5];split at hk<;>rename_i hd<;>simp at hk;exact run_equalIn_bool' w d t _ _ hd
 ·cases he
theorem XK{t:TypeId}{k:Nat}(hk:C.jR t=some k)(w:World):(isAgg t).run C.P w=.ok false w:=by
 unfold Ctx.jR at hk;unfold isAgg;split at hk<;>rename_i hd<;>first|(cases hk;done)|(rw[Sem.run_bind,run_underlying hd];rfl)
theorem XL{xs cK:List V}{pk pn:List Value}(hx:a6 fid G w xs pk)(hy:a6 fid G w cK pn)(d:Nat):∀(fs:List Field) (i:Nat) (ks:List Nat) (e:Bool),C.Fz i fs=some ks->
  kF ks (xs.drop i) (cK.drop i)=some e->(Op.eqFields (d+1) ⟨pk⟩ ⟨pn⟩ fs).run C.P w=.ok e w
 |[],i,ks,e,hk,he=>by
  simp only[Ctx.Fz,aB]at hk;subst hk;unfold kF at he;split at he
  ·simp only[aB]at he;subst he;rfl
  ·simp_all
  ·cases he
 |f::fs,i,ks,e,hk,he=>by
  simp only[Ctx.Fz]at hk;split at hk
  ·rename_i k Dd
   split at hk
   ·rename_i hc
    simp only[b6,bne_iff_ne,ne_eq,beq_iff_eq]at hc;obtain⟨tu,eG,rfl⟩:=cA.1 hk;cases tv:xs.drop i with
    |nil=>rw[tv]at he;simp[kF]at he
    |cons a u5=>
     cases wj:cK.drop i with
     |nil=>rw[tv,wj]at he;simp[kF]at he
     |cons b Pq=>
      rw[tv,wj]at he;simp only[kF]at he;have cO:xs[i]? =some a:=by have:=congrArg (·[0]?) tv;simpa using this
      have lC:cK[i]? =some b:=by have:=congrArg (·[0]?) wj;simpa using this
      have Pr:xs.drop (i+1)=u5:=by have:=congrArg (List.drop 1) tv;simpa[zH]using this
      have Ps:cK.drop (i+1)=Pq:=by have:=congrArg (List.drop 1) wj;simpa[zH]using this
      obtain⟨dC,gi,Pt⟩:=hx.get cO;obtain⟨Pu,sf,Pv⟩:=hy.get lC;split at he
      ·rename_i af mz
       split at he
       ·rename_i ak nR
        simp only[aB]at he;subst he;rw[<-Pr,<-Ps]at nR;have ih:=XL hx hy d fs (i+1) tu ak eG nR
        have hp:∀(l:List Value) (z:Value),l[i]? =some z->(part f.type ⟨l⟩ f.offset).run C.P w=.ok z w:=by
         intro l z aR;unfold part;simp only[Sem.run_bind,XK Dd,Result.andThen_ok,gq,if_false,hc.2,r1,aR,Sem.run_pure]
        simp only[Op.eqFields,hc.1,ne_eq,not_false_eq_true,if_true,Sem.run_bind,hp pk dC gi,hp pn Pu sf,Result.andThen_ok,XJ Dd Pt Pv mz d,Sem.run_ite,Sem.run_pure,ih];cases af<;>simp
       ·cases he
      ·cases he
   ·cases hk
  ·cases hk
theorem XM:∀(q6 z7:List Nat) (x y:List V) {e:Bool},kF (q6++z7) x y=some e->
  ∃af ak,kF q6 (x.take q6.length) (y.take q6.length)=some af/\kF z7 (x.drop q6.length) (y.drop q6.length)=some ak/\e=(af&&ak)
 |[],z7,x,y,e,h=>⟨true,e,by simp[kF],by simpa using h,by simp⟩
 |k::ks,z7,[],y,e,h=>by simp[kF]at h
 |k::ks,z7,_::_,[],e,h=>by simp[kF]at h
 |k::ks,z7,a::x,b::y,e,h=>by
  simp only[mi,kF]at h;split at h
  ·rename_i eM h0
   split at h
   ·rename_i wk mA
    obtain⟨af,ak,q1,q2,rfl⟩:=XM ks z7 x y mA;simp only[aB]at h;exact⟨eM&&af,ak,by simp[kF,h0,q1],by simpa using q2,by rw[<-h,zI]⟩
   ·cases h
  ·cases h
theorem Pw{xs cK:List V}{pk pn:List Value}(hx:a6 fid G w xs pk)(hy:a6 fid G w cK pn)(d:Nat):∀(fs:List Field) (i:Nat) (ks:List Nat) (e:Bool),C.CS i fs=some ks->
  kF ks (xs.drop i) (cK.drop i)=some e->(Op.eqFields (d+2) ⟨pk⟩ ⟨pn⟩ fs).run C.P w=.ok e w
 |[],i,ks,e,hk,he=>by
  simp only[Ctx.CS,aB]at hk;subst hk;unfold kF at he;split at he
  ·simp only[aB]at he;subst he;rfl
  ·simp_all
  ·cases he
 |f::fs,i,ks,e,hk,he=>by
  simp only[Ctx.CS]at hk;split at hk
  ·rename_i k Dd
   split at hk
   ·rename_i hc
    simp only[b6,bne_iff_ne,ne_eq,beq_iff_eq]at hc;obtain⟨tu,eG,rfl⟩:=cA.1 hk;cases tv:xs.drop i with
    |nil=>rw[tv]at he;simp[kF]at he
    |cons a u5=>
     cases wj:cK.drop i with
     |nil=>rw[tv,wj]at he;simp[kF]at he
     |cons b Pq=>
      rw[tv,wj]at he;simp only[kF]at he;have cO:xs[i]? =some a:=by have:=congrArg (·[0]?) tv;simpa using this
      have lC:cK[i]? =some b:=by have:=congrArg (·[0]?) wj;simpa using this
      have Pr:xs.drop (i+1)=u5:=by have:=congrArg (List.drop 1) tv;simpa[zH]using this
      have Ps:cK.drop (i+1)=Pq:=by have:=congrArg (List.drop 1) wj;simpa[zH]using this
      obtain⟨dC,gi,Pt⟩:=hx.get cO;obtain⟨Pu,sf,Pv⟩:=hy.get lC;split at he
      ·rename_i af mz
       split at he
       ·rename_i ak nR
        simp only[aB]at he;subst he;rw[<-Pr,<-Ps]at nR;have ih:=Pw hx hy d fs (i+1) tu ak eG nR
        have hp:∀(l:List Value) (z:Value),l[i]? =some z->(part f.type ⟨l⟩ f.offset).run C.P w=.ok z w:=by
         intro l z aR;unfold part;simp only[Sem.run_bind,XK Dd,Result.andThen_ok,gq,if_false,hc.2,r1,aR,Sem.run_pure]
        simp only[Op.eqFields,hc.1,ne_eq,not_false_eq_true,if_true,Sem.run_bind,hp pk dC gi,hp pn Pu sf,Result.andThen_ok,XJ Dd Pt Pv mz (d+1),Sem.run_ite,Sem.run_pure,ih];cases af<;>simp
       ·cases he
      ·cases he
   ·cases hk
  ·rename_i Dd
   split at hk
   ·rename_i gs wm
    split at hk
    ·rename_i q6 alk
     split at hk
     ·rename_i hc
      simp only[b6,bne_iff_ne,ne_eq,beq_iff_eq,kB]at hc;obtain⟨⟨⟨df,er⟩,e2⟩,h6⟩:=hc;obtain⟨tu,eG,rfl⟩:=cA.1 hk;obtain⟨af,ak,mz,nR,rfl⟩:=XM q6 tu _ _ he;rw[zH,zH]at nR;have ih:=Pw hx hy d fs (i+q6.length) tu ak eG nR;have De:C.P.fieldsOf f.type=gs:=by unfold Program.fieldsOf;rw[wm]
      have hp:∀(l:List Value),(part f.type ⟨l⟩ f.offset).run C.P w=.ok (.agg ⟨(l.drop i).take q6.length⟩) w:=by
       intro l;have O8:(isAgg f.type).run C.P w=.ok true w:=by unfold isAgg;rw[Sem.run_bind,run_underlying wm];rfl
       unfold Ctx.sizeOf at h6;obtain⟨inf,alm,de⟩:=cA.1 h6;unfold part;simp only[Sem.run_bind,O8,Result.andThen_ok,if_true,sizeOf,typeInfo,alm,run_program,Sem.run_pure,de,er];congr 2;rw[<-Array.toList_inj];simp[List.take_drop,Nat.add_comm]
      have hin:(Op.equalIn (d+2) f.type (.agg ⟨(pk.drop i).take q6.length⟩) (.agg ⟨(pn.drop i).take q6.length⟩)).run C.P w=.ok af w:=by
       rw[run_equalIn_struct (P:=C.P) w (d+1) f.type _ _ (by rw[De];exact wm) e2,De];exact XL ((hx.drop i).take _) ((hy.drop i).take _) d gs.toList 0 q6 af alk (by simpa using mz)
      simp only[Op.eqFields,df,ne_eq,not_false_eq_true,if_true,Sem.run_bind,hp pk,hp pn,Result.andThen_ok,hin,Sem.run_ite,Sem.run_pure,ih];cases af<;>simp
     ·cases hk
    ·cases hk
   ·cases hk
theorem aln{t:TypeId}{fs:Array Field}{ks:List Nat}(hd:C.P.underlying t=some (.struct fs))(hs:C.structEq t=some ks){xs cK:List V}{pk pn:List Value}(hx:a6 fid G w xs pk)(hy:a6 fid G w cK pn)
  {e:Bool} (he:kF ks xs cK=some e) (neg:Bool) (yj wg:Operand):
  (do eqGuard (if neg then .neq else .eql) t yj wg (.agg ⟨pk⟩) (.agg ⟨pn⟩);binOp (if neg then .neq else .eql) t (.agg ⟨pk⟩) (.agg ⟨pn⟩)).run C.P w=.ok (.bool (if neg then !e else e)) w:=by
 unfold Ctx.structEq at hs;rw[hd]at hs;simp only at hs;split at hs
 ·rename_i hc
  simp only[b6,kB]at hc;have ag:C.P.fieldsOf t=fs:=by unfold Program.fieldsOf;rw[hd]
  have key:(Op.equalIn 10000 t (.agg ⟨pk⟩) (.agg ⟨pn⟩)).run C.P w=.ok e w:=by
   rw[run_equalIn_struct (P:=C.P) w 9999 t _ _ (by rw[ag];exact hd) hc.1,ag];exact Pw hx hy 9997 fs.toList 0 ks e hs (by simpa using he)
  rw[Sem.run_bind,run_eqGuard_agg w _ t yj wg _ _ hc.2];cases neg
  ·simp only[gq,if_false,Result.andThen_ok,run_eql_struct,key]
  ·simp only[if_true,Result.andThen_ok,run_neq_struct,key]
 ·cases hs
theorem alo (ab:a8 C fid G H w)(aP:fB C fid vars G w ah ρ){F4:BinOp}{t ey:TypeId}{x y:Operand}(ho:o.op=.binOp F4 t x y ey)(hc:C.cX vars pos o.op=some dm)(he:step ah H low dm=some (v,H',low')):
  db C fid G H w low ((execOp ρ o).run C.P w) v H' low':=by
 rw[ho]at hc;simp only[Ctx.cX]at hc;split at hc
 ·rename_i cO lC h1 h2
  have hx:=aP x cO h1;have hy:=aP y lC h2
  have plain:∀{a b:BinOp},step ah H low (.bin F4 cO lC)=some (v,H',low')->a=b->db C fid G H w low ((execOp ρ o).run C.P w) v H' low':=by
   intro _ _ he _;simp only[step]at he;obtain⟨u,hu,he⟩:=cA.1 he;simp only[bx]at he;obtain⟨rfl,rfl,rfl⟩:=he;obtain⟨z,aR,ep,ba⟩:=ale (C:=C) (t:=t) hx hy hu;refine .same ab (x:=z) ?_ ep;unfold execOp;rw[ho];simp only[ba,Sem.run_bind,Sem.run_pure,Result.andThen_ok,aR]
  have agg:∀(neg:Bool) {fs:Array Field},F4=(if neg then .neq else .eql)->C.P.underlying t=some (.struct fs)->(C.structEq t).map (fun n=>cV.zO neg n cO lC)=some dm->db C fid G H w low ((execOp ρ o).run C.P w) v H' low':=by
   intro neg fs dy hd hm;obtain⟨n,hn,rfl⟩:=cA.1 hm;simp only[step]at he;split at he
   ·rename_i xs cK af ak
    obtain⟨e,F5,he⟩:=cA.1 he;simp only[bx]at he;obtain⟨rfl,rfl,rfl⟩:=he;rw[af]at hx;rw[ak]at hy;obtain⟨pk,dT,alp⟩:=hx.FU;obtain⟨pn,F6,alq⟩:=hy.FU;have key:=aln hd hn alp alq F5 neg x y;rw[<-dy]at key;refine .same ab (x:=.bool (if neg then !e else e)) ?_ (.p _ _ (.bool _));unfold execOp;rw[ho];simp only[dT,F6];rw[Sem.run_bind,key];rfl
   ·cases he
  have kinds:∀(neg:Bool) {d:TypeDesc},F4=(if neg then .neq else .eql)->C.P.underlying t=some d->Ctx.zS d cO lC (.bin F4 cO lC) neg=some dm->db C fid G H w low ((execOp ρ o).run C.P w) v H' low':=by
   intro neg d dy hd hk
   have go:∀kind,dm=.r5 kind neg cO lC->kindOk kind d->
     (kind=3->∃c,y=.const c)->db C fid G H w low ((execOp ρ o).run C.P w) v H' low':=by
    intro kind ha F3 tt;subst ha;simp only[step]at he;obtain⟨e,F5,he⟩:=cA.1 he;simp only[bx]at he;obtain⟨rfl,rfl,rfl⟩:=he;have bf:=alg (t:=t) hd hx hy F5 F3;have hb:=alh hx hy F5 neg bf;rw[<-dy]at hb;refine .same ab (x:=.bool (if neg then !e else e)) ?_ (.p _ _ (.bool _));unfold execOp;rw[ho];simp only[ali hx hy F5 tt,Sem.run_bind,Sem.run_pure,Result.andThen_ok,hb]
   unfold Ctx.zS at hk;split at hk
   ·simp only[aB]at hk;subst hk;exact plain (a:=.add) (b:=.add) he rfl
   ·simp only[aB]at hk;subst hk;exact plain (a:=.add) (b:=.add) he rfl
   ·simp only[aB]at hk;exact go 0 hk.symm ⟨_,rfl⟩ (fun h=>by cases h)
   ·simp only[aB]at hk;exact go 1 hk.symm ⟨_,rfl⟩ (fun h=>by cases h)
   ·simp only[aB]at hk;exact go 2 hk.symm ⟨_,_,_,rfl⟩ (fun h=>by cases h)
   ·split at hk
    ·rename_i alr
     simp only[aB]at hk;exact go 3 hk.symm ⟨_,rfl⟩ (fun _=>alj h2 alr)
    ·cases hk
   ·simp only[aB]at hk;exact go 4 hk.symm rfl (fun h=>by cases h)
   ·cases hk
  split at hc
  ·rename_i hd;exact agg false rfl hd hc
  ·rename_i hd;exact agg true rfl hd hc
  ·rename_i hd;exact kinds false rfl hd hc
  ·rename_i hd;exact kinds true rfl hd hc
  ·cases hc
  ·cases hc
  ·simp only[aB]at hc;subst hc;exact plain (a:=.add) (b:=.add) he rfl
 ·cases hc
end Go.Abs
namespace Go.Abs
open Go
variable{C:Ctx}{fid:Nat->Nat}{w w':World}{G G':bX}{H:Heap}
variable{vars:List Nat}{ah:aj->V}{ρ:Operand->Value}{low low':Nat}{v:V}{H':Heap}{pos:String}{dm:cV}{o:Oper}
theorem wo{x:Value}{k:IntKind}{m:Int}{n y:Nat}{code:BoundsCode}(hx:x=.int k m)(h0:0<=m)(hn:m.toNat=n)(hy:n<=y):
  (Instr.sliceBound x y code).run C.P w=.ok n w:=by
 subst hx;have:0<=m/\m<=(y:Int):=by omega
 simp only[Instr.sliceBound,asIntOf,Sem.run_bind,Sem.run_pure,Result.andThen_ok,this,and_self,if_true,hn]
theorem Df (aP:fB C fid vars G w ah ρ){x:Option Operand}{cO:Option aj}(hx:C.qh vars x=some cO){d n:Nat}(h:fa ah d cO=some n):
  (x=none/\cO=none/\n=d)\/∃y k m,x=some y/\ρ y=.int k m/\0<=m/\m.toNat=n:=by
 cases x with
 |none=>
  simp only[Ctx.qh,aB]at hx;subst hx;simp only[fa,aB]at h;exact .inl ⟨rfl,rfl,h.symm⟩
 |some y=>
  simp only[Ctx.qh,cA]at hx;obtain⟨lC,hy,rfl⟩:=hx;simp only[fa]at h;obtain⟨k,m,e,hm,hn⟩:=Pn h;have:=aP y lC hy;rw[e]at this;exact .inr ⟨y,k,m,rfl,this.iW,hm,hn⟩
theorem F7 (aP:fB C fid vars G w ah ρ){lo hi:Option Operand}{yl tw:Option aj}(i1:C.qh vars lo=some yl)(q7:C.qh vars hi=some tw){XN:Bool}{len cap a b:Nat}
  (ha:fa ah 0 yl=some a) (hb:fa ah len tw=some b) (h1:a<=b) (h2:b<=len) (ar:len<=cap):
  (Instr.sliceBounds XN len cap (lo.map ρ) (hi.map ρ) none).run C.P w=.ok (a,b,cap) w:=by
 unfold Instr.sliceBounds;have dc:∀(z:Nat × Nat × Nat),True:=fun _=>trivial;rcases Df aP q7 hb with⟨rfl,-,rfl⟩|⟨y,k,m,rfl,po,hm,hn⟩
 ·rcases Df aP i1 ha with⟨rfl,-,rfl⟩|⟨oI,bF,m',rfl,F8,h7,q8⟩
  ·simp only[zF,Sem.run_bind,Sem.run_pure,Result.andThen_ok]
  ·simp only[zF,nM,Sem.run_bind,Sem.run_pure,Result.andThen_ok,wo (C:=C) F8 h7 q8 h1]
 ·rcases Df aP i1 ha with⟨rfl,-,rfl⟩|⟨oI,bF,m',rfl,F8,h7,q8⟩
  ·simp only[zF,nM,Sem.run_bind,Sem.run_pure,Result.andThen_ok,wo (C:=C) po hm hn (cY h2 ar)]
  ·simp only[nM,Sem.run_bind,Sem.run_pure,Result.andThen_ok,wo (C:=C) po hm hn (cY h2 ar),wo (C:=C) F8 h7 q8 h1]
theorem Px (aP:fB C fid vars G w ah ρ){lo hi mx:Option Operand}{yl tw:Option aj}{m:aj}(i1:C.qh vars lo=some yl)(q7:C.qh vars hi=some tw)(sg:C.qh vars mx=some (some m))
  {len cap a d:Nat} (ha:fa ah 0 yl=some a) (hb:fa ah d tw=some 0) (tx:tw≠none) (h1:a<=0) (hm:kE (ah m)=some 0):
  (Instr.sliceBounds true len cap (lo.map ρ) (hi.map ρ) (mx.map ρ)).run C.P w=.ok (0,0,0) w:=by
 unfold Instr.sliceBounds;obtain rfl:a=0:=by omega
 rcases Df aP sg (d:=0) (show fa ah 0 (some m)=some 0 from hm)with⟨-,q,-⟩|⟨z,aDd,aDe,rfl,q9,XO,KG⟩
 ·cases q
 ·rcases Df aP q7 hb with⟨-,q,-⟩|⟨y,k,m',rfl,po,h7,q8⟩
  ·exact absurd q tx
  ·rcases Df aP i1 ha with⟨rfl,-,-⟩|⟨oI,bF,aDf,rfl,F8,als,alu⟩
   ·simp only[zF,nM,Sem.run_bind,Sem.run_pure,Result.andThen_ok,wo (C:=C) q9 XO KG (cJ _),wo (C:=C) po h7 q8 (cJ _)]
   ·simp only[nM,Sem.run_bind,Sem.run_pure,Result.andThen_ok,wo (C:=C) q9 XO KG (cJ _),wo (C:=C) po h7 q8 (cJ _),wo (C:=C) F8 als alu (cJ _)]
theorem z8{t e:TypeId}(hd:C.P.underlying t=some (.slice e))(x:Value)(lo hi mx:Option Value):(Instr.sliceAt t x lo hi mx).run C.P w=(Instr.slice t x lo hi mx).run C.P w:=by
 unfold Instr.sliceAt;rw[Sem.run_bind,run_underlying hd];rfl
theorem alv{t:TypeId}(hd:C.P.underlying t=some .string)(x:Value)(lo hi mx:Option Value):(Instr.sliceAt t x lo hi mx).run C.P w=(Instr.slice t x lo hi mx).run C.P w:=by
 unfold Instr.sliceAt;rw[Sem.run_bind,run_underlying hd];rfl
theorem Aa{t n:Nat}(hs:C.sizeOf t=some n)(w:World):(Go.sizeOf t).run C.P w=.ok n w:=by
 simp only[Ctx.sizeOf,cA]at hs;obtain⟨i,hi,rfl⟩:=hs;unfold Go.sizeOf;rw[Sem.run_bind,run_typeInfo (P:=C.P) w hi];rfl
theorem alw (s:List UInt8)(a b:Nat):(⟨⟨s⟩⟩:ByteArray).extract a b=⟨⟨(s.take b).drop a⟩⟩:=by
 apply ByteArray.ext;rw[ByteArray.data_extract];apply Array.ext';simp[List.drop_take]
theorem alx{es:Nat}{ds:List V}{x:Value}(h:bh fid G w (.list es ds) x){a b:Nat}(ra:a<=b)(hb:b<=ds.length):
  ∃c8 cap,x=.slice (some c8) ds.length cap/\ds.length<=cap/\bh fid G w (.list es ((ds.take b).drop a)) (.slice (if cap=a then some c8 else some (c8.add (a*es))) (b-a) (cap-a)):=by
 obtain⟨c8,cap,rfl,ea,bf⟩:=h.yk;refine⟨c8,cap,rfl,ea,?_⟩;have hlen:((ds.take b).drop a).length=b-a:=by simp;omega
 by_cases hn:(ds.take b).drop a=[]
 ·have aly:b-a=0:=by rw[<-hlen,hn];rfl
  rw[hn,aly];split
  ·exact .p _ _ (.vY _ _ _)
  ·exact .p _ _ (.vY _ _ _)
 ·have aT:a<b:=by
   rcases gh a b with q|q
   ·exact q
   ·exact absurd (uR.1 (by omega)) hn
  rcases bf with rfl|⟨Ab,o',vals,rfl,bq,hc,hu,hr⟩
  ·simp at hn
  ·rw[if_neg (by omega),Addr.add_lit]
   have KH:∀d∈ds.take b,(aC d).length=es:=fun d hd=>hu d (x3 hd)
   have key:=fN.list (w:=w) (I:=G.I) es ((ds.take b).drop a) Ab (o'+a*es) (cap-a) ((vals.take (b*es)).drop (a*es)) bq ((hc.take _).drop _)
    (fun d hd=>KH d (x2 hd)) (by
      rw[zZ KH,C4 hu];exact(hr.take _).drop _) (by rw[hlen];omega)
   rw[hlen]at key;exact .p _ _ key
theorem alz (ab:a8 C fid G H w)(aP:fB C fid vars G w ah ρ){t:TypeId}{x:Operand}{lo hi mx:Option Operand}(ho:o.op=.slice t x lo hi mx)(hc:C.cX vars pos o.op=some dm)(he:step ah H low dm=some (v,H',low')):
  db C fid G H w low ((execOp ρ o).run C.P w) v H' low':=by
 rw[ho]at hc
 have cm:(execOp ρ o).run C.P w=((Instr.sliceAt t (ρ x) (lo.map ρ) (hi.map ρ) (mx.map ρ)).run C.P w).andThen fun z w'=>.ok (.value z) w':=by
  unfold execOp;rw[ho];simp only[Sem.run_bind];rfl
 simp only[Ctx.cX]at hc;split at hc
 ·rename_i cO yl tw hd h2 i1 q7 sg
  simp only[aB]at hc;subst hc;have ad:=aP x cO h2;simp only[step]at he;split at he
  ·rename_i s af
   split at he
   ·rename_i a b ha hb
    split at he
    ·rename_i hle
     simp only[aB,bx]at he;obtain⟨rfl,rfl,rfl⟩:=he;rw[af]at ad
     obtain rfl:mx=none:=by
      cases mx with
      |none=>rfl
      |some y=>simp[Ctx.qh]at sg
     have fO:=F7 (C:=C) (XN:=false) (cap:=s.length) aP i1 q7 ha hb hle.1 hle.2 (aH _);refine .same ab (x:=.string ⟨⟨(s.take b).drop a⟩⟩) ?_ (.p _ _ (.str _));rw[cm,alv hd,ad.oG];unfold Instr.slice;have alA:(⟨⟨s⟩⟩:ByteArray).size=s.length:=rfl;simp only[Sem.run_bind,run_underlying hd,Result.andThen_ok,zF,Option.isSome_none,gq,if_false,alA,fO,Sem.run_pure,alw]
    ·cases he
   ·cases he
  ·cases he
 ·rename_i e cO yl tw KI hd h2 i1 q7 sg
  split at hc
  ·rename_i n hn
   split at hc
   ·cases hc
   ·rename_i nn
    simp only[aB]at hc;subst hc;have ad:=aP x cO h2;have mw:=Aa (C:=C) hn
    have alB:tw.isNone=true->KI.isSome=true->False:=by
     intro h1 h2;simp[h1,h2]at nn
    have Py:∀{q:Option aj},C.qh vars mx=some q->q=none->mx=none:=by
     intro q h1 h2;cases mx with
     |none=>rfl
     |some y=>simp[Ctx.qh,h2]at h1
    have Pz:∀{m:aj},KI=some m->tw≠none:=by
     rintro m rfl rfl;exact alB rfl rfl
    have XP:∀{cap:Nat},0<=cap->fa ah 0 yl=some 0->fa ah 0 tw=some 0->fa ah 0 KI=some 0->(Instr.sliceBounds true 0 0 (lo.map ρ) (hi.map ρ) (mx.map ρ)).run C.P w=.ok (0,0,0) w:=by
     intro _ _ ha hb hm;cases bf:KI with
     |none=>
      rw[bf]at sg;rw[Py sg rfl];exact F7 (C:=C) aP i1 q7 ha hb (aH _) (aH _) (aH _)
     |some m=>
      rw[bf]at sg hm;exact Px (C:=C) aP i1 q7 sg ha hb (Pz bf) (aH _) hm
    simp only[step]at he;split at he
    ·rename_i af
     split at he
     ·rename_i ha hb hm
      simp only[aB,bx]at he;obtain⟨rfl,rfl,rfl⟩:=he;rw[af]at ad;refine .same ab (x:=.slice none 0 0) ?_ (.p _ _ .aN);rw[cm,z8 hd,ad.iZ];unfold Instr.slice;simp only[Sem.run_bind,run_underlying hd,Result.andThen_ok,XP (cap:=0) (cJ _) ha hb hm,mw,Sem.run_pure];rfl
     ·cases he
    ·rename_i af
     split at he
     ·rename_i ha hb hm
      simp only[aB,bx]at he;obtain⟨rfl,rfl,rfl⟩:=he;rw[af]at ad;obtain⟨c8,hx⟩:=ad.q5;refine .same ab (x:=.slice (some c8) 0 0) ?_ (.p _ _ (.emp _));rw[cm,z8 hd,hx];unfold Instr.slice;simp only[Sem.run_bind,run_underlying hd,Result.andThen_ok,XP (cap:=0) (cJ _) ha hb hm,mw,Sem.run_pure];rfl
     ·cases he
    ·rename_i bN ds af
     split at he
     ·rename_i a b ha hb
      split at he
      ·rename_i hle
       obtain⟨ra,hD,rfl⟩:=hle;rw[af]at ad;obtain⟨c8,cap,hx,ea,ep⟩:=alx ad ra hD;split at he
       ·simp only[aB,bx]at he
        obtain⟨rfl,rfl,rfl⟩:=he;obtain rfl:=Py sg rfl;refine .same ab ?_ ep;rw[cm,z8 hd,hx];unfold Instr.slice;simp only[Sem.run_bind,run_underlying hd,Result.andThen_ok,zF,F7 (C:=C) aP i1 q7 ha hb ra hD ea,mw,Sem.run_pure];rfl
       ·rename_i m
        split at he
        ·rename_i hm
         obtain⟨ga,rfl⟩:=hm;simp only[aB,bx]at he;obtain⟨rfl,rfl,rfl⟩:=he;refine .same ab (x:=.slice (some c8) 0 0) ?_ (.p _ _ (.emp _));rw[cm,z8 hd,hx];unfold Instr.slice;simp only[Sem.run_bind,run_underlying hd,Result.andThen_ok,Px (C:=C) aP i1 q7 sg ha hb (Pz rfl) ra ga,mw,Sem.run_pure];rfl
        ·cases he
      ·cases he
     ·cases he
    ·rename_i l bN off len tag af
     split at he
     ·rename_i a b ha hb
      split at he
      ·rename_i hle
       obtain⟨ra,hD,rfl⟩:=hle;rw[af]at ad;obtain⟨h0,c8,cR,cap,cy,oH,gY,hx⟩:=ad.nk;split at he
       ·split at he
        ·rename_i e6 ds fz hl
         split at he
         ·rename_i et
          obtain⟨fX,rfl⟩:=et;obtain rfl:=Py sg rfl;obtain⟨aV,eO,hr⟩:=ab.obj l h0 cy;rw[hl]at eO;cases eO;obtain⟨rfl,rfl,eV,np⟩:=gY (hr.1.trans fX);split at he
          ·rename_i aT
           simp only[aB,bx]at he;obtain⟨rfl,rfl,rfl⟩:=he;refine .same ab (x:=.slice (some ⟨h0.b,(off+a)*e6,none⟩) (b-a) (cap-a)) ?_ (.bJ l e6 (off+a) (b-a) tag h0 _ _ _ cy oH (fun _=>⟨rfl,rfl,?_,by omega⟩))
           ·rw[cm,z8 hd,hx]
            unfold Instr.slice;simp only[Sem.run_bind,run_underlying hd,Result.andThen_ok,zF,F7 (C:=C) aP i1 q7 ha hb ra hD np,mw,Sem.run_pure];rw[if_neg (by omega),nM,Addr.add_lit,p7]
           ·have:off+a+(cap-a)=off+cap:=by omega
            rw[this];exact eV
          ·rename_i aT
           simp only[aB,bx]at he;obtain⟨rfl,rfl,rfl⟩:=he;obtain rfl:a=b:=by omega
           have key:∀(q:Addr),bh fid G w (.list e6 []) (.slice (some q) (a-a) (cap-a)):=fun q=>by rw[Ft];exact .p _ _ (.vY _ _ _)
           refine .same ab (x:=.slice (if cap=a then some ⟨h0.b,off*e6,none⟩else some (Addr.add ⟨h0.b,off*e6,none⟩ (a*e6))) (a-a) (cap-a)) ?_ (by split<;>exact key _);rw[cm,z8 hd,hx];unfold Instr.slice;simp only[Sem.run_bind,run_underlying hd,Result.andThen_ok,zF,F7 (C:=C) aP i1 q7 ha hb ra hD np,mw,Sem.run_pure];rfl
         ·cases he
        ·cases he
       ·rename_i m
        split at he
        ·rename_i hm
         obtain⟨ga,rfl⟩:=hm;simp only[aB,bx]at he;obtain⟨rfl,rfl,rfl⟩:=he;refine .same ab (x:=.slice (some c8) 0 0) ?_ (.p _ _ (.emp _));rw[cm,z8 hd,hx];unfold Instr.slice;simp only[Sem.run_bind,run_underlying hd,Result.andThen_ok,Px (C:=C) aP i1 q7 sg ha hb (Pz rfl) ra ga,mw,Sem.run_pure];rfl
        ·cases he
      ·cases he
     ·cases he
    ·cases he
  ·cases hc
 ·cases hc
end Go.Abs
namespace Go.Abs
open Go
variable{C:Ctx}{fid:Nat->Nat}{w w':World}{G G':bX}{H:Heap}
variable{vars:List Nat}{ah:aj->V}{ρ:Operand->Value}{low low':Nat}{v:V}{H':Heap}{pos:String}{dm:cV}{o:Oper}
theorem dh.split:∀{vs us:List V} {zs:List Value} {I:Nat->Prop},dh w I (vs++us) zs->∃xs cK,zs=xs++cK/\dh w I vs xs/\dh w I us cK
 |[],us,zs,_,h=>⟨[],zs,rfl,.nil,h⟩
 |v::vs,us,_,_,.cons _ x _ xs h hs=>by
  obtain⟨ay,aK,rfl,h1,h2⟩:=dh.split (vs:=vs) hs;exact⟨x::ay,aK,rfl,.cons v x vs ay h h1,h2⟩
theorem alC (ab:a8 C fid G H w)(aP:fB C fid vars G w ah ρ){t:TypeId}{x i:Operand}(ho:o.op=.indexAddr t x i)(hc:C.cX vars pos o.op=some dm)(he:step ah H low dm=some (v,H',low')):
  db C fid G H w low ((execOp ρ o).run C.P w) v H' low':=by
 rw[ho]at hc;simp only[Ctx.cX]at hc;split at hc
 ·rename_i e cO jA hd h2 ar
  split at hc
  ·rename_i n hn
   split at hc
   ·cases hc
   ·simp only[aB]at hc;subst hc
    have mw:=Aa (C:=C) hn;have hx:=aP x cO h2;have hi:=aP i jA ar;simp only[step]at he;split at he
    ·rename_i j alD
     obtain⟨k,m,em,hm,alE⟩:=Pn alD;rw[em]at hi
     have cm:∀c8 len cap,ρ x=.slice (some c8) len cap->j<len->(execOp ρ o).run C.P w=.ok (.value (.pointer (some (c8.add (j*n))))) w:=by
      intro c8 len cap dN aT;have et:0<=m/\m<(len:Int):=by omega
      unfold execOp;rw[ho];simp only[dN,hi.iW,Instr.indexAt,asIntOf,Sem.run_bind,Sem.run_pure,Result.andThen_ok,run_underlying hd,et,and_self,if_true,mw,alE]
     split at he
     ·rename_i bN ds af
      split at he
      ·rename_i eo
       subst eo;obtain⟨d,PA,he⟩:=cA.1 he;simp only[bx]at he;obtain⟨rfl,rfl,rfl⟩:=he;rw[af]at hx;obtain⟨c8,cap,dN,ea,bf⟩:=hx.yk;obtain⟨aT,alF⟩:=fj.1 PA;rcases bf with rfl|⟨b,o',vals,rfl,bq,hcell,hu,hr⟩
       ·simp at aT
       ·refine .same ab (cm _ _ _ dN aT) ?_
        rw[Addr.add_lit];have h2:ds.drop j=d::ds.drop (j+1):=by rw[<-alF];exact uQ aT
        have ar:=hr.drop (j*bN);rw[<-zZ hu,h2,im]at ar;obtain⟨xs,cK,F9,alG,-⟩:=ar.split;have iU:=hcell.drop (j*bN);rw[F9]at iU
        have alH:iL w b (o'+j*bN) xs:=fun a c XQ=>iU a c (by
         rw[e5 (by
          rcases gh a xs.length with q|q
          ·exact q
          ·simp[lQ q]at XQ)];exact XQ)
        exact .dO _ 0 b (o'+j*bN) xs bq alH alG
      ·cases he
     ·rename_i l bN off len tag af
      split at he
      ·rename_i e6 ds fz hl
       split at he
       ·rename_i et
        obtain⟨rfl,rfl,fX,oJ,si⟩:=et;simp only[aB,bx]at he;obtain⟨rfl,rfl,rfl⟩:=he;rw[af]at hx;obtain⟨h0,c8,cR,cap,cy,oH,gY,dN⟩:=hx.nk;obtain⟨aV,eO,hr⟩:=ab.obj l h0 cy;rw[hl]at eO;cases eO;obtain⟨rfl,rfl,eV,np⟩:=gY (hr.1.trans fX);refine .same ab (cm _ _ _ dN oJ) (.hz l _ (off+j) 0 tag h0 _ cy oH (fun _=> ?_));rw[Addr.add_lit,x9,p7]
       ·cases he
      ·cases he
     ·cases he
    ·cases he
  ·cases hc
 ·cases hc
theorem wq{b:Builtin}{args:Array Operand}{ts:Array TypeId}(ho:o.op=.call {callee:=.builtin b,args,argTypes:=ts}):
  (execOp ρ o).run C.P w=(builtin b ts o.type (args.map fun| .const _=>true| _=>false) (args.map ρ)).run C.P w:=by
 unfold execOp;rw[ho];simp only[resolve,invoke,Sem.run_bind,Sem.run_pure,Result.andThen_ok];rfl
theorem XR (ab:a8 C fid G H w)(aP:fB C fid vars G w ah ρ){b:Builtin}{x y:Operand}{args:Array Operand}{ts:Array TypeId}(ho:o.op=.call {callee:=.builtin b,args,argTypes:=ts})
  (ha:args= #[x,y]) {mx:Bool} (hb:b=if mx then .max else .min) {cO lC:aj} (h1:C.cg vars x=some cO) (h2:C.cg vars y=some lC) (he:step ah H low (.vU mx cO lC)=some (v,H',low')):
  db C fid G H w low ((execOp ρ o).run C.P w) v H' low':=by
 subst ha;have hx:=aP x cO h1;have hy:=aP y lC h2;simp only[step]at he;split at he
 ·rename_i k a bF e1 af ak
  split at he
  ·rename_i hk
   subst hk;simp only[aB,bx]at he;obtain⟨rfl,rfl,rfl⟩:=he;rw[af]at hx;rw[ak]at hy;refine .same ab (x:=.int k (if mx then max a e1 else min a e1)) ?_ (.p _ _ (.int _ _));rw[wq ho];subst hb;cases mx
   ·have hm:(if e1<a then e1 else a)=min a e1:=by
     rw[Int.min_def];split<;>split<;>omega
    simp[builtin,Builtin.min_,Builtin.min2,hx.iW,hy.iW,hm]
   ·have hm:(if a<e1 then e1 else a)=max a e1:=by
     rw[Int.max_def];split<;>split<;>omega
    simp[builtin,Builtin.max_,Builtin.max2,hx.iW,hy.iW,hm]
  ·cases he
 ·cases he
theorem PB (ab:a8 C fid G H w)(aP:fB C fid vars G w ah ρ){x:Operand}{t:TypeId}{args:Array Operand}{ts:Array TypeId}(ho:o.op=.call {callee:=.builtin .len,args,argTypes:=ts})
  (ha:args= #[x]) (ht:ts= #[t]) {cO:aj} (h1:C.cg vars x=some cO) {kind:Nat} (hk:match kind with|0=>C.P.underlying t=some .string|1=>∃e,C.P.underlying t=some (.slice e)| _=>∃k e,C.P.underlying t=some (.map k e))
  (he:step ah H low (.len kind cO)=some (v,H',low')):db C fid G H w low ((execOp ρ o).run C.P w) v H' low':=by
 subst ha;subst ht;have hx:=aP x cO h1
 have cm:∀(n:Nat),(Builtin.len_ #[t] o.type #[ρ x]).run C.P w=.ok (goInt n) w->db C fid G H w low ((execOp ρ o).run C.P w) (.int .i64 n) H low:=by
  intro n hn;refine .same ab (x:=.int .i64 n) ?_ (.p _ _ (.int _ _));rw[wq ho];simp only[builtin,Sem.run_bind];have e:Array.map ρ #[x]= #[ρ x]:=by simp
  rw[e,hn];rfl
 simp only[step]at he;split at he
 ·rename_i s af
  simp only[aB,bx]at he;obtain⟨rfl,rfl,rfl⟩:=he;rw[af]at hx;refine cm s.length ?_;have hk:C.P.underlying t=some .string:=hk;simp only[Builtin.len_,hx.oG,Sem.run_bind,run_underlying hk,Result.andThen_ok,r1,o8,Sem.run_pure];rfl
 ·rename_i af
  simp only[aB,bx]at he;obtain⟨rfl,rfl,rfl⟩:=he;rw[af]at hx;obtain⟨e,hk⟩:∃e,C.P.underlying t=some (.slice e):=hk;refine cm 0 ?_;simp only[Builtin.len_,hx.iZ,Sem.run_bind,run_underlying hk,Result.andThen_ok,r1,o8,Sem.run_pure]
 ·rename_i af
  simp only[aB,bx]at he;obtain⟨rfl,rfl,rfl⟩:=he;rw[af]at hx;obtain⟨e,hk⟩:∃e,C.P.underlying t=some (.slice e):=hk;obtain⟨c8,dN⟩:=hx.q5;refine cm 0 ?_;simp only[Builtin.len_,dN,Sem.run_bind,run_underlying hk,Result.andThen_ok,r1,o8,Sem.run_pure]
 ·rename_i es ds af
  simp only[aB,bx]at he;obtain⟨rfl,rfl,rfl⟩:=he;rw[af]at hx;obtain⟨e,hk⟩:∃e,C.P.underlying t=some (.slice e):=hk;obtain⟨c8,cap,dN,-,-⟩:=hx.yk;refine cm ds.length ?_;simp only[Builtin.len_,dN,Sem.run_bind,run_underlying hk,Result.andThen_ok,r1,o8,Sem.run_pure]
 ·rename_i l es off len tag af
  obtain⟨e,hk⟩:∃e,C.P.underlying t=some (.slice e):=hk;split at he
  ·rename_i bN ds fz hl
   split at he
   ·rename_i et
    simp only[aB,bx]at he;obtain⟨rfl,rfl,rfl⟩:=he;rw[af]at hx;obtain⟨h0,c8,cR,cap,cy,oH,gY,dN⟩:=hx.nk;obtain⟨aV,eO,hr⟩:=ab.obj l h0 cy;rw[hl]at eO;cases eO;obtain⟨rfl,rfl,eV,np⟩:=gY (hr.1.trans et.2);refine cm cR ?_;simp only[Builtin.len_,dN,Sem.run_bind,run_underlying hk,Result.andThen_ok,r1,o8,Sem.run_pure]
   ·cases he
  ·rename_i r hl
   split at he
   ·rename_i et
    simp only[aB,bx]at he;obtain⟨rfl,rfl,rfl⟩:=he;rw[af]at hx;obtain⟨h0,c8,cR,cap,cy,oH,gY,dN⟩:=hx.nk;obtain⟨aV,eO,hr⟩:=ab.obj l h0 cy;rw[hl]at eO;cases eO;obtain⟨rfl,rfl,eV,np⟩:=gY (hr.2.1.trans et);refine cm cR ?_;simp only[Builtin.len_,dN,Sem.run_bind,run_underlying hk,Result.andThen_ok,r1,o8,Sem.run_pure]
   ·cases he
  ·cases he
 ·rename_i af
  simp only[aB,bx]at he;obtain⟨rfl,rfl,rfl⟩:=he;rw[af]at hx;obtain⟨k,e,hk⟩:∃k e,C.P.underlying t=some (.map k e):=hk;refine cm 0 ?_;simp only[Builtin.len_,hx.Po,Sem.run_bind,run_underlying hk,Result.andThen_ok,r1,o8,Sem.run_pure];rfl
 ·rename_i l af
  obtain⟨k,e,hk⟩:∃k e,C.P.underlying t=some (.map k e):=hk;split at he
  ·rename_i bp hl
   simp only[aB,bx]at he;obtain⟨rfl,rfl,rfl⟩:=he;rw[af]at hx;obtain⟨h0,cy,-,dN⟩:=hx.mapInv;obtain⟨aV,eO,hr⟩:=ab.obj l h0 cy;rw[hl]at eO;cases eO;obtain⟨-,-,es,bT,hm,gG,wu,-⟩:=hr;have hlen:=gG.length;simp only[eL,fw]at hlen;refine cm bp.length ?_;have ba:(getObj h0.b).run C.P w=.ok (.map es bT) w:=by simp[getObj,Sem.run,hm]
   simp only[Builtin.len_,dN,Sem.run_bind,run_underlying hk,Result.andThen_ok,r1,o8,ba,Sem.run_pure,hlen]
  ·cases he
 ·cases he
end Go.Abs
