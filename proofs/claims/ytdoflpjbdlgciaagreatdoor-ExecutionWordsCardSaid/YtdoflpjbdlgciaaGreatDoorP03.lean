/- Texts of this claim, joined and written short by a program. -/
import Derived.Test.YtdoflpjbdlgciaaGreatDoorP02
import Derived.WalkLawsBesides
import Derived.Laws.StructEq
import Derived.Test.YtdoflpjbdlgciaaGreatDoorP00
set_option linter.unusedVariables false
set_option linter.unusedSimpArgs false
set_option linter.unusedSectionVars false
namespace Go.Abs
open Go
variable{C:Ctx}{fid:Nat->Nat}{w w':World}{G G':cc}{H:Heap}
variable{vars:List Nat}{ai:aj->V}{ρ:Operand->Value}{low low':Nat}{v:V}{H':Heap}{pos:String}{dq:cS}{o:Oper}
theorem U9 (aa:bf C fid G H w)(aR:fC C fid vars G w ai ρ){x:Operand}(ho:o.op=.move x\/o.op=.assign x)(hc:C.cY vars pos o.op=some dq)(he:step ai H low dq=some (v,H',low')):
  df C fid G H w low ((execOp ρ o).run C.P w) v H' low':=by
 have vd:(C.ch vars x).map cS.mv=some dq:=by rcases ho with ho|ho<;>(rw[ho]at hc;exact hc)
 obtain⟨cJ,hx,rfl⟩:=cG.1 vd;simp only[step,aA,bC]at he;obtain⟨rfl,rfl,rfl⟩:=he;exact .same aa (x:=ρ x) (by unfold execOp;rcases ho with ho|ho<;>rw[ho]<;>rfl) (aR x cJ hx)
theorem ag8 (aa:bf C fid G H w)(aR:fC C fid vars G w ai ρ){c a b:Operand}(ho:o.op=.pick c a b)(hc:C.cY vars pos o.op=some dq)(he:step ai H low dq=some (v,H',low')):
  df C fid G H w low ((execOp ρ o).run C.P w) v H' low':=by
 rw[ho]at hc;simp only[Ctx.cY]at hc;split at hc
 ·rename_i c' bl e3 h1 h2 av
  simp only[aA]at hc;subst hc;simp only[step]at he;obtain⟨t,ht,he⟩:=cG.1 he;simp only[bC]at he;obtain⟨rfl,rfl,rfl⟩:=he
  have jS:ai c'=.bool t:=by
   unfold pE at ht;split at ht
   ·simp only[aA]at ht;subst ht;assumption
   ·cases ht
  have:=aR c c' h1;rw[jS]at this;have hb:=this.k1;refine .same aa (x:=if t then ρ a else ρ b) (by unfold execOp;rw[ho];simp only[hb,asBool,Sem.run_bind,Sem.run_pure,Result.andThen_ok]) ?_;cases t
  ·exact aR b e3 av
  ·exact aR a bl h2
 ·cases hc
theorem ag9 (aa:bf C fid G H w)(aR:fC C fid vars G w ai ρ){x:Operand}(ho:o.op=.nilCheck x)(hc:C.cY vars pos o.op=some dq)(he:step ai H low dq=some (v,H',low')):
  df C fid G H w low ((execOp ρ o).run C.P w) v H' low':=by
 rw[ho]at hc;obtain⟨cJ,hx,rfl⟩:=cG.1 hc;have af:=aR x cJ hx;simp only[step]at he;split at he
 ·rename_i l o' e
  simp only[aA,bC]at he;obtain⟨rfl,rfl,rfl⟩:=he;rw[e]at af;obtain⟨h0,hb,ht,en⟩:=af.oU;exact .same aa (x:=ρ x) (by unfold execOp;rw[ho];simp only[en];rfl) af
 ·rename_i l es i f tag e
  simp only[aA,bC]at he;obtain⟨rfl,rfl,rfl⟩:=he;rw[e]at af;obtain⟨h0,a,hb,hle,ao,en⟩:=af.Ej;exact .same aa (x:=ρ x) (by unfold execOp;rw[ho];simp only[en];rfl) af
 ·rename_i vs f e
  simp only[aA,bC]at he;obtain⟨rfl,rfl,rfl⟩:=he;rw[e]at af;obtain⟨b,o',vals,a7,hc,hr,en⟩:=af.NX;exact .same aa (x:=ρ x) (by unfold execOp;rw[ho];simp only[en];rfl) af
 ·rename_i i a b e
  simp only[aA,bC]at he;obtain⟨rfl,rfl,rfl⟩:=he;rw[e]at af;obtain⟨xs,cL,ae,hc,en⟩:=af.BK;exact .same aa (x:=ρ x) (by unfold execOp;rw[ho];simp only[en];rfl) af
 ·cases he
theorem aha (aa:bf C fid G H w)(aR:fC C fid vars G w ai ρ){op:UnOp}{t:TypeId}{x:Operand}(ho:o.op=.unOp op t x)(hc:C.cY vars pos o.op=some dq)(he:step ai H low dq=some (v,H',low')):
  df C fid G H w low ((execOp ρ o).run C.P w) v H' low':=by
 rw[ho]at hc;obtain⟨cJ,hx,rfl⟩:=cG.1 hc;have af:=aR x cJ hx;simp only[step]at he;obtain⟨u,hu,he⟩:=cG.1 he;simp only[bC]at he;obtain⟨rfl,rfl,rfl⟩:=he;unfold pF at hu;split at hu
 ·rename_i k n e
  simp only[aA]at hu;subst hu;rw[e]at af;exact .same aa (x:=.int k (k.wrap (0-n))) (by unfold execOp;rw[ho];simp only[af.kf,Op.unary,Op.intArith,Sem.run_bind,Sem.run_pure,Result.andThen_ok]) (.p _ _ (.int _ _))
 ·rename_i b e
  simp only[aA]at hu;subst hu;rw[e]at af;exact .same aa (x:=.bool !b) (by unfold execOp;rw[ho];simp only[af.k1,Op.unary,Sem.run_bind,Sem.run_pure,Result.andThen_ok]) (.p _ _ (.bool _))
 ·cases hu
theorem ahb (aa:bf C fid G H w)(aR:fC C fid vars G w ai ρ){s d:TypeId}{x:Operand}(ho:o.op=.convert s d x)(hnb:∀x,dq≠ .qu x)(hc:C.cY vars pos o.op=some dq)(he:step ai H low dq=some (v,H',low')):
  df C fid G H w low ((execOp ρ o).run C.P w) v H' low':=by
 rw[ho]at hc;simp only[Ctx.cY]at hc;split at hc
 ·rename_i k0 k cJ h1 h2 av
  simp only[aA]at hc;subst hc;have af:=aR x cJ av;simp only[step]at he;split at he
  ·rename_i bE n e
   simp only[aA,bC]at he;obtain⟨rfl,rfl,rfl⟩:=he;rw[e]at af;exact .same aa (x:=.int k (k.wrap n)) (by unfold execOp;rw[ho];simp only[af.kf,convert,Sem.run_bind,run_underlying h1,run_underlying h2,Result.andThen_ok,Conv.intToInt,Sem.run_pure]) (.p _ _ (.int _ _))
  ·cases he
 ·split at hc
  ·simp only[aA]at hc;exact absurd hc.symm (hnb _)
  ·cases hc
 ·cases hc
theorem ahc (aa:bf C fid G H w)(aR:fC C fid vars G w ai ρ){t:TypeId}{x:Operand}(ho:o.op=.makeInterface t x)(hc:C.cY vars pos o.op=some dq)(he:step ai H low dq=some (v,H',low')):
  df C fid G H w low ((execOp ρ o).run C.P w) v H' low':=by
 rw[ho]at hc;simp only[Ctx.cY]at hc;split at hc
 ·cases hc
 ·rename_i d cJ bu h1 h2
  simp only[aA]at hc;subst hc;have af:=aR x cJ h2;simp only[step]at he;split at he
  ·rename_i v1 H1 bS ae
   simp only[aA,bC]at he;obtain⟨rfl,rfl,rfl⟩:=he;obtain⟨az,f1,ct⟩:=IX aa af ae;refine df.BJ f1 (df.same f1.rel (x:=.iface t (ρ x)) ?_ (.iface _ _ _ ct));unfold execOp;rw[ho];simp only[Instr.makeInterface,Sem.run_bind,run_underlying h1,Result.andThen_ok];cases d<;>first|rfl|(exfalso;exact bu _ h1)
  ·cases he
 ·cases hc
theorem I0 (aR:fC C fid vars G w ai ρ):∀{xs:List Operand} {N2:List aj},ee (C.ch vars) xs=some N2->bk fid G w (N2.map ai) (xs.map ρ)
 |[],_,h=>by simp only[ee,aA]at h;subst h;exact .nil
 |x::xs,_,h=>by
  simp only[ee]at h;split at h
  ·rename_i cJ hx
   split at h
   ·rename_i N2 eX
    simp only[aA]at h;subst h;exact .cons _ _ _ _ (aR x cJ hx) (I0 aR eX)
   ·cases h
  ·cases h
theorem ahd (bF:fp C fid)(aa:bf C fid G H w)(aR:fC C fid vars G w ai ρ){f:Fn}{a b:Array Operand}(ho:o.op=.makeFunc f a b)(hc:C.cY vars pos o.op=some dq)(he:step ai H low dq=some (v,H',low')):
  df C fid G H w low ((execOp ρ o).run C.P w) v H' low':=by
 rw[ho]at hc;cases f with
 |func f=>
  simp only[Ctx.cY]at hc;split at hc
  ·rename_i i bl e3 h1 h2 av
   simp only[aA]at hc;subst hc;simp only[step,aA,bC]at he;obtain⟨rfl,rfl,rfl⟩:=he;refine .same aa (x:=.func (.func f) (a.map ρ) (b.map ρ)) (by unfold execOp;rw[ho];rfl) ?_;have e:=bF.f f i h1;subst e;have:=bq.fn (fid:=fid) i _ _ _ _ (I0 aR h2) (I0 aR av);have ag:a.map ρ=⟨a.toList.map ρ⟩:=by rw[<-Array.toList_map]
   have e2:b.map ρ=⟨b.toList.map ρ⟩:=by rw[<-Array.toList_map]
   rw[ag,e2];exact this
  ·cases hc
 | _=>simp[Ctx.cY]at hc
theorem ahe (aa:bf C fid G H w)(aR:fC C fid vars G w ai ρ){x:Operand}{i:Nat}(ho:o.op=.extract x i)(hc:C.cY vars pos o.op=some dq)(he:step ai H low dq=some (v,H',low')):
  df C fid G H w low ((execOp ρ o).run C.P w) v H' low':=by
 rw[ho]at hc;obtain⟨cJ,hx,rfl⟩:=cG.1 hc;have af:=aR x cJ hx;simp only[step]at he;split at he
 ·rename_i vs e
  obtain⟨u,hu,he⟩:=cG.1 he;simp only[bC]at he;obtain⟨rfl,rfl,rfl⟩:=he;rw[e]at af;obtain⟨vals,en,hr⟩:=af.NP;obtain⟨y,hy,fx⟩:=hr.get hu;exact .same aa (x:=y) (by unfold execOp;rw[ho];simp only[en,Instr.extract,r9,hy,Sem.run_bind,Sem.run_pure,Result.andThen_ok]) fx
 ·cases he
theorem ahf (aa:bf C fid G H w)(aR:fC C fid vars G w ai ρ){s:TypeId}{x:Operand}{f:Nat}(ho:o.op=.field s x f)(hc:C.cY vars pos o.op=some dq)(he:step ai H low dq=some (v,H',low')):
  df C fid G H w low ((execOp ρ o).run C.P w) v H' low':=by
 rw[ho]at hc;simp only[Ctx.cY]at hc;split at hc
 ·rename_i fs cJ h1 h2
  split at hc
  ·rename_i bb av
   obtain⟨sh,bc,rfl⟩:=cG.1 hc;have af:=aR x cJ h2;simp only[step]at he;split at he
   ·rename_i vs e
    obtain⟨u,hu,he⟩:=cG.1 he;simp only[bC]at he;obtain⟨rfl,rfl,rfl⟩:=he;rw[e]at af;obtain⟨vals,en,hr⟩:=af.Ee;have ah:=hr.iq hu;rcases U2 bc with⟨n,rfl,ao,hs⟩|⟨rfl,ao⟩
    ·refine .same aa (x:=.agg ⟨(vals.drop bb.offset).take n⟩) ?_ ah.2
     unfold execOp;rw[ho];simp only[en,Instr.field,Sem.run_bind,run_underlying h1,Result.andThen_ok,av,asAgg,Sem.run_pure,part,ao,hs,if_true];congr 3;apply Array.ext';simp
    ·obtain⟨y,hy,fx⟩:=ah
     refine .same aa (x:=y) ?_ fx;unfold execOp;rw[ho];simp only[en,Instr.field,Sem.run_bind,run_underlying h1,Result.andThen_ok,av,asAgg,Sem.run_pure,part,ao,gN,if_false,r9,hy]
   ·cases he
  ·cases hc
 ·cases hc
theorem ahg (aa:bf C fid G H w)(aR:fC C fid vars G w ai ρ){s:TypeId}{x:Operand}{f:Nat}(ho:o.op=.fieldAddr s x f)(hc:C.cY vars pos o.op=some dq)(he:step ai H low dq=some (v,H',low')):
  df C fid G H w low ((execOp ρ o).run C.P w) v H' low':=by
 rw[ho]at hc;simp only[Ctx.cY]at hc;split at hc
 ·rename_i fs cJ h1 h2
  split at hc
  ·rename_i bb av
   split at hc
   ·rename_i n bc
    split at hc
    ·cases hc
    ·rename_i hn
     simp only[aA]at hc;subst hc;have af:=aR x cJ h2
     have cn:∀a,ρ x=.pointer (some a)->(execOp ρ o).run C.P w=.ok (.value (.pointer (some (a.add bb.offset)))) w:=by
      intro a ao;simp only[Ctx.sizeOf,cG]at bc;obtain⟨i,hi,rfl⟩:=bc;unfold execOp;rw[ho];simp only[ao,Instr.fieldAt,Sem.run_bind,run_underlying h1,Result.andThen_ok,av,Instr.sureAddr,Sem.run_pure,fieldPlace,sizeOf,run_typeInfo (P:=C.P) w hi,hn,if_false]
     simp only[step]at he;split at he
     ·rename_i l o' e
      simp only[aA,bC]at he;obtain⟨rfl,rfl,rfl⟩:=he;rw[e]at af;obtain⟨h0,hb,ht,en⟩:=af.oU;refine .same aa (cn _ en) ?_;rw[Addr.add_lit];exact .ptr l _ h0 hb ht
     ·rename_i l es i mg tag e
      simp only[aA,bC]at he;obtain⟨rfl,rfl,rfl⟩:=he;rw[e]at af;obtain⟨h0,a,hb,hle,ao,en⟩:=af.Ej;refine .same aa (cn _ en) (.hg l es i _ tag h0 _ hb hle (fun ht=> ?_));rw[ao ht,Addr.add_lit,rl]
     ·rename_i vs mg e
      simp only[aA,bC]at he;obtain⟨rfl,rfl,rfl⟩:=he;rw[e]at af;obtain⟨b,o',vals,a7,hc,hr,en⟩:=af.NX;refine .same aa (cn _ en) ?_;rw[Addr.add_lit,rl];exact .dW vs _ b o' vals a7 hc hr
     ·cases he
   ·cases hc
  ·cases hc
 ·cases hc
theorem ahh (aa:bf C fid G H w)(aR:fC C fid vars G w ai ρ){t:TypeId}{a:Operand}(ho:o.op=.load t a)(hc:C.cY vars pos o.op=some dq)(he:step ai H low dq=some (v,H',low')):
  df C fid G H w low ((execOp ρ o).run C.P w) v H' low':=by
 rw[ho]at hc;simp only[Ctx.cY]at hc;split at hc
 ·rename_i sh cJ h1 h2
  simp only[aA]at hc;subst hc;simp only[step]at he;obtain⟨u,hu,he⟩:=cG.1 he;simp only[bC]at he;obtain⟨rfl,rfl,rfl⟩:=he;obtain⟨y,hy,fx⟩:=U3 aa h1 (aR a cJ h2) hu;exact .same aa (x:=y) (by unfold execOp;rw[ho];simp only[Sem.run_bind,hy,Result.andThen_ok,Sem.run_pure]) fx
 ·cases hc
theorem ahi (aa:bf C fid G H w)(aR:fC C fid vars G w ai ρ){t:TypeId}{a x:Operand}(ho:o.op=.store t a x)(hc:C.cY vars pos o.op=some dq)(jq:low<=H.length)(he:step ai H low dq=some (v,H',low')):
  df C fid G H w low ((execOp ρ o).run C.P w) v H' low':=by
 rw[ho]at hc;simp only[Ctx.cY]at hc;split at hc
 ·rename_i n cJ jr h1 h2 av
  simp only[aA]at hc;subst hc;simp only[step]at he;obtain⟨⟨H1,l⟩,hu,he⟩:=cG.1 he;simp only[bC]at he;obtain⟨rfl,rfl,rfl⟩:=he;obtain⟨aE,az,cn,bH,ag,hl,hlen⟩:=ag4 aa h1 (aR a cJ h2) (aR x jr av) hu;exact⟨undef,aE,az,.inr ⟨by unfold execOp;rw[ho];simp only[Sem.run_bind,cn,Result.andThen_ok,Sem.run_pure],rfl⟩,bH,fun m hm=>ag.le (dc hm (pC _ _)) (aM _),.undef _,jK _ _,Nat.le_of_eq hlen.symm⟩
 ·cases hc
theorem Va{t:TypeId}{z:List V}{cs:List Value}(h:bk fid G w z cs):bk fid G w (C.mark t z) cs:=by
 unfold Ctx.mark;split
 ·cases C.Io==some t with
  |true=>cases h with|cons _ x _ xs _ hs=>exact .cons _ _ _ _ (.undef x) hs
  |false=>exact h
 ·exact h
theorem Vb{t:TypeId}{z:List V}(aZ:bX z=true){c:Array Value}{b:Nat}(hr:bk fid G w z c.toList)(hb:w'.heap[b]? =some (.cells c t (0,0))):Ec C w' b (C.mark t z):=fun v af=>by
 unfold Ctx.mark at af;split at af
 ·cases ht:C.Io==some t with
  |true=>
   refine⟨c,t,hb,eq_of_beq ht,.inl ?_⟩;rw[<-iX];generalize c.toList=l at hr;cases hr with
   |cons _ x _ xs h1 hs=>
    cases h1 with
    |p _ _ h=>cases h;rfl
  |false=>rw[ht]at af;simp at af
 ·rw[af]at aZ;simp[bX,eH]at aZ
theorem ahj{vs:List V}(aZ:bX vs=true){b:Nat}:Ec C w b vs:=fun v af=>by
 rw[af]at aZ;simp[bX,eH]at aZ
theorem ahk (aa:bf C fid G H w){t:TypeId}(ho:o.op=.alloc t)(hc:C.cY vars pos o.op=some dq)(he:step ai H low dq=some (v,H',low')):
  df C fid G H w low ((execOp ρ o).run C.P w) v H' low':=by
 rw[ho]at hc;obtain⟨z,aI,rfl⟩:=cG.1 hc;simp only[step,aA,bC]at he;obtain⟨rfl,rfl,rfl⟩:=he;unfold Ctx.zeroCells at aI;split at aI
 ·rename_i i hi
  split at aI
  ·rename_i cC BM
   split at aI
   ·rename_i vs c3
    split at aI
    ·rename_i aZ
     simp only[aA]at aI;subst aI;refine .alloc aa 0 0 (x:=.pointer (some ⟨w.heap.size,0,none⟩)) (a1:=.cells cC.cells t) ?_ ⟨⟨rfl,Vb (G:=G) (fid:=fid) (w:=w) aZ (dn.oP (Ei _ c3)) (ml _ _)⟩,rfl,cC.cells,t,ml _ _,?_⟩ (.ptr _ _ ⟨w.heap.size,0,0,false⟩ (du _ _ _) rfl)
     ·unfold execOp;rw[ho]
      simp only[Instr.alloc,zeroValue,Sem.run_bind,run_typeInfo (P:=C.P) w hi,Result.andThen_ok,BM,Sem.run_pure,newVar,newRow,run_newObj,World.alloc_eq]
     ·exact Va (dn.oP (Ei _ c3))
    ·cases aI
   ·cases aI
  ·cases aI
 ·cases aI
theorem ahl (aa:bf C fid G H w)(aR:fC C fid vars G w ai ρ){t:TypeId}{x:Operand}(ho:o.op=.box t x)(hc:C.cY vars pos o.op=some dq)(he:step ai H low dq=some (v,H',low')):
  df C fid G H w low ((execOp ρ o).run C.P w) v H' low':=by
 rw[ho]at hc;obtain⟨cJ,hx,rfl⟩:=cG.1 hc;simp only[step]at he;split at he
 ·rename_i aZ
  simp only[aA,bC]at he;obtain⟨rfl,rfl,rfl⟩:=he;have af:=aR x cJ hx;refine .alloc aa 0 0 (x:=.pointer (some ⟨w.heap.size,0,none⟩)) (a1:=.cells (ρ x).cells t) ?_ ⟨⟨rfl,ahj aZ⟩,rfl,(ρ x).cells,t,ml _ _,?_⟩ (.ptr _ _ ⟨w.heap.size,0,0,false⟩ (du _ _ _) rfl)
  ·unfold execOp;rw[ho]
   simp only[Instr.box,Sem.run_bind,Sem.run_pure,Result.andThen_ok,newVar,newRow,run_newObj,World.alloc_eq]
  ·exact(BL af aZ).1.ext aa (Ext.push aa _ 0 0 0)
 ·cases he
theorem ahm (aa:bf C fid G H w){t:TypeId}{r:Option Operand}(ho:o.op=.makeMap t r)(hc:C.cY vars pos o.op=some dq)(he:step ai H low dq=some (v,H',low')):
  df C fid G H w low ((execOp ρ o).run C.P w) v H' low':=by
 rw[ho]at hc;cases r with
 |some _=>simp[Ctx.cY]at hc
 |none=>
  simp only[Ctx.cY,aA]at hc;subst hc;simp only[step,aA,bC]at he;obtain⟨rfl,rfl,rfl⟩:=he;refine .alloc aa 0 0 (x:=.map (some w.heap.size)) (a1:=.map #[] 0) ?_ ⟨rfl,rfl,#[],0,ml _ _,.nil,.nil,⟨fun x hx=>by simp at hx,by simp⟩⟩ (.map _ ⟨w.heap.size,0,0,false⟩ (du _ _ _) rfl);unfold execOp;rw[ho];simp only[Instr.makeMap,Sem.run_bind,Sem.run_pure,Result.andThen_ok,run_newObj,World.alloc_eq,yu]
theorem N3{u:V}{n:Nat}(h:kU u=some n):∃k m,u=.int k m/\0<=m/\m.toNat=n:=by
 unfold kU at h;split at h
 ·split at h
  ·simp only[aA]at h
   exact⟨_,_,rfl,by assumption,h⟩
  ·cases h
 ·cases h
theorem ahn (aa:bf C fid G H w)(aR:fC C fid vars G w ai ρ){t:TypeId}{x i:Operand}(ho:o.op=.index t x i)(hc:C.cY vars pos o.op=some dq)(he:step ai H low dq=some (v,H',low')):
  df C fid G H w low ((execOp ρ o).run C.P w) v H' low':=by
 rw[ho]at hc;simp only[Ctx.cY]at hc;split at hc
 ·rename_i cJ jr h1 h2 av
  simp only[aA]at hc;subst hc;simp only[step]at he;split at he
  ·rename_i s n ag e2
   obtain⟨c,vf,he⟩:=cG.1 he;simp only[bC]at he;obtain⟨rfl,rfl,rfl⟩:=he;obtain⟨k,m,bI,hm,hn⟩:=N3 e2;have hx:=aR x cJ h2;have hi:=aR i jr av;rw[ag]at hx;rw[bI]at hi;refine .same aa (x:=.int .u8 c.toNat) ?_ (.p _ _ (.int _ _));unfold execOp;rw[ho]
   have rz:(⟨⟨s⟩⟩:ByteArray)[m.toNat]? =some c:=by
    rw[hn];obtain⟨aH,bj⟩:=fF.1 vf;have:n<(⟨⟨s⟩⟩:ByteArray).size:=aH;rw[getElem?_pos (c:=(⟨⟨s⟩⟩:ByteArray)) (i:=n) (h:=this)];congr 1
   simp only[hx.n8,hi.kf,Instr.index,asIntOf,Sem.run_bind,Sem.run_pure,Result.andThen_ok,run_underlying h1,hm,if_true,rz]
  ·cases he
 ·cases hc
end Go.Abs
namespace Go.Abs
open Go
variable{C:Ctx}{fid:Nat->Nat}{w w':World}{G G':cc}{H:Heap}
variable{vars:List Nat}{ai:aj->V}{ρ:Operand->Value}{low low':Nat}{v:V}{H':Heap}{pos:String}{dq:cS}{o:Oper}
theorem bytes_beq (s t:List UInt8):((⟨⟨s⟩⟩:ByteArray).toList==(⟨⟨t⟩⟩:ByteArray).toList)=(s==t):=by
 rw[ByteArray.toList_eq,ByteArray.toList_eq]
theorem aho{op:BinOp}{t:TypeId}{a b u:V}{x y:Value}(ao:bq fid G w a x)(hb:bq fid G w b y)(hu:et op a b=some u):
  ∃z,(binOp op t x y).run C.P w=.ok z w/\bq fid G w u z/\∀(xo vg:Operand),eqGuard op t xo vg x y=pure ():=by
 unfold et at hu;split at hu
 ·rename_i k bl bE e3
  split at hu
  ·rename_i hc
   simp only[aA]at hu;subst hu;rw[ao.kf,hb.kf];refine⟨.int k (k.wrap (bl*2^e3.toNat)),?_,.p _ _ (.int _ _),fun _ _=>rfl⟩;simp only[binOp,Op.shift,Int.not_lt.2 hc.1,if_false,n6 hc.2,Sem.run_pure]
  ·cases hu
 ·rename_i k bl bE e3
  split at hu
  ·rename_i hc
   simp only[aA]at hu;subst hu;rw[ao.kf,hb.kf];refine⟨.int k (bl/2^e3.toNat),?_,.p _ _ (.int _ _),fun _ _=>rfl⟩;have h2:(0:Int)<=2^e3.toNat:=Int.pow_nonneg (by decide);simp only[binOp,Op.shift,Int.not_lt.2 hc.1,if_false,n6 hc.2,Sem.run_pure,Int.fdiv_eq_ediv_of_nonneg _ h2]
  ·cases hu
 ·rename_i k bl bE e3 fy lN
  split at hu
  ·cases hu
  ·rename_i ah
   have ah:k=bE:=by simpa using ah
   subst ah;rw[ao.kf,hb.kf];have bx:∀(xo vg:Operand),eqGuard op t xo vg (.int k bl) (.int k e3)=pure ():=fun _ _=>by cases op<;>rfl
   cases op<;>dsimp only at hu<;>
    first
    |(cases hu;done)
    |(simp only[aA]at hu;subst hu
      refine⟨_,?_,.p _ _ (.int _ _),bx⟩;simp only[binOp,ne_eq,not_true,if_false,Op.intArith,Op.intBits,Sem.run_pure];done)
    |(simp only[aA]at hu;subst hu
      refine⟨_,?_,.p _ _ (.bool _),bx⟩;simp only[binOp,ne_eq,not_true,if_false,Op.intCmp,Sem.run_pure];done)
    |(split at hu
      ·cases hu
      ·rename_i aI
       simp only[aA]at hu;subst hu;refine⟨_,?_,.p _ _ (.int _ _),bx⟩;simp only[binOp,ne_eq,not_true,if_false,Op.intDiv,aI,Sem.run_pure])
 ·rename_i bl e3
  split at hu
  ·rename_i hc
   simp only[aA]at hu;subst hu;rw[ao.n8,hb.n8];refine⟨.string ⟨⟨bl++e3⟩⟩,?_,.p _ _ (.str _),fun _ _=>rfl⟩
   have ea:¬((((⟨⟨bl⟩⟩:ByteArray).size+(⟨⟨e3⟩⟩:ByteArray).size:Nat):Int)>IntKind.i64.max):=by
    rw[IntKind.max_i64];have ag:(⟨⟨bl⟩⟩:ByteArray).size=bl.length:=rfl;have e2:(⟨⟨e3⟩⟩:ByteArray).size=e3.length:=rfl;rw[ag,e2];omega
   have ahp:(⟨⟨bl⟩⟩:ByteArray)++(⟨⟨e3⟩⟩:ByteArray)=⟨⟨bl++e3⟩⟩:=by
    apply ByteArray.ext;rw[ByteArray.data_append];simp
   simp only[binOp,Op.stringOp,ea,if_false,ahp,Sem.run_pure]
  ·cases hu
 ·rename_i bl e3
  simp only[aA]at hu;subst hu;rw[ao.n8,hb.n8];refine⟨.bool (bl==e3),?_,.p _ _ (.bool _),fun _ _=>rfl⟩;simp only[binOp,Op.stringOp,bytes_beq,Sem.run_pure]
 ·rename_i bl e3
  simp only[aA]at hu;subst hu;rw[ao.n8,hb.n8];refine⟨.bool (bl != e3),?_,.p _ _ (.bool _),fun _ _=>rfl⟩;simp only[binOp,Op.stringOp,bytes_beq,Sem.run_pure,bne]
 ·cases hu
theorem bq.rA{x:Value}(h:bq fid G w .iY x):x=.pointer none:=by cases h with|p _ _ h=>cases h;rfl
theorem bq.js{x:Value}(h:bq fid G w .aY x):x=.slice none 0 0:=by cases h with|p _ _ h=>cases h;rfl
theorem bq.rB{x:Value}(h:bq fid G w .emp x):∃a,x=.slice (some a) 0 0:=by cases h with|p _ _ h=>cases h;exact⟨_,rfl⟩
theorem bq.vh{x:Value}(h:bq fid G w .kA x):x=.nilFunc:=by cases h with|p _ _ h=>cases h;rfl
theorem bq.vi{x:Value}(h:bq fid G w .jL x):x=.nilIface:=by cases h with|p _ _ h=>cases h;rfl
theorem bq.N4{x:Value}(h:bq fid G w .h7 x):x=.map none:=by cases h with|p _ _ h=>cases h;rfl
theorem bq.N5{x:Value}{t:Nat}{v:V}(h:bq fid G w (.iface t v) x):∃y,x=.iface t y/\bq fid G w v y:=by
 cases h with
 |p _ _ h=>cases h with|iface _ _ y h=>exact⟨y,rfl,.p _ _ h⟩
 |iface _ _ y h=>exact⟨y,rfl,h⟩
theorem bq.xp{x:Value}{es:Nat}{ds:List V}(h:bq fid G w (.list es ds) x):
  ∃a cap,x=.slice (some a) ds.length cap/\ds.length<=cap/\(ds=[]\/∃b o vals,a=⟨b,o,none⟩/\G.I b/\iv w b o vals/\(∀d∈ds,(aF d).length=es)/\dn w G.I (ds.flatMap aF) vals):=by
 cases h with
 |p _ _ h=>cases h with
  |u7 _ a cap=>exact⟨a,cap,rfl,cI _,.inl rfl⟩
  |list _ _ b o cap vals a7 hc hu hr hl=>exact⟨_,cap,rfl,hl,.inr ⟨b,o,vals,rfl,a7,hc,hu,hr⟩⟩
def kindOk:Nat->TypeDesc->Prop
 |0,d=>∃e9,d=.pointer e9
 |1,d=>∃e9,d=.slice e9
 |2,d=>∃p r b,d=.func p r b
 |3,d=>∃m,d=.interface m
 |4,d=>d=.bool
 | _,_=>False
theorem ahq{t:TypeId}{d:TypeDesc}(hd:C.P.underlying t=some d){kind:Nat}{a b:V}{e:Bool}{x y:Value}(ao:bq fid G w a x)(hb:bq fid G w b y)(hu:qv kind a b=some e)
  (ah:kindOk kind d):
  (Op.equal t x y).run C.P w=.ok e w:=by
 show(Op.equalIn (9999+1) t x y).run C.P w=.ok e w;generalize 9999=depth;unfold qv at hu;split at hu
 ·simp only[aA]at hu;subst hu
  obtain⟨e9,rfl⟩:=ah;rw[ao.rA,hb.rA];simp[Op.equalIn,run_underlying hd]
 ·simp only[aA]at hu;subst hu
  obtain⟨e9,rfl⟩:=ah;obtain⟨h0,-,-,rfl⟩:=ao.oU;rw[hb.rA];simp[Op.equalIn,run_underlying hd]
 ·simp only[aA]at hu;subst hu
  obtain⟨e9,rfl⟩:=ah;obtain⟨h0,-,-,rfl⟩:=hb.oU;rw[ao.rA];simp[Op.equalIn,run_underlying hd]
 ·simp only[aA]at hu;subst hu
  obtain⟨e9,rfl⟩:=ah;rw[ao.js,hb.js];simp[Op.equalIn,run_underlying hd]
 ·simp only[aA]at hu;subst hu
  obtain⟨e9,rfl⟩:=ah;obtain⟨_,rfl⟩:=ao.rB;rw[hb.js];simp[Op.equalIn,run_underlying hd]
 ·simp only[aA]at hu;subst hu
  obtain⟨e9,rfl⟩:=ah;obtain⟨_,_,rfl,-⟩:=ao.xp;rw[hb.js];simp[Op.equalIn,run_underlying hd]
 ·simp only[aA]at hu;subst hu
  obtain⟨e9,rfl⟩:=ah;obtain⟨_,_,_,_,-,-,-,rfl⟩:=ao.oV;rw[hb.js];simp[Op.equalIn,run_underlying hd]
 ·simp only[aA]at hu;subst hu
  obtain⟨p,r,e3,rfl⟩:=ah;rw[ao.vh,hb.vh];simp[Op.equalIn,run_underlying hd]
 ·simp only[aA]at hu;subst hu
  obtain⟨p,r,e3,rfl⟩:=ah;obtain⟨_,_,-,-,rfl⟩:=ao.BK;rw[hb.vh];simp[Op.equalIn,run_underlying hd]
 ·simp only[aA]at hu;subst hu
  obtain⟨m,rfl⟩:=ah;rw[ao.vi,hb.vi];simp[Op.equalIn,run_underlying hd]
 ·simp only[aA]at hu;subst hu
  obtain⟨m,rfl⟩:=ah;obtain⟨_,rfl,-⟩:=ao.N5;rw[hb.vi];simp[Op.equalIn,run_underlying hd]
 ·simp only[aA]at hu;subst hu
  subst ah;rw[ao.k1,hb.k1];simp[Op.equalIn,run_underlying hd]
 ·cases hu
theorem ahr{t:TypeId}{kind:Nat}{a b:V}{e:Bool}{x y:Value}(ao:bq fid G w a x)(hb:bq fid G w b y)(hu:qv kind a b=some e)(neg:Bool)
  (bj:(Op.equal t x y).run C.P w=.ok e w):
  (binOp (if neg then .neq else .eql) t x y).run C.P w=.ok (.bool (if neg then !e else e)) w:=by
 have key:binOp (if neg then .neq else .eql) t x y=(do let q <-Op.equal t x y;pure (.bool (if neg then !q else q))):=by
  unfold qv at hu;split at hu
  ·rw[ao.rA,hb.rA];cases neg<;>rfl
  ·obtain⟨h0,-,-,rfl⟩:=ao.oU;rw[hb.rA];cases neg<;>rfl
  ·obtain⟨h0,-,-,rfl⟩:=hb.oU;rw[ao.rA];cases neg<;>rfl
  ·rw[ao.js,hb.js];cases neg<;>rfl
  ·obtain⟨_,rfl⟩:=ao.rB;rw[hb.js];cases neg<;>rfl
  ·obtain⟨_,_,rfl,-⟩:=ao.xp;rw[hb.js];cases neg<;>rfl
  ·obtain⟨_,_,_,_,-,-,-,rfl⟩:=ao.oV;rw[hb.js];cases neg<;>rfl
  ·rw[ao.vh,hb.vh];cases neg<;>rfl
  ·obtain⟨_,_,-,-,rfl⟩:=ao.BK;rw[hb.vh];cases neg<;>rfl
  ·rw[ao.vi,hb.vi];cases neg<;>rfl
  ·obtain⟨_,rfl,-⟩:=ao.N5;rw[hb.vi];cases neg<;>rfl
  ·rw[ao.k1,hb.k1];cases neg<;>rfl
  ·cases hu
 rw[key,Sem.run_bind,bj];cases neg<;>rfl
theorem ahs{op:BinOp}{t:TypeId}{kind:Nat}{a b:V}{e:Bool}{x y:Value}{xo vg:Operand}(ao:bq fid G w a x)(hb:bq fid G w b y)(hu:qv kind a b=some e)
  (hc:kind=3->∃c,vg=.const c):eqGuard op t xo vg x y=pure ():=by
 unfold qv at hu;split at hu
 ·rw[ao.rA,hb.rA];cases op<;>rfl
 ·obtain⟨h0,-,-,rfl⟩:=ao.oU;rw[hb.rA];cases op<;>rfl
 ·obtain⟨h0,-,-,rfl⟩:=hb.oU;rw[ao.rA];cases op<;>rfl
 ·rw[ao.js,hb.js];cases op<;>rfl
 ·obtain⟨_,rfl⟩:=ao.rB;rw[hb.js];cases op<;>rfl
 ·obtain⟨_,_,rfl,-⟩:=ao.xp;rw[hb.js];cases op<;>rfl
 ·obtain⟨_,_,_,_,-,-,-,rfl⟩:=ao.oV;rw[hb.js];cases op<;>rfl
 ·rw[ao.vh,hb.vh];cases op<;>rfl
 ·obtain⟨_,_,-,-,rfl⟩:=ao.BK;rw[hb.vh];cases op<;>rfl
 ·rw[ao.vi,hb.vi]
  obtain⟨c,rfl⟩:=hc rfl;unfold eqGuard;cases op<;>simp
 ·obtain⟨_,rfl,-⟩:=ao.N5;rw[hb.vi];cases op<;>rfl
 ·rw[ao.k1,hb.k1];cases op<;>rfl
 ·cases hu
theorem aht{y:Operand}{ln:aj}(h:C.ch vars y=some ln)(hn:Ctx.Ip ln=true):∃c,y=.const c:=by
 cases y with
 |const c=>exact⟨c,rfl⟩
 |tmp t=>
  simp only[Ctx.ch,aA]at h;subst h;split at hn<;>simp[Ctx.Ip]at hn
 |func f=>
  simp only[Ctx.ch,cG]at h;obtain⟨_,-,rfl⟩:=h;simp[Ctx.Ip]at hn
 |global g=>simp[Ctx.ch]at h
theorem Vc{t:TypeId}{k:Nat}(ah:C.jP t=some k){a b:V}{x y:Value}{e:Bool}(ao:bq fid G w a x)(hb:bq fid G w b y)(he:iZ k a b=some e)(d:Nat):
  (Op.equalIn (d+1) t x y).run C.P w=.ok e w:=by
 unfold Ctx.jP at ah;unfold iZ at he;split at he
 ·split at he
  ·rename_i Em
   simp only[aA]at he;subst he;subst Em;rw[ao.kf,hb.kf];split at ah<;>rename_i hd<;>simp at ah;exact run_equalIn_int w d t _ _ _ _ hd
  ·cases he
 ·simp only[aA]at he;subst he
  rw[ao.n8,hb.n8];split at ah<;>rename_i hd<;>simp at ah;rw[run_equalIn_string w d t _ _ hd,bytes_beq]
 ·simp only[aA]at he;subst he
  rw[ao.k1,hb.k1];split at ah<;>rename_i hd<;>simp at ah;exact run_equalIn_bool' w d t _ _ hd
 ·cases he
theorem Vd{t:TypeId}{k:Nat}(ah:C.jP t=some k)(w:World):(isAgg t).run C.P w=.ok false w:=by
 unfold Ctx.jP at ah;unfold isAgg;split at ah<;>rename_i hd<;>first|(cases ah;done)|(rw[Sem.run_bind,run_underlying hd];rfl)
theorem Ve{xs cL:List V}{oX oY:List Value}(hx:bk fid G w xs oX)(hy:bk fid G w cL oY)(d:Nat):∀(fs:List Field) (i:Nat) (ks:List Nat) (e:Bool),C.DT i fs=some ks->
  kB ks (xs.drop i) (cL.drop i)=some e->(Op.eqFields (d+1) ⟨oX⟩ ⟨oY⟩ fs).run C.P w=.ok e w
 |[],i,ks,e,ah,he=>by
  simp only[Ctx.DT,aA]at ah;subst ah;unfold kB at he;split at he
  ·simp only[aA]at he;subst he;rfl
  ·simp_all
  ·cases he
 |f::fs,i,ks,e,ah,he=>by
  simp only[Ctx.DT]at ah;split at ah
  ·rename_i k BN
   split at ah
   ·rename_i hc
    simp only[ca,bne_iff_ne,ne_eq,beq_iff_eq]at hc;obtain⟨su,eC,rfl⟩:=cG.1 ah;cases sv:xs.drop i with
    |nil=>rw[sv]at he;simp[kB]at he
    |cons a N6=>
     cases vj:cL.drop i with
     |nil=>rw[sv,vj]at he;simp[kB]at he
     |cons b N7=>
      rw[sv,vj]at he;simp only[kB]at he;have cJ:xs[i]? =some a:=by have:=congrArg (·[0]?) sv;simpa using this
      have ln:cL[i]? =some b:=by have:=congrArg (·[0]?) vj;simpa using this
      have N8:xs.drop (i+1)=N6:=by have:=congrArg (List.drop 1) sv;simpa[tA]using this
      have N9:cL.drop (i+1)=N7:=by have:=congrArg (List.drop 1) vj;simpa[tA]using this
      obtain⟨eN,nB,Oa⟩:=hx.get cJ;obtain⟨Ob,Oc,Od⟩:=hy.get ln;split at he
      ·rename_i ag mo
       split at he
       ·rename_i e2 nC
        simp only[aA]at he;subst he;rw[<-N8,<-N9]at nC;have ih:=Ve hx hy d fs (i+1) su e2 eC nC
        have hp:∀(l:List Value) (z:Value),l[i]? =some z->(part f.type ⟨l⟩ f.offset).run C.P w=.ok z w:=by
         intro l z aI;unfold part;simp only[Sem.run_bind,Vd BN,Result.andThen_ok,gN,if_false,hc.2,r9,aI,Sem.run_pure]
        simp only[Op.eqFields,hc.1,ne_eq,not_false_eq_true,if_true,Sem.run_bind,hp oX eN nB,hp oY Ob Oc,Result.andThen_ok,Vc BN Oa Od mo d,Sem.run_ite,Sem.run_pure,ih];cases ag<;>simp
       ·cases he
      ·cases he
   ·cases ah
  ·cases ah
theorem Vf:∀(qC yM:List Nat) (x y:List V) {e:Bool},kB (qC++yM) x y=some e->
  ∃ag e2,kB qC (x.take qC.length) (y.take qC.length)=some ag/\kB yM (x.drop qC.length) (y.drop qC.length)=some e2/\e=(ag&&e2)
 |[],yM,x,y,e,h=>⟨true,e,by simp[kB],by simpa using h,by simp⟩
 |k::ks,yM,[],y,e,h=>by simp[kB]at h
 |k::ks,yM,_::_,[],e,h=>by simp[kB]at h
 |k::ks,yM,a::x,b::y,e,h=>by
  simp only[ky,kB]at h;split at h
  ·rename_i eW h0
   split at h
   ·rename_i vk rC
    obtain⟨ag,e2,q1,aT,rfl⟩:=Vf ks yM x y rC;simp only[aA]at h;exact⟨eW&&ag,e2,by simp[kB,h0,q1],by simpa using aT,by rw[<-h,DK]⟩
   ·cases h
  ·cases h
theorem Oe{xs cL:List V}{oX oY:List Value}(hx:bk fid G w xs oX)(hy:bk fid G w cL oY)(d:Nat):∀(fs:List Field) (i:Nat) (ks:List Nat) (e:Bool),C.Bs i fs=some ks->
  kB ks (xs.drop i) (cL.drop i)=some e->(Op.eqFields (d+2) ⟨oX⟩ ⟨oY⟩ fs).run C.P w=.ok e w
 |[],i,ks,e,ah,he=>by
  simp only[Ctx.Bs,aA]at ah;subst ah;unfold kB at he;split at he
  ·simp only[aA]at he;subst he;rfl
  ·simp_all
  ·cases he
 |f::fs,i,ks,e,ah,he=>by
  simp only[Ctx.Bs]at ah;split at ah
  ·rename_i k BN
   split at ah
   ·rename_i hc
    simp only[ca,bne_iff_ne,ne_eq,beq_iff_eq]at hc;obtain⟨su,eC,rfl⟩:=cG.1 ah;cases sv:xs.drop i with
    |nil=>rw[sv]at he;simp[kB]at he
    |cons a N6=>
     cases vj:cL.drop i with
     |nil=>rw[sv,vj]at he;simp[kB]at he
     |cons b N7=>
      rw[sv,vj]at he;simp only[kB]at he;have cJ:xs[i]? =some a:=by have:=congrArg (·[0]?) sv;simpa using this
      have ln:cL[i]? =some b:=by have:=congrArg (·[0]?) vj;simpa using this
      have N8:xs.drop (i+1)=N6:=by have:=congrArg (List.drop 1) sv;simpa[tA]using this
      have N9:cL.drop (i+1)=N7:=by have:=congrArg (List.drop 1) vj;simpa[tA]using this
      obtain⟨eN,nB,Oa⟩:=hx.get cJ;obtain⟨Ob,Oc,Od⟩:=hy.get ln;split at he
      ·rename_i ag mo
       split at he
       ·rename_i e2 nC
        simp only[aA]at he;subst he;rw[<-N8,<-N9]at nC;have ih:=Oe hx hy d fs (i+1) su e2 eC nC
        have hp:∀(l:List Value) (z:Value),l[i]? =some z->(part f.type ⟨l⟩ f.offset).run C.P w=.ok z w:=by
         intro l z aI;unfold part;simp only[Sem.run_bind,Vd BN,Result.andThen_ok,gN,if_false,hc.2,r9,aI,Sem.run_pure]
        simp only[Op.eqFields,hc.1,ne_eq,not_false_eq_true,if_true,Sem.run_bind,hp oX eN nB,hp oY Ob Oc,Result.andThen_ok,Vc BN Oa Od mo (d+1),Sem.run_ite,Sem.run_pure,ih];cases ag<;>simp
       ·cases he
      ·cases he
   ·cases ah
  ·rename_i BN
   split at ah
   ·rename_i gs yN
    split at ah
    ·rename_i qC ahu
     split at ah
     ·rename_i hc
      simp only[ca,bne_iff_ne,ne_eq,beq_iff_eq,mb]at hc;obtain⟨⟨⟨dk,eu⟩,fe⟩,ix⟩:=hc;obtain⟨su,eC,rfl⟩:=cG.1 ah;obtain⟨ag,e2,mo,nC,rfl⟩:=Vf qC su _ _ he;rw[tA,tA]at nC;have ih:=Oe hx hy d fs (i+qC.length) su e2 eC nC;have BO:C.P.fieldsOf f.type=gs:=by unfold Program.fieldsOf;rw[yN]
      have hp:∀(l:List Value),(part f.type ⟨l⟩ f.offset).run C.P w=.ok (.agg ⟨(l.drop i).take qC.length⟩) w:=by
       intro l;have NQ:(isAgg f.type).run C.P w=.ok true w:=by unfold isAgg;rw[Sem.run_bind,run_underlying yN];rfl
       unfold Ctx.sizeOf at ix;obtain⟨inf,ahv,ea⟩:=cG.1 ix;unfold part;simp only[Sem.run_bind,NQ,Result.andThen_ok,if_true,sizeOf,typeInfo,ahv,run_program,Sem.run_pure,ea,eu];congr 2;rw[<-Array.toList_inj];simp[List.take_drop,Nat.add_comm]
      have hin:(Op.equalIn (d+2) f.type (.agg ⟨(oX.drop i).take qC.length⟩) (.agg ⟨(oY.drop i).take qC.length⟩)).run C.P w=.ok ag w:=by
       rw[run_equalIn_struct (P:=C.P) w (d+1) f.type _ _ (by rw[BO];exact yN) fe,BO];exact Ve ((hx.drop i).take _) ((hy.drop i).take _) d gs.toList 0 qC ag ahu (by simpa using mo)
      simp only[Op.eqFields,dk,ne_eq,not_false_eq_true,if_true,Sem.run_bind,hp oX,hp oY,Result.andThen_ok,hin,Sem.run_ite,Sem.run_pure,ih];cases ag<;>simp
     ·cases ah
    ·cases ah
   ·cases ah
theorem ahw{t:TypeId}{fs:Array Field}{ks:List Nat}(hd:C.P.underlying t=some (.struct fs))(hs:C.structEq t=some ks){xs cL:List V}{oX oY:List Value}(hx:bk fid G w xs oX)(hy:bk fid G w cL oY)
  {e:Bool} (he:kB ks xs cL=some e) (neg:Bool) (xo vg:Operand):
  (do eqGuard (if neg then .neq else .eql) t xo vg (.agg ⟨oX⟩) (.agg ⟨oY⟩);binOp (if neg then .neq else .eql) t (.agg ⟨oX⟩) (.agg ⟨oY⟩)).run C.P w=.ok (.bool (if neg then !e else e)) w:=by
 unfold Ctx.structEq at hs;rw[hd]at hs;simp only at hs;split at hs
 ·rename_i hc
  simp only[ca,mb]at hc;have ae:C.P.fieldsOf t=fs:=by unfold Program.fieldsOf;rw[hd]
  have key:(Op.equalIn 10000 t (.agg ⟨oX⟩) (.agg ⟨oY⟩)).run C.P w=.ok e w:=by
   rw[run_equalIn_struct (P:=C.P) w 9999 t _ _ (by rw[ae];exact hd) hc.1,ae];exact Oe hx hy 9997 fs.toList 0 ks e hs (by simpa using he)
  rw[Sem.run_bind,run_eqGuard_agg w _ t xo vg _ _ hc.2];cases neg
  ·simp only[gN,if_false,Result.andThen_ok,run_eql_struct,key]
  ·simp only[if_true,Result.andThen_ok,run_neq_struct,key]
 ·cases hs
theorem ahx (aa:bf C fid G H w)(aR:fC C fid vars G w ai ρ){En:BinOp}{t e9:TypeId}{x y:Operand}(ho:o.op=.binOp En t x y e9)(hc:C.cY vars pos o.op=some dq)(he:step ai H low dq=some (v,H',low')):
  df C fid G H w low ((execOp ρ o).run C.P w) v H' low':=by
 rw[ho]at hc;simp only[Ctx.cY]at hc;split at hc
 ·rename_i cJ ln h1 h2
  have hx:=aR x cJ h1;have hy:=aR y ln h2
  have plain:∀{a b:BinOp},step ai H low (.bin En cJ ln)=some (v,H',low')->a=b->df C fid G H w low ((execOp ρ o).run C.P w) v H' low':=by
   intro _ _ he _;simp only[step]at he;obtain⟨u,hu,he⟩:=cG.1 he;simp only[bC]at he;obtain⟨rfl,rfl,rfl⟩:=he;obtain⟨z,aI,fx,bx⟩:=aho (C:=C) (t:=t) hx hy hu;refine .same aa (x:=z) ?_ fx;unfold execOp;rw[ho];simp only[bx,Sem.run_bind,Sem.run_pure,Result.andThen_ok,aI]
  have agg:∀(neg:Bool) {fs:Array Field},En=(if neg then .neq else .eql)->C.P.underlying t=some (.struct fs)->(C.structEq t).map (fun n=>cS.yy neg n cJ ln)=some dq->df C fid G H w low ((execOp ρ o).run C.P w) v H' low':=by
   intro neg fs c9 hd hm;obtain⟨n,hn,rfl⟩:=cG.1 hm;simp only[step]at he;split at he
   ·rename_i xs cL ag e2
    obtain⟨e,Eo,he⟩:=cG.1 he;simp only[bC]at he;obtain⟨rfl,rfl,rfl⟩:=he;rw[ag]at hx;rw[e2]at hy;obtain⟨oX,en,ahy⟩:=hx.Ee;obtain⟨oY,Ep,ahz⟩:=hy.Ee;have key:=ahw hd hn ahy ahz Eo neg x y;rw[<-c9]at key;refine .same aa (x:=.bool (if neg then !e else e)) ?_ (.p _ _ (.bool _));unfold execOp;rw[ho];simp only[en,Ep];rw[Sem.run_bind,key];rfl
   ·cases he
  have kinds:∀(neg:Bool) {d:TypeDesc},En=(if neg then .neq else .eql)->C.P.underlying t=some d->Ctx.yC d cJ ln (.bin En cJ ln) neg=some dq->df C fid G H w low ((execOp ρ o).run C.P w) v H' low':=by
   intro neg d c9 hd ah
   have go:∀kind,dq=.rm kind neg cJ ln->kindOk kind d->
     (kind=3->∃c,y=.const c)->df C fid G H w low ((execOp ρ o).run C.P w) v H' low':=by
    intro kind ao Em vf;subst ao;simp only[step]at he;obtain⟨e,Eo,he⟩:=cG.1 he;simp only[bC]at he;obtain⟨rfl,rfl,rfl⟩:=he;have bj:=ahq (t:=t) hd hx hy Eo Em;have hb:=ahr hx hy Eo neg bj;rw[<-c9]at hb;refine .same aa (x:=.bool (if neg then !e else e)) ?_ (.p _ _ (.bool _));unfold execOp;rw[ho];simp only[ahs hx hy Eo vf,Sem.run_bind,Sem.run_pure,Result.andThen_ok,hb]
   unfold Ctx.yC at ah;split at ah
   ·simp only[aA]at ah;subst ah;exact plain (a:=.add) (b:=.add) he rfl
   ·simp only[aA]at ah;subst ah;exact plain (a:=.add) (b:=.add) he rfl
   ·simp only[aA]at ah;exact go 0 ah.symm ⟨_,rfl⟩ (fun h=>by cases h)
   ·simp only[aA]at ah;exact go 1 ah.symm ⟨_,rfl⟩ (fun h=>by cases h)
   ·simp only[aA]at ah;exact go 2 ah.symm ⟨_,_,_,rfl⟩ (fun h=>by cases h)
   ·split at ah
    ·rename_i ahA
     simp only[aA]at ah;exact go 3 ah.symm ⟨_,rfl⟩ (fun _=>aht h2 ahA)
    ·cases ah
   ·simp only[aA]at ah;exact go 4 ah.symm rfl (fun h=>by cases h)
   ·cases ah
  split at hc
  ·rename_i hd;exact agg false rfl hd hc
  ·rename_i hd;exact agg true rfl hd hc
  ·rename_i hd;exact kinds false rfl hd hc
  ·rename_i hd;exact kinds true rfl hd hc
  ·cases hc
  ·cases hc
  ·simp only[aA]at hc;subst hc;exact plain (a:=.add) (b:=.add) he rfl
 ·cases hc
end Go.Abs
namespace Go.Abs
open Go
variable{C:Ctx}{fid:Nat->Nat}{w w':World}{G G':cc}{H:Heap}
variable{vars:List Nat}{ai:aj->V}{ρ:Operand->Value}{low low':Nat}{v:V}{H':Heap}{pos:String}{dq:cS}{o:Oper}
theorem vl{x:Value}{k:IntKind}{m:Int}{n y:Nat}{code:BoundsCode}(hx:x=.int k m)(h0:0<=m)(hn:m.toNat=n)(hy:n<=y):
  (Instr.sliceBound x y code).run C.P w=.ok n w:=by
 subst hx;have:0<=m/\m<=(y:Int):=by omega
 simp only[Instr.sliceBound,asIntOf,Sem.run_bind,Sem.run_pure,Result.andThen_ok,this,and_self,if_true,hn]
theorem BP (aR:fC C fid vars G w ai ρ){x:Option Operand}{cJ:Option aj}(hx:C.pJ vars x=some cJ){d n:Nat}(h:e5 ai d cJ=some n):
  (x=none/\cJ=none/\n=d)\/∃y k m,x=some y/\ρ y=.int k m/\0<=m/\m.toNat=n:=by
 cases x with
 |none=>
  simp only[Ctx.pJ,aA]at hx;subst hx;simp only[e5,aA]at h;exact .inl ⟨rfl,rfl,h.symm⟩
 |some y=>
  simp only[Ctx.pJ,cG]at hx;obtain⟨ln,hy,rfl⟩:=hx;simp only[e5]at h;obtain⟨k,m,e,hm,hn⟩:=N3 h;have:=aR y ln hy;rw[e]at this;exact .inr ⟨y,k,m,rfl,this.kf,hm,hn⟩
theorem Er (aR:fC C fid vars G w ai ρ){lo hi:Option Operand}{xq sw:Option aj}(iH:C.pJ vars lo=some xq)(qD:C.pJ vars hi=some sw){Vg:Bool}{len cap a b:Nat}
  (ao:e5 ai 0 xq=some a) (hb:e5 ai len sw=some b) (h1:a<=b) (h2:b<=len) (av:len<=cap):
  (Instr.sliceBounds Vg len cap (lo.map ρ) (hi.map ρ) none).run C.P w=.ok (a,b,cap) w:=by
 unfold Instr.sliceBounds;have dK:∀(z:Nat × Nat × Nat),True:=fun _=>trivial;rcases BP aR qD hb with⟨rfl,-,rfl⟩|⟨y,k,m,rfl,mq,hm,hn⟩
 ·rcases BP aR iH ao with⟨rfl,-,rfl⟩|⟨n9,bE,m',rfl,Es,lO,oZ⟩
  ·simp only[yu,Sem.run_bind,Sem.run_pure,Result.andThen_ok]
  ·simp only[yu,tz,Sem.run_bind,Sem.run_pure,Result.andThen_ok,vl (C:=C) Es lO oZ h1]
 ·rcases BP aR iH ao with⟨rfl,-,rfl⟩|⟨n9,bE,m',rfl,Es,lO,oZ⟩
  ·simp only[yu,tz,Sem.run_bind,Sem.run_pure,Result.andThen_ok,vl (C:=C) mq hm hn (dc h2 av)]
  ·simp only[tz,Sem.run_bind,Sem.run_pure,Result.andThen_ok,vl (C:=C) mq hm hn (dc h2 av),vl (C:=C) Es lO oZ h1]
theorem Of (aR:fC C fid vars G w ai ρ){lo hi mx:Option Operand}{xq sw:Option aj}{m:aj}(iH:C.pJ vars lo=some xq)(qD:C.pJ vars hi=some sw)(rD:C.pJ vars mx=some (some m))
  {len cap a d:Nat} (ao:e5 ai 0 xq=some a) (hb:e5 ai d sw=some 0) (yO:sw≠none) (h1:a<=0) (hm:kU (ai m)=some 0):
  (Instr.sliceBounds true len cap (lo.map ρ) (hi.map ρ) (mx.map ρ)).run C.P w=.ok (0,0,0) w:=by
 unfold Instr.sliceBounds;obtain rfl:a=0:=by omega
 rcases BP aR rD (d:=0) (show e5 ai 0 (some m)=some 0 from hm)with⟨-,q,-⟩|⟨z,aAA,aAB,rfl,pN,Vh,I1⟩
 ·cases q
 ·rcases BP aR qD hb with⟨-,q,-⟩|⟨y,k,m',rfl,mq,lO,oZ⟩
  ·exact absurd q yO
  ·rcases BP aR iH ao with⟨rfl,-,-⟩|⟨n9,bE,aAC,rfl,Es,ahB,ahC⟩
   ·simp only[yu,tz,Sem.run_bind,Sem.run_pure,Result.andThen_ok,vl (C:=C) pN Vh I1 (cI _),vl (C:=C) mq lO oZ (cI _)]
   ·simp only[tz,Sem.run_bind,Sem.run_pure,Result.andThen_ok,vl (C:=C) pN Vh I1 (cI _),vl (C:=C) mq lO oZ (cI _),vl (C:=C) Es ahB ahC (cI _)]
theorem yP{t e:TypeId}(hd:C.P.underlying t=some (.slice e))(x:Value)(lo hi mx:Option Value):(Instr.sliceAt t x lo hi mx).run C.P w=(Instr.slice t x lo hi mx).run C.P w:=by
 unfold Instr.sliceAt;rw[Sem.run_bind,run_underlying hd];rfl
theorem ahD{t:TypeId}(hd:C.P.underlying t=some .string)(x:Value)(lo hi mx:Option Value):(Instr.sliceAt t x lo hi mx).run C.P w=(Instr.slice t x lo hi mx).run C.P w:=by
 unfold Instr.sliceAt;rw[Sem.run_bind,run_underlying hd];rfl
theorem yQ{t n:Nat}(hs:C.sizeOf t=some n)(w:World):(Go.sizeOf t).run C.P w=.ok n w:=by
 simp only[Ctx.sizeOf,cG]at hs;obtain⟨i,hi,rfl⟩:=hs;unfold Go.sizeOf;rw[Sem.run_bind,run_typeInfo (P:=C.P) w hi];rfl
theorem ahE (s:List UInt8)(a b:Nat):(⟨⟨s⟩⟩:ByteArray).extract a b=⟨⟨(s.take b).drop a⟩⟩:=by
 apply ByteArray.ext;rw[ByteArray.data_extract];apply Array.ext';simp[List.drop_take]
theorem ahF{es:Nat}{ds:List V}{x:Value}(h:bq fid G w (.list es ds) x){a b:Nat}(lP:a<=b)(hb:b<=ds.length):
  ∃dh cap,x=.slice (some dh) ds.length cap/\ds.length<=cap/\bq fid G w (.list es ((ds.take b).drop a)) (.slice (if cap=a then some dh else some (dh.add (a*es))) (b-a) (cap-a)):=by
 obtain⟨dh,cap,rfl,fb,bj⟩:=h.xp;refine⟨dh,cap,rfl,fb,?_⟩;have hlen:((ds.take b).drop a).length=b-a:=by simp;omega
 by_cases hn:(ds.take b).drop a=[]
 ·have ahG:b-a=0:=by rw[<-hlen,hn];rfl
  rw[hn,ahG];split
  ·exact .p _ _ (.u7 _ _ _)
  ·exact .p _ _ (.u7 _ _ _)
 ·have aH:a<b:=by
   rcases gq a b with q|q
   ·exact q
   ·exact absurd (yo.1 (by omega)) hn
  rcases bj with rfl|⟨yR,o',vals,rfl,a7,hc,hu,hr⟩
  ·simp at hn
  ·rw[if_neg (by omega),Addr.add_lit]
   have I2:∀d∈ds.take b,(aF d).length=es:=fun d hd=>hu d (Be hd)
   have key:=fW.list (w:=w) (I:=G.I) es ((ds.take b).drop a) yR (o'+a*es) (cap-a) ((vals.take (b*es)).drop (a*es)) a7 ((hc.take _).drop _)
    (fun d hd=>I2 d (HV hd)) (by
      rw[yJ I2,BG hu];exact(hr.take _).drop _) (by rw[hlen];omega)
   rw[hlen]at key;exact .p _ _ key
theorem ahH (aa:bf C fid G H w)(aR:fC C fid vars G w ai ρ){t:TypeId}{x:Operand}{lo hi mx:Option Operand}(ho:o.op=.slice t x lo hi mx)(hc:C.cY vars pos o.op=some dq)(he:step ai H low dq=some (v,H',low')):
  df C fid G H w low ((execOp ρ o).run C.P w) v H' low':=by
 rw[ho]at hc
 have cn:(execOp ρ o).run C.P w=((Instr.sliceAt t (ρ x) (lo.map ρ) (hi.map ρ) (mx.map ρ)).run C.P w).andThen fun z w'=>.ok (.value z) w':=by
  unfold execOp;rw[ho];simp only[Sem.run_bind];rfl
 simp only[Ctx.cY]at hc;split at hc
 ·rename_i cJ xq sw hd h2 iH qD rD
  simp only[aA]at hc;subst hc;have af:=aR x cJ h2;simp only[step]at he;split at he
  ·rename_i s ag
   split at he
   ·rename_i a b ao hb
    split at he
    ·rename_i hle
     simp only[aA,bC]at he;obtain⟨rfl,rfl,rfl⟩:=he;rw[ag]at af
     obtain rfl:mx=none:=by
      cases mx with
      |none=>rfl
      |some y=>simp[Ctx.pJ]at rD
     have hv:=Er (C:=C) (Vg:=false) (cap:=s.length) aR iH qD ao hb hle.1 hle.2 (aM _);refine .same aa (x:=.string ⟨⟨(s.take b).drop a⟩⟩) ?_ (.p _ _ (.str _));rw[cn,ahD hd,af.n8];unfold Instr.slice;have ahI:(⟨⟨s⟩⟩:ByteArray).size=s.length:=rfl;simp only[Sem.run_bind,run_underlying hd,Result.andThen_ok,yu,Option.isSome_none,gN,if_false,ahI,hv,Sem.run_pure,ahE]
    ·cases he
   ·cases he
  ·cases he
 ·rename_i e cJ xq sw I3 hd h2 iH qD rD
  split at hc
  ·rename_i n hn
   split at hc
   ·cases hc
   ·rename_i oa
    simp only[aA]at hc;subst hc;have af:=aR x cJ h2;have mn:=yQ (C:=C) hn
    have ahJ:sw.isNone=true->I3.isSome=true->False:=by
     intro h1 h2;simp[h1,h2]at oa
    have Og:∀{q:Option aj},C.pJ vars mx=some q->q=none->mx=none:=by
     intro q h1 h2;cases mx with
     |none=>rfl
     |some y=>simp[Ctx.pJ,h2]at h1
    have Oh:∀{m:aj},I3=some m->sw≠none:=by
     rintro m rfl rfl;exact ahJ rfl rfl
    have Vi:∀{cap:Nat},0<=cap->e5 ai 0 xq=some 0->e5 ai 0 sw=some 0->e5 ai 0 I3=some 0->(Instr.sliceBounds true 0 0 (lo.map ρ) (hi.map ρ) (mx.map ρ)).run C.P w=.ok (0,0,0) w:=by
     intro _ _ ao hb hm;cases bj:I3 with
     |none=>
      rw[bj]at rD;rw[Og rD rfl];exact Er (C:=C) aR iH qD ao hb (aM _) (aM _) (aM _)
     |some m=>
      rw[bj]at rD hm;exact Of (C:=C) aR iH qD rD ao hb (Oh bj) (aM _) hm
    simp only[step]at he;split at he
    ·rename_i ag
     split at he
     ·rename_i ao hb hm
      simp only[aA,bC]at he;obtain⟨rfl,rfl,rfl⟩:=he;rw[ag]at af;refine .same aa (x:=.slice none 0 0) ?_ (.p _ _ .aY);rw[cn,yP hd,af.js];unfold Instr.slice;simp only[Sem.run_bind,run_underlying hd,Result.andThen_ok,Vi (cap:=0) (cI _) ao hb hm,mn,Sem.run_pure];rfl
     ·cases he
    ·rename_i ag
     split at he
     ·rename_i ao hb hm
      simp only[aA,bC]at he;obtain⟨rfl,rfl,rfl⟩:=he;rw[ag]at af;obtain⟨dh,hx⟩:=af.rB;refine .same aa (x:=.slice (some dh) 0 0) ?_ (.p _ _ (.emp _));rw[cn,yP hd,hx];unfold Instr.slice;simp only[Sem.run_bind,run_underlying hd,Result.andThen_ok,Vi (cap:=0) (cI _) ao hb hm,mn,Sem.run_pure];rfl
     ·cases he
    ·rename_i bN ds ag
     split at he
     ·rename_i a b ao hb
      split at he
      ·rename_i hle
       obtain⟨lP,kg,rfl⟩:=hle;rw[ag]at af;obtain⟨dh,cap,hx,fb,fx⟩:=ahF af lP kg;split at he
       ·simp only[aA,bC]at he
        obtain⟨rfl,rfl,rfl⟩:=he;obtain rfl:=Og rD rfl;refine .same aa ?_ fx;rw[cn,yP hd,hx];unfold Instr.slice;simp only[Sem.run_bind,run_underlying hd,Result.andThen_ok,yu,Er (C:=C) aR iH qD ao hb lP kg fb,mn,Sem.run_pure];rfl
       ·rename_i m
        split at he
        ·rename_i hm
         obtain⟨fO,rfl⟩:=hm;simp only[aA,bC]at he;obtain⟨rfl,rfl,rfl⟩:=he;refine .same aa (x:=.slice (some dh) 0 0) ?_ (.p _ _ (.emp _));rw[cn,yP hd,hx];unfold Instr.slice;simp only[Sem.run_bind,run_underlying hd,Result.andThen_ok,Of (C:=C) aR iH qD rD ao hb (Oh rfl) lP fO,mn,Sem.run_pure];rfl
        ·cases he
      ·cases he
     ·cases he
    ·rename_i l bN off len tag ag
     split at he
     ·rename_i a b ao hb
      split at he
      ·rename_i hle
       obtain⟨lP,kg,rfl⟩:=hle;rw[ag]at af;obtain⟨h0,dh,cQ,cap,c6,qB,iG,hx⟩:=af.oV;split at he
       ·split at he
        ·rename_i fl ds ej hl
         split at he
         ·rename_i ev
          obtain⟨fX,rfl⟩:=ev;obtain rfl:=Og rD rfl;obtain⟨a1,eO,hr⟩:=aa.obj l h0 c6;rw[hl]at eO;cases eO;obtain⟨rfl,rfl,fa,pO⟩:=iG (hr.1.trans fX);split at he
          ·rename_i aH
           simp only[aA,bC]at he;obtain⟨rfl,rfl,rfl⟩:=he;refine .same aa (x:=.slice (some ⟨h0.b,(off+a)*fl,none⟩) (b-a) (cap-a)) ?_ (.b7 l fl (off+a) (b-a) tag h0 _ _ _ c6 qB (fun _=>⟨rfl,rfl,?_,by omega⟩))
           ·rw[cn,yP hd,hx]
            unfold Instr.slice;simp only[Sem.run_bind,run_underlying hd,Result.andThen_ok,yu,Er (C:=C) aR iH qD ao hb lP kg pO,mn,Sem.run_pure];rw[if_neg (by omega),tz,Addr.add_lit,si]
           ·have:off+a+(cap-a)=off+cap:=by omega
            rw[this];exact fa
          ·rename_i aH
           simp only[aA,bC]at he;obtain⟨rfl,rfl,rfl⟩:=he;obtain rfl:a=b:=by omega
           have key:∀(q:Addr),bq fid G w (.list fl []) (.slice (some q) (a-a) (cap-a)):=fun q=>by rw[Nat.sub_self];exact .p _ _ (.u7 _ _ _)
           refine .same aa (x:=.slice (if cap=a then some ⟨h0.b,off*fl,none⟩else some (Addr.add ⟨h0.b,off*fl,none⟩ (a*fl))) (a-a) (cap-a)) ?_ (by split<;>exact key _);rw[cn,yP hd,hx];unfold Instr.slice;simp only[Sem.run_bind,run_underlying hd,Result.andThen_ok,yu,Er (C:=C) aR iH qD ao hb lP kg pO,mn,Sem.run_pure];rfl
         ·cases he
        ·cases he
       ·rename_i m
        split at he
        ·rename_i hm
         obtain⟨fO,rfl⟩:=hm;simp only[aA,bC]at he;obtain⟨rfl,rfl,rfl⟩:=he;refine .same aa (x:=.slice (some dh) 0 0) ?_ (.p _ _ (.emp _));rw[cn,yP hd,hx];unfold Instr.slice;simp only[Sem.run_bind,run_underlying hd,Result.andThen_ok,Of (C:=C) aR iH qD rD ao hb (Oh rfl) lP fO,mn,Sem.run_pure];rfl
        ·cases he
      ·cases he
     ·cases he
    ·cases he
  ·cases hc
 ·cases hc
end Go.Abs
namespace Go.Abs
open Go
variable{C:Ctx}{fid:Nat->Nat}{w w':World}{G G':cc}{H:Heap}
variable{vars:List Nat}{ai:aj->V}{ρ:Operand->Value}{low low':Nat}{v:V}{H':Heap}{pos:String}{dq:cS}{o:Oper}
theorem dn.split:∀{vs us:List V} {dj:List Value} {I:Nat->Prop},dn w I (vs++us) dj->∃xs cL,dj=xs++cL/\dn w I vs xs/\dn w I us cL
 |[],us,dj,_,h=>⟨[],dj,rfl,.nil,h⟩
 |v::vs,us,_,_,.cons _ x _ xs h hs=>by
  obtain⟨aU,aJ,rfl,h1,h2⟩:=dn.split (vs:=vs) hs;exact⟨x::aU,aJ,rfl,.cons v x vs aU h h1,h2⟩
theorem ahK (aa:bf C fid G H w)(aR:fC C fid vars G w ai ρ){t:TypeId}{x i:Operand}(ho:o.op=.indexAddr t x i)(hc:C.cY vars pos o.op=some dq)(he:step ai H low dq=some (v,H',low')):
  df C fid G H w low ((execOp ρ o).run C.P w) v H' low':=by
 rw[ho]at hc;simp only[Ctx.cY]at hc;split at hc
 ·rename_i e cJ jr hd h2 av
  split at hc
  ·rename_i n hn
   split at hc
   ·cases hc
   ·simp only[aA]at hc;subst hc
    have mn:=yQ (C:=C) hn;have hx:=aR x cJ h2;have hi:=aR i jr av;simp only[step]at he;split at he
    ·rename_i j ahL
     obtain⟨k,m,em,hm,ahM⟩:=N3 ahL;rw[em]at hi
     have cn:∀dh len cap,ρ x=.slice (some dh) len cap->j<len->(execOp ρ o).run C.P w=.ok (.value (.pointer (some (dh.add (j*n))))) w:=by
      intro dh len cap dU aH;have ev:0<=m/\m<(len:Int):=by omega
      unfold execOp;rw[ho];simp only[dU,hi.kf,Instr.indexAt,asIntOf,Sem.run_bind,Sem.run_pure,Result.andThen_ok,run_underlying hd,ev,and_self,if_true,mn,ahM]
     split at he
     ·rename_i bN ds ag
      split at he
      ·rename_i fc
       subst fc;obtain⟨d,Et,he⟩:=cG.1 he;simp only[bC]at he;obtain⟨rfl,rfl,rfl⟩:=he;rw[ag]at hx;obtain⟨dh,cap,dU,fb,bj⟩:=hx.xp;obtain⟨aH,ahN⟩:=fF.1 Et;rcases bj with rfl|⟨b,o',vals,rfl,a7,hcell,hu,hr⟩
       ·simp at aH
       ·refine .same aa (cn _ _ _ dU aH) ?_
        rw[Addr.add_lit];have h2:ds.drop j=d::ds.drop (j+1):=by rw[<-ahN];exact qm aH
        have av:=hr.drop (j*bN);rw[<-yJ hu,h2,lH]at av;obtain⟨xs,cL,Eu,ahO,-⟩:=av.split;have iw:=hcell.drop (j*bN);rw[Eu]at iw
        have ahP:iv w b (o'+j*bN) xs:=fun a c Vj=>iw a c (by
         rw[gM (by
          rcases gq a xs.length with q|q
          ·exact q
          ·simp[nt q]at Vj)];exact Vj)
        exact .dW _ 0 b (o'+j*bN) xs a7 ahP ahO
      ·cases he
     ·rename_i l bN off len tag ag
      split at he
      ·rename_i fl ds ej hl
       split at he
       ·rename_i ev
        obtain⟨rfl,rfl,fX,ob,pP⟩:=ev;simp only[aA,bC]at he;obtain⟨rfl,rfl,rfl⟩:=he;rw[ag]at hx;obtain⟨h0,dh,cQ,cap,c6,qB,iG,dU⟩:=hx.oV;obtain⟨a1,eO,hr⟩:=aa.obj l h0 c6;rw[hl]at eO;cases eO;obtain⟨rfl,rfl,fa,pO⟩:=iG (hr.1.trans fX);refine .same aa (cn _ _ _ dU ob) (.hg l _ (off+j) 0 tag h0 _ c6 qB (fun _=> ?_));rw[Addr.add_lit,yx,si]
       ·cases he
      ·cases he
     ·cases he
    ·cases he
  ·cases hc
 ·cases hc
theorem vm{b:Builtin}{args:Array Operand}{ts:Array TypeId}(ho:o.op=.call {callee:=.builtin b,args,argTypes:=ts}):
  (execOp ρ o).run C.P w=(builtin b ts o.type (args.map fun| .const _=>true| _=>false) (args.map ρ)).run C.P w:=by
 unfold execOp;rw[ho];simp only[resolve,invoke,Sem.run_bind,Sem.run_pure,Result.andThen_ok];rfl
theorem Vk (aa:bf C fid G H w)(aR:fC C fid vars G w ai ρ){b:Builtin}{x y:Operand}{args:Array Operand}{ts:Array TypeId}(ho:o.op=.call {callee:=.builtin b,args,argTypes:=ts})
  (ao:args= #[x,y]) {mx:Bool} (hb:b=if mx then .max else .min) {cJ ln:aj} (h1:C.ch vars x=some cJ) (h2:C.ch vars y=some ln) (he:step ai H low (.u1 mx cJ ln)=some (v,H',low')):
  df C fid G H w low ((execOp ρ o).run C.P w) v H' low':=by
 subst ao;have hx:=aR x cJ h1;have hy:=aR y ln h2;simp only[step]at he;split at he
 ·rename_i k a bE e3 ag e2
  split at he
  ·rename_i ah
   subst ah;simp only[aA,bC]at he;obtain⟨rfl,rfl,rfl⟩:=he;rw[ag]at hx;rw[e2]at hy;refine .same aa (x:=.int k (if mx then max a e3 else min a e3)) ?_ (.p _ _ (.int _ _));rw[vm ho];subst hb;cases mx
   ·have hm:(if e3<a then e3 else a)=min a e3:=by
     rw[Int.min_def];split<;>split<;>omega
    simp[builtin,Builtin.min_,Builtin.min2,hx.kf,hy.kf,hm]
   ·have hm:(if a<e3 then e3 else a)=max a e3:=by
     rw[Int.max_def];split<;>split<;>omega
    simp[builtin,Builtin.max_,Builtin.max2,hx.kf,hy.kf,hm]
  ·cases he
 ·cases he
theorem Oi (aa:bf C fid G H w)(aR:fC C fid vars G w ai ρ){x:Operand}{t:TypeId}{args:Array Operand}{ts:Array TypeId}(ho:o.op=.call {callee:=.builtin .len,args,argTypes:=ts})
  (ao:args= #[x]) (ht:ts= #[t]) {cJ:aj} (h1:C.ch vars x=some cJ) {kind:Nat} (ah:match kind with|0=>C.P.underlying t=some .string|1=>∃e,C.P.underlying t=some (.slice e)| _=>∃k e,C.P.underlying t=some (.map k e))
  (he:step ai H low (.len kind cJ)=some (v,H',low')):df C fid G H w low ((execOp ρ o).run C.P w) v H' low':=by
 subst ao;subst ht;have hx:=aR x cJ h1
 have cn:∀(n:Nat),(Builtin.len_ #[t] o.type #[ρ x]).run C.P w=.ok (goInt n) w->df C fid G H w low ((execOp ρ o).run C.P w) (.int .i64 n) H low:=by
  intro n hn;refine .same aa (x:=.int .i64 n) ?_ (.p _ _ (.int _ _));rw[vm ho];simp only[builtin,Sem.run_bind];have e:Array.map ρ #[x]= #[ρ x]:=by simp
  rw[e,hn];rfl
 simp only[step]at he;split at he
 ·rename_i s ag
  simp only[aA,bC]at he;obtain⟨rfl,rfl,rfl⟩:=he;rw[ag]at hx;refine cn s.length ?_;have ah:C.P.underlying t=some .string:=ah;simp only[Builtin.len_,hx.n8,Sem.run_bind,run_underlying ah,Result.andThen_ok,r9,n4,Sem.run_pure];rfl
 ·rename_i ag
  simp only[aA,bC]at he;obtain⟨rfl,rfl,rfl⟩:=he;rw[ag]at hx;obtain⟨e,ah⟩:∃e,C.P.underlying t=some (.slice e):=ah;refine cn 0 ?_;simp only[Builtin.len_,hx.js,Sem.run_bind,run_underlying ah,Result.andThen_ok,r9,n4,Sem.run_pure]
 ·rename_i ag
  simp only[aA,bC]at he;obtain⟨rfl,rfl,rfl⟩:=he;rw[ag]at hx;obtain⟨e,ah⟩:∃e,C.P.underlying t=some (.slice e):=ah;obtain⟨dh,dU⟩:=hx.rB;refine cn 0 ?_;simp only[Builtin.len_,dU,Sem.run_bind,run_underlying ah,Result.andThen_ok,r9,n4,Sem.run_pure]
 ·rename_i es ds ag
  simp only[aA,bC]at he;obtain⟨rfl,rfl,rfl⟩:=he;rw[ag]at hx;obtain⟨e,ah⟩:∃e,C.P.underlying t=some (.slice e):=ah;obtain⟨dh,cap,dU,-,-⟩:=hx.xp;refine cn ds.length ?_;simp only[Builtin.len_,dU,Sem.run_bind,run_underlying ah,Result.andThen_ok,r9,n4,Sem.run_pure]
 ·rename_i l es off len tag ag
  obtain⟨e,ah⟩:∃e,C.P.underlying t=some (.slice e):=ah;split at he
  ·rename_i bN ds ej hl
   split at he
   ·rename_i ev
    simp only[aA,bC]at he;obtain⟨rfl,rfl,rfl⟩:=he;rw[ag]at hx;obtain⟨h0,dh,cQ,cap,c6,qB,iG,dU⟩:=hx.oV;obtain⟨a1,eO,hr⟩:=aa.obj l h0 c6;rw[hl]at eO;cases eO;obtain⟨rfl,rfl,fa,pO⟩:=iG (hr.1.trans ev.2);refine cn cQ ?_;simp only[Builtin.len_,dU,Sem.run_bind,run_underlying ah,Result.andThen_ok,r9,n4,Sem.run_pure]
   ·cases he
  ·rename_i r hl
   split at he
   ·rename_i ev
    simp only[aA,bC]at he;obtain⟨rfl,rfl,rfl⟩:=he;rw[ag]at hx;obtain⟨h0,dh,cQ,cap,c6,qB,iG,dU⟩:=hx.oV;obtain⟨a1,eO,hr⟩:=aa.obj l h0 c6;rw[hl]at eO;cases eO;obtain⟨rfl,rfl,fa,pO⟩:=iG (hr.2.1.trans ev);refine cn cQ ?_;simp only[Builtin.len_,dU,Sem.run_bind,run_underlying ah,Result.andThen_ok,r9,n4,Sem.run_pure]
   ·cases he
  ·cases he
 ·rename_i ag
  simp only[aA,bC]at he;obtain⟨rfl,rfl,rfl⟩:=he;rw[ag]at hx;obtain⟨k,e,ah⟩:∃k e,C.P.underlying t=some (.map k e):=ah;refine cn 0 ?_;simp only[Builtin.len_,hx.N4,Sem.run_bind,run_underlying ah,Result.andThen_ok,r9,n4,Sem.run_pure];rfl
 ·rename_i l ag
  obtain⟨k,e,ah⟩:∃k e,C.P.underlying t=some (.map k e):=ah;split at he
  ·rename_i bs hl
   simp only[aA,bC]at he;obtain⟨rfl,rfl,rfl⟩:=he;rw[ag]at hx;obtain⟨h0,c6,-,dU⟩:=hx.mapInv;obtain⟨a1,eO,hr⟩:=aa.obj l h0 c6;rw[hl]at eO;cases eO;obtain⟨-,-,es,bT,hm,h9,tI,-⟩:=hr;have hlen:=h9.length;simp only[jn,hJ]at hlen;refine cn bs.length ?_;have bx:(getObj h0.b).run C.P w=.ok (.map es bT) w:=by simp[getObj,Sem.run,hm]
   simp only[Builtin.len_,dU,Sem.run_bind,run_underlying ah,Result.andThen_ok,r9,n4,bx,Sem.run_pure,hlen]
  ·cases he
 ·cases he
end Go.Abs
