/- Texts of this claim, joined and written short by a program. -/
import Derived.Test.YtgkcikhegodchaaGreatDoorP02
import Derived.WalkLawsBesides
import Derived.Laws.StructEq
import Derived.Test.YtgkcikhegodchaaGreatDoorP00
set_option linter.unusedVariables false
set_option linter.unusedSimpArgs false
set_option linter.unusedSectionVars false
namespace Go.Abs
open Go
variable{C:Ctx}{fid:Nat->Nat}{w w':World}{G G':cg}{H:Heap}
variable{vars:List Nat}{ah:ai->V}{ρ:Operand->Value}{low low':Nat}{v:V}{H':Heap}{pos:String}{dv:cX}{o:Oper}
theorem WB (U:bd C fid G H w)(aU:fK C fid vars G w ah ρ){x:Operand}(ho:o.op=.move x\/o.op=.assign x)(hc:C.c2 vars pos o.op=some dv)(he:step ah H low dv=some (v,H',low')):
  df C fid G H w low ((execOp ρ o).run C.P w) v H' low':=by
 have pL:(C.cl vars x).map cX.mv=some dv:=by rcases ho with ho|ho<;>(rw[ho]at hc;exact hc)
 obtain⟨cO,hx,rfl⟩:=cD.1 pL;simp only[step,aD,bH]at he;obtain⟨rfl,rfl,rfl⟩:=he;exact .same U (x:=ρ x) (by unfold execOp;rcases ho with ho|ho<;>rw[ho]<;>rfl) (aU x cO hx)
theorem aiJ (U:bd C fid G H w)(aU:fK C fid vars G w ah ρ){c a b:Operand}(ho:o.op=.pick c a b)(hc:C.c2 vars pos o.op=some dv)(he:step ah H low dv=some (v,H',low')):
  df C fid G H w low ((execOp ρ o).run C.P w) v H' low':=by
 rw[ho]at hc;simp only[Ctx.c2]at hc;split at hc
 ·rename_i c' bn eN h1 h2 au
  simp only[aD]at hc;subst hc;simp only[step]at he;obtain⟨t,ht,he⟩:=cD.1 he;simp only[bH]at he;obtain⟨rfl,rfl,rfl⟩:=he
  have jq:ah c'=.bool t:=by
   unfold ri at ht;split at ht
   ·simp only[aD]at ht;subst ht;assumption
   ·cases ht
  have:=aU c c' h1;rw[jq]at this;have hb:=this.ln;refine .same U (x:=if t then ρ a else ρ b) (by unfold execOp;rw[ho];simp only[hb,asBool,Sem.run_bind,Sem.run_pure,Result.andThen_ok]) ?_;cases t
  ·exact aU b eN au
  ·exact aU a bn h2
 ·cases hc
theorem aiK (U:bd C fid G H w)(aU:fK C fid vars G w ah ρ){x:Operand}(ho:o.op=.nilCheck x)(hc:C.c2 vars pos o.op=some dv)(he:step ah H low dv=some (v,H',low')):
  df C fid G H w low ((execOp ρ o).run C.P w) v H' low':=by
 rw[ho]at hc;obtain⟨cO,hx,rfl⟩:=cD.1 hc;have af:=aU x cO hx;simp only[step]at he;split at he
 ·rename_i l o' e
  simp only[aD,bH]at he;obtain⟨rfl,rfl,rfl⟩:=he;rw[e]at af;obtain⟨h0,hb,ht,dZ⟩:=af.nS;exact .same U (x:=ρ x) (by unfold execOp;rw[ho];simp only[dZ];rfl) af
 ·rename_i l es i f tag e
  simp only[aD,bH]at he;obtain⟨rfl,rfl,rfl⟩:=he;rw[e]at af;obtain⟨h0,a,hb,hle,al,dZ⟩:=af.EY;exact .same U (x:=ρ x) (by unfold execOp;rw[ho];simp only[dZ];rfl) af
 ·rename_i vs f e
  simp only[aD,bH]at he;obtain⟨rfl,rfl,rfl⟩:=he;rw[e]at af;obtain⟨b,o',vals,bp,hc,hr,dZ⟩:=af.Oz;exact .same U (x:=ρ x) (by unfold execOp;rw[ho];simp only[dZ];rfl) af
 ·rename_i i a b e
  simp only[aD,bH]at he;obtain⟨rfl,rfl,rfl⟩:=he;rw[e]at af;obtain⟨xs,cQ,ag,hc,dZ⟩:=af.CE;exact .same U (x:=ρ x) (by unfold execOp;rw[ho];simp only[dZ];rfl) af
 ·cases he
theorem aiL (U:bd C fid G H w)(aU:fK C fid vars G w ah ρ){op:UnOp}{t:TypeId}{x:Operand}(ho:o.op=.unOp op t x)(hc:C.c2 vars pos o.op=some dv)(he:step ah H low dv=some (v,H',low')):
  df C fid G H w low ((execOp ρ o).run C.P w) v H' low':=by
 rw[ho]at hc;obtain⟨cO,hx,rfl⟩:=cD.1 hc;have af:=aU x cO hx;simp only[step]at he;obtain⟨u,hu,he⟩:=cD.1 he;simp only[bH]at he;obtain⟨rfl,rfl,rfl⟩:=he;unfold rk at hu;split at hu
 ·rename_i k n e
  simp only[aD]at hu;subst hu;rw[e]at af;exact .same U (x:=.int k (k.wrap (0-n))) (by unfold execOp;rw[ho];simp only[af.ku,Op.unary,Op.intArith,Sem.run_bind,Sem.run_pure,Result.andThen_ok]) (.p _ _ (.int _ _))
 ·rename_i b e
  simp only[aD]at hu;subst hu;rw[e]at af;exact .same U (x:=.bool !b) (by unfold execOp;rw[ho];simp only[af.ln,Op.unary,Sem.run_bind,Sem.run_pure,Result.andThen_ok]) (.p _ _ (.bool _))
 ·cases hu
theorem aiM (U:bd C fid G H w)(aU:fK C fid vars G w ah ρ){s d:TypeId}{x:Operand}(ho:o.op=.convert s d x)(hnb:∀x,dv≠ .vL x)(hc:C.c2 vars pos o.op=some dv)(he:step ah H low dv=some (v,H',low')):
  df C fid G H w low ((execOp ρ o).run C.P w) v H' low':=by
 rw[ho]at hc;simp only[Ctx.c2]at hc;split at hc
 ·rename_i k0 k cO h1 h2 au
  simp only[aD]at hc;subst hc;have af:=aU x cO au;simp only[step]at he;split at he
  ·rename_i bJ n e
   simp only[aD,bH]at he;obtain⟨rfl,rfl,rfl⟩:=he;rw[e]at af;exact .same U (x:=.int k (k.wrap n)) (by unfold execOp;rw[ho];simp only[af.ku,convert,Sem.run_bind,run_underlying h1,run_underlying h2,Result.andThen_ok,Conv.intToInt,Sem.run_pure]) (.p _ _ (.int _ _))
  ·cases he
 ·split at hc
  ·simp only[aD]at hc;exact absurd hc.symm (hnb _)
  ·cases hc
 ·cases hc
theorem aiN (U:bd C fid G H w)(aU:fK C fid vars G w ah ρ){t:TypeId}{x:Operand}(ho:o.op=.makeInterface t x)(hc:C.c2 vars pos o.op=some dv)(he:step ah H low dv=some (v,H',low')):
  df C fid G H w low ((execOp ρ o).run C.P w) v H' low':=by
 rw[ho]at hc;simp only[Ctx.c2]at hc;split at hc
 ·cases hc
 ·rename_i d cO bq h1 h2
  simp only[aD]at hc;subst hc;have af:=aU x cO h2;simp only[step]at he;split at he
  ·rename_i v1 H1 bL ag
   simp only[aD,bH]at he;obtain⟨rfl,rfl,rfl⟩:=he;obtain⟨aB,f1,b4⟩:=JA U af ag;refine df.CD f1 (df.same f1.rel (x:=.iface t (ρ x)) ?_ (.iface _ _ _ b4));unfold execOp;rw[ho];simp only[Instr.makeInterface,Sem.run_bind,run_underlying h1,Result.andThen_ok];cases d<;>first|rfl|(exfalso;exact bq _ h1)
  ·cases he
 ·cases hc
theorem JD (aU:fK C fid vars G w ah ρ):∀{xs:List Operand} {OD:List ai},ee (C.cl vars) xs=some OD->bj fid G w (OD.map ah) (xs.map ρ)
 |[],_,h=>by simp only[ee,aD]at h;subst h;exact .nil
 |x::xs,_,h=>by
  simp only[ee]at h;split at h
  ·rename_i cO hx
   split at h
   ·rename_i OD e0
    simp only[aD]at h;subst h;exact .cons _ _ _ _ (aU x cO hx) (JD aU e0)
   ·cases h
  ·cases h
theorem aiO (bP:fl C fid)(U:bd C fid G H w)(aU:fK C fid vars G w ah ρ){f:Fn}{a b:Array Operand}(ho:o.op=.makeFunc f a b)(hc:C.c2 vars pos o.op=some dv)(he:step ah H low dv=some (v,H',low')):
  df C fid G H w low ((execOp ρ o).run C.P w) v H' low':=by
 rw[ho]at hc;cases f with
 |func f=>
  simp only[Ctx.c2]at hc;split at hc
  ·rename_i i bn eN h1 h2 au
   simp only[aD]at hc;subst hc;simp only[step,aD,bH]at he;obtain⟨rfl,rfl,rfl⟩:=he;refine .same U (x:=.func (.func f) (a.map ρ) (b.map ρ)) (by unfold execOp;rw[ho];rfl) ?_;have e:=bP.f f i h1;subst e;have:=bw.fn (fid:=fid) i _ _ _ _ (JD aU h2) (JD aU au);have ad:a.map ρ=⟨a.toList.map ρ⟩:=by rw[<-Array.toList_map]
   have e2:b.map ρ=⟨b.toList.map ρ⟩:=by rw[<-Array.toList_map]
   rw[ad,e2];exact this
  ·cases hc
 | _=>simp[Ctx.c2]at hc
theorem aiP (U:bd C fid G H w)(aU:fK C fid vars G w ah ρ){x:Operand}{i:Nat}(ho:o.op=.extract x i)(hc:C.c2 vars pos o.op=some dv)(he:step ah H low dv=some (v,H',low')):
  df C fid G H w low ((execOp ρ o).run C.P w) v H' low':=by
 rw[ho]at hc;obtain⟨cO,hx,rfl⟩:=cD.1 hc;have af:=aU x cO hx;simp only[step]at he;split at he
 ·rename_i vs e
  obtain⟨u,hu,he⟩:=cD.1 he;simp only[bH]at he;obtain⟨rfl,rfl,rfl⟩:=he;rw[e]at af;obtain⟨vals,dZ,hr⟩:=af.Oo;obtain⟨y,hy,fC⟩:=hr.get hu;exact .same U (x:=y) (by unfold execOp;rw[ho];simp only[dZ,Instr.extract,tg,hy,Sem.run_bind,Sem.run_pure,Result.andThen_ok]) fC
 ·cases he
theorem aiQ (U:bd C fid G H w)(aU:fK C fid vars G w ah ρ){s:TypeId}{x:Operand}{f:Nat}(ho:o.op=.field s x f)(hc:C.c2 vars pos o.op=some dv)(he:step ah H low dv=some (v,H',low')):
  df C fid G H w low ((execOp ρ o).run C.P w) v H' low':=by
 rw[ho]at hc;simp only[Ctx.c2]at hc;split at hc
 ·rename_i fs cO h1 h2
  split at hc
  ·rename_i bc au
   obtain⟨sh,a7,rfl⟩:=cD.1 hc;have af:=aU x cO h2;simp only[step]at he;split at he
   ·rename_i vs e
    obtain⟨u,hu,he⟩:=cD.1 he;simp only[bH]at he;obtain⟨rfl,rfl,rfl⟩:=he;rw[e]at af;obtain⟨vals,dZ,hr⟩:=af.ET;have hk:=hr.iV hu;rcases Wu a7 with⟨n,rfl,al,hs⟩|⟨rfl,al⟩
    ·refine .same U (x:=.agg ⟨(vals.drop bc.offset).take n⟩) ?_ hk.2
     unfold execOp;rw[ho];simp only[dZ,Instr.field,Sem.run_bind,run_underlying h1,Result.andThen_ok,au,asAgg,Sem.run_pure,part,al,hs,if_true];congr 3;apply Array.ext';simp
    ·obtain⟨y,hy,fC⟩:=hk
     refine .same U (x:=y) ?_ fC;unfold execOp;rw[ho];simp only[dZ,Instr.field,Sem.run_bind,run_underlying h1,Result.andThen_ok,au,asAgg,Sem.run_pure,part,al,fV,if_false,tg,hy]
   ·cases he
  ·cases hc
 ·cases hc
theorem aiR (U:bd C fid G H w)(aU:fK C fid vars G w ah ρ){s:TypeId}{x:Operand}{f:Nat}(ho:o.op=.fieldAddr s x f)(hc:C.c2 vars pos o.op=some dv)(he:step ah H low dv=some (v,H',low')):
  df C fid G H w low ((execOp ρ o).run C.P w) v H' low':=by
 rw[ho]at hc;simp only[Ctx.c2]at hc;split at hc
 ·rename_i fs cO h1 h2
  split at hc
  ·rename_i bc au
   split at hc
   ·rename_i n a7
    split at hc
    ·cases hc
    ·rename_i hn
     simp only[aD]at hc;subst hc;have af:=aU x cO h2
     have ct:∀a,ρ x=.pointer (some a)->(execOp ρ o).run C.P w=.ok (.value (.pointer (some (a.add bc.offset)))) w:=by
      intro a al;simp only[Ctx.sizeOf,cD]at a7;obtain⟨i,hi,rfl⟩:=a7;unfold execOp;rw[ho];simp only[al,Instr.fieldAt,Sem.run_bind,run_underlying h1,Result.andThen_ok,au,Instr.sureAddr,Sem.run_pure,fieldPlace,sizeOf,run_typeInfo (P:=C.P) w hi,hn,if_false]
     simp only[step]at he;split at he
     ·rename_i l o' e
      simp only[aD,bH]at he;obtain⟨rfl,rfl,rfl⟩:=he;rw[e]at af;obtain⟨h0,hb,ht,dZ⟩:=af.nS;refine .same U (ct _ dZ) ?_;rw[Addr.add_lit];exact .ptr l _ h0 hb ht
     ·rename_i l es i mB tag e
      simp only[aD,bH]at he;obtain⟨rfl,rfl,rfl⟩:=he;rw[e]at af;obtain⟨h0,a,hb,hle,al,dZ⟩:=af.EY;refine .same U (ct _ dZ) (.hz l es i _ tag h0 _ hb hle (fun ht=> ?_));rw[al ht,Addr.add_lit,rb]
     ·rename_i vs mB e
      simp only[aD,bH]at he;obtain⟨rfl,rfl,rfl⟩:=he;rw[e]at af;obtain⟨b,o',vals,bp,hc,hr,dZ⟩:=af.Oz;refine .same U (ct _ dZ) ?_;rw[Addr.add_lit,rb];exact .dz vs _ b o' vals bp hc hr
     ·cases he
   ·cases hc
  ·cases hc
 ·cases hc
theorem aiS (U:bd C fid G H w)(aU:fK C fid vars G w ah ρ){t:TypeId}{a:Operand}(ho:o.op=.load t a)(hc:C.c2 vars pos o.op=some dv)(he:step ah H low dv=some (v,H',low')):
  df C fid G H w low ((execOp ρ o).run C.P w) v H' low':=by
 rw[ho]at hc;simp only[Ctx.c2]at hc;split at hc
 ·rename_i sh cO h1 h2
  simp only[aD]at hc;subst hc;simp only[step]at he;obtain⟨u,hu,he⟩:=cD.1 he;simp only[bH]at he;obtain⟨rfl,rfl,rfl⟩:=he;obtain⟨y,hy,fC⟩:=Wv U h1 (aU a cO h2) hu;exact .same U (x:=y) (by unfold execOp;rw[ho];simp only[Sem.run_bind,hy,Result.andThen_ok,Sem.run_pure]) fC
 ·cases hc
theorem aiT (U:bd C fid G H w)(aU:fK C fid vars G w ah ρ){t:TypeId}{a x:Operand}(ho:o.op=.store t a x)(hc:C.c2 vars pos o.op=some dv)(jL:low<=H.length)(he:step ah H low dv=some (v,H',low')):
  df C fid G H w low ((execOp ρ o).run C.P w) v H' low':=by
 rw[ho]at hc;simp only[Ctx.c2]at hc;split at hc
 ·rename_i n cO kb h1 h2 au
  simp only[aD]at hc;subst hc;simp only[step]at he;obtain⟨⟨H1,l⟩,hu,he⟩:=cD.1 he;simp only[bH]at he;obtain⟨rfl,rfl,rfl⟩:=he;obtain⟨aH,aB,ct,bI,ad,hl,hlen⟩:=aiF U h1 (aU a cO h2) (aU x kb au) hu;exact⟨undef,aH,aB,.inr ⟨by unfold execOp;rw[ho];simp only[Sem.run_bind,ct,Result.andThen_ok,Sem.run_pure],rfl⟩,bI,fun m hm=>ad.le (c4 hm (oC _ _)) (aN _),.undef _,j3 _ _,Nat.le_of_eq hlen.symm⟩
 ·cases hc
theorem WC{t:TypeId}{z:List V}{cs:List Value}(h:bj fid G w z cs):bj fid G w (C.mark t z) cs:=by
 unfold Ctx.mark;split
 ·cases C.zF==some t with
  |true=>cases h with|cons _ x _ xs _ hs=>exact .cons _ _ _ _ (.undef x) hs
  |false=>exact h
 ·exact h
theorem WD{t:TypeId}{z:List V}(a1:bM z=true){c:Array Value}{b:Nat}(hr:bj fid G w z c.toList)(hb:w'.heap[b]? =some (.cells c t (0,0))):ES C w' b (C.mark t z):=fun v af=>by
 unfold Ctx.mark at af;split at af
 ·cases ht:C.zF==some t with
  |true=>
   refine⟨c,t,hb,eq_of_beq ht,.inl ?_⟩;rw[<-iG];generalize c.toList=l at hr;cases hr with
   |cons _ x _ xs h1 hs=>
    cases h1 with
    |p _ _ h=>cases h;rfl
  |false=>rw[ht]at af;simp at af
 ·rw[af]at a1;simp[bM,dY]at a1
theorem aiU{vs:List V}(a1:bM vs=true){b:Nat}:ES C w b vs:=fun v af=>by
 rw[af]at a1;simp[bM,dY]at a1
theorem aiV (U:bd C fid G H w){t:TypeId}(ho:o.op=.alloc t)(hc:C.c2 vars pos o.op=some dv)(he:step ah H low dv=some (v,H',low')):
  df C fid G H w low ((execOp ρ o).run C.P w) v H' low':=by
 rw[ho]at hc;obtain⟨z,aJ,rfl⟩:=cD.1 hc;simp only[step,aD,bH]at he;obtain⟨rfl,rfl,rfl⟩:=he;unfold Ctx.zeroCells at aJ;split at aJ
 ·rename_i i hi
  split at aJ
  ·rename_i cK CH
   split at aJ
   ·rename_i vs c6
    split at aJ
    ·rename_i a1
     simp only[aD]at aJ;subst aJ;refine .alloc U 0 0 (x:=.pointer (some ⟨w.heap.size,0,none⟩)) (aY:=.cells cK.cells t) ?_ ⟨⟨rfl,WD (G:=G) (fid:=fid) (w:=w) a1 (dp.pG (EX _ c6)) (mE _ _)⟩,rfl,cK.cells,t,mE _ _,?_⟩ (.ptr _ _ ⟨w.heap.size,0,0,false⟩ (dw _ _ _) rfl)
     ·unfold execOp;rw[ho]
      simp only[Instr.alloc,zeroValue,Sem.run_bind,run_typeInfo (P:=C.P) w hi,Result.andThen_ok,CH,Sem.run_pure,newVar,newRow,run_newObj,World.alloc_eq]
     ·exact WC (dp.pG (EX _ c6))
    ·cases aJ
   ·cases aJ
  ·cases aJ
 ·cases aJ
theorem aiW (U:bd C fid G H w)(aU:fK C fid vars G w ah ρ){t:TypeId}{x:Operand}(ho:o.op=.box t x)(hc:C.c2 vars pos o.op=some dv)(he:step ah H low dv=some (v,H',low')):
  df C fid G H w low ((execOp ρ o).run C.P w) v H' low':=by
 rw[ho]at hc;obtain⟨cO,hx,rfl⟩:=cD.1 hc;simp only[step]at he;split at he
 ·rename_i a1
  simp only[aD,bH]at he;obtain⟨rfl,rfl,rfl⟩:=he;have af:=aU x cO hx;refine .alloc U 0 0 (x:=.pointer (some ⟨w.heap.size,0,none⟩)) (aY:=.cells (ρ x).cells t) ?_ ⟨⟨rfl,aiU a1⟩,rfl,(ρ x).cells,t,mE _ _,?_⟩ (.ptr _ _ ⟨w.heap.size,0,0,false⟩ (dw _ _ _) rfl)
  ·unfold execOp;rw[ho]
   simp only[Instr.box,Sem.run_bind,Sem.run_pure,Result.andThen_ok,newVar,newRow,run_newObj,World.alloc_eq]
  ·exact(CF af a1).1.ext U (Ext.push U _ 0 0 0)
 ·cases he
theorem aiX (U:bd C fid G H w){t:TypeId}{r:Option Operand}(ho:o.op=.makeMap t r)(hc:C.c2 vars pos o.op=some dv)(he:step ah H low dv=some (v,H',low')):
  df C fid G H w low ((execOp ρ o).run C.P w) v H' low':=by
 rw[ho]at hc;cases r with
 |some _=>simp[Ctx.c2]at hc
 |none=>
  simp only[Ctx.c2,aD]at hc;subst hc;simp only[step,aD,bH]at he;obtain⟨rfl,rfl,rfl⟩:=he;refine .alloc U 0 0 (x:=.map (some w.heap.size)) (aY:=.map #[] 0) ?_ ⟨rfl,rfl,#[],0,mE _ _,.nil,.nil,⟨fun x hx=>by simp at hx,by simp⟩⟩ (.map _ ⟨w.heap.size,0,0,false⟩ (dw _ _ _) rfl);unfold execOp;rw[ho];simp only[Instr.makeMap,Sem.run_bind,Sem.run_pure,Result.andThen_ok,run_newObj,World.alloc_eq,zv]
theorem OE{u:V}{n:Nat}(h:lj u=some n):∃k m,u=.int k m/\0<=m/\m.toNat=n:=by
 unfold lj at h;split at h
 ·split at h
  ·simp only[aD]at h
   exact⟨_,_,rfl,by assumption,h⟩
  ·cases h
 ·cases h
theorem aiY (U:bd C fid G H w)(aU:fK C fid vars G w ah ρ){t:TypeId}{x i:Operand}(ho:o.op=.index t x i)(hc:C.c2 vars pos o.op=some dv)(he:step ah H low dv=some (v,H',low')):
  df C fid G H w low ((execOp ρ o).run C.P w) v H' low':=by
 rw[ho]at hc;simp only[Ctx.c2]at hc;split at hc
 ·rename_i cO kb h1 h2 au
  simp only[aD]at hc;subst hc;simp only[step]at he;split at he
  ·rename_i s n ad e2
   obtain⟨c,tu,he⟩:=cD.1 he;simp only[bH]at he;obtain⟨rfl,rfl,rfl⟩:=he;obtain⟨k,m,bK,hm,hn⟩:=OE e2;have hx:=aU x cO h2;have hi:=aU i kb au;rw[ad]at hx;rw[bK]at hi;refine .same U (x:=.int .u8 c.toNat) ?_ (.p _ _ (.int _ _));unfold execOp;rw[ho]
   have oK:(⟨⟨s⟩⟩:ByteArray)[m.toNat]? =some c:=by
    rw[hn];obtain⟨aG,bu⟩:=eY.1 tu;have:n<(⟨⟨s⟩⟩:ByteArray).size:=aG;rw[getElem?_pos (c:=(⟨⟨s⟩⟩:ByteArray)) (i:=n) (h:=this)];congr 1
   simp only[hx.oH,hi.ku,Instr.index,asIntOf,Sem.run_bind,Sem.run_pure,Result.andThen_ok,run_underlying h1,hm,if_true,oK]
  ·cases he
 ·cases hc
end Go.Abs
namespace Go.Abs
open Go
variable{C:Ctx}{fid:Nat->Nat}{w w':World}{G G':cg}{H:Heap}
variable{vars:List Nat}{ah:ai->V}{ρ:Operand->Value}{low low':Nat}{v:V}{H':Heap}{pos:String}{dv:cX}{o:Oper}
theorem bytes_beq (s t:List UInt8):((⟨⟨s⟩⟩:ByteArray).toList==(⟨⟨t⟩⟩:ByteArray).toList)=(s==t):=by
 rw[ByteArray.toList_eq,ByteArray.toList_eq]
theorem aiZ{op:BinOp}{t:TypeId}{a b u:V}{x y:Value}(al:bw fid G w a x)(hb:bw fid G w b y)(hu:eF op a b=some u):
  ∃z,(binOp op t x y).run C.P w=.ok z w/\bw fid G w u z/\∀(x7 v7:Operand),eqGuard op t x7 v7 x y=pure ():=by
 unfold eF at hu;split at hu
 ·rename_i k bn bJ eN
  split at hu
  ·rename_i hc
   simp only[aD]at hu;subst hu;rw[al.ku,hb.ku];refine⟨.int k (k.wrap (bn*2^eN.toNat)),?_,.p _ _ (.int _ _),fun _ _=>rfl⟩;simp only[binOp,Op.shift,Int.not_lt.2 hc.1,if_false,pz hc.2,Sem.run_pure]
  ·cases hu
 ·rename_i k bn bJ eN
  split at hu
  ·rename_i hc
   simp only[aD]at hu;subst hu;rw[al.ku,hb.ku];refine⟨.int k (bn/2^eN.toNat),?_,.p _ _ (.int _ _),fun _ _=>rfl⟩;have h2:(0:Int)<=2^eN.toNat:=Int.pow_nonneg (by decide);simp only[binOp,Op.shift,Int.not_lt.2 hc.1,if_false,pz hc.2,Sem.run_pure,Int.fdiv_eq_ediv_of_nonneg _ h2]
  ·cases hu
 ·rename_i k bn bJ eN gM qC
  split at hu
  ·cases hu
  ·rename_i hk
   have hk:k=bJ:=by simpa using hk
   subst hk;rw[al.ku,hb.ku];have bb:∀(x7 v7:Operand),eqGuard op t x7 v7 (.int k bn) (.int k eN)=pure ():=fun _ _=>by cases op<;>rfl
   cases op<;>dsimp only at hu<;>
    first
    |(cases hu;done)
    |(simp only[aD]at hu;subst hu
      refine⟨_,?_,.p _ _ (.int _ _),bb⟩;simp only[binOp,ne_eq,not_true,if_false,Op.intArith,Op.intBits,Sem.run_pure];done)
    |(simp only[aD]at hu;subst hu
      refine⟨_,?_,.p _ _ (.bool _),bb⟩;simp only[binOp,ne_eq,not_true,if_false,Op.intCmp,Sem.run_pure];done)
    |(split at hu
      ·cases hu
      ·rename_i aJ
       simp only[aD]at hu;subst hu;refine⟨_,?_,.p _ _ (.int _ _),bb⟩;simp only[binOp,ne_eq,not_true,if_false,Op.intDiv,aJ,Sem.run_pure])
 ·rename_i bn eN
  split at hu
  ·rename_i hc
   simp only[aD]at hu;subst hu;rw[al.oH,hb.oH];refine⟨.string ⟨⟨bn++eN⟩⟩,?_,.p _ _ (.str _),fun _ _=>rfl⟩
   have dr:¬((((⟨⟨bn⟩⟩:ByteArray).size+(⟨⟨eN⟩⟩:ByteArray).size:Nat):Int)>IntKind.i64.max):=by
    rw[IntKind.max_i64];have ad:(⟨⟨bn⟩⟩:ByteArray).size=bn.length:=rfl;have e2:(⟨⟨eN⟩⟩:ByteArray).size=eN.length:=rfl;rw[ad,e2];omega
   have ai0:(⟨⟨bn⟩⟩:ByteArray)++(⟨⟨eN⟩⟩:ByteArray)=⟨⟨bn++eN⟩⟩:=by
    apply ByteArray.ext;rw[ByteArray.data_append];simp
   simp only[binOp,Op.stringOp,dr,if_false,ai0,Sem.run_pure]
  ·cases hu
 ·rename_i bn eN
  simp only[aD]at hu;subst hu;rw[al.oH,hb.oH];refine⟨.bool (bn==eN),?_,.p _ _ (.bool _),fun _ _=>rfl⟩;simp only[binOp,Op.stringOp,bytes_beq,Sem.run_pure]
 ·rename_i bn eN
  simp only[aD]at hu;subst hu;rw[al.oH,hb.oH];refine⟨.bool (bn != eN),?_,.p _ _ (.bool _),fun _ _=>rfl⟩;simp only[binOp,Op.stringOp,bytes_beq,Sem.run_pure,bne]
 ·cases hu
theorem bw.sy{x:Value}(h:bw fid G w .jj x):x=.pointer none:=by cases h with|p _ _ h=>cases h;rfl
theorem bw.jM{x:Value}(h:bw fid G w .cu x):x=.slice none 0 0:=by cases h with|p _ _ h=>cases h;rfl
theorem bw.sz{x:Value}(h:bw fid G w .emp x):∃a,x=.slice (some a) 0 0:=by cases h with|p _ _ h=>cases h;exact⟨_,rfl⟩
theorem bw.v8{x:Value}(h:bw fid G w .kr x):x=.nilFunc:=by cases h with|p _ _ h=>cases h;rfl
theorem bw.wc{x:Value}(h:bw fid G w .j5 x):x=.nilIface:=by cases h with|p _ _ h=>cases h;rfl
theorem bw.OG{x:Value}(h:bw fid G w .jk x):x=.map none:=by cases h with|p _ _ h=>cases h;rfl
theorem bw.OH{x:Value}{t:Nat}{v:V}(h:bw fid G w (.iface t v) x):∃y,x=.iface t y/\bw fid G w v y:=by
 cases h with
 |p _ _ h=>cases h with|iface _ _ y h=>exact⟨y,rfl,.p _ _ h⟩
 |iface _ _ y h=>exact⟨y,rfl,h⟩
theorem bw.x8{x:Value}{es:Nat}{ds:List V}(h:bw fid G w (.list es ds) x):
  ∃a cap,x=.slice (some a) ds.length cap/\ds.length<=cap/\(ds=[]\/∃b o vals,a=⟨b,o,none⟩/\G.I b/\iM w b o vals/\(∀d∈ds,(aI d).length=es)/\dp w G.I (ds.flatMap aI) vals):=by
 cases h with
 |p _ _ h=>cases h with
  |vV _ a cap=>exact⟨a,cap,rfl,cN _,.inl rfl⟩
  |list _ _ b o cap vals bp hc hu hr hl=>exact⟨_,cap,rfl,hl,.inr ⟨b,o,vals,rfl,bp,hc,hu,hr⟩⟩
def kindOk:Nat->TypeDesc->Prop
 |0,d=>∃ed,d=.pointer ed
 |1,d=>∃ed,d=.slice ed
 |2,d=>∃p r b,d=.func p r b
 |3,d=>∃m,d=.interface m
 |4,d=>d=.bool
 | _,_=>False
theorem ai1{t:TypeId}{d:TypeDesc}(hd:C.P.underlying t=some d){kind:Nat}{a b:V}{e:Bool}{x y:Value}(al:bw fid G w a x)(hb:bw fid G w b y)(hu:rj kind a b=some e)
  (hk:kindOk kind d):
  (Op.equal t x y).run C.P w=.ok e w:=by
 show(Op.equalIn (9999+1) t x y).run C.P w=.ok e w;generalize 9999=depth;unfold rj at hu;split at hu
 ·simp only[aD]at hu;subst hu
  obtain⟨ed,rfl⟩:=hk;rw[al.sy,hb.sy];simp[Op.equalIn,run_underlying hd]
 ·simp only[aD]at hu;subst hu
  obtain⟨ed,rfl⟩:=hk;obtain⟨h0,-,-,rfl⟩:=al.nS;rw[hb.sy];simp[Op.equalIn,run_underlying hd]
 ·simp only[aD]at hu;subst hu
  obtain⟨ed,rfl⟩:=hk;obtain⟨h0,-,-,rfl⟩:=hb.nS;rw[al.sy];simp[Op.equalIn,run_underlying hd]
 ·simp only[aD]at hu;subst hu
  obtain⟨ed,rfl⟩:=hk;rw[al.jM,hb.jM];simp[Op.equalIn,run_underlying hd]
 ·simp only[aD]at hu;subst hu
  obtain⟨ed,rfl⟩:=hk;obtain⟨_,rfl⟩:=al.sz;rw[hb.jM];simp[Op.equalIn,run_underlying hd]
 ·simp only[aD]at hu;subst hu
  obtain⟨ed,rfl⟩:=hk;obtain⟨_,_,rfl,-⟩:=al.x8;rw[hb.jM];simp[Op.equalIn,run_underlying hd]
 ·simp only[aD]at hu;subst hu
  obtain⟨ed,rfl⟩:=hk;obtain⟨_,_,_,_,-,-,-,rfl⟩:=al.oI;rw[hb.jM];simp[Op.equalIn,run_underlying hd]
 ·simp only[aD]at hu;subst hu
  obtain⟨p,r,eN,rfl⟩:=hk;rw[al.v8,hb.v8];simp[Op.equalIn,run_underlying hd]
 ·simp only[aD]at hu;subst hu
  obtain⟨p,r,eN,rfl⟩:=hk;obtain⟨_,_,-,-,rfl⟩:=al.CE;rw[hb.v8];simp[Op.equalIn,run_underlying hd]
 ·simp only[aD]at hu;subst hu
  obtain⟨m,rfl⟩:=hk;rw[al.wc,hb.wc];simp[Op.equalIn,run_underlying hd]
 ·simp only[aD]at hu;subst hu
  obtain⟨m,rfl⟩:=hk;obtain⟨_,rfl,-⟩:=al.OH;rw[hb.wc];simp[Op.equalIn,run_underlying hd]
 ·simp only[aD]at hu;subst hu
  subst hk;rw[al.ln,hb.ln];simp[Op.equalIn,run_underlying hd]
 ·cases hu
theorem ai2{t:TypeId}{kind:Nat}{a b:V}{e:Bool}{x y:Value}(al:bw fid G w a x)(hb:bw fid G w b y)(hu:rj kind a b=some e)(neg:Bool)
  (bu:(Op.equal t x y).run C.P w=.ok e w):
  (binOp (if neg then .neq else .eql) t x y).run C.P w=.ok (.bool (if neg then !e else e)) w:=by
 have key:binOp (if neg then .neq else .eql) t x y=(do let q <-Op.equal t x y;pure (.bool (if neg then !q else q))):=by
  unfold rj at hu;split at hu
  ·rw[al.sy,hb.sy];cases neg<;>rfl
  ·obtain⟨h0,-,-,rfl⟩:=al.nS;rw[hb.sy];cases neg<;>rfl
  ·obtain⟨h0,-,-,rfl⟩:=hb.nS;rw[al.sy];cases neg<;>rfl
  ·rw[al.jM,hb.jM];cases neg<;>rfl
  ·obtain⟨_,rfl⟩:=al.sz;rw[hb.jM];cases neg<;>rfl
  ·obtain⟨_,_,rfl,-⟩:=al.x8;rw[hb.jM];cases neg<;>rfl
  ·obtain⟨_,_,_,_,-,-,-,rfl⟩:=al.oI;rw[hb.jM];cases neg<;>rfl
  ·rw[al.v8,hb.v8];cases neg<;>rfl
  ·obtain⟨_,_,-,-,rfl⟩:=al.CE;rw[hb.v8];cases neg<;>rfl
  ·rw[al.wc,hb.wc];cases neg<;>rfl
  ·obtain⟨_,rfl,-⟩:=al.OH;rw[hb.wc];cases neg<;>rfl
  ·rw[al.ln,hb.ln];cases neg<;>rfl
  ·cases hu
 rw[key,Sem.run_bind,bu];cases neg<;>rfl
theorem ai3{op:BinOp}{t:TypeId}{kind:Nat}{a b:V}{e:Bool}{x y:Value}{x7 v7:Operand}(al:bw fid G w a x)(hb:bw fid G w b y)(hu:rj kind a b=some e)
  (hc:kind=3->∃c,v7=.const c):eqGuard op t x7 v7 x y=pure ():=by
 unfold rj at hu;split at hu
 ·rw[al.sy,hb.sy];cases op<;>rfl
 ·obtain⟨h0,-,-,rfl⟩:=al.nS;rw[hb.sy];cases op<;>rfl
 ·obtain⟨h0,-,-,rfl⟩:=hb.nS;rw[al.sy];cases op<;>rfl
 ·rw[al.jM,hb.jM];cases op<;>rfl
 ·obtain⟨_,rfl⟩:=al.sz;rw[hb.jM];cases op<;>rfl
 ·obtain⟨_,_,rfl,-⟩:=al.x8;rw[hb.jM];cases op<;>rfl
 ·obtain⟨_,_,_,_,-,-,-,rfl⟩:=al.oI;rw[hb.jM];cases op<;>rfl
 ·rw[al.v8,hb.v8];cases op<;>rfl
 ·obtain⟨_,_,-,-,rfl⟩:=al.CE;rw[hb.v8];cases op<;>rfl
 ·rw[al.wc,hb.wc]
  obtain⟨c,rfl⟩:=hc rfl;unfold eqGuard;cases op<;>simp
 ·obtain⟨_,rfl,-⟩:=al.OH;rw[hb.wc];cases op<;>rfl
 ·rw[al.ln,hb.ln];cases op<;>rfl
 ·cases hu
theorem ai4{y:Operand}{lK:ai}(h:C.cl vars y=some lK)(hn:Ctx.Jr lK=true):∃c,y=.const c:=by
 cases y with
 |const c=>exact⟨c,rfl⟩
 |tmp t=>
  simp only[Ctx.cl,aD]at h;subst h;split at hn<;>simp[Ctx.Jr]at hn
 |func f=>
  simp only[Ctx.cl,cD]at h;obtain⟨_,-,rfl⟩:=h;simp[Ctx.Jr]at hn
 |global g=>simp[Ctx.cl]at h
theorem WE{t:TypeId}{k:Nat}(hk:C.j7 t=some k){a b:V}{x y:Value}{e:Bool}(al:bw fid G w a x)(hb:bw fid G w b y)(he:jl k a b=some e)(d:Nat):
  (Op.equalIn (d+1) t x y).run C.P w=.ok e w:=by
 unfold Ctx.j7 at hk;unfold jl at he;split at he
 ·split at he
  ·rename_i E1
   simp only[aD]at he;subst he;subst E1;rw[al.ku,hb.ku];split at hk<;>rename_i hd<;>simp at hk;exact run_equalIn_int w d t _ _ _ _ hd
  ·cases he
 ·simp only[aD]at he;subst he
  rw[al.oH,hb.oH];split at hk<;>rename_i hd<;>simp at hk;rw[run_equalIn_string w d t _ _ hd,bytes_beq]
 ·simp only[aD]at he;subst he
  rw[al.ln,hb.ln];split at hk<;>rename_i hd<;>simp at hk;exact run_equalIn_bool' w d t _ _ hd
 ·cases he
theorem WG{t:TypeId}{k:Nat}(hk:C.j7 t=some k)(w:World):(isAgg t).run C.P w=.ok false w:=by
 unfold Ctx.j7 at hk;unfold isAgg;split at hk<;>rename_i hd<;>first|(cases hk;done)|(rw[Sem.run_bind,run_underlying hd];rfl)
theorem WH{xs cQ:List V}{pM pN:List Value}(hx:bj fid G w xs pM)(hy:bj fid G w cQ pN)(d:Nat):∀(fs:List Field) (i:Nat) (ks:List Nat) (e:Bool),C.EK i fs=some ks->
  kT ks (xs.drop i) (cQ.drop i)=some e->(Op.eqFields (d+1) ⟨pM⟩ ⟨pN⟩ fs).run C.P w=.ok e w
 |[],i,ks,e,hk,he=>by
  simp only[Ctx.EK,aD]at hk;subst hk;unfold kT at he;split at he
  ·simp only[aD]at he;subst he;rfl
  ·simp_all
  ·cases he
 |f::fs,i,ks,e,hk,he=>by
  simp only[Ctx.EK]at hk;split at hk
  ·rename_i k CI
   split at hk
   ·rename_i hc
    simp only[cm,bne_iff_ne,ne_eq,beq_iff_eq]at hc;obtain⟨tv,eQ,rfl⟩:=cD.1 hk;cases tw:xs.drop i with
    |nil=>rw[tw]at he;simp[kT]at he
    |cons a uS=>
     cases we:cQ.drop i with
     |nil=>rw[tw,we]at he;simp[kT]at he
     |cons b OI=>
      rw[tw,we]at he;simp only[kT]at he;have cO:xs[i]? =some a:=by have:=congrArg (·[0]?) tw;simpa using this
      have lK:cQ[i]? =some b:=by have:=congrArg (·[0]?) we;simpa using this
      have OJ:xs.drop (i+1)=uS:=by have:=congrArg (List.drop 1) tw;simpa[uN]using this
      have OK:cQ.drop (i+1)=OI:=by have:=congrArg (List.drop 1) we;simpa[uN]using this
      obtain⟨cn,hQ,OL⟩:=hx.get cO;obtain⟨ib,sA,OM⟩:=hy.get lK;split at he
      ·rename_i ad mH
       split at he
       ·rename_i e2 nV
        simp only[aD]at he;subst he;rw[<-OJ,<-OK]at nV;have ih:=WH hx hy d fs (i+1) tv e2 eQ nV
        have hp:∀(l:List Value) (z:Value),l[i]? =some z->(part f.type ⟨l⟩ f.offset).run C.P w=.ok z w:=by
         intro l z aJ;unfold part;simp only[Sem.run_bind,WG CI,Result.andThen_ok,fV,if_false,hc.2,tg,aJ,Sem.run_pure]
        simp only[Op.eqFields,hc.1,ne_eq,not_false_eq_true,if_true,Sem.run_bind,hp pM cn hQ,hp pN ib sA,Result.andThen_ok,WE CI OL OM mH d,Sem.run_ite,Sem.run_pure,ih];cases ad<;>simp
       ·cases he
      ·cases he
   ·cases hk
  ·cases hk
theorem WI:∀(rp zO:List Nat) (x y:List V) {e:Bool},kT (rp++zO) x y=some e->
  ∃ad e2,kT rp (x.take rp.length) (y.take rp.length)=some ad/\kT zO (x.drop rp.length) (y.drop rp.length)=some e2/\e=(ad&&e2)
 |[],zO,x,y,e,h=>⟨true,e,by simp[kT],by simpa using h,by simp⟩
 |k::ks,zO,[],y,e,h=>by simp[kT]at h
 |k::ks,zO,_::_,[],e,h=>by simp[kT]at h
 |k::ks,zO,a::x,b::y,e,h=>by
  simp only[l4,kT]at h;split at h
  ·rename_i eP h0
   split at h
   ·rename_i wg mI
    obtain⟨ad,e2,q1,q2,rfl⟩:=WI ks zO x y mI;simp only[aD]at h;exact⟨eP&&ad,e2,by simp[kT,h0,q1],by simpa using q2,by rw[<-h,Cj]⟩
   ·cases h
  ·cases h
theorem ON{xs cQ:List V}{pM pN:List Value}(hx:bj fid G w xs pM)(hy:bj fid G w cQ pN)(d:Nat):∀(fs:List Field) (i:Nat) (ks:List Nat) (e:Bool),C.Ct i fs=some ks->
  kT ks (xs.drop i) (cQ.drop i)=some e->(Op.eqFields (d+2) ⟨pM⟩ ⟨pN⟩ fs).run C.P w=.ok e w
 |[],i,ks,e,hk,he=>by
  simp only[Ctx.Ct,aD]at hk;subst hk;unfold kT at he;split at he
  ·simp only[aD]at he;subst he;rfl
  ·simp_all
  ·cases he
 |f::fs,i,ks,e,hk,he=>by
  simp only[Ctx.Ct]at hk;split at hk
  ·rename_i k CI
   split at hk
   ·rename_i hc
    simp only[cm,bne_iff_ne,ne_eq,beq_iff_eq]at hc;obtain⟨tv,eQ,rfl⟩:=cD.1 hk;cases tw:xs.drop i with
    |nil=>rw[tw]at he;simp[kT]at he
    |cons a uS=>
     cases we:cQ.drop i with
     |nil=>rw[tw,we]at he;simp[kT]at he
     |cons b OI=>
      rw[tw,we]at he;simp only[kT]at he;have cO:xs[i]? =some a:=by have:=congrArg (·[0]?) tw;simpa using this
      have lK:cQ[i]? =some b:=by have:=congrArg (·[0]?) we;simpa using this
      have OJ:xs.drop (i+1)=uS:=by have:=congrArg (List.drop 1) tw;simpa[uN]using this
      have OK:cQ.drop (i+1)=OI:=by have:=congrArg (List.drop 1) we;simpa[uN]using this
      obtain⟨cn,hQ,OL⟩:=hx.get cO;obtain⟨ib,sA,OM⟩:=hy.get lK;split at he
      ·rename_i ad mH
       split at he
       ·rename_i e2 nV
        simp only[aD]at he;subst he;rw[<-OJ,<-OK]at nV;have ih:=ON hx hy d fs (i+1) tv e2 eQ nV
        have hp:∀(l:List Value) (z:Value),l[i]? =some z->(part f.type ⟨l⟩ f.offset).run C.P w=.ok z w:=by
         intro l z aJ;unfold part;simp only[Sem.run_bind,WG CI,Result.andThen_ok,fV,if_false,hc.2,tg,aJ,Sem.run_pure]
        simp only[Op.eqFields,hc.1,ne_eq,not_false_eq_true,if_true,Sem.run_bind,hp pM cn hQ,hp pN ib sA,Result.andThen_ok,WE CI OL OM mH (d+1),Sem.run_ite,Sem.run_pure,ih];cases ad<;>simp
       ·cases he
      ·cases he
   ·cases hk
  ·rename_i CI
   split at hk
   ·rename_i gs wh
    split at hk
    ·rename_i rp ai5
     split at hk
     ·rename_i hc
      simp only[cm,bne_iff_ne,ne_eq,beq_iff_eq,oB]at hc;obtain⟨⟨⟨cT,dI⟩,fg⟩,ic⟩:=hc;obtain⟨tv,eQ,rfl⟩:=cD.1 hk;obtain⟨ad,e2,mH,nV,rfl⟩:=WI rp tv _ _ he;rw[uN,uN]at nV;have ih:=ON hx hy d fs (i+rp.length) tv e2 eQ nV;have CJ:C.P.fieldsOf f.type=gs:=by unfold Program.fieldsOf;rw[wh]
      have hp:∀(l:List Value),(part f.type ⟨l⟩ f.offset).run C.P w=.ok (.agg ⟨(l.drop i).take rp.length⟩) w:=by
       intro l;have Oq:(isAgg f.type).run C.P w=.ok true w:=by unfold isAgg;rw[Sem.run_bind,run_underlying wh];rfl
       unfold Ctx.sizeOf at ic;obtain⟨inf,ai6,dr⟩:=cD.1 ic;unfold part;simp only[Sem.run_bind,Oq,Result.andThen_ok,if_true,sizeOf,typeInfo,ai6,run_program,Sem.run_pure,dr,dI];congr 2;rw[<-Array.toList_inj];simp[List.take_drop,Nat.add_comm]
      have hin:(Op.equalIn (d+2) f.type (.agg ⟨(pM.drop i).take rp.length⟩) (.agg ⟨(pN.drop i).take rp.length⟩)).run C.P w=.ok ad w:=by
       rw[run_equalIn_struct (P:=C.P) w (d+1) f.type _ _ (by rw[CJ];exact wh) fg,CJ];exact WH ((hx.drop i).take _) ((hy.drop i).take _) d gs.toList 0 rp ad ai5 (by simpa using mH)
      simp only[Op.eqFields,cT,ne_eq,not_false_eq_true,if_true,Sem.run_bind,hp pM,hp pN,Result.andThen_ok,hin,Sem.run_ite,Sem.run_pure,ih];cases ad<;>simp
     ·cases hk
    ·cases hk
   ·cases hk
theorem ai7{t:TypeId}{fs:Array Field}{ks:List Nat}(hd:C.P.underlying t=some (.struct fs))(hs:C.structEq t=some ks){xs cQ:List V}{pM pN:List Value}(hx:bj fid G w xs pM)(hy:bj fid G w cQ pN)
  {e:Bool} (he:kT ks xs cQ=some e) (neg:Bool) (x7 v7:Operand):
  (do eqGuard (if neg then .neq else .eql) t x7 v7 (.agg ⟨pM⟩) (.agg ⟨pN⟩);binOp (if neg then .neq else .eql) t (.agg ⟨pM⟩) (.agg ⟨pN⟩)).run C.P w=.ok (.bool (if neg then !e else e)) w:=by
 unfold Ctx.structEq at hs;rw[hd]at hs;simp only at hs;split at hs
 ·rename_i hc
  simp only[cm,oB]at hc;have ag:C.P.fieldsOf t=fs:=by unfold Program.fieldsOf;rw[hd]
  have key:(Op.equalIn 10000 t (.agg ⟨pM⟩) (.agg ⟨pN⟩)).run C.P w=.ok e w:=by
   rw[run_equalIn_struct (P:=C.P) w 9999 t _ _ (by rw[ag];exact hd) hc.1,ag];exact ON hx hy 9997 fs.toList 0 ks e hs (by simpa using he)
  rw[Sem.run_bind,run_eqGuard_agg w _ t x7 v7 _ _ hc.2];cases neg
  ·simp only[fV,if_false,Result.andThen_ok,run_eql_struct,key]
  ·simp only[if_true,Result.andThen_ok,run_neq_struct,key]
 ·cases hs
theorem ai8 (U:bd C fid G H w)(aU:fK C fid vars G w ah ρ){E2:BinOp}{t ed:TypeId}{x y:Operand}(ho:o.op=.binOp E2 t x y ed)(hc:C.c2 vars pos o.op=some dv)(he:step ah H low dv=some (v,H',low')):
  df C fid G H w low ((execOp ρ o).run C.P w) v H' low':=by
 rw[ho]at hc;simp only[Ctx.c2]at hc;split at hc
 ·rename_i cO lK h1 h2
  have hx:=aU x cO h1;have hy:=aU y lK h2
  have plain:∀{a b:BinOp},step ah H low (.bin E2 cO lK)=some (v,H',low')->a=b->df C fid G H w low ((execOp ρ o).run C.P w) v H' low':=by
   intro _ _ he _;simp only[step]at he;obtain⟨u,hu,he⟩:=cD.1 he;simp only[bH]at he;obtain⟨rfl,rfl,rfl⟩:=he;obtain⟨z,aJ,fC,bb⟩:=aiZ (C:=C) (t:=t) hx hy hu;refine .same U (x:=z) ?_ fC;unfold execOp;rw[ho];simp only[bb,Sem.run_bind,Sem.run_pure,Result.andThen_ok,aJ]
  have agg:∀(neg:Bool) {fs:Array Field},E2=(if neg then .neq else .eql)->C.P.underlying t=some (.struct fs)->(C.structEq t).map (fun n=>cX.zz neg n cO lK)=some dv->df C fid G H w low ((execOp ρ o).run C.P w) v H' low':=by
   intro neg fs db hd hm;obtain⟨n,hn,rfl⟩:=cD.1 hm;simp only[step]at he;split at he
   ·rename_i xs cQ ad e2
    obtain⟨e,E3,he⟩:=cD.1 he;simp only[bH]at he;obtain⟨rfl,rfl,rfl⟩:=he;rw[ad]at hx;rw[e2]at hy;obtain⟨pM,dZ,ai9⟩:=hx.ET;obtain⟨pN,E4,aja⟩:=hy.ET;have key:=ai7 hd hn ai9 aja E3 neg x y;rw[<-db]at key;refine .same U (x:=.bool (if neg then !e else e)) ?_ (.p _ _ (.bool _));unfold execOp;rw[ho];simp only[dZ,E4];rw[Sem.run_bind,key];rfl
   ·cases he
  have kinds:∀(neg:Bool) {d:TypeDesc},E2=(if neg then .neq else .eql)->C.P.underlying t=some d->Ctx.zG d cO lK (.bin E2 cO lK) neg=some dv->df C fid G H w low ((execOp ρ o).run C.P w) v H' low':=by
   intro neg d db hd hk
   have go:∀kind,dv=.sk kind neg cO lK->kindOk kind d->
     (kind=3->∃c,y=.const c)->df C fid G H w low ((execOp ρ o).run C.P w) v H' low':=by
    intro kind al E1 tu;subst al;simp only[step]at he;obtain⟨e,E3,he⟩:=cD.1 he;simp only[bH]at he;obtain⟨rfl,rfl,rfl⟩:=he;have bu:=ai1 (t:=t) hd hx hy E3 E1;have hb:=ai2 hx hy E3 neg bu;rw[<-db]at hb;refine .same U (x:=.bool (if neg then !e else e)) ?_ (.p _ _ (.bool _));unfold execOp;rw[ho];simp only[ai3 hx hy E3 tu,Sem.run_bind,Sem.run_pure,Result.andThen_ok,hb]
   unfold Ctx.zG at hk;split at hk
   ·simp only[aD]at hk;subst hk;exact plain (a:=.add) (b:=.add) he rfl
   ·simp only[aD]at hk;subst hk;exact plain (a:=.add) (b:=.add) he rfl
   ·simp only[aD]at hk;exact go 0 hk.symm ⟨_,rfl⟩ (fun h=>by cases h)
   ·simp only[aD]at hk;exact go 1 hk.symm ⟨_,rfl⟩ (fun h=>by cases h)
   ·simp only[aD]at hk;exact go 2 hk.symm ⟨_,_,_,rfl⟩ (fun h=>by cases h)
   ·split at hk
    ·rename_i ajb
     simp only[aD]at hk;exact go 3 hk.symm ⟨_,rfl⟩ (fun _=>ai4 h2 ajb)
    ·cases hk
   ·simp only[aD]at hk;exact go 4 hk.symm rfl (fun h=>by cases h)
   ·cases hk
  split at hc
  ·rename_i hd;exact agg false rfl hd hc
  ·rename_i hd;exact agg true rfl hd hc
  ·rename_i hd;exact kinds false rfl hd hc
  ·rename_i hd;exact kinds true rfl hd hc
  ·cases hc
  ·cases hc
  ·simp only[aD]at hc;subst hc;exact plain (a:=.add) (b:=.add) he rfl
 ·cases hc
end Go.Abs
namespace Go.Abs
open Go
variable{C:Ctx}{fid:Nat->Nat}{w w':World}{G G':cg}{H:Heap}
variable{vars:List Nat}{ah:ai->V}{ρ:Operand->Value}{low low':Nat}{v:V}{H':Heap}{pos:String}{dv:cX}{o:Oper}
theorem wi{x:Value}{k:IntKind}{m:Int}{n y:Nat}{code:BoundsCode}(hx:x=.int k m)(h0:0<=m)(hn:m.toNat=n)(hy:n<=y):
  (Instr.sliceBound x y code).run C.P w=.ok n w:=by
 subst hx;have:0<=m/\m<=(y:Int):=by omega
 simp only[Instr.sliceBound,asIntOf,Sem.run_bind,Sem.run_pure,Result.andThen_ok,this,and_self,if_true,hn]
theorem CK (aU:fK C fid vars G w ah ρ){x:Option Operand}{cO:Option ai}(hx:C.qy vars x=some cO){d n:Nat}(h:fe ah d cO=some n):
  (x=none/\cO=none/\n=d)\/∃y k m,x=some y/\ρ y=.int k m/\0<=m/\m.toNat=n:=by
 cases x with
 |none=>
  simp only[Ctx.qy,aD]at hx;subst hx;simp only[fe,aD]at h;exact .inl ⟨rfl,rfl,h.symm⟩
 |some y=>
  simp only[Ctx.qy,cD]at hx;obtain⟨lK,hy,rfl⟩:=hx;simp only[fe]at h;obtain⟨k,m,e,hm,hn⟩:=OE h;have:=aU y lK hy;rw[e]at this;exact .inr ⟨y,k,m,rfl,this.ku,hm,hn⟩
theorem E5 (aU:fK C fid vars G w ah ρ){lo hi:Option Operand}{x9 tx:Option ai}(hR:C.qy vars lo=some x9)(pO:C.qy vars hi=some tx){WJ:Bool}{len cap a b:Nat}
  (al:fe ah 0 x9=some a) (hb:fe ah len tx=some b) (h1:a<=b) (h2:b<=len) (au:len<=cap):
  (Instr.sliceBounds WJ len cap (lo.map ρ) (hi.map ρ) none).run C.P w=.ok (a,b,cap) w:=by
 unfold Instr.sliceBounds;have dM:∀(z:Nat × Nat × Nat),True:=fun _=>trivial;rcases CK aU pO hb with⟨rfl,-,rfl⟩|⟨y,k,m,rfl,jr,hm,hn⟩
 ·rcases CK aU hR al with⟨rfl,-,rfl⟩|⟨oL,bJ,m',rfl,E6,kz,pP⟩
  ·simp only[zv,Sem.run_bind,Sem.run_pure,Result.andThen_ok]
  ·simp only[zv,si,Sem.run_bind,Sem.run_pure,Result.andThen_ok,wi (C:=C) E6 kz pP h1]
 ·rcases CK aU hR al with⟨rfl,-,rfl⟩|⟨oL,bJ,m',rfl,E6,kz,pP⟩
  ·simp only[zv,si,Sem.run_bind,Sem.run_pure,Result.andThen_ok,wi (C:=C) jr hm hn (c4 h2 au)]
  ·simp only[si,Sem.run_bind,Sem.run_pure,Result.andThen_ok,wi (C:=C) jr hm hn (c4 h2 au),wi (C:=C) E6 kz pP h1]
theorem OO (aU:fK C fid vars G w ah ρ){lo hi mx:Option Operand}{x9 tx:Option ai}{m:ai}(hR:C.qy vars lo=some x9)(pO:C.qy vars hi=some tx)(sB:C.qy vars mx=some (some m))
  {len cap a d:Nat} (al:fe ah 0 x9=some a) (hb:fe ah d tx=some 0) (wj:tx≠none) (h1:a<=0) (hm:lj (ah m)=some 0):
  (Instr.sliceBounds true len cap (lo.map ρ) (hi.map ρ) (mx.map ρ)).run C.P w=.ok (0,0,0) w:=by
 unfold Instr.sliceBounds;obtain rfl:a=0:=by omega
 rcases CK aU sB (d:=0) (show fe ah 0 (some m)=some 0 from hm)with⟨-,q,-⟩|⟨z,az9,aAa,rfl,qD,WK,JE⟩
 ·cases q
 ·rcases CK aU pO hb with⟨-,q,-⟩|⟨y,k,m',rfl,jr,kz,pP⟩
  ·exact absurd q wj
  ·rcases CK aU hR al with⟨rfl,-,-⟩|⟨oL,bJ,aAb,rfl,E6,ajc,ajd⟩
   ·simp only[zv,si,Sem.run_bind,Sem.run_pure,Result.andThen_ok,wi (C:=C) qD WK JE (cN _),wi (C:=C) jr kz pP (cN _)]
   ·simp only[si,Sem.run_bind,Sem.run_pure,Result.andThen_ok,wi (C:=C) qD WK JE (cN _),wi (C:=C) jr kz pP (cN _),wi (C:=C) E6 ajc ajd (cN _)]
theorem zP{t e:TypeId}(hd:C.P.underlying t=some (.slice e))(x:Value)(lo hi mx:Option Value):(Instr.sliceAt t x lo hi mx).run C.P w=(Instr.slice t x lo hi mx).run C.P w:=by
 unfold Instr.sliceAt;rw[Sem.run_bind,run_underlying hd];rfl
theorem aje{t:TypeId}(hd:C.P.underlying t=some .string)(x:Value)(lo hi mx:Option Value):(Instr.sliceAt t x lo hi mx).run C.P w=(Instr.slice t x lo hi mx).run C.P w:=by
 unfold Instr.sliceAt;rw[Sem.run_bind,run_underlying hd];rfl
theorem zQ{t n:Nat}(hs:C.sizeOf t=some n)(w:World):(Go.sizeOf t).run C.P w=.ok n w:=by
 simp only[Ctx.sizeOf,cD]at hs;obtain⟨i,hi,rfl⟩:=hs;unfold Go.sizeOf;rw[Sem.run_bind,run_typeInfo (P:=C.P) w hi];rfl
theorem ajf (s:List UInt8)(a b:Nat):(⟨⟨s⟩⟩:ByteArray).extract a b=⟨⟨(s.take b).drop a⟩⟩:=by
 apply ByteArray.ext;rw[ByteArray.data_extract];apply Array.ext';simp[List.drop_take]
theorem ajg{es:Nat}{ds:List V}{x:Value}(h:bw fid G w (.list es ds) x){a b:Nat}(kA:a<=b)(hb:b<=ds.length):
  ∃dh cap,x=.slice (some dh) ds.length cap/\ds.length<=cap/\bw fid G w (.list es ((ds.take b).drop a)) (.slice (if cap=a then some dh else some (dh.add (a*es))) (b-a) (cap-a)):=by
 obtain⟨dh,cap,rfl,ev,bu⟩:=h.x8;refine⟨dh,cap,rfl,ev,?_⟩;have hlen:((ds.take b).drop a).length=b-a:=by simp;omega
 by_cases hn:(ds.take b).drop a=[]
 ·have ajh:b-a=0:=by rw[<-hlen,hn];rfl
  rw[hn,ajh];split
  ·exact .p _ _ (.vV _ _ _)
  ·exact .p _ _ (.vV _ _ _)
 ·have aG:a<b:=by
   rcases gD a b with q|q
   ·exact q
   ·exact absurd (zp.1 (by omega)) hn
  rcases bu with rfl|⟨zR,o',vals,rfl,bp,hc,hu,hr⟩
  ·simp at hn
  ·rw[if_neg (by omega),Addr.add_lit]
   have JF:∀d∈ds.take b,(aI d).length=es:=fun d hd=>hu d (Ew hd)
   have key:=gf.list (w:=w) (I:=G.I) es ((ds.take b).drop a) zR (o'+a*es) (cap-a) ((vals.take (b*es)).drop (a*es)) bp ((hc.take _).drop _)
    (fun d hd=>JF d (I3 hd)) (by
      rw[zL JF,Cz hu];exact(hr.take _).drop _) (by rw[hlen];omega)
   rw[hlen]at key;exact .p _ _ key
theorem aji (U:bd C fid G H w)(aU:fK C fid vars G w ah ρ){t:TypeId}{x:Operand}{lo hi mx:Option Operand}(ho:o.op=.slice t x lo hi mx)(hc:C.c2 vars pos o.op=some dv)(he:step ah H low dv=some (v,H',low')):
  df C fid G H w low ((execOp ρ o).run C.P w) v H' low':=by
 rw[ho]at hc
 have ct:(execOp ρ o).run C.P w=((Instr.sliceAt t (ρ x) (lo.map ρ) (hi.map ρ) (mx.map ρ)).run C.P w).andThen fun z w'=>.ok (.value z) w':=by
  unfold execOp;rw[ho];simp only[Sem.run_bind];rfl
 simp only[Ctx.c2]at hc;split at hc
 ·rename_i cO x9 tx hd h2 hR pO sB
  simp only[aD]at hc;subst hc;have af:=aU x cO h2;simp only[step]at he;split at he
  ·rename_i s ad
   split at he
   ·rename_i a b al hb
    split at he
    ·rename_i hle
     simp only[aD,bH]at he;obtain⟨rfl,rfl,rfl⟩:=he;rw[ad]at af
     obtain rfl:mx=none:=by
      cases mx with
      |none=>rfl
      |some y=>simp[Ctx.qy]at sB
     have hB:=E5 (C:=C) (WJ:=false) (cap:=s.length) aU hR pO al hb hle.1 hle.2 (aN _);refine .same U (x:=.string ⟨⟨(s.take b).drop a⟩⟩) ?_ (.p _ _ (.str _));rw[ct,aje hd,af.oH];unfold Instr.slice;have ajj:(⟨⟨s⟩⟩:ByteArray).size=s.length:=rfl;simp only[Sem.run_bind,run_underlying hd,Result.andThen_ok,zv,Option.isSome_none,fV,if_false,ajj,hB,Sem.run_pure,ajf]
    ·cases he
   ·cases he
  ·cases he
 ·rename_i e cO x9 tx JG hd h2 hR pO sB
  split at hc
  ·rename_i n hn
   split at hc
   ·cases hc
   ·rename_i nw
    simp only[aD]at hc;subst hc;have af:=aU x cO h2;have nT:=zQ (C:=C) hn
    have ajk:tx.isNone=true->JG.isSome=true->False:=by
     intro h1 h2;simp[h1,h2]at nw
    have OP:∀{q:Option ai},C.qy vars mx=some q->q=none->mx=none:=by
     intro q h1 h2;cases mx with
     |none=>rfl
     |some y=>simp[Ctx.qy,h2]at h1
    have OQ:∀{m:ai},JG=some m->tx≠none:=by
     rintro m rfl rfl;exact ajk rfl rfl
    have WL:∀{cap:Nat},0<=cap->fe ah 0 x9=some 0->fe ah 0 tx=some 0->fe ah 0 JG=some 0->(Instr.sliceBounds true 0 0 (lo.map ρ) (hi.map ρ) (mx.map ρ)).run C.P w=.ok (0,0,0) w:=by
     intro _ _ al hb hm;cases bu:JG with
     |none=>
      rw[bu]at sB;rw[OP sB rfl];exact E5 (C:=C) aU hR pO al hb (aN _) (aN _) (aN _)
     |some m=>
      rw[bu]at sB hm;exact OO (C:=C) aU hR pO sB al hb (OQ bu) (aN _) hm
    simp only[step]at he;split at he
    ·rename_i ad
     split at he
     ·rename_i al hb hm
      simp only[aD,bH]at he;obtain⟨rfl,rfl,rfl⟩:=he;rw[ad]at af;refine .same U (x:=.slice none 0 0) ?_ (.p _ _ .cu);rw[ct,zP hd,af.jM];unfold Instr.slice;simp only[Sem.run_bind,run_underlying hd,Result.andThen_ok,WL (cap:=0) (cN _) al hb hm,nT,Sem.run_pure];rfl
     ·cases he
    ·rename_i ad
     split at he
     ·rename_i al hb hm
      simp only[aD,bH]at he;obtain⟨rfl,rfl,rfl⟩:=he;rw[ad]at af;obtain⟨dh,hx⟩:=af.sz;refine .same U (x:=.slice (some dh) 0 0) ?_ (.p _ _ (.emp _));rw[ct,zP hd,hx];unfold Instr.slice;simp only[Sem.run_bind,run_underlying hd,Result.andThen_ok,WL (cap:=0) (cN _) al hb hm,nT,Sem.run_pure];rfl
     ·cases he
    ·rename_i bV ds ad
     split at he
     ·rename_i a b al hb
      split at he
      ·rename_i hle
       obtain⟨kA,hC,rfl⟩:=hle;rw[ad]at af;obtain⟨dh,cap,hx,ev,fC⟩:=ajg af kA hC;split at he
       ·simp only[aD,bH]at he
        obtain⟨rfl,rfl,rfl⟩:=he;obtain rfl:=OP sB rfl;refine .same U ?_ fC;rw[ct,zP hd,hx];unfold Instr.slice;simp only[Sem.run_bind,run_underlying hd,Result.andThen_ok,zv,E5 (C:=C) aU hR pO al hb kA hC ev,nT,Sem.run_pure];rfl
       ·rename_i m
        split at he
        ·rename_i hm
         obtain⟨gn,rfl⟩:=hm;simp only[aD,bH]at he;obtain⟨rfl,rfl,rfl⟩:=he;refine .same U (x:=.slice (some dh) 0 0) ?_ (.p _ _ (.emp _));rw[ct,zP hd,hx];unfold Instr.slice;simp only[Sem.run_bind,run_underlying hd,Result.andThen_ok,OO (C:=C) aU hR pO sB al hb (OQ rfl) kA gn,nT,Sem.run_pure];rfl
        ·cases he
      ·cases he
     ·cases he
    ·rename_i l bV off len tag ad
     split at he
     ·rename_i a b al hb
      split at he
      ·rename_i hle
       obtain⟨kA,hC,rfl⟩:=hle;rw[ad]at af;obtain⟨h0,dh,cU,cap,cC,qB,iy,hx⟩:=af.oI;split at he
       ·split at he
        ·rename_i fu ds fz hl
         split at he
         ·rename_i eB
          obtain⟨gg,rfl⟩:=eB;obtain rfl:=OP sB rfl;obtain⟨aY,eI,hr⟩:=U.obj l h0 cC;rw[hl]at eI;cases eI;obtain⟨rfl,rfl,fJ,oM⟩:=iy (hr.1.trans gg);split at he
          ·rename_i aG
           simp only[aD,bH]at he;obtain⟨rfl,rfl,rfl⟩:=he;refine .same U (x:=.slice (some ⟨h0.b,(off+a)*fu,none⟩) (b-a) (cap-a)) ?_ (.cB l fu (off+a) (b-a) tag h0 _ _ _ cC qB (fun _=>⟨rfl,rfl,?_,by omega⟩))
           ·rw[ct,zP hd,hx]
            unfold Instr.slice;simp only[Sem.run_bind,run_underlying hd,Result.andThen_ok,zv,E5 (C:=C) aU hR pO al hb kA hC oM,nT,Sem.run_pure];rw[if_neg (by omega),si,Addr.add_lit,vK]
           ·have:off+a+(cap-a)=off+cap:=by omega
            rw[this];exact fJ
          ·rename_i aG
           simp only[aD,bH]at he;obtain⟨rfl,rfl,rfl⟩:=he;obtain rfl:a=b:=by omega
           have key:∀(q:Addr),bw fid G w (.list fu []) (.slice (some q) (a-a) (cap-a)):=fun q=>by rw[Nat.sub_self];exact .p _ _ (.vV _ _ _)
           refine .same U (x:=.slice (if cap=a then some ⟨h0.b,off*fu,none⟩else some (Addr.add ⟨h0.b,off*fu,none⟩ (a*fu))) (a-a) (cap-a)) ?_ (by split<;>exact key _);rw[ct,zP hd,hx];unfold Instr.slice;simp only[Sem.run_bind,run_underlying hd,Result.andThen_ok,zv,E5 (C:=C) aU hR pO al hb kA hC oM,nT,Sem.run_pure];rfl
         ·cases he
        ·cases he
       ·rename_i m
        split at he
        ·rename_i hm
         obtain⟨gn,rfl⟩:=hm;simp only[aD,bH]at he;obtain⟨rfl,rfl,rfl⟩:=he;refine .same U (x:=.slice (some dh) 0 0) ?_ (.p _ _ (.emp _));rw[ct,zP hd,hx];unfold Instr.slice;simp only[Sem.run_bind,run_underlying hd,Result.andThen_ok,OO (C:=C) aU hR pO sB al hb (OQ rfl) kA gn,nT,Sem.run_pure];rfl
        ·cases he
      ·cases he
     ·cases he
    ·cases he
  ·cases hc
 ·cases hc
end Go.Abs
namespace Go.Abs
open Go
variable{C:Ctx}{fid:Nat->Nat}{w w':World}{G G':cg}{H:Heap}
variable{vars:List Nat}{ah:ai->V}{ρ:Operand->Value}{low low':Nat}{v:V}{H':Heap}{pos:String}{dv:cX}{o:Oper}
theorem dp.split:∀{vs us:List V} {dk:List Value} {I:Nat->Prop},dp w I (vs++us) dk->∃xs cQ,dk=xs++cQ/\dp w I vs xs/\dp w I us cQ
 |[],us,dk,_,h=>⟨[],dk,rfl,.nil,h⟩
 |v::vs,us,_,_,.cons _ x _ xs h hs=>by
  obtain⟨aX,aQ,rfl,h1,h2⟩:=dp.split (vs:=vs) hs;exact⟨x::aX,aQ,rfl,.cons v x vs aX h h1,h2⟩
theorem ajl (U:bd C fid G H w)(aU:fK C fid vars G w ah ρ){t:TypeId}{x i:Operand}(ho:o.op=.indexAddr t x i)(hc:C.c2 vars pos o.op=some dv)(he:step ah H low dv=some (v,H',low')):
  df C fid G H w low ((execOp ρ o).run C.P w) v H' low':=by
 rw[ho]at hc;simp only[Ctx.c2]at hc;split at hc
 ·rename_i e cO kb hd h2 au
  split at hc
  ·rename_i n hn
   split at hc
   ·cases hc
   ·simp only[aD]at hc;subst hc
    have nT:=zQ (C:=C) hn;have hx:=aU x cO h2;have hi:=aU i kb au;simp only[step]at he;split at he
    ·rename_i j ajm
     obtain⟨k,m,em,hm,ajn⟩:=OE ajm;rw[em]at hi
     have ct:∀dh len cap,ρ x=.slice (some dh) len cap->j<len->(execOp ρ o).run C.P w=.ok (.value (.pointer (some (dh.add (j*n))))) w:=by
      intro dh len cap dS aG;have eB:0<=m/\m<(len:Int):=by omega
      unfold execOp;rw[ho];simp only[dS,hi.ku,Instr.indexAt,asIntOf,Sem.run_bind,Sem.run_pure,Result.andThen_ok,run_underlying hd,eB,and_self,if_true,nT,ajn]
     split at he
     ·rename_i bV ds ad
      split at he
      ·rename_i fc
       subst fc;obtain⟨d,E7,he⟩:=cD.1 he;simp only[bH]at he;obtain⟨rfl,rfl,rfl⟩:=he;rw[ad]at hx;obtain⟨dh,cap,dS,ev,bu⟩:=hx.x8;obtain⟨aG,ajo⟩:=eY.1 E7;rcases bu with rfl|⟨b,o',vals,rfl,bp,hcell,hu,hr⟩
       ·simp at aG
       ·refine .same U (ct _ _ _ dS aG) ?_
        rw[Addr.add_lit];have h2:ds.drop j=d::ds.drop (j+1):=by rw[<-ajo];exact qo aG
        have au:=hr.drop (j*bV);rw[<-zL hu,h2,lH]at au;obtain⟨xs,cQ,E8,uT,-⟩:=au.split;have iN:=hcell.drop (j*bV);rw[E8]at iN
        have ajp:iM w b (o'+j*bV) xs:=fun a c WM=>iN a c (by
         rw[fY (by
          rcases gD a xs.length with q|q
          ·exact q
          ·simp[nP q]at WM)];exact WM)
        exact .dz _ 0 b (o'+j*bV) xs bp ajp uT
      ·cases he
     ·rename_i l bV off len tag ad
      split at he
      ·rename_i fu ds fz hl
       split at he
       ·rename_i eB
        obtain⟨rfl,rfl,gg,oN,qE⟩:=eB;simp only[aD,bH]at he;obtain⟨rfl,rfl,rfl⟩:=he;rw[ad]at hx;obtain⟨h0,dh,cU,cap,cC,qB,iy,dS⟩:=hx.oI;obtain⟨aY,eI,hr⟩:=U.obj l h0 cC;rw[hl]at eI;cases eI;obtain⟨rfl,rfl,fJ,oM⟩:=iy (hr.1.trans gg);refine .same U (ct _ _ _ dS oN) (.hz l _ (off+j) 0 tag h0 _ cC qB (fun _=> ?_));rw[Addr.add_lit,zw,vK]
       ·cases he
      ·cases he
     ·cases he
    ·cases he
  ·cases hc
 ·cases hc
theorem wk{b:Builtin}{args:Array Operand}{ts:Array TypeId}(ho:o.op=.call {callee:=.builtin b,args,argTypes:=ts}):
  (execOp ρ o).run C.P w=(builtin b ts o.type (args.map fun| .const _=>true| _=>false) (args.map ρ)).run C.P w:=by
 unfold execOp;rw[ho];simp only[resolve,invoke,Sem.run_bind,Sem.run_pure,Result.andThen_ok];rfl
theorem WN (U:bd C fid G H w)(aU:fK C fid vars G w ah ρ){b:Builtin}{x y:Operand}{args:Array Operand}{ts:Array TypeId}(ho:o.op=.call {callee:=.builtin b,args,argTypes:=ts})
  (al:args= #[x,y]) {mx:Bool} (hb:b=if mx then .max else .min) {cO lK:ai} (h1:C.cl vars x=some cO) (h2:C.cl vars y=some lK) (he:step ah H low (.vM mx cO lK)=some (v,H',low')):
  df C fid G H w low ((execOp ρ o).run C.P w) v H' low':=by
 subst al;have hx:=aU x cO h1;have hy:=aU y lK h2;simp only[step]at he;split at he
 ·rename_i k a bJ eN ad e2
  split at he
  ·rename_i hk
   subst hk;simp only[aD,bH]at he;obtain⟨rfl,rfl,rfl⟩:=he;rw[ad]at hx;rw[e2]at hy;refine .same U (x:=.int k (if mx then max a eN else min a eN)) ?_ (.p _ _ (.int _ _));rw[wk ho];subst hb;cases mx
   ·have hm:(if eN<a then eN else a)=min a eN:=by
     rw[Int.min_def];split<;>split<;>omega
    simp[builtin,Builtin.min_,Builtin.min2,hx.ku,hy.ku,hm]
   ·have hm:(if a<eN then eN else a)=max a eN:=by
     rw[Int.max_def];split<;>split<;>omega
    simp[builtin,Builtin.max_,Builtin.max2,hx.ku,hy.ku,hm]
  ·cases he
 ·cases he
theorem OR (U:bd C fid G H w)(aU:fK C fid vars G w ah ρ){x:Operand}{t:TypeId}{args:Array Operand}{ts:Array TypeId}(ho:o.op=.call {callee:=.builtin .len,args,argTypes:=ts})
  (al:args= #[x]) (ht:ts= #[t]) {cO:ai} (h1:C.cl vars x=some cO) {kind:Nat} (hk:match kind with|0=>C.P.underlying t=some .string|1=>∃e,C.P.underlying t=some (.slice e)| _=>∃k e,C.P.underlying t=some (.map k e))
  (he:step ah H low (.len kind cO)=some (v,H',low')):df C fid G H w low ((execOp ρ o).run C.P w) v H' low':=by
 subst al;subst ht;have hx:=aU x cO h1
 have ct:∀(n:Nat),(Builtin.len_ #[t] o.type #[ρ x]).run C.P w=.ok (goInt n) w->df C fid G H w low ((execOp ρ o).run C.P w) (.int .i64 n) H low:=by
  intro n hn;refine .same U (x:=.int .i64 n) ?_ (.p _ _ (.int _ _));rw[wk ho];simp only[builtin,Sem.run_bind];have e:Array.map ρ #[x]= #[ρ x]:=by simp
  rw[e,hn];rfl
 simp only[step]at he;split at he
 ·rename_i s ad
  simp only[aD,bH]at he;obtain⟨rfl,rfl,rfl⟩:=he;rw[ad]at hx;refine ct s.length ?_;have hk:C.P.underlying t=some .string:=hk;simp only[Builtin.len_,hx.oH,Sem.run_bind,run_underlying hk,Result.andThen_ok,tg,nO,Sem.run_pure];rfl
 ·rename_i ad
  simp only[aD,bH]at he;obtain⟨rfl,rfl,rfl⟩:=he;rw[ad]at hx;obtain⟨e,hk⟩:∃e,C.P.underlying t=some (.slice e):=hk;refine ct 0 ?_;simp only[Builtin.len_,hx.jM,Sem.run_bind,run_underlying hk,Result.andThen_ok,tg,nO,Sem.run_pure]
 ·rename_i ad
  simp only[aD,bH]at he;obtain⟨rfl,rfl,rfl⟩:=he;rw[ad]at hx;obtain⟨e,hk⟩:∃e,C.P.underlying t=some (.slice e):=hk;obtain⟨dh,dS⟩:=hx.sz;refine ct 0 ?_;simp only[Builtin.len_,dS,Sem.run_bind,run_underlying hk,Result.andThen_ok,tg,nO,Sem.run_pure]
 ·rename_i es ds ad
  simp only[aD,bH]at he;obtain⟨rfl,rfl,rfl⟩:=he;rw[ad]at hx;obtain⟨e,hk⟩:∃e,C.P.underlying t=some (.slice e):=hk;obtain⟨dh,cap,dS,-,-⟩:=hx.x8;refine ct ds.length ?_;simp only[Builtin.len_,dS,Sem.run_bind,run_underlying hk,Result.andThen_ok,tg,nO,Sem.run_pure]
 ·rename_i l es off len tag ad
  obtain⟨e,hk⟩:∃e,C.P.underlying t=some (.slice e):=hk;split at he
  ·rename_i bV ds fz hl
   split at he
   ·rename_i eB
    simp only[aD,bH]at he;obtain⟨rfl,rfl,rfl⟩:=he;rw[ad]at hx;obtain⟨h0,dh,cU,cap,cC,qB,iy,dS⟩:=hx.oI;obtain⟨aY,eI,hr⟩:=U.obj l h0 cC;rw[hl]at eI;cases eI;obtain⟨rfl,rfl,fJ,oM⟩:=iy (hr.1.trans eB.2);refine ct cU ?_;simp only[Builtin.len_,dS,Sem.run_bind,run_underlying hk,Result.andThen_ok,tg,nO,Sem.run_pure]
   ·cases he
  ·rename_i r hl
   split at he
   ·rename_i eB
    simp only[aD,bH]at he;obtain⟨rfl,rfl,rfl⟩:=he;rw[ad]at hx;obtain⟨h0,dh,cU,cap,cC,qB,iy,dS⟩:=hx.oI;obtain⟨aY,eI,hr⟩:=U.obj l h0 cC;rw[hl]at eI;cases eI;obtain⟨rfl,rfl,fJ,oM⟩:=iy (hr.2.1.trans eB);refine ct cU ?_;simp only[Builtin.len_,dS,Sem.run_bind,run_underlying hk,Result.andThen_ok,tg,nO,Sem.run_pure]
   ·cases he
  ·cases he
 ·rename_i ad
  simp only[aD,bH]at he;obtain⟨rfl,rfl,rfl⟩:=he;rw[ad]at hx;obtain⟨k,e,hk⟩:∃k e,C.P.underlying t=some (.map k e):=hk;refine ct 0 ?_;simp only[Builtin.len_,hx.OG,Sem.run_bind,run_underlying hk,Result.andThen_ok,tg,nO,Sem.run_pure];rfl
 ·rename_i l ad
  obtain⟨k,e,hk⟩:∃k e,C.P.underlying t=some (.map k e):=hk;split at he
  ·rename_i bz hl
   simp only[aD,bH]at he;obtain⟨rfl,rfl,rfl⟩:=he;rw[ad]at hx;obtain⟨h0,cC,-,dS⟩:=hx.mapInv;obtain⟨aY,eI,hr⟩:=U.obj l h0 cC;rw[hl]at eI;cases eI;obtain⟨-,-,es,bX,hm,ha,zS,-⟩:=hr;have hlen:=ha.length;simp only[gR,gY]at hlen;refine ct bz.length ?_;have bb:(getObj h0.b).run C.P w=.ok (.map es bX) w:=by simp[getObj,Sem.run,hm]
   simp only[Builtin.len_,dS,Sem.run_bind,run_underlying hk,Result.andThen_ok,tg,nO,bb,Sem.run_pure,hlen]
  ·cases he
 ·cases he
end Go.Abs
