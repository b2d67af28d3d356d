/- Texts of this claim, joined and written short by a program. -/
import Derived.Test.YtoimeckpnnkbpaaGreatDoorP02
import Derived.WalkLawsBesides
import Derived.Laws.StructEq
import Derived.Test.YtoimeckpnnkbpaaGreatDoorP00
set_option linter.unusedVariables false
set_option linter.unusedSimpArgs false
set_option linter.unusedSectionVars false
namespace Go.Abs
open Go
variable{C:Ctx}{fid:Nat->Nat}{w w':World}{G G':bX}{H:Heap}
variable{vars:List Nat}{ae:ag->V}{ρ:Operand->Value}{low low':Nat}{v:V}{H':Heap}{pos:String}{c8:cH}{o:Oper}
theorem RS (U:aZ C fid G H w)(aL:fh C fid vars G w ae ρ){x:Operand}(ho:o.op=.move x\/o.op=.assign x)(hc:C.cI vars pos o.op=some c8)(he:step ae H low c8=some (v,H',low')):
  dj C fid G H w low ((execOp ρ o).run C.P w) v H' low':=by
 have ux:(C.b3 vars x).map cH.mv=some c8:=by rcases ho with ho|ho<;>(rw[ho]at hc;exact hc)
 obtain⟨cv,hx,rfl⟩:=ct.1 ux;simp only[step,az,bt]at he;obtain⟨rfl,rfl,rfl⟩:=he;exact .same U (x:=ρ x) (by unfold execOp;rcases ho with ho|ho<;>rw[ho]<;>rfl) (aL x cv hx)
theorem acg (U:aZ C fid G H w)(aL:fh C fid vars G w ae ρ){c a b:Operand}(ho:o.op=.pick c a b)(hc:C.cI vars pos o.op=some c8)(he:step ae H low c8=some (v,H',low')):
  dj C fid G H w low ((execOp ρ o).run C.P w) v H' low':=by
 rw[ho]at hc;simp only[Ctx.cI]at hc;split at hc
 ·rename_i c' a7 eL h1 h2 ar
  simp only[az]at hc;subst hc;simp only[step]at he;obtain⟨t,ht,he⟩:=ct.1 he;simp only[bt]at he;obtain⟨rfl,rfl,rfl⟩:=he
  have kU:ae c'=.bool t:=by
   unfold kR at ht;split at ht
   ·simp only[az]at ht;subst ht;assumption
   ·cases ht
  have:=aL c c' h1;rw[kU]at this;have hb:=this.kz;refine .same U (x:=if t then ρ a else ρ b) (by unfold execOp;rw[ho];simp only[hb,asBool,Sem.run_bind,Sem.run_pure,Result.andThen_ok]) ?_;cases t
  ·exact aL b eL ar
  ·exact aL a a7 h2
 ·cases hc
theorem ach (U:aZ C fid G H w)(aL:fh C fid vars G w ae ρ){x:Operand}(ho:o.op=.nilCheck x)(hc:C.cI vars pos o.op=some c8)(he:step ae H low c8=some (v,H',low')):
  dj C fid G H w low ((execOp ρ o).run C.P w) v H' low':=by
 rw[ho]at hc;obtain⟨cv,hx,rfl⟩:=ct.1 hc;have ad:=aL x cv hx;simp only[step]at he;split at he
 ·rename_i l o' e
  simp only[az,bt]at he;obtain⟨rfl,rfl,rfl⟩:=he;rw[e]at ad;obtain⟨h0,hb,ht,dW⟩:=ad.n4;exact .same U (x:=ρ x) (by unfold execOp;rw[ho];simp only[dW];rfl) ad
 ·rename_i l es i f tag e
  simp only[az,bt]at he;obtain⟨rfl,rfl,rfl⟩:=he;rw[e]at ad;obtain⟨h0,a,hb,hle,ao,dW⟩:=ad.Cx;exact .same U (x:=ρ x) (by unfold execOp;rw[ho];simp only[dW];rfl) ad
 ·rename_i vs f e
  simp only[az,bt]at he;obtain⟨rfl,rfl,rfl⟩:=he;rw[e]at ad;obtain⟨b,o',vals,aW,hc,hr,dW⟩:=ad.KX;exact .same U (x:=ρ x) (by unfold execOp;rw[ho];simp only[dW];rfl) ad
 ·rename_i i a b e
  simp only[az,bt]at he;obtain⟨rfl,rfl,rfl⟩:=he;rw[e]at ad;obtain⟨xs,cR,ab,hc,dW⟩:=ad.Ak;exact .same U (x:=ρ x) (by unfold execOp;rw[ho];simp only[dW];rfl) ad
 ·cases he
theorem aci (U:aZ C fid G H w)(aL:fh C fid vars G w ae ρ){op:UnOp}{t:TypeId}{x:Operand}(ho:o.op=.unOp op t x)(hc:C.cI vars pos o.op=some c8)(he:step ae H low c8=some (v,H',low')):
  dj C fid G H w low ((execOp ρ o).run C.P w) v H' low':=by
 rw[ho]at hc;obtain⟨cv,hx,rfl⟩:=ct.1 hc;have ad:=aL x cv hx;simp only[step]at he;obtain⟨u,hu,he⟩:=ct.1 he;simp only[bt]at he;obtain⟨rfl,rfl,rfl⟩:=he;unfold kS at hu;split at hu
 ·rename_i k n e
  simp only[az]at hu;subst hu;rw[e]at ad;exact .same U (x:=.int k (k.wrap (0-n))) (by unfold execOp;rw[ho];simp only[ad.jE,Op.unary,Op.intArith,Sem.run_bind,Sem.run_pure,Result.andThen_ok]) (.p _ _ (.int _ _))
 ·rename_i b e
  simp only[az]at hu;subst hu;rw[e]at ad;exact .same U (x:=.bool !b) (by unfold execOp;rw[ho];simp only[ad.kz,Op.unary,Sem.run_bind,Sem.run_pure,Result.andThen_ok]) (.p _ _ (.bool _))
 ·cases hu
theorem acj (U:aZ C fid G H w)(aL:fh C fid vars G w ae ρ){s d:TypeId}{x:Operand}(ho:o.op=.convert s d x)(hnb:∀x,c8≠ .uf x)(hc:C.cI vars pos o.op=some c8)(he:step ae H low c8=some (v,H',low')):
  dj C fid G H w low ((execOp ρ o).run C.P w) v H' low':=by
 rw[ho]at hc;simp only[Ctx.cI]at hc;split at hc
 ·rename_i k0 k cv h1 h2 ar
  simp only[az]at hc;subst hc;have ad:=aL x cv ar;simp only[step]at he;split at he
  ·rename_i bp n e
   simp only[az,bt]at he;obtain⟨rfl,rfl,rfl⟩:=he;rw[e]at ad;exact .same U (x:=.int k (k.wrap n)) (by unfold execOp;rw[ho];simp only[ad.jE,convert,Sem.run_bind,run_underlying h1,run_underlying h2,Result.andThen_ok,Conv.intToInt,Sem.run_pure]) (.p _ _ (.int _ _))
  ·cases he
 ·split at hc
  ·simp only[az]at hc;exact absurd hc.symm (hnb _)
  ·cases hc
 ·cases hc
theorem ack (U:aZ C fid G H w)(aL:fh C fid vars G w ae ρ){t:TypeId}{x:Operand}(ho:o.op=.makeInterface t x)(hc:C.cI vars pos o.op=some c8)(he:step ae H low c8=some (v,H',low')):
  dj C fid G H w low ((execOp ρ o).run C.P w) v H' low':=by
 rw[ho]at hc;simp only[Ctx.cI]at hc;split at hc
 ·cases hc
 ·rename_i d cv bf h1 h2
  simp only[az]at hc;subst hc;have ad:=aL x cv h2;simp only[step]at he;split at he
  ·rename_i v1 H1 bI ab
   simp only[az,bt]at he;obtain⟨rfl,rfl,rfl⟩:=he;obtain⟨ay,f1,cq⟩:=Gc U ad ab;refine dj.Aj f1 (dj.same f1.rel (x:=.iface t (ρ x)) ?_ (.iface _ _ _ cq));unfold execOp;rw[ho];simp only[Instr.makeInterface,Sem.run_bind,run_underlying h1,Result.andThen_ok];cases d<;>first|rfl|(exfalso;exact bf _ h1)
  ·cases he
 ·cases hc
theorem Gg (aL:fh C fid vars G w ae ρ):∀{xs:List Operand} {K1:List ag},dH (C.b3 vars) xs=some K1->aY fid G w (K1.map ae) (xs.map ρ)
 |[],_,h=>by simp only[dH,az]at h;subst h;exact .nil
 |x::xs,_,h=>by
  simp only[dH]at h;split at h
  ·rename_i cv hx
   split at h
   ·rename_i K1 eQ
    simp only[az]at h;subst h;exact .cons _ _ _ _ (aL x cv hx) (Gg aL eQ)
   ·cases h
  ·cases h
theorem acm (bu:eZ C fid)(U:aZ C fid G H w)(aL:fh C fid vars G w ae ρ){f:Fn}{a b:Array Operand}(ho:o.op=.makeFunc f a b)(hc:C.cI vars pos o.op=some c8)(he:step ae H low c8=some (v,H',low')):
  dj C fid G H w low ((execOp ρ o).run C.P w) v H' low':=by
 rw[ho]at hc;cases f with
 |func f=>
  simp only[Ctx.cI]at hc;split at hc
  ·rename_i i a7 eL h1 h2 ar
   simp only[az]at hc;subst hc;simp only[step,az,bt]at he;obtain⟨rfl,rfl,rfl⟩:=he;refine .same U (x:=.func (.func f) (a.map ρ) (b.map ρ)) (by unfold execOp;rw[ho];rfl) ?_;have e:=bu.f f i h1;subst e;have:=a8.fn (fid:=fid) i _ _ _ _ (Gg aL h2) (Gg aL ar);have af:a.map ρ=⟨a.toList.map ρ⟩:=by rw[<-Array.toList_map]
   have e2:b.map ρ=⟨b.toList.map ρ⟩:=by rw[<-Array.toList_map]
   rw[af,e2];exact this
  ·cases hc
 | _=>simp[Ctx.cI]at hc
theorem acn (U:aZ C fid G H w)(aL:fh C fid vars G w ae ρ){x:Operand}{i:Nat}(ho:o.op=.extract x i)(hc:C.cI vars pos o.op=some c8)(he:step ae H low c8=some (v,H',low')):
  dj C fid G H w low ((execOp ρ o).run C.P w) v H' low':=by
 rw[ho]at hc;obtain⟨cv,hx,rfl⟩:=ct.1 hc;have ad:=aL x cv hx;simp only[step]at he;split at he
 ·rename_i vs e
  obtain⟨u,hu,he⟩:=ct.1 he;simp only[bt]at he;obtain⟨rfl,rfl,rfl⟩:=he;rw[e]at ad;obtain⟨vals,dW,hr⟩:=ad.KP;obtain⟨y,hy,fg⟩:=hr.get hu;exact .same U (x:=y) (by unfold execOp;rw[ho];simp only[dW,Instr.extract,tZ,hy,Sem.run_bind,Sem.run_pure,Result.andThen_ok]) fg
 ·cases he
theorem aco (U:aZ C fid G H w)(aL:fh C fid vars G w ae ρ){s:TypeId}{x:Operand}{f:Nat}(ho:o.op=.field s x f)(hc:C.cI vars pos o.op=some c8)(he:step ae H low c8=some (v,H',low')):
  dj C fid G H w low ((execOp ρ o).run C.P w) v H' low':=by
 rw[ho]at hc;simp only[Ctx.cI]at hc;split at hc
 ·rename_i fs cv h1 h2
  split at hc
  ·rename_i aR ar
   obtain⟨sh,aQ,rfl⟩:=ct.1 hc;have ad:=aL x cv h2;simp only[step]at he;split at he
   ·rename_i vs e
    obtain⟨u,hu,he⟩:=ct.1 he;simp only[bt]at he;obtain⟨rfl,rfl,rfl⟩:=he;rw[e]at ad;obtain⟨vals,dW,hr⟩:=ad.Ct;have cW:=hr.fY hu;rcases RL aQ with⟨n,rfl,ao,hs⟩|⟨rfl,ao⟩
    ·refine .same U (x:=.agg ⟨(vals.drop aR.offset).take n⟩) ?_ cW.2
     unfold execOp;rw[ho];simp only[dW,Instr.field,Sem.run_bind,run_underlying h1,Result.andThen_ok,ar,asAgg,Sem.run_pure,part,ao,hs,if_true];congr 3;apply Array.ext';simp
    ·obtain⟨y,hy,fg⟩:=cW
     refine .same U (x:=y) ?_ fg;unfold execOp;rw[ho];simp only[dW,Instr.field,Sem.run_bind,run_underlying h1,Result.andThen_ok,ar,asAgg,Sem.run_pure,part,ao,hY,if_false,tZ,hy]
   ·cases he
  ·cases hc
 ·cases hc
theorem acp (U:aZ C fid G H w)(aL:fh C fid vars G w ae ρ){s:TypeId}{x:Operand}{f:Nat}(ho:o.op=.fieldAddr s x f)(hc:C.cI vars pos o.op=some c8)(he:step ae H low c8=some (v,H',low')):
  dj C fid G H w low ((execOp ρ o).run C.P w) v H' low':=by
 rw[ho]at hc;simp only[Ctx.cI]at hc;split at hc
 ·rename_i fs cv h1 h2
  split at hc
  ·rename_i aR ar
   split at hc
   ·rename_i n aQ
    split at hc
    ·cases hc
    ·rename_i hn
     simp only[az]at hc;subst hc;have ad:=aL x cv h2
     have cr:∀a,ρ x=.pointer (some a)->(execOp ρ o).run C.P w=.ok (.value (.pointer (some (a.add aR.offset)))) w:=by
      intro a ao;simp only[Ctx.sizeOf,ct]at aQ;obtain⟨i,hi,rfl⟩:=aQ;unfold execOp;rw[ho];simp only[ao,Instr.fieldAt,Sem.run_bind,run_underlying h1,Result.andThen_ok,ar,Instr.sureAddr,Sem.run_pure,fieldPlace,sizeOf,run_typeInfo (P:=C.P) w hi,hn,if_false]
     simp only[step]at he;split at he
     ·rename_i l o' e
      simp only[az,bt]at he;obtain⟨rfl,rfl,rfl⟩:=he;rw[e]at ad;obtain⟨h0,hb,ht,dW⟩:=ad.n4;refine .same U (cr _ dW) ?_;rw[Addr.add_lit];exact .ptr l _ h0 hb ht
     ·rename_i l es i lR tag e
      simp only[az,bt]at he;obtain⟨rfl,rfl,rfl⟩:=he;rw[e]at ad;obtain⟨h0,a,hb,hle,ao,dW⟩:=ad.Cx;refine .same U (cr _ dW) (.gF l es i _ tag h0 _ hb hle (fun ht=> ?_));rw[ao ht,Addr.add_lit,pr]
     ·rename_i vs lR e
      simp only[az,bt]at he;obtain⟨rfl,rfl,rfl⟩:=he;rw[e]at ad;obtain⟨b,o',vals,aW,hc,hr,dW⟩:=ad.KX;refine .same U (cr _ dW) ?_;rw[Addr.add_lit,pr];exact .dn vs _ b o' vals aW hc hr
     ·cases he
   ·cases hc
  ·cases hc
 ·cases hc
theorem acq (U:aZ C fid G H w)(aL:fh C fid vars G w ae ρ){t:TypeId}{a:Operand}(ho:o.op=.load t a)(hc:C.cI vars pos o.op=some c8)(he:step ae H low c8=some (v,H',low')):
  dj C fid G H w low ((execOp ρ o).run C.P w) v H' low':=by
 rw[ho]at hc;simp only[Ctx.cI]at hc;split at hc
 ·rename_i sh cv h1 h2
  simp only[az]at hc;subst hc;simp only[step]at he;obtain⟨u,hu,he⟩:=ct.1 he;simp only[bt]at he;obtain⟨rfl,rfl,rfl⟩:=he;obtain⟨y,hy,fg⟩:=RM U h1 (aL a cv h2) hu;exact .same U (x:=y) (by unfold execOp;rw[ho];simp only[Sem.run_bind,hy,Result.andThen_ok,Sem.run_pure]) fg
 ·cases hc
theorem acr (U:aZ C fid G H w)(aL:fh C fid vars G w ae ρ){t:TypeId}{a x:Operand}(ho:o.op=.store t a x)(hc:C.cI vars pos o.op=some c8)(jZ:low<=H.length)(he:step ae H low c8=some (v,H',low')):
  dj C fid G H w low ((execOp ρ o).run C.P w) v H' low':=by
 rw[ho]at hc;simp only[Ctx.cI]at hc;split at hc
 ·rename_i n cv ij h1 h2 ar
  simp only[az]at hc;subst hc;simp only[step]at he;obtain⟨⟨H1,l⟩,hu,he⟩:=ct.1 he;simp only[bt]at he;obtain⟨rfl,rfl,rfl⟩:=he;obtain⟨aH,ay,cr,bA,af,hl,hlen⟩:=acb U h1 (aL a cv h2) (aL x ij ar) hu;exact⟨undef,aH,ay,.inr ⟨by unfold execOp;rw[ho];simp only[Sem.run_bind,cr,Result.andThen_ok,Sem.run_pure],rfl⟩,bA,fun m hm=>af.le (cV hm (qt _ _)) (aK _),.undef _,jU _ _,Nat.le_of_eq hlen.symm⟩
 ·cases hc
theorem U6{t:TypeId}{z:List V}{cs:List Value}(h:aY fid G w z cs):aY fid G w (C.mark t z) cs:=by
 unfold Ctx.mark;split
 ·cases C.OR==some t with
  |true=>cases h with|cons _ x _ xs _ hs=>exact .cons _ _ _ _ (.undef x) hs
  |false=>exact h
 ·exact h
theorem U7{t:TypeId}{z:List V}(bx:bS z=true){c:Array Value}{b:Nat}(hr:aY fid G w z c.toList)(hb:w'.heap[b]? =some (.cells c t (0,0))):Is C w' b (C.mark t z):=fun v ad=>by
 unfold Ctx.mark at ad;split at ad
 ·cases ht:C.OR==some t with
  |true=>
   refine⟨c,t,hb,eq_of_beq ht,.inl ?_⟩;rw[<-auF];generalize c.toList=l at hr;cases hr with
   |cons _ x _ xs h1 hs=>
    cases h1 with
    |p _ _ h=>cases h;rfl
  |false=>rw[ht]at ad;simp at ad
 ·rw[ad]at bx;simp[bS,ed]at bx
theorem ag2{vs:List V}(bx:bS vs=true){b:Nat}:Is C w b vs:=fun v ad=>by
 rw[ad]at bx;simp[bS,ed]at bx
theorem acs (U:aZ C fid G H w){t:TypeId}(ho:o.op=.alloc t)(hc:C.cI vars pos o.op=some c8)(he:step ae H low c8=some (v,H',low')):
  dj C fid G H w low ((execOp ρ o).run C.P w) v H' low':=by
 rw[ho]at hc;obtain⟨z,aT,rfl⟩:=ct.1 hc;simp only[step,az,bt]at he;obtain⟨rfl,rfl,rfl⟩:=he;unfold Ctx.zeroCells at aT;split at aT
 ·rename_i i hi
  split at aT
  ·rename_i cE An
   split at aT
   ·rename_i vs cS
    split at aT
    ·rename_i bx
     simp only[az]at aT;subst aT;refine .alloc U 0 0 (x:=.pointer (some ⟨w.heap.size,0,none⟩)) (aP:=.cells cE.cells t) ?_ ⟨⟨rfl,U7 (G:=G) (fid:=fid) (w:=w) bx (c7.oP (Ge _ cS)) (oQ _ _)⟩,rfl,cE.cells,t,oQ _ _,?_⟩ (.ptr _ _ ⟨w.heap.size,0,0,false⟩ (de _ _ _) rfl)
     ·unfold execOp;rw[ho]
      simp only[Instr.alloc,zeroValue,Sem.run_bind,run_typeInfo (P:=C.P) w hi,Result.andThen_ok,An,Sem.run_pure,newVar,newRow,run_newObj,World.alloc_eq]
     ·exact U6 (c7.oP (Ge _ cS))
    ·cases aT
   ·cases aT
  ·cases aT
 ·cases aT
theorem acu (U:aZ C fid G H w)(aL:fh C fid vars G w ae ρ){t:TypeId}{x:Operand}(ho:o.op=.box t x)(hc:C.cI vars pos o.op=some c8)(he:step ae H low c8=some (v,H',low')):
  dj C fid G H w low ((execOp ρ o).run C.P w) v H' low':=by
 rw[ho]at hc;obtain⟨cv,hx,rfl⟩:=ct.1 hc;simp only[step]at he;split at he
 ·rename_i bx
  simp only[az,bt]at he;obtain⟨rfl,rfl,rfl⟩:=he;have ad:=aL x cv hx;refine .alloc U 0 0 (x:=.pointer (some ⟨w.heap.size,0,none⟩)) (aP:=.cells (ρ x).cells t) ?_ ⟨⟨rfl,ag2 bx⟩,rfl,(ρ x).cells,t,oQ _ _,?_⟩ (.ptr _ _ ⟨w.heap.size,0,0,false⟩ (de _ _ _) rfl)
  ·unfold execOp;rw[ho]
   simp only[Instr.box,Sem.run_bind,Sem.run_pure,Result.andThen_ok,newVar,newRow,run_newObj,World.alloc_eq]
  ·exact(Al ad bx).1.ext U (Ext.push U _ 0 0 0)
 ·cases he
theorem acv (U:aZ C fid G H w){t:TypeId}{r:Option Operand}(ho:o.op=.makeMap t r)(hc:C.cI vars pos o.op=some c8)(he:step ae H low c8=some (v,H',low')):
  dj C fid G H w low ((execOp ρ o).run C.P w) v H' low':=by
 rw[ho]at hc;cases r with
 |some _=>simp[Ctx.cI]at hc
 |none=>
  simp only[Ctx.cI,az]at hc;subst hc;simp only[step,az,bt]at he;obtain⟨rfl,rfl,rfl⟩:=he;refine .alloc U 0 0 (x:=.map (some w.heap.size)) (aP:=.map #[] 0) ?_ ⟨rfl,rfl,#[],0,oQ _ _,.nil,.nil,⟨fun x hx=>by simp at hx,by simp⟩⟩ (.map _ ⟨w.heap.size,0,0,false⟩ (de _ _ _) rfl);unfold execOp;rw[ho];simp only[Instr.makeMap,Sem.run_bind,Sem.run_pure,Result.andThen_ok,run_newObj,World.alloc_eq,xF]
theorem K2{u:V}{n:Nat}(h:kr u=some n):∃k m,u=.int k m/\0<=m/\m.toNat=n:=by
 unfold kr at h;split at h
 ·split at h
  ·simp only[az]at h
   exact⟨_,_,rfl,by assumption,h⟩
  ·cases h
 ·cases h
theorem acw (U:aZ C fid G H w)(aL:fh C fid vars G w ae ρ){t:TypeId}{x i:Operand}(ho:o.op=.index t x i)(hc:C.cI vars pos o.op=some c8)(he:step ae H low c8=some (v,H',low')):
  dj C fid G H w low ((execOp ρ o).run C.P w) v H' low':=by
 rw[ho]at hc;simp only[Ctx.cI]at hc;split at hc
 ·rename_i cv ij h1 h2 ar
  simp only[az]at hc;subst hc;simp only[step]at he;split at he
  ·rename_i s n af e2
   obtain⟨c,uy,he⟩:=ct.1 he;simp only[bt]at he;obtain⟨rfl,rfl,rfl⟩:=he;obtain⟨k,m,bT,hm,hn⟩:=K2 e2;have hx:=aL x cv h2;have hi:=aL i ij ar;rw[af]at hx;rw[bT]at hi;refine .same U (x:=.int .u8 c.toNat) ?_ (.p _ _ (.int _ _));unfold execOp;rw[ho]
   have qC:(⟨⟨s⟩⟩:ByteArray)[m.toNat]? =some c:=by
    rw[hn];obtain⟨aX,bc⟩:=pY.1 uy;have:n<(⟨⟨s⟩⟩:ByteArray).size:=aX;rw[getElem?_pos (c:=(⟨⟨s⟩⟩:ByteArray)) (i:=n) (h:=this)];congr 1
   simp only[hx.oS,hi.jE,Instr.index,asIntOf,Sem.run_bind,Sem.run_pure,Result.andThen_ok,run_underlying h1,hm,if_true,qC]
  ·cases he
 ·cases hc
end Go.Abs
namespace Go.Abs
open Go
variable{C:Ctx}{fid:Nat->Nat}{w w':World}{G G':bX}{H:Heap}
variable{vars:List Nat}{ae:ag->V}{ρ:Operand->Value}{low low':Nat}{v:V}{H':Heap}{pos:String}{c8:cH}{o:Oper}
theorem bytes_beq (s t:List UInt8):((⟨⟨s⟩⟩:ByteArray).toList==(⟨⟨t⟩⟩:ByteArray).toList)=(s==t):=by
 rw[ByteArray.toList_eq,ByteArray.toList_eq]
theorem acx{op:BinOp}{t:TypeId}{a b u:V}{x y:Value}(ao:a8 fid G w a x)(hb:a8 fid G w b y)(hu:dB op a b=some u):
  ∃z,(binOp op t x y).run C.P w=.ok z w/\a8 fid G w u z/\∀(wx uz:Operand),eqGuard op t wx uz x y=pure ():=by
 unfold dB at hu;split at hu
 ·rename_i k a7 bp eL
  split at hu
  ·rename_i hc
   simp only[az]at hu;subst hu;rw[ao.jE,hb.jE];refine⟨.int k (k.wrap (a7*2^eL.toNat)),?_,.p _ _ (.int _ _),fun _ _=>rfl⟩;simp only[binOp,Op.shift,Int.not_lt.2 hc.1,if_false,lP hc.2,Sem.run_pure]
  ·cases hu
 ·rename_i k a7 bp eL
  split at hu
  ·rename_i hc
   simp only[az]at hu;subst hu;rw[ao.jE,hb.jE];refine⟨.int k (a7/2^eL.toNat),?_,.p _ _ (.int _ _),fun _ _=>rfl⟩;have h2:(0:Int)<=2^eL.toNat:=Int.pow_nonneg (by decide);simp only[binOp,Op.shift,Int.not_lt.2 hc.1,if_false,lP hc.2,Sem.run_pure,Int.fdiv_eq_ediv_of_nonneg _ h2]
  ·cases hu
 ·rename_i k a7 bp eL fJ oT
  split at hu
  ·cases hu
  ·rename_i cW
   have cW:k=bp:=by simpa using cW
   subst cW;rw[ao.jE,hb.jE];have bj:∀(wx uz:Operand),eqGuard op t wx uz (.int k a7) (.int k eL)=pure ():=fun _ _=>by cases op<;>rfl
   cases op<;>dsimp only at hu<;>
    first
    |(cases hu;done)
    |(simp only[az]at hu;subst hu
      refine⟨_,?_,.p _ _ (.int _ _),bj⟩;simp only[binOp,ne_eq,not_true,if_false,Op.intArith,Op.intBits,Sem.run_pure];done)
    |(simp only[az]at hu;subst hu
      refine⟨_,?_,.p _ _ (.bool _),bj⟩;simp only[binOp,ne_eq,not_true,if_false,Op.intCmp,Sem.run_pure];done)
    |(split at hu
      ·cases hu
      ·rename_i aT
       simp only[az]at hu;subst hu;refine⟨_,?_,.p _ _ (.int _ _),bj⟩;simp only[binOp,ne_eq,not_true,if_false,Op.intDiv,aT,Sem.run_pure])
 ·rename_i a7 eL
  split at hu
  ·rename_i hc
   simp only[az]at hu;subst hu;rw[ao.oS,hb.oS];refine⟨.string ⟨⟨a7++eL⟩⟩,?_,.p _ _ (.str _),fun _ _=>rfl⟩
   have dJ:¬((((⟨⟨a7⟩⟩:ByteArray).size+(⟨⟨eL⟩⟩:ByteArray).size:Nat):Int)>IntKind.i64.max):=by
    rw[IntKind.max_i64];have af:(⟨⟨a7⟩⟩:ByteArray).size=a7.length:=rfl;have e2:(⟨⟨eL⟩⟩:ByteArray).size=eL.length:=rfl;rw[af,e2];omega
   have acy:(⟨⟨a7⟩⟩:ByteArray)++(⟨⟨eL⟩⟩:ByteArray)=⟨⟨a7++eL⟩⟩:=by
    apply ByteArray.ext;rw[ByteArray.data_append];simp
   simp only[binOp,Op.stringOp,dJ,if_false,acy,Sem.run_pure]
  ·cases hu
 ·rename_i a7 eL
  simp only[az]at hu;subst hu;rw[ao.oS,hb.oS];refine⟨.bool (a7==eL),?_,.p _ _ (.bool _),fun _ _=>rfl⟩;simp only[binOp,Op.stringOp,bytes_beq,Sem.run_pure]
 ·rename_i a7 eL
  simp only[az]at hu;subst hu;rw[ao.oS,hb.oS];refine⟨.bool (a7 != eL),?_,.p _ _ (.bool _),fun _ _=>rfl⟩;simp only[binOp,Op.stringOp,bytes_beq,Sem.run_pure,bne]
 ·cases hu
theorem a8.qD{x:Value}(h:a8 fid G w .jb x):x=.pointer none:=by cases h with|p _ _ h=>cases h;rfl
theorem a8.j0{x:Value}(h:a8 fid G w .cp x):x=.slice none 0 0:=by cases h with|p _ _ h=>cases h;rfl
theorem a8.rI{x:Value}(h:a8 fid G w .emp x):∃a,x=.slice (some a) 0 0:=by cases h with|p _ _ h=>cases h;exact⟨_,rfl⟩
theorem a8.uA{x:Value}(h:a8 fid G w .jV x):x=.nilFunc:=by cases h with|p _ _ h=>cases h;rfl
theorem a8.uB{x:Value}(h:a8 fid G w .ig x):x=.nilIface:=by cases h with|p _ _ h=>cases h;rfl
theorem a8.K3{x:Value}(h:a8 fid G w .iw x):x=.map none:=by cases h with|p _ _ h=>cases h;rfl
theorem a8.K4{x:Value}{t:Nat}{v:V}(h:a8 fid G w (.iface t v) x):∃y,x=.iface t y/\a8 fid G w v y:=by
 cases h with
 |p _ _ h=>cases h with|iface _ _ y h=>exact⟨y,rfl,.p _ _ h⟩
 |iface _ _ y h=>exact⟨y,rfl,h⟩
theorem a8.wy{x:Value}{es:Nat}{ds:List V}(h:a8 fid G w (.list es ds) x):
  ∃a cap,x=.slice (some a) ds.length cap/\ds.length<=cap/\(ds=[]\/∃b o vals,a=⟨b,o,none⟩/\G.I b/\iz w b o vals/\(∀d∈ds,(aE d).length=es)/\c7 w G.I (ds.flatMap aE) vals):=by
 cases h with
 |p _ _ h=>cases h with
  |ur _ a cap=>exact⟨a,cap,rfl,cx _,.inl rfl⟩
  |list _ _ b o cap vals aW hc hu hr hl=>exact⟨_,cap,rfl,hl,.inr ⟨b,o,vals,rfl,aW,hc,hu,hr⟩⟩
def kindOk:Nat->TypeDesc->Prop
 |0,d=>∃eY,d=.pointer eY
 |1,d=>∃eY,d=.slice eY
 |2,d=>∃p r b,d=.func p r b
 |3,d=>∃m,d=.interface m
 |4,d=>d=.bool
 | _,_=>False
theorem acz{t:TypeId}{d:TypeDesc}(hd:C.P.underlying t=some d){kind:Nat}{a b:V}{e:Bool}{x y:Value}(ao:a8 fid G w a x)(hb:a8 fid G w b y)(hu:oJ kind a b=some e)
  (cW:kindOk kind d):
  (Op.equal t x y).run C.P w=.ok e w:=by
 show(Op.equalIn (9999+1) t x y).run C.P w=.ok e w;generalize 9999=depth;unfold oJ at hu;split at hu
 ·simp only[az]at hu;subst hu
  obtain⟨eY,rfl⟩:=cW;rw[ao.qD,hb.qD];simp[Op.equalIn,run_underlying hd]
 ·simp only[az]at hu;subst hu
  obtain⟨eY,rfl⟩:=cW;obtain⟨h0,-,-,rfl⟩:=ao.n4;rw[hb.qD];simp[Op.equalIn,run_underlying hd]
 ·simp only[az]at hu;subst hu
  obtain⟨eY,rfl⟩:=cW;obtain⟨h0,-,-,rfl⟩:=hb.n4;rw[ao.qD];simp[Op.equalIn,run_underlying hd]
 ·simp only[az]at hu;subst hu
  obtain⟨eY,rfl⟩:=cW;rw[ao.j0,hb.j0];simp[Op.equalIn,run_underlying hd]
 ·simp only[az]at hu;subst hu
  obtain⟨eY,rfl⟩:=cW;obtain⟨_,rfl⟩:=ao.rI;rw[hb.j0];simp[Op.equalIn,run_underlying hd]
 ·simp only[az]at hu;subst hu
  obtain⟨eY,rfl⟩:=cW;obtain⟨_,_,rfl,-⟩:=ao.wy;rw[hb.j0];simp[Op.equalIn,run_underlying hd]
 ·simp only[az]at hu;subst hu
  obtain⟨eY,rfl⟩:=cW;obtain⟨_,_,_,_,-,-,-,rfl⟩:=ao.pA;rw[hb.j0];simp[Op.equalIn,run_underlying hd]
 ·simp only[az]at hu;subst hu
  obtain⟨p,r,eL,rfl⟩:=cW;rw[ao.uA,hb.uA];simp[Op.equalIn,run_underlying hd]
 ·simp only[az]at hu;subst hu
  obtain⟨p,r,eL,rfl⟩:=cW;obtain⟨_,_,-,-,rfl⟩:=ao.Ak;rw[hb.uA];simp[Op.equalIn,run_underlying hd]
 ·simp only[az]at hu;subst hu
  obtain⟨m,rfl⟩:=cW;rw[ao.uB,hb.uB];simp[Op.equalIn,run_underlying hd]
 ·simp only[az]at hu;subst hu
  obtain⟨m,rfl⟩:=cW;obtain⟨_,rfl,-⟩:=ao.K4;rw[hb.uB];simp[Op.equalIn,run_underlying hd]
 ·simp only[az]at hu;subst hu
  subst cW;rw[ao.kz,hb.kz];simp[Op.equalIn,run_underlying hd]
 ·cases hu
theorem acA{t:TypeId}{kind:Nat}{a b:V}{e:Bool}{x y:Value}(ao:a8 fid G w a x)(hb:a8 fid G w b y)(hu:oJ kind a b=some e)(neg:Bool)
  (bc:(Op.equal t x y).run C.P w=.ok e w):
  (binOp (if neg then .neq else .eql) t x y).run C.P w=.ok (.bool (if neg then !e else e)) w:=by
 have key:binOp (if neg then .neq else .eql) t x y=(do let q <-Op.equal t x y;pure (.bool (if neg then !q else q))):=by
  unfold oJ at hu;split at hu
  ·rw[ao.qD,hb.qD];cases neg<;>rfl
  ·obtain⟨h0,-,-,rfl⟩:=ao.n4;rw[hb.qD];cases neg<;>rfl
  ·obtain⟨h0,-,-,rfl⟩:=hb.n4;rw[ao.qD];cases neg<;>rfl
  ·rw[ao.j0,hb.j0];cases neg<;>rfl
  ·obtain⟨_,rfl⟩:=ao.rI;rw[hb.j0];cases neg<;>rfl
  ·obtain⟨_,_,rfl,-⟩:=ao.wy;rw[hb.j0];cases neg<;>rfl
  ·obtain⟨_,_,_,_,-,-,-,rfl⟩:=ao.pA;rw[hb.j0];cases neg<;>rfl
  ·rw[ao.uA,hb.uA];cases neg<;>rfl
  ·obtain⟨_,_,-,-,rfl⟩:=ao.Ak;rw[hb.uA];cases neg<;>rfl
  ·rw[ao.uB,hb.uB];cases neg<;>rfl
  ·obtain⟨_,rfl,-⟩:=ao.K4;rw[hb.uB];cases neg<;>rfl
  ·rw[ao.kz,hb.kz];cases neg<;>rfl
  ·cases hu
 rw[key,Sem.run_bind,bc];cases neg<;>rfl
theorem acB{op:BinOp}{t:TypeId}{kind:Nat}{a b:V}{e:Bool}{x y:Value}{wx uz:Operand}(ao:a8 fid G w a x)(hb:a8 fid G w b y)(hu:oJ kind a b=some e)
  (hc:kind=3->∃c,uz=.const c):eqGuard op t wx uz x y=pure ():=by
 unfold oJ at hu;split at hu
 ·rw[ao.qD,hb.qD];cases op<;>rfl
 ·obtain⟨h0,-,-,rfl⟩:=ao.n4;rw[hb.qD];cases op<;>rfl
 ·obtain⟨h0,-,-,rfl⟩:=hb.n4;rw[ao.qD];cases op<;>rfl
 ·rw[ao.j0,hb.j0];cases op<;>rfl
 ·obtain⟨_,rfl⟩:=ao.rI;rw[hb.j0];cases op<;>rfl
 ·obtain⟨_,_,rfl,-⟩:=ao.wy;rw[hb.j0];cases op<;>rfl
 ·obtain⟨_,_,_,_,-,-,-,rfl⟩:=ao.pA;rw[hb.j0];cases op<;>rfl
 ·rw[ao.uA,hb.uA];cases op<;>rfl
 ·obtain⟨_,_,-,-,rfl⟩:=ao.Ak;rw[hb.uA];cases op<;>rfl
 ·rw[ao.uB,hb.uB]
  obtain⟨c,rfl⟩:=hc rfl;unfold eqGuard;cases op<;>simp
 ·obtain⟨_,rfl,-⟩:=ao.K4;rw[hb.uB];cases op<;>rfl
 ·rw[ao.kz,hb.kz];cases op<;>rfl
 ·cases hu
theorem acC{y:Operand}{kX:ag}(h:C.b3 vars y=some kX)(hn:Ctx.F0 kX=true):∃c,y=.const c:=by
 cases y with
 |const c=>exact⟨c,rfl⟩
 |tmp t=>
  simp only[Ctx.b3,az]at h;subst h;split at hn<;>simp[Ctx.F0]at hn
 |func f=>
  simp only[Ctx.b3,ct]at h;obtain⟨_,-,rfl⟩:=h;simp[Ctx.F0]at hn
 |global g=>simp[Ctx.b3]at h
theorem RT{t:TypeId}{k:Nat}(cW:C.jd t=some k){a b:V}{x y:Value}{e:Bool}(ao:a8 fid G w a x)(hb:a8 fid G w b y)(he:ix k a b=some e)(d:Nat):
  (Op.equalIn (d+1) t x y).run C.P w=.ok e w:=by
 unfold Ctx.jd at cW;unfold ix at he;split at he
 ·split at he
  ·rename_i CA
   simp only[az]at he;subst he;subst CA;rw[ao.jE,hb.jE];split at cW<;>rename_i hd<;>simp at cW;exact run_equalIn_int w d t _ _ _ _ hd
  ·cases he
 ·simp only[az]at he;subst he
  rw[ao.oS,hb.oS];split at cW<;>rename_i hd<;>simp at cW;rw[run_equalIn_string w d t _ _ hd,bytes_beq]
 ·simp only[az]at he;subst he
  rw[ao.kz,hb.kz];split at cW<;>rename_i hd<;>simp at cW;exact run_equalIn_bool' w d t _ _ hd
 ·cases he
theorem RU{t:TypeId}{k:Nat}(cW:C.jd t=some k)(w:World):(isAgg t).run C.P w=.ok false w:=by
 unfold Ctx.jd at cW;unfold isAgg;split at cW<;>rename_i hd<;>first|(cases cW;done)|(rw[Sem.run_bind,run_underlying hd];rfl)
theorem RV{xs cR:List V}{n5 n6:List Value}(hx:aY fid G w xs n5)(hy:aY fid G w cR n6)(d:Nat):∀(fs:List Field) (i:Nat) (ks:List Nat) (e:Bool),C.Cl i fs=some ks->
  jW ks (xs.drop i) (cR.drop i)=some e->(Op.eqFields (d+1) ⟨n5⟩ ⟨n6⟩ fs).run C.P w=.ok e w
 |[],i,ks,e,cW,he=>by
  simp only[Ctx.Cl,az]at cW;subst cW;unfold jW at he;split at he
  ·simp only[az]at he;subst he;rfl
  ·simp_all
  ·cases he
 |f::fs,i,ks,e,cW,he=>by
  simp only[Ctx.Cl]at cW;split at cW
  ·rename_i k Ao
   split at cW
   ·rename_i hc
    simp only[b8,bne_iff_ne,ne_eq,beq_iff_eq]at hc;obtain⟨rJ,ef,rfl⟩:=ct.1 cW;cases rK:xs.drop i with
    |nil=>rw[rK]at he;simp[jW]at he
    |cons a K5=>
     cases uC:cR.drop i with
     |nil=>rw[rK,uC]at he;simp[jW]at he
     |cons b K6=>
      rw[rK,uC]at he;simp only[jW]at he;have cv:xs[i]? =some a:=by have:=congrArg (·[0]?) rK;simpa using this
      have kX:cR[i]? =some b:=by have:=congrArg (·[0]?) uC;simpa using this
      have K7:xs.drop (i+1)=K5:=by have:=congrArg (List.drop 1) rK;simpa[sR]using this
      have K8:cR.drop (i+1)=K6:=by have:=congrArg (List.drop 1) uC;simpa[sR]using this
      obtain⟨ek,n7,K9⟩:=hx.get cv;obtain⟨La,Lb,Lc⟩:=hy.get kX;split at he
      ·rename_i af lY
       split at he
       ·rename_i e2 mX
        simp only[az]at he;subst he;rw[<-K7,<-K8]at mX;have ih:=RV hx hy d fs (i+1) rJ e2 ef mX
        have hp:∀(l:List Value) (z:Value),l[i]? =some z->(part f.type ⟨l⟩ f.offset).run C.P w=.ok z w:=by
         intro l z aT;unfold part;simp only[Sem.run_bind,RU Ao,Result.andThen_ok,hY,if_false,hc.2,tZ,aT,Sem.run_pure]
        simp only[Op.eqFields,hc.1,ne_eq,not_false_eq_true,if_true,Sem.run_bind,hp n5 ek n7,hp n6 La Lb,Result.andThen_ok,RT Ao K9 Lc lY d,Sem.run_ite,Sem.run_pure,ih];cases af<;>simp
       ·cases he
      ·cases he
   ·cases cW
  ·cases cW
theorem RW:∀(pB xY:List Nat) (x y:List V) {e:Bool},jW (pB++xY) x y=some e->
  ∃af e2,jW pB (x.take pB.length) (y.take pB.length)=some af/\jW xY (x.drop pB.length) (y.drop pB.length)=some e2/\e=(af&&e2)
 |[],xY,x,y,e,h=>⟨true,e,by simp[jW],by simpa using h,by simp⟩
 |k::ks,xY,[],y,e,h=>by simp[jW]at h
 |k::ks,xY,_::_,[],e,h=>by simp[jW]at h
 |k::ks,xY,a::x,b::y,e,h=>by
  simp only[jz,jW]at h;split at h
  ·rename_i dI h0
   split at h
   ·rename_i uD qE
    obtain⟨af,e2,q1,aS,rfl⟩:=RW ks xY x y qE;simp only[az]at h;exact⟨dI&&af,e2,by simp[jW,h0,q1],by simpa using aS,by rw[<-h,Cf]⟩
   ·cases h
  ·cases h
theorem Ld{xs cR:List V}{n5 n6:List Value}(hx:aY fid G w xs n5)(hy:aY fid G w cR n6)(d:Nat):∀(fs:List Field) (i:Nat) (ks:List Nat) (e:Bool),C.Ab i fs=some ks->
  jW ks (xs.drop i) (cR.drop i)=some e->(Op.eqFields (d+2) ⟨n5⟩ ⟨n6⟩ fs).run C.P w=.ok e w
 |[],i,ks,e,cW,he=>by
  simp only[Ctx.Ab,az]at cW;subst cW;unfold jW at he;split at he
  ·simp only[az]at he;subst he;rfl
  ·simp_all
  ·cases he
 |f::fs,i,ks,e,cW,he=>by
  simp only[Ctx.Ab]at cW;split at cW
  ·rename_i k Ao
   split at cW
   ·rename_i hc
    simp only[b8,bne_iff_ne,ne_eq,beq_iff_eq]at hc;obtain⟨rJ,ef,rfl⟩:=ct.1 cW;cases rK:xs.drop i with
    |nil=>rw[rK]at he;simp[jW]at he
    |cons a K5=>
     cases uC:cR.drop i with
     |nil=>rw[rK,uC]at he;simp[jW]at he
     |cons b K6=>
      rw[rK,uC]at he;simp only[jW]at he;have cv:xs[i]? =some a:=by have:=congrArg (·[0]?) rK;simpa using this
      have kX:cR[i]? =some b:=by have:=congrArg (·[0]?) uC;simpa using this
      have K7:xs.drop (i+1)=K5:=by have:=congrArg (List.drop 1) rK;simpa[sR]using this
      have K8:cR.drop (i+1)=K6:=by have:=congrArg (List.drop 1) uC;simpa[sR]using this
      obtain⟨ek,n7,K9⟩:=hx.get cv;obtain⟨La,Lb,Lc⟩:=hy.get kX;split at he
      ·rename_i af lY
       split at he
       ·rename_i e2 mX
        simp only[az]at he;subst he;rw[<-K7,<-K8]at mX;have ih:=Ld hx hy d fs (i+1) rJ e2 ef mX
        have hp:∀(l:List Value) (z:Value),l[i]? =some z->(part f.type ⟨l⟩ f.offset).run C.P w=.ok z w:=by
         intro l z aT;unfold part;simp only[Sem.run_bind,RU Ao,Result.andThen_ok,hY,if_false,hc.2,tZ,aT,Sem.run_pure]
        simp only[Op.eqFields,hc.1,ne_eq,not_false_eq_true,if_true,Sem.run_bind,hp n5 ek n7,hp n6 La Lb,Result.andThen_ok,RT Ao K9 Lc lY (d+1),Sem.run_ite,Sem.run_pure,ih];cases af<;>simp
       ·cases he
      ·cases he
   ·cases cW
  ·rename_i Ao
   split at cW
   ·rename_i gs xZ
    split at cW
    ·rename_i pB acD
     split at cW
     ·rename_i hc
      simp only[b8,bne_iff_ne,ne_eq,beq_iff_eq,nV]at hc;obtain⟨⟨⟨dq,fb⟩,gG⟩,iC⟩:=hc;obtain⟨rJ,ef,rfl⟩:=ct.1 cW;obtain⟨af,e2,lY,mX,rfl⟩:=RW pB rJ _ _ he;rw[sR,sR]at mX;have ih:=Ld hx hy d fs (i+pB.length) rJ e2 ef mX;have Ap:C.P.fieldsOf f.type=gs:=by unfold Program.fieldsOf;rw[xZ]
      have hp:∀(l:List Value),(part f.type ⟨l⟩ f.offset).run C.P w=.ok (.agg ⟨(l.drop i).take pB.length⟩) w:=by
       intro l;have KQ:(isAgg f.type).run C.P w=.ok true w:=by unfold isAgg;rw[Sem.run_bind,run_underlying xZ];rfl
       unfold Ctx.sizeOf at iC;obtain⟨inf,acE,dJ⟩:=ct.1 iC;unfold part;simp only[Sem.run_bind,KQ,Result.andThen_ok,if_true,sizeOf,typeInfo,acE,run_program,Sem.run_pure,dJ,fb];congr 2;rw[<-Array.toList_inj];simp[List.take_drop,avO]
      have hin:(Op.equalIn (d+2) f.type (.agg ⟨(n5.drop i).take pB.length⟩) (.agg ⟨(n6.drop i).take pB.length⟩)).run C.P w=.ok af w:=by
       rw[run_equalIn_struct (P:=C.P) w (d+1) f.type _ _ (by rw[Ap];exact xZ) gG,Ap];exact RV ((hx.drop i).take _) ((hy.drop i).take _) d gs.toList 0 pB af acD (by simpa using lY)
      simp only[Op.eqFields,dq,ne_eq,not_false_eq_true,if_true,Sem.run_bind,hp n5,hp n6,Result.andThen_ok,hin,Sem.run_ite,Sem.run_pure,ih];cases af<;>simp
     ·cases cW
    ·cases cW
   ·cases cW
theorem acF{t:TypeId}{fs:Array Field}{ks:List Nat}(hd:C.P.underlying t=some (.struct fs))(hs:C.structEq t=some ks){xs cR:List V}{n5 n6:List Value}(hx:aY fid G w xs n5)(hy:aY fid G w cR n6)
  {e:Bool} (he:jW ks xs cR=some e) (neg:Bool) (wx uz:Operand):
  (do eqGuard (if neg then .neq else .eql) t wx uz (.agg ⟨n5⟩) (.agg ⟨n6⟩);binOp (if neg then .neq else .eql) t (.agg ⟨n5⟩) (.agg ⟨n6⟩)).run C.P w=.ok (.bool (if neg then !e else e)) w:=by
 unfold Ctx.structEq at hs;rw[hd]at hs;simp only at hs;split at hs
 ·rename_i hc
  simp only[b8,nV]at hc;have ab:C.P.fieldsOf t=fs:=by unfold Program.fieldsOf;rw[hd]
  have key:(Op.equalIn 10000 t (.agg ⟨n5⟩) (.agg ⟨n6⟩)).run C.P w=.ok e w:=by
   rw[run_equalIn_struct (P:=C.P) w 9999 t _ _ (by rw[ab];exact hd) hc.1,ab];exact Ld hx hy 9997 fs.toList 0 ks e hs (by simpa using he)
  rw[Sem.run_bind,run_eqGuard_agg w _ t wx uz _ _ hc.2];cases neg
  ·simp only[hY,if_false,Result.andThen_ok,run_eql_struct,key]
  ·simp only[if_true,Result.andThen_ok,run_neq_struct,key]
 ·cases hs
theorem acG (U:aZ C fid G H w)(aL:fh C fid vars G w ae ρ){CB:BinOp}{t eY:TypeId}{x y:Operand}(ho:o.op=.binOp CB t x y eY)(hc:C.cI vars pos o.op=some c8)(he:step ae H low c8=some (v,H',low')):
  dj C fid G H w low ((execOp ρ o).run C.P w) v H' low':=by
 rw[ho]at hc;simp only[Ctx.cI]at hc;split at hc
 ·rename_i cv kX h1 h2
  have hx:=aL x cv h1;have hy:=aL y kX h2
  have plain:∀{a b:BinOp},step ae H low (.bin CB cv kX)=some (v,H',low')->a=b->dj C fid G H w low ((execOp ρ o).run C.P w) v H' low':=by
   intro _ _ he _;simp only[step]at he;obtain⟨u,hu,he⟩:=ct.1 he;simp only[bt]at he;obtain⟨rfl,rfl,rfl⟩:=he;obtain⟨z,aT,fg,bj⟩:=acx (C:=C) (t:=t) hx hy hu;refine .same U (x:=z) ?_ fg;unfold execOp;rw[ho];simp only[bj,Sem.run_bind,Sem.run_pure,Result.andThen_ok,aT]
  have agg:∀(neg:Bool) {fs:Array Field},CB=(if neg then .neq else .eql)->C.P.underlying t=some (.struct fs)->(C.structEq t).map (fun n=>cH.xJ neg n cv kX)=some c8->dj C fid G H w low ((execOp ρ o).run C.P w) v H' low':=by
   intro neg fs c4 hd hm;obtain⟨n,hn,rfl⟩:=ct.1 hm;simp only[step]at he;split at he
   ·rename_i xs cR af e2
    obtain⟨e,CC,he⟩:=ct.1 he;simp only[bt]at he;obtain⟨rfl,rfl,rfl⟩:=he;rw[af]at hx;rw[e2]at hy;obtain⟨n5,dW,acH⟩:=hx.Ct;obtain⟨n6,CD,acI⟩:=hy.Ct;have key:=acF hd hn acH acI CC neg x y;rw[<-c4]at key;refine .same U (x:=.bool (if neg then !e else e)) ?_ (.p _ _ (.bool _));unfold execOp;rw[ho];simp only[dW,CD];rw[Sem.run_bind,key];rfl
   ·cases he
  have kinds:∀(neg:Bool) {d:TypeDesc},CB=(if neg then .neq else .eql)->C.P.underlying t=some d->Ctx.xO d cv kX (.bin CB cv kX) neg=some c8->dj C fid G H w low ((execOp ρ o).run C.P w) v H' low':=by
   intro neg d c4 hd cW
   have go:∀kind,c8=.pt kind neg cv kX->kindOk kind d->
     (kind=3->∃c,y=.const c)->dj C fid G H w low ((execOp ρ o).run C.P w) v H' low':=by
    intro kind ao CA uy;subst ao;simp only[step]at he;obtain⟨e,CC,he⟩:=ct.1 he;simp only[bt]at he;obtain⟨rfl,rfl,rfl⟩:=he;have bc:=acz (t:=t) hd hx hy CC CA;have hb:=acA hx hy CC neg bc;rw[<-c4]at hb;refine .same U (x:=.bool (if neg then !e else e)) ?_ (.p _ _ (.bool _));unfold execOp;rw[ho];simp only[acB hx hy CC uy,Sem.run_bind,Sem.run_pure,Result.andThen_ok,hb]
   unfold Ctx.xO at cW;split at cW
   ·simp only[az]at cW;subst cW;exact plain (a:=.add) (b:=.add) he rfl
   ·simp only[az]at cW;subst cW;exact plain (a:=.add) (b:=.add) he rfl
   ·simp only[az]at cW;exact go 0 cW.symm ⟨_,rfl⟩ (fun h=>by cases h)
   ·simp only[az]at cW;exact go 1 cW.symm ⟨_,rfl⟩ (fun h=>by cases h)
   ·simp only[az]at cW;exact go 2 cW.symm ⟨_,_,_,rfl⟩ (fun h=>by cases h)
   ·split at cW
    ·rename_i acJ
     simp only[az]at cW;exact go 3 cW.symm ⟨_,rfl⟩ (fun _=>acC h2 acJ)
    ·cases cW
   ·simp only[az]at cW;exact go 4 cW.symm rfl (fun h=>by cases h)
   ·cases cW
  split at hc
  ·rename_i hd;exact agg false rfl hd hc
  ·rename_i hd;exact agg true rfl hd hc
  ·rename_i hd;exact kinds false rfl hd hc
  ·rename_i hd;exact kinds true rfl hd hc
  ·cases hc
  ·cases hc
  ·simp only[az]at hc;subst hc;exact plain (a:=.add) (b:=.add) he rfl
 ·cases hc
end Go.Abs
namespace Go.Abs
open Go
variable{C:Ctx}{fid:Nat->Nat}{w w':World}{G G':bX}{H:Heap}
variable{vars:List Nat}{ae:ag->V}{ρ:Operand->Value}{low low':Nat}{v:V}{H':Heap}{pos:String}{c8:cH}{o:Oper}
theorem uE{x:Value}{k:IntKind}{m:Int}{n y:Nat}{code:BoundsCode}(hx:x=.int k m)(h0:0<=m)(hn:m.toNat=n)(hy:n<=y):
  (Instr.sliceBound x y code).run C.P w=.ok n w:=by
 subst hx;have:0<=m/\m<=(y:Int):=by omega
 simp only[Instr.sliceBound,asIntOf,Sem.run_bind,Sem.run_pure,Result.andThen_ok,this,and_self,if_true,hn]
theorem Aq (aL:fh C fid vars G w ae ρ){x:Option Operand}{cv:Option ag}(hx:C.oN vars x=some cv){d n:Nat}(h:eF ae d cv=some n):
  (x=none/\cv=none/\n=d)\/∃y k m,x=some y/\ρ y=.int k m/\0<=m/\m.toNat=n:=by
 cases x with
 |none=>
  simp only[Ctx.oN,az]at hx;subst hx;simp only[eF,az]at h;exact .inl ⟨rfl,rfl,h.symm⟩
 |some y=>
  simp only[Ctx.oN,ct]at hx;obtain⟨kX,hy,rfl⟩:=hx;simp only[eF]at h;obtain⟨k,m,e,hm,hn⟩:=K2 h;have:=aL y kX hy;rw[e]at this;exact .inr ⟨y,k,m,rfl,this.jE,hm,hn⟩
theorem CE (aL:fh C fid vars G w ae ρ){lo hi:Option Operand}{wz rL:Option ag}(ik:C.oN vars lo=some wz)(pC:C.oN vars hi=some rL){RX:Bool}{len cap a b:Nat}
  (ao:eF ae 0 wz=some a) (hb:eF ae len rL=some b) (h1:a<=b) (h2:b<=len) (ar:len<=cap):
  (Instr.sliceBounds RX len cap (lo.map ρ) (hi.map ρ) none).run C.P w=.ok (a,b,cap) w:=by
 unfold Instr.sliceBounds;have dr:∀(z:Nat × Nat × Nat),True:=fun _=>trivial;rcases Aq aL pC hb with⟨rfl,-,rfl⟩|⟨y,k,m,rfl,rM,hm,hn⟩
 ·rcases Aq aL ik ao with⟨rfl,-,rfl⟩|⟨n8,bp,m',rfl,CF,mY,pD⟩
  ·simp only[xF,Sem.run_bind,Sem.run_pure,Result.andThen_ok]
  ·simp only[xF,pq,Sem.run_bind,Sem.run_pure,Result.andThen_ok,uE (C:=C) CF mY pD h1]
 ·rcases Aq aL ik ao with⟨rfl,-,rfl⟩|⟨n8,bp,m',rfl,CF,mY,pD⟩
  ·simp only[xF,pq,Sem.run_bind,Sem.run_pure,Result.andThen_ok,uE (C:=C) rM hm hn (cV h2 ar)]
  ·simp only[pq,Sem.run_bind,Sem.run_pure,Result.andThen_ok,uE (C:=C) rM hm hn (cV h2 ar),uE (C:=C) CF mY pD h1]
theorem Le (aL:fh C fid vars G w ae ρ){lo hi mx:Option Operand}{wz rL:Option ag}{m:ag}(ik:C.oN vars lo=some wz)(pC:C.oN vars hi=some rL)(qF:C.oN vars mx=some (some m))
  {len cap a d:Nat} (ao:eF ae 0 wz=some a) (hb:eF ae d rL=some 0) (x0:rL≠none) (h1:a<=0) (hm:kr (ae m)=some 0):
  (Instr.sliceBounds true len cap (lo.map ρ) (hi.map ρ) (mx.map ρ)).run C.P w=.ok (0,0,0) w:=by
 unfold Instr.sliceBounds;obtain rfl:a=0:=by omega
 rcases Aq aL qF (d:=0) (show eF ae 0 (some m)=some 0 from hm)with⟨-,q,-⟩|⟨z,asF,asG,rfl,Ar,RY,Gh⟩
 ·cases q
 ·rcases Aq aL pC hb with⟨-,q,-⟩|⟨y,k,m',rfl,rM,mY,pD⟩
  ·exact absurd q x0
  ·rcases Aq aL ik ao with⟨rfl,-,-⟩|⟨n8,bp,asH,rfl,CF,acK,acL⟩
   ·simp only[xF,pq,Sem.run_bind,Sem.run_pure,Result.andThen_ok,uE (C:=C) Ar RY Gh (cx _),uE (C:=C) rM mY pD (cx _)]
   ·simp only[pq,Sem.run_bind,Sem.run_pure,Result.andThen_ok,uE (C:=C) Ar RY Gh (cx _),uE (C:=C) rM mY pD (cx _),uE (C:=C) CF acK acL (cx _)]
theorem x1{t e:TypeId}(hd:C.P.underlying t=some (.slice e))(x:Value)(lo hi mx:Option Value):(Instr.sliceAt t x lo hi mx).run C.P w=(Instr.slice t x lo hi mx).run C.P w:=by
 unfold Instr.sliceAt;rw[Sem.run_bind,run_underlying hd];rfl
theorem acM{t:TypeId}(hd:C.P.underlying t=some .string)(x:Value)(lo hi mx:Option Value):(Instr.sliceAt t x lo hi mx).run C.P w=(Instr.slice t x lo hi mx).run C.P w:=by
 unfold Instr.sliceAt;rw[Sem.run_bind,run_underlying hd];rfl
theorem x2{t n:Nat}(hs:C.sizeOf t=some n)(w:World):(Go.sizeOf t).run C.P w=.ok n w:=by
 simp only[Ctx.sizeOf,ct]at hs;obtain⟨i,hi,rfl⟩:=hs;unfold Go.sizeOf;rw[Sem.run_bind,run_typeInfo (P:=C.P) w hi];rfl
theorem acN (s:List UInt8)(a b:Nat):(⟨⟨s⟩⟩:ByteArray).extract a b=⟨⟨(s.take b).drop a⟩⟩:=by
 apply ByteArray.ext;rw[ByteArray.data_extract];apply Array.ext';simp[List.drop_take]
theorem acO{es:Nat}{ds:List V}{x:Value}(h:a8 fid G w (.list es ds) x){a b:Nat}(pE:a<=b)(hb:b<=ds.length):
  ∃dc cap,x=.slice (some dc) ds.length cap/\ds.length<=cap/\a8 fid G w (.list es ((ds.take b).drop a)) (.slice (if cap=a then some dc else some (dc.add (a*es))) (b-a) (cap-a)):=by
 obtain⟨dc,cap,rfl,e4,bc⟩:=h.wy;refine⟨dc,cap,rfl,e4,?_⟩;have hlen:((ds.take b).drop a).length=b-a:=by simp;omega
 by_cases hn:(ds.take b).drop a=[]
 ·have acP:b-a=0:=by rw[<-hlen,hn];rfl
  rw[hn,acP];split
  ·exact .p _ _ (.ur _ _ _)
  ·exact .p _ _ (.ur _ _ _)
 ·have aX:a<b:=by
   rcases fX a b with q|q
   ·exact q
   ·exact absurd (Kf.1 (by omega)) hn
  rcases bc with rfl|⟨As,o',vals,rfl,aW,hc,hu,hr⟩
  ·simp at hn
  ·rw[if_neg (by omega),Addr.add_lit]
   have Gi:∀d∈ds.take b,(aE d).length=es:=fun d hd=>hu d (zP hd)
   have key:=fz.list (w:=w) (I:=G.I) es ((ds.take b).drop a) As (o'+a*es) (cap-a) ((vals.take (b*es)).drop (a*es)) aW ((hc.take _).drop _)
    (fun d hd=>Gi d (B8 hd)) (by
      rw[xT Gi,Ag hu];exact(hr.take _).drop _) (by rw[hlen];omega)
   rw[hlen]at key;exact .p _ _ key
theorem acQ (U:aZ C fid G H w)(aL:fh C fid vars G w ae ρ){t:TypeId}{x:Operand}{lo hi mx:Option Operand}(ho:o.op=.slice t x lo hi mx)(hc:C.cI vars pos o.op=some c8)(he:step ae H low c8=some (v,H',low')):
  dj C fid G H w low ((execOp ρ o).run C.P w) v H' low':=by
 rw[ho]at hc
 have cr:(execOp ρ o).run C.P w=((Instr.sliceAt t (ρ x) (lo.map ρ) (hi.map ρ) (mx.map ρ)).run C.P w).andThen fun z w'=>.ok (.value z) w':=by
  unfold execOp;rw[ho];simp only[Sem.run_bind];rfl
 simp only[Ctx.cI]at hc;split at hc
 ·rename_i cv wz rL hd h2 ik pC qF
  simp only[az]at hc;subst hc;have ad:=aL x cv h2;simp only[step]at he;split at he
  ·rename_i s af
   split at he
   ·rename_i a b ao hb
    split at he
    ·rename_i hle
     simp only[az,bt]at he;obtain⟨rfl,rfl,rfl⟩:=he;rw[af]at ad
     obtain rfl:mx=none:=by
      cases mx with
      |none=>rfl
      |some y=>simp[Ctx.oN]at qF
     have iA:=CE (C:=C) (RX:=false) (cap:=s.length) aL ik pC ao hb hle.1 hle.2 (aK _);refine .same U (x:=.string ⟨⟨(s.take b).drop a⟩⟩) ?_ (.p _ _ (.str _));rw[cr,acM hd,ad.oS];unfold Instr.slice;have acR:(⟨⟨s⟩⟩:ByteArray).size=s.length:=rfl;simp only[Sem.run_bind,run_underlying hd,Result.andThen_ok,xF,Option.isSome_none,hY,if_false,acR,iA,Sem.run_pure,acN]
    ·cases he
   ·cases he
  ·cases he
 ·rename_i e cv wz rL Gj hd h2 ik pC qF
  split at hc
  ·rename_i n hn
   split at hc
   ·cases hc
   ·rename_i nx
    simp only[az]at hc;subst hc;have ad:=aL x cv h2;have kV:=x2 (C:=C) hn
    have acS:rL.isNone=true->Gj.isSome=true->False:=by
     intro h1 h2;simp[h1,h2]at nx
    have Lf:∀{q:Option ag},C.oN vars mx=some q->q=none->mx=none:=by
     intro q h1 h2;cases mx with
     |none=>rfl
     |some y=>simp[Ctx.oN,h2]at h1
    have Lg:∀{m:ag},Gj=some m->rL≠none:=by
     rintro m rfl rfl;exact acS rfl rfl
    have RZ:∀{cap:Nat},0<=cap->eF ae 0 wz=some 0->eF ae 0 rL=some 0->eF ae 0 Gj=some 0->(Instr.sliceBounds true 0 0 (lo.map ρ) (hi.map ρ) (mx.map ρ)).run C.P w=.ok (0,0,0) w:=by
     intro _ _ ao hb hm;cases bc:Gj with
     |none=>
      rw[bc]at qF;rw[Lf qF rfl];exact CE (C:=C) aL ik pC ao hb (aK _) (aK _) (aK _)
     |some m=>
      rw[bc]at qF hm;exact Le (C:=C) aL ik pC qF ao hb (Lg bc) (aK _) hm
    simp only[step]at he;split at he
    ·rename_i af
     split at he
     ·rename_i ao hb hm
      simp only[az,bt]at he;obtain⟨rfl,rfl,rfl⟩:=he;rw[af]at ad;refine .same U (x:=.slice none 0 0) ?_ (.p _ _ .cp);rw[cr,x1 hd,ad.j0];unfold Instr.slice;simp only[Sem.run_bind,run_underlying hd,Result.andThen_ok,RZ (cap:=0) (cx _) ao hb hm,kV,Sem.run_pure];rfl
     ·cases he
    ·rename_i af
     split at he
     ·rename_i ao hb hm
      simp only[az,bt]at he;obtain⟨rfl,rfl,rfl⟩:=he;rw[af]at ad;obtain⟨dc,hx⟩:=ad.rI;refine .same U (x:=.slice (some dc) 0 0) ?_ (.p _ _ (.emp _));rw[cr,x1 hd,hx];unfold Instr.slice;simp only[Sem.run_bind,run_underlying hd,Result.andThen_ok,RZ (cap:=0) (cx _) ao hb hm,kV,Sem.run_pure];rfl
     ·cases he
    ·rename_i bD ds af
     split at he
     ·rename_i a b ao hb
      split at he
      ·rename_i hle
       obtain⟨pE,j1,rfl⟩:=hle;rw[af]at ad;obtain⟨dc,cap,hx,e4,fg⟩:=acO ad pE j1;split at he
       ·simp only[az,bt]at he
        obtain⟨rfl,rfl,rfl⟩:=he;obtain rfl:=Lf qF rfl;refine .same U ?_ fg;rw[cr,x1 hd,hx];unfold Instr.slice;simp only[Sem.run_bind,run_underlying hd,Result.andThen_ok,xF,CE (C:=C) aL ik pC ao hb pE j1 e4,kV,Sem.run_pure];rfl
       ·rename_i m
        split at he
        ·rename_i hm
         obtain⟨fi,rfl⟩:=hm;simp only[az,bt]at he;obtain⟨rfl,rfl,rfl⟩:=he;refine .same U (x:=.slice (some dc) 0 0) ?_ (.p _ _ (.emp _));rw[cr,x1 hd,hx];unfold Instr.slice;simp only[Sem.run_bind,run_underlying hd,Result.andThen_ok,Le (C:=C) aL ik pC qF ao hb (Lg rfl) pE fi,kV,Sem.run_pure];rfl
        ·cases he
      ·cases he
     ·cases he
    ·rename_i l bD off len tag af
     split at he
     ·rename_i a b ao hb
      split at he
      ·rename_i hle
       obtain⟨pE,j1,rfl⟩:=hle;rw[af]at ad;obtain⟨h0,dc,cJ,cap,cY,rH,jF,hx⟩:=ad.pA;split at he
       ·split at he
        ·rename_i eX ds dt hl
         split at he
         ·rename_i ep
          obtain⟨fR,rfl⟩:=ep;obtain rfl:=Lf qF rfl;obtain⟨aP,eM,hr⟩:=U.obj l h0 cY;rw[hl]at eM;cases eM;obtain⟨rfl,rfl,fS,qG⟩:=jF (hr.1.trans fR);split at he
          ·rename_i aX
           simp only[az,bt]at he;obtain⟨rfl,rfl,rfl⟩:=he;refine .same U (x:=.slice (some ⟨h0.b,(off+a)*eX,none⟩) (b-a) (cap-a)) ?_ (.cz l eX (off+a) (b-a) tag h0 _ _ _ cY rH (fun _=>⟨rfl,rfl,?_,by omega⟩))
           ·rw[cr,x1 hd,hx]
            unfold Instr.slice;simp only[Sem.run_bind,run_underlying hd,Result.andThen_ok,xF,CE (C:=C) aL ik pC ao hb pE j1 qG,kV,Sem.run_pure];rw[if_neg (by omega),pq,Addr.add_lit,rC]
           ·have:off+a+(cap-a)=off+cap:=by omega
            rw[this];exact fS
          ·rename_i aX
           simp only[az,bt]at he;obtain⟨rfl,rfl,rfl⟩:=he;obtain rfl:a=b:=by omega
           have key:∀(q:Addr),a8 fid G w (.list eX []) (.slice (some q) (a-a) (cap-a)):=fun q=>by rw[Nat.sub_self];exact .p _ _ (.ur _ _ _)
           refine .same U (x:=.slice (if cap=a then some ⟨h0.b,off*eX,none⟩else some (Addr.add ⟨h0.b,off*eX,none⟩ (a*eX))) (a-a) (cap-a)) ?_ (by split<;>exact key _);rw[cr,x1 hd,hx];unfold Instr.slice;simp only[Sem.run_bind,run_underlying hd,Result.andThen_ok,xF,CE (C:=C) aL ik pC ao hb pE j1 qG,kV,Sem.run_pure];rfl
         ·cases he
        ·cases he
       ·rename_i m
        split at he
        ·rename_i hm
         obtain⟨fi,rfl⟩:=hm;simp only[az,bt]at he;obtain⟨rfl,rfl,rfl⟩:=he;refine .same U (x:=.slice (some dc) 0 0) ?_ (.p _ _ (.emp _));rw[cr,x1 hd,hx];unfold Instr.slice;simp only[Sem.run_bind,run_underlying hd,Result.andThen_ok,Le (C:=C) aL ik pC qF ao hb (Lg rfl) pE fi,kV,Sem.run_pure];rfl
        ·cases he
      ·cases he
     ·cases he
    ·cases he
  ·cases hc
 ·cases hc
end Go.Abs
namespace Go.Abs
open Go
variable{C:Ctx}{fid:Nat->Nat}{w w':World}{G G':bX}{H:Heap}
variable{vars:List Nat}{ae:ag->V}{ρ:Operand->Value}{low low':Nat}{v:V}{H':Heap}{pos:String}{c8:cH}{o:Oper}
theorem c7.split:∀{vs us:List V} {dd:List Value} {I:Nat->Prop},c7 w I (vs++us) dd->∃xs cR,dd=xs++cR/\c7 w I vs xs/\c7 w I us cR
 |[],us,dd,_,h=>⟨[],dd,rfl,.nil,h⟩
 |v::vs,us,_,_,.cons _ x _ xs h hs=>by
  obtain⟨aO,aI,rfl,h1,h2⟩:=c7.split (vs:=vs) hs;exact⟨x::aO,aI,rfl,.cons v x vs aO h h1,h2⟩
theorem acT (U:aZ C fid G H w)(aL:fh C fid vars G w ae ρ){t:TypeId}{x i:Operand}(ho:o.op=.indexAddr t x i)(hc:C.cI vars pos o.op=some c8)(he:step ae H low c8=some (v,H',low')):
  dj C fid G H w low ((execOp ρ o).run C.P w) v H' low':=by
 rw[ho]at hc;simp only[Ctx.cI]at hc;split at hc
 ·rename_i e cv ij hd h2 ar
  split at hc
  ·rename_i n hn
   split at hc
   ·cases hc
   ·simp only[az]at hc;subst hc
    have kV:=x2 (C:=C) hn;have hx:=aL x cv h2;have hi:=aL i ij ar;simp only[step]at he;split at he
    ·rename_i j acU
     obtain⟨k,m,em,hm,acV⟩:=K2 acU;rw[em]at hi
     have cr:∀dc len cap,ρ x=.slice (some dc) len cap->j<len->(execOp ρ o).run C.P w=.ok (.value (.pointer (some (dc.add (j*n))))) w:=by
      intro dc len cap eg aX;have ep:0<=m/\m<(len:Int):=by omega
      unfold execOp;rw[ho];simp only[eg,hi.jE,Instr.indexAt,asIntOf,Sem.run_bind,Sem.run_pure,Result.andThen_ok,run_underlying hd,ep,and_self,if_true,kV,acV]
     split at he
     ·rename_i bD ds af
      split at he
      ·rename_i fa
       subst fa;obtain⟨d,Lh,he⟩:=ct.1 he;simp only[bt]at he;obtain⟨rfl,rfl,rfl⟩:=he;rw[af]at hx;obtain⟨dc,cap,eg,e4,bc⟩:=hx.wy;obtain⟨aX,acW⟩:=pY.1 Lh;rcases bc with rfl|⟨b,o',vals,rfl,aW,hcell,hu,hr⟩
       ·simp at aX
       ·refine .same U (cr _ _ _ eg aX) ?_
        rw[Addr.add_lit];have h2:ds.drop j=d::ds.drop (j+1):=by rw[<-acW];exact wc aX
        have ar:=hr.drop (j*bD);rw[<-xT hu,h2,kn]at ar;obtain⟨xs,cR,CG,acX,-⟩:=ar.split;have fT:=hcell.drop (j*bD);rw[CG]at fT
        have acY:iz w b (o'+j*bD) xs:=fun a c x3=>fT a c (by
         rw[gE (by
          rcases fX a xs.length with q|q
          ·exact q
          ·simp[lb q]at x3)];exact x3)
        exact .dn _ 0 b (o'+j*bD) xs aW acY acX
      ·cases he
     ·rename_i l bD off len tag af
      split at he
      ·rename_i eX ds dt hl
       split at he
       ·rename_i ep
        obtain⟨rfl,rfl,fR,mF,qH⟩:=ep;simp only[az,bt]at he;obtain⟨rfl,rfl,rfl⟩:=he;rw[af]at hx;obtain⟨h0,dc,cJ,cap,cY,rH,jF,eg⟩:=hx.pA;obtain⟨aP,eM,hr⟩:=U.obj l h0 cY;rw[hl]at eM;cases eM;obtain⟨rfl,rfl,fS,qG⟩:=jF (hr.1.trans fR);refine .same U (cr _ _ _ eg mF) (.gF l _ (off+j) 0 tag h0 _ cY rH (fun _=> ?_));rw[Addr.add_lit,zW,rC]
       ·cases he
      ·cases he
     ·cases he
    ·cases he
  ·cases hc
 ·cases hc
theorem x4{b:Builtin}{args:Array Operand}{ts:Array TypeId}(ho:o.op=.call {callee:=.builtin b,args,argTypes:=ts}):
  (execOp ρ o).run C.P w=(builtin b ts o.type (args.map fun| .const _=>true| _=>false) (args.map ρ)).run C.P w:=by
 unfold execOp;rw[ho];simp only[resolve,invoke,Sem.run_bind,Sem.run_pure,Result.andThen_ok];rfl
theorem R0 (U:aZ C fid G H w)(aL:fh C fid vars G w ae ρ){b:Builtin}{x y:Operand}{args:Array Operand}{ts:Array TypeId}(ho:o.op=.call {callee:=.builtin b,args,argTypes:=ts})
  (ao:args= #[x,y]) {mx:Bool} (hb:b=if mx then .max else .min) {cv kX:ag} (h1:C.b3 vars x=some cv) (h2:C.b3 vars y=some kX) (he:step ae H low (.ug mx cv kX)=some (v,H',low')):
  dj C fid G H w low ((execOp ρ o).run C.P w) v H' low':=by
 subst ao;have hx:=aL x cv h1;have hy:=aL y kX h2;simp only[step]at he;split at he
 ·rename_i k a bp eL af e2
  split at he
  ·rename_i cW
   subst cW;simp only[az,bt]at he;obtain⟨rfl,rfl,rfl⟩:=he;rw[af]at hx;rw[e2]at hy;refine .same U (x:=.int k (if mx then max a eL else min a eL)) ?_ (.p _ _ (.int _ _));rw[x4 ho];subst hb;cases mx
   ·have hm:(if eL<a then eL else a)=min a eL:=by
     rw[Int.min_def];split<;>split<;>omega
    simp[builtin,Builtin.min_,Builtin.min2,hx.jE,hy.jE,hm]
   ·have hm:(if a<eL then eL else a)=max a eL:=by
     rw[Int.max_def];split<;>split<;>omega
    simp[builtin,Builtin.max_,Builtin.max2,hx.jE,hy.jE,hm]
  ·cases he
 ·cases he
theorem Li (U:aZ C fid G H w)(aL:fh C fid vars G w ae ρ){x:Operand}{t:TypeId}{args:Array Operand}{ts:Array TypeId}(ho:o.op=.call {callee:=.builtin .len,args,argTypes:=ts})
  (ao:args= #[x]) (ht:ts= #[t]) {cv:ag} (h1:C.b3 vars x=some cv) {kind:Nat} (cW:match kind with|0=>C.P.underlying t=some .string|1=>∃e,C.P.underlying t=some (.slice e)| _=>∃k e,C.P.underlying t=some (.map k e))
  (he:step ae H low (.len kind cv)=some (v,H',low')):dj C fid G H w low ((execOp ρ o).run C.P w) v H' low':=by
 subst ao;subst ht;have hx:=aL x cv h1
 have cr:∀(n:Nat),(Builtin.len_ #[t] o.type #[ρ x]).run C.P w=.ok (goInt n) w->dj C fid G H w low ((execOp ρ o).run C.P w) (.int .i64 n) H low:=by
  intro n hn;refine .same U (x:=.int .i64 n) ?_ (.p _ _ (.int _ _));rw[x4 ho];simp only[builtin,Sem.run_bind];have e:Array.map ρ #[x]= #[ρ x]:=by simp
  rw[e,hn];rfl
 simp only[step]at he;split at he
 ·rename_i s af
  simp only[az,bt]at he;obtain⟨rfl,rfl,rfl⟩:=he;rw[af]at hx;refine cr s.length ?_;have cW:C.P.underlying t=some .string:=cW;simp only[Builtin.len_,hx.oS,Sem.run_bind,run_underlying cW,Result.andThen_ok,tZ,rr,Sem.run_pure];rfl
 ·rename_i af
  simp only[az,bt]at he;obtain⟨rfl,rfl,rfl⟩:=he;rw[af]at hx;obtain⟨e,cW⟩:∃e,C.P.underlying t=some (.slice e):=cW;refine cr 0 ?_;simp only[Builtin.len_,hx.j0,Sem.run_bind,run_underlying cW,Result.andThen_ok,tZ,rr,Sem.run_pure]
 ·rename_i af
  simp only[az,bt]at he;obtain⟨rfl,rfl,rfl⟩:=he;rw[af]at hx;obtain⟨e,cW⟩:∃e,C.P.underlying t=some (.slice e):=cW;obtain⟨dc,eg⟩:=hx.rI;refine cr 0 ?_;simp only[Builtin.len_,eg,Sem.run_bind,run_underlying cW,Result.andThen_ok,tZ,rr,Sem.run_pure]
 ·rename_i es ds af
  simp only[az,bt]at he;obtain⟨rfl,rfl,rfl⟩:=he;rw[af]at hx;obtain⟨e,cW⟩:∃e,C.P.underlying t=some (.slice e):=cW;obtain⟨dc,cap,eg,-,-⟩:=hx.wy;refine cr ds.length ?_;simp only[Builtin.len_,eg,Sem.run_bind,run_underlying cW,Result.andThen_ok,tZ,rr,Sem.run_pure]
 ·rename_i l es off len tag af
  obtain⟨e,cW⟩:∃e,C.P.underlying t=some (.slice e):=cW;split at he
  ·rename_i bD ds dt hl
   split at he
   ·rename_i ep
    simp only[az,bt]at he;obtain⟨rfl,rfl,rfl⟩:=he;rw[af]at hx;obtain⟨h0,dc,cJ,cap,cY,rH,jF,eg⟩:=hx.pA;obtain⟨aP,eM,hr⟩:=U.obj l h0 cY;rw[hl]at eM;cases eM;obtain⟨rfl,rfl,fS,qG⟩:=jF (hr.1.trans ep.2);refine cr cJ ?_;simp only[Builtin.len_,eg,Sem.run_bind,run_underlying cW,Result.andThen_ok,tZ,rr,Sem.run_pure]
   ·cases he
  ·rename_i r hl
   split at he
   ·rename_i ep
    simp only[az,bt]at he;obtain⟨rfl,rfl,rfl⟩:=he;rw[af]at hx;obtain⟨h0,dc,cJ,cap,cY,rH,jF,eg⟩:=hx.pA;obtain⟨aP,eM,hr⟩:=U.obj l h0 cY;rw[hl]at eM;cases eM;obtain⟨rfl,rfl,fS,qG⟩:=jF (hr.2.1.trans ep);refine cr cJ ?_;simp only[Builtin.len_,eg,Sem.run_bind,run_underlying cW,Result.andThen_ok,tZ,rr,Sem.run_pure]
   ·cases he
  ·cases he
 ·rename_i af
  simp only[az,bt]at he;obtain⟨rfl,rfl,rfl⟩:=he;rw[af]at hx;obtain⟨k,e,cW⟩:∃k e,C.P.underlying t=some (.map k e):=cW;refine cr 0 ?_;simp only[Builtin.len_,hx.K3,Sem.run_bind,run_underlying cW,Result.andThen_ok,tZ,rr,Sem.run_pure];rfl
 ·rename_i l af
  obtain⟨k,e,cW⟩:∃k e,C.P.underlying t=some (.map k e):=cW;split at he
  ·rename_i bb hl
   simp only[az,bt]at he;obtain⟨rfl,rfl,rfl⟩:=he;rw[af]at hx;obtain⟨h0,cY,-,eg⟩:=hx.mapInv;obtain⟨aP,eM,hr⟩:=U.obj l h0 cY;rw[hl]at eM;cases eM;obtain⟨-,-,es,bE,hm,il,CH,-⟩:=hr;have hlen:=il.length;simp only[oG,hB]at hlen;refine cr bb.length ?_;have bj:(getObj h0.b).run C.P w=.ok (.map es bE) w:=by simp[getObj,Sem.run,hm]
   simp only[Builtin.len_,eg,Sem.run_bind,run_underlying cW,Result.andThen_ok,tZ,rr,bj,Sem.run_pure,hlen]
  ·cases he
 ·cases he
end Go.Abs
