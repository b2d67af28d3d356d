/- Texts of this claim, joined and written short by a program. -/
import Derived.Test.YtgkcikhegodchaaGreatDoorS02
import Derived.WalkLawsBesides
import Derived.Laws.StructEq
import Derived.Test.YtgkcikhegodchaaGreatDoorS00
set_option linter.unusedVariables false
set_option linter.unusedSimpArgs false
set_option linter.unusedSectionVars false
namespace Go.Abs
open Go
variable{C:Ctx}{fid:Nat->Nat}{w w':World}{G G':bT}{H:Heap}
variable{vars:List Nat}{ag:ai->V}{ρ:Operand->Value}{low low':Nat}{v:V}{H':Heap}{pos:String}{df:cN}{o:Oper}
theorem Uc (U:aX C fid G H w)(aN:fr C fid vars G w ag ρ){x:Operand}(ho:o.op=.move x\/o.op=.assign x)(hc:C.cO vars pos o.op=some df)(he:step ag H low df=some (v,H',low')):
  c3 C fid G H w low ((execOp ρ o).run C.P w) v H' low':=by
 have o8:(C.b5 vars x).map cN.mv=some df:=by rcases ho with ho|ho<;>(rw[ho]at hc;exact hc)
 obtain⟨cE,hx,rfl⟩:=cj.1 o8;simp only[step,aA,bq]at he;obtain⟨rfl,rfl,rfl⟩:=he;exact .same U (x:=ρ x) (by unfold execOp;rcases ho with ho|ho<;>rw[ho]<;>rfl) (aN x cE hx)
theorem agy (U:aX C fid G H w)(aN:fr C fid vars G w ag ρ){c a b:Operand}(ho:o.op=.pick c a b)(hc:C.cO vars pos o.op=some df)(he:step ag H low df=some (v,H',low')):
  c3 C fid G H w low ((execOp ρ o).run C.P w) v H' low':=by
 rw[ho]at hc;simp only[Ctx.cO]at hc;split at hc
 ·rename_i c' a8 eA h1 h2 ar
  simp only[aA]at hc;subst hc;simp only[step]at he;obtain⟨t,ht,he⟩:=cj.1 he;simp only[bq]at he;obtain⟨rfl,rfl,rfl⟩:=he
  have hM:ag c'=.bool t:=by
   unfold pR at ht;split at ht
   ·simp only[aA]at ht;subst ht;assumption
   ·cases ht
  have:=aN c c' h1;rw[hM]at this;have hb:=this.kY;refine .same U (x:=if t then ρ a else ρ b) (by unfold execOp;rw[ho];simp only[hb,asBool,Sem.run_bind,Sem.run_pure,Result.andThen_ok]) ?_;cases t
  ·exact aN b eA ar
  ·exact aN a a8 h2
 ·cases hc
theorem agz (U:aX C fid G H w)(aN:fr C fid vars G w ag ρ){x:Operand}(ho:o.op=.nilCheck x)(hc:C.cO vars pos o.op=some df)(he:step ag H low df=some (v,H',low')):
  c3 C fid G H w low ((execOp ρ o).run C.P w) v H' low':=by
 rw[ho]at hc;obtain⟨cE,hx,rfl⟩:=cj.1 hc;have af:=aN x cE hx;simp only[step]at he;split at he
 ·rename_i l o' e
  simp only[aA,bq]at he;obtain⟨rfl,rfl,rfl⟩:=he;rw[e]at af;obtain⟨h0,hb,ht,dM⟩:=af.nH;exact .same U (x:=ρ x) (by unfold execOp;rw[ho];simp only[dM];rfl) af
 ·rename_i l es i f tag e
  simp only[aA,bq]at he;obtain⟨rfl,rfl,rfl⟩:=he;rw[e]at af;obtain⟨h0,a,hb,hle,ha,dM⟩:=af.D7;exact .same U (x:=ρ x) (by unfold execOp;rw[ho];simp only[dM];rfl) af
 ·rename_i vs f e
  simp only[aA,bq]at he;obtain⟨rfl,rfl,rfl⟩:=he;rw[e]at af;obtain⟨b,o',vals,bk,hc,hr,dM⟩:=af.M9;exact .same U (x:=ρ x) (by unfold execOp;rw[ho];simp only[dM];rfl) af
 ·rename_i i a b e
  simp only[aA,bq]at he;obtain⟨rfl,rfl,rfl⟩:=he;rw[e]at af;obtain⟨xs,cB,ae,hc,dM⟩:=af.BF;exact .same U (x:=ρ x) (by unfold execOp;rw[ho];simp only[dM];rfl) af
 ·cases he
theorem agA (U:aX C fid G H w)(aN:fr C fid vars G w ag ρ){op:UnOp}{t:TypeId}{x:Operand}(ho:o.op=.unOp op t x)(hc:C.cO vars pos o.op=some df)(he:step ag H low df=some (v,H',low')):
  c3 C fid G H w low ((execOp ρ o).run C.P w) v H' low':=by
 rw[ho]at hc;obtain⟨cE,hx,rfl⟩:=cj.1 hc;have af:=aN x cE hx;simp only[step]at he;obtain⟨u,hu,he⟩:=cj.1 he;simp only[bq]at he;obtain⟨rfl,rfl,rfl⟩:=he;unfold pS at hu;split at hu
 ·rename_i k n e
  simp only[aA]at hu;subst hu;rw[e]at af;exact .same U (x:=.int k (k.wrap (0-n))) (by unfold execOp;rw[ho];simp only[af.jA,Op.unary,Op.intArith,Sem.run_bind,Sem.run_pure,Result.andThen_ok]) (.p _ _ (.int _ _))
 ·rename_i b e
  simp only[aA]at hu;subst hu;rw[e]at af;exact .same U (x:=.bool !b) (by unfold execOp;rw[ho];simp only[af.kY,Op.unary,Sem.run_bind,Sem.run_pure,Result.andThen_ok]) (.p _ _ (.bool _))
 ·cases hu
theorem agB (U:aX C fid G H w)(aN:fr C fid vars G w ag ρ){s d:TypeId}{x:Operand}(ho:o.op=.convert s d x)(hnb:∀x,df≠ .u5 x)(hc:C.cO vars pos o.op=some df)(he:step ag H low df=some (v,H',low')):
  c3 C fid G H w low ((execOp ρ o).run C.P w) v H' low':=by
 rw[ho]at hc;simp only[Ctx.cO]at hc;split at hc
 ·rename_i k0 k cE h1 h2 ar
  simp only[aA]at hc;subst hc;have af:=aN x cE ar;simp only[step]at he;split at he
  ·rename_i bz n e
   simp only[aA,bq]at he;obtain⟨rfl,rfl,rfl⟩:=he;rw[e]at af;exact .same U (x:=.int k (k.wrap n)) (by unfold execOp;rw[ho];simp only[af.jA,convert,Sem.run_bind,run_underlying h1,run_underlying h2,Result.andThen_ok,Conv.intToInt,Sem.run_pure]) (.p _ _ (.int _ _))
  ·cases he
 ·split at hc
  ·simp only[aA]at hc;exact absurd hc.symm (hnb _)
  ·cases hc
 ·cases hc
theorem agC (U:aX C fid G H w)(aN:fr C fid vars G w ag ρ){t:TypeId}{x:Operand}(ho:o.op=.makeInterface t x)(hc:C.cO vars pos o.op=some df)(he:step ag H low df=some (v,H',low')):
  c3 C fid G H w low ((execOp ρ o).run C.P w) v H' low':=by
 rw[ho]at hc;simp only[Ctx.cO]at hc;split at hc
 ·cases hc
 ·rename_i d cE aZ h1 h2
  simp only[aA]at hc;subst hc;have af:=aN x cE h2;simp only[step]at he;split at he
  ·rename_i v1 H1 bG ae
   simp only[aA,bq]at he;obtain⟨rfl,rfl,rfl⟩:=he;obtain⟨ay,f1,b6⟩:=Ie U af ae;refine c3.BD f1 (c3.same f1.rel (x:=.iface t (ρ x)) ?_ (.iface _ _ _ b6));unfold execOp;rw[ho];simp only[Instr.makeInterface,Sem.run_bind,run_underlying h1,Result.andThen_ok];cases d<;>first|rfl|(exfalso;exact aZ _ h1)
  ·cases he
 ·cases hc
theorem Ii (aN:fr C fid vars G w ag ρ):∀{xs:List Operand} {Nd:List ai},dF (C.b5 vars) xs=some Nd->a1 fid G w (Nd.map ag) (xs.map ρ)
 |[],_,h=>by simp only[dF,aA]at h;subst h;exact .nil
 |x::xs,_,h=>by
  simp only[dF]at h;split at h
  ·rename_i cE hx
   split at h
   ·rename_i Nd eC
    simp only[aA]at h;subst h;exact .cons _ _ _ _ (aN x cE hx) (Ii aN eC)
   ·cases h
  ·cases h
theorem agD (bw:eW C fid)(U:aX C fid G H w)(aN:fr C fid vars G w ag ρ){f:Fn}{a b:Array Operand}(ho:o.op=.makeFunc f a b)(hc:C.cO vars pos o.op=some df)(he:step ag H low df=some (v,H',low')):
  c3 C fid G H w low ((execOp ρ o).run C.P w) v H' low':=by
 rw[ho]at hc;cases f with
 |func f=>
  simp only[Ctx.cO]at hc;split at hc
  ·rename_i i a8 eA h1 h2 ar
   simp only[aA]at hc;subst hc;simp only[step,aA,bq]at he;obtain⟨rfl,rfl,rfl⟩:=he;refine .same U (x:=.func (.func f) (a.map ρ) (b.map ρ)) (by unfold execOp;rw[ho];rfl) ?_;have e:=bw.f f i h1;subst e;have:=bd.fn (fid:=fid) i _ _ _ _ (Ii aN h2) (Ii aN ar);have ab:a.map ρ=⟨a.toList.map ρ⟩:=by rw[<-Array.toList_map]
   have aj:b.map ρ=⟨b.toList.map ρ⟩:=by rw[<-Array.toList_map]
   rw[ab,aj];exact this
  ·cases hc
 | _=>simp[Ctx.cO]at hc
theorem agE (U:aX C fid G H w)(aN:fr C fid vars G w ag ρ){x:Operand}{i:Nat}(ho:o.op=.extract x i)(hc:C.cO vars pos o.op=some df)(he:step ag H low df=some (v,H',low')):
  c3 C fid G H w low ((execOp ρ o).run C.P w) v H' low':=by
 rw[ho]at hc;obtain⟨cE,hx,rfl⟩:=cj.1 hc;have af:=aN x cE hx;simp only[step]at he;split at he
 ·rename_i vs e
  obtain⟨u,hu,he⟩:=cj.1 he;simp only[bq]at he;obtain⟨rfl,rfl,rfl⟩:=he;rw[e]at af;obtain⟨vals,dM,hr⟩:=af.M0;obtain⟨y,hy,e5⟩:=hr.get hu;exact .same U (x:=y) (by unfold execOp;rw[ho];simp only[dM,Instr.extract,sD,hy,Sem.run_bind,Sem.run_pure,Result.andThen_ok]) e5
 ·cases he
theorem agF (U:aX C fid G H w)(aN:fr C fid vars G w ag ρ){s:TypeId}{x:Operand}{f:Nat}(ho:o.op=.field s x f)(hc:C.cO vars pos o.op=some df)(he:step ag H low df=some (v,H',low')):
  c3 C fid G H w low ((execOp ρ o).run C.P w) v H' low':=by
 rw[ho]at hc;simp only[Ctx.cO]at hc;split at hc
 ·rename_i fs cE h1 h2
  split at hc
  ·rename_i aY ar
   obtain⟨sh,aR,rfl⟩:=cj.1 hc;have af:=aN x cE h2;simp only[step]at he;split at he
   ·rename_i vs e
    obtain⟨u,hu,he⟩:=cj.1 he;simp only[bq]at he;obtain⟨rfl,rfl,rfl⟩:=he;rw[e]at af;obtain⟨vals,dM,hr⟩:=af.D2;have hk:=hr.iw hu;rcases T5 aR with⟨n,rfl,ha,hs⟩|⟨rfl,ha⟩
    ·refine .same U (x:=.agg ⟨(vals.drop aY.offset).take n⟩) ?_ hk.2
     unfold execOp;rw[ho];simp only[dM,Instr.field,Sem.run_bind,run_underlying h1,Result.andThen_ok,ar,asAgg,Sem.run_pure,part,ha,hs,if_true];congr 3;apply Array.ext';simp
    ·obtain⟨y,hy,e5⟩:=hk
     refine .same U (x:=y) ?_ e5;unfold execOp;rw[ho];simp only[dM,Instr.field,Sem.run_bind,run_underlying h1,Result.andThen_ok,ar,asAgg,Sem.run_pure,part,ha,fE,if_false,sD,hy]
   ·cases he
  ·cases hc
 ·cases hc
theorem agG (U:aX C fid G H w)(aN:fr C fid vars G w ag ρ){s:TypeId}{x:Operand}{f:Nat}(ho:o.op=.fieldAddr s x f)(hc:C.cO vars pos o.op=some df)(he:step ag H low df=some (v,H',low')):
  c3 C fid G H w low ((execOp ρ o).run C.P w) v H' low':=by
 rw[ho]at hc;simp only[Ctx.cO]at hc;split at hc
 ·rename_i fs cE h1 h2
  split at hc
  ·rename_i aY ar
   split at hc
   ·rename_i n aR
    split at hc
    ·cases hc
    ·rename_i hn
     simp only[aA]at hc;subst hc;have af:=aN x cE h2
     have cc:∀a,ρ x=.pointer (some a)->(execOp ρ o).run C.P w=.ok (.value (.pointer (some (a.add aY.offset)))) w:=by
      intro a ha;simp only[Ctx.sizeOf,cj]at aR;obtain⟨i,hi,rfl⟩:=aR;unfold execOp;rw[ho];simp only[ha,Instr.fieldAt,Sem.run_bind,run_underlying h1,Result.andThen_ok,ar,Instr.sureAddr,Sem.run_pure,fieldPlace,sizeOf,run_typeInfo (P:=C.P) w hi,hn,if_false]
     simp only[step]at he;split at he
     ·rename_i l o' e
      simp only[aA,bq]at he;obtain⟨rfl,rfl,rfl⟩:=he;rw[e]at af;obtain⟨h0,hb,ht,dM⟩:=af.nH;refine .same U (cc _ dM) ?_;rw[Addr.add_lit];exact .ptr l _ h0 hb ht
     ·rename_i l es i me tag e
      simp only[aA,bq]at he;obtain⟨rfl,rfl,rfl⟩:=he;rw[e]at af;obtain⟨h0,a,hb,hle,ha,dM⟩:=af.D7;refine .same U (cc _ dM) (.gW l es i _ tag h0 _ hb hle (fun ht=> ?_));rw[ha ht,Addr.add_lit,qy]
     ·rename_i vs me e
      simp only[aA,bq]at he;obtain⟨rfl,rfl,rfl⟩:=he;rw[e]at af;obtain⟨b,o',vals,bk,hc,hr,dM⟩:=af.M9;refine .same U (cc _ dM) ?_;rw[Addr.add_lit,qy];exact .dH vs _ b o' vals bk hc hr
     ·cases he
   ·cases hc
  ·cases hc
 ·cases hc
theorem agH (U:aX C fid G H w)(aN:fr C fid vars G w ag ρ){t:TypeId}{a:Operand}(ho:o.op=.load t a)(hc:C.cO vars pos o.op=some df)(he:step ag H low df=some (v,H',low')):
  c3 C fid G H w low ((execOp ρ o).run C.P w) v H' low':=by
 rw[ho]at hc;simp only[Ctx.cO]at hc;split at hc
 ·rename_i sh cE h1 h2
  simp only[aA]at hc;subst hc;simp only[step]at he;obtain⟨u,hu,he⟩:=cj.1 he;simp only[bq]at he;obtain⟨rfl,rfl,rfl⟩:=he;obtain⟨y,hy,e5⟩:=T6 U h1 (aN a cE h2) hu;exact .same U (x:=y) (by unfold execOp;rw[ho];simp only[Sem.run_bind,hy,Result.andThen_ok,Sem.run_pure]) e5
 ·cases hc
theorem agI (U:aX C fid G H w)(aN:fr C fid vars G w ag ρ){t:TypeId}{a x:Operand}(ho:o.op=.store t a x)(hc:C.cO vars pos o.op=some df)(kB:low<=H.length)(he:step ag H low df=some (v,H',low')):
  c3 C fid G H w low ((execOp ρ o).run C.P w) v H' low':=by
 rw[ho]at hc;simp only[Ctx.cO]at hc;split at hc
 ·rename_i n cE kg h1 h2 ar
  simp only[aA]at hc;subst hc;simp only[step]at he;obtain⟨⟨H1,l⟩,hu,he⟩:=cj.1 he;simp only[bq]at he;obtain⟨rfl,rfl,rfl⟩:=he;obtain⟨aD,ay,cc,bB,ab,hl,hlen⟩:=agv U h1 (aN a cE h2) (aN x kg ar) hu;exact⟨undef,aD,ay,.inr ⟨by unfold execOp;rw[ho];simp only[Sem.run_bind,cc,Result.andThen_ok,Sem.run_pure],rfl⟩,bB,fun m hm=>ab.le (cM hm (nB _ _)) (aF _),.undef _,jO _ _,Nat.le_of_eq hlen.symm⟩
 ·cases hc
theorem Ud{t:TypeId}{z:List V}{cs:List Value}(h:a1 fid G w z cs):a1 fid G w (C.mark t z) cs:=by
 unfold Ctx.mark;split
 ·cases C.yQ==some t with
  |true=>cases h with|cons _ x _ xs _ hs=>exact .cons _ _ _ _ (.undef x) hs
  |false=>exact h
 ·exact h
theorem Ue{t:TypeId}{z:List V}(bh:bM z=true){c:Array Value}{b:Nat}(hr:a1 fid G w z c.toList)(hb:w'.heap[b]? =some (.cells c t (0,0))):D1 C w' b (C.mark t z):=fun v af=>by
 unfold Ctx.mark at af;split at af
 ·cases ht:C.yQ==some t with
  |true=>
   refine⟨c,t,hb,eq_of_beq ht,.inl ?_⟩;rw[<-gr];generalize c.toList=l at hr;cases hr with
   |cons _ x _ xs h1 hs=>
    cases h1 with
    |p _ _ h=>cases h;rfl
  |false=>rw[ht]at af;simp at af
 ·rw[af]at bh;simp[bM,ez]at bh
theorem agJ{vs:List V}(bh:bM vs=true){b:Nat}:D1 C w b vs:=fun v af=>by
 rw[af]at bh;simp[bM,ez]at bh
theorem agK (U:aX C fid G H w){t:TypeId}(ho:o.op=.alloc t)(hc:C.cO vars pos o.op=some df)(he:step ag H low df=some (v,H',low')):
  c3 C fid G H w low ((execOp ρ o).run C.P w) v H' low':=by
 rw[ho]at hc;obtain⟨z,aO,rfl⟩:=cj.1 hc;simp only[step,aA,bq]at he;obtain⟨rfl,rfl,rfl⟩:=he;unfold Ctx.zeroCells at aO;split at aO
 ·rename_i i hi
  split at aO
  ·rename_i cv BJ
   split at aO
   ·rename_i vs cW
    split at aO
    ·rename_i bh
     simp only[aA]at aO;subst aO;refine .alloc U 0 0 (x:=.pointer (some ⟨w.heap.size,0,none⟩)) (aP:=.cells cv.cells t) ?_ ⟨⟨rfl,Ue (G:=G) (fid:=fid) (w:=w) bh (c8.ov (D6 _ cW)) (mi _ _)⟩,rfl,cv.cells,t,mi _ _,?_⟩ (.ptr _ _ ⟨w.heap.size,0,0,false⟩ (dh _ _ _) rfl)
     ·unfold execOp;rw[ho]
      simp only[Instr.alloc,zeroValue,Sem.run_bind,run_typeInfo (P:=C.P) w hi,Result.andThen_ok,BJ,Sem.run_pure,newVar,newRow,run_newObj,World.alloc_eq]
     ·exact Ud (c8.ov (D6 _ cW))
    ·cases aO
   ·cases aO
  ·cases aO
 ·cases aO
theorem agL (U:aX C fid G H w)(aN:fr C fid vars G w ag ρ){t:TypeId}{x:Operand}(ho:o.op=.box t x)(hc:C.cO vars pos o.op=some df)(he:step ag H low df=some (v,H',low')):
  c3 C fid G H w low ((execOp ρ o).run C.P w) v H' low':=by
 rw[ho]at hc;obtain⟨cE,hx,rfl⟩:=cj.1 hc;simp only[step]at he;split at he
 ·rename_i bh
  simp only[aA,bq]at he;obtain⟨rfl,rfl,rfl⟩:=he;have af:=aN x cE hx;refine .alloc U 0 0 (x:=.pointer (some ⟨w.heap.size,0,none⟩)) (aP:=.cells (ρ x).cells t) ?_ ⟨⟨rfl,agJ bh⟩,rfl,(ρ x).cells,t,mi _ _,?_⟩ (.ptr _ _ ⟨w.heap.size,0,0,false⟩ (dh _ _ _) rfl)
  ·unfold execOp;rw[ho]
   simp only[Instr.box,Sem.run_bind,Sem.run_pure,Result.andThen_ok,newVar,newRow,run_newObj,World.alloc_eq]
  ·exact(BG af bh).1.ext U (Ext.push U _ 0 0 0)
 ·cases he
theorem agM (U:aX C fid G H w){t:TypeId}{r:Option Operand}(ho:o.op=.makeMap t r)(hc:C.cO vars pos o.op=some df)(he:step ag H low df=some (v,H',low')):
  c3 C fid G H w low ((execOp ρ o).run C.P w) v H' low':=by
 rw[ho]at hc;cases r with
 |some _=>simp[Ctx.cO]at hc
 |none=>
  simp only[Ctx.cO,aA]at hc;subst hc;simp only[step,aA,bq]at he;obtain⟨rfl,rfl,rfl⟩:=he;refine .alloc U 0 0 (x:=.map (some w.heap.size)) (aP:=.map #[] 0) ?_ ⟨rfl,rfl,#[],0,mi _ _,.nil,.nil,⟨fun x hx=>by simp at hx,by simp⟩⟩ (.map _ ⟨w.heap.size,0,0,false⟩ (dh _ _ _) rfl);unfold execOp;rw[ho];simp only[Instr.makeMap,Sem.run_bind,Sem.run_pure,Result.andThen_ok,run_newObj,World.alloc_eq,yE]
theorem Nf{u:V}{n:Nat}(h:ku u=some n):∃k m,u=.int k m/\0<=m/\m.toNat=n:=by
 unfold ku at h;split at h
 ·split at h
  ·simp only[aA]at h
   exact⟨_,_,rfl,by assumption,h⟩
  ·cases h
 ·cases h
theorem agN (U:aX C fid G H w)(aN:fr C fid vars G w ag ρ){t:TypeId}{x i:Operand}(ho:o.op=.index t x i)(hc:C.cO vars pos o.op=some df)(he:step ag H low df=some (v,H',low')):
  c3 C fid G H w low ((execOp ρ o).run C.P w) v H' low':=by
 rw[ho]at hc;simp only[Ctx.cO]at hc;split at hc
 ·rename_i cE kg h1 h2 ar
  simp only[aA]at hc;subst hc;simp only[step]at he;split at he
  ·rename_i s n ab aj
   obtain⟨c,sQ,he⟩:=cj.1 he;simp only[bq]at he;obtain⟨rfl,rfl,rfl⟩:=he;obtain⟨k,m,bC,hm,hn⟩:=Nf aj;have hx:=aN x cE h2;have hi:=aN i kg ar;rw[ab]at hx;rw[bC]at hi;refine .same U (x:=.int .u8 c.toNat) ?_ (.p _ _ (.int _ _));unfold execOp;rw[ho]
   have rM:(⟨⟨s⟩⟩:ByteArray)[m.toNat]? =some c:=by
    rw[hn];obtain⟨aK,bg⟩:=e0.1 sQ;have:n<(⟨⟨s⟩⟩:ByteArray).size:=aK;rw[getElem?_pos (c:=(⟨⟨s⟩⟩:ByteArray)) (i:=n) (h:=this)];congr 1
   simp only[hx.ox,hi.jA,Instr.index,asIntOf,Sem.run_bind,Sem.run_pure,Result.andThen_ok,run_underlying h1,hm,if_true,rM]
  ·cases he
 ·cases hc
end Go.Abs
namespace Go.Abs
open Go
variable{C:Ctx}{fid:Nat->Nat}{w w':World}{G G':bT}{H:Heap}
variable{vars:List Nat}{ag:ai->V}{ρ:Operand->Value}{low low':Nat}{v:V}{H':Heap}{pos:String}{df:cN}{o:Oper}
theorem bytes_beq (s t:List UInt8):((⟨⟨s⟩⟩:ByteArray).toList==(⟨⟨t⟩⟩:ByteArray).toList)=(s==t):=by
 rw[ByteArray.toList_eq,ByteArray.toList_eq]
theorem agO{op:BinOp}{t:TypeId}{a b u:V}{x y:Value}(ha:bd fid G w a x)(hb:bd fid G w b y)(hu:eg op a b=some u):
  ∃z,(binOp op t x y).run C.P w=.ok z w/\bd fid G w u z/\∀(xr vj:Operand),eqGuard op t xr vj x y=pure ():=by
 unfold eg at hu;split at hu
 ·rename_i k a8 bz eA
  split at hu
  ·rename_i hc
   simp only[aA]at hu;subst hu;rw[ha.jA,hb.jA];refine⟨.int k (k.wrap (a8*2^eA.toNat)),?_,.p _ _ (.int _ _),fun _ _=>rfl⟩;simp only[binOp,Op.shift,Int.not_lt.2 hc.1,if_false,qx hc.2,Sem.run_pure]
  ·cases hu
 ·rename_i k a8 bz eA
  split at hu
  ·rename_i hc
   simp only[aA]at hu;subst hu;rw[ha.jA,hb.jA];refine⟨.int k (a8/2^eA.toNat),?_,.p _ _ (.int _ _),fun _ _=>rfl⟩;have h2:(0:Int)<=2^eA.toNat:=Int.pow_nonneg (by decide);simp only[binOp,Op.shift,Int.not_lt.2 hc.1,if_false,qx hc.2,Sem.run_pure,Int.fdiv_eq_ediv_of_nonneg _ h2]
  ·cases hu
 ·rename_i k a8 bz eA gI nL
  split at hu
  ·cases hu
  ·rename_i hk
   have hk:k=bz:=by simpa using hk
   subst hk;rw[ha.jA,hb.jA];have a6:∀(xr vj:Operand),eqGuard op t xr vj (.int k a8) (.int k eA)=pure ():=fun _ _=>by cases op<;>rfl
   cases op<;>dsimp only at hu<;>
    first
    |(cases hu;done)
    |(simp only[aA]at hu;subst hu
      refine⟨_,?_,.p _ _ (.int _ _),a6⟩;simp only[binOp,ne_eq,not_true,if_false,Op.intArith,Op.intBits,Sem.run_pure];done)
    |(simp only[aA]at hu;subst hu
      refine⟨_,?_,.p _ _ (.bool _),a6⟩;simp only[binOp,ne_eq,not_true,if_false,Op.intCmp,Sem.run_pure];done)
    |(split at hu
      ·cases hu
      ·rename_i aO
       simp only[aA]at hu;subst hu;refine⟨_,?_,.p _ _ (.int _ _),a6⟩;simp only[binOp,ne_eq,not_true,if_false,Op.intDiv,aO,Sem.run_pure])
 ·rename_i a8 eA
  split at hu
  ·rename_i hc
   simp only[aA]at hu;subst hu;rw[ha.ox,hb.ox];refine⟨.string ⟨⟨a8++eA⟩⟩,?_,.p _ _ (.str _),fun _ _=>rfl⟩
   have dk:¬((((⟨⟨a8⟩⟩:ByteArray).size+(⟨⟨eA⟩⟩:ByteArray).size:Nat):Int)>IntKind.i64.max):=by
    rw[IntKind.max_i64];have ab:(⟨⟨a8⟩⟩:ByteArray).size=a8.length:=rfl;have aj:(⟨⟨eA⟩⟩:ByteArray).size=eA.length:=rfl;rw[ab,aj];omega
   have agP:(⟨⟨a8⟩⟩:ByteArray)++(⟨⟨eA⟩⟩:ByteArray)=⟨⟨a8++eA⟩⟩:=by
    apply ByteArray.ext;rw[ByteArray.data_append];simp
   simp only[binOp,Op.stringOp,dk,if_false,agP,Sem.run_pure]
  ·cases hu
 ·rename_i a8 eA
  simp only[aA]at hu;subst hu;rw[ha.ox,hb.ox];refine⟨.bool (a8==eA),?_,.p _ _ (.bool _),fun _ _=>rfl⟩;simp only[binOp,Op.stringOp,bytes_beq,Sem.run_pure]
 ·rename_i a8 eA
  simp only[aA]at hu;subst hu;rw[ha.ox,hb.ox];refine⟨.bool (a8 != eA),?_,.p _ _ (.bool _),fun _ _=>rfl⟩;simp only[binOp,Op.stringOp,bytes_beq,Sem.run_pure,bne]
 ·cases hu
theorem bd.rN{x:Value}(h:bd fid G w .jd x):x=.pointer none:=by cases h with|p _ _ h=>cases h;rfl
theorem bd.jh{x:Value}(h:bd fid G w .bX x):x=.slice none 0 0:=by cases h with|p _ _ h=>cases h;rfl
theorem bd.rO{x:Value}(h:bd fid G w .emp x):∃a,x=.slice (some a) 0 0:=by cases h with|p _ _ h=>cases h;exact⟨_,rfl⟩
theorem bd.vk{x:Value}(h:bd fid G w .kt x):x=.nilFunc:=by cases h with|p _ _ h=>cases h;rfl
theorem bd.vl{x:Value}(h:bd fid G w .jQ x):x=.nilIface:=by cases h with|p _ _ h=>cases h;rfl
theorem bd.Ng{x:Value}(h:bd fid G w .jt x):x=.map none:=by cases h with|p _ _ h=>cases h;rfl
theorem bd.Nh{x:Value}{t:Nat}{v:V}(h:bd fid G w (.iface t v) x):∃y,x=.iface t y/\bd fid G w v y:=by
 cases h with
 |p _ _ h=>cases h with|iface _ _ y h=>exact⟨y,rfl,.p _ _ h⟩
 |iface _ _ y h=>exact⟨y,rfl,h⟩
theorem bd.xt{x:Value}{es:Nat}{ds:List V}(h:bd fid G w (.list es ds) x):
  ∃a cap,x=.slice (some a) ds.length cap/\ds.length<=cap/\(ds=[]\/∃b o vals,a=⟨b,o,none⟩/\G.I b/\iz w b o vals/\(∀d∈ds,(aE d).length=es)/\c8 w G.I (ds.flatMap aE) vals):=by
 cases h with
 |p _ _ h=>cases h with
  |ve _ a cap=>exact⟨a,cap,rfl,cD _,.inl rfl⟩
  |list _ _ b o cap vals bk hc hu hr hl=>exact⟨_,cap,rfl,hl,.inr ⟨b,o,vals,rfl,bk,hc,hu,hr⟩⟩
def kindOk:Nat->TypeDesc->Prop
 |0,d=>∃ej,d=.pointer ej
 |1,d=>∃ej,d=.slice ej
 |2,d=>∃p r b,d=.func p r b
 |3,d=>∃m,d=.interface m
 |4,d=>d=.bool
 | _,_=>False
theorem agQ{t:TypeId}{d:TypeDesc}(hd:C.P.underlying t=some d){kind:Nat}{a b:V}{e:Bool}{x y:Value}(ha:bd fid G w a x)(hb:bd fid G w b y)(hu:qD kind a b=some e)
  (hk:kindOk kind d):
  (Op.equal t x y).run C.P w=.ok e w:=by
 show(Op.equalIn (9999+1) t x y).run C.P w=.ok e w;generalize 9999=depth;unfold qD at hu;split at hu
 ·simp only[aA]at hu;subst hu
  obtain⟨ej,rfl⟩:=hk;rw[ha.rN,hb.rN];simp[Op.equalIn,run_underlying hd]
 ·simp only[aA]at hu;subst hu
  obtain⟨ej,rfl⟩:=hk;obtain⟨h0,-,-,rfl⟩:=ha.nH;rw[hb.rN];simp[Op.equalIn,run_underlying hd]
 ·simp only[aA]at hu;subst hu
  obtain⟨ej,rfl⟩:=hk;obtain⟨h0,-,-,rfl⟩:=hb.nH;rw[ha.rN];simp[Op.equalIn,run_underlying hd]
 ·simp only[aA]at hu;subst hu
  obtain⟨ej,rfl⟩:=hk;rw[ha.jh,hb.jh];simp[Op.equalIn,run_underlying hd]
 ·simp only[aA]at hu;subst hu
  obtain⟨ej,rfl⟩:=hk;obtain⟨_,rfl⟩:=ha.rO;rw[hb.jh];simp[Op.equalIn,run_underlying hd]
 ·simp only[aA]at hu;subst hu
  obtain⟨ej,rfl⟩:=hk;obtain⟨_,_,rfl,-⟩:=ha.xt;rw[hb.jh];simp[Op.equalIn,run_underlying hd]
 ·simp only[aA]at hu;subst hu
  obtain⟨ej,rfl⟩:=hk;obtain⟨_,_,_,_,-,-,-,rfl⟩:=ha.nI;rw[hb.jh];simp[Op.equalIn,run_underlying hd]
 ·simp only[aA]at hu;subst hu
  obtain⟨p,r,eA,rfl⟩:=hk;rw[ha.vk,hb.vk];simp[Op.equalIn,run_underlying hd]
 ·simp only[aA]at hu;subst hu
  obtain⟨p,r,eA,rfl⟩:=hk;obtain⟨_,_,-,-,rfl⟩:=ha.BF;rw[hb.vk];simp[Op.equalIn,run_underlying hd]
 ·simp only[aA]at hu;subst hu
  obtain⟨m,rfl⟩:=hk;rw[ha.vl,hb.vl];simp[Op.equalIn,run_underlying hd]
 ·simp only[aA]at hu;subst hu
  obtain⟨m,rfl⟩:=hk;obtain⟨_,rfl,-⟩:=ha.Nh;rw[hb.vl];simp[Op.equalIn,run_underlying hd]
 ·simp only[aA]at hu;subst hu
  subst hk;rw[ha.kY,hb.kY];simp[Op.equalIn,run_underlying hd]
 ·cases hu
theorem agR{t:TypeId}{kind:Nat}{a b:V}{e:Bool}{x y:Value}(ha:bd fid G w a x)(hb:bd fid G w b y)(hu:qD kind a b=some e)(neg:Bool)
  (bg:(Op.equal t x y).run C.P w=.ok e w):
  (binOp (if neg then .neq else .eql) t x y).run C.P w=.ok (.bool (if neg then !e else e)) w:=by
 have key:binOp (if neg then .neq else .eql) t x y=(do let q <-Op.equal t x y;pure (.bool (if neg then !q else q))):=by
  unfold qD at hu;split at hu
  ·rw[ha.rN,hb.rN];cases neg<;>rfl
  ·obtain⟨h0,-,-,rfl⟩:=ha.nH;rw[hb.rN];cases neg<;>rfl
  ·obtain⟨h0,-,-,rfl⟩:=hb.nH;rw[ha.rN];cases neg<;>rfl
  ·rw[ha.jh,hb.jh];cases neg<;>rfl
  ·obtain⟨_,rfl⟩:=ha.rO;rw[hb.jh];cases neg<;>rfl
  ·obtain⟨_,_,rfl,-⟩:=ha.xt;rw[hb.jh];cases neg<;>rfl
  ·obtain⟨_,_,_,_,-,-,-,rfl⟩:=ha.nI;rw[hb.jh];cases neg<;>rfl
  ·rw[ha.vk,hb.vk];cases neg<;>rfl
  ·obtain⟨_,_,-,-,rfl⟩:=ha.BF;rw[hb.vk];cases neg<;>rfl
  ·rw[ha.vl,hb.vl];cases neg<;>rfl
  ·obtain⟨_,rfl,-⟩:=ha.Nh;rw[hb.vl];cases neg<;>rfl
  ·rw[ha.kY,hb.kY];cases neg<;>rfl
  ·cases hu
 rw[key,Sem.run_bind,bg];cases neg<;>rfl
theorem agS{op:BinOp}{t:TypeId}{kind:Nat}{a b:V}{e:Bool}{x y:Value}{xr vj:Operand}(ha:bd fid G w a x)(hb:bd fid G w b y)(hu:qD kind a b=some e)
  (hc:kind=3->∃c,vj=.const c):eqGuard op t xr vj x y=pure ():=by
 unfold qD at hu;split at hu
 ·rw[ha.rN,hb.rN];cases op<;>rfl
 ·obtain⟨h0,-,-,rfl⟩:=ha.nH;rw[hb.rN];cases op<;>rfl
 ·obtain⟨h0,-,-,rfl⟩:=hb.nH;rw[ha.rN];cases op<;>rfl
 ·rw[ha.jh,hb.jh];cases op<;>rfl
 ·obtain⟨_,rfl⟩:=ha.rO;rw[hb.jh];cases op<;>rfl
 ·obtain⟨_,_,rfl,-⟩:=ha.xt;rw[hb.jh];cases op<;>rfl
 ·obtain⟨_,_,_,_,-,-,-,rfl⟩:=ha.nI;rw[hb.jh];cases op<;>rfl
 ·rw[ha.vk,hb.vk];cases op<;>rfl
 ·obtain⟨_,_,-,-,rfl⟩:=ha.BF;rw[hb.vk];cases op<;>rfl
 ·rw[ha.vl,hb.vl]
  obtain⟨c,rfl⟩:=hc rfl;unfold eqGuard;cases op<;>simp
 ·obtain⟨_,rfl,-⟩:=ha.Nh;rw[hb.vl];cases op<;>rfl
 ·rw[ha.kY,hb.kY];cases op<;>rfl
 ·cases hu
theorem agT{y:Operand}{lx:ai}(h:C.b5 vars y=some lx)(hn:Ctx.H4 lx=true):∃c,y=.const c:=by
 cases y with
 |const c=>exact⟨c,rfl⟩
 |tmp t=>
  simp only[Ctx.b5,aA]at h;subst h;split at hn<;>simp[Ctx.H4]at hn
 |func f=>
  simp only[Ctx.b5,cj]at h;obtain⟨_,-,rfl⟩:=h;simp[Ctx.H4]at hn
 |global g=>simp[Ctx.b5]at h
theorem Uf{t:TypeId}{k:Nat}(hk:C.jS t=some k){a b:V}{x y:Value}{e:Bool}(ha:bd fid G w a x)(hb:bd fid G w b y)(he:ix k a b=some e)(d:Nat):
  (Op.equalIn (d+1) t x y).run C.P w=.ok e w:=by
 unfold Ctx.jS at hk;unfold ix at he;split at he
 ·split at he
  ·rename_i Ea
   simp only[aA]at he;subst he;subst Ea;rw[ha.jA,hb.jA];split at hk<;>rename_i hd<;>simp at hk;exact run_equalIn_int w d t _ _ _ _ hd
  ·cases he
 ·simp only[aA]at he;subst he
  rw[ha.ox,hb.ox];split at hk<;>rename_i hd<;>simp at hk;rw[run_equalIn_string w d t _ _ hd,bytes_beq]
 ·simp only[aA]at he;subst he
  rw[ha.kY,hb.kY];split at hk<;>rename_i hd<;>simp at hk;exact run_equalIn_bool' w d t _ _ hd
 ·cases he
theorem Ug{t:TypeId}{k:Nat}(hk:C.jS t=some k)(w:World):(isAgg t).run C.P w=.ok false w:=by
 unfold Ctx.jS at hk;unfold isAgg;split at hk<;>rename_i hd<;>first|(cases hk;done)|(rw[Sem.run_bind,run_underlying hd];rfl)
theorem Uh{xs cB:List V}{pb pd:List Value}(hx:a1 fid G w xs pb)(hy:a1 fid G w cB pd)(d:Nat):∀(fs:List Field) (i:Nat) (ks:List Nat) (e:Bool),C.DU i fs=some ks->
  kx ks (xs.drop i) (cB.drop i)=some e->(Op.eqFields (d+1) ⟨pb⟩ ⟨pd⟩ fs).run C.P w=.ok e w
 |[],i,ks,e,hk,he=>by
  simp only[Ctx.DU,aA]at hk;subst hk;unfold kx at he;split at he
  ·simp only[aA]at he;subst he;rfl
  ·simp_all
  ·cases he
 |f::fs,i,ks,e,hk,he=>by
  simp only[Ctx.DU]at hk;split at hk
  ·rename_i k BK
   split at hk
   ·rename_i hc
    simp only[cn,bne_iff_ne,ne_eq,beq_iff_eq]at hc;obtain⟨sR,eD,rfl⟩:=cj.1 hk;cases sS:xs.drop i with
    |nil=>rw[sS]at he;simp[kx]at he
    |cons a uf=>
     cases vm:cB.drop i with
     |nil=>rw[sS,vm]at he;simp[kx]at he
     |cons b Ni=>
      rw[sS,vm]at he;simp only[kx]at he;have cE:xs[i]? =some a:=by have:=congrArg (·[0]?) sS;simpa using this
      have lx:cB[i]? =some b:=by have:=congrArg (·[0]?) vm;simpa using this
      have Nj:xs.drop (i+1)=uf:=by have:=congrArg (List.drop 1) sS;simpa[tY]using this
      have Nk:cB.drop (i+1)=Ni:=by have:=congrArg (List.drop 1) vm;simpa[tY]using this
      obtain⟨dt,gw,Nl⟩:=hx.get cE;obtain⟨Eb,rP,Nn⟩:=hy.get lx;split at he
      ·rename_i ab mm
       split at he
       ·rename_i aj nM
        simp only[aA]at he;subst he;rw[<-Nj,<-Nk]at nM;have ih:=Uh hx hy d fs (i+1) sR aj eD nM
        have hp:∀(l:List Value) (z:Value),l[i]? =some z->(part f.type ⟨l⟩ f.offset).run C.P w=.ok z w:=by
         intro l z aO;unfold part;simp only[Sem.run_bind,Ug BK,Result.andThen_ok,fE,if_false,hc.2,sD,aO,Sem.run_pure]
        simp only[Op.eqFields,hc.1,ne_eq,not_false_eq_true,if_true,Sem.run_bind,hp pb dt gw,hp pd Eb rP,Result.andThen_ok,Uf BK Nl Nn mm d,Sem.run_ite,Sem.run_pure,ih];cases ab<;>simp
       ·cases he
      ·cases he
   ·cases hk
  ·cases hk
theorem Ui:∀(qH y1:List Nat) (x y:List V) {e:Bool},kx (qH++y1) x y=some e->
  ∃ab aj,kx qH (x.take qH.length) (y.take qH.length)=some ab/\kx y1 (x.drop qH.length) (y.drop qH.length)=some aj/\e=(ab&&aj)
 |[],y1,x,y,e,h=>⟨true,e,by simp[kx],by simpa using h,by simp⟩
 |k::ks,y1,[],y,e,h=>by simp[kx]at h
 |k::ks,y1,_::_,[],e,h=>by simp[kx]at h
 |k::ks,y1,a::x,b::y,e,h=>by
  simp only[lN,kx]at h;split at h
  ·rename_i eL h0
   split at h
   ·rename_i vn mn
    obtain⟨ab,aj,q1,q2,rfl⟩:=Ui ks y1 x y mn;simp only[aA]at h;exact⟨eL&&ab,aj,by simp[kx,h0,q1],by simpa using q2,by rw[<-h,yF]⟩
   ·cases h
  ·cases h
theorem Np{xs cB:List V}{pb pd:List Value}(hx:a1 fid G w xs pb)(hy:a1 fid G w cB pd)(d:Nat):∀(fs:List Field) (i:Nat) (ks:List Nat) (e:Bool),C.Bs i fs=some ks->
  kx ks (xs.drop i) (cB.drop i)=some e->(Op.eqFields (d+2) ⟨pb⟩ ⟨pd⟩ fs).run C.P w=.ok e w
 |[],i,ks,e,hk,he=>by
  simp only[Ctx.Bs,aA]at hk;subst hk;unfold kx at he;split at he
  ·simp only[aA]at he;subst he;rfl
  ·simp_all
  ·cases he
 |f::fs,i,ks,e,hk,he=>by
  simp only[Ctx.Bs]at hk;split at hk
  ·rename_i k BK
   split at hk
   ·rename_i hc
    simp only[cn,bne_iff_ne,ne_eq,beq_iff_eq]at hc;obtain⟨sR,eD,rfl⟩:=cj.1 hk;cases sS:xs.drop i with
    |nil=>rw[sS]at he;simp[kx]at he
    |cons a uf=>
     cases vm:cB.drop i with
     |nil=>rw[sS,vm]at he;simp[kx]at he
     |cons b Ni=>
      rw[sS,vm]at he;simp only[kx]at he;have cE:xs[i]? =some a:=by have:=congrArg (·[0]?) sS;simpa using this
      have lx:cB[i]? =some b:=by have:=congrArg (·[0]?) vm;simpa using this
      have Nj:xs.drop (i+1)=uf:=by have:=congrArg (List.drop 1) sS;simpa[tY]using this
      have Nk:cB.drop (i+1)=Ni:=by have:=congrArg (List.drop 1) vm;simpa[tY]using this
      obtain⟨dt,gw,Nl⟩:=hx.get cE;obtain⟨Eb,rP,Nn⟩:=hy.get lx;split at he
      ·rename_i ab mm
       split at he
       ·rename_i aj nM
        simp only[aA]at he;subst he;rw[<-Nj,<-Nk]at nM;have ih:=Np hx hy d fs (i+1) sR aj eD nM
        have hp:∀(l:List Value) (z:Value),l[i]? =some z->(part f.type ⟨l⟩ f.offset).run C.P w=.ok z w:=by
         intro l z aO;unfold part;simp only[Sem.run_bind,Ug BK,Result.andThen_ok,fE,if_false,hc.2,sD,aO,Sem.run_pure]
        simp only[Op.eqFields,hc.1,ne_eq,not_false_eq_true,if_true,Sem.run_bind,hp pb dt gw,hp pd Eb rP,Result.andThen_ok,Uf BK Nl Nn mm (d+1),Sem.run_ite,Sem.run_pure,ih];cases ab<;>simp
       ·cases he
      ·cases he
   ·cases hk
  ·rename_i BK
   split at hk
   ·rename_i gs y2
    split at hk
    ·rename_i qH agU
     split at hk
     ·rename_i hc
      simp only[cn,bne_iff_ne,ne_eq,beq_iff_eq,mb]at hc;obtain⟨⟨⟨dj,eG⟩,e3⟩,hO⟩:=hc;obtain⟨sR,eD,rfl⟩:=cj.1 hk;obtain⟨ab,aj,mm,nM,rfl⟩:=Ui qH sR _ _ he;rw[tY,tY]at nM;have ih:=Np hx hy d fs (i+qH.length) sR aj eD nM;have BL:C.P.fieldsOf f.type=gs:=by unfold Program.fieldsOf;rw[y2]
      have hp:∀(l:List Value),(part f.type ⟨l⟩ f.offset).run C.P w=.ok (.agg ⟨(l.drop i).take qH.length⟩) w:=by
       intro l;have M1:(isAgg f.type).run C.P w=.ok true w:=by unfold isAgg;rw[Sem.run_bind,run_underlying y2];rfl
       unfold Ctx.sizeOf at hO;obtain⟨inf,agV,dk⟩:=cj.1 hO;unfold part;simp only[Sem.run_bind,M1,Result.andThen_ok,if_true,sizeOf,typeInfo,agV,run_program,Sem.run_pure,dk,eG];congr 2;rw[<-Array.toList_inj];simp[List.take_drop,Nat.add_comm]
      have hin:(Op.equalIn (d+2) f.type (.agg ⟨(pb.drop i).take qH.length⟩) (.agg ⟨(pd.drop i).take qH.length⟩)).run C.P w=.ok ab w:=by
       rw[run_equalIn_struct (P:=C.P) w (d+1) f.type _ _ (by rw[BL];exact y2) e3,BL];exact Uh ((hx.drop i).take _) ((hy.drop i).take _) d gs.toList 0 qH ab agU (by simpa using mm)
      simp only[Op.eqFields,dj,ne_eq,not_false_eq_true,if_true,Sem.run_bind,hp pb,hp pd,Result.andThen_ok,hin,Sem.run_ite,Sem.run_pure,ih];cases ab<;>simp
     ·cases hk
    ·cases hk
   ·cases hk
theorem agW{t:TypeId}{fs:Array Field}{ks:List Nat}(hd:C.P.underlying t=some (.struct fs))(hs:C.structEq t=some ks){xs cB:List V}{pb pd:List Value}(hx:a1 fid G w xs pb)(hy:a1 fid G w cB pd)
  {e:Bool} (he:kx ks xs cB=some e) (neg:Bool) (xr vj:Operand):
  (do eqGuard (if neg then .neq else .eql) t xr vj (.agg ⟨pb⟩) (.agg ⟨pd⟩);binOp (if neg then .neq else .eql) t (.agg ⟨pb⟩) (.agg ⟨pd⟩)).run C.P w=.ok (.bool (if neg then !e else e)) w:=by
 unfold Ctx.structEq at hs;rw[hd]at hs;simp only at hs;split at hs
 ·rename_i hc
  simp only[cn,mb]at hc;have ae:C.P.fieldsOf t=fs:=by unfold Program.fieldsOf;rw[hd]
  have key:(Op.equalIn 10000 t (.agg ⟨pb⟩) (.agg ⟨pd⟩)).run C.P w=.ok e w:=by
   rw[run_equalIn_struct (P:=C.P) w 9999 t _ _ (by rw[ae];exact hd) hc.1,ae];exact Np hx hy 9997 fs.toList 0 ks e hs (by simpa using he)
  rw[Sem.run_bind,run_eqGuard_agg w _ t xr vj _ _ hc.2];cases neg
  ·simp only[fE,if_false,Result.andThen_ok,run_eql_struct,key]
  ·simp only[if_true,Result.andThen_ok,run_neq_struct,key]
 ·cases hs
theorem agX (U:aX C fid G H w)(aN:fr C fid vars G w ag ρ){Ec:BinOp}{t ej:TypeId}{x y:Operand}(ho:o.op=.binOp Ec t x y ej)(hc:C.cO vars pos o.op=some df)(he:step ag H low df=some (v,H',low')):
  c3 C fid G H w low ((execOp ρ o).run C.P w) v H' low':=by
 rw[ho]at hc;simp only[Ctx.cO]at hc;split at hc
 ·rename_i cE lx h1 h2
  have hx:=aN x cE h1;have hy:=aN y lx h2
  have plain:∀{a b:BinOp},step ag H low (.bin Ec cE lx)=some (v,H',low')->a=b->c3 C fid G H w low ((execOp ρ o).run C.P w) v H' low':=by
   intro _ _ he _;simp only[step]at he;obtain⟨u,hu,he⟩:=cj.1 he;simp only[bq]at he;obtain⟨rfl,rfl,rfl⟩:=he;obtain⟨z,aO,e5,a6⟩:=agO (C:=C) (t:=t) hx hy hu;refine .same U (x:=z) ?_ e5;unfold execOp;rw[ho];simp only[a6,Sem.run_bind,Sem.run_pure,Result.andThen_ok,aO]
  have agg:∀(neg:Bool) {fs:Array Field},Ec=(if neg then .neq else .eql)->C.P.underlying t=some (.struct fs)->(C.structEq t).map (fun n=>cN.yK neg n cE lx)=some df->c3 C fid G H w low ((execOp ρ o).run C.P w) v H' low':=by
   intro neg fs dm hd hm;obtain⟨n,hn,rfl⟩:=cj.1 hm;simp only[step]at he;split at he
   ·rename_i xs cB ab aj
    obtain⟨e,Ed,he⟩:=cj.1 he;simp only[bq]at he;obtain⟨rfl,rfl,rfl⟩:=he;rw[ab]at hx;rw[aj]at hy;obtain⟨pb,dM,agY⟩:=hx.D2;obtain⟨pd,Ee,agZ⟩:=hy.D2;have key:=agW hd hn agY agZ Ed neg x y;rw[<-dm]at key;refine .same U (x:=.bool (if neg then !e else e)) ?_ (.p _ _ (.bool _));unfold execOp;rw[ho];simp only[dM,Ee];rw[Sem.run_bind,key];rfl
   ·cases he
  have kinds:∀(neg:Bool) {d:TypeDesc},Ec=(if neg then .neq else .eql)->C.P.underlying t=some d->Ctx.yR d cE lx (.bin Ec cE lx) neg=some df->c3 C fid G H w low ((execOp ρ o).run C.P w) v H' low':=by
   intro neg d dm hd hk
   have go:∀kind,df=.rF kind neg cE lx->kindOk kind d->
     (kind=3->∃c,y=.const c)->c3 C fid G H w low ((execOp ρ o).run C.P w) v H' low':=by
    intro kind ha Ea sQ;subst ha;simp only[step]at he;obtain⟨e,Ed,he⟩:=cj.1 he;simp only[bq]at he;obtain⟨rfl,rfl,rfl⟩:=he;have bg:=agQ (t:=t) hd hx hy Ed Ea;have hb:=agR hx hy Ed neg bg;rw[<-dm]at hb;refine .same U (x:=.bool (if neg then !e else e)) ?_ (.p _ _ (.bool _));unfold execOp;rw[ho];simp only[agS hx hy Ed sQ,Sem.run_bind,Sem.run_pure,Result.andThen_ok,hb]
   unfold Ctx.yR at hk;split at hk
   ·simp only[aA]at hk;subst hk;exact plain (a:=.add) (b:=.add) he rfl
   ·simp only[aA]at hk;subst hk;exact plain (a:=.add) (b:=.add) he rfl
   ·simp only[aA]at hk;exact go 0 hk.symm ⟨_,rfl⟩ (fun h=>by cases h)
   ·simp only[aA]at hk;exact go 1 hk.symm ⟨_,rfl⟩ (fun h=>by cases h)
   ·simp only[aA]at hk;exact go 2 hk.symm ⟨_,_,_,rfl⟩ (fun h=>by cases h)
   ·split at hk
    ·rename_i ag0
     simp only[aA]at hk;exact go 3 hk.symm ⟨_,rfl⟩ (fun _=>agT h2 ag0)
    ·cases hk
   ·simp only[aA]at hk;exact go 4 hk.symm rfl (fun h=>by cases h)
   ·cases hk
  split at hc
  ·rename_i hd;exact agg false rfl hd hc
  ·rename_i hd;exact agg true rfl hd hc
  ·rename_i hd;exact kinds false rfl hd hc
  ·rename_i hd;exact kinds true rfl hd hc
  ·cases hc
  ·cases hc
  ·simp only[aA]at hc;subst hc;exact plain (a:=.add) (b:=.add) he rfl
 ·cases hc
end Go.Abs
namespace Go.Abs
open Go
variable{C:Ctx}{fid:Nat->Nat}{w w':World}{G G':bT}{H:Heap}
variable{vars:List Nat}{ag:ai->V}{ρ:Operand->Value}{low low':Nat}{v:V}{H':Heap}{pos:String}{df:cN}{o:Oper}
theorem vo{x:Value}{k:IntKind}{m:Int}{n y:Nat}{code:BoundsCode}(hx:x=.int k m)(h0:0<=m)(hn:m.toNat=n)(hy:n<=y):
  (Instr.sliceBound x y code).run C.P w=.ok n w:=by
 subst hx;have:0<=m/\m<=(y:Int):=by omega
 simp only[Instr.sliceBound,asIntOf,Sem.run_bind,Sem.run_pure,Result.andThen_ok,this,and_self,if_true,hn]
theorem BM (aN:fr C fid vars G w ag ρ){x:Option Operand}{cE:Option ai}(hx:C.pX vars x=some cE){d n:Nat}(h:e1 ag d cE=some n):
  (x=none/\cE=none/\n=d)\/∃y k m,x=some y/\ρ y=.int k m/\0<=m/\m.toNat=n:=by
 cases x with
 |none=>
  simp only[Ctx.pX,aA]at hx;subst hx;simp only[e1,aA]at h;exact .inl ⟨rfl,rfl,h.symm⟩
 |some y=>
  simp only[Ctx.pX,cj]at hx;obtain⟨lx,hy,rfl⟩:=hx;simp only[e1]at h;obtain⟨k,m,e,hm,hn⟩:=Nf h;have:=aN y lx hy;rw[e]at this;exact .inr ⟨y,k,m,rfl,this.jA,hm,hn⟩
theorem Ef (aN:fr C fid vars G w ag ρ){lo hi:Option Operand}{xu sT:Option ai}(iQ:C.pX vars lo=some xu)(qI:C.pX vars hi=some sT){Uj:Bool}{len cap a b:Nat}
  (ha:e1 ag 0 xu=some a) (hb:e1 ag len sT=some b) (h1:a<=b) (h2:b<=len) (ar:len<=cap):
  (Instr.sliceBounds Uj len cap (lo.map ρ) (hi.map ρ) none).run C.P w=.ok (a,b,cap) w:=by
 unfold Instr.sliceBounds;have cQ:∀(z:Nat × Nat × Nat),True:=fun _=>trivial;rcases BM aN qI hb with⟨rfl,-,rfl⟩|⟨y,k,m,rfl,pe,hm,hn⟩
 ·rcases BM aN iQ ha with⟨rfl,-,rfl⟩|⟨oy,bz,m',rfl,Eg,jB,qJ⟩
  ·simp only[yE,Sem.run_bind,Sem.run_pure,Result.andThen_ok]
  ·simp only[yE,o1,Sem.run_bind,Sem.run_pure,Result.andThen_ok,vo (C:=C) Eg jB qJ h1]
 ·rcases BM aN iQ ha with⟨rfl,-,rfl⟩|⟨oy,bz,m',rfl,Eg,jB,qJ⟩
  ·simp only[yE,o1,Sem.run_bind,Sem.run_pure,Result.andThen_ok,vo (C:=C) pe hm hn (cM h2 ar)]
  ·simp only[o1,Sem.run_bind,Sem.run_pure,Result.andThen_ok,vo (C:=C) pe hm hn (cM h2 ar),vo (C:=C) Eg jB qJ h1]
theorem Nq (aN:fr C fid vars G w ag ρ){lo hi mx:Option Operand}{xu sT:Option ai}{m:ai}(iQ:C.pX vars lo=some xu)(qI:C.pX vars hi=some sT)(rQ:C.pX vars mx=some (some m))
  {len cap a d:Nat} (ha:e1 ag 0 xu=some a) (hb:e1 ag d sT=some 0) (vp:sT≠none) (h1:a<=0) (hm:ku (ag m)=some 0):
  (Instr.sliceBounds true len cap (lo.map ρ) (hi.map ρ) (mx.map ρ)).run C.P w=.ok (0,0,0) w:=by
 unfold Instr.sliceBounds;obtain rfl:a=0:=by omega
 rcases BM aN rQ (d:=0) (show e1 ag 0 (some m)=some 0 from hm)with⟨-,q,-⟩|⟨z,azt,azu,rfl,nN,Uk,Ij⟩
 ·cases q
 ·rcases BM aN qI hb with⟨-,q,-⟩|⟨y,k,m',rfl,pe,jB,qJ⟩
  ·exact absurd q vp
  ·rcases BM aN iQ ha with⟨rfl,-,-⟩|⟨oy,bz,azv,rfl,Eg,ag1,ag2⟩
   ·simp only[yE,o1,Sem.run_bind,Sem.run_pure,Result.andThen_ok,vo (C:=C) nN Uk Ij (cD _),vo (C:=C) pe jB qJ (cD _)]
   ·simp only[o1,Sem.run_bind,Sem.run_pure,Result.andThen_ok,vo (C:=C) nN Uk Ij (cD _),vo (C:=C) pe jB qJ (cD _),vo (C:=C) Eg ag1 ag2 (cD _)]
theorem y3{t e:TypeId}(hd:C.P.underlying t=some (.slice e))(x:Value)(lo hi mx:Option Value):(Instr.sliceAt t x lo hi mx).run C.P w=(Instr.slice t x lo hi mx).run C.P w:=by
 unfold Instr.sliceAt;rw[Sem.run_bind,run_underlying hd];rfl
theorem ag3{t:TypeId}(hd:C.P.underlying t=some .string)(x:Value)(lo hi mx:Option Value):(Instr.sliceAt t x lo hi mx).run C.P w=(Instr.slice t x lo hi mx).run C.P w:=by
 unfold Instr.sliceAt;rw[Sem.run_bind,run_underlying hd];rfl
theorem y4{t n:Nat}(hs:C.sizeOf t=some n)(w:World):(Go.sizeOf t).run C.P w=.ok n w:=by
 simp only[Ctx.sizeOf,cj]at hs;obtain⟨i,hi,rfl⟩:=hs;unfold Go.sizeOf;rw[Sem.run_bind,run_typeInfo (P:=C.P) w hi];rfl
theorem ag4 (s:List UInt8)(a b:Nat):(⟨⟨s⟩⟩:ByteArray).extract a b=⟨⟨(s.take b).drop a⟩⟩:=by
 apply ByteArray.ext;rw[ByteArray.data_extract];apply Array.ext';simp[List.drop_take]
theorem ag5{es:Nat}{ds:List V}{x:Value}(h:bd fid G w (.list es ds) x){a b:Nat}(qK:a<=b)(hb:b<=ds.length):
  ∃c4 cap,x=.slice (some c4) ds.length cap/\ds.length<=cap/\bd fid G w (.list es ((ds.take b).drop a)) (.slice (if cap=a then some c4 else some (c4.add (a*es))) (b-a) (cap-a)):=by
 obtain⟨c4,cap,rfl,ec,bg⟩:=h.xt;refine⟨c4,cap,rfl,ec,?_⟩;have hlen:((ds.take b).drop a).length=b-a:=by simp;omega
 by_cases hn:(ds.take b).drop a=[]
 ·have ag6:b-a=0:=by rw[<-hlen,hn];rfl
  rw[hn,ag6];split
  ·exact .p _ _ (.ve _ _ _)
  ·exact .p _ _ (.ve _ _ _)
 ·have aK:a<b:=by
   rcases fV a b with q|q
   ·exact q
   ·exact absurd (yx.1 (by omega)) hn
  rcases bg with rfl|⟨ug,o',vals,rfl,bk,hc,hu,hr⟩
  ·simp at hn
  ·rw[if_neg (by omega),Addr.add_lit]
   have Ik:∀d∈ds.take b,(aE d).length=es:=fun d hd=>hu d (DC hd)
   have key:=fG.list (w:=w) (I:=G.I) es ((ds.take b).drop a) ug (o'+a*es) (cap-a) ((vals.take (b*es)).drop (a*es)) bk ((hc.take _).drop _)
    (fun d hd=>Ik d (HF hd)) (by
      rw[yY Ik,Bz hu];exact(hr.take _).drop _) (by rw[hlen];omega)
   rw[hlen]at key;exact .p _ _ key
theorem ag7 (U:aX C fid G H w)(aN:fr C fid vars G w ag ρ){t:TypeId}{x:Operand}{lo hi mx:Option Operand}(ho:o.op=.slice t x lo hi mx)(hc:C.cO vars pos o.op=some df)(he:step ag H low df=some (v,H',low')):
  c3 C fid G H w low ((execOp ρ o).run C.P w) v H' low':=by
 rw[ho]at hc
 have cc:(execOp ρ o).run C.P w=((Instr.sliceAt t (ρ x) (lo.map ρ) (hi.map ρ) (mx.map ρ)).run C.P w).andThen fun z w'=>.ok (.value z) w':=by
  unfold execOp;rw[ho];simp only[Sem.run_bind];rfl
 simp only[Ctx.cO]at hc;split at hc
 ·rename_i cE xu sT hd h2 iQ qI rQ
  simp only[aA]at hc;subst hc;have af:=aN x cE h2;simp only[step]at he;split at he
  ·rename_i s ab
   split at he
   ·rename_i a b ha hb
    split at he
    ·rename_i hle
     simp only[aA,bq]at he;obtain⟨rfl,rfl,rfl⟩:=he;rw[ab]at af
     obtain rfl:mx=none:=by
      cases mx with
      |none=>rfl
      |some y=>simp[Ctx.pX]at rQ
     have fu:=Ef (C:=C) (Uj:=false) (cap:=s.length) aN iQ qI ha hb hle.1 hle.2 (aF _);refine .same U (x:=.string ⟨⟨(s.take b).drop a⟩⟩) ?_ (.p _ _ (.str _));rw[cc,ag3 hd,af.ox];unfold Instr.slice;have ag8:(⟨⟨s⟩⟩:ByteArray).size=s.length:=rfl;simp only[Sem.run_bind,run_underlying hd,Result.andThen_ok,yE,Option.isSome_none,fE,if_false,ag8,fu,Sem.run_pure,ag4]
    ·cases he
   ·cases he
  ·cases he
 ·rename_i e cE xu sT Il hd h2 iQ qI rQ
  split at hc
  ·rename_i n hn
   split at hc
   ·cases hc
   ·rename_i mY
    simp only[aA]at hc;subst hc;have af:=aN x cE h2;have nJ:=y4 (C:=C) hn
    have ag9:sT.isNone=true->Il.isSome=true->False:=by
     intro h1 h2;simp[h1,h2]at mY
    have Nr:∀{q:Option ai},C.pX vars mx=some q->q=none->mx=none:=by
     intro q h1 h2;cases mx with
     |none=>rfl
     |some y=>simp[Ctx.pX,h2]at h1
    have Ns:∀{m:ai},Il=some m->sT≠none:=by
     rintro m rfl rfl;exact ag9 rfl rfl
    have Ul:∀{cap:Nat},0<=cap->e1 ag 0 xu=some 0->e1 ag 0 sT=some 0->e1 ag 0 Il=some 0->(Instr.sliceBounds true 0 0 (lo.map ρ) (hi.map ρ) (mx.map ρ)).run C.P w=.ok (0,0,0) w:=by
     intro _ _ ha hb hm;cases bg:Il with
     |none=>
      rw[bg]at rQ;rw[Nr rQ rfl];exact Ef (C:=C) aN iQ qI ha hb (aF _) (aF _) (aF _)
     |some m=>
      rw[bg]at rQ hm;exact Nq (C:=C) aN iQ qI rQ ha hb (Ns bg) (aF _) hm
    simp only[step]at he;split at he
    ·rename_i ab
     split at he
     ·rename_i ha hb hm
      simp only[aA,bq]at he;obtain⟨rfl,rfl,rfl⟩:=he;rw[ab]at af;refine .same U (x:=.slice none 0 0) ?_ (.p _ _ .bX);rw[cc,y3 hd,af.jh];unfold Instr.slice;simp only[Sem.run_bind,run_underlying hd,Result.andThen_ok,Ul (cap:=0) (cD _) ha hb hm,nJ,Sem.run_pure];rfl
     ·cases he
    ·rename_i ab
     split at he
     ·rename_i ha hb hm
      simp only[aA,bq]at he;obtain⟨rfl,rfl,rfl⟩:=he;rw[ab]at af;obtain⟨c4,hx⟩:=af.rO;refine .same U (x:=.slice (some c4) 0 0) ?_ (.p _ _ (.emp _));rw[cc,y3 hd,hx];unfold Instr.slice;simp only[Sem.run_bind,run_underlying hd,Result.andThen_ok,Ul (cap:=0) (cD _) ha hb hm,nJ,Sem.run_pure];rfl
     ·cases he
    ·rename_i bK ds ab
     split at he
     ·rename_i a b ha hb
      split at he
      ·rename_i hle
       obtain⟨qK,gX,rfl⟩:=hle;rw[ab]at af;obtain⟨c4,cap,hx,ec,e5⟩:=ag5 af qK gX;split at he
       ·simp only[aA,bq]at he
        obtain⟨rfl,rfl,rfl⟩:=he;obtain rfl:=Nr rQ rfl;refine .same U ?_ e5;rw[cc,y3 hd,hx];unfold Instr.slice;simp only[Sem.run_bind,run_underlying hd,Result.andThen_ok,yE,Ef (C:=C) aN iQ qI ha hb qK gX ec,nJ,Sem.run_pure];rfl
       ·rename_i m
        split at he
        ·rename_i hm
         obtain⟨fX,rfl⟩:=hm;simp only[aA,bq]at he;obtain⟨rfl,rfl,rfl⟩:=he;refine .same U (x:=.slice (some c4) 0 0) ?_ (.p _ _ (.emp _));rw[cc,y3 hd,hx];unfold Instr.slice;simp only[Sem.run_bind,run_underlying hd,Result.andThen_ok,Nq (C:=C) aN iQ qI rQ ha hb (Ns rfl) qK fX,nJ,Sem.run_pure];rfl
        ·cases he
      ·cases he
     ·cases he
    ·rename_i l bK off len tag ab
     split at he
     ·rename_i a b ha hb
      split at he
      ·rename_i hle
       obtain⟨qK,gX,rfl⟩:=hle;rw[ab]at af;obtain⟨h0,c4,cI,cap,cp,o9,hD,hx⟩:=af.nI;split at he
       ·split at he
        ·rename_i fb ds fz hl
         split at he
         ·rename_i eh
          obtain⟨fP,rfl⟩:=eh;obtain rfl:=Nr rQ rfl;obtain⟨aP,en,hr⟩:=U.obj l h0 cp;rw[hl]at en;cases en;obtain⟨rfl,rfl,fq,nO⟩:=hD (hr.1.trans fP);split at he
          ·rename_i aK
           simp only[aA,bq]at he;obtain⟨rfl,rfl,rfl⟩:=he;refine .same U (x:=.slice (some ⟨h0.b,(off+a)*fb,none⟩) (b-a) (cap-a)) ?_ (.ca l fb (off+a) (b-a) tag h0 _ _ _ cp o9 (fun _=>⟨rfl,rfl,?_,by omega⟩))
           ·rw[cc,y3 hd,hx]
            unfold Instr.slice;simp only[Sem.run_bind,run_underlying hd,Result.andThen_ok,yE,Ef (C:=C) aN iQ qI ha hb qK gX nO,nJ,Sem.run_pure];rw[if_neg (by omega),o1,Addr.add_lit,u4]
           ·have:off+a+(cap-a)=off+cap:=by omega
            rw[this];exact fq
          ·rename_i aK
           simp only[aA,bq]at he;obtain⟨rfl,rfl,rfl⟩:=he;obtain rfl:a=b:=by omega
           have key:∀(q:Addr),bd fid G w (.list fb []) (.slice (some q) (a-a) (cap-a)):=fun q=>by rw[Nat.sub_self];exact .p _ _ (.ve _ _ _)
           refine .same U (x:=.slice (if cap=a then some ⟨h0.b,off*fb,none⟩else some (Addr.add ⟨h0.b,off*fb,none⟩ (a*fb))) (a-a) (cap-a)) ?_ (by split<;>exact key _);rw[cc,y3 hd,hx];unfold Instr.slice;simp only[Sem.run_bind,run_underlying hd,Result.andThen_ok,yE,Ef (C:=C) aN iQ qI ha hb qK gX nO,nJ,Sem.run_pure];rfl
         ·cases he
        ·cases he
       ·rename_i m
        split at he
        ·rename_i hm
         obtain⟨fX,rfl⟩:=hm;simp only[aA,bq]at he;obtain⟨rfl,rfl,rfl⟩:=he;refine .same U (x:=.slice (some c4) 0 0) ?_ (.p _ _ (.emp _));rw[cc,y3 hd,hx];unfold Instr.slice;simp only[Sem.run_bind,run_underlying hd,Result.andThen_ok,Nq (C:=C) aN iQ qI rQ ha hb (Ns rfl) qK fX,nJ,Sem.run_pure];rfl
        ·cases he
      ·cases he
     ·cases he
    ·cases he
  ·cases hc
 ·cases hc
end Go.Abs
namespace Go.Abs
open Go
variable{C:Ctx}{fid:Nat->Nat}{w w':World}{G G':bT}{H:Heap}
variable{vars:List Nat}{ag:ai->V}{ρ:Operand->Value}{low low':Nat}{v:V}{H':Heap}{pos:String}{df:cN}{o:Oper}
theorem c8.split:∀{vs us:List V} {c1:List Value} {I:Nat->Prop},c8 w I (vs++us) c1->∃xs cB,c1=xs++cB/\c8 w I vs xs/\c8 w I us cB
 |[],us,c1,_,h=>⟨[],c1,rfl,.nil,h⟩
 |v::vs,us,_,_,.cons _ x _ xs h hs=>by
  obtain⟨aQ,aH,rfl,h1,h2⟩:=c8.split (vs:=vs) hs;exact⟨x::aQ,aH,rfl,.cons v x vs aQ h h1,h2⟩
theorem aha (U:aX C fid G H w)(aN:fr C fid vars G w ag ρ){t:TypeId}{x i:Operand}(ho:o.op=.indexAddr t x i)(hc:C.cO vars pos o.op=some df)(he:step ag H low df=some (v,H',low')):
  c3 C fid G H w low ((execOp ρ o).run C.P w) v H' low':=by
 rw[ho]at hc;simp only[Ctx.cO]at hc;split at hc
 ·rename_i e cE kg hd h2 ar
  split at hc
  ·rename_i n hn
   split at hc
   ·cases hc
   ·simp only[aA]at hc;subst hc
    have nJ:=y4 (C:=C) hn;have hx:=aN x cE h2;have hi:=aN i kg ar;simp only[step]at he;split at he
    ·rename_i j ahb
     obtain⟨k,m,em,hm,ahc⟩:=Nf ahb;rw[em]at hi
     have cc:∀c4 len cap,ρ x=.slice (some c4) len cap->j<len->(execOp ρ o).run C.P w=.ok (.value (.pointer (some (c4.add (j*n))))) w:=by
      intro c4 len cap dG aK;have eh:0<=m/\m<(len:Int):=by omega
      unfold execOp;rw[ho];simp only[dG,hi.jA,Instr.indexAt,asIntOf,Sem.run_bind,Sem.run_pure,Result.andThen_ok,run_underlying hd,eh,and_self,if_true,nJ,ahc]
     split at he
     ·rename_i bK ds ab
      split at he
      ·rename_i eM
       subst eM;obtain⟨d,Nt,he⟩:=cj.1 he;simp only[bq]at he;obtain⟨rfl,rfl,rfl⟩:=he;rw[ab]at hx;obtain⟨c4,cap,dG,ec,bg⟩:=hx.xt;obtain⟨aK,ahd⟩:=e0.1 Nt;rcases bg with rfl|⟨b,o',vals,rfl,bk,hcell,hu,hr⟩
       ·simp at aK
       ·refine .same U (cc _ _ _ dG aK) ?_
        rw[Addr.add_lit];have h2:ds.drop j=d::ds.drop (j+1):=by rw[<-ahd];exact pK aK
        have ar:=hr.drop (j*bK);rw[<-yY hu,h2,kd]at ar;obtain⟨xs,cB,Eh,ahe,-⟩:=ar.split;have iA:=hcell.drop (j*bK);rw[Eh]at iA
        have ahf:iz w b (o'+j*bK) xs:=fun a c Um=>iA a c (by
         rw[fB (by
          rcases fV a xs.length with q|q
          ·exact q
          ·simp[nA q]at Um)];exact Um)
        exact .dH _ 0 b (o'+j*bK) xs bk ahf ahe
      ·cases he
     ·rename_i l bK off len tag ab
      split at he
      ·rename_i fb ds fz hl
       split at he
       ·rename_i eh
        obtain⟨rfl,rfl,fP,nP,rR⟩:=eh;simp only[aA,bq]at he;obtain⟨rfl,rfl,rfl⟩:=he;rw[ab]at hx;obtain⟨h0,c4,cI,cap,cp,o9,hD,dG⟩:=hx.nI;obtain⟨aP,en,hr⟩:=U.obj l h0 cp;rw[hl]at en;cases en;obtain⟨rfl,rfl,fq,nO⟩:=hD (hr.1.trans fP);refine .same U (cc _ _ _ dG nP) (.gW l _ (off+j) 0 tag h0 _ cp o9 (fun _=> ?_));rw[Addr.add_lit,yH,u4]
       ·cases he
      ·cases he
     ·cases he
    ·cases he
  ·cases hc
 ·cases hc
theorem vq{b:Builtin}{args:Array Operand}{ts:Array TypeId}(ho:o.op=.call {callee:=.builtin b,args,argTypes:=ts}):
  (execOp ρ o).run C.P w=(builtin b ts o.type (args.map fun| .const _=>true| _=>false) (args.map ρ)).run C.P w:=by
 unfold execOp;rw[ho];simp only[resolve,invoke,Sem.run_bind,Sem.run_pure,Result.andThen_ok];rfl
theorem Un (U:aX C fid G H w)(aN:fr C fid vars G w ag ρ){b:Builtin}{x y:Operand}{args:Array Operand}{ts:Array TypeId}(ho:o.op=.call {callee:=.builtin b,args,argTypes:=ts})
  (ha:args= #[x,y]) {mx:Bool} (hb:b=if mx then .max else .min) {cE lx:ai} (h1:C.b5 vars x=some cE) (h2:C.b5 vars y=some lx) (he:step ag H low (.u6 mx cE lx)=some (v,H',low')):
  c3 C fid G H w low ((execOp ρ o).run C.P w) v H' low':=by
 subst ha;have hx:=aN x cE h1;have hy:=aN y lx h2;simp only[step]at he;split at he
 ·rename_i k a bz eA ab aj
  split at he
  ·rename_i hk
   subst hk;simp only[aA,bq]at he;obtain⟨rfl,rfl,rfl⟩:=he;rw[ab]at hx;rw[aj]at hy;refine .same U (x:=.int k (if mx then max a eA else min a eA)) ?_ (.p _ _ (.int _ _));rw[vq ho];subst hb;cases mx
   ·have hm:(if eA<a then eA else a)=min a eA:=by
     rw[Int.min_def];split<;>split<;>omega
    simp[builtin,Builtin.min_,Builtin.min2,hx.jA,hy.jA,hm]
   ·have hm:(if a<eA then eA else a)=max a eA:=by
     rw[Int.max_def];split<;>split<;>omega
    simp[builtin,Builtin.max_,Builtin.max2,hx.jA,hy.jA,hm]
  ·cases he
 ·cases he
theorem Nu (U:aX C fid G H w)(aN:fr C fid vars G w ag ρ){x:Operand}{t:TypeId}{args:Array Operand}{ts:Array TypeId}(ho:o.op=.call {callee:=.builtin .len,args,argTypes:=ts})
  (ha:args= #[x]) (ht:ts= #[t]) {cE:ai} (h1:C.b5 vars x=some cE) {kind:Nat} (hk:match kind with|0=>C.P.underlying t=some .string|1=>∃e,C.P.underlying t=some (.slice e)| _=>∃k e,C.P.underlying t=some (.map k e))
  (he:step ag H low (.len kind cE)=some (v,H',low')):c3 C fid G H w low ((execOp ρ o).run C.P w) v H' low':=by
 subst ha;subst ht;have hx:=aN x cE h1
 have cc:∀(n:Nat),(Builtin.len_ #[t] o.type #[ρ x]).run C.P w=.ok (goInt n) w->c3 C fid G H w low ((execOp ρ o).run C.P w) (.int .i64 n) H low:=by
  intro n hn;refine .same U (x:=.int .i64 n) ?_ (.p _ _ (.int _ _));rw[vq ho];simp only[builtin,Sem.run_bind];have e:Array.map ρ #[x]= #[ρ x]:=by simp
  rw[e,hn];rfl
 simp only[step]at he;split at he
 ·rename_i s ab
  simp only[aA,bq]at he;obtain⟨rfl,rfl,rfl⟩:=he;rw[ab]at hx;refine cc s.length ?_;have hk:C.P.underlying t=some .string:=hk;simp only[Builtin.len_,hx.ox,Sem.run_bind,run_underlying hk,Result.andThen_ok,sD,nz,Sem.run_pure];rfl
 ·rename_i ab
  simp only[aA,bq]at he;obtain⟨rfl,rfl,rfl⟩:=he;rw[ab]at hx;obtain⟨e,hk⟩:∃e,C.P.underlying t=some (.slice e):=hk;refine cc 0 ?_;simp only[Builtin.len_,hx.jh,Sem.run_bind,run_underlying hk,Result.andThen_ok,sD,nz,Sem.run_pure]
 ·rename_i ab
  simp only[aA,bq]at he;obtain⟨rfl,rfl,rfl⟩:=he;rw[ab]at hx;obtain⟨e,hk⟩:∃e,C.P.underlying t=some (.slice e):=hk;obtain⟨c4,dG⟩:=hx.rO;refine cc 0 ?_;simp only[Builtin.len_,dG,Sem.run_bind,run_underlying hk,Result.andThen_ok,sD,nz,Sem.run_pure]
 ·rename_i es ds ab
  simp only[aA,bq]at he;obtain⟨rfl,rfl,rfl⟩:=he;rw[ab]at hx;obtain⟨e,hk⟩:∃e,C.P.underlying t=some (.slice e):=hk;obtain⟨c4,cap,dG,-,-⟩:=hx.xt;refine cc ds.length ?_;simp only[Builtin.len_,dG,Sem.run_bind,run_underlying hk,Result.andThen_ok,sD,nz,Sem.run_pure]
 ·rename_i l es off len tag ab
  obtain⟨e,hk⟩:∃e,C.P.underlying t=some (.slice e):=hk;split at he
  ·rename_i bK ds fz hl
   split at he
   ·rename_i eh
    simp only[aA,bq]at he;obtain⟨rfl,rfl,rfl⟩:=he;rw[ab]at hx;obtain⟨h0,c4,cI,cap,cp,o9,hD,dG⟩:=hx.nI;obtain⟨aP,en,hr⟩:=U.obj l h0 cp;rw[hl]at en;cases en;obtain⟨rfl,rfl,fq,nO⟩:=hD (hr.1.trans eh.2);refine cc cI ?_;simp only[Builtin.len_,dG,Sem.run_bind,run_underlying hk,Result.andThen_ok,sD,nz,Sem.run_pure]
   ·cases he
  ·rename_i r hl
   split at he
   ·rename_i eh
    simp only[aA,bq]at he;obtain⟨rfl,rfl,rfl⟩:=he;rw[ab]at hx;obtain⟨h0,c4,cI,cap,cp,o9,hD,dG⟩:=hx.nI;obtain⟨aP,en,hr⟩:=U.obj l h0 cp;rw[hl]at en;cases en;obtain⟨rfl,rfl,fq,nO⟩:=hD (hr.2.1.trans eh);refine cc cI ?_;simp only[Builtin.len_,dG,Sem.run_bind,run_underlying hk,Result.andThen_ok,sD,nz,Sem.run_pure]
   ·cases he
  ·cases he
 ·rename_i ab
  simp only[aA,bq]at he;obtain⟨rfl,rfl,rfl⟩:=he;rw[ab]at hx;obtain⟨k,e,hk⟩:∃k e,C.P.underlying t=some (.map k e):=hk;refine cc 0 ?_;simp only[Builtin.len_,hx.Ng,Sem.run_bind,run_underlying hk,Result.andThen_ok,sD,nz,Sem.run_pure];rfl
 ·rename_i l ab
  obtain⟨k,e,hk⟩:∃k e,C.P.underlying t=some (.map k e):=hk;split at he
  ·rename_i bf hl
   simp only[aA,bq]at he;obtain⟨rfl,rfl,rfl⟩:=he;rw[ab]at hx;obtain⟨h0,cp,-,dG⟩:=hx.mapInv;obtain⟨aP,en,hr⟩:=U.obj l h0 cp;rw[hl]at en;cases en;obtain⟨-,-,es,bL,hm,gx,xv,-⟩:=hr;have hlen:=gx.length;simp only[ef,fC]at hlen;refine cc bf.length ?_;have a6:(getObj h0.b).run C.P w=.ok (.map es bL) w:=by simp[getObj,Sem.run,hm]
   simp only[Builtin.len_,dG,Sem.run_bind,run_underlying hk,Result.andThen_ok,sD,nz,a6,Sem.run_pure,hlen]
  ·cases he
 ·cases he
end Go.Abs
