/- Texts of this claim, joined and written short by a program. -/
import Derived.Test.YtonmjjfciemcoaaGreatDoorP21
import Derived.Test.YtonmjjfciemcoaaGreatDoorP19
import Derived.Test.YtonmjjfciemcoaaGreatDoorP00
set_option linter.unusedVariables false
set_option linter.unusedSimpArgs false
set_option linter.unusedSectionVars false
namespace Go.Abs.bz
open Go Go.Abs Go.Abs.gB
def sX:Nat->Type
 |0=>Int
 |1=>Bool
 |2=>dn
 |3=>Int
 |4=>gM
 |5=>(ae gM)
 |6=>(ae Int)
 |7=>Range
 |8=>Table
 |9=>(ae Table)
 |10=>(ae dn)
 |11=>Term
 |12=>(ae Term)
 |13=>Row
 |14=>Constraint
 |15=>(ae Constraint)
 |16=>eu
 |17=>(ae eu)
 |18=>Change
 |19=>(ae Change)
 |20=>(ae Row)
 |21=>mN
 |22=>(ae mN)
 |23=>b4
 |24=>Action
 |25=>(ae Action)
 |26=>Model
 |27=>(ae Bool)
 |28=>(ae Range)
 |29=>dV
 |30=>(ae (ae Int))
 |31=>gU
 |32=>(ae gU)
 |33=>(ae (ae Change))
 |100=>List (dn × Bool)
 | _=>Unit
def auz:Nat->Nat
 |4=>3
 |7=>2
 |8=>6
 |11=>2
 |13=>2
 |14=>6
 |16=>3
 |18=>2
 |21=>3
 |23=>3
 |24=>5
 |26=>7
 |29=>8
 |31=>2
 | _=>1
def SE:(t:Nat)->sX t->V
 |0,x=>aI x
 |1,x=>V.bool x
 |2,x=>V.str x
 |3,x=>(V.int .u8) x
 |4,x=>jH x
 |5,x=>(bn 3 jH) x
 |6,x=>(bn 1 aI) x
 |7,x=>rz x
 |8,x=>l8 x
 |9,x=>(bn 6 l8) x
 |10,x=>(bn 1 V.str) x
 |11,x=>oX x
 |12,x=>(bn 2 oX) x
 |13,x=>vm x
 |14,x=>uc x
 |15,x=>(bn 6 uc) x
 |16,x=>ud x
 |17,x=>(bn 3 ud) x
 |18,x=>ue x
 |19,x=>(bn 2 ue) x
 |20,x=>(bn 2 vm) x
 |21,x=>vn x
 |22,x=>(bn 3 vn) x
 |23,x=>DV x
 |24,x=>uf x
 |25,x=>(bn 5 uf) x
 |26,x=>ug x
 |27,x=>(bn 1 V.bool) x
 |28,x=>(bn 2 rz) x
 |29,x=>Ha x
 |30,x=>(bn 1 (bn 1 aI)) x
 |31,x=>DW x
 |32,x=>(bn 2 DW) x
 |33,x=>(bn 1 (bn 2 ue)) x
 | _,_=>.aN
def auA:(t:Nat)->sX t->Nat->aO sX
 |0,x,n=>.int .i64 x
 |1,x,n=>.bo n false
 |2,x,n=>.str x
 |3,x,n=>.int .u8 x
 |4,x,n=>.agg [.int .i64 x.Table,.int .i64 x.j6,.int .i64 x.dp]
 |5,x,n=>.sl 4 x
 |6,x,n=>.sl 0 x
 |7,x,n=>.agg [.int .i64 x.jI,.int .i64 x.j7]
 |8,x,n=>.agg [.str x.Name,.int .i64 x.Kind,.sl 0 x.ch,.int .i64 x.Range.jI,.int .i64 x.Range.j7,.int .i64 x.dK]
 |9,x,n=>.sl 8 x
 |10,x,n=>.sl 2 x
 |11,x,n=>.agg [.int .i64 x.Cell,.int .i64 x.gA]
 |12,x,n=>.sl 11 x
 |13,x,n=>.agg [.sl 11 x.dq,.int .i64 x.qH]
 |14,x,n=>.agg [.int .i64 x.Kind,.int .i64 x.Bb,.sl 11 x.Row.dq,.int .i64 x.Row.qH,.int .i64 x.dK,.int .i64 x.fS]
 |15,x,n=>.sl 14 x
 |16,x,n=>.agg [.str x.Name,.bo n false,.sl 0 x.bH]
 |17,x,n=>.sl 16 x
 |18,x,n=>.agg [.int .i64 x.Cell,.int .i64 x.Add]
 |19,x,n=>.sl 18 x
 |20,x,n=>.sl 13 x
 |21,x,n=>.agg [.int .i64 x.Kind,.int .i64 x.Cell,.int .i64 x.Value]
 |22,x,n=>.sl 21 x
 |23,x,n=>.agg [.sl 18 x.Delta,.sl 13 x.dd,.sl 21 x.hg]
 |24,x,n=>.agg [.int .i64 x.eu,.sl 0 x.gN,.sl 18 x.b4.Delta,.sl 13 x.b4.dd,.sl 21 x.b4.hg]
 |25,x,n=>.sl 24 x
 |26,x,n=>.agg [.sl 0 x.bH,.sl 8 x.Tables,.sl 2 x.ff,.sl 14 x.cN,.sl 16 x.Operations,.sl 24 x.Actions,.sl 4 x.cf]
 |27,x,n=>.sl 1 x
 |28,x,n=>.sl 7 x
 |29,x,n=>.agg [.sl 0 x.Model.bH,.sl 8 x.Model.Tables,.sl 2 x.Model.ff,.sl 14 x.Model.cN,.sl 16 x.Model.Operations,.sl 24 x.Model.Actions,.sl 4 x.Model.cf,.sl 7 x.strict]
 |30,x,n=>.sl 6 x
 |31,x,n=>.agg [.int .i64 x.Kind,.int .i64 x.Index]
 |32,x,n=>.sl 31 x
 |33,x,n=>.sl 19 x
 | _,_,_=>.k .aN
def auB:(t:Nat)->sX t->List Bool
 |1,x=>[x]
 |16,x=>[x.Ordered]
 | _,_=>[]
def auC:(t:Nat)->aO sX->List Bool->Option (sX t)
 |0,v,B=>iR .i64 v
 |1,v,B=>MQ B v
 |2,v,B=>Iu v
 |3,v,B=>iR .u8 v
 |4,v,B=>o2 (fun vs=>match vs with
  |[fD,df,er]=>(iR .i64 fD).bind fun c9=>(iR .i64 df).bind fun cq=>(iR .i64 er).bind fun ed=>some ⟨c9,cq,ed⟩
  | _=>none) v
 |5,v,B=>eD 4 v
 |6,v,B=>eD 0 v
 |7,v,B=>o2 (fun vs=>match vs with
  |[fD,df]=>(iR .i64 fD).bind fun c9=>(iR .i64 df).bind fun cq=>some ⟨c9,cq⟩
  | _=>none) v
 |8,v,B=>o2 (fun vs=>match vs with
  |[fD,df,er,e2,h6,ie]=>(Iu fD).bind fun c9=>(iR .i64 df).bind fun cq=>(eD 0 er).bind fun ed=>(iR .i64 e2).bind fun hQ=>(iR .i64 h6).bind fun ll=>(iR .i64 ie).bind fun gb=>some ⟨c9,cq,ed,⟨hQ,ll⟩,gb⟩
  | _=>none) v
 |9,v,B=>eD 8 v
 |10,v,B=>eD 2 v
 |11,v,B=>o2 (fun vs=>match vs with
  |[fD,df]=>(iR .i64 fD).bind fun c9=>(iR .i64 df).bind fun cq=>some ⟨c9,cq⟩
  | _=>none) v
 |12,v,B=>eD 11 v
 |13,v,B=>o2 (fun vs=>match vs with
  |[fD,df]=>(eD 11 fD).bind fun c9=>(iR .i64 df).bind fun cq=>some ⟨c9,cq⟩
  | _=>none) v
 |14,v,B=>o2 (fun vs=>match vs with
  |[fD,df,er,e2,h6,ie]=>(iR .i64 fD).bind fun c9=>(iR .i64 df).bind fun cq=>(eD 11 er).bind fun ed=>(iR .i64 e2).bind fun hQ=>(iR .i64 h6).bind fun ll=>(iR .i64 ie).bind fun gb=>some ⟨c9,cq,⟨ed,hQ⟩,ll,gb⟩
  | _=>none) v
 |15,v,B=>eD 14 v
 |16,v,B=>o2 (fun vs=>match vs with
  |[fD,df,er]=>(Iu fD).bind fun c9=>(MQ B df).bind fun cq=>(eD 0 er).bind fun ed=>some ⟨c9,cq,ed⟩
  | _=>none) v
 |17,v,B=>eD 16 v
 |18,v,B=>o2 (fun vs=>match vs with
  |[fD,df]=>(iR .i64 fD).bind fun c9=>(iR .i64 df).bind fun cq=>some ⟨c9,cq⟩
  | _=>none) v
 |19,v,B=>eD 18 v
 |20,v,B=>eD 13 v
 |21,v,B=>o2 (fun vs=>match vs with
  |[fD,df,er]=>(iR .i64 fD).bind fun c9=>(iR .i64 df).bind fun cq=>(iR .i64 er).bind fun ed=>some ⟨c9,cq,ed⟩
  | _=>none) v
 |22,v,B=>eD 21 v
 |23,v,B=>o2 (fun vs=>match vs with
  |[fD,df,er]=>(eD 18 fD).bind fun c9=>(eD 13 df).bind fun cq=>(eD 21 er).bind fun ed=>some ⟨c9,cq,ed⟩
  | _=>none) v
 |24,v,B=>o2 (fun vs=>match vs with
  |[fD,df,er,e2,h6]=>(iR .i64 fD).bind fun c9=>(eD 0 df).bind fun cq=>(eD 18 er).bind fun ed=>(eD 13 e2).bind fun hQ=>(eD 21 h6).bind fun ll=>some ⟨c9,cq,⟨ed,hQ,ll⟩⟩
  | _=>none) v
 |25,v,B=>eD 24 v
 |26,v,B=>o2 (fun vs=>match vs with
  |[fD,df,er,e2,h6,ie,Iv]=>(eD 0 fD).bind fun c9=>(eD 8 df).bind fun cq=>(eD 2 er).bind fun ed=>(eD 14 e2).bind fun hQ=>(eD 16 h6).bind fun ll=>(eD 24 ie).bind fun gb=>(eD 4 Iv).bind fun pK=>some ⟨c9,cq,ed,hQ,ll,gb,pK⟩
  | _=>none) v
 |27,v,B=>eD 1 v
 |28,v,B=>eD 7 v
 |29,v,B=>o2 (fun vs=>match vs with
  |[fD,df,er,e2,h6,ie,Iv,auD]=>(eD 0 fD).bind fun c9=>(eD 8 df).bind fun cq=>(eD 2 er).bind fun ed=>(eD 14 e2).bind fun hQ=>(eD 16 h6).bind fun ll=>(eD 24 ie).bind fun gb=>(eD 4 Iv).bind fun pK=>(eD 7 auD).bind fun yM=>some ⟨⟨c9,cq,ed,hQ,ll,gb,pK⟩,yM⟩
  | _=>none) v
 |30,v,B=>eD 6 v
 |31,v,B=>o2 (fun vs=>match vs with
  |[fD,df]=>(iR .i64 fD).bind fun c9=>(iR .i64 df).bind fun cq=>some ⟨c9,cq⟩
  | _=>none) v
 |32,v,B=>eD 31 v
 |33,v,B=>eD 19 v
 | _,_,_=>none
def auE (t:Nat):Bool:=match t with
 |0=>true
 |1=>true
 |2=>true
 |3=>true
 | _=>false
def SF:Nat->Option Nat
 |0=>some 0
 |2=>some 1
 | _=>none
def auF:(t:Nat)->sX t->sX t->Bool
 |0,a,c=>@BEq.beq Int _ a c
 |2,a,c=>@BEq.beq dn _ a c
 | _,_,_=>false
def SG:Nat->Option (Nat × Nat)
 |100=>some (2,1)
 | _=>none
theorem auG (c:Nat)(p:Nat × Nat)(h:SG c=some p):sX c=List (sX p.1 × sX p.2):=by
 unfold SG at h;split at h<;>cases h<;>rfl
abbrev aE:iQ:=⟨sX,auz,SE,auA,auB,auC,auE,SF,auF,SG,auG⟩
end Go.Abs.bz
namespace Go.Abs.gB
open Go Go.Abs
structure mb {A:Type} [aJ A] (S:A->Prop):Prop where
 bad:¬S aJ.bad
 br:∀{i:Nat} {c:Bool} {x y:A},S (aJ.br i c x y)->(c=true/\S x)\/(c=false/\S y)
 cv:∀{α:Type} {o:Option α} {f:α->A},S (aJ.cv o f)->∃x,o=some x/\S (f x)
theorem SH{R:Type}(r:R):mb (A:=Option R) (fun a=>a=some r) where
 bad:=fun h=>by cases h
 br:=fun h=>ru h
 cv:=fun h=>bind_some h
def pQ.val{R:Type}:pQ R->Option R
 | .leaf a=>some a
 | .br _ c t e=>bif c then t.val else e.val
 | .bad=>none
theorem auH{R:Type}(r:R):mb (A:=pQ R) (fun a=>a.val=some r) where
 bad:=fun h=>by cases h
 br:=fun h=>ru h
 cv:=fun h=>by cases h
section
variable{U:iQ}
def pU (U:iQ)(b:Nat)(B:List Bool)(ρ fs:List V)(o:Nat)(m:List (Nat × b5)):ck U->Prop
 | .cells w cs=>∃a ws,ρ[o]? =some (.ptr a 0)/\m=[(a,.cells ws)]/\bD U B ρ fs cs ws/\(w=true->b<=a)
 | .row t s=>∃v,ρ[o]? =some v/\fE b (U.es t) (U.enc t) v s m
 | .fz t s=>∃v m0,ρ[o]? =some v/\fE b (U.es t) (U.enc t) v s m0/\(m=m0\/m=Go.Abs.l7 m0)
 | .mp k w x=>∃a,ρ[o]? =some (.map a)/\m=[(a,.map (gK (U.enc k) (U.enc w) x))]/\b<=a
def dz (s:bA U)(G:Nat->List (Nat × b5))(F:cG):cG:=s.mem.map (fun e=>G e.1)++F
structure b7 (U:iQ) (b:Nat) (F:cG) (fs:List V) (s:bA U) (σ:bW) (H:Heap) (G:Nat->List (Nat × b5)) (ρ:List V):Prop where
 aD:ρ.length=s.aD
 vs:∀t v,bj s.vs t=some v->b3 U s.aK ρ fs v (σ t)
 own:Own H (dz s G F)
 dk:(s.mem.map Prod.fst).Nodup
 lt:∀e∈s.mem,e.1<s.aD
 mem:∀o aV,bj s.mem o=some aV->pU U b s.aK ρ fs o (G o) aV
 dQ:∀i β,bj s.dQ i=some β->s.aK[i]? =some β
structure jJ (s ao:bA U):Prop where
 vs:ao.vs=s.vs
 mem:ao.mem=s.mem
 aD:ao.aD=s.aD
 dL:ao.dL=s.dL
 cI:ao.cI=s.cI
 aK:s.aK <+: ao.aK
 dQ:(∀i β,bj s.dQ i=some β->s.aK[i]? =some β)->∀i β,bj ao.dQ i=some β->ao.aK[i]? =some β
theorem jJ.rfl{s:bA U}:jJ s s:=⟨Eq.refl _,Eq.refl _,Eq.refl _,Eq.refl _,Eq.refl _,dW,fun h=>h⟩
theorem jJ.trans{s ao Iw:bA U}(h:jJ s ao)(k:jJ ao Iw):jJ s Iw:=
 ⟨k.vs.trans h.vs,k.mem.trans h.mem,k.aD.trans h.aD,k.dL.trans h.dL,k.cI.trans h.cI,h.aK.trans k.aK,fun q=>k.dQ (h.dQ q)⟩
variable{b:Nat}{F:cG}{fs:List V}{s ao:bA U}{σ a1:bW}{H:Heap}{G:Nat->List (Nat × b5)}{ρ:List V}{aq:kO U}{call:cW}
theorem pU.mono{B uq:List Bool}{cS:List V}(dc:B <+: uq)(aP:ρ <+: cS){o:Nat}{m:List (Nat × b5)}:∀{aV:ck U},pU U b B ρ fs o m aV->pU U b uq cS fs o m aV
 | .cells w cs,⟨a,ws,h1,h2,ar,aS⟩=>⟨a,ws,lN aP h1,h2,ar.mono dc aP,aS⟩
 | .row t s,⟨v,h1,h2⟩=>⟨v,lN aP h1,h2⟩
 | .fz t s,⟨v,m0,h1,h2⟩=>⟨v,m0,lN aP h1,h2⟩
 | .mp k w x,⟨a,h1,h2⟩=>⟨a,lN aP h1,h2⟩
theorem b7.keep (R:b7 U b F fs s σ H G ρ)(k:jJ s ao):b7 U b F fs ao σ H G ρ where
 aD:=by rw[k.aD];exact R.aD
 vs:=fun t v h=>by rw[k.vs]at h;exact(R.vs t v h).mono k.aK dW
 own:=by have:=R.own;unfold dz at this⊢; rw[k.mem];exact this
 dk:=by rw[k.mem];exact R.dk
 lt:=by rw[k.mem,k.aD];exact R.lt
 mem:=fun o aV h=>by rw[k.mem]at h;exact(R.mem o aV h).mono k.aK dW
 dQ:=k.dQ R.dQ
theorem ju{α:Type}{l:List (Nat × α)}{t:Nat}{a:α}(h:bj l t=some a):(t,a)∈l:=by
 induction l with
 |nil=>cases h
 |cons p l ih=>
  obtain⟨k,c⟩:=p;rw[fZ]at h;split at h
  ·rename_i e;cases h;subst e;simp
  ·exact kW _ (ih h)
theorem b7.at (R:b7 U b F fs s σ H G ρ){o:Nat}{aV:ck U}(h:bj s.mem o=some aV):∃k,(dz s G F)[k]? =some (G o)/\k<s.mem.length/\∃hk:k<s.mem.length,s.mem[k].1=o:=by
 obtain⟨k,hk,e⟩:=Wo.1 (ju h);refine⟨k,?_,hk,hk,by rw[e]⟩;unfold dz;rw[e5 (by simpa using hk),hL,eg hk,e];rfl
theorem b7.cells (R:b7 U b F fs s σ H G ρ){o:Nat}{w:Bool}{cs:List (aO U.ax)}(h:bj s.mem o=some (.cells w cs)):
  ∃a ws,ρ[o]? =some (.ptr a 0)/\G o=[(a,.cells ws)]/\(∀H',Own H' (dz s G F)->H'[a]? =some (.cells ws))/\bD U s.aK ρ fs cs ws/\(w=true->b<=a):=by
 obtain⟨a,ws,h1,h2,ar,aS⟩:=R.mem o _ h;obtain⟨k,hk,-⟩:=R.at h;exact⟨a,ws,h1,h2,fun H' aw=>aw.get k (by rw[hk,h2]),ar,aS⟩
mutual
theorem MR{B:List Bool}:∀v:V,b3 U B ρ fs (Ih v) v
 | .bool _=>.cw
 | .int _ _=>.int
 | .str _=>.str
 | .agg vs=>.agg (Ix vs)
 | .aN| .emp| .list _ _| .aU _| .ji| .ptr _ _| .hz .. | .dO _ _| .bJ .. | .iu| .map _| .kC| .fn _ _ _| .yield _| .jO| .iface _ _| .undef=>.k
theorem Ix{B:List Bool}:∀vs:List V,bD U B ρ fs (Et vs) vs
 |[]=>.nil
 |v::r=>.cons (MR v) (Ix r)
end
theorem BH{B:List Bool}{v:aO U.ax}{w:V}{cs:List (aO U.ax)}(h:sT v=some cs)(ad:b3 U B ρ fs v w):bD U B ρ fs cs (aC w):=by
 cases ad<;>simp only[sT]at h
 case agg h'=>cases h;exact h'
 case aU=>cases h
 case row=>cases h
 case jt=>cases h
 case lp=>cases h
 case fv=>cases h
 case lq=>cases h
 case k=>
  split at h
  ·cases h
  ·cases h
   cases w<;>first|exact .cons .k .nil|simp_all
 case sl=>cases h;rw[ad2];exact .cons .sl .nil
 all_goals cases h
 ·exact .cons .int .nil
 ·exact .cons .cw .nil
 ·rename_i h';exact .cons (.bo h') .nil
 ·exact .cons .str .nil
 ·rename_i h';exact .cons (.dO h') .nil
 ·rename_i h';exact .cons (.ptr h') .nil
 ·rename_i h';exact .cons (.fn h') .nil
theorem afa{B:List Bool}{v:aO U.ax}{w:V}(h:Mw v=true)(ad:b3 U B ρ fs v w):eF w=true:=by
 cases ad<;>simp only[Mw]at h<;>first|rfl|exact arl _ _ _|exact h|cases h
theorem SI{B:List Bool}:∀{cs:List (aO U.ax)} {ws:List V},Ii cs=true->bD U B ρ fs cs ws->bL ws=true
 | _,_,_,.nil=>rfl
 | _,_,h,.cons h' r=>by
   simp only[Ii]at h;split at h
   ·rename_i e;simp only[bL,afa e h',SI h r,zK]
   ·cases h
theorem afb (R:b7 U b F fs s σ H G ρ){o:Nat}{w:V}(h:xo s.mem o=true)(ad:b3 U s.aK ρ fs (.row o) w):aC w=[w]/\eF w=true:=by
 unfold xo at h;split at h
 ·rename_i hm
  obtain⟨v,h1,h2⟩:=R.mem _ _ hm;cases ad with
  |row ar=>
   rw[h1]at ar;cases ar;exact⟨h2.cells,h2.eF⟩
 ·cases h
theorem auI (R:b7 U b F fs s σ H G ρ){v:aO U.ax}{w:V}{cs:List (aO U.ax)}(h:Sy s.mem v=some cs)(ad:b3 U s.aK ρ fs v w):bD U s.aK ρ fs cs (aC w):=by
 unfold Sy at h;split at h
 ·split at h
  ·rename_i e
   cases h;rw[(afb R e ad).1];exact .cons ad .nil
  ·cases h
 ·exact BH h ad
theorem afc (R:b7 U b F fs s σ H G ρ):∀{cs:List (aO U.ax)} {ws:List V},MH s.mem cs=true->bD U s.aK ρ fs cs ws->bL ws=true
 | _,_,_,.nil=>rfl
 | _,_,h,.cons (w:=w) h' r=>by
   unfold MH at h;split at h
   ·rename_i e
    have:eF w=true:=by
     split at e
     ·exact(afb R e h').2
     ·exact afa e h'
    simp only[bL,this,afc R h r,zK]
   ·cases h
theorem Iy{B:List Bool}{cs:List (aO U.ax)}{ws:List V}{off:Nat}{sh:Option Nat}{v:aO U.ax}(h:cut cs off sh=some v)(hc:bD U B ρ fs cs ws):∃w,iJ ws off sh=some w/\b3 U B ρ fs v w:=by
 cases sh with
 |none=>
  simp only[cut,xl]at h;exact hc.get h
 |some n=>
  simp only[cut]at h;split at h
  ·rename_i e
   cases h;refine⟨_,?_,.agg ((hc.drop off).take n)⟩;simp only[iJ];rw[if_pos (by rw[<-hc.length];exact mh e)]
  ·cases h
theorem MS{B:List Bool}:∀{xs:List (aO U.ax)} {cK:List V},bD U B ρ fs xs cK->∀{cs:List (aO U.ax)} {ws:List V} (o:Nat),bD U B ρ fs cs ws->bD U B ρ fs (vw cs o xs) (setCells ws o cK)
 | _,_,.nil,_,_,_,h=>h
 | _,_,.cons h' r,_,_,o,h=>MS r (o+1) (h.set o h')
theorem c1 (R:b7 U b F fs s σ H G ρ)(bV:∀t v,bj aq t=some v->b3 U s.aK ρ fs v (a1 t)):∀{x:aj} {v:aO U.ax},ah aq s x=some v->b3 U s.aK ρ fs v (bw a1 σ x)
 | .tmp t,_,h=>bV t _ h
 | .var t,_,h=>R.vs t _ h
 | .const v,_,h=>by cases h;exact MR v
 | .func i,_,h=>by cases h;exact .fn .nil
theorem xt (R:b7 U b F fs s σ H G ρ)(bV:∀t v,bj aq t=some v->b3 U s.aK ρ fs v (a1 t)):∀{xs:List aj} {vs:List (aO U.ax)},xm aq s xs=some vs->bD U s.aK ρ fs vs (xs.map (bw a1 σ))
 |[],_,h=>by cases h;exact .nil
 |x::r,_,h=>by
  simp only[xm]at h;split at h
  ·rename_i v e
   split at h
   ·rename_i l ak
    cases h;exact .cons (c1 R bV e) (xt R bV ak)
   ·cases h
  ·cases h
section
variable{A:Type}[aJ A]{S:A->Prop}
theorem Ew (aA:mb S){v:aO U.ax}{w:V}{qG cC:bA U->A}(h:S (split s v qG cC))(hk:∀i β,bj s.dQ i=some β->s.aK[i]? =some β)(ad:b3 U s.aK ρ fs v w):
  ∃β ao,w=.bool β/\jJ s ao/\ao.aK=s.aK/\((β=true/\S (qG ao))\/(β=false/\S (cC ao))):=by
 cases ad<;>simp only[split]at h
 case cw b=>cases b<;>exact⟨_,s,rfl,.rfl,rfl,by simpa using h⟩
 case bo i b neg hb=>
  split at h
  ·rename_i e1 e
   have fO:=hk _ _ e;rw[hb]at fO;cases fO;refine⟨_,s,rfl,.rfl,rfl,?_⟩;cases b<;>cases neg<;>simpa using h
  ·rename_i e
   rw[xl,hb]at h
   have key:∀β,b=β->jJ s {s with dQ:=(i,β)::s.dQ}:=fun β pD=>⟨rfl,rfl,rfl,rfl,rfl,dW,fun q j auJ hj=>by
    rw[fZ]at hj;split at hj
    ·rename_i e;cases hj;subst e;rw[<-pD];exact hb
    ·exact q j auJ hj⟩
   cases neg<;>simp only at h<;>rcases aA.br h with⟨hc,h2⟩|⟨hc,h2⟩<;>subst hc
   ·exact⟨_,_,rfl,key true rfl,rfl,.inl ⟨rfl,h2⟩⟩
   ·exact⟨_,_,rfl,key false rfl,rfl,.inr ⟨rfl,h2⟩⟩
   ·exact⟨_,_,rfl,key true rfl,rfl,.inr ⟨rfl,h2⟩⟩
   ·exact⟨_,_,rfl,key false rfl,rfl,.inl ⟨rfl,h2⟩⟩
 all_goals exact absurd h aA.bad
theorem Ex{v:aO U.ax}{w:V}{c:Bool}(h:yX s v=some c)(ad:b3 U s.aK ρ fs v w):w=.bool c:=by
 cases ad<;>simp only[yX]at h
 case cw=>cases h;rfl
 case bo i b neg hb=>
  rw[xl,hb]at h;cases neg<;>cases h<;>simp
 all_goals cases h
theorem auK (c:Bool):jJ s {s with aK:=s.aK++[c]}:=⟨rfl,rfl,rfl,rfl,rfl,hK _ _,fun q i β h=>lN (hK _ _) (q i β h)⟩
theorem MT (l:List Bool):jJ s {s with aK:=s.aK++l}:=⟨rfl,rfl,rfl,rfl,rfl,hK _ _,fun q i β h=>lN (hK _ _) (q i β h)⟩
theorem afd{c neg:Bool}{k:aO U.ax->bA U->A}(h:S (name s c neg k)):∃v ao,S (k v ao)/\jJ s ao/\b3 U ao.aK ρ fs v (.bool (c != neg)):=
 ⟨_,_,h,auK c,.bo (by simp)⟩
theorem BI (aY:gp U){t:Nat}{x:U.ax t}{k:aO U.ax->bA U->A}(h:S (elem t x s k)):∃v ao,S (k v ao)/\jJ s ao/\b3 U ao.aK ρ fs v (U.enc t x):=
 ⟨_,_,h,MT _,aY.hS t x s.aK ρ fs⟩
end
end
end Go.Abs.gB
namespace Go.Abs.gB
open Go Go.Abs
section
variable{U:iQ}{b:Nat}{F:cG}{fs:List V}{s ao:bA U}{σ a1:bW}{H:Heap}{G:Nat->List (Nat × b5)}{ρ:List V}{aq:kO U}{call:cW}{A:Type}[aJ A]{S:A->Prop}
def Iz (U:iQ)(ρ fs:List V)(s:bA U)(S:A->Prop)(k:aO U.ax->bA U->A)(st:Heap->Option (V × Heap × Nat))(ms:cG):Prop:=
 ∃v ao w,S (k v ao)/\jJ s ao/\b3 U ao.aK ρ fs v w/\∀H,Own H ms->st H=some (w,H,H.length)
theorem done{v:aO U.ax}{w:V}{k:aO U.ax->bA U->A}{st:Heap->Option (V × Heap × Nat)}{ms:cG}(h:S (k v s))(ad:b3 U s.aK ρ fs v w)(e:∀H,Own H ms->st H=some (w,H,H.length)):Iz U ρ fs s S k st ms:=⟨v,s,w,h,.rfl,ad,e⟩
theorem ur{c neg:Bool}{k:aO U.ax->bA U->A}{st:Heap->Option (V × Heap × Nat)}{ms:cG}(h:S (name s c neg k))(e:∀H,Own H ms->st H=some (.bool (c != neg),H,H.length)):Iz U ρ fs s S k st ms:=by
 obtain⟨v,ao,h1,h2,ar⟩:=afd (ρ:=ρ) (fs:=fs) h;exact⟨v,ao,_,h1,h2,ar,e⟩
theorem SJ{ms:cG}(aA:mb S){op:BinOp}{x y:aO U.ax}{xu SK:V}{k:aO U.ax->bA U->A}(h:S (bin s op k x y))(hx:b3 U s.aK ρ fs x xu)(hy:b3 U s.aK ρ fs y SK):
  Iz U ρ fs s S k (fun H=>(en op xu SK).map fun v=>(v,H,H.length)) ms:=by
 unfold bin at h;split at h
 ·rename_i bY a Ij c
  cases hx;cases hy;split at h
  ·exact absurd h aA.bad
  ·rename_i hk
   have hk:=of_decide_eq_true hk;subst hk;have bg:¬(bY≠bY):=fun q=>q rfl;split at h
   ·exact done h .int (fun H aw=>by simp[en])
   ·exact done h .int (fun H aw=>by simp[en])
   ·exact done h .int (fun H aw=>by simp[en])
   ·exact ur h (fun H aw=>by simp[en])
   ·exact ur h (fun H aw=>by simp[en])
   ·exact ur h (fun H aw=>by simp[en])
   ·exact ur h (fun H aw=>by simp[en])
   ·exact ur h (fun H aw=>by simp[en])
   ·exact ur h (fun H aw=>by simp[en])
   ·exact done h .int (fun H aw=>by simp[en])
   ·split at h
    ·obtain⟨q,e,h⟩:=aA.cv h
     refine done h .int fun H aw=> ?_;unfold G4 at e;split at e
     ·cases e
     ·rename_i hc;cases e;simp[en,hc]
    ·exact absurd h aA.bad
   ·split at h
    ·obtain⟨q,e,h⟩:=aA.cv h
     refine done h .int fun H aw=> ?_;unfold tZ at e;split at e
     ·cases e
     ·rename_i hc;cases e;simp[en,hc]
    ·exact absurd h aA.bad
   ·exact absurd h aA.bad
 ·rename_i a c
  cases hx;cases hy;split at h
  ·obtain⟨q,e,h⟩:=aA.cv h
   refine done h .str fun H aw=> ?_;unfold ad3 at e;split at e
   ·rename_i hc;cases e;simp only[en,hc,if_true];rfl
   ·cases e
  ·exact ur h (fun H aw=>by simp[en])
  ·exact ur h (fun H aw=>by simp[en])
  ·exact absurd h aA.bad
 ·exact absurd h aA.bad
theorem auL{ms:cG}(aA:mb S){op:BinOp}{x:aO U.ax}{xu:V}{rF:IntKind}{c:Int}{k:aO U.ax->bA U->A}(h:S (Sr s op k x rF c))(hx:b3 U s.aK ρ fs x xu):
  Iz U ρ fs s S k (fun H=>(en op xu (.int rF c)).map fun v=>(v,H,H.length)) ms:=by
 unfold Sr at h;split at h
 ·rename_i bY a
  cases hx;split at h
  ·split at h
   ·rename_i e
    exact done h .int (fun H aw=>by simp only[en];rw[if_pos (of_decide_eq_true e)];rfl)
   ·exact absurd h aA.bad
  ·split at h
   ·rename_i e
    exact done h .int (fun H aw=>by simp only[en];rw[if_pos (of_decide_eq_true e)];rfl)
   ·exact absurd h aA.bad
  ·split at h
   ·rename_i e
    obtain⟨rfl,h0⟩:=of_decide_eq_true e;have:¬c=0:=by omega
    exact done h .int (fun H aw=>by simp[en,this])
   ·exact absurd h aA.bad
  ·split at h
   ·rename_i e
    obtain⟨rfl,h0⟩:=of_decide_eq_true e;have:¬c=0:=by omega
    exact done h .int (fun H aw=>by simp[en,this])
   ·exact absurd h aA.bad
  ·exact SJ aA h .int .int
 ·exact SJ aA h hx .int
theorem afe:∀{ks:List Nat} {xs cK:List (aO U.ax)} {vs ws:List V} {e:Bool},vx s ks xs cK=some e->bD U s.aK ρ fs xs vs->bD U s.aK ρ fs cK ws->kF ks vs ws=some e
 |[],_,_,_,_,_,h,.nil,.nil=>by simp only[vx]at h;cases h;rfl
 |[],_,_,_,_,_,h,.cons _ _,.nil=>by simp[vx]at h
 |[],_,_,_,_,_,h,.nil,.cons _ _=>by simp[vx]at h
 |[],_,_,_,_,_,h,.cons _ _,.cons _ _=>by simp[vx]at h
 | _::_,_,_,_,_,_,h,.nil,_=>by simp[vx]at h
 | _::_,_,_,_,_,_,h,.cons _ _,.nil=>by simp[vx]at h
 |n::ks,_,_,_,_,_,h,.cons hx rx,.cons hy auM=>by
  simp only[vx]at h;split at h
  ·cases h
  ·rename_i e he
   have ih:=afe he rx auM;simp only[kF];split at h
   ·cases hx;cases hy
    split at h
    ·rename_i hk
     have hk:=of_decide_eq_true hk;subst hk;cases h;simp[iK,ih]
    ·cases h
   ·cases hx;cases hy
    cases h;simp[iK,ih]
   ·split at h
    ·rename_i a c ha hc
     cases h;rw[Ex ha hx,Ex hc hy];simp[iK,ih]
    ·cases h
   ·cases h
theorem aff (R:b7 U b F fs s σ H G ρ)(bV:∀t v,bj aq t=some v->b3 U s.aK ρ fs v (a1 t)):∀{ps:List (Nat × Nat × aj)} {z cs:List (aO U.ax)} {SL:List V},Mx z aq s ps=some cs->bD U s.aK ρ fs z SL->
  ∃ws,tk SL (ps.map fun p=>(p.1,p.2.1,bw a1 σ p.2.2))=some ws/\bD U s.aK ρ fs cs ws
 |[],_,_,_,h,aR=>by cases h;exact⟨_,rfl,aR⟩
 |(off,n,x)::r,z,cs,SL,h,aR=>by
  simp only[Mx]at h;split at h
  ·cases h
  ·rename_i v ad
   split at h
   ·cases h
   ·rename_i l hl
    split at h
    ·rename_i af ak bK
     have hw:=BH hl (c1 R bV ad);obtain⟨ws,h1,h2⟩:=aff R bV h (MS hw off aR);refine⟨ws,?_,h2⟩;simp only[dv,tk];rw[if_pos ⟨by rw[<-hw.length];exact eE af,by rw[<-aR.length];exact mh ak,SI bK hw⟩];exact h1
    ·cases h
theorem afg (aY:gp U){t:Nat}{B:List Bool}:∀{vs:List (aO U.ax)} {ws:List V} {l:List (U.ax t)},Mz t B vs=some l->bD U B ρ fs vs ws->ws=l.map (U.enc t)
 | _,_,_,h,.nil=>by cases h;rfl
 | _,_,_,h,.cons ad r=>by
   simp only[Mz]at h;split at h
   ·cases h
   ·rename_i x e
    split at h
    ·cases h
    ·rename_i l ak
     cases h;rw[aY.jd _ _ _ _ _ _ _ ad e,afg aY ak r];rfl
theorem afh:∀{n:Nat} {ps:List (Nat × aj)},My n ps=true->ps.map Prod.fst=List.range' n ps.length
 | _,[],_=>rfl
 |n,p::r,h=>by
  simp only[My]at h;split at h
  ·rename_i e
   simp only[dv,gD,td,eE e,afh h]
  ·cases h
theorem afi{α:Type}{b es:Nat}{f:α->V}{y q:ae α}{v:V}{m:List (Nat × b5)}{ms:cG}{ah:aj->V}{call:cW}{x:aj}{lo hi:Option aj}{a c:Int}(k:Nat)(hk:ms[k]? =some m)(hr:fE b es f v y m)(hs:l6 y a c=some q)(ha:w8 ah lo 0 a)(hc:w8 ah hi y.len c)(h:ah x=v):
  ∃w,Bx v a.toNat c.toNat w/\∀H,Own H ms->cc call ah H H.length (.ti es x lo hi none)=some (w,H,H.length):=by
 have dj:fe b es v (y.map f) m:=hr;cases y with
 |nil=>
  simp only[l6]at hs;split at hs
  ·rename_i q;obtain⟨rfl,rfl⟩:=q
   cases dj;refine⟨.aN,.nil,fun H aw=> ?_⟩;rw[DL];simp only[step,h];rw[ha.eq (n:=0) rfl (zN _),hc.eq (n:=0) rfl (zN _)];rfl
  ·cases hs
 |emp=>
  simp only[l6]at hs;split at hs
  ·rename_i q;obtain⟨rfl,rfl⟩:=q
   cases dj;refine⟨.emp,.emp,fun H aw=> ?_⟩;rw[DL];simp only[step,h];rw[ha.eq (n:=0) rfl (zN _),hc.eq (n:=0) rfl (zN _)];rfl
  ·cases hs
 |mk l=>
  simp only[l6]at hs;split at hs
  ·rename_i q;obtain⟨q1,q2,cn⟩:=q
   have wW:fe b es v (.mk (l.map f)) m:=dj;cases wW with
   |row p _ bg hb=>
    have af:=ha.eq (n:=0) rfl q1;have ak:=hc.eq (n:=(l.map f).length) (by simp[ae.len,ae.l]) (by omega);have hle:a.toNat<=c.toNat/\c.toNat<=(l.map f).length:=⟨by omega,by simp;omega⟩;by_cases aT:a.toNat<c.toNat
    ·refine⟨_,.row p es _ _ _ aT,fun H aw=> ?_⟩
     have ba:=aw.get k hk;rw[DL];simp only[step,h,af,ak,ba];rw[if_pos ⟨hle.1,hle.2,trivial⟩,if_pos ⟨trivial,trivial⟩,if_pos aT,dA]
    ·have he:a.toNat=c.toNat:=by omega
     rw[he];refine⟨_,.ae2 p es _ _,fun H aw=> ?_⟩;have ba:=aw.get k hk;rw[DL];simp only[step,h,af,ak,ba];rw[if_pos ⟨hle.1,hle.2,trivial⟩,if_pos ⟨trivial,trivial⟩,if_neg aT]
  ·cases hs
theorem auN{α:Type}{b es:Nat}{f:α->V}{y:ae α}{v:V}{m:List (Nat × b5)}{ms:cG}{H:Heap}(k:Nat)(hk:ms[k]? =some m)(aw:Own H ms)(hr:fE b es f v y m):Go.Abs.elems H es v=some (y.l.map f):=by
 have dj:fe b es v (y.map f) m:=hr;cases y with
 |nil=>cases dj;rfl
 |emp=>cases dj;rfl
 |mk l=>
  have wW:fe b es v (.mk (l.map f)) m:=dj;cases wW with
  |row p _ bg hb=>
   have ba:=aw.get k hk;simp only[Go.Abs.elems,ba];rw[if_pos ⟨trivial,trivial,trivial,by omega⟩,CJ,J4];rfl
theorem afj{α:Type}{b es:Nat}{f:α->V}{y q:ae α}{v w:V}{m:List (Nat × b5)}{ms:cG}{H:Heap}{a c:Int}(k:Nat)(hk:ms[k]? =some m)(aw:Own H ms)(hr:fE b es f v y m)(hs:l6 y a c=some q)(ad:Bx v a.toNat c.toNat w):Go.Abs.elems H es w=some (q.l.map f):=by
 have dj:fe b es v (y.map f) m:=hr;cases y with
 |nil=>
  simp only[l6]at hs;split at hs
  ·rename_i q;obtain⟨rfl,rfl⟩:=q
   cases hs;cases dj;cases ad;rfl
  ·cases hs
 |emp=>
  simp only[l6]at hs;split at hs
  ·rename_i q;obtain⟨rfl,rfl⟩:=q
   cases hs;cases dj;cases ad;rfl
  ·cases hs
 |mk l=>
  simp only[l6]at hs;split at hs
  ·rename_i q;obtain⟨q1,q2,cn⟩:=q
   cases hs;have wW:fe b es v (.mk (l.map f)) m:=dj;have hle:c.toNat<=(l.map f).length:=by simp;omega
   cases wW with
   |row p _ bg hb=>
    have ba:=aw.get k hk;show _=some (((l.take c.toNat).drop a.toNat).map f);rw[List.map_drop,List.map_take];generalize a.toNat=bk at ad;generalize c.toNat=c' at ad hle;cases ad with
    |row _ _ _ _ _ aT=>
     simp only[Go.Abs.elems,ba];rw[if_pos ⟨trivial,trivial,trivial,by omega⟩,List.drop_take]
    |ae2=>
     simp only[Go.Abs.elems,if_true];rw[Od (by simp;omega)]
  ·cases hs
theorem mc{e:aj->V}{x:Option aj}{o:Option (Option (aO U.ax))}{d n:Int}(hx:x.map (ah aq s)=o)(R:b7 U b F fs s σ H G ρ)(bV:∀t v,bj aq t=some v->b3 U s.aK ρ fs v (a1 t))(ho:(o=none/\n=d)\/o=some (some (.int .i64 n))):w8 (bw a1 σ) x d n:=by
 rcases ho with⟨rfl,rfl⟩|rfl
 ·cases x
  ·exact .inl ⟨rfl,rfl⟩
  ·cases hx
 ·cases x
  ·cases hx
  ·rename_i o
   refine .inr ⟨o,rfl,?_⟩;simp only[nM,aB]at hx;have:=c1 R bV hx;generalize bw a1 σ o=w at this;cases this;rfl
theorem _root_.Go.Abs.fe.bJ{α:Type}{es:Nat}{f:α->V}{x:ae α}{e:α}{n:Int}{v:V}{m:List (Nat × b5)}(hr:fE b es f v x m)(h:bE x.l n=some e):∃l N,v=.bJ l es 0 N N:=by
 unfold fE at hr;cases x with
 |mk l=>
  cases hr with
  |row q ds hd hb=>exact⟨_,_,rfl⟩
 | _=>
   unfold bE at h;split at h<;>simp[ae.l]at h
theorem _root_.Go.Abs.fe.afk{s:ae V}{l es e N:Nat}{m:List (Nat × b5)}(hr:fe b e (.bJ l es 0 N N) s m):es=e:=by cases hr;rfl
theorem auO{α:Type}{es l N k:Nat}{f:α->V}{x:ae α}{n:Int}{bY:IntKind}{e:α}{m:List (Nat × b5)}{ms:cG}{ah:aj->V}{a i:aj}(he:bE x.l n=some e)(aw:Own H ms)(hk:ms[k]? =some m)(hr:fE b es f (.bJ l es 0 N N) x m)(hx:ah a=.bJ l es 0 N N)(hi:ah i=.int bY n):
  cc call ah H H.length (.indexAddr es a i)=some (.hz l es n.toNat 0 N,H,H.length):=by
 obtain⟨rfl,rfl,-,-⟩:=hr.at rfl;unfold bE at he;split at he
 ·rename_i hn
  have aT:=(fj.1 he).1;show step ah H H.length (.indexAddr es a i)=_;simp only[step,hi,kE,hn,if_true,hx,aw.get k hk];rw[if_pos ⟨trivial,trivial,trivial,by simpa using aT,by simp⟩];simp
 ·cases he
theorem SM (aY:gp U){k n:Nat}(h:kindOf (U:=U) k n=true)(a c:U.ax k):iK n (U.enc k a) (U.enc k c)=some (@BEq.beq _ ⟨U.beq k⟩ a c):=by
 unfold kindOf at h;split at h
 ·rename_i m e;rw[eE h]at e;exact aY.ae3 k n e a c
 ·cases h
set_option maxHeartbeats 1000000 in
theorem y2{B:List Bool}{v:aO U.ax}{w c:V}(h:sU v=some (.k c))(ad:b3 U B ρ fs v w):w=c:=by
 unfold sU at h;split at h<;>first|(cases h;cases ad;rfl)|cases h
theorem SN (aY:gp U)(aA:mb S)(R:b7 U b F fs s σ H G ρ)(bV:∀t v,bj aq t=some v->b3 U s.aK ρ fs v (a1 t)){ty:Option Nat}{op:cV}{k:aO U.ax->bA U->A}(h:S (Ik aq s ty k op)):
  Iz U ρ fs s S k (fun H=>cc call (bw a1 σ) H H.length op) (dz s G F):=by
 unfold Ik at h;split at h
 case h_1 x=>
  split at h
  ·rename_i v ad;exact done h (c1 R bV ad) fun _ _=>rfl
  ·exact absurd h aA.bad
 case h_2 c a d=>
  split at h
  ·rename_i v ad
   obtain⟨β,ao,af,ak,bK,cL⟩:=Ew aA h R.dQ (c1 R bV ad);have oN:=R.keep ak;have afl:∀t v,bj aq t=some v->b3 U ao.aK ρ fs v (a1 t):=fun t v q=>by rw[bK];exact bV t v q
   rcases cL with⟨rfl,h⟩|⟨rfl,h⟩
   ·split at h
    ·rename_i v ad;exact⟨_,ao,_,h,ak,c1 oN afl ad,fun H aw=>by simp only[pC,af];rfl⟩
    ·exact absurd h aA.bad
   ·split at h
    ·rename_i v ad;exact⟨_,ao,_,h,ak,c1 oN afl ad,fun H aw=>by simp only[pC,af];rfl⟩
    ·exact absurd h aA.bad
  ·exact absurd h aA.bad
 case h_3 z ps=>
  split at h
  ·rename_i cs hc
   obtain⟨ws,h1,h2⟩:=aff R bV hc (Ix z);exact done h (.agg h2) (fun H aw=>aro h1)
  ·exact absurd h aA.bad
 case h_4 es z len ps jP=>
  split at h
  ·rename_i t
   split at h
   ·exact absurd h aA.bad
   ·rename_i vs c2
    split at h
    ·rename_i l af ak bK cL
     have mK:=xt R bV c2;have hl:=afg aY af mK;have hlen:vs.length=len:=eE bK;have eo:U.es t=es:=eE cL;have AU:(ps.map fun p=>bw a1 σ p.2)=l.map (U.enc t):=by rw[<-hl,kX];rfl
     have xv:(l.map (U.enc t)).length=len:=by rw[<-hl,<-mK.length];exact hlen
     have nQ:ps.length=len:=by rw[<-xv,<-AU,eL]
     split at h
     ·refine done h .sl fun H aw=> ?_
      have:len=0:=by rw[<-xv];rfl
      subst this;cases ps
      ·exact ars rfl
      ·cases nQ
     ·rename_i bg
      refine done h .sl fun H aw=> ?_;rw[show bn (U.es t) (U.enc t) (.mk l)=.list es (l.map (U.enc t)) by rw[<-eo];rfl];refine arq AU (by rw[xv,<-nQ];exact afh ak) xv ?_ (ua (aY.bI t) l) ?_
      ·refine eq_false fun q=> ?_
       rw[q]at xv;rw[eL]at xv;exact bg (List.eq_nil_of_length_eq_zero xv)
      ·intro v ad
       obtain⟨x,-,rfl⟩:=dZ.1 ad;exact⟨by rw[aY.es,eo],aY.ok t x⟩
    ·exact absurd h aA.bad
  ·exact absurd h aA.bad
 case h_5 sh x=>
  split at h
  ·rename_i cs f hx
   split at h
   ·rename_i v hc
    have ad:=c1 R bV hx;generalize hw:bw a1 σ x=w at ad;cases ad with
    |dO ad=>
     obtain⟨u,h1,h2⟩:=Iy hc ad;exact done h h2 (fun H aw=>by rw[n2,hw];simp[jQ,h1])
   ·exact absurd h aA.bad
  ·rename_i o f hx
   split at h
   ·rename_i wr cs hm
    split at h
    ·rename_i v hc
     have ad:=c1 R bV hx;generalize hw:bw a1 σ x=w at ad;cases ad with
     |ptr ho=>
      obtain⟨a,ws,q1,q2,cn,c7,-⟩:=R.cells hm;rw[q1]at ho;cases ho;obtain⟨u,h1,h2⟩:=Iy hc c7;exact done h h2 (fun H aw=>by rw[n2,hw];simp[jQ,cn H aw,h1])
    ·exact absurd h aA.bad
   ·exact absurd h aA.bad
  ·rename_i o n f hx
   split at h
   ·rename_i t a hm
    obtain⟨e,he,h⟩:=aA.cv h;obtain⟨v,ao,h1,h2,ar⟩:=BI (ρ:=ρ) (fs:=fs) aY h;split at h1
    ·rename_i cs hc
     split at h1
     ·rename_i u hu
      have ad:=c1 R bV hx;generalize hw:bw a1 σ x=w at ad;cases ad with
      |jt ho=>
       obtain⟨v0,q1,q2⟩:=R.mem o _ hm;obtain⟨k,hk,-⟩:=R.at hm;rw[q1]at ho;cases ho;have:=q2.afk;subst this;obtain⟨u',jV,oF⟩:=Iy hu (BH hc ar);exact⟨_,ao,_,h1,h2,oF,fun H aw=>arz k he aw hk q2 rfl jV hw⟩
     ·exact absurd h1 aA.bad
    ·exact absurd h1 aA.bad
   ·exact absurd h aA.bad
  ·exact absurd h aA.bad
 case h_6 x=>
  split at h
  ·rename_i o f hx
   have ad:=c1 R bV hx;generalize hw:bw a1 σ x=w at ad;cases ad with
   |ptr ho=>exact done h (.ptr ho) (fun H aw=>by simp[cc,step,hw])
  ·rename_i o f hx
   have ad:=c1 R bV hx;generalize hw:bw a1 σ x=w at ad;cases ad with
   |dO ho=>exact done h (.dO ho) (fun H aw=>by simp[cc,step,hw])
  ·rename_i o f hx
   have ad:=c1 R bV hx;generalize hw:bw a1 σ x=w at ad;cases ad with
   |fn ho=>exact done h (.fn ho) (fun H aw=>by simp[cc,step,hw])
  ·rename_i o n f hx
   have ad:=c1 R bV hx;generalize hw:bw a1 σ x=w at ad;cases ad with
   |jt ho=>exact done h (.jt ho) (fun H aw=>by simp[cc,step,hw])
  ·exact absurd h aA.bad
 case h_7 op x rF c=>
  split at h
  ·rename_i v ad
   simp only[nv];exact auL aA h (c1 R bV ad)
  ·exact absurd h aA.bad
 case h_8 op x y _=>
  split at h
  ·rename_i v w ad hw
   simp only[nv];exact SJ aA h (c1 R bV ad) (c1 R bV hw)
  ·exact absurd h aA.bad
 case h_9 neg ks x y=>
  split at h
  ·rename_i a c ha hc
   split at h
   ·rename_i e he
    have dC:=c1 R bV ha;have lr:=c1 R bV hc;generalize fg:bw a1 σ x=wa at dC;generalize nC:bw a1 σ y=BJ at lr;cases dC with
    |agg dC=>cases lr with
     |agg lr=>
      refine ur h fun H aw=> ?_;simp only[cc,step,fg,nC,afe he dC lr];cases neg<;>simp
   ·exact absurd h aA.bad
  ·exact absurd h aA.bad
 case h_10 kind neg x y=>
  split at h
  ·rename_i v w ad hw
   have dC:=c1 R bV ad;have lr:=c1 R bV hw;generalize fg:bw a1 σ x=wa at dC;generalize nC:bw a1 σ y=BJ at lr;split at h
   ·rename_i t a
    cases dC;cases lr;refine ur h fun H aw=> ?_;rw[rq,fg,nC];cases a<;>cases neg<;>rfl
   ·split at h
    ·rename_i a c ha hc
     refine ur h fun H aw=> ?_;rw[rq,fg,nC,Ex ha dC,Ex hc lr];cases neg<;>simp[qY]
    ·exact absurd h aA.bad
   ·exact absurd h aA.bad
  ·exact absurd h aA.bad
 case h_11 op x=>
  split at h
  ·rename_i c hx
   have ad:=c1 R bV hx;generalize hw:bw a1 σ x=w at ad;cases ad;exact done h .cw (fun H aw=>by rw[qB,hw];rfl)
  ·rename_i i neg hx
   have ad:=c1 R bV hx;generalize hw:bw a1 σ x=w at ad;cases ad with
   |bo hb=>exact done h (.bo hb) (fun H aw=>by rw[qB,hw];rename_i Ab;cases neg<;>cases Ab<;>rfl)
  ·rename_i bY n hx
   have ad:=c1 R bV hx;generalize hw:bw a1 σ x=w at ad;cases ad;exact done h .int (fun H aw=>by rw[qB,hw];rfl)
  ·exact absurd h aA.bad
 case h_12 bY x=>
  split at h
  ·rename_i n hx
   have ad:=c1 R bV hx;generalize hw:bw a1 σ x=w at ad;cases ad;exact done h .int (fun H aw=>by simp[cc,step,hw])
  ·exact absurd h aA.bad
 case h_13 m x y=>
  split at h
  ·rename_i bY a Ij c hx hy
   have dC:=c1 R bV hx;have lr:=c1 R bV hy;generalize fg:bw a1 σ x=wa at dC;generalize nC:bw a1 σ y=BJ at lr;cases dC;cases lr;split at h
   ·rename_i e
    have e:=of_decide_eq_true e;subst e;split at h
    ·exact done h .int (fun H aw=>by rw[ZB];simp[step,fg,nC])
    ·exact done h .int (fun H aw=>by rw[ZB];simp[step,fg,nC])
   ·exact absurd h aA.bad
  ·exact absurd h aA.bad
 case h_14 i cs=>
  split at h
  ·rename_i vs c2
   exact done h (.fn (xt R bV c2)) (fun H aw=>by rw[QZ];rfl)
  ·exact absurd h aA.bad
 case h_15 off x=>
  split at h
  ·rename_i o f hx
   have ad:=c1 R bV hx;generalize hw:bw a1 σ x=w at ad;cases ad with
   |ptr ho=>exact done h (.ptr ho) (fun H aw=>by rw[n3,hw])
  ·rename_i o f hx
   have ad:=c1 R bV hx;generalize hw:bw a1 σ x=w at ad;cases ad with
   |dO ho=>exact done h (.dO ho) (fun H aw=>by rw[n3,hw])
  ·rename_i o n f hx
   have ad:=c1 R bV hx;generalize hw:bw a1 σ x=w at ad;cases ad with
   |jt ho=>exact done h (.jt ho) (fun H aw=>by rw[n3,hw])
  ·exact absurd h aA.bad
 case h_16 off sh x=>
  split at h
  ·rename_i cs hx
   split at h
   ·rename_i v hc
    have ad:=c1 R bV hx;generalize hw:bw a1 σ x=w at ad;cases ad with
    |agg ho=>
     obtain⟨u,h1,h2⟩:=Iy hc ho;exact done h h2 (fun H aw=>by rw[aoB,hw];simp[h1])
   ·exact absurd h aA.bad
  ·exact absurd h aA.bad
 case h_17 x i=>
  split at h
  ·rename_i vs hx
   split at h
   ·rename_i v hc
    have ad:=c1 R bV hx;generalize hw:bw a1 σ x=w at ad;cases ad with
    |aU ho=>
     rw[xl]at hc;obtain⟨u,h1,h2⟩:=ho.get hc;exact done h h2 (fun H aw=>by rw[sF,hw];simp[h1])
   ·exact absurd h aA.bad
  ·exact absurd h aA.bad
 case h_18 kind x=>
  split at h
  ·rename_i a hx
   have ad:=c1 R bV hx;generalize hw:bw a1 σ x=w at ad;cases ad;exact done h .int (fun H aw=>by simp[cc,step,hw])
  ·rename_i t a hx
   have ad:=c1 R bV hx;generalize hw:bw a1 σ x=w at ad;cases ad;exact done h .int (fun H aw=>w7 hw _)
  ·rename_i o hx
   split at h
   ·rename_i t a hm
    have ad:=c1 R bV hx;generalize hw:bw a1 σ x=w at ad;cases ad with
    |row ho=>
     obtain⟨v0,q1,q2⟩:=R.mem o _ hm;obtain⟨k,hk,-⟩:=R.at hm;rw[q1]at ho;cases ho;exact done h .int (fun H aw=>arx aw k hk q2 hw)
   ·exact absurd h aA.bad
  ·rename_i o hx
   split at h
   ·rename_i eI kc m hm
    have ad:=c1 R bV hx;generalize hw:bw a1 σ x=w at ad;cases ad with
    |row ho=>
     obtain⟨a,q1,q2,-⟩:=R.mem o _ hm;obtain⟨k,hk,-⟩:=R.at hm;rw[q1]at ho;cases ho;exact done h .int (fun H aw=>aeg (aw.get k (by rw[hk,q2])) hw)
   ·exact absurd h aA.bad
  ·rename_i hx
   have ad:=c1 R bV hx;generalize hw:bw a1 σ x=w at ad;cases ad;exact done h .int (fun H aw=>by simp[cc,step,hw])
  ·rename_i hx
   have ad:=c1 R bV hx;generalize hw:bw a1 σ x=w at ad;cases ad;exact done h .int (fun H aw=>by simp[cc,step,hw])
  ·exact absurd h aA.bad
 case h_19 es x i=>
  split at h
  ·rename_i t a bY n hx hi
   have dC:=c1 R bV hx;have lr:=c1 R bV hi;generalize fg:bw a1 σ x=wa at dC;generalize nC:bw a1 σ i=BJ at lr;cases dC;cases lr;split at h
   ·rename_i e
    have e:=eE e;subst e;obtain⟨y,hy,h⟩:=aA.cv h;obtain⟨v,ao,h1,h2,ar⟩:=BI (ρ:=ρ) (fs:=fs) aY h;split at h1
    ·rename_i cs hc
     exact⟨_,ao,_,h1,h2,.dO (BH hc ar),fun H aw=>A5 fg nC hy _⟩
    ·exact absurd h1 aA.bad
   ·exact absurd h aA.bad
  ·rename_i o bY n hx hi
   split at h
   ·rename_i t a hm
    split at h
    ·rename_i e
     have e:=eE e;subst e;obtain⟨y,hy,h⟩:=aA.cv h;have dC:=c1 R bV hx;have lr:=c1 R bV hi;generalize fg:bw a1 σ x=wa at dC;generalize nC:bw a1 σ i=BJ at lr;cases lr;cases dC with
     |row ho=>
      obtain⟨v0,q1,q2⟩:=R.mem o _ hm;obtain⟨k,hk,-⟩:=R.at hm;rw[q1]at ho;cases ho;obtain⟨l,N,rfl⟩:=q2.bJ hy;exact done h (.jt q1) (fun H aw=>auO hy aw hk q2 fg nC)
    ·exact absurd h aA.bad
   ·exact absurd h aA.bad
  ·exact absurd h aA.bad
 case h_20 x i=>
  split at h
  ·rename_i a bY n hx hi
   have dC:=c1 R bV hx;have lr:=c1 R bV hi;generalize fg:bw a1 σ x=wa at dC;generalize nC:bw a1 σ i=BJ at lr;cases dC;cases lr;obtain⟨y,hy,h⟩:=aA.cv h;exact done h .int (fun H aw=>arn fg nC hy _)
  ·exact absurd h aA.bad
 case h_21 x lo hi=>
  split at h
  ·rename_i a hx
   have dC:=c1 R bV hx;generalize fg:bw a1 σ x=wa at dC;cases dC;split at h
   ·rename_i af ak
    obtain⟨y,hy,h⟩:=aA.cv h;exact done h .str (fun H aw=>LL hy (mc (e:=bw a1 σ) af R bV (.inl ⟨rfl,rfl⟩)) (mc (e:=bw a1 σ) ak R bV (.inl ⟨rfl,rfl⟩)) fg)
   ·rename_i af ak
    obtain⟨y,hy,h⟩:=aA.cv h;exact done h .str (fun H aw=>LL hy (mc (e:=bw a1 σ) af R bV (.inr rfl)) (mc (e:=bw a1 σ) ak R bV (.inl ⟨rfl,rfl⟩)) fg)
   ·rename_i af ak
    obtain⟨y,hy,h⟩:=aA.cv h;exact done h .str (fun H aw=>LL hy (mc (e:=bw a1 σ) af R bV (.inl ⟨rfl,rfl⟩)) (mc (e:=bw a1 σ) ak R bV (.inr rfl)) fg)
   ·rename_i af ak
    obtain⟨y,hy,h⟩:=aA.cv h;exact done h .str (fun H aw=>LL hy (mc (e:=bw a1 σ) af R bV (.inr rfl)) (mc (e:=bw a1 σ) ak R bV (.inr rfl)) fg)
   ·exact absurd h aA.bad
  ·exact absurd h aA.bad
 case h_22 kind z x i ok=>
  split at h
  ·rename_i o v hx hi
   split at h
   ·rename_i eI kc m hm
    split at h
    ·rename_i key b8 af ak bK
     have dC:=c1 R bV hx;have lr:=c1 R bV hi;generalize fg:bw a1 σ x=wa at dC;cases dC with
     |row ho=>
      obtain⟨a,q1,q2,-⟩:=R.mem o _ hm;obtain⟨k,hk,-⟩:=R.at hm;rw[q1]at ho;cases ho;have afm:=aY.jd _ _ _ _ _ _ _ lr af;have aR:=aY.jd _ _ _ ρ fs _ _ (MR z) ak;have ba:∀H,Own H (dz s G F)->H[a]? =some (.map (gK (U.enc eI) (U.enc kc) m)):=fun H aw=>aw.get k (by rw[hk,q2]);split at h
      ·obtain⟨v,ao,h1,h2,ar⟩:=BI (ρ:=ρ) (fs:=fs) aY h
       exact⟨v,ao,_,h1,h2,ar,fun H aw=>@aef H _ _ _ _ ⟨U.beq eI⟩ _ _ _ _ _ _ _ _ _ (SM aY bK) b8 aR (ba H aw) fg afm⟩
      ·obtain⟨v,ao,h1,h2,ar⟩:=BI (ρ:=ρ) (fs:=fs) aY h
       obtain⟨bv,s2,aS,h5,eA⟩:=afd (ρ:=ρ) (fs:=fs) h1;refine⟨_,s2,_,aS,h2.trans h5,.aU (.cons (ar.mono h5.aK dW) (.cons eA .nil)),fun H aw=> ?_⟩;have:=@arw H call (bw a1 σ) _ _ ⟨U.beq eI⟩ _ _ _ _ _ _ _ _ _ (SM aY bK) b8 aR (ba H aw) fg afm;show cc call (bw a1 σ) H H.length (.lookup kind z x i true)=_;rw[this];simp[MA]
    ·exact absurd h aA.bad
   ·exact absurd h aA.bad
  ·exact absurd h aA.bad
 case h_23 es x lo hi=>
  split at h
  ·rename_i o hx
   have dC:=c1 R bV hx;generalize fg:bw a1 σ x=wa at dC;split at h
   ·rename_i t a hm
    split at h
    ·rename_i e
     have e:=eE e;subst e;cases dC with
     |row ho=>
      obtain⟨v0,q1,q2⟩:=R.mem o _ hm;rw[q1]at ho;cases ho;obtain⟨k,hk,-⟩:=R.at hm;split at h
      ·rename_i af ak
       obtain⟨y,hy,h⟩:=aA.cv h;obtain⟨w,hw,ct⟩:=afi (ms:=dz s G F) (call:=call) k hk q2 hy (mc (e:=bw a1 σ) af R bV (.inr rfl)) (mc (e:=bw a1 σ) ak R bV (.inl ⟨rfl,rfl⟩)) fg;exact done h (.lp q1 hw) ct
      ·rename_i af ak
       obtain⟨y,hy,h⟩:=aA.cv h;obtain⟨w,hw,ct⟩:=afi (ms:=dz s G F) (call:=call) k hk q2 hy (mc (e:=bw a1 σ) af R bV (.inl ⟨rfl,rfl⟩)) (mc (e:=bw a1 σ) ak R bV (.inr rfl)) fg;exact done h (.lp q1 hw) ct
      ·exact absurd h aA.bad
    ·exact absurd h aA.bad
   ·exact absurd h aA.bad
  ·rename_i t a hx
   have dC:=c1 R bV hx;generalize fg:bw a1 σ x=wa at dC;cases dC;split at h
   ·rename_i e
    have e:=eE e;subst e;split at h
    ·rename_i af ak
     obtain⟨y,hy,h⟩:=aA.cv h;exact done h .sl (fun H aw=>LK hy (mc (e:=bw a1 σ) af R bV (.inl ⟨rfl,rfl⟩)) (mc (e:=bw a1 σ) ak R bV (.inl ⟨rfl,rfl⟩)) fg)
    ·rename_i af ak
     obtain⟨y,hy,h⟩:=aA.cv h;exact done h .sl (fun H aw=>LK hy (mc (e:=bw a1 σ) af R bV (.inr rfl)) (mc (e:=bw a1 σ) ak R bV (.inl ⟨rfl,rfl⟩)) fg)
    ·rename_i af ak
     obtain⟨y,hy,h⟩:=aA.cv h;exact done h .sl (fun H aw=>LK hy (mc (e:=bw a1 σ) af R bV (.inl ⟨rfl,rfl⟩)) (mc (e:=bw a1 σ) ak R bV (.inr rfl)) fg)
    ·rename_i af ak
     obtain⟨y,hy,h⟩:=aA.cv h;exact done h .sl (fun H aw=>LK hy (mc (e:=bw a1 σ) af R bV (.inr rfl)) (mc (e:=bw a1 σ) ak R bV (.inr rfl)) fg)
    ·exact absurd h aA.bad
   ·exact absurd h aA.bad
  ·exact absurd h aA.bad
 case h_24 es bytes a c=>
  split at h
  ·rename_i x t y ha hc
   have xw:=c1 R bV hc;generalize nC:bw a1 σ c=BJ at xw;cases xw;split at h
   ·rename_i af ak
    obtain⟨z,aR,h⟩:=aA.cv h;have af:=eE af;subst af;exact done h .sl fun H aw=>ae0 aR (.inl rfl) (y2 ak (c1 R bV ha)) nC (aY.bI t) (aY.ok t)
   ·rename_i af ak
    obtain⟨z,aR,h⟩:=aA.cv h;have af:=eE af;subst af;exact done h .sl fun H aw=>ae0 aR (.inr rfl) (y2 ak (c1 R bV ha)) nC (aY.bI t) (aY.ok t)
   ·exact absurd h aA.bad
  ·exact absurd h aA.bad
 case h_25=>exact absurd h aA.bad
end
end Go.Abs.gB
