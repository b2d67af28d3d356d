/- Texts of this claim, joined and written short by a program. -/
import Derived.Test.YtgkcikhegodchaaGreatDoorS33
import Derived.Test.YtgkcikhegodchaaGreatDoorS37
import Derived.Test.YtgkcikhegodchaaGreatDoorS00
set_option linter.unusedVariables false
set_option linter.unusedSimpArgs false
set_option linter.unusedSectionVars false
namespace Go.Proofs.YtgkcikhegodchaaGreatDoor.summing
open Go Go.Abs Go.Abs.bs Go.Proofs Go.ChangeShapes Go.WideShapes Go.ChangeAt Go.RowKit
set_option maxRecDepth 100000
theorem contract (H:Type)(enc:TypeId × Value->H)(W:World)(base:Nat)(args:Array Value)(ds gs:List (DataW H))(before:List MemPlace)
  (hval:∀(j:Nat) t v,Tryz.f5.params[j]? =some t->args[j]? =some v->Value.okWide Tryz.prog W .any base t v)
  (hW:DataW.Whole enc Tryz.prog Tryz.f5.params.toList Rows.stateSumsSpec.vars false W args.toList ds gs before)
  (dk:(DataW.weightsEach Tryz.prog (Tryz.f5.params.toList++(OpenSpec.ofChange Rows.stateSumsSpec).bare.plain.varTypes Tryz.prog) (ds++gs)).all (· <=reachBytes)=true)
  (ee:laidMetH Tryz.prog Rows.stateSumsRow.laid W):
  Calls Tryz.prog 5 args W fun e W'=>∃v,e=.returned v/\Rows.stateSumsSpec.post enc Tryz.prog Tryz.f5 false true false false W args v W':=by
 have hW':=hW;obtain⟨p,q,hA,hV,Cl,hfz,hnd⟩:=hW;have azb:(OpenSpec.ofChange Rows.stateSumsSpec).bare.plain.varTypes Tryz.prog=[]:=by kernel_rfl
 rw[azb,pP]at dk;obtain⟨y2,rfl⟩:=trodVars_none hV;subst y2;rw[pP]at dk;rw[Tryz.params5]at hA hval dk;obtain⟨v0,aBp,d0,aBq,p0,gT,vA,rfl,rfl,h0,azc⟩:=trodAll_cons hA;obtain⟨v1,aBr,d1,aBs,p1,q1,rfl,rfl,rfl,h1,bB⟩:=trodAll_cons azc;obtain⟨v2,ai1,d2,yO,p2,q2,rfl,rfl,rfl,h2,b4⟩:=trodAll_cons bB;obtain⟨v3,aBt,d3,aBu,p3,cd,rfl,rfl,rfl,ar,eI⟩:=trodAll_cons b4;obtain⟨rfl,rfl,rfl⟩:=trodAll_nil eI;obtain rfl:args= #[v0,v1,v2,v3]:=by cases args;simp_all
 obtain⟨m,a0⟩:=avQ (hval 0 30 v0 rfl rfl) h0;obtain⟨st,b7,al⟩:=avU (hval 1 22 v1 rfl rfl) h1 (Sv dk (j:=1) rfl rfl);obtain⟨a,ha,a2⟩:=aek (hval 2 46 v2 rfl rfl) h2 (Sv dk (j:=2) rfl rfl);obtain⟨b,hb,a3⟩:=aek (hval 3 46 v3 rfl rfl) ar (Sv dk (j:=3) rfl rfl);have hx:=aza (g:=fun b=>W.heap[b]?) m st a b b7 ha hb;have k5:laidMetH Tryz.prog Rows.stateVisibleRow.laid W:=ee;refine(states.walk axY k5 (i:=5) (ay9 (g:=fun b=>W.heap[b]?)) (vs:=[wm m,bb 1 aI st,bb 2 nj a,bb 2 nj b]) (xs:=[v0,v1,v2,v3]) (.cons _ _ _ _ a0 (.cons _ _ _ _ al (.cons _ _ _ _ a2 (.cons _ _ _ _ a3 .nil)))) hx).mono fun e W' hp=> ?_;obtain⟨rfl,G',H',U,ho,azd⟩:=hp;refine⟨_,rfl,states.avY hW' rfl (fun t ht=> ?_) (by kernel_rfl) rfl (fun _=>rfl) rfl U ho azd⟩;rw[Tryz.params5]at ht;have:t∈[30,22,46,46]:=by simpa using ht
 exact of_decide_eq_true (eU.1 (show[30,22,46,46].all (fun t=>decide (t<Tryz.prog.types.size))=true by kernel_rfl) t this)
theorem aze (os:Os):laidMet Tryz.prog Rows.stateSumsRow.laid ((LX os).forCall (fun _ _=>0) ⟨#[],#[.agg #[.slice none 0 0,.slice none 0 0,.slice none 0 0,.slice none 0 0,.slice none 0 0,.slice none 0 0,.slice none 0 0],.slice none 0 0,.slice none 0 0,.slice none 0 0],[]⟩).memory:=
 laidMet_of_run3 12 (by kernel_rfl) (by kernel_rfl) (by kernel_rfl)
theorem azf (os:Os):laidMetH Tryz.prog Rows.stateSumsRow.laid ((LX os).forCall (fun _ _=>0) ⟨#[],#[.agg #[.slice none 0 0,.slice none 0 0,.slice none 0 0,.slice none 0 0,.slice none 0 0,.slice none 0 0,.slice none 0 0],.slice none 0 0,.slice none 0 0,.slice none 0 0],[]⟩).memory:=by
 have ae:(Rows.stateSumsRow.laid.filter fun x=>x.2.handleName?.isSome)=[]:=by kernel_rfl
 unfold laidMetH;rw[ae];exact aze os
theorem reads (os:Os){H:Type}(enc:TypeId × Value->H):∃places,DataW.whole enc Tryz.prog ((LX os).forCall (fun _ _=>0) ⟨#[],#[.agg #[.slice none 0 0,.slice none 0 0,.slice none 0 0,.slice none 0 0,.slice none 0 0,.slice none 0 0,.slice none 0 0],.slice none 0 0,.slice none 0 0,.slice none 0 0],[]⟩).memory Tryz.f5.params.toList Rows.stateSumsSpec.vars false #[Value.agg #[.slice none 0 0,.slice none 0 0,.slice none 0 0,.slice none 0 0,.slice none 0 0,.slice none 0 0,.slice none 0 0],.slice none 0 0,.slice none 0 0,.slice none 0 0].toList 8=some ([.agg [.nil,.nil,.nil,.nil,.nil,.nil,.nil],.nil,.nil,.nil],[],places):=
 ⟨[],by kernel_rfl⟩
theorem lifted (os:Os)(started:os.Started)(H:Type)(enc:TypeId × Value->H)(F:Stop.Interp):
  ReturnsInHanded {} Tryz.checked os 5 .any ((OpenSpec.ofChange Rows.stateSumsSpec).preRow enc Tryz.prog Tryz.f5 Rows.stateSumsRow.domain false Rows.stateSumsRow.laid) (((OpenSpec.ofChange Rows.stateSumsSpec).at F).post enc Tryz.prog Tryz.f5 false true false false):=by
 obtain⟨places,hx⟩:=reads os enc
 refine returnsInHanded_of_row (C:=Tryz.checked) (s:=OpenSpec.ofChange Rows.stateSumsSpec) own started (by kernel_rfl) Tryz.func5
  (witness_row_atRef (enc:=enc) (C:=Tryz.checked) false (LX os) #[.agg #[.slice none 0 0,.slice none 0 0,.slice none 0 0,.slice none 0 0,.slice none 0 0,.slice none 0 0,.slice none 0 0],.slice none 0 0,.slice none 0 0,.slice none 0 0] rfl (by kernel_rfl) (by kernel_rfl) (by kernel_rfl)
    (OpenSpec.preRow_of_cond 8 hx (by kernel_rfl) (fun k hk=>by cases hk) (by kernel_rfl) (azf os))) ?_
 intro W base args ds gs before hval hW _ _ dk ee _ _;exact contract H enc W base args ds gs before hval hW dk ee
end Go.Proofs.YtgkcikhegodchaaGreatDoor.summing
