/- Texts of this claim, joined and written short by a program. -/
import Derived.Test.YtgkcikhegodchaaGreatDoorP34
import Derived.Test.YtgkcikhegodchaaGreatDoorP37
import Derived.Test.YtgkcikhegodchaaGreatDoorP00
set_option linter.unusedVariables false
set_option linter.unusedSimpArgs false
set_option linter.unusedSectionVars false
namespace Go.Proofs.YtgkcikhegodchaaGreatDoor.seeing
open Go Go.Abs Go.Abs.bA Go.Proofs Go.ChangeShapes Go.WideShapes Go.ChangeAt Go.RowKit
set_option maxRecDepth 100000
theorem contract (H:Type)(enc:TypeId × Value->H)(W:World)(base:Nat)(args:Array Value)(ds gs:List (DataW H))(before:List MemPlace)
  (hval:∀(j:Nat) t v,Tryz.f3.params[j]? =some t->args[j]? =some v->Value.okWide Tryz.prog W .any base t v)
  (hW:DataW.Whole enc Tryz.prog Tryz.f3.params.toList Rows.stateVisibleSpec.vars false W args.toList ds gs before)
  (dr:(DataW.weightsEach Tryz.prog (Tryz.f3.params.toList++(OpenSpec.ofChange Rows.stateVisibleSpec).bare.plain.varTypes Tryz.prog) (ds++gs)).all (· <=reachBytes)=true)
  (dP:laidMetH Tryz.prog Rows.stateVisibleRow.laid W):
  Calls Tryz.prog 3 args W fun e W'=>∃v,e=.returned v/\Rows.stateVisibleSpec.post enc Tryz.prog Tryz.f3 false true false false W args v W':=by
 have hW':=hW;obtain⟨p,q,hA,hV,AA,hfz,hnd⟩:=hW;have IJ:(OpenSpec.ofChange Rows.stateVisibleSpec).bare.plain.varTypes Tryz.prog=[]:=by kernel_rfl
 rw[IJ,qt]at dr;obtain⟨wh,rfl⟩:=trodVars_none hV;subst wh;rw[qt]at dr;rw[Tryz.params3]at hA hval dr;obtain⟨v0,az2,d0,az3,p0,fP,uZ,rfl,rfl,h0,U4⟩:=trodAll_cons hA;obtain⟨v1,az4,d1,az5,p1,q1,rfl,rfl,rfl,h1,bI⟩:=trodAll_cons U4;obtain⟨rfl,rfl,rfl⟩:=trodAll_nil bI;obtain rfl:args= #[v0,v1]:=by cases args;simp_all
 obtain⟨m,a0⟩:=agL (hval 0 30 v0 rfl rfl) h0;obtain⟨st,ca,ak⟩:=agO (hval 1 22 v1 rfl rfl) h1 (agM dr (j:=1) rfl rfl);have hx:=U3 (g:=fun b=>W.heap[b]?) m st;have kE:laidMetH Tryz.prog Rows.stateVisibleRow.laid W:=dP;refine(states.walk agu kE (i:=3) (az1 (g:=fun b=>W.heap[b]?)) (vs:=[ub m,aV 1 ao st]) (xs:=[v0,v1]) (.cons _ _ _ _ a0 (.cons _ _ _ _ ak .nil)) hx).mono fun e W' hp=> ?_;obtain⟨rfl,G',H',U,ho,U5⟩:=hp;refine⟨_,rfl,states.agP hW' rfl (fun t ht=> ?_) (by kernel_rfl) rfl (fun _=>rfl) rfl U ho U5⟩;rw[Tryz.params3]at ht;have:t∈[30,22]:=by simpa using ht
 exact of_decide_eq_true (eE.1 (show[30,22].all (fun t=>decide (t<Tryz.prog.types.size))=true by kernel_rfl) t this)
theorem U6 (os:Os):laidMet Tryz.prog Rows.stateVisibleRow.laid ((zm os).forCall (fun _ _=>0) ⟨#[],#[.agg #[.slice none 0 0,.slice none 0 0,.slice none 0 0,.slice none 0 0,.slice none 0 0,.slice none 0 0,.slice none 0 0],.slice none 0 0],[]⟩).memory:=
 laidMet_of_run3 12 (by kernel_rfl) (by kernel_rfl) (by kernel_rfl)
theorem U7 (os:Os):laidMetH Tryz.prog Rows.stateVisibleRow.laid ((zm os).forCall (fun _ _=>0) ⟨#[],#[.agg #[.slice none 0 0,.slice none 0 0,.slice none 0 0,.slice none 0 0,.slice none 0 0,.slice none 0 0,.slice none 0 0],.slice none 0 0],[]⟩).memory:=by
 have ag:(Rows.stateVisibleRow.laid.filter fun x=>x.2.handleName?.isSome)=[]:=by kernel_rfl
 unfold laidMetH;rw[ag];exact U6 os
theorem reads (os:Os){H:Type}(enc:TypeId × Value->H):∃places,DataW.whole enc Tryz.prog ((zm os).forCall (fun _ _=>0) ⟨#[],#[.agg #[.slice none 0 0,.slice none 0 0,.slice none 0 0,.slice none 0 0,.slice none 0 0,.slice none 0 0,.slice none 0 0],.slice none 0 0],[]⟩).memory Tryz.f3.params.toList Rows.stateVisibleSpec.vars false #[Value.agg #[.slice none 0 0,.slice none 0 0,.slice none 0 0,.slice none 0 0,.slice none 0 0,.slice none 0 0,.slice none 0 0],.slice none 0 0].toList 8=some ([.agg [.nil,.nil,.nil,.nil,.nil,.nil,.nil],.nil],[],places):=
 ⟨[],by kernel_rfl⟩
theorem lifted (os:Os)(started:os.Started)(H:Type)(enc:TypeId × Value->H)(F:Stop.Interp):
  ReturnsInHanded {} Tryz.checked os 3 .any ((OpenSpec.ofChange Rows.stateVisibleSpec).preRow enc Tryz.prog Tryz.f3 Rows.stateVisibleRow.domain false Rows.stateVisibleRow.laid) (((OpenSpec.ofChange Rows.stateVisibleSpec).at F).post enc Tryz.prog Tryz.f3 false true false false):=by
 obtain⟨places,hx⟩:=reads os enc
 refine returnsInHanded_of_row (C:=Tryz.checked) (s:=OpenSpec.ofChange Rows.stateVisibleSpec) own started (by kernel_rfl) Tryz.func3
  (witness_row_atRef (enc:=enc) (C:=Tryz.checked) false (zm os) #[.agg #[.slice none 0 0,.slice none 0 0,.slice none 0 0,.slice none 0 0,.slice none 0 0,.slice none 0 0,.slice none 0 0],.slice none 0 0] rfl (by kernel_rfl) (by kernel_rfl) (by kernel_rfl)
    (OpenSpec.preRow_of_cond 8 hx (by kernel_rfl) (fun k hk=>by cases hk) (by kernel_rfl) (U7 os))) ?_
 intro W base args ds gs before hval hW _ _ dr dP _ _;exact contract H enc W base args ds gs before hval hW dr dP
end Go.Proofs.YtgkcikhegodchaaGreatDoor.seeing
