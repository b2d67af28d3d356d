/- Texts of this claim, joined and written short by a program. -/
import Derived.Test.YtdoflpjbdlgciaaGreatDoorP32
import Derived.Test.YtdoflpjbdlgciaaGreatDoorP34
import Derived.Test.YtdoflpjbdlgciaaGreatDoorP00
set_option linter.unusedVariables false
set_option linter.unusedSimpArgs false
set_option linter.unusedSectionVars false
namespace Go.Proofs.YtdoflpjbdlgciaaGreatDoor.wording
open Go Go.Abs Go.Abs.bZ Go.Proofs Go.ChangeShapes Go.WideShapes Go.ChangeAt Go.RowKit
set_option maxRecDepth 100000
theorem contract (H:Type)(enc:TypeId × Value->H)(W:World)(base:Nat)(args:Array Value)(ds gs:List (DataW H))(before:List MemPlace)
  (hval:∀(j:Nat) t v,Tryz.f3.params[j]? =some t->args[j]? =some v->Value.okWide Tryz.prog W .any base t v)
  (hW:DataW.Whole enc Tryz.prog Tryz.f3.params.toList Rows.executionWordsSpec.vars false W args.toList ds gs before)
  (ea:(DataW.weightsEach Tryz.prog (Tryz.f3.params.toList++(OpenSpec.ofChange Rows.executionWordsSpec).bare.plain.varTypes Tryz.prog) (ds++gs)).all (· <=reachBytes)=true)
  (dY:laidMetH Tryz.prog Rows.executionWordsRow.laid W):
  Calls Tryz.prog 3 args W fun e W'=>∃v,e=.returned v/\Rows.executionWordsSpec.post enc Tryz.prog Tryz.f3 false true false false W args v W':=by
 have hW':=hW;obtain⟨p,q,hA,hV,aCm,hfz,hnd⟩:=hW;have aAh:(OpenSpec.ofChange Rows.executionWordsSpec).bare.plain.varTypes Tryz.prog=[]:=by kernel_rfl
 rw[aAh,rk]at ea;obtain⟨yN,rfl⟩:=trodVars_none hV;subst yN;rw[rk]at ea;rw[Tryz.params3]at hA hval ea;obtain⟨v0,aCn,d0,aCo,p0,fM,vv,rfl,rfl,h0,aAi⟩:=trodAll_cons hA;obtain⟨v1,aCp,d1,aCq,p1,q1,rfl,rfl,rfl,h1,bH⟩:=trodAll_cons aAi;obtain⟨v2,ajD,d2,Nb,p2,aT,rfl,rfl,rfl,h2,cw⟩:=trodAll_cons bH;obtain⟨rfl,rfl,rfl⟩:=trodAll_nil cw;obtain rfl:args= #[v0,v1,v2]:=by cases args;simp_all
 obtain⟨m,a0⟩:=axt (hval 0 30 v0 rfl rfl) h0;obtain⟨x,al⟩:=axx (hval 1 35 v1 rfl rfl) h1;obtain⟨r,a2⟩:=axC (hval 2 37 v2 rfl rfl) h2;have hx:=aAg (g:=fun b=>W.heap[b]?) m x r;have k4:laidMetH Tryz.prog Rows.executionWordsRow.laid W:=dY;refine(words.walk awP k4 (i:=3) (aAf (g:=fun b=>W.heap[b]?)) (vs:=[wm m,wk x,wo r]) (xs:=[v0,v1,v2]) (.cons _ _ _ _ a0 (.cons _ _ _ _ al (.cons _ _ _ _ a2 .nil))) hx).mono fun e W' hp=> ?_;obtain⟨rfl,G',H',aa,ho,aAj⟩:=hp;refine⟨_,rfl,words.axD hW' rfl (fun t ht=> ?_) (by kernel_rfl) rfl (fun _=>rfl) rfl aa ho aAj⟩;rw[Tryz.params3]at ht;have:t∈[30,35,37]:=by simpa using ht
 exact of_decide_eq_true (eV.1 (show[30,35,37].all (fun t=>decide (t<Tryz.prog.types.size))=true by kernel_rfl) t this)
theorem aAk (os:Os):laidMet Tryz.prog Rows.executionWordsRow.laid ((MQ os).forCall (fun _ _=>0) ⟨#[],#[.agg #[.slice none 0 0,.slice none 0 0,.slice none 0 0,.slice none 0 0,.slice none 0 0,.slice none 0 0,.slice none 0 0],.agg #[.slice none 0 0,.slice none 0 0,.slice none 0 0],.agg #[.int .i64 0,.int .i64 0]],[]⟩).memory:=
 laidMet_of_run3 12 (by kernel_rfl) (by kernel_rfl) (by kernel_rfl)
theorem aAl (os:Os):laidMetH Tryz.prog Rows.executionWordsRow.laid ((MQ os).forCall (fun _ _=>0) ⟨#[],#[.agg #[.slice none 0 0,.slice none 0 0,.slice none 0 0,.slice none 0 0,.slice none 0 0,.slice none 0 0,.slice none 0 0],.agg #[.slice none 0 0,.slice none 0 0,.slice none 0 0],.agg #[.int .i64 0,.int .i64 0]],[]⟩).memory:=by
 have ae:(Rows.executionWordsRow.laid.filter fun x=>x.2.handleName?.isSome)=[]:=by kernel_rfl
 unfold laidMetH;rw[ae];exact aAk os
theorem reads (os:Os){H:Type}(enc:TypeId × Value->H):∃places,DataW.whole enc Tryz.prog ((MQ os).forCall (fun _ _=>0) ⟨#[],#[.agg #[.slice none 0 0,.slice none 0 0,.slice none 0 0,.slice none 0 0,.slice none 0 0,.slice none 0 0,.slice none 0 0],.agg #[.slice none 0 0,.slice none 0 0,.slice none 0 0],.agg #[.int .i64 0,.int .i64 0]],[]⟩).memory Tryz.f3.params.toList Rows.executionWordsSpec.vars false #[Value.agg #[.slice none 0 0,.slice none 0 0,.slice none 0 0,.slice none 0 0,.slice none 0 0,.slice none 0 0,.slice none 0 0],.agg #[.slice none 0 0,.slice none 0 0,.slice none 0 0],.agg #[.int .i64 0,.int .i64 0]].toList 8=some ([.agg [.nil,.nil,.nil,.nil,.nil,.nil,.nil],.agg [.nil,.nil,.nil],.agg [.lit (.int .i64 0),.lit (.int .i64 0)]],[],places):=
 ⟨[],by kernel_rfl⟩
theorem lifted (os:Os)(started:os.Started)(H:Type)(enc:TypeId × Value->H)(F:Stop.Interp):
  ReturnsInHanded {} Tryz.checked os 3 .any ((OpenSpec.ofChange Rows.executionWordsSpec).preRow enc Tryz.prog Tryz.f3 Rows.executionWordsRow.domain false Rows.executionWordsRow.laid) (((OpenSpec.ofChange Rows.executionWordsSpec).at F).post enc Tryz.prog Tryz.f3 false true false false):=by
 obtain⟨places,hx⟩:=reads os enc
 refine returnsInHanded_of_row (C:=Tryz.checked) (s:=OpenSpec.ofChange Rows.executionWordsSpec) own started (by kernel_rfl) Tryz.func3
  (witness_row_atRef (enc:=enc) (C:=Tryz.checked) false (MQ os) #[.agg #[.slice none 0 0,.slice none 0 0,.slice none 0 0,.slice none 0 0,.slice none 0 0,.slice none 0 0,.slice none 0 0],.agg #[.slice none 0 0,.slice none 0 0,.slice none 0 0],.agg #[.int .i64 0,.int .i64 0]] rfl (by kernel_rfl) (by kernel_rfl) (by kernel_rfl)
    (OpenSpec.preRow_of_cond 8 hx (by kernel_rfl) (fun k ah=>by cases ah) (by kernel_rfl) (aAl os))) ?_
 intro W base args ds gs before hval hW _ _ ea dY _ _;exact contract H enc W base args ds gs before hval hW ea dY
end Go.Proofs.YtdoflpjbdlgciaaGreatDoor.wording
