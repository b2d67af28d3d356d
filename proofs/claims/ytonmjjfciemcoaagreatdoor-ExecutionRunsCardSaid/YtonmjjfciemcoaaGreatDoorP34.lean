/- Texts of this claim, joined and written short by a program. -/
import Derived.Test.YtonmjjfciemcoaaGreatDoorP30
import Derived.Test.YtonmjjfciemcoaaGreatDoorP33
import Derived.Test.YtonmjjfciemcoaaGreatDoorP00
set_option linter.unusedVariables false
set_option linter.unusedSimpArgs false
set_option linter.unusedSectionVars false
namespace Go.Proofs.YtonmjjfciemcoaaGreatDoor.running
open Go Go.Abs Go.Abs.hk Go.Proofs Go.ChangeShapes Go.WideShapes Go.ChangeAt Go.RowKit
set_option maxRecDepth 100000
theorem contract (H:Type)(enc:TypeId × Value->H)(W:World)(base:Nat)(args:Array Value)(ds gs:List (DataW H))(before:List MemPlace)
  (hval:∀(j:Nat) t v,Tryz.f4.params[j]? =some t->args[j]? =some v->Value.okWide Tryz.prog W .any base t v)
  (hW:DataW.Whole enc Tryz.prog Tryz.f4.params.toList Rows.executionRunsSpec.vars false W args.toList ds gs before)
  (dJ:(DataW.weightsEach Tryz.prog (Tryz.f4.params.toList++(OpenSpec.ofChange Rows.executionRunsSpec).bare.plain.varTypes Tryz.prog) (ds++gs)).all (· <=reachBytes)=true)
  (df:laidMetH Tryz.prog Rows.executionRunsRow.laid W):
  Calls Tryz.prog 4 args W fun e W'=>∃v,e=.returned v/\Rows.executionRunsSpec.post enc Tryz.prog Tryz.f4 false true false false W args v W':=by
 have hW':=hW;obtain⟨p,q,hA,hV,auy,hfz,hnd⟩:=hW;have asv:(OpenSpec.ofChange Rows.executionRunsSpec).bare.plain.varTypes Tryz.prog=[]:=by kernel_rfl
 rw[asv,rz]at dJ;obtain⟨xZ,rfl⟩:=trodVars_none hV;subst xZ;rw[rz]at dJ;rw[Tryz.params4]at hA hval dJ;obtain⟨v0,auz,d0,auA,p0,gU,wF,rfl,rfl,h0,asw⟩:=trodAll_cons hA;obtain⟨v1,auB,d1,auC,p1,q1,rfl,rfl,rfl,h1,bA⟩:=trodAll_cons asw;obtain⟨v2,asU,d2,QU,p2,aS,rfl,rfl,rfl,h2,b9⟩:=trodAll_cons bA;obtain⟨v3,Iv,d3,Iw,p3,b1,rfl,rfl,rfl,ar,eD⟩:=trodAll_cons b9;obtain⟨rfl,rfl,rfl⟩:=trodAll_nil eD;obtain rfl:args= #[v0,v1,v2,v3]:=by cases args;simp_all
 obtain⟨m,a0⟩:=apH (hval 0 30 v0 rfl rfl) h0;obtain⟨st,cd,ai⟩:=aKE (hval 1 22 v1 rfl rfl) h1 (aKz dJ (j:=1) rfl rfl);obtain⟨gV,Iu,a2⟩:=aKE (hval 2 22 v2 rfl rfl) h2 (aKz dJ (j:=2) rfl rfl);obtain⟨a,a3⟩:=open_int (hval 3 3 v3 rfl rfl) ar;have hx:=asu (g:=fun b=>W.heap[b]?) m st gV a cd Iu;have kE:laidMetH Tryz.prog Rows.executionChecksRow.laid W:=df;refine(checks.walk ao1 kE (i:=4) (It (g:=fun b=>W.heap[b]?)) (vs:=[vn m,bg 1 aD st,bg 1 aD gV,aD a]) (xs:=[v0,v1,v2,v3]) (.cons _ _ _ _ a0 (.cons _ _ _ _ ai (.cons _ _ _ _ a2 (.cons _ _ _ _ a3 .nil)))) hx).mono fun e W' hp=> ?_;obtain⟨rfl,G',H',U,ho,asx⟩:=hp;refine⟨_,rfl,checks.apJ hW' rfl (fun t ht=> ?_) (by kernel_rfl) rfl (fun _=>rfl) rfl U ho asx⟩;rw[Tryz.params4]at ht;have:t∈[30,22,22,3]:=by simpa using ht
 exact of_decide_eq_true (eV.1 (show[30,22,22,3].all (fun t=>decide (t<Tryz.prog.types.size))=true by kernel_rfl) t this)
theorem asy (os:Os):laidMet Tryz.prog Rows.executionRunsRow.laid ((J0 os).forCall (fun _ _=>0) ⟨#[],#[.agg #[.slice none 0 0,.slice none 0 0,.slice none 0 0,.slice none 0 0,.slice none 0 0,.slice none 0 0,.slice none 0 0],.slice none 0 0,.slice none 0 0,.int .i64 0],[]⟩).memory:=
 laidMet_of_run3 12 (by kernel_rfl) (by kernel_rfl) (by kernel_rfl)
theorem asz (os:Os):laidMetH Tryz.prog Rows.executionRunsRow.laid ((J0 os).forCall (fun _ _=>0) ⟨#[],#[.agg #[.slice none 0 0,.slice none 0 0,.slice none 0 0,.slice none 0 0,.slice none 0 0,.slice none 0 0,.slice none 0 0],.slice none 0 0,.slice none 0 0,.int .i64 0],[]⟩).memory:=by
 have ab:(Rows.executionRunsRow.laid.filter fun x=>x.2.handleName?.isSome)=[]:=by kernel_rfl
 unfold laidMetH;rw[ab];exact asy os
theorem reads (os:Os){H:Type}(enc:TypeId × Value->H):∃places,DataW.whole enc Tryz.prog ((J0 os).forCall (fun _ _=>0) ⟨#[],#[.agg #[.slice none 0 0,.slice none 0 0,.slice none 0 0,.slice none 0 0,.slice none 0 0,.slice none 0 0,.slice none 0 0],.slice none 0 0,.slice none 0 0,.int .i64 0],[]⟩).memory Tryz.f4.params.toList Rows.executionRunsSpec.vars false #[Value.agg #[.slice none 0 0,.slice none 0 0,.slice none 0 0,.slice none 0 0,.slice none 0 0,.slice none 0 0,.slice none 0 0],.slice none 0 0,.slice none 0 0,.int .i64 0].toList 8=some ([.agg [.nil,.nil,.nil,.nil,.nil,.nil,.nil],.nil,.nil,.lit (.int .i64 0)],[],places):=
 ⟨[],by kernel_rfl⟩
theorem lifted (os:Os)(started:os.Started)(H:Type)(enc:TypeId × Value->H)(F:Stop.Interp):
  ReturnsInHanded {} Tryz.checked os 4 .any ((OpenSpec.ofChange Rows.executionRunsSpec).preRow enc Tryz.prog Tryz.f4 Rows.executionRunsRow.domain false Rows.executionRunsRow.laid) (((OpenSpec.ofChange Rows.executionRunsSpec).at F).post enc Tryz.prog Tryz.f4 false true false false):=by
 obtain⟨places,hx⟩:=reads os enc
 refine returnsInHanded_of_row (C:=Tryz.checked) (s:=OpenSpec.ofChange Rows.executionRunsSpec) own started (by kernel_rfl) Tryz.func4
  (witness_row_atRef (enc:=enc) (C:=Tryz.checked) false (J0 os) #[.agg #[.slice none 0 0,.slice none 0 0,.slice none 0 0,.slice none 0 0,.slice none 0 0,.slice none 0 0,.slice none 0 0],.slice none 0 0,.slice none 0 0,.int .i64 0] rfl (by kernel_rfl) (by kernel_rfl) (by kernel_rfl)
    (OpenSpec.preRow_of_cond 8 hx (by kernel_rfl) (fun k cW=>by cases cW) (by kernel_rfl) (asz os))) ?_
 intro W base args ds gs before hval hW _ _ dJ df _ _;exact contract H enc W base args ds gs before hval hW dJ df
end Go.Proofs.YtonmjjfciemcoaaGreatDoor.running
