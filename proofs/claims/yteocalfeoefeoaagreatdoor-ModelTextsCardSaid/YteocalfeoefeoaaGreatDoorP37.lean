/- Texts of this claim, joined and written short by a program. -/
import Derived.Test.YteocalfeoefeoaaGreatDoorP33
import Derived.Test.YteocalfeoefeoaaGreatDoorP36
import Derived.Test.YteocalfeoefeoaaGreatDoorP00
set_option linter.unusedVariables false
set_option linter.unusedSimpArgs false
set_option linter.unusedSectionVars false
namespace Go.Proofs.YteocalfeoefeoaaGreatDoor.texting
open Go Go.Abs Go.Abs.mN Go.Proofs Go.ChangeShapes Go.WideShapes Go.ChangeAt Go.RowKit
set_option maxRecDepth 100000
theorem contract (H:Type)(enc:TypeId × Value->H)(W:World)(base:Nat)(args:Array Value)(ds gs:List (DataW H))(before:List MemPlace)
  (hval:∀(j:Nat) t v,Tryz.f3.params[j]? =some t->args[j]? =some v->Value.okWide Tryz.prog W .any base t v)
  (hW:DataW.Whole enc Tryz.prog Tryz.f3.params.toList Rows.modelTextsSpec.vars false W args.toList ds gs before)
  (dJ:(DataW.weightsEach Tryz.prog (Tryz.f3.params.toList++(OpenSpec.ofChange Rows.modelTextsSpec).bare.plain.varTypes Tryz.prog) (ds++gs)).all (· <=reachBytes)=true)
  (df:laidMetH Tryz.prog Rows.modelTextsRow.laid W):
  Calls Tryz.prog 3 args W fun e W'=>∃v,e=.returned v/\Rows.modelTextsSpec.post enc Tryz.prog Tryz.f3 false true false false W args v W':=by
 have hW':=hW;obtain⟨p,q,hA,hV,auy,hfz,hnd⟩:=hW;have asv:(OpenSpec.ofChange Rows.modelTextsSpec).bare.plain.varTypes Tryz.prog=[]:=by kernel_rfl
 rw[asv,rz]at dJ;obtain⟨xZ,rfl⟩:=trodVars_none hV;subst xZ;rw[rz]at dJ;rw[Tryz.params3]at hA hval dJ;obtain⟨v0,auz,d0,auA,p0,gU,wF,rfl,rfl,h0,asw⟩:=trodAll_cons hA;obtain⟨v1,auB,d1,auC,p1,q1,rfl,rfl,rfl,h1,bA⟩:=trodAll_cons asw;obtain⟨v2,asU,d2,QU,p2,aS,rfl,rfl,rfl,h2,b9⟩:=trodAll_cons bA;obtain⟨v3,aO5,d3,aO6,p3,b1,rfl,rfl,rfl,ar,eD⟩:=trodAll_cons b9;obtain⟨rfl,rfl,rfl⟩:=trodAll_nil eD;obtain rfl:args= #[v0,v1,v2,v3]:=by cases args;simp_all
 obtain⟨m,a0⟩:=apH (hval 0 30 v0 rfl rfl) h0;obtain⟨i,ai⟩:=open_int (hval 1 3 v1 rfl rfl) h1;obtain⟨c,a2⟩:=open_int (hval 2 3 v2 rfl rfl) h2;obtain⟨s,a3⟩:=aqW (hval 3 9 v3 rfl rfl) ar;have hx:=asu (g:=fun b=>W.heap[b]?) m i c s;have kE:laidMetH Tryz.prog Rows.modelTextsRow.laid W:=df;refine(texts.walk ao1 kE (i:=3) (ast (g:=fun b=>W.heap[b]?)) (vs:=[vn m,.int .i64 i,.int .i64 c,.str s]) (xs:=[v0,v1,v2,v3]) (.cons _ _ _ _ a0 (.cons _ _ _ _ ai (.cons _ _ _ _ a2 (.cons _ _ _ _ a3 .nil)))) hx).mono fun e W' hp=> ?_;obtain⟨rfl,G',H',U,ho,asx⟩:=hp;refine⟨_,rfl,texts.apJ hW' rfl (fun t ht=> ?_) (by kernel_rfl) rfl (fun _=>rfl) rfl U ho asx⟩;rw[Tryz.params3]at ht;have:t∈[30,3,3,9]:=by simpa using ht
 exact of_decide_eq_true (eV.1 (show[30,3,3,9].all (fun t=>decide (t<Tryz.prog.types.size))=true by kernel_rfl) t this)
theorem asy (os:Os):laidMet Tryz.prog Rows.modelTextsRow.laid ((J0 os).forCall (fun _ _=>0) ⟨#[],#[.agg #[.slice none 0 0,.slice none 0 0,.slice none 0 0,.slice none 0 0,.slice none 0 0,.slice none 0 0,.slice none 0 0],.int .i64 0,.int .i64 0,.string ⟨#[]⟩],[]⟩).memory:=
 laidMet_of_run3 12 (by kernel_rfl) (by kernel_rfl) (by kernel_rfl)
theorem asz (os:Os):laidMetH Tryz.prog Rows.modelTextsRow.laid ((J0 os).forCall (fun _ _=>0) ⟨#[],#[.agg #[.slice none 0 0,.slice none 0 0,.slice none 0 0,.slice none 0 0,.slice none 0 0,.slice none 0 0,.slice none 0 0],.int .i64 0,.int .i64 0,.string ⟨#[]⟩],[]⟩).memory:=by
 have ab:(Rows.modelTextsRow.laid.filter fun x=>x.2.handleName?.isSome)=[]:=by kernel_rfl
 unfold laidMetH;rw[ab];exact asy os
theorem reads (os:Os){H:Type}(enc:TypeId × Value->H):∃places,DataW.whole enc Tryz.prog ((J0 os).forCall (fun _ _=>0) ⟨#[],#[.agg #[.slice none 0 0,.slice none 0 0,.slice none 0 0,.slice none 0 0,.slice none 0 0,.slice none 0 0,.slice none 0 0],.int .i64 0,.int .i64 0,.string ⟨#[]⟩],[]⟩).memory Tryz.f3.params.toList Rows.modelTextsSpec.vars false #[Value.agg #[.slice none 0 0,.slice none 0 0,.slice none 0 0,.slice none 0 0,.slice none 0 0,.slice none 0 0,.slice none 0 0],.int .i64 0,.int .i64 0,.string ⟨#[]⟩].toList 8=some ([.agg [.nil,.nil,.nil,.nil,.nil,.nil,.nil],.lit (.int .i64 0),.lit (.int .i64 0),.lit (.string [])],[],places):=
 ⟨[],by kernel_rfl⟩
theorem lifted (os:Os)(started:os.Started)(H:Type)(enc:TypeId × Value->H)(F:Stop.Interp):
  ReturnsInHanded {} Tryz.checked os 3 .any ((OpenSpec.ofChange Rows.modelTextsSpec).preRow enc Tryz.prog Tryz.f3 Rows.modelTextsRow.domain false Rows.modelTextsRow.laid) (((OpenSpec.ofChange Rows.modelTextsSpec).at F).post enc Tryz.prog Tryz.f3 false true false false):=by
 obtain⟨places,hx⟩:=reads os enc
 refine returnsInHanded_of_row (C:=Tryz.checked) (s:=OpenSpec.ofChange Rows.modelTextsSpec) own started (by kernel_rfl) Tryz.func3
  (witness_row_atRef (enc:=enc) (C:=Tryz.checked) false (J0 os) #[.agg #[.slice none 0 0,.slice none 0 0,.slice none 0 0,.slice none 0 0,.slice none 0 0,.slice none 0 0,.slice none 0 0],.int .i64 0,.int .i64 0,.string ⟨#[]⟩] rfl (by kernel_rfl) (by kernel_rfl) (by kernel_rfl)
    (OpenSpec.preRow_of_cond 8 hx (by kernel_rfl) (fun k hk=>by cases hk) (by kernel_rfl) (asz os))) ?_
 intro W base args ds gs before hval hW _ _ dJ df _ _;exact contract H enc W base args ds gs before hval hW dJ df
end Go.Proofs.YteocalfeoefeoaaGreatDoor.texting
