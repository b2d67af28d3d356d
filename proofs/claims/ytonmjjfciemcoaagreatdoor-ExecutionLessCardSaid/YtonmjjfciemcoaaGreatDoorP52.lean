/- Texts of this claim, joined and written short by a program. -/
import Derived.Test.YtonmjjfciemcoaaGreatDoorP31
import Derived.Test.YtonmjjfciemcoaaGreatDoorP51
import Derived.Test.YtonmjjfciemcoaaGreatDoorP00
set_option linter.unusedVariables false
set_option linter.unusedSimpArgs false
set_option linter.unusedSectionVars false
namespace Go.Proofs.YtonmjjfciemcoaaGreatDoor.lessening
open Go Go.Abs Go.Abs.bz Go.Proofs Go.ChangeShapes Go.WideShapes Go.ChangeAt Go.RowKit
set_option maxRecDepth 100000
theorem contract (H:Type)(enc:TypeId × Value->H)(W:World)(base:Nat)(args:Array Value)(ds gs:List (DataW H))(before:List MemPlace)
  (hval:∀(j:Nat) t v,Tryz.f6.params[j]? =some t->args[j]? =some v->Value.okWide Tryz.prog W .any base t v)
  (hW:DataW.Whole enc Tryz.prog Tryz.f6.params.toList Rows.executionLessSpec.vars false W args.toList ds gs before)
  (de:(DataW.weightsEach Tryz.prog (Tryz.f6.params.toList++(OpenSpec.ofChange Rows.executionLessSpec).bare.plain.varTypes Tryz.prog) (ds++gs)).all (· <=reachBytes)=true)
  (ei:laidMetH Tryz.prog Rows.executionLessRow.laid W):
  Calls Tryz.prog 6 args W fun e W'=>∃v,e=.returned v/\Rows.executionLessSpec.post enc Tryz.prog Tryz.f6 false true false false W args v W':=by
 have hW':=hW;obtain⟨p,q,hA,hV,aCB,hfz,hnd⟩:=hW;have VV:(OpenSpec.ofChange Rows.executionLessSpec).bare.plain.varTypes Tryz.prog=[]:=by kernel_rfl
 rw[VV,lR]at de;obtain⟨wm,rfl⟩:=trodVars_none hV;subst wm;rw[lR]at de;rw[Tryz.params6]at hA hval de;obtain⟨v0,aCC,d0,aCD,p0,fh,vb,rfl,rfl,h0,NY⟩:=trodAll_cons hA;obtain⟨v1,aCE,d1,aCF,p1,q1,rfl,rfl,rfl,h1,bB⟩:=trodAll_cons NY;obtain⟨v2,Y8,d2,kD,p2,q2,rfl,rfl,rfl,h2,ca⟩:=trodAll_cons bB;obtain⟨v3,aE7,d3,aE8,p3,cn,rfl,rfl,rfl,ar,ez⟩:=trodAll_cons ca;obtain⟨v4,aE9,d4,aFa,k8,c7,rfl,rfl,rfl,aS,fC⟩:=trodAll_cons ez;obtain⟨rfl,rfl,rfl⟩:=trodAll_nil fC;obtain rfl:args= #[v0,v1,v2,v3,v4]:=by cases args;simp_all
 obtain⟨m,a0⟩:=aiw (hval 0 30 v0 rfl rfl) h0;obtain⟨a,ha,al⟩:=Uq (hval 1 5 v1 rfl rfl) h1;obtain⟨b,hb,a2⟩:=Uq (hval 2 5 v2 rfl rfl) h2;obtain⟨c,hc,a3⟩:=Uq (hval 3 5 v3 rfl rfl) ar;obtain⟨st,ct,a4⟩:=Ut (hval 4 22 v4 rfl rfl) aS (Us de (j:=4) rfl rfl);have hx:=VU (g:=fun b=>W.heap[b]?) m a b c st ha hb hc ct;have kq:laidMetH Tryz.prog Rows.executionValidRow.laid W:=ei;refine(keeps.walk aC9 kq (i:=6) (aDc (g:=fun b=>W.heap[b]?)) (vs:=[ug m,.int .u8 a,.int .u8 b,.int .u8 c,bn 1 aI st]) (xs:=[v0,v1,v2,v3,v4]) (.cons _ _ _ _ a0 (.cons _ _ _ _ al (.cons _ _ _ _ a2 (.cons _ _ _ _ a3 (.cons _ _ _ _ a4 .nil))))) hx).mono fun e W' hp=> ?_;obtain⟨rfl,G',H',ab,ho,VW⟩:=hp;refine⟨_,rfl,keeps.aiy hW' rfl (fun t ht=> ?_) (by kernel_rfl) rfl (fun _=>rfl) rfl ab ho VW⟩;rw[Tryz.params6]at ht;have:t∈[30,5,5,5,22]:=by simpa using ht
 exact of_decide_eq_true (ev.1 (show[30,5,5,5,22].all (fun t=>decide (t<Tryz.prog.types.size))=true by kernel_rfl) t this)
theorem VX (os:Os):laidMet Tryz.prog Rows.executionLessRow.laid ((zq os).forCall (fun _ _=>0) ⟨#[],#[.agg #[.slice none 0 0,.slice none 0 0,.slice none 0 0,.slice none 0 0,.slice none 0 0,.slice none 0 0,.slice none 0 0],.int .u8 0,.int .u8 0,.int .u8 0,.slice none 0 0],[]⟩).memory:=
 laidMet_of_run3 12 (by kernel_rfl) (by kernel_rfl) (by kernel_rfl)
theorem VY (os:Os):laidMetH Tryz.prog Rows.executionLessRow.laid ((zq os).forCall (fun _ _=>0) ⟨#[],#[.agg #[.slice none 0 0,.slice none 0 0,.slice none 0 0,.slice none 0 0,.slice none 0 0,.slice none 0 0,.slice none 0 0],.int .u8 0,.int .u8 0,.int .u8 0,.slice none 0 0],[]⟩).memory:=by
 have ag:(Rows.executionLessRow.laid.filter fun x=>x.2.handleName?.isSome)=[]:=by kernel_rfl
 unfold laidMetH;rw[ag];exact VX os
theorem reads (os:Os){H:Type}(enc:TypeId × Value->H):∃places,DataW.whole enc Tryz.prog ((zq os).forCall (fun _ _=>0) ⟨#[],#[.agg #[.slice none 0 0,.slice none 0 0,.slice none 0 0,.slice none 0 0,.slice none 0 0,.slice none 0 0,.slice none 0 0],.int .u8 0,.int .u8 0,.int .u8 0,.slice none 0 0],[]⟩).memory Tryz.f6.params.toList Rows.executionLessSpec.vars false #[Value.agg #[.slice none 0 0,.slice none 0 0,.slice none 0 0,.slice none 0 0,.slice none 0 0,.slice none 0 0,.slice none 0 0],.int .u8 0,.int .u8 0,.int .u8 0,.slice none 0 0].toList 8=some ([.agg [.nil,.nil,.nil,.nil,.nil,.nil,.nil],.lit (.int .u8 0),.lit (.int .u8 0),.lit (.int .u8 0),.nil],[],places):=
 ⟨[],by kernel_rfl⟩
theorem lifted (os:Os)(started:os.Started)(H:Type)(enc:TypeId × Value->H)(F:Stop.Interp):
  ReturnsInHanded {} Tryz.checked os 6 .any ((OpenSpec.ofChange Rows.executionLessSpec).preRow enc Tryz.prog Tryz.f6 Rows.executionLessRow.domain false Rows.executionLessRow.laid) (((OpenSpec.ofChange Rows.executionLessSpec).at F).post enc Tryz.prog Tryz.f6 false true false false):=by
 obtain⟨places,hx⟩:=reads os enc
 refine returnsInHanded_of_row (C:=Tryz.checked) (s:=OpenSpec.ofChange Rows.executionLessSpec) own started (by kernel_rfl) Tryz.func6
  (witness_row_atRef (enc:=enc) (C:=Tryz.checked) false (zq os) #[.agg #[.slice none 0 0,.slice none 0 0,.slice none 0 0,.slice none 0 0,.slice none 0 0,.slice none 0 0,.slice none 0 0],.int .u8 0,.int .u8 0,.int .u8 0,.slice none 0 0] rfl (by kernel_rfl) (by kernel_rfl) (by kernel_rfl)
    (OpenSpec.preRow_of_cond 8 hx (by kernel_rfl) (fun k hk=>by cases hk) (by kernel_rfl) (VY os))) ?_
 intro W base args ds gs before hval hW _ _ de ei _ _;exact contract H enc W base args ds gs before hval hW de ei
end Go.Proofs.YtonmjjfciemcoaaGreatDoor.lessening
