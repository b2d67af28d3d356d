/- Texts of this claim, joined and written short by a program. -/
import Derived.Test.YtoimeckpnnkbpaaGreatDoorP34
import Derived.Test.YtoimeckpnnkbpaaGreatDoorP53
import Derived.Test.YtoimeckpnnkbpaaGreatDoorP00
set_option linter.unusedVariables false
set_option linter.unusedSimpArgs false
set_option linter.unusedSectionVars false
namespace Go.Proofs.YtoimeckpnnkbpaaGreatDoor.applying
open Go Go.Abs Go.Abs.hk Go.Proofs Go.ChangeShapes Go.WideShapes Go.ChangeAt Go.RowKit
set_option maxRecDepth 100000
theorem contract (H:Type)(enc:TypeId × Value->H)(W:World)(base:Nat)(args:Array Value)(ds gs:List (DataW H))(before:List MemPlace)
  (hval:∀(j:Nat) t v,Tryz.f4.params[j]? =some t->args[j]? =some v->Value.okWide Tryz.prog W .any base t v)
  (hW:DataW.Whole enc Tryz.prog Tryz.f4.params.toList Rows.stateAppliesSpec.vars false W args.toList ds gs before)
  (dJ:(DataW.weightsEach Tryz.prog (Tryz.f4.params.toList++(OpenSpec.ofChange Rows.stateAppliesSpec).bare.plain.varTypes Tryz.prog) (ds++gs)).all (· <=reachBytes)=true)
  (df:laidMetH Tryz.prog Rows.stateAppliesRow.laid W):
  Calls Tryz.prog 4 args W fun e W'=>∃v,e=.returned v/\Rows.stateAppliesSpec.post enc Tryz.prog Tryz.f4 false true false false W args v W':=by
 have hW':=hW;obtain⟨p,q,hA,hV,auy,hfz,hnd⟩:=hW;have asv:(OpenSpec.ofChange Rows.stateAppliesSpec).bare.plain.varTypes Tryz.prog=[]:=by kernel_rfl
 rw[asv,rz]at dJ;obtain⟨xZ,rfl⟩:=trodVars_none hV;subst xZ;rw[rz]at dJ;rw[Tryz.params4]at hA hval dJ;obtain⟨v0,auz,d0,auA,p0,gU,wF,rfl,rfl,h0,asw⟩:=trodAll_cons hA;obtain⟨v1,auB,d1,auC,p1,q1,rfl,rfl,rfl,h1,bA⟩:=trodAll_cons asw;obtain⟨rfl,rfl,rfl⟩:=trodAll_nil bA;obtain rfl:args= #[v0,v1]:=by cases args;simp_all
 obtain⟨l,hl,a0⟩:=aCt (hval 0 22 v0 rfl rfl) h0 (axv dJ (j:=0) rfl rfl);obtain⟨d,hd,ai⟩:=aGN (hval 1 38 v1 rfl rfl) h1 (axv dJ (j:=1) rfl rfl);have hx:=asu (g:=fun b=>W.heap[b]?) l d hl hd;have kE:laidMetH Tryz.prog Rows.stateValidRow.laid W:=df;refine(states.walk ao1 kE (i:=4) (aJr (g:=fun b=>W.heap[b]?)) (vs:=[bg 1 aD l,bg 2 tq d]) (xs:=[v0,v1]) (.cons _ _ _ _ a0 (.cons _ _ _ _ ai .nil)) hx).mono fun e W' hp=> ?_;obtain⟨rfl,G',H',U,ho,asx⟩:=hp;refine⟨_,rfl,states.apJ hW' rfl (fun t ht=> ?_) (by kernel_rfl) rfl (fun _=>rfl) rfl U ho asx⟩;rw[Tryz.params4]at ht;have:t∈[22,38]:=by simpa using ht
 exact of_decide_eq_true (eV.1 (show[22,38].all (fun t=>decide (t<Tryz.prog.types.size))=true by kernel_rfl) t this)
theorem asy (os:Os):laidMet Tryz.prog Rows.stateAppliesRow.laid ((J0 os).forCall (fun _ _=>0) ⟨#[],#[.slice none 0 0,.slice none 0 0],[]⟩).memory:=
 laidMet_of_run3 12 (by kernel_rfl) (by kernel_rfl) (by kernel_rfl)
theorem asz (os:Os):laidMetH Tryz.prog Rows.stateAppliesRow.laid ((J0 os).forCall (fun _ _=>0) ⟨#[],#[.slice none 0 0,.slice none 0 0],[]⟩).memory:=by
 have ab:(Rows.stateAppliesRow.laid.filter fun x=>x.2.handleName?.isSome)=[]:=by kernel_rfl
 unfold laidMetH;rw[ab];exact asy os
theorem reads (os:Os){H:Type}(enc:TypeId × Value->H):∃places,DataW.whole enc Tryz.prog ((J0 os).forCall (fun _ _=>0) ⟨#[],#[.slice none 0 0,.slice none 0 0],[]⟩).memory Tryz.f4.params.toList Rows.stateAppliesSpec.vars false #[Value.slice none 0 0,.slice none 0 0].toList 8=some ([.nil,.nil],[],places):=
 ⟨[],by kernel_rfl⟩
theorem lifted (os:Os)(started:os.Started)(H:Type)(enc:TypeId × Value->H)(F:Stop.Interp):
  ReturnsInHanded {} Tryz.checked os 4 .any ((OpenSpec.ofChange Rows.stateAppliesSpec).preRow enc Tryz.prog Tryz.f4 Rows.stateAppliesRow.domain false Rows.stateAppliesRow.laid) (((OpenSpec.ofChange Rows.stateAppliesSpec).at F).post enc Tryz.prog Tryz.f4 false true false false):=by
 obtain⟨places,hx⟩:=reads os enc
 refine returnsInHanded_of_row (C:=Tryz.checked) (s:=OpenSpec.ofChange Rows.stateAppliesSpec) own started (by kernel_rfl) Tryz.func4
  (witness_row_atRef (enc:=enc) (C:=Tryz.checked) false (J0 os) #[.slice none 0 0,.slice none 0 0] rfl (by kernel_rfl) (by kernel_rfl) (by kernel_rfl)
    (OpenSpec.preRow_of_cond 8 hx (by kernel_rfl) (fun k cW=>by cases cW) (by kernel_rfl) (asz os))) ?_
 intro W base args ds gs before hval hW _ _ dJ df _ _;exact contract H enc W base args ds gs before hval hW dJ df
end Go.Proofs.YtoimeckpnnkbpaaGreatDoor.applying
