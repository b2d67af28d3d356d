/- Texts of this claim, joined and written short by a program. -/
import Derived.Test.YtemakagmboeodaaGreatDoorP27
import Derived.Test.YtemakagmboeodaaGreatDoorP29
import Derived.Test.YtemakagmboeodaaGreatDoorP00
set_option linter.unusedVariables false
set_option linter.unusedSimpArgs false
set_option linter.unusedSectionVars false
namespace Go.Proofs.YtemakagmboeodaaGreatDoor.adding
open Go Go.Abs Go.Abs.cb Go.Proofs Go.ChangeShapes Go.WideShapes Go.ChangeAt Go.RowKit
set_option maxRecDepth 100000
theorem contract (H:Type)(enc:TypeId × Value->H)(W:World)(base:Nat)(args:Array Value)(ds gs:List (DataW H))(before:List MemPlace)
  (hval:∀(j:Nat) t v,Tryz.f3.params[j]? =some t->args[j]? =some v->Value.okWide Tryz.prog W .any base t v)
  (hW:DataW.Whole enc Tryz.prog Tryz.f3.params.toList Rows.effectSumsSpec.vars false W args.toList ds gs before)
  (du:(DataW.weightsEach Tryz.prog (Tryz.f3.params.toList++(OpenSpec.ofChange Rows.effectSumsSpec).bare.plain.varTypes Tryz.prog) (ds++gs)).all (· <=reachBytes)=true)
  (eI:laidMetH Tryz.prog Rows.effectSumsRow.laid W):
  Calls Tryz.prog 3 args W fun e W'=>∃v,e=.returned v/\Rows.effectSumsSpec.post enc Tryz.prog Tryz.f3 false true false false W args v W':=by
 have hW':=hW;obtain⟨p,q,hA,hV,ajr,hfz,hnd⟩:=hW;have ahJ:(OpenSpec.ofChange Rows.effectSumsSpec).bare.plain.varTypes Tryz.prog=[]:=by kernel_rfl
 rw[ahJ,lQ]at du;obtain⟨tv,rfl⟩:=trodVars_none hV;subst tv;rw[lQ]at du;rw[Tryz.params3]at hA hval du;obtain⟨v0,ajs,d0,ajt,p0,oV,mA,rfl,rfl,h0,ahK⟩:=trodAll_cons hA;obtain⟨v1,aju,d1,ajv,p1,q1,rfl,rfl,rfl,h1,bq⟩:=trodAll_cons ahK;obtain⟨v2,XM,d2,sV,cN,q2,rfl,rfl,rfl,h2,cc⟩:=trodAll_cons bq;obtain⟨v3,ajw,d3,ajx,ei,dk,rfl,rfl,rfl,aq,eY⟩:=trodAll_cons cc;obtain⟨rfl,rfl,rfl⟩:=trodAll_nil eY;obtain rfl:args= #[v0,v1,v2,v3]:=by cases args;simp_all
 obtain⟨l,hl,a0⟩:=agN (hval 0 22 v0 rfl rfl) h0 (Iu du (j:=0) rfl rfl);obtain⟨a,ha,av⟩:=TJ (hval 1 23 v1 rfl rfl) h1 (Iu du (j:=1) rfl rfl);obtain⟨b,hb,a2⟩:=TJ (hval 2 23 v2 rfl rfl) h2 (Iu du (j:=2) rfl rfl);obtain⟨n,a3⟩:=open_int (hval 3 3 v3 rfl rfl) aq;have hx:=ahI (g:=fun b=>W.heap[b]?) l a b n hl ha hb;have iB:laidMetH Tryz.prog Rows.effectSumsRow.laid W:=eI;refine(sums.walk afz iB (i:=3) (ahH (g:=fun b=>W.heap[b]?)) (vs:=[b4 2 jU l,b4 2 lH a,b4 2 lH b,iF n]) (xs:=[v0,v1,v2,v3]) (.cons _ _ _ _ a0 (.cons _ _ _ _ av (.cons _ _ _ _ a2 (.cons _ _ _ _ a3 .nil)))) hx).mono fun e W' hp=> ?_;obtain⟨rfl,G',H',aa,ho,ahL⟩:=hp;refine⟨_,rfl,sums.agR hW' rfl (fun t ht=> ?_) (by kernel_rfl) rfl (fun _=>rfl) rfl aa ho ahL⟩;rw[Tryz.params3]at ht;have:t∈[22,23,23,3]:=by simpa using ht
 exact of_decide_eq_true (eV.1 (show[22,23,23,3].all (fun t=>decide (t<Tryz.prog.types.size))=true by kernel_rfl) t this)
theorem ahM (os:Os):laidMet Tryz.prog Rows.effectSumsRow.laid ((CP os).forCall (fun _ _=>0) ⟨#[],#[.slice none 0 0,.slice none 0 0,.slice none 0 0,.int .i64 0],[]⟩).memory:=
 laidMet_of_run3 12 (by kernel_rfl) (by kernel_rfl) (by kernel_rfl)
theorem ahN (os:Os):laidMetH Tryz.prog Rows.effectSumsRow.laid ((CP os).forCall (fun _ _=>0) ⟨#[],#[.slice none 0 0,.slice none 0 0,.slice none 0 0,.int .i64 0],[]⟩).memory:=by
 have af:(Rows.effectSumsRow.laid.filter fun x=>x.2.handleName?.isSome)=[]:=by kernel_rfl
 unfold laidMetH;rw[af];exact ahM os
theorem reads (os:Os){H:Type}(enc:TypeId × Value->H):∃places,DataW.whole enc Tryz.prog ((CP os).forCall (fun _ _=>0) ⟨#[],#[.slice none 0 0,.slice none 0 0,.slice none 0 0,.int .i64 0],[]⟩).memory Tryz.f3.params.toList Rows.effectSumsSpec.vars false #[Value.slice none 0 0,.slice none 0 0,.slice none 0 0,.int .i64 0].toList 8=some ([.nil,.nil,.nil,.lit (.int .i64 0)],[],places):=
 ⟨[],by kernel_rfl⟩
theorem lifted (os:Os)(started:os.Started)(H:Type)(enc:TypeId × Value->H)(F:Stop.Interp):
  ReturnsInHanded {} Tryz.checked os 3 .any ((OpenSpec.ofChange Rows.effectSumsSpec).preRow enc Tryz.prog Tryz.f3 Rows.effectSumsRow.domain false Rows.effectSumsRow.laid) (((OpenSpec.ofChange Rows.effectSumsSpec).at F).post enc Tryz.prog Tryz.f3 false true false false):=by
 obtain⟨places,hx⟩:=reads os enc
 refine returnsInHanded_of_row (C:=Tryz.checked) (s:=OpenSpec.ofChange Rows.effectSumsSpec) own started (by kernel_rfl) Tryz.func3
  (witness_row_atRef (enc:=enc) (C:=Tryz.checked) false (CP os) #[.slice none 0 0,.slice none 0 0,.slice none 0 0,.int .i64 0] rfl (by kernel_rfl) (by kernel_rfl) (by kernel_rfl)
    (OpenSpec.preRow_of_cond 8 hx (by kernel_rfl) (fun k hk=>by cases hk) (by kernel_rfl) (ahN os))) ?_
 intro W base args ds gs before hval hW _ _ du eI _ _;exact contract H enc W base args ds gs before hval hW du eI
end Go.Proofs.YtemakagmboeodaaGreatDoor.adding
