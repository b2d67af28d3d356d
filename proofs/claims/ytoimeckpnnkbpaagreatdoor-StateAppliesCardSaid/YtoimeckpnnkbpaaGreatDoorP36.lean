/- Texts of this claim, joined and written short by a program. -/
import Derived.Test.YtoimeckpnnkbpaaGreatDoorP35
import Derived.Test.YtoimeckpnnkbpaaGreatDoorP00
set_option linter.unusedVariables false
set_option linter.unusedSimpArgs false
set_option linter.unusedSectionVars false
namespace Go.Abs.hk
open Go Go.Abs
noncomputable section
theorem aw9{a b:ak Int}(h:b.l=a.l)(hs:cm a.l):Qi a b=some true:=by
 unfold Qi;have:(a.len != b.len)=false:=by rw[gL,gL,h];simp
 rw[this]
 have:=xn (f:=aqq a b) a.l hs (fun _=>false) (fun k x hx=>by
  simp only[aqq,k8 (kl hx),cond_true,fP,hx,h,cg,bne_self_eq_false,cond_false]) (by simp only[aqq,mw,cond_false])
 have ab:a.l.any (fun _=>false)=false:=by simp
 rw[cond_false,this,ab];rfl
theorem agd{a b:ak Int}(h:b.l=a.l)(hs:cm a.l):Qf a b=some true:=aw9 h hs
theorem aHd (d:ak Change)(hd:cm d.l):∃b,awr d=some b:=by
 unfold awr
 obtain⟨o,ho⟩:=aCH (f:=awq d) (I:=fun k s=>s=(k:Int)) d.l.length (fun k s cW aW=>by
  subst aW;simp only[awq,k8 cW,cond_true,fP,hX cW,cg,axr];cases(decide (d.l[k].Add>=-1000000)&&decide (d.l[k].Add<=1000000))with
  |false=>exact .inr ⟨_,rfl⟩
  |true=>exact .inl ⟨_,rfl,fN (by unfold cm at hd;omega)⟩) (fun s aW=>by
  subst aW;simp only[awq,mw,cond_false];exact⟨_,rfl⟩) (s:=0) rfl
 rw[ho];cases o with
 |go u=>exact⟨_,rfl⟩
 |ret u=>exact⟨_,rfl⟩
theorem aHe (l:ak Int)(d:ak Change)(hl:cm l.l)(hd:cm d.l):awV l d=some true:=by
 obtain⟨b,hb⟩:=aHd d hd;unfold awV auN;simp only[cg,cond_true,aC2 l hl];cases ab:l.l.all afD&&decide (l.l.length<=128)with
 |false=>rfl
 |true=>
  simp only[b8,decide_eq_true_eq]at ab;simp only[cond_true,hb,cg];cases b with
  |false=>rfl
  |true=>
   obtain⟨s,e,el⟩:=aCL (BN:=8) (x:=l) (by omega) (by omega);obtain⟨x,af,bF⟩:=aGU l d (by omega) hd;obtain⟨y,e2,iB⟩:=aHb l d (by omega) hd;have hx:cm x.l:=by rw[bF];unfold cm;rw[aCK];omega
   simp only[hZ,cond_false,e,af,e2,cg,aw9 (show y.l=x.l by rw[bF,iB]) hx,cond_true,agd el hl]
def axa (o:Option Int)(k:Nat)(acc:ak Int):Option (dM (Int × ak Int) (ak Int)):=match o with
 |some a=>(lG 8 acc (ak.mk [a])).bind fun s=>some (.next (bJ ((k:Int)+1),s))
 |none=>some (.next (bJ ((k:Int)+1),acc))
theorem axb{f:(Int × ak Int)->Option (dM (Int × ak Int) (ak Int))}{n:Nat}(hn:n<=100000){o:Nat->Option Int}(ab:∀(k:Nat) acc,k<n->f ((k:Int),acc)=axa (o k) k acc)(he:∀acc,f ((n:Int),acc)=some (.out acc)):
  ∀(d k:Nat) (acc:ak Int),k+d=n->acc.l.length<=k->∃z,c0 f ((k:Int),acc)=some z/\z.l=acc.l++(List.range' k d).filterMap o:=by
 intro d
 induction d with
 |zero=>
  intro k acc cW ao;have cW:k=n:=by omega
  subst cW;exact⟨acc,by rw[k4,he],by simp⟩
 |succ d ih=>
  intro k acc cW ao;have hs:=ab k acc (by omega);unfold axa at hs;cases ho:o k with
  |none=>
   rw[ho]at hs;obtain⟨z,af,e2⟩:=ih (k+1) acc (by omega) (by omega);refine⟨z,?_,?_⟩
   ·rw[k4,hs,fN (by omega)];exact af
   ·rw[e2,ub,Kl,ho]
  |some a=>
   rw[ho]at hs;simp only[avC a (show 8+1<=1000 by omega) (show acc.l.length<=1000000 by omega),cg]at hs;obtain⟨z,af,e2⟩:=ih (k+1) (.mk (acc.l++[a])) (by omega) (by show(acc.l++[a]).length<=_;simp;omega);refine⟨z,?_,?_⟩
   ·rw[k4,hs,fN (by omega)];exact af
   ·rw[e2,ub,Kl,ho]
    show acc.l++[a]++_=_;simp
theorem aC3{m:Model}(ad:vT m=true):mu m.bC.l m.Tables.l=true:=by
 cases h:mu m.bC.l m.Tables.l with
 |true=>rfl
 |false=>unfold vT at ad;rw[h]at ad;simp at ad
theorem aHf{m:Model}(hb:Fp m=true):∃x y,Ql m=some x/\avW m=some y/\y.l=x.l/\x.l.length<=100000:=by
 have b:=ans hb;obtain⟨v1,v2⟩:=aLj hb;have rh:∀t∈m.Tables.l,cm t.bP.l:=fun t ht=>by have:=b.aa t ht;unfold cm;omega
 have fJ:cm m.bC.l:=by have:=b.PO;unfold cm;omega
 have oT:cm m.Tables.l:=by have:=b.tables;unfold cm;omega
 unfold Ql Iz avW avz;rw[v1,v2];cases ad:vT m with
 |false=>exact⟨_,_,rfl,rfl,rfl,by decide⟩
 |true=>
  obtain⟨x,af,e2⟩:=YR m.bC m.Tables true fJ oT rh;obtain⟨y,bT,cF⟩:=aD2 m.bC m.Tables true fJ oT rh fun t ht=>aEM _ (by have:=b.aa t ht;omega);have aLo:=aC3 ad;rw[aLo]at e2 cF;simp only[cond_true]at e2 cF;simp only[cg,cond_true,af,bT];obtain⟨-,aS,b1,cL⟩:=BM aLo;refine⟨_,_,rfl,rfl,by rw[cF,e2],?_⟩;have:=Pv b1 true m.Tables.l cL;rw[e2];omega
def avD (r:Range):Int:=min (max 0 r.kI) r.kJ
theorem aHg{m:Model}(hb:Fp m=true):∃x y,av2 m=some x/\av4 m=some y/\y.l=x.l/\cm x.l:=by
 obtain⟨x,y,af,e2,bT,cF⟩:=aHf hb;unfold av2 av4;rw[af,e2]
 have q:∀(s:ak Range) (k:Nat),s.l=x.l->k<x.l.length->s.l[k]? =some (x.l.getD k default):=fun s k hs cW=>by
  rw[hs,hX cW,tY,hX cW];rfl
 obtain⟨z,h1,h2⟩:=axb (f:=avZ x) cF (o:=fun k=>some (avD (x.l.getD k default))) (fun k acc cW=>by
  simp only[avZ,k8 cW,cond_true,fP,q x k rfl cW,cg,axa,avD]) (fun acc=>by simp only[avZ,mw,cond_false]) x.l.length 0 .nil (by omega) (aK _)
 obtain⟨u,ar,aQ⟩:=axb (f:=av3 y) cF (o:=fun k=>some (avD (x.l.getD k default))) (fun k acc cW=>by
  simp only[av3,k8 (show k<y.l.length by rw[bT];exact cW),cond_true,fP,q y k bT cW,cg,axa,avD,axn]) (fun acc=>by
   rw[<-bT];simp only[av3,mw,cond_false]) x.l.length 0 .emp (by omega) (aK _)
 rw[show((0:Nat):Int)=0 from rfl]at h1 ar;refine⟨z,u,by simp only[cg,h1],by simp only[cg,ar],by rw[h2,aQ];rfl,?_⟩;rw[h2];have:((List.range' 0 x.l.length).filterMap fun k=>some (avD (x.l.getD k default))).length<=(List.range' 0 x.l.length).length:=List.length_filterMap_le _ _;rw[ax6]at this;show(([]:List Int)++_).length<_;simp only[jB];omega
theorem aHh{m:Model}(hb:Fp m=true)(st:ak Int):∃v,auR m st=some v/\auU m st=some v:=by
 have b:=ans hb;obtain⟨v1,v2⟩:=aLj hb;have rh:∀t∈m.Tables.l,cm t.bP.l:=fun t ht=>by have:=b.aa t ht;unfold cm;omega
 have fJ:cm m.bC.l:=by have:=b.PO;unfold cm;omega
 have oT:cm m.Tables.l:=by have:=b.tables;unfold cm;omega
 obtain⟨x,af,e2⟩:=YR m.bC m.Tables true fJ oT rh;obtain⟨y,bT,cF⟩:=aD2 m.bC m.Tables true fJ oT rh fun t ht=>aEM _ (by have:=b.aa t ht;omega);unfold auR auU avW;rw[v1,v2];cases ad:vT m with
 |false=>exact⟨false,rfl,rfl⟩
 |true=>
  rw[aC3 ad]at e2 cF;simp only[cond_true]at e2 cF;unfold av5 avz;simp only[cg,cond_true,af,bT,gL,e2,cF];exact⟨_,rfl,rfl⟩
theorem aHi{m:Model}(hb:Fp m=true)(st:ak Int)(wN:st.l.length<=100000):∃x y,awm m st=some x/\awo m st=some y/\y.l=x.l/\cm x.l:=by
 have b:=ans hb;obtain⟨v,f1,f2⟩:=aHh hb st;unfold awm awo;rw[f1,f2];cases v with
 |false=>exact⟨.nil,.emp,rfl,rfl,rfl,by unfold cm;decide⟩
 |true=>
  have eA:∀c∈m.fu.l,∃v,zw c st=some v:=fun c hc=>aCJ c st wN ((aw5 b).anr c hc);have hlen:m.fu.l.length<=100000:=by have:=b.cons;omega
  have cW:∀k,k<m.fu.l.length->∃c v,m.fu.l[k]? =some c/\zw c st=some v/\auZ c st=some v:=fun k cW=>by
   have hm:=Kp cW;obtain⟨v,ad⟩:=eA _ hm;exact⟨_,v,hX cW,ad,by simp only[auZ,aC1 _ st wN ((aw5 b).anr _ hm),ad,cg]⟩
  obtain⟨z,h1,h2⟩:=axb (f:=awl m st) hlen (o:=fun k=>if((m.fu.l[k]?.bind fun c=>zw c st).getD true)=true then none else some (k:Int)) (fun k acc aX=>by
   obtain⟨c,v,q1,aS,b1⟩:=cW k aX;simp only[awl,k8 aX,cond_true,fP,q1,aS,cg,sO];cases v<;>rfl) (fun acc=>by simp only[awl,mw,cond_false]) m.fu.l.length 0 .nil (by omega) (aK _)
  obtain⟨u,ar,aQ⟩:=axb (f:=awn m st) hlen (o:=fun k=>if((m.fu.l[k]?.bind fun c=>zw c st).getD true)=true then none else some (k:Int)) (fun k acc aX=>by
   obtain⟨c,v,q1,aS,b1⟩:=cW k aX;simp only[awn,k8 aX,cond_true,fP,q1,aS,b1,cg,sO];cases v<;>rfl) (fun acc=>by simp only[awn,mw,cond_false]) m.fu.l.length 0 .emp (by omega) (aK _)
  rw[show((0:Nat):Int)=0 from rfl]at h1 ar;refine⟨z,u,by simp only[cg,cond_true,h1],by simp only[cg,cond_true,ar],by rw[h2,aQ];rfl,?_⟩;rw[h2];have:=List.length_filterMap_le (fun k:Nat=>if((m.fu.l[k]?.bind fun c=>zw c st).getD true)=true then none else some (k:Int)) (List.range' 0 m.fu.l.length);rw[ax6]at this;show(([]:List Int)++_).length<_;simp only[jB];omega
theorem aHj (m:Model)(st:ak Int)(cd:cm st.l):awp m st=some true:=by
 unfold awp auN;simp only[cg,cond_true,anp,aC2 st cd];cases hb:Fp m with
 |false=>rfl
 |true=>
  simp only[cond_true];cases ab:st.l.all afD&&decide (st.l.length<=128)with
  |false=>rfl
  |true=>
   simp only[b8,decide_eq_true_eq]at ab;obtain⟨x,y,af,e2,bT,cF⟩:=aHg hb;obtain⟨v,s1,s2,-⟩:=aHc hb st (by omega);obtain⟨z,u,h1,h2,ar,aQ⟩:=aHi hb st (by omega);simp only[hZ,cond_false,af,e2,cg,aw9 bT cF,cond_true,s1,s2,beq_self_eq_true,h1,h2,aw9 ar aQ]
end
end Go.Abs.hk
