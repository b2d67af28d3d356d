/- Texts of this claim, joined and written short by a program. -/
import Derived.Test.YteocalfeoefeoaaGreatDoorP34
import Derived.Test.YteocalfeoefeoaaGreatDoorP10
import Derived.Test.YteocalfeoefeoaaGreatDoorP22
import Derived.Test.YteocalfeoefeoaaGreatDoorP21
import Derived.Test.YteocalfeoefeoaaGreatDoorP32
import Derived.Test.YteocalfeoefeoaaGreatDoorP33
import Derived.Test.YteocalfeoefeoaaGreatDoorP01
import Derived.Test.YteocalfeoefeoaaGreatDoorP20
import Derived.Test.YteocalfeoefeoaaGreatDoorP00
set_option linter.unusedVariables false
set_option linter.unusedSimpArgs false
set_option linter.unusedSectionVars false
namespace Go.Abs.mN
open Go Go.Abs Go.Abs.Lex
noncomputable section
def check (mm:ak bH):Option Bool:=(bif (decide (mm.len<3))then some true else((bQ mm.l 0).bind fun oq=>((pU oq).bind fun ajp=>(bif (ajp != 1)then some true else((bQ mm.l 1).bind fun yV=>(bif (yV != [40])then some true else((bQ mm.l (bJ (mm.len-1))).bind fun Nr=>some (Nr != [41]))))))))
theorem agy:∀{m:Nat} {s:bH} {ws:List bH},sG m s=some ws->∀x∈ws,x.length<=s.length
 |0,s,ws,h=>by cases h
 |m+1,s,ws,h=>by
  intro x hx;simp only[sG]at h;split at h
  ·cases h;cases hx
  ·obtain⟨q,bc,rfl⟩:=ct.1 h
   rcases dA.1 hx with rfl|hx
   ·rw[sM,sN];omega
   ·have:=agy bc x hx
    rw[sN,sN]at this;omega
theorem agz{w:ak bH}{r:cP (Int × ak Int) Unit}(h1:(decide (w.len<3))=false){a b:bH}(ao:w.l[0]? =some a)(hb:w.l[1]? =some b)(hk:axF a=some 1)(iA:b=[40])(hn:w.l.length<=100)
  (e:c0 (sH w) (2,.emp)=some r) (hr:UB w.l.length r):∃x y,AY w=some (x,y,false):=by
 subst iA;have i0:bQ w.l 0=some a:=by rw[show(0:Int)=((0:Nat):Int)from rfl,fP];exact ao
 have i1:bQ w.l 1=some [40]:=by rw[show(1:Int)=((1:Nat):Int)from rfl,fP];exact hb
 unfold AY;rw[h1];simp only[cond_false,i0,i1,hk,cg,bne_self_eq_false,e];rcases hr with rfl|⟨q,o,rfl,bc⟩
 ·exact⟨_,_,rfl⟩
 ·have hl:=kl ao
  have:(((q:Nat):Int)==bJ (w.len-1))=false:=by
   rw[beq_eq_false_iff_ne,gL,iN (by omega) (by omega)];omega
  simp only[this];exact⟨_,_,rfl⟩
theorem arJ{s:bH}(hl:s.length<=100):∃mm,zL s=some mm/\
  ((((check mm=some true)\/(check mm=some false/\∃vZ u v,o8 mm 2 (bJ (mm.len-1))=some vZ/\zO vZ=some (u,v,false)))/\∃a b,Ix s=some (a,b,false))\/
    (check mm=some false/\∃vZ pl fits name tV,o8 mm 2 (bJ (mm.len-1))=some vZ/\zO vZ=some (pl,fits,true)/\bQ mm.l 0=some name/\Ix s=some (name,tV,true)/\BG pl.l tV.l fits)):=by
 obtain⟨ws,z,aH,bG,fr,AX⟩:=arc (s:=s) (by omega)
 have hW:zL s=some (if ws=[]then .nil else .mk ws):=by
  unfold zL;rw[if_pos (by omega),bG 128 (by omega)];rfl
 have aC:∀x∈z.l,x.length<=4096:=fun x hx=>by
  have:=agy (bG (ws.length+1) (by omega)) x (by rw[<-AX];exact hx);omega
 refine⟨_,hW,?_⟩
 have hx:(if ws=[]then ak.nil else .mk ws:ak bH).l=ws:=by
  split
  ·rename_i h;rw[h];rfl
  ·rfl
 have hid:∀o:Option (bH × ak Int × Bool),(o.bind fun dR=>some (dR.1,dR.2.1,dR.2.2))=o:=fun o=>by cases o<;>rfl
 unfold Ix;rw[fr];simp only[cg];rw[hid];by_cases ar:ws.length<3
 ·have d1:decide ((if ws=[]then ak.nil else .mk ws:ak bH).len<3)=true:=decide_eq_true (by rw[gL,hx];omega)
  have d2:decide (z.len<3)=true:=decide_eq_true (by rw[gL,AX];omega);refine .inl ⟨.inl (by unfold check;rw[d1];rfl),[],ak.nil,?_⟩;unfold AY;rw[d2];rfl
 ·have bf:ws≠[]:=fun h=>by rw[h]at ar;simp at ar
  rw[if_neg bf];have d1:decide ((ak.mk ws).len<3)=false:=decide_eq_false (by show ¬((ws.length:Nat):Int)<3;omega);have d2:decide (z.len<3)=false:=decide_eq_false (by rw[gL,AX];omega);obtain⟨a,ao⟩:∃a,ws[0]? =some a:=⟨_,hX (by omega)⟩;obtain⟨b,hb⟩:∃b,ws[1]? =some b:=⟨_,hX (by omega)⟩;obtain⟨e,he⟩:∃e,ws[ws.length-1]? =some e:=⟨_,hX (by omega)⟩;have gv:z.l[0]? =some a:=by rw[AX];exact ao
  have iA:z.l[1]? =some b:=by rw[AX];exact hb
  have i0:bQ (ak.mk ws).l 0=some a:=by rw[show(0:Int)=((0:Nat):Int)from rfl,fP];exact ao
  have i1:bQ (ak.mk ws).l 1=some b:=by rw[show(1:Int)=((1:Nat):Int)from rfl,fP];exact hb
  have UD:bQ z.l 0=some a:=by rw[AX];exact i0
  have al0:bQ z.l 1=some b:=by rw[AX];exact i1
  have agA:bJ ((ak.mk ws).len-1)=((ws.length-1:Nat):Int):=by
   rw[show(ak.mk ws).len=((ws.length:Nat):Int)from rfl,iN (by omega) (by omega)];omega
  have agB:bQ (ak.mk ws).l (bJ ((ak.mk ws).len-1))=some e:=by rw[agA,fP];exact he
  have UE:=aLh (s:=a) (aC a (hz gv));cases hk:(((kindOf a:Nat):Int) != 1)with
  |true=>
   refine .inl ⟨.inl ?_,[],ak.nil,?_⟩
   ·unfold check;rw[d1];simp only[cond_false,i0,cg,pU,hk,cond_true]
   ·unfold AY;rw[d2];simp only[cond_false,UD,cg,UE,hk,cond_true]
  |false=>
   have il:axF a=some 1:=by
    rw[UE];have:=hk;rw[bne_eq_false_iff_eq]at this;rw[this]
   by_cases auy:b=[40]
   ·by_cases CC:e=close
    ·
     obtain⟨body,wQ⟩:∃body,ws.drop 2=body++[close]/\(ws.take (ws.length-1)).drop 2=body:=by
      refine⟨(ws.take (ws.length-1)).drop 2,?_,rfl⟩
      have h1:ws=ws.take (ws.length-1)++[close]:=by
       have:=zS (l:=ws) (i:=ws.length-1);rw[he,CC,show ws.length-1+1=ws.length by omega,Kq]at this;exact this
      have h2:ws.drop 2=(ws.take (ws.length-1)++[close]).drop 2:=by rw[<-h1]
      rw[h2,List.drop_append_of_le_length (by rw[sM];omega)]
     have nC:check (.mk ws)=some false:=by
      unfold check;rw[d1];simp only[cond_false,i0,cg,pU,hk,i1,auy,bne_self_eq_false,agB,CC,close]
     have uY:o8 (.mk ws) 2 (bJ ((ak.mk ws).len-1))=some (.mk body):=by
      rw[agA];unfold o8;simp only[];rw[if_pos (by omega)];rw[show((ws.length-1:Nat):Int).toNat=ws.length-1 from rfl,show((2:Int)).toNat=2 from rfl,wQ.2]
     have j1:body.length<=100:=by
      rw[<-wQ.2,sN,sM];omega
     have hj:=arD z (by rw[AX];omega) aC body.length body (aK _) 2 .nil .emp true (by rw[AX];exact wQ.1) ⟨rfl,fun _=>rfl,fun h=>by cases h⟩ (by show 0+_<=_;omega);rcases hj with⟨q1,r,aS,b1⟩|⟨fits,qo,ro,q1,aS,b1⟩
     ·refine .inl ⟨.inr ⟨nC,.mk body,ak.nil,false,uY,?_⟩,agz d2 gv iA il auy (by rw[AX];omega) aS b1⟩
      unfold zO;rw[q1];rfl
     ·refine .inr ⟨nC,.mk body,qo,fits,a,ro,uY,?_,i0,?_,b1⟩
      ·unfold zO
       rw[q1];rfl
      ·have aS:c0 (sH z) (2,.emp)=some (.go (((z.l.length-1:Nat):Int),ro)):=aS
       unfold AY;rw[d2]
       have aT:(((z.l.length-1:Nat):Int)==bJ (z.len-1))=true:=by
        rw[beq_iff_eq,gL,iN (by rw[AX];omega) (by rw[AX];omega),AX];omega
       simp only[cond_false,UD,al0,il,auy,cg,bne_self_eq_false,aS,aT]
    ·refine .inl ⟨.inl ?_,?_⟩
     ·unfold check
      rw[d1];have:(e != [41])=true:=by rw[bne_iff_ne];exact CC
      simp only[cond_false,i0,cg,pU,hk,i1,auy,bne_self_eq_false,agB,this]
     ·obtain⟨r,aS,b1⟩:=arG z (by rw[AX];omega) aC (fun x dW h=>by rw[AX,he]at dW;cases dW;exact CC h) z.l.length 2 .emp (by omega) (by rw[AX];omega) (cx _)
      exact agz d2 gv iA il auy (by rw[AX];omega) aS b1
   ·have cY:(b != [40])=true:=by rw[bne_iff_ne];exact auy
    refine .inl ⟨.inl ?_,[],ak.nil,?_⟩
    ·unfold check;rw[d1];simp only[cond_false,i0,cg,pU,hk,i1,cY,cond_true]
    ·unfold AY;rw[d2];simp only[cond_false,UD,cg,UE,hk,al0,cY,cond_true]
end
end Go.Abs.mN
namespace Go.Abs.mN
open Go Go.Abs Go.Abs.Lex
noncomputable section
theorem arL (m:Model)(mm:bH × (ak Int) × Bool)(aA:cm m.Operations.l):c0 (Iy m mm) (false,0)=some (m.Operations.l.any fun o=>o.Name==mm.1):=by
 have h:=YG (f:=Iy m mm) (fun k (b:Bool)=>(b,(k:Int))) (fun _ b (o:cl)=>.inl (b||o.Name==mm.1)) (fun b=>b) (fun _ _=>True) m.Operations.l (fun k b o hx _=>by
  refine⟨?_,fun _ _=>trivial⟩;have hw:bJ ((k:Int)+1)=((k+1:Nat):Int):=fN (by have:=kl hx;unfold cm at aA;omega);simp only[Iy,k8 (kl hx),cond_true,fP,hx,cg,hw];cases b<;>rfl) (fun b _=>by simp only[Iy,mw,cond_false]) (a:=false) trivial
 rw[YJ fun _ _ _=>rfl]at h
 have key:∀(l:List cl) (b:Bool),l.foldl (fun b o=>b||o.Name==mm.1) b=(b||l.any fun o=>o.Name==mm.1):=by
  intro l
  induction l with
  |nil=>intro b;simp
  |cons o r ih=>intro b;rw[qu,ih,List.any_cons,Bool.or_assoc]
 rw[key,qv]at h;exact h
theorem arM{ops:List cl}(h:BQ (ops.map cl.Name)=true){i:Nat}{o:cl}(ho:ops[i]? =some o):ops.findIdx? (fun z=>z.Name==o.Name)=some i:=by
 have h1:=E4.1 h i o.Name (by rw[jy,ho];rfl);unfold BP at h1;rw[b8,nV,QR]at h1;refine ark ho (by simp) fun j y hj hy=> ?_;cases e:y.Name==o.Name with
 |false=>rfl
 |true=>exact absurd e (h1.2 y.Name (hz (i:=j) (by rw[List.getElem?_take_of_lt hj,jy,hy];rfl)))
theorem arO{a b:ak Int}(hl:cm a.l):Qi a b=some (a.l==b.l):=agd hl
theorem arP{m:Model}(hb:Fp m=true){s:bH}(hl:s.length<=100):∃p,Qg m s=some p/\Qj m s=some p:=by
 have b:=ans hb;obtain⟨v1,v2⟩:=aLj hb;have aA:cm m.Operations.l:=by have:=b.ops;unfold cm;omega
 have hA:cm m.Actions.l:=by have:=b.gV;unfold cm;omega
 have agC:∀z∈m.Actions.l,cm z.bL.l:=fun z aT=>by have:=(b.act z aT).1;unfold cm;omega
 unfold Qg Qj;rw[v1,v2];cases ad:vT m with
 |false=>exact⟨_,rfl,rfl⟩
 |true=>
  obtain⟨mm,wX,h⟩:=arJ hl;simp only[cg,cond_true,wX];change ∃p,((check mm).bind _)=some p/\_;rcases h with⟨h1,a,c,h2⟩|⟨h1,vZ,pl,fits,name,tV,cq,ee,k1,HE,yQ⟩
  ·rw[h2]
   simp only[cg,cond_false];rcases h1 with h1|⟨h1,vZ,u,v,ar,aQ⟩
   ·rw[h1];exact⟨_,rfl,rfl⟩
   ·rw[h1]
    simp only[cg,cond_false,ar,aQ];exact⟨_,rfl,rfl⟩
  ·rw[h1,HE]
   have tk:P9 m.Operations (fun z0=>EX mm z0)=some (match m.Operations.l.findIdx? (fun o=>o.Name==name)with|none=>-1|some i=>(i:Int)):=by
    unfold P9;have:=Pq m.Operations aA (f:=fun z0=>EX mm z0) (p:=fun o=>o.Name==name) fun o _=>by unfold EX;rw[k1];rfl
    have this:c0 (aaQ m.Operations (fun z0=>EX mm z0)) 0=_:=this;rw[this];cases m.Operations.l.findIdx? (fun o=>o.Name==name)<;>rfl
   have wN:=arL m (name,tV,true) aA;simp only[cg,cond_false,cond_true,cq,ee,tk,wN];cases ab:m.Operations.l.findIdx? (fun o=>o.Name==name)with
   |none=>
    have Nf:(m.Operations.l.any fun o=>o.Name==name)=false:=by
     rw[<-List.findIdx?_isSome,ab];rfl
    rw[Nf];exact⟨_,rfl,rfl⟩
   |some i=>
    have Nf:(m.Operations.l.any fun o=>o.Name==name)=true:=by
     rw[<-List.findIdx?_isSome,ab];rfl
    have x0:decide (((i:Nat):Int)<0)=false:=decide_eq_false (by omega);rw[Nf];simp only[x0,cond_false,cond_true]
    have arQ:Qd m.Actions (fun z0=>EY ((i:Nat):Int) pl z0)=some (match m.Actions.l.findIdx? (fun a=>a.cl==((i:Nat):Int)&&a.bL.l==pl.l)with|none=>-1|some k=>(k:Int)):=by
     unfold Qd
     have:=Pq m.Actions hA (f:=fun z0=>EY ((i:Nat):Int) pl z0) (p:=fun a=>a.cl==((i:Nat):Int)&&a.bL.l==pl.l) fun a ao=>by
      unfold EY;rw[agd (agC a ao)];cases a.cl==((i:Nat):Int)<;>rfl
     have this:c0 (aaR m.Actions (fun z0=>EY ((i:Nat):Int) pl z0)) 0=_:=this;rw[this];cases m.Actions.l.findIdx? (fun a=>a.cl==((i:Nat):Int)&&a.bL.l==pl.l)<;>rfl
    have arR:BQ (m.Operations.l.map cl.Name)=true:=by
     have h:=ad;unfold vT at h;simp only[b8]at h;have h5:=h.2.2.2.2.1;unfold zz at h5;simp only[b8]at h5;exact h5.2.2
    have U:c0 (aaS m (name,tV,true)) 0=some (match m.Actions.l.findIdx? (fun a=>a.cl==((i:Nat):Int)&&a.bL.l==tV.l)with|none=>.go ()|some k=>.ret (k:Int)):=by
     have:=Pq m.Actions hA (f:=fun a=>(bQ m.Operations.l a.cl).bind fun tv=>(bif (tv.Name==name)then((Qi a.bL tV).bind fun DV=>some DV)else some false)) (p:=fun a=>a.cl==((i:Nat):Int)&&a.bL.l==tV.l) fun a ao=>by
      obtain⟨k,hk⟩:=T7 ao;obtain⟨h0,o,ho,-⟩:=Uz b ad hk;simp only[YF h0 ho,cg,arO (agC a ao)]
      have jN:(o.Name==name)=(a.cl==((i:Nat):Int)):=by
       rw[zU,beq_iff_eq,beq_iff_eq];constructor
       ·intro e
        have:=arM arR ho;rw[e,ab]at this;simp only[az]at this;omega
       ·intro e
        obtain⟨q,bc⟩:=Y6 ab;have h2:=(List.findIdx?_eq_some_iff_getElem.1 ab);obtain⟨ar,aQ,-⟩:=h2;have ft:m.Operations.l[i]? =some o:=by rw[show i=a.cl.toNat by omega];exact ho
        have kZ:m.Operations.l[i]=o:=(pY.1 ft).2;rw[kZ]at aQ;exact eq_of_beq aQ
      rw[jN];cases a.cl==((i:Nat):Int)<;>rfl
     exact this
    rw[arQ,U];simp only[cg];cases fits with
    |true=>
     rw[yQ.2.1 rfl];cases m.Actions.l.findIdx? (fun a=>a.cl==((i:Nat):Int)&&a.bL.l==tV.l)with
     |none=>exact⟨_,rfl,rfl⟩
     |some k=>
      have AG:decide (((k:Nat):Int)<0)=false:=decide_eq_false (by omega);simp only[AG,hZ,FU,cond_false];exact⟨_,rfl,rfl⟩
    |false=>
     obtain⟨y,hy,aOU⟩:=yQ.2.2 rfl
     have hn:m.Actions.l.findIdx? (fun a=>a.cl==((i:Nat):Int)&&a.bL.l==tV.l)=none:=by
      rw[List.findIdx?_eq_none_iff];intro a ao;obtain⟨k,hk⟩:=T7 ao;obtain⟨h0,o,ho,aW,-⟩:=Uz b ad hk
      have:(a.bL.l==tV.l)=false:=by
       rw[beq_eq_false_iff_ne];intro e;have:=aW y (by rw[e];exact hy);omega
      rw[this,Bool.and_false]
     rw[hn];simp only[ue,Hf,cond_true];exact⟨_,rfl,rfl⟩
end
end Go.Abs.mN
namespace Go.Abs.mN
open Go Go.Abs Go.Abs.Lex
noncomputable section
theorem arS (m:Model)(i c:Int)(s:bH):Qs m i c s=some true:=by
 unfold Qs Uc;rw[anp m];simp only[cg,cond_true];cases hb:Fp m with
 |false=>rfl
 |true=>
 cases hl:decide ((s.length:Int)>100)with
 |true=>rfl
 |false=>
 have nu:s.length<=100:=by
  have:=of_decide_eq_false hl;omega
 obtain⟨p,f1,f2⟩:=arP hb nu;obtain⟨t,g1,g2⟩:=arl hb i;obtain⟨u,h1,h2⟩:=aro hb c;obtain⟨x,y,cb,dR,gR⟩:=agh hb true;obtain⟨z,w,qP,z2,z3⟩:=agh hb false;have arT:Ql m=some x:=by unfold Ql;rw[cb];rfl
 have arU:Qm m=some z:=by unfold Qm;rw[qP];rfl
 have hid:∀o:Option (ak Range),(o.bind fun v=>some v)=o:=fun o=>by cases o<;>rfl
 have arW:avW m=some y:=by
  unfold avW avz;simp only[hid]at dR⊢; exact dR
 have arX:Qn m=some w:=by
  unfold Qn Ue;simp only[hid]at z2⊢; exact z2
 simp only[cond_true,cond_false,cg,f1,f2,g1,g2,h1,h2,arT,arW,gR,arU,arX,z3,beq_self_eq_true]
end
end Go.Abs.mN
namespace Go.Abs.mN
open Go Go.Abs Go.Abs.S
def arY:cj:=q (q (R [r 10 (m v0),r 11 (gq 1 t10),o 12 (gt t11 (c 0))]) (gg v12 k (e 0))) (b0 1 (q (q (R [r 13 (m v5),r 14 (gq 1 t13),o 15 (gt t14 (c 0))]) (gg r8 (q (q (R [r 16 (m v0),r 17 (iG 1 t16 (c 0)),r 18 (bF t17),o 19 (ne t18 (cs [44]))]) (gg ahR (q (R [o 2 (m nc),o 3 (m gI),o 4 (m gI)]) rt) k)) (R [r 20 (m v0),r 21 (.pw 1 t20 (some (c 1)) none none),o 0 (m t21)])) k)) (q (R [o 7 (m (c 1))]) (q (q (R [r 22 (m v0),r 23 (gq 1 t22),r 24 (gt t23 (c 0)),r 25 (m t24),rg 26 t25 true (m v0),rg 27 t25 true (iG 1 t26 (c 0)),rg 28 t25 true (bF t27),rg 29 t25 true (eq t28 (cs [45])),o 30 (hI t25 t29 gI)]) (gg v30 (lB [r 31 (m v0),r 32 (.pw 1 t31 (some (c 1)) none none),o 7 (m (c (-1))),o 0 (m t32)] [0,1,0,7]) k)) (q (q (R [r 33 (m v0),r 34 (gq 1 t33),r 35 (eq t34 (c 0)),r 36 (m t35),rg 37 t36 false (m v0),rg 38 t36 false (iG 1 t37 (c 0)),rg 39 t36 false (bF t38),rg 40 t36 false (fA (fn 24) [t39]),rg 41 t36 false (ne t40 (c 3)),o 42 (hI t36 h7 t41)]) (gg ajl (q (R [o 2 (m nc),o 3 (m gI),o 4 (m gI)]) rt) k)) (q (R [r 44 (m v0),r 45 (iG 1 t44 (c 0)),r 46 (bF t45),r 47 (fA (fn 62) [t46]),r 43 (m t47),r 48 (ex t43 0),r 49 (ex t43 1),o 8 (m t48),o 9 (m t49)]) (q (R [r 50 (m v6),r 51 (m t50),rg 52 t51 true (m v9),r 53 (hI t51 t52 gI),o 6 (m t53)]) (lB [r 54 (m v5),r 55 (m ka),r 56 (m r7),r 57 (.bin .mul t55 t56),r 58 (.lit 1 [z] 1 [(0,t57)] true),r 59 (ap 1 8 t54 t58),r 60 (m v0),r 61 (.pw 1 t60 (some (c 1)) none none),o 5 (m t59),o 0 (m t61)] [0,0,0,6,14,31,0,64,63,511]))))))))
def arZ:h3:=⟨64,q (R [o 2 (m nc),o 3 (m gI),o 4 (m gI)]) (q (R [o 5 (m nc)]) (q (R [o 6 (m h7)]) (q (b0 0 (.loop arY)) (q (R [r 62 (m v5),r 63 (m v6),o 2 (m t62),o 3 (m t63),o 4 (m h7)]) rt)))),[.tmp 2,.tmp 3,.tmp 4],false⟩
end Go.Abs.mN
namespace Go.Abs
open Go
variable{aa:Nat->Option bY}
def UF (dE:List Nat)(ops:List bO)(wr:List Bool)(n m:Nat):Bool:=
 wr.zipIdx.all fun(w,i)=>!w||((i==n||Nat.ble m i)&&ops.zipIdx.all fun(o,j)=>!fw o.op||i==j||oL dE i j||(i==n&&Nat.blt j m))
section
variable{b:Nat}{fD σ c1:bV}{H:Heap}{Q:X->bV->Heap->Prop}{ms:cN}
theorem ar2{A M R ops:List bO}{o:bO}{dE:List Nat}(mJ:A++o::(M++R)=ops)(aA:Own H ms)(hA:fC (bZ aa) ms A mL σ fD c1)(bj:gJ fD c1 o.guard=some true)
  (dr:b<=H.length->∃v H1 bI BH gS,b<=bI/\b<=H1.length/\b2 (bZ aa) (bN fD c1) H H.length o.op=some (v,H1,bI)/\Own H1 ms/\fC (bZ aa) ms M (fV fD o.dst v) (fW c1 o.dst v) BH gS/\
    Op aa b R BH gS H1 (List.replicate M.length false++eG H H1 bI::List.replicate A.length false) (fun aN H' wr=>UF dE ops wr A.length (A.length+1+M.length)=true/\Q .normal aN H')):
  eS aa b (.region ops (some dE)) σ H Q:=fun av low h1 h2 ar=>by
 obtain⟨v,H1,bI,BH,gS,dm,gy,s1,w0,kH,U⟩:=dr ar;obtain⟨nJ,lC,bF,f1,f2,f0,f3,f4⟩:=hA.run (b:=b) (low:=low) (wr:=[]) (o::(M++R)) sb h1 aA h2 ar;obtain⟨HB,wZ,af,e2,bT⟩:=yG f1 f2 H1 (min bF bI) o.dst v;obtain⟨ar6,tl,vm,g1,g2,g0,g3,g4⟩:=kH.run (b:=b) (low:=min bF bI) (wr:=eG H H1 bI::List.replicate A.length false) R e2 bT w0 (by omega) gy;obtain⟨ahP,Nb,Nc,pb,A4,Nd,cq,ee,k1,HE,yQ,ahQ⟩:=U ar6 tl vm g1 g2 g0 gy;have HF:e3 nJ lC o.guard=some true:=by rw[DA f1 f2];exact bj
 have yC:b2 (bZ aa) (ag.ae nJ lC) H H.length o.op=some (v,H1,bI):=by rw[vf f1 f2];exact s1
 rw[mJ]at f3 f4
 have he:cQ (bZ aa) ops ⟨[],av,H,low,none⟩ []=some (⟨ahP,Nb,Nc,pb,none⟩,A4):=by
  rw[f3,rz];simp only[cQ,HF,yC];rw[af,g3];exact cq
 obtain⟨cf,oc⟩:=DF he;obtain⟨pQ,q2,t1,t2,t3,t4⟩:=f4 cf oc;simp only[fx,HF,yC]at t3;rw[af]at t3;obtain⟨ar7,t5,t6⟩:=ct.1 t3;obtain⟨aOV,aOW,ky,oR,TI,MB⟩:=g4 ar7 t5;have ahS:=ahN t5;obtain⟨S,aR,h0,hn,mI,hs⟩:=uN _ _ _ _ _ he;have qC:=GA ops S aR cf hs (by rw[h0];exact oc);simp only[U3,jB]at mI
 have hw:∀{i},A4[i]? =some true↔i<ops.length/\aR i=true:=fun {i}=>by
  rw[mI,jy];by_cases hi:i<ops.length
  ·rw[UZ hi];simp[hi]
  ·rw[lb (by simpa using hi)];simp[hi]
 have Wg:∀{i},A4.getD i false=true↔i<ops.length/\aR i=true:=fun {i}=>by
  rw[<-hw,tY];cases A4[i]? with
  |none=>simp
  |some x=>simp
 have cd:∀i,i<ops.length->aR i=true->(i=A.length\/A.length+1+M.length<=i)/\∀j o',ops[j]? =some o'->fw o'.op=true->i≠j->oL dE i j=true\/(i=A.length/\j<A.length+1+M.length):=fun i hi ab=>by
  unfold UF at yQ;rw[eV]at yQ;have:=yQ (true,i) (ie.2 (hw.2 ⟨hi,ab⟩));simp only[hZ,qv,b8,ko,beq_iff_eq,eV]at this;refine⟨this.1.imp id km,fun j o' hj ht cK=> ?_⟩;have:=this.2 (o',j) (ie.2 hj);simp only[ht,hZ,ko,b8,beq_iff_eq,cK,or_false,hY,false_or]at this;exact this.imp id fun q=>⟨q.1,km q.2⟩
 have r5:qx (bZ aa) dE ops A4 ⟨[],av,H,low,none⟩=true:=by
  unfold qx;rw[oc];simp only[b8];constructor
  ·unfold FW
   simp only[eV];rintro⟨w,i⟩ hi;cases w with
   |false=>rfl
   |true=>
    simp only[hZ,qv,eV];rintro⟨w',j⟩ hj;cases w' with
    |false=>rfl
    |true=>
     have hi:=hw.1 (ie.1 hi);have hj:=hw.1 (ie.1 hj);by_cases cK:i=j
     ·simp[cK]
     ·have Wh:=hX hj.1
      rcases(cd i hi.1 hi.2).2 j _ Wh ((hs j _ Wh).fw hj.2) cK with q|⟨q1,aS⟩
      ·simp[q]
      ·rcases(cd j hj.1 hj.2).1 with r|r<;>omega
  ·rw[eV]
   intro q bc;unfold FX at bc;simp only[Cd]at bc;obtain⟨⟨o',j⟩,hj,bc⟩:=bc;have hj:=ie.1 hj;simp only at hj bc;split at bc
   ·cases bc
   rename_i GX;simp only[ko,nV,not_or,Km,Bool.not_eq_true]at GX;obtain⟨ht,hH⟩:=GX;simp only[Cd]at bc;obtain⟨⟨z6,k⟩,hk,bc⟩:=bc;have hk:=ie.1 hk;simp only at hk bc;split at bc
   ·cases bc
   rename_i Gb;have mF:j<ops.length:=(pY.1 hj).1
   have rW:k<=ops.length:=by
    have:=(pY.1 hk).1;rw[Na oc]at this;omega
   have Wi:=qC k rW;rw[hk]at Wi;cases Wi;rw[qC j (by omega)]at bc;simp only[FI]at bc;subst bc;simp only[ko,beq_iff_eq,b8,bne_iff_ne,ne_eq,nV,not_or,not_and,Km]at Gb;obtain⟨⟨uS,AF⟩,Nf⟩:=Gb
   have hex:∀i,i<ops.length->aR i=true->i≠j->oL dE i j=true->(i<j↔i<k):=fun i hi ab cK Wj=>by
    rw[<-decide_eq_decide];by_cases e:decide (i<j)=decide (i<k)
    ·exact e
    ·exact absurd (ry.2 ⟨(true,i),ie.2 (hw.2 ⟨hi,ab⟩),by simp[cK,Wj,e]⟩) Nf
   have Wk:aR j=false:=by
    cases hx:aR j with
    |false=>rfl
    |true=>rw[Wg.2 ⟨mF,hx⟩]at hH;cases hH
   by_cases wH:j<A.length+1+M.length/\j≠A.length/\(k=0\/k=A.length+1)
   ·obtain⟨q1,aS,b1⟩:=wH
    have HC:Own (S k).H ms:=by
     rcases b1 with rfl|rfl
     ·rw[h0];exact aA
     ·have:cf[A.length+1]? =some ⟨HB,wZ,H1,min bF bI,none⟩:=by
       rw[t1,sJ (by omega),t2,<-t6,agZ];exact ahS
      rw[hk]at this;rw[rA this];exact w0
    have HG:=qC j (by omega);rcases fX j A.length with Wl|Wl
    ·refine t4 _ HC (o',S j) (ns.2 ⟨j,?_⟩)
     rw[xD];rw[<-mJ,gE Wl]at hj;rw[t1,gE (by omega)]at HG;exact⟨hj,HG⟩
    ·obtain⟨x,rfl⟩:=mR (show A.length+1<=j by omega)
     refine MB _ HC (o',S (A.length+1+x)) (ns.2 ⟨x,?_⟩);rw[xD];rw[<-mJ,sJ (by omega),show A.length+1+x-A.length=x+1 by omega,Kh,gE (by omega)]at hj;rw[t1,sJ (by omega),t2,<-t6,show A.length+1+x-A.length=x+1 by omega,Kh,ky,gE (by omega)]at HG;exact⟨hj,HG⟩
   ·have eA:∀x,x<ops.length->aR x=true->(x<j↔x<k):=fun x hx HH=>by
     have rU:x≠j:=fun e=>by rw[e,Wk]at HH;cases HH
     rcases(cd x hx HH).2 j o' hj ht rU with q|⟨q1,aS⟩
     ·exact hex x hx HH rU q
     ·exfalso
      have AG:k≠0:=fun e=>wH ⟨aS,by omega,.inl e⟩;obtain⟨nd,pR⟩:=Wg.1 (AF AG);rcases(cd (k-1) nd pR).1 with r|r
      ·exact wH ⟨aS,by omega,.inr (by omega)⟩
      ·rcases(cd (k-1) nd pR).2 j o' hj ht (by omega)with z|⟨z,-⟩
       ·have:=hex (k-1) nd pR (by omega) z
        omega
       ·omega
    have e5:(S k).H=(S j).H:=by
     have hc:=M7 aa
     have no:∀x,x<ops.length->(x<j/\k<=x\/x<k/\j<=x)->aR x=false:=fun x hx Wj=>by
      cases dW:aR x with
      |false=>rfl
      |true=>have:=eA x hx dW;omega
     rcases NK k j with ahT|CW
     ·obtain⟨d,rfl⟩:=mR ahT
      exact(M9 hc hs (by omega) fun x nd pR=>no x (by omega) (by omega)).symm
     ·obtain⟨d,rfl⟩:=mR CW
      exact M9 hc hs (by omega) fun x nd pR=>no x (by omega) (by omega)
    rw[e5];exact ahM (hs j o' hj) Wk
 exact⟨.normal,Nb,Nc,pb,Nd,by rw[h6];simp only[he,nY,r5,Ir,Hf,if_true,aq.fp],ee,k1,HE,ahQ⟩
end
end Go.Abs
namespace Go.Abs
variable{aa:Nat->Option bY}{b:Nat}{σ:bV}{H:Heap}{Q:X->bV->Heap->Prop}
theorem ar8{α:Type}{es bytes:Nat}{f:α->V}{s y al:ak α}{d:Option (Nat × Bool)}{iV lj:ag}{ek:V}{m:List (Nat × cc)}{ms:cN}{A M R ops:List bO}{dE:List Nat}{fD c1:bV}
  (mJ:A++⟨d,.append es bytes iV lj,none⟩::(M++R)=ops) (hA:fC (bZ aa) [] A mL σ fD c1) (k:Nat)
  (hs:lG bytes s y=some al) (aA:Own H ms) (hk:ms[k]? =some m) (hr:hf b es f ek s m) (ao:bN fD c1 iV=ek) (hb:bN fD c1 lj=bg es f y) (hp:∀a,bs (f a)=true) (hc:∀a,bS (aE (f a))=true)
  (cA:∀H' v' m' mv,hf b es f v' al m'->Own H' (ms.set k m')->∃BH gS,fC (bZ aa) [] M (fV fD d v') (fW c1 d v') BH gS/\Op aa b R BH gS H' (List.replicate M.length false++mv::List.replicate A.length false) (fun aN H' wr=>UF dE ops wr A.length (A.length+1+M.length)=true/\Q .normal aN H')):
  eS aa b (.region ops (some dE)) σ H Q:=
 ar2 (ms:=[]) mJ (.nil H) hA rfl fun cY=>by
  obtain⟨v',H1,bI,m',q1,aS,b1,cL,et⟩:=aqx (aa:=aa) cY k hs aA hk hr ao hb hp hc;obtain⟨BH,gS,p1,p2⟩:=cA H1 v' m' (eG H H1 bI) cL et;exact⟨v',H1,bI,BH,gS,q1,aS,b1,.nil H1,p1,p2⟩
end Go.Abs
set_option maxHeartbeats 2000000
namespace Go.Abs.mN
open Go Go.Abs
def agD (aa:Nat->Option bY):Prop:=∀(H0:Heap) (ah:bH) (r:Int),pU ah=some r->bZ aa (.fn 24 [] []) [.str ah] H0=some (aD r,H0,H0.length)
def agE (aa:Nat->Option bY):Prop:=∀(H0:Heap) (ah:bH) (r:Int × Bool),vX ah=some r->bZ aa (.fn 62 [] []) [.str ah] H0=some (.aU [aD r.1,.bool r.2],H0,H0.length)
def ar9 (aa:Nat->Option bY):Prop:=∀(H0:Heap) (ah:(ak bH)) (r:(ak Int) × Bool × Bool),zO ah=some r->bZ aa (.fn 25 [] []) [bg 1 V.str ah] H0=some (.aU [bg 1 aD r.1,.bool r.2.1,.bool r.2.2],H0,H0.length)
theorem asa{aa:Nat->Option bY}(cZ:aa 25=some (.code arZ))(asb:agD aa)(asc:agE aa):
  ar9 aa:=by
 intro H0 ah r h;refine MZ (caps:=[]) cZ (km rfl) rfl ?_ (by simp[bs,bW]);unfold zO at h;refine iW <| pp .cp <| pp (.bool false) <| pp (.bool false) <| dV <| iW <| pp .cp <| dV <| iW <| pp (.bool true) <| dV <| kc <| yF <| ?_
 obtain⟨vv,O8,h⟩:=bind_some h;refine fe (zM) (fun s aN H'=>∃(Ub:V) (It:List (Nat × cc)),At aN [0,5,6] [bg 1 V.str s.1,Ub,.bool s.2.1]/\hf H0.length 1 aD Ub s.2.2 It/\Own H' (It::[])) (fun o=>fun eI aN H'=>match(generalizing:=false) o with| .go s=>∃(v87:V) (agF:List (Nat × cc)),eI=(.exit 0)/\At aN [5,6] [v87,.bool s.1]/\hf H0.length 1 aD v87 s.2 agF/\Own H' (agF::[])| .ret s=>eI=.ret/\At aN [2,3,4] [.cp,.bool false,.bool false]/\Own H' []) O8 ⟨.cp,[],rfl,(.nil),((Own.nil H0).ins 0)⟩ ?_ ?_
 ·rintro⟨i12,i13,i14⟩ c1 aOX r aW pZ
  dsimp only[zM]at pZ
  try dsimp only at aW
  obtain⟨r8,m16,ase,UG,Ka⟩:=aW;refine dv ase <| kc <| iW <| pp (bg 1 V.str i12) <| ph (aD i12.len) (qZ rfl _) <| pp (.bool (decide (i12.len>0))) <| dV <| ?_
  rcases lD pZ with⟨UH,pZ⟩|⟨UH,pZ⟩
  ·refine qW rfl UH <| qV <| yF <| kc <| ?_
   obtain⟨Bl,sk,pZ⟩:=bind_some pZ;refine wU (fun eI aN H'=>match(generalizing:=false) Bl with| .go s=>eI=.normal/\At aN [0,5,6] [bg 1 V.str s,r8,.bool i13]/\Own H' (m16::[])| .ret s=>eI=.ret/\At aN [2,3,4] [.cp,.bool false,.bool false]/\Own H' []) ?_ ?_
   ·refine iW <| pp r8 <| ph (aD i14.len) (V5 (f:=aD) Ka 0 rfl UG rfl) <| pp (.bool (decide (i14.len>0))) <| dV <| ?_
    rcases lD sk with⟨UI,sk⟩|⟨UI,sk⟩
    ·refine qW rfl UI <| kc <| iW <| pp (bg 1 V.str i12) <| ?_
     obtain⟨vw,asf,sk⟩:=bind_some sk;refine ph (.dn (aE (V.str vw)) 0) (sc rfl rfl asf _) <| pp (.str vw) <| pp (.bool (vw != [44])) <| dV <| ?_
     rcases lD sk with⟨UJ,sk⟩|⟨UJ,sk⟩
     ·refine qW rfl UJ <| iW <| pp .cp <| pp (.bool false) <| pp (.bool false) <| dV <| ti <| ?_
      cases sk;exact⟨rfl,rfl,(Ka.drop 0)⟩
     ·refine qX rfl UJ <| qV <| o6 <| pp (bg 1 V.str i12) <| ?_
      obtain⟨O1,ash,sk⟩:=bind_some sk;refine ph (bg 1 V.str O1) (yM ash (.inr ⟨_,rfl,rfl⟩) (.inl ⟨rfl,rfl⟩) rfl) <| pp (bg 1 V.str O1) <| dV <| ?_
      cases sk;exact⟨rfl,rfl,Ka⟩
    ·refine qX rfl UI <| qV <| ?_
     cases sk;exact⟨rfl,rfl,Ka⟩
   ·intro cb c1 aOY gr
    cases Bl with
    |go r9=>
     try dsimp only at pZ gr
     obtain⟨rfl,asi,agG⟩:=gr;refine dv asi <| iW <| pp (aD 1) <| dV <| kc <| ?_
     obtain⟨Ek,vL,pZ⟩:=bind_some pZ;refine wU (fun eI aN H'=>(fun s=>eI=.normal/\At aN [0,5,6,7] [bg 1 V.str s.1,r8,.bool i13,aD s.2]/\Own H' (m16::[])) Ek) ?_ ?_
     ·refine kc <| ?_
      obtain⟨NJ,Eg,vL⟩:=bind_some vL;refine wU (fun eI aN H'=>(fun s=>eI=.normal/\At aN [0,5,6,7,30] [bg 1 V.str r9,r8,.bool i13,aD 1,.bool s]/\Own H' (m16::[])) NJ) ?_ ?_
      ·refine o6 <| pp (bg 1 V.str r9) <| ph (aD r9.len) (qZ rfl _) <| pp (.bool (decide (r9.len>0))) <| pp (.bool (decide (r9.len>0))) <| ?_
       rcases lD Eg with⟨tW,Eg⟩|⟨tW,Eg⟩
       ·refine h9 (bg 1 V.str r9) tW <| ?_
        obtain⟨Bm,asj,Eg⟩:=bind_some Eg;refine ha (v:=(.dn (aE (V.str Bm)) 0)) (hJ rfl tW) (sc rfl rfl asj _) <| h9 (.str Bm) tW <| h9 (.bool (Bm==[45])) tW <| ph (.bool (Bm==[45])) (nK rfl tW) <| dV <| ?_
        cases Eg;exact⟨rfl,rfl,agG⟩
       ·refine mi tW <| mi tW <| mi tW <| mi tW <| ph (.bool false) (vh rfl tW) <| dV <| ?_
        cases Eg;exact⟨rfl,rfl,agG⟩
      ·intro cb c1 aOZ gr
       try dsimp only at vL gr
       obtain⟨rfl,asl,agH⟩:=gr;refine dv asl <| ?_
       rcases lD vL with⟨UK,vL⟩|⟨UK,vL⟩
       ·refine qW rfl UK <| MN <| pp (bg 1 V.str r9) <| ?_
        obtain⟨zN,asm,vL⟩:=bind_some vL;refine ph (bg 1 V.str zN) (yM asm (.inr ⟨_,rfl,rfl⟩) (.inl ⟨rfl,rfl⟩) rfl) <| pp (aD (-1)) <| pp (bg 1 V.str zN) <| dV ⟨rfl,?_⟩
        cases vL;exact⟨rfl,rfl,agH⟩
       ·refine qX rfl UK <| qV <| ?_
        cases vL;exact⟨rfl,rfl,agH⟩
     ·intro cb c1 aO0 gr
      obtain⟨qq,w7⟩:=Ek
      try dsimp only at pZ gr
      obtain⟨rfl,asn,agI⟩:=gr;refine dv asn <| kc <| kc <| ?_
      obtain⟨Iu,xj,pZ⟩:=bind_some pZ;refine wU (fun eI aN H'=>(fun s=>eI=.normal/\At aN [0,5,6,7,42] [bg 1 V.str qq,r8,.bool i13,aD w7,.bool s]/\Own H' (m16::[])) Iu) ?_ ?_
      ·refine o6 <| pp (bg 1 V.str qq) <| ph (aD qq.len) (qZ rfl _) <| pp (.bool (qq.len==0)) <| pp (.bool (qq.len==0)) <| ?_
       rcases lD xj with⟨fH,xj⟩|⟨fH,xj⟩
       ·refine ca fH <| ca fH <| ca fH <| ca fH <| ca fH <| ph (.bool true) (nK rfl fH) <| dV <| ?_
        cases xj;exact⟨rfl,rfl,agI⟩
       ·refine h9 (bg 1 V.str qq) fH <| ?_
        obtain⟨nf,Pj,xj⟩:=bind_some xj;refine ha (v:=(.dn (aE (V.str nf)) 0)) (hJ rfl fH) (sc rfl rfl Pj _) <| h9 (.str nf) fH <| ?_
        obtain⟨pe,Pk,xj⟩:=bind_some xj;refine ha (v:=(aD pe)) (hJ rfl fH) (wV (asb _ _ _ Pk) (tj (by simp[bW,bs])) rfl rfl) <| h9 (.bool (pe != 3)) fH <| ph (.bool (pe != 3)) (vh rfl fH) <| dV <| ?_
        cases xj;exact⟨rfl,rfl,agI⟩
      ·intro cb c1 alF gr
       try dsimp only at pZ gr
       obtain⟨rfl,Pl,BL⟩:=gr;refine dv Pl <| ?_
       rcases lD pZ with⟨vP,pZ⟩|⟨vP,pZ⟩
       ·refine qW rfl vP <| iW <| pp .cp <| pp (.bool false) <| pp (.bool false) <| dV <| ti <| ?_
        cases pZ;exact⟨nofun,⟨rfl,rfl,(BL.drop 0)⟩⟩
       ·refine qX rfl vP <| qV <| iW <| pp (bg 1 V.str qq) <| ?_
        obtain⟨w5,aso,pZ⟩:=bind_some pZ;refine ph (.dn (aE (V.str w5)) 0) (sc rfl rfl aso _) <| pp (.str w5) <| ?_
        obtain⟨lJ,atB,pZ⟩:=bind_some pZ;refine ph (.aU [aD lJ.1,.bool lJ.2]) (wV (asc _ _ _ atB) (tj (by simp[bW,bs])) rfl rfl) <| pp (.aU [aD lJ.1,.bool lJ.2]) <| pp (aD lJ.1) <| pp (.bool lJ.2) <| pp (aD lJ.1) <| pp (.bool lJ.2) <| dV <| kc <| ?_
        refine wU (fun eI aN H'=>eI=.normal/\At aN [0,5,6,7,8] [bg 1 V.str qq,r8,.bool (i13&&lJ.2),aD w7,aD lJ.1]/\Own H' (m16::[])) ?_ ?_
        ·refine o6 <| pp (.bool i13) <| pp (.bool i13) <| ?_
         rcases Bool.eq_false_or_eq_true i13 with Eh|Eh
         ·exact h9 (.bool lJ.2) Eh <| ph (.bool lJ.2) (nK rfl Eh) <| pp (.bool lJ.2) <| dV <| ⟨rfl,(by simp only[vP,Eh,fI,FT,Ir,qv,cond_true,cond_false,hZ,ue];rfl),BL⟩
         ·exact mi Eh <| ph (.bool false) (vh rfl Eh) <| pp (.bool false) <| dV <| ⟨rfl,(by simp only[vP,Eh,fI,FT,Ir,qv,cond_true,cond_false,hZ,ue];rfl),BL⟩
        ·intro cb c1 aO1 gr
         obtain⟨rfl,atC,auo⟩:=gr;obtain⟨O2,aup,pZ⟩:=bind_some pZ;obtain⟨EW,auq,pZ⟩:=bind_some pZ;cases pZ;refine dv atC <| ar8 (f:=aD) (A:=[_,_,_,_,_]) (M:=[_,_]) (R:=[_,_]) rfl (fC.pp r8 <| fC.pp (aD w7) <| fC.pp (aD lJ.1) <| fC.pp (aD (bJ (w7*lJ.1))) <| fC.ph (bg 1 aD (ak.mk [(bJ (w7*lJ.1))])) (fun _ _=>VX (vs:=[aD (bJ (w7*lJ.1))]) rfl rfl rfl (eq_false (by decide)) (by simp[bW,bs]) (by simp[bS,aE])) <| .nil) 0 aup auo rfl UG rfl rfl (by simp) (by simp[bS]) fun alG Ua aur aus aut auu=> ?_
         refine⟨_,_,fC.pp (bg 1 V.str qq) <| fC.ph (bg 1 V.str EW) (fun _ _=>yM auq (.inr ⟨_,rfl,rfl⟩) (.inl ⟨rfl,rfl⟩) rfl) <| .nil,pp Ua <| pp (bg 1 V.str EW) <| dV ⟨(by cases aus<;>rfl),?_⟩⟩;exact⟨rfl,⟨Ua,aur,rfl,aut,auu⟩⟩
    |ret J9=>
     try dsimp only at pZ gr
     obtain⟨rfl,auv,auw⟩:=gr;rw[<-wY auv];cases pZ;exact⟨nofun,⟨rfl,rfl,auw⟩⟩
  ·refine qX rfl UH <| Dz <| ?_
   cases pZ;exact⟨nofun,⟨r8,m16,rfl,rfl,UG,Ka⟩⟩
 ·intro cb c1 alQ gr
  cases vv with
  |go aNj=>
   obtain⟨Iv,aaP⟩:=aNj
   try dsimp only at h gr
   obtain⟨OU,aO2,rfl,aNk,aNl,aNm⟩:=gr;rw[<-wY aNk];refine iW <| pp OU <| pp (.bool Iv) <| pp OU <| pp (.bool Iv) <| pp (.bool true) <| dV <| ti <| ?_
   cases h;exact⟨.inr rfl,MY (u:=.aU [OU,.bool Iv,.bool true]) (.tmp rfl (.tmp rfl (.tmp rfl .nil))) rfl aNm (.aql (.cons (.row (f:=aD) 0 rfl aNl (by simp)) (.cons (.plain (by simp[bs,bW])) (.cons (.plain (by simp[bs,bW])) .nil))))⟩
  |ret aO3=>
   try dsimp only at h gr
   obtain⟨rfl,aNn,aO4⟩:=gr;rw[<-wY aNn];cases h;exact⟨.inr rfl,MX (.tmp rfl (.tmp rfl (.tmp rfl .nil))) rfl (by simp[bs,bW])⟩
end Go.Abs.mN
namespace Go.Abs.mN
open Go Go.Abs Go.Abs.S
def TS:h3:=⟨22,q (R [o 2 (m (c 0)),o 3 (m gI)]) (q (q (R [r 6 (m v0),r 7 (gq 0 t6),r 8 (gt t7 (c 4)),r 9 (m t8),rg 10 t9 false (m v0),rg 11 t9 false (fA (fn 24) [t10]),rg 12 t9 false (ne t11 (c 3)),o 13 (hI t9 h7 t12)]) (gg He (q (R [o 2 (m (c 0)),o 3 (m gI)]) rt) k)) (q (R [r 15 (m v0),r 16 (fA (fn 145) [t15]),r 14 (m t16),r 17 (ex t14 0),r 18 (ex t14 1),o 4 (m t17),o 5 (m t18)]) (q (lB [r 19 (m v4),r 20 (m v5),r 21 (.pt 3 false t20 (.const (.ig))),o 2 (m t19),o 3 (m t21)] [0,0,2,1,15]) rt))),[.tmp 2,.tmp 3],false⟩
end Go.Abs.mN
namespace Go.Abs.mN
open Go Go.Abs Go.Abs.Lex
variable{aa:Nat->Option bY}
attribute [local simp] fZ fQ gn h6 iO jC jD lf jY cQ e3 ly kG jq k2 k3 lA me lz jK mc nH ag.ae bk ec aq.put dB kS kR dX eP dF bs bW fy hE finish old ez flat iT mA gN fY aE S.R S.q S.k S.rt S.gg S.b0 S.e S.r S.o S.n S.rg S.m S.bF S.ls S.c9 S.eq S.ne S.lt S.gt S.dc S.no S.hI S.st S.fA S.gq S.iG S.ex S.c S.cs S.h7 S.gI S.z S.fn S.ij
section
variable{call:cU}{ae:ag->V}{H:Heap}{low:Nat}
theorem aNo (x:ag):b2 call ae H low (.len 0 x)=match ae x with
  | .str s=>some (.int .i64 s.length,H,low)
  | _=>none:=by
 show step ae H low (.len 0 x)=_;cases hx:ae x<;>simp[step,hx]
end
attribute [local simp] aNo
theorem aNp (aNq:aa 62=some (.code TS))(hk:agD aa){sp:List V->Option V}(hA:aa 145=some (.ext sp))(lu:∀s:bH,s.length<=18->sp [.str s]=(Lib.atoi s).map fun n=>.aU [.int .i64 n,.ig]):agE aa:=by
 intro H0 w r hr;have qn:=hk H0 w _ rfl;unfold vX at hr;rw[mE,aNq];by_cases aQ:w.length<=4
 ·have cF:¬(4:Int)<(w.length:Int):=by omega
  by_cases ar:kindOf w=3
  ·rw[if_pos ⟨aQ,ar⟩]at hr
   rw[ar]at qn;cases ao:Lib.atoi w with
   |none=>rw[ao]at hr;cases hr
   |some n=>
    rw[ao]at hr;cases hr
    have W1:bZ aa (.fn 145 [] []) [.str w] H0=some (.aU [.int .i64 n,.ig],H0,H0.length):=by
     rw[mE,hA];simp[lu w (by omega),ao,bW,bs]
    simp[TS,cF,qn,W1,aD,oJ,S.lB,nX,rD]
  ·rw[if_neg (by simp[ar])]at hr
   cases hr;have bT:(((kindOf w:Nat):Int) != 3)=true:=by rw[bne_iff_ne];omega
   simp[TS,cF,qn,aD,bT]
 ·rw[if_neg (by simp[aQ])]at hr
  cases hr;have cF:(4:Int)<(w.length:Int):=by omega
  simp[TS,cF,aD]
end Go.Abs.mN
namespace Go.Abs.mN
open Go Go.Abs Go.Abs.S
def Ei:cj:=R [o 4 (.alloc [z,z,z,z]),n (st 4 v4 v10)]
def tt:cj:=b0 1 (q (R [r 11 (c9 0 v4),r 12 (bF t11),o 13 (ne t12 (c 0))]) (gg He (lB [r 14 (bF v3),r 15 (bF v1),r 16 (c9 2 v4),r 17 (bF t16),r 18 (c9 3 v4),r 19 (bF t18),r 20 (.oI t15 (some t17) (some t19)),r 21 (.lit 1 [kV] 1 [(0,t20)] true),r 22 (ap 1 16 t14 t21),n (st 1 v3 t22)] [0,0,0,4,0,16,62,126,255,511]) k))
def TU:h3:=⟨24,q (R [o 1 (ij v0),o 2 (m nc)]) (q (q (R [r 5 (bF v1),r 6 (gq 0 t5),o 7 (gt t6 (c 4096))]) (gg ka (q (R [o 2 (m nc)]) rt) k)) (q (R [o 3 (.alloc [nl])]) (q (q (R [r 8 (bF v1),o 9 (fA (fn 61) [t8])]) (b0 0 (.rangeFunc v9 [10] Ei tt))) (q (R [r 23 (bF v3),o 2 (m t23)]) rt)))),[.tmp 2],false⟩
end Go.Abs.mN
namespace Go.Abs.mN
open Go Go.Abs Go.Abs.Lex
noncomputable section
variable{aa:Nat->Option bY}
attribute [local simp] dF S.R S.lB S.q S.k S.rt S.gg S.b0 S.e S.r S.o S.n S.rg S.m S.bF S.ls S.c9 S.eq S.ne S.lt S.gt S.dc S.no S.hI S.st S.fA S.gq S.iG S.ex S.c S.cs S.h7 S.gI S.z S.kV S.nl S.nc S.fn S.ij S.ap
def tX (s:List UInt8)(n:Nat):Env:=[(0,.str s),(1,.ptr n 0),(2,.cp),(7,.bool false),(3,.ptr (n+1) 0),(9,.fn 136 [] [.ptr (n+2) 0,.ptr (n+4) 0])]
def xy (s:List UInt8)(n:Nat):cc:=.loop .ready .normal (tX s n) [10] Ei tt
def B0 (n:Nat)(H:Heap)(v:V)(out:List (List UInt8)):Prop:=(out=[]/\v=.cp)\/(out≠[]/\∃q,n+6<=q/\q<H.length/\v=.cz q 1 0 out.length out.length/\H[q]? =some (.row 1 (out.map .str) false))
structure Kb (n:Nat) (s:List UInt8) (H:Heap) (out:List (List UInt8)):Prop where
 len:n+6<=H.length
 g0:H[n]? =some (.cells [.str s])
 gt:H[n+2]? =some (.cells [.str s])
 xv:H[n+3]? =some (.map sC)
 UL:H[n+4]? =some (.cells [.map (n+3)])
 FD:H[n+5]? =some (xy s n)
 out:∃v,H[n+1]? =some (.cells [v])/\B0 n H v out
def agJ (m:Nat)(H H':Heap):Prop:=∀j o,j≠m->H[j]? =some o->(∀es ds dt,o≠ .row es ds dt)->H'[j]? =some o
set_option maxHeartbeats 2000000 in
theorem aNr{n p lo K F A E:Nat}{s:List UInt8}{Hb:Heap}{v:V}{out:List (List UInt8)}(vW:Hb[n]? =some (.cells [.str s]))(dm:Hb[n+1]? =some (.cells [v]))(Kc:Hb[p]? =some (.cells [.int .i64 K,.int .i64 F,.int .i64 A,.int .i64 E]))(hp:n+5<p)
  (ho:B0 n Hb v out) (agK:A<=E) (du:E<=s.length) (e4:out.length<=5000) (kC:K≠0)
  {st:aq} (h1:st.H=Hb) (h2:st.low=lo) (ik:lo<=Hb.length) (hn:n<=lo) (bF:bk st.av 1=.ptr n 0) (vm:bk st.av 3=.ptr (n+1) 0) (pb:bk st.av 4=.ptr p 0):
  ∃aF v',dx aa tt st=some (.normal,aF)/\n<=aF.low/\aF.low<=lo/\Hb.length<=aF.H.length/\aF.H[n+1]? =some (.cells [v'])/\B0 n aF.H v' (out++[(s.take E).drop A])/\agJ (n+1) Hb aF.H:=by
 have aX {k:Nat} {o:cc} (h:Hb[k]? =some o):k<Hb.length:=by
  rcases fX k Hb.length with h1|h1
  ·exact h1
  ·rw[lb h1]at h;cases h
 have agL:∀h:n<Hb.length,Hb[n]'h=.cells [.str s]:=fun h=>by rw[hX h]at vW;exact rA vW
 have agM:∀h:n+1<Hb.length,Hb[n+1]'h=.cells [v]:=fun h=>by rw[hX h]at dm;exact rA dm
 have agN:∀h:p<Hb.length,Hb[p]'h=.cells [.int .i64 K,.int .i64 F,.int .i64 A,.int .i64 E]:=fun h=>by rw[hX h]at Kc;exact rA Kc
 have agO:((K:Int) != 0)=true:=by simp;omega
 have oh:min lo Hb.length=lo:=lP ik;have te:=aX dm;rcases ho with⟨rfl,rfl⟩|⟨bf,q,q1,aS,rfl,b1⟩
 ·have:∃aF,dx aa tt st=some (.normal,aF)/\n<=aF.low/\aF.low<=lo/\aF.H=(Hb++[cc.row 1 [.str ((s.take E).drop A)] false]).set (n+1) (.cells [.cz Hb.length 1 0 1 1]):=by
   have dq:=sD dm [cc.row 1 [.str ((s.take E).drop A)] false];refine⟨_,by simp[tt,fZ,fQ,gn,h6,iO,jC,jD,lf,jY,cQ,e3,ly,kG,jq,k2,k3,lA,me,lz,jK,mc,nH,ag.ae,bk,fB,aq.put,dB,kS,kR,dX,eP,bs,bW,fy,hE,finish,old,ez,flat,iT,mA,gN,fY,aE,h1,h2,bF,vm,pb,vW,agL,dm,agM,Kc,agN,dq,mf,agO,xu,eF,agK,du,Dv,th,jL,hD,setCells,step,oK,kT,elems,bS,ed,nX,rD,eG,fw,oh];exact⟨.inl (.inl ⟨by decide,.inr (by decide)⟩),rfl⟩,?_⟩;refine⟨by simp;omega,by simp;omega,by simp⟩
  obtain⟨aF,ai,a2,a3,a4⟩:=this;refine⟨aF,_,ai,a2,a3,by rw[a4];simp,by rw[a4,nU (by simp;omega)];rfl,.inr ⟨by simp,Hb.length,by have:=aX Kc;omega,by rw[a4];simp,rfl,?_⟩,fun j o hj xB _=> ?_⟩
  ·rw[a4,gm (by omega)];simp
  ·rw[a4,gm (by omega)];exact sD xB _
 ·have aNs:∀h:q<Hb.length,Hb[q]'h=.row 1 (out.map .str) false:=fun h=>by rw[hX h]at b1;exact rA b1
  have MF:(out.length+1)*17<=1099511627776:=by omega
  have:∃aF,dx aa tt st=some (.normal,aF)/\n<=aF.low/\aF.low<=lo/\aF.H=(Hb.set q (cc.row 1 (out.map .str++[.str ((s.take E).drop A)]) false)).set (n+1) (.cells [.cz q 1 0 (out.length+1) (out.length+1)]):=by
   have dq:(Hb.set q (cc.row 1 (out.map .str++[.str ((s.take E).drop A)]) false))[n+1]? =some (.cells [.cz q 1 0 out.length out.length]):=by rw[gm (by omega)];exact dm
   refine⟨_,by simp[tt,fZ,fQ,gn,h6,iO,jC,jD,lf,jY,cQ,e3,ly,kG,jq,k2,k3,lA,me,lz,jK,mc,nH,ag.ae,bk,fB,aq.put,dB,kS,kR,dX,eP,bs,bW,fy,hE,finish,old,ez,flat,iT,mA,gN,fY,aE,h1,h2,bF,vm,pb,vW,agL,dm,agM,Kc,agN,b1,aNs,dq,MF,mf,agO,xu,eF,agK,du,Dv,th,jL,hD,setCells,step,oK,kT,elems,bS,ed,nX,rD,eG,fw,oh];exact⟨.inl (.inl (.inr ⟨.inr (by decide),.inr (by decide)⟩)),rfl⟩,?_⟩;refine⟨by simp;omega,by simp;omega,by simp⟩
  obtain⟨aF,ai,a2,a3,a4⟩:=this;refine⟨aF,_,ai,a2,a3,by rw[a4];simp,by rw[a4,nU (by simp;omega)],.inr ⟨by simp,q,q1,by rw[a4];simp;omega,by simp,?_⟩,fun j o hj xB jN=> ?_⟩
  ·rw[a4,gm (by omega),nU aS];simp
  ·rw[a4,gm (by omega),gm ?_];exact xB
   rintro rfl;rw[b1]at xB;cases xB;exact jN _ _ _ rfl
theorem B0.dQ{n m:Nat}{H H':Heap}{v:V}{out:List (List UInt8)}(h:B0 n H v out)(hl:H.length<=H'.length)(hk:∀q es ds dt,q≠m->H[q]? =some (.row es ds dt)->H'[q]? =some (.row es ds dt))(hm:m<n+6):B0 n H' v out:=by
 rcases h with h|⟨h,q,q1,aS,b1,cL⟩
 ·exact .inl h
 ·exact .inr ⟨h,q,q1,by omega,b1,hk q _ _ _ (by omega) cL⟩
def Kd (s:List UInt8)(cO:Nat):List UInt8:=(s.take (iI s cO)).drop (eW s cO)
set_option maxHeartbeats 2000000 in
theorem agP{n cO:Nat}{s:List UInt8}{H:Heap}{out:List (List UInt8)}(h:Kb n s H out)(fT:cO<=s.length)(e4:out.length<=5000):
  ∃H2 c5,bZ aa (.yield (n+5)) [.agg (jS s cO)] (H++[.cells (jS s cO)])=some (.bool true,H2,c5)/\n<=c5/\c5<=n+5/\H.length<=H2.length/\
   Kb n s H2 (if fF (s.drop (eW s cO))=0 then out else out++[Kd s cO])/\H2[H.length]? =some (.cells (jS s cO)):=by
 have hlen:=h.len;obtain⟨v,ad,Dh⟩:=h.out;have zG:eW s cO<=iI s cO:=by unfold iI;omega
 have JW:=Ng fT;obtain⟨sy,TV⟩:∃sy,H++[cc.cells (jS s cO)]=sy:=⟨_,rfl⟩;have jH:sy.length=H.length+1:=by rw[<-TV];simp
 have c6:∀{j o},H[j]? =some o->sy[j]? =some o:=fun hj=>by rw[<-TV];exact sD hj _
 have aNt:sy[H.length]? =some (.cells (jS s cO)):=by rw[<-TV];simp
 obtain⟨Hb,FE⟩:∃Hb,(sy++[cc.cells (jS s cO)]).set (n+5) (.loop .busy .normal (tX s n) [10] Ei tt)=Hb:=⟨_,rfl⟩;have j1:Hb.length=H.length+2:=by rw[<-FE];simp;omega
 have vW:∀{j o},j≠n+5->H[j]? =some o->Hb[j]? =some o:=fun hj xB=>by rw[<-FE,gm (by omega)];exact sD (c6 xB) _
 have aNu:Hb[H.length]? =some (.cells (jS s cO)):=by rw[<-FE,gm (by omega)];exact sD aNt _
 have FF:Hb[H.length+1]? =some (.cells (jS s cO)):=by rw[<-FE,gm (by omega),<-jH];simp
 have aNv:Hb[n+5]? =some (.loop .busy .normal (tX s n) [10] Ei tt):=by rw[<-FE,nU (by simp;omega)]
 have eM:B0 n Hb v out:=Dh.dQ (m:=n+5) (by omega) (fun q es ds dt bc hr=>vW bc hr) (by omega)
 have hA:dx aa Ei {aG:=[],av:=ec (tX s n) 10 (.agg (jS s cO)),H:=sy,low:=sy.length,ro:=some (n+5)}=some (.normal,{aG:=[],av:=ec (ec (tX s n) 10 (.agg (jS s cO))) 4 (.ptr (H.length+1) 0),H:=sy++[.cells (jS s cO)],low:=sy.length,ro:=some (n+5)}):=by
  unfold jS;simp[Ei,tX,fZ,fQ,gn,h6,iO,jC,jD,lf,jY,cQ,e3,ly,kG,jq,k2,k3,lA,me,lz,jK,mc,nH,ag.ae,bk,ec,aq.put,dB,kS,kR,dX,eP,bs,bW,fy,hE,finish,old,ez,flat,iT,mA,gN,fY,aE,jL,hD,setCells,bS,ed,jH,rl,pj]
 have agQ:sy[n+5]? =some (xy s n):=c6 h.FD;have aNw:(sy++[cc.cells (jS s cO)])[n+5]? =some (xy s n):=sD agQ _
 have body:∃aF,dx aa tt {aG:=[],av:=ec (ec (tX s n) 10 (.agg (jS s cO))) 4 (.ptr (H.length+1) 0),H:=Hb,low:=n+5,ro:=some (n+5)}=some (.normal,aF)/\n<=aF.low/\aF.low<=n+5/\Hb.length<=aF.H.length/\agJ (n+1) Hb aF.H/\
   ∃v',aF.H[n+1]? =some (.cells [v'])/\B0 n aF.H v' (if fF (s.drop (eW s cO))=0 then out else out++[Kd s cO]):=by
  by_cases kC:fF (s.drop (eW s cO))=0
  ·have UM:∀h:H.length+1<Hb.length,Hb[H.length+1]'h=.cells (jS s cO):=fun h=>by rw[hX h]at FF;exact rA FF
   unfold jS at FF UM;rw[kC]at FF UM;have aNx:min (n+5) Hb.length=n+5:=lP (by omega);refine⟨_,by simp[tt,tX,fZ,fQ,gn,h6,iO,jC,jD,lf,jY,cQ,e3,ly,kG,jq,k2,k3,lA,me,lz,jK,mc,nH,ag.ae,bk,ec,aq.put,dB,kS,kR,dX,eP,bs,bW,fy,hE,finish,old,ez,flat,iT,mA,gN,fY,aE,mf,FF,UM,aNx];rfl,by simp,by simp,by simp,fun j o hj xB _=>by simpa using xB,v,by simpa using vW (by omega) ad,?_⟩;rw[if_pos kC];exact eM
  ·obtain⟨aF,v',ai,a2,a3,a4,a5,zD,eu⟩:=aNr (n:=n) (p:=H.length+1) (lo:=n+5) (s:=s) (Hb:=Hb) (v:=v) (vW (by omega) h.g0) (vW (by omega) ad) FF (by omega) eM zG JW e4 kC
    (st:={aG:=[],av:=ec (ec (tX s n) 10 (.agg (jS s cO))) 4 (.ptr (H.length+1) 0),H:=Hb,low:=n+5,ro:=some (n+5)}) rfl rfl (by omega) (by omega) rfl rfl rfl
   exact⟨aF,ai,a2,a3,a4,eu,v',a5,by rw[if_neg kC];exact zD⟩
 obtain⟨aF,q1,aS,b1,cL,et,v',gz,jI⟩:=body;have aNy:aF.H[n+5]? =some (.loop .busy .normal (tX s n) [10] Ei tt):=et (n+5) _ (by omega) aNv (fun _ _ _=>by simp);refine⟨aF.H.set (n+5) (xy s n),min aF.low (n+5),?_,by omega,by omega,by simp;omega,?_,?_⟩
 ·rw[Q1,TV]
  unfold nZ;rw[agQ];simp only[xy,ev,ja,if_true,zQ,List.zip_nil_right,qu,List.foldl_nil];rw[hA];simp only[];rw[aNw];simp only[xy];have aNz:min sy.length (n+5)=n+5:=uc (by omega);rw[FE,aNz,q1];simp only[];rw[aNy];simp
 ·have hs:∀{j o},j≠n+5->j≠n+1->H[j]? =some o->(∀es ds dt,o≠ .row es ds dt)->(aF.H.set (n+5) (xy s n))[j]? =some o:=fun h1 h2 ar aQ=>by
   rw[gm (by omega)];exact et _ _ h2 (vW h1 ar) aQ
  exact⟨by simp;omega,hs (by omega) (by omega) h.g0 (fun _ _ _=>by simp),hs (by omega) (by omega) h.gt (fun _ _ _=>by simp),hs (by omega) (by omega) h.xv (fun _ _ _=>by simp),hs (by omega) (by omega) h.UL (fun _ _ _=>by simp),
   by rw[nU (by omega)],v',by rw[gm (by omega)];exact gz,
   jI.dQ (m:=n+5) (by simp) (fun q es ds dt bc hr=>by rw[gm (by omega)];exact hr) (by omega)⟩
 ·rw[gm (by omega)]
  exact et _ _ (by omega) aNu (fun _ _ _=>by simp)
theorem aNA (T:lN aa){n:Nat}{s:List UInt8}(hl:s.length<=4096):∀{r:List UInt8} {ws:List (List UInt8)},Lex r ws->∀(cO:Nat) (H:Heap) (out:List (List UInt8)) (st:aq),s.drop cO=r->cO<=s.length->Kb n s H out->out.length+ws.length<=5000->
  st.H=H->n<=st.low->st.low<=H.length->bk st.av 0=.yield (n+5)->bk st.av 1=.ptr (n+2) 0->bk st.av 2=.ptr (n+4) 0->bk st.av 4=.int .i64 cO->
  ∃aF,dx aa (.loop J2) st=some (.ret,aF)/\Kb n s aF.H (out++ws)/\n<=aF.low/\aF.low<=n+5:=by
 intro r ws hx
 induction hx with
 |done r hk=>
  intro cO H out st hr fT hw e4 h1 h2 ar l7 bF iB pb;obtain⟨H2,c5,hy,nd,pR,aNB,Kj,UN⟩:=agP hw fT (by simp at e4;omega);have hlen:=hw.len
  have dI:fF (s.drop (eW s cO))=0:=by
   unfold eW;rw[<-sR,hr];exact hk
  obtain⟨x,aF,q1,aS,b1,cL,et,gz,jI⟩:=PX T (s:=s) (H:=H) (H2:=H2) (p1:=n+2) (p2:=n+4) (m:=n+3) (L:=n+5) (cO:=cO) (c5:=c5) (m0:=n) (b:=true) (by omega) fT hw.gt hw.UL hw.xv h1 h2 ar l7 bF iB pb hy (by omega) nd (by omega) (fun _=>UN);rw[dI]at aS;simp at aS;subst aS;rw[dI,if_pos rfl]at Kj;exact⟨aF,by rw[py,q1],by rw[b1,rz];exact Kj,cL,by omega⟩
 |more r ws hk W3 ih=>
  intro cO H out st hr fT hw e4 h1 h2 ar l7 bF iB pb;obtain⟨H2,c5,hy,nd,pR,aNB,Kj,UN⟩:=agP hw fT (by simp at e4;omega);have hlen:=hw.len
  have af:s.drop (eW s cO)=r.drop (eU false r):=by
   unfold eW;rw[<-sR,hr]
  have dI:fF (s.drop (eW s cO))≠0:=by rw[af];exact hk
  obtain⟨x,aF,q1,aS,b1,cL,et,gz,jI⟩:=PX T (s:=s) (H:=H) (H2:=H2) (p1:=n+2) (p2:=n+4) (m:=n+3) (L:=n+5) (cO:=cO) (c5:=c5) (m0:=n) (b:=true) (by omega) fT hw.gt hw.UL hw.xv h1 h2 ar l7 bF iB pb hy (by omega) nd (by omega) (fun _=>UN);have aNC:x=.normal:=by rw[aS];simp[dI]
  subst aNC;rw[if_neg dI]at Kj
  have aND:Kd s cO=(r.drop (eU false r)).take (gB (r.drop (eU false r))):=by
   unfold Kd iI;rw[af,T9,af];congr 1;omega
  have hd:s.drop (iI s cO)=(r.drop (eU false r)).drop (gB (r.drop (eU false r))):=by
   unfold iI;rw[af,<-sR,af]
  obtain⟨fU,bA,b9,eD,agR⟩:=ih (iI s cO) H2 (out++[Kd s cO]) aF hd (Ng fT) Kj (by simp at e4⊢; omega) b1 cL (by omega) ((jI 0 (by decide)).trans l7) ((jI 1 (by decide)).trans bF) ((jI 2 (by decide)).trans iB) gz;refine⟨fU,by rw[py,q1];exact bA,?_,eD,agR⟩;rw[aND]at b9;simpa using b9
theorem aNE (l:List (List UInt8)):bW (l.map V.str)=true:=by induction l<;>simp_all [bW,bs]
def UO (ws:List (List UInt8)):V:=if ws=[]then .cp else .list 1 (ws.map .str)
set_option maxHeartbeats 1000000 in
theorem aNF (T:lN aa)(UP:aa 23=some (.code TU)){s:List UInt8}{ws:List (List UInt8)}(hl:s.length<=4096)(hx:Lex s ws)(e4:ws.length<=5000)(H:Heap):aM aa (.fn 23 [] []) [.str s] H (UO ws):=by
 unfold aM;have af:¬(4096:Int)<(s.length:Int):=by omega
 have ht:=Zx T s (H++[.cells [.str s],.cells [.cp]]);simp only[gM,ev,ja,eO,mS,jz,jB,pr,Nat.reduceAdd]at ht;obtain⟨H0,B1⟩:∃H0,H++[cc.cells [.str s],.cells [.cp],.cells [.str s],.map sC,.cells [.map (H.length+3)],xy s H.length]=H0:=⟨_,rfl⟩;have pJ:H0.length=H.length+6:=by rw[<-B1];simp
 have aNG:Kb H.length s H0 []:=⟨by omega,by rw[<-B1,pj];rfl,by rw[<-B1,jT];rfl,by rw[<-B1,jT];rfl,by rw[<-B1,jT];rfl,by rw[<-B1,jT];rfl,.cp,by rw[<-B1,jT];rfl,.inl ⟨rfl,rfl⟩⟩;obtain⟨aF,bA,b9,eD,agR⟩:=aNA T (n:=H.length) hl hx 0 H0 [] {aG:=[],av:=[(0,.yield (H.length+5)),(1,.ptr (H.length+2) 0),(2,.ptr (H.length+4) 0),(4,.int .i64 0)],H:=H0,low:=H0.length} (by simp) (cx _) aNG (by simpa using e4) rfl (by rw[pJ];simp) (aK _) rfl rfl rfl rfl;rw[jB]at b9
 have T5:bZ aa (.fn 136 [] [.ptr (H.length+2) 0,.ptr (H.length+4) 0]) [.yield (H.length+5)] H0=some (.aU [],aF.H,aF.low):=by
  rw[mE,T.afF];have Wc:¬H0.length<=aF.low:=by omega
  simp[Ul,fZ,fQ,gn,h6,iO,jC,jD,lf,jY,cQ,e3,ly,kG,jq,k2,k3,lA,me,lz,jK,mc,nH,ag.ae,bk,ec,aq.put,dB,kS,kR,dX,eP,bs,bW,fy,hE,finish,old,ez,flat,iT,mA,gN,fY,aE,bA,Wc]
 rw[<-B1]at T5;obtain⟨v,g1,g2⟩:=b9.out;have FD:=b9.FD;have hlen:=b9.len;have dq:(aF.H.set (H.length+5) .gone)[H.length+1]? =some (.cells [v]):=by rw[gm (by omega)];exact g1
 have BX:min H.length aF.low=H.length:=lP eD;have agS:min H.length aF.H.length=H.length:=lP (by omega);simp only[xy,tX]at T5 FD;rw[mE,UP];unfold UO;rcases g2 with⟨rfl,rfl⟩|⟨bf,q,q1,aS,rfl,b1⟩
 ·simp[TU,fZ,fQ,gn,h6,iO,jC,jD,lf,jY,cQ,e3,ly,kG,jq,k2,k3,lA,me,lz,jK,mc,nH,ag.ae,bk,ec,aq.put,dB,kS,kR,dX,eP,bs,bW,fy,hE,finish,old,ez,flat,iT,mA,gN,fY,aE,bS,ed,jL,hD,setCells,jT,pj,tQ,rl,af,qm,ht,F4,xN,wm,T5,FD,dq,BX,agS]
 ·have fb:(aF.H.set (H.length+5) .gone)[q]? =some (.row 1 (ws.map .str) false):=by rw[gm (by omega)];exact b1
  have P3:=aNE ws;have zB:List.take ws.length (ws.map V.str)=ws.map V.str:=B5 (by simp);have aNH:min H.length q=H.length:=lP (by omega);have aNI:min H.length (min aF.H.length q)=H.length:=lP (by omega);simp[TU,fZ,fQ,gn,h6,iO,jC,jD,lf,jY,cQ,e3,ly,kG,jq,k2,k3,lA,me,lz,jK,mc,nH,ag.ae,bk,ec,aq.put,dB,kS,kR,dX,eP,bs,bW,fy,hE,finish,old,ez,flat,iT,mA,gN,fY,aE,bS,ed,jL,hD,setCells,jT,pj,tQ,rl,af,qm,ht,F4,xN,wm,T5,FD,dq,fb,P3,zB,bf,BX,aNH,agS,aNI]
end
end Go.Abs.mN
namespace Go.Abs.mN
open Go Go.Abs Go.Abs.Lex
theorem agT:∀{k:Nat} {r:bH} {ws:List bH},sG k r=some ws->Lex r ws/\ws.length<=k
 |0,r,ws,h=>by cases h
 |k+1,r,ws,h=>by
  simp only[sG]at h;split at h
  ·rename_i h0
   cases h;exact⟨.done r h0,by simp⟩
  ·rename_i h0
   cases e:sG k ((r.drop (Lex.eU false r)).drop (Lex.gB (r.drop (Lex.eU false r))))with
   |none=>rw[e]at h;cases h
   |some us=>
    rw[e]at h;cases h;obtain⟨h1,h2⟩:=agT e;exact⟨.more r us h0 h1,by simp only[ev];omega⟩
theorem aNJ{s:bH}{x:ak bH}(h:zL s=some x):∃ws,s.length<=4096/\Lex s ws/\ws.length<=128/\x=if ws=[]then .nil else .mk ws:=by
 unfold zL at h;split at h
 ·rename_i hl
  cases e:sG 128 s with
  |none=>rw[e]at h;cases h
  |some ws=>
   rw[e]at h;cases h;obtain⟨h1,h2⟩:=agT e;exact⟨ws,hl,h1,h2,rfl⟩
 ·cases h
end Go.Abs.mN
namespace Go.Abs.mN
open Go Go.Abs Go.Abs.Lex
variable{aa:Nat->Option bY}
theorem aNK (T:lN aa)(UP:aa 23=some (.code TU))(H0:Heap)(s:bH)(r:ak bH)(h:zL s=some r):bZ aa (.fn 23 [] []) [.str s] H0=some (bg 1 V.str r,H0,H0.length):=by
 obtain⟨ws,hl,hx,hc,rfl⟩:=aNJ h;have h1:=aNF T UP hl hx (by omega) H0;unfold aM UO at h1;rw[h1];split<;>rfl
end Go.Abs.mN
namespace Go.Abs.mN
open Go Go.Abs
theorem aNL{n:Int}{r:bH}(h:strconv_Itoa n=some r):Cr [.int .i64 n]=some (.str r):=by
 unfold strconv_Itoa at h;split at h
 ·cases h
  rename_i hn;show(if 0<=n/\n<10 then _ else if -100000<n/\n<100000 then _ else _)=_;by_cases h1:0<=n/\n<10
  ·obtain⟨k,rfl⟩:=Kg h1.1
   have hk:k<10:=by omega
   unfold Lib.itoa;rw[if_pos h1,if_neg (by omega),FL,Lib.decDigits_one hk]
  ·rw[if_neg h1,if_pos hn]
 ·cases h
theorem agU:∀l:List (List UInt8),strs (l.map V.str)=some l
 |[]=>rfl
 |a::l=>by show(strs (l.map V.str)).map (a:: ·)=_;rw[agU l];rfl
theorem aNM{x:ak bH}{sep r:bH}(h:strings_Join x sep=some r):Cq [bg 1 V.str x,.str sep]=some (.str r):=by
 cases x with
 |nil=>cases h;rfl
 |emp=>cases h
 |mk l=>
  unfold strings_Join at h;simp only at h;split at h
  ·cases h
   rename_i hc;show(match strs (l.map V.str)with|some m=>_|none=>_)=_;rw[agU l];exact if_pos ⟨rfl,hc⟩
  ·cases h
theorem aNN (x:ak bH)(sep:bH):bW [bg 1 V.str x,.str sep]=true:=by
 cases x with
 |nil=>rfl
 |emp=>rfl
 |mk l=>rfl
end Go.Abs.mN
namespace Go.Abs.mN
open Go Go.Abs Go.Abs.S
def MJ:h3:=⟨18,q (R [o 2 (m (cs []))]) (q (R [r 4 (m v0),r 5 (.bin .rem t4 (c 10)),r 6 (dc (c 48) t5),r 7 (.conv .u8 t6),r 8 (.lit 1 [.int .u8 0] 1 [(0,t7)] true),r 9 (.uf t8),o 3 (m t9)]) (q (q (R [r 10 (m v0),o 11 (ge t10 (c 10))]) (gg v11 (R [r 12 (m v0),r 13 (.bin .quo t12 (c 10)),r 14 (fA (fn 163) [t13]),r 15 (m v3),r 16 (dc t14 t15),o 3 (m t16)]) k)) (q (R [r 17 (m v3),o 2 (m t17)]) rt))),[.tmp 2],false⟩
end Go.Abs.mN
namespace Go.Abs.mN
open Go Go.Abs Go.Abs.Lex
variable{aa:Nat->Option bY}
attribute [local simp] fZ fQ gn h6 iO jC jD lf jY cQ e3 ly kG jq k2 k3 lA me lz jK mc nH ag.ae bk ec aq.put dB kS kR dX eP dF bs bW fy hE finish old ez flat iT mA gN fY aE S.R S.q S.k S.rt S.gg S.b0 S.e S.r S.o S.n S.rg S.m S.bF S.ls S.c9 S.eq S.ne S.lt S.gt S.ge S.dc S.no S.hI S.st S.fA S.gq S.iG S.ex S.c S.cs S.h7 S.gI S.z S.fn S.ij
section
variable{call:cU}{ae:ag->V}{H:Heap}{low:Nat}
theorem aNO (x:ag):b2 call ae H low (.conv .u8 x)=match ae x with
  | .int _ n=>some (.int .u8 (IntKind.u8.wrap n),H,low)
  | _=>none:=by
 show step ae H low (.conv .u8 x)=_;cases hx:ae x<;>simp[step,hx]
def aNP (call:cU)(ae:ag->V)(H:Heap)(low:Nat)(x:ag):=b2 call ae H low (.lit 1 [.int .u8 0] 1 [(0,x)] true)
def aNQ (call:cU)(ae:ag->V)(H:Heap)(low:Nat)(x:ag):=b2 call ae H low (.uf x)
theorem aNR (x:ag):b2 call ae H low (.lit 1 [.int .u8 0] 1 [(0,x)] true)=match ae x with
  | .int .u8 n=>some (.list 1 [.int .u8 n],H,low)
  |v=>aNP call ae H low x:=by
 split
 ·next n hx=>rw[Dv];simp[step,hx,kT,oK,bS,setCells]
 ·rfl
theorem aNS (x:ag):b2 call ae H low (.uf x)=match ae x with
  | .list 1 [.int .u8 n]=>some (.str [UInt8.ofNat n.toNat],H,low)
  |v=>aNQ call ae H low x:=by
 split
 ·next n hx=>show step ae H low (.uf x)=_;simp[step,hx,elems,bytesOf]
 ·rfl
end
theorem agV (k:Nat):UInt8.ofNat (IntKind.u8.wrap (IntKind.i64.wrap (48+(k:Int).tmod 10))).toNat=UInt8.ofNat (48+k%10):=by
 have h1:(k:Int).tmod 10=((k%10:Nat):Int):=by rw[agY (by omega)];omega
 have h2:k%10<10:=Nat.mod_lt _ (by decide);rw[h1];generalize k%10=d at h2;have:d=0\/d=1\/d=2\/d=3\/d=4\/d=5\/d=6\/d=7\/d=8\/d=9:=by omega
 rcases this with rfl|rfl|rfl|rfl|rfl|rfl|rfl|rfl|rfl|rfl<;>rfl
theorem aNT (u:Nat):(Lib.decDigits u).length<=u+1:=by
 induction u using Nat.strongRecOn with
 |ind u ih=>
  rw[Lib.decDigits];split
  ·simp
  ·have:=ih (u/10) (by omega)
   simp only[gM,List.length_singleton];omega
attribute [local simp] aNO aNR aNS
theorem aNU (MK:aa 163=some (.code MJ))(k:Nat)(hk:k<100000)(H:Heap)(adA:10<=k->bZ aa (.fn 163 [] []) [.int .i64 (k/10:Nat)] H=some (.str (Lib.decDigits (k/10)),H,H.length)):
  bZ aa (.fn 163 [] []) [.int .i64 k] H=some (.str (Lib.decDigits k),H,H.length):=by
 rw[mE,MK];by_cases agW:10<=k
 ·have hr:=adA agW
  have hw:IntKind.i64.wrap ((k:Int)/10)=((k/10:Nat):Int):=by rw[wrap_small (by omega) (by omega)];omega
  rw[<-hw]at hr;have hl:=aNT (k/10);have nu:(Lib.decDigits (k/10)).length+1<=1099511627776:=by omega
  have e:Lib.decDigits k=Lib.decDigits (k/10)++[UInt8.ofNat (48+k%10)]:=by
   rw[Lib.decDigits];rw[dif_neg (by omega)]
  have UQ:(10:Int)<=k:=by omega
  simp[MJ,hr,e,agV,UQ,nu]
 ·have e:Lib.decDigits k=[UInt8.ofNat (48+k%10)]:=by
   rw[Lib.decDigits_one (by omega),Nat.mod_eq_of_lt (by omega)]
  have UQ:¬(10:Int)<=k:=by omega
  simp[MJ,e,agV,UQ]
theorem aNV (MK:aa 163=some (.code MJ)):∀k:Nat,k<100000->∀H:Heap,bZ aa (.fn 163 [] []) [.int .i64 k] H=some (.str (Lib.decDigits k),H,H.length):=by
 intro k
 induction k using Nat.strongRecOn with
 |ind k ih=>exact fun hk H=>aNU MK k hk H fun agW=>ih (k/10) (by omega) (by omega) H
theorem aNW (MK:aa 163=some (.code MJ))(H:Heap)(n:Int)(r:bH)(h:vY n=some r):bZ aa (.fn 163 [] []) [.int .i64 n] H=some (.str r,H,H.length):=by
 unfold vY at h;split at h
 ·next hn=>
  cases h;obtain⟨k,rfl⟩:=Kg hn.1;have:Lib.itoa (k:Int)=Lib.decDigits k:=by unfold Lib.itoa;rw[if_neg (by omega)];simp
  rw[this];exact aNV MK k (by omega) H
 ·cases h
end Go.Abs.mN
