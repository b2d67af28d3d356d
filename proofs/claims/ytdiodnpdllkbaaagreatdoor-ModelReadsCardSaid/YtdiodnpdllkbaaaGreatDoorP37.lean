/- Texts of this claim, joined and written short by a program. -/
import Derived.Test.YtdiodnpdllkbaaaGreatDoorP22
import Derived.Test.YtdiodnpdllkbaaaGreatDoorP36
import Derived.Test.YtdiodnpdllkbaaaGreatDoorP14
import Derived.Test.YtdiodnpdllkbaaaGreatDoorP34
import Derived.Test.YtdiodnpdllkbaaaGreatDoorP35
import Derived.Test.YtdiodnpdllkbaaaGreatDoorP01
import Derived.Test.YtdiodnpdllkbaaaGreatDoorP21
import Derived.Test.YtdiodnpdllkbaaaGreatDoorP00
set_option linter.unusedVariables false
set_option linter.unusedSimpArgs false
set_option linter.unusedSectionVars false
set_option maxHeartbeats 2000000
namespace Go.Abs.bw
open Go Go.Abs
def aaC (aa:Nat->Option bY):Prop:=∀(H0:Heap) (ah:bH) (r:Int),pU ah=some r->bZ aa (.fn 28 [] []) [.str ah] H0=some (aD r,H0,H0.length)
def aaD (aa:Nat->Option bY):Prop:=∀(H0:Heap) (ah:bH) (r:Int × Bool),A6 ah=some r->bZ aa (.fn 72 [] []) [.str ah] H0=some (.aU [aD r.1,.bool r.2],H0,H0.length)
def aqz (aa:Nat->Option bY):Prop:=∀(H0:Heap) (ah:(ak bH)) (r:(ak Int) × Bool × Bool),Bn ah=some r->bZ aa (.fn 29 [] []) [bg 1 V.str ah] H0=some (.aU [bg 1 aD r.1,.bool r.2.1,.bool r.2.2],H0,H0.length)
theorem aqA{aa:Nat->Option bY}(cZ:aa 29=some (.code aqw))(aqB:aaC aa)(aqC:aaD aa):
  aqz aa:=by
 intro H0 ah r h
 refine MZ (caps:=[]) cZ (km rfl) rfl ?_ (by simp[bs,bW])
 unfold Bn at h
 refine iW <| pp .cp <| pp (.bool false) <| pp (.bool false) <| dV <| iW <| pp .cp <| dV <| iW <| pp (.bool true) <| dV <| kc <| yF <| ?_
 obtain⟨vv,O8,h⟩:=bind_some h
 refine fe (sk) (fun s aN H'=>∃(MK:V) (aaE:List (Nat × cc)),At aN [0,5,6] [bg 1 V.str s.1,MK,.bool s.2.1]/\hf H0.length 1 aD MK s.2.2 aaE/\Own H' (aaE::[])) (fun o=>fun eI aN H'=>match(generalizing:=false) o with| .go s=>∃(v87:V) (aaF:List (Nat × cc)),eI=(.exit 0)/\At aN [5,6] [v87,.bool s.1]/\hf H0.length 1 aD v87 s.2 aaF/\Own H' (aaF::[])| .ret s=>eI=.ret/\At aN [2,3,4] [.cp,.bool false,.bool false]/\Own H' []) O8 ⟨.cp,[],rfl,(.nil),((Own.nil H0).ins 0)⟩ ?_ ?_
 ·rintro⟨i12,i13,i14⟩ c1 aup r aW ic
  dsimp only[sk]at ic
  try dsimp only at aW
  obtain⟨r8,m16,aqD,Qj,FB⟩:=aW
  refine dv aqD <| kc <| iW <| pp (bg 1 V.str i12) <| ph (aD i12.len) (qZ rfl _) <| pp (.bool (decide (i12.len>0))) <| dV <| ?_
  rcases lD ic with⟨Qk,ic⟩|⟨Qk,ic⟩
  ·refine qW rfl Qk <| qV <| yF <| kc <| ?_
   obtain⟨Bl,qp,ic⟩:=bind_some ic
   refine wU (fun eI aN H'=>match(generalizing:=false) Bl with| .go s=>eI=.normal/\At aN [0,5,6] [bg 1 V.str s,r8,.bool i13]/\Own H' (m16::[])| .ret s=>eI=.ret/\At aN [2,3,4] [.cp,.bool false,.bool false]/\Own H' []) ?_ ?_
   ·refine iW <| pp r8 <| ph (aD i14.len) (V5 (f:=aD) FB 0 rfl Qj rfl) <| pp (.bool (decide (i14.len>0))) <| dV <| ?_
    rcases lD qp with⟨Ql,qp⟩|⟨Ql,qp⟩
    ·refine qW rfl Ql <| kc <| iW <| pp (bg 1 V.str i12) <| ?_
     obtain⟨vw,aqE,qp⟩:=bind_some qp
     refine ph (.dn (aE (V.str vw)) 0) (sc rfl rfl aqE _) <| pp (.str vw) <| pp (.bool (vw != [44])) <| dV <| ?_
     rcases lD qp with⟨Qm,qp⟩|⟨Qm,qp⟩
     ·refine qW rfl Qm <| iW <| pp .cp <| pp (.bool false) <| pp (.bool false) <| dV <| ti <| ?_
      cases qp
      exact⟨rfl,rfl,(FB.drop 0)⟩
     ·refine qX rfl Qm <| qV <| o6 <| pp (bg 1 V.str i12) <| ?_
      obtain⟨Ir,aqF,qp⟩:=bind_some qp
      refine ph (bg 1 V.str Ir) (yM aqF (.inr ⟨_,rfl,rfl⟩) (.inl ⟨rfl,rfl⟩) rfl) <| pp (bg 1 V.str Ir) <| dV <| ?_
      cases qp
      exact⟨rfl,rfl,FB⟩
    ·refine qX rfl Ql <| qV <| ?_
     cases qp
     exact⟨rfl,rfl,FB⟩
   ·intro cb c1 auq gr
    cases Bl with
    |go pZ=>
     try dsimp only at ic gr
     obtain⟨rfl,aqG,aaG⟩:=gr
     refine dv aqG <| iW <| pp (aD 1) <| dV <| kc <| ?_
     obtain⟨It,tW,ic⟩:=bind_some ic
     refine wU (fun eI aN H'=>(fun s=>eI=.normal/\At aN [0,5,6,7] [bg 1 V.str s.1,r8,.bool i13,aD s.2]/\Own H' (m16::[])) It) ?_ ?_
     ·refine kc <| ?_
      obtain⟨NJ,zM,tW⟩:=bind_some tW
      refine wU (fun eI aN H'=>(fun s=>eI=.normal/\At aN [0,5,6,7,30] [bg 1 V.str pZ,r8,.bool i13,aD 1,.bool s]/\Own H' (m16::[])) NJ) ?_ ?_
      ·refine o6 <| pp (bg 1 V.str pZ) <| ph (aD pZ.len) (qZ rfl _) <| pp (.bool (decide (pZ.len>0))) <| pp (.bool (decide (pZ.len>0))) <| ?_
       rcases lD zM with⟨sG,zM⟩|⟨sG,zM⟩
       ·refine h9 (bg 1 V.str pZ) sG <| ?_
        obtain⟨Bm,aqH,zM⟩:=bind_some zM
        refine ha (v:=(.dn (aE (V.str Bm)) 0)) (hJ rfl sG) (sc rfl rfl aqH _) <| h9 (.str Bm) sG <| h9 (.bool (Bm==[45])) sG <| ph (.bool (Bm==[45])) (nK rfl sG) <| dV <| ?_
        cases zM
        exact⟨rfl,rfl,aaG⟩
       ·refine mi sG <| mi sG <| mi sG <| mi sG <| ph (.bool false) (vh rfl sG) <| dV <| ?_
        cases zM
        exact⟨rfl,rfl,aaG⟩
      ·intro cb c1 aur gr
       try dsimp only at tW gr
       obtain⟨rfl,aqI,aaH⟩:=gr
       refine dv aqI <| ?_
       rcases lD tW with⟨Qn,tW⟩|⟨Qn,tW⟩
       ·refine qW rfl Qn <| MN <| pp (bg 1 V.str pZ) <| ?_
        obtain⟨Is,aqJ,tW⟩:=bind_some tW
        refine ph (bg 1 V.str Is) (yM aqJ (.inr ⟨_,rfl,rfl⟩) (.inl ⟨rfl,rfl⟩) rfl) <| pp (aD (-1)) <| pp (bg 1 V.str Is) <| dV ⟨rfl,?_⟩
        cases tW
        exact⟨rfl,rfl,aaH⟩
       ·refine qX rfl Qn <| qV <| ?_
        cases tW
        exact⟨rfl,rfl,aaH⟩
     ·intro cb c1 aus gr
      obtain⟨ov,w7⟩:=It
      try dsimp only at ic gr
      obtain⟨rfl,aqK,aaI⟩:=gr
      refine dv aqK <| kc <| kc <| ?_
      obtain⟨NK,vY,ic⟩:=bind_some ic
      refine wU (fun eI aN H'=>(fun s=>eI=.normal/\At aN [0,5,6,7,42] [bg 1 V.str ov,r8,.bool i13,aD w7,.bool s]/\Own H' (m16::[])) NK) ?_ ?_
      ·refine o6 <| pp (bg 1 V.str ov) <| ph (aD ov.len) (qZ rfl _) <| pp (.bool (ov.len==0)) <| pp (.bool (ov.len==0)) <| ?_
       rcases lD vY with⟨fH,vY⟩|⟨fH,vY⟩
       ·refine ca fH <| ca fH <| ca fH <| ca fH <| ca fH <| ph (.bool true) (nK rfl fH) <| dV <| ?_
        cases vY
        exact⟨rfl,rfl,aaI⟩
       ·refine h9 (bg 1 V.str ov) fH <| ?_
        obtain⟨nf,Pj,vY⟩:=bind_some vY
        refine ha (v:=(.dn (aE (V.str nf)) 0)) (hJ rfl fH) (sc rfl rfl Pj _) <| h9 (.str nf) fH <| ?_
        obtain⟨pe,Pk,vY⟩:=bind_some vY
        refine ha (v:=(aD pe)) (hJ rfl fH) (wV (aqB _ _ _ Pk) (tj (by simp[bW,bs])) rfl rfl) <| h9 (.bool (pe != 3)) fH <| ph (.bool (pe != 3)) (vh rfl fH) <| dV <| ?_
        cases vY
        exact⟨rfl,rfl,aaI⟩
      ·intro cb c1 alF gr
       try dsimp only at ic gr
       obtain⟨rfl,Pl,BL⟩:=gr
       refine dv Pl <| ?_
       rcases lD ic with⟨vP,ic⟩|⟨vP,ic⟩
       ·refine qW rfl vP <| iW <| pp .cp <| pp (.bool false) <| pp (.bool false) <| dV <| ti <| ?_
        cases ic
        exact⟨nofun,⟨rfl,rfl,(BL.drop 0)⟩⟩
       ·refine qX rfl vP <| qV <| iW <| pp (bg 1 V.str ov) <| ?_
        obtain⟨w5,aqL,ic⟩:=bind_some ic
        refine ph (.dn (aE (V.str w5)) 0) (sc rfl rfl aqL _) <| pp (.str w5) <| ?_
        obtain⟨lJ,aqM,ic⟩:=bind_some ic
        refine ph (.aU [aD lJ.1,.bool lJ.2]) (wV (aqC _ _ _ aqM) (tj (by simp[bW,bs])) rfl rfl) <| pp (.aU [aD lJ.1,.bool lJ.2]) <| pp (aD lJ.1) <| pp (.bool lJ.2) <| pp (aD lJ.1) <| pp (.bool lJ.2) <| dV <| kc <| ?_
        refine wU (fun eI aN H'=>eI=.normal/\At aN [0,5,6,7,8] [bg 1 V.str ov,r8,.bool (i13&&lJ.2),aD w7,aD lJ.1]/\Own H' (m16::[])) ?_ ?_
        ·refine o6 <| pp (.bool i13) <| pp (.bool i13) <| ?_
         rcases Bool.eq_false_or_eq_true i13 with zN|zN
         ·exact h9 (.bool lJ.2) zN <| ph (.bool lJ.2) (nK rfl zN) <| pp (.bool lJ.2) <| dV <| ⟨rfl,(by simp only[vP,zN,fI,FT,Bool.true_or,qv,cond_true,cond_false,hZ,ue];rfl),BL⟩
         ·exact mi zN <| ph (.bool false) (vh rfl zN) <| pp (.bool false) <| dV <| ⟨rfl,(by simp only[vP,zN,fI,FT,Bool.true_or,qv,cond_true,cond_false,hZ,ue];rfl),BL⟩
        ·intro cb c1 aut gr
         obtain⟨rfl,aqN,aqO⟩:=gr
         obtain⟨WA,aqP,ic⟩:=bind_some ic
         obtain⟨Iu,aqQ,ic⟩:=bind_some ic
         cases ic
         refine dv aqN <| aqy (f:=aD) (A:=[_,_,_,_,_]) (M:=[_,_]) (R:=[_,_]) rfl (fC.pp r8 <| fC.pp (aD w7) <| fC.pp (aD lJ.1) <| fC.pp (aD (bJ (w7*lJ.1))) <| fC.ph (bg 1 aD (ak.mk [(bJ (w7*lJ.1))])) (fun _ _=>VX (vs:=[aD (bJ (w7*lJ.1))]) rfl rfl rfl (eq_false (by decide)) (by simp[bW,bs]) (by simp[bS,aE])) <| .nil) 0 aqP aqO rfl Qj rfl rfl (by simp) (by simp[bS]) fun alG MJ aqR aqS aqT aqU=> ?_
         refine⟨_,_,fC.pp (bg 1 V.str ov) <| fC.ph (bg 1 V.str Iu) (fun _ _=>yM aqQ (.inr ⟨_,rfl,rfl⟩) (.inl ⟨rfl,rfl⟩) rfl) <| .nil,pp MJ <| pp (bg 1 V.str Iu) <| dV ⟨(by cases aqS<;>rfl),?_⟩⟩
         exact⟨rfl,⟨MJ,aqR,rfl,aqT,aqU⟩⟩
    |ret J9=>
     try dsimp only at ic gr
     obtain⟨rfl,aqV,aqW⟩:=gr
     rw[<-wY aqV]
     cases ic
     exact⟨nofun,⟨rfl,rfl,aqW⟩⟩
  ·refine qX rfl Qk <| Dz <| ?_
   cases ic
   exact⟨nofun,⟨r8,m16,rfl,rfl,Qj,FB⟩⟩
 ·intro cb c1 alQ gr
  cases vv with
  |go aqX=>
   obtain⟨Eh,WB⟩:=aqX
   try dsimp only at h gr
   obtain⟨Hf,auu,rfl,aqY,aqZ,aq0⟩:=gr
   rw[<-wY aqY]
   refine iW <| pp Hf <| pp (.bool Eh) <| pp Hf <| pp (.bool Eh) <| pp (.bool true) <| dV <| ti <| ?_
   cases h
   exact⟨.inr rfl,MY (u:=.aU [Hf,.bool Eh,.bool true]) (.tmp rfl (.tmp rfl (.tmp rfl .nil))) rfl aq0 (.ahC (.cons (.row (f:=aD) 0 rfl aqZ (by simp)) (.cons (.plain (by simp[bs,bW])) (.cons (.plain (by simp[bs,bW])) .nil))))⟩
  |ret auv=>
   try dsimp only at h gr
   obtain⟨rfl,aq1,auw⟩:=gr
   rw[<-wY aq1]
   cases h
   exact⟨.inr rfl,MX (.tmp rfl (.tmp rfl (.tmp rfl .nil))) rfl (by simp[bs,bW])⟩
end Go.Abs.bw
namespace Go.Abs.bw
open Go Go.Abs Go.Abs.S
def Ka:h3:=⟨22,q (R [o 2 (m (c 0)),o 3 (m gI)]) (q (q (R [r 6 (m v0),r 7 (gq 0 t6),r 8 (gt t7 (c 4)),r 9 (m t8),rg 10 t9 false (m v0),rg 11 t9 false (fA (fn 28) [t10]),rg 12 t9 false (ne t11 (c 3)),o 13 (hI t9 h7 t12)]) (gg He (q (R [o 2 (m (c 0)),o 3 (m gI)]) rt) k)) (q (R [r 15 (m v0),r 16 (fA (fn 136) [t15]),r 14 (m t16),r 17 (ex t14 0),r 18 (ex t14 1),o 4 (m t17),o 5 (m t18)]) (q (lB [r 19 (m v4),r 20 (m v5),r 21 (.pt 3 false t20 (.const (.ig))),o 2 (m t19),o 3 (m t21)] [0,0,2,1,15]) rt))),[.tmp 2,.tmp 3],false⟩
end Go.Abs.bw
namespace Go.Abs.bw
open Go Go.Abs Go.Abs.Lex
variable{aa:Nat->Option bY}
attribute [local simp] fZ fQ gn h6 iO jC jD lf jY cQ e3 ly kG jq k2 k3 lA me lz jK mc nH ag.ae bk ec aq.put dB kS kR dX eP dF bs bW fy hE finish old ez flat iT mA gN fY aE S.R S.q S.k S.rt S.gg S.b0 S.e S.r S.o S.n S.rg S.m S.bF S.ls S.c9 S.eq S.ne S.lt S.gt S.dc S.no S.hI S.st S.fA S.gq S.iG S.ex S.c S.cs S.h7 S.gI S.z S.fn S.ij
section
variable{call:cU}{ae:ag->V}{H:Heap}{low:Nat}
theorem aq2 (x:ag):b2 call ae H low (.len 0 x)=match ae x with
  | .str s=>some (.int .i64 s.length,H,low)
  | _=>none:=by
 show step ae H low (.len 0 x)=_
 cases hx:ae x<;>simp[step,hx]
end
attribute [local simp] aq2
theorem aq3 (aq4:aa 72=some (.code Ka))(hk:aaC aa){sp:List V->Option V}(hA:aa 136=some (.ext sp))(lu:∀s:bH,s.length<=18->sp [.str s]=(Lib.atoi s).map fun n=>.aU [.int .i64 n,.ig]):aaD aa:=by
 intro H0 w r hr
 have qn:=hk H0 w _ rfl
 unfold A6 at hr
 rw[mE,aq4]
 by_cases aQ:w.length<=4
 ·have cF:¬(4:Int)<(w.length:Int):=by omega
  by_cases ar:kindOf w=3
  ·rw[if_pos ⟨aQ,ar⟩]at hr
   rw[ar]at qn
   cases ao:Lib.atoi w with
   |none=>rw[ao]at hr;cases hr
   |some n=>
    rw[ao]at hr
    cases hr
    have W1:bZ aa (.fn 136 [] []) [.str w] H0=some (.aU [.int .i64 n,.ig],H0,H0.length):=by
     rw[mE,hA]
     simp[lu w (by omega),ao,bW,bs]
    simp[Ka,cF,qn,W1,aD,oJ,S.lB,nX,rD]
  ·rw[if_neg (by simp[ar])]at hr
   cases hr
   have bT:(((kindOf w:Nat):Int) != 3)=true:=by rw[bne_iff_ne];omega
   simp[Ka,cF,qn,aD,bT]
 ·rw[if_neg (by simp[aQ])]at hr
  cases hr
  have cF:(4:Int)<(w.length:Int):=by omega
  simp[Ka,cF,aD]
end Go.Abs.bw
namespace Go.Abs.bw
open Go Go.Abs Go.Abs.S
def zO:cj:=R [o 4 (.alloc [z,z,z,z]),n (st 4 v4 v10)]
def rq:cj:=b0 1 (q (R [r 11 (c9 0 v4),r 12 (bF t11),o 13 (ne t12 (c 0))]) (gg He (lB [r 14 (bF v3),r 15 (bF v1),r 16 (c9 2 v4),r 17 (bF t16),r 18 (c9 3 v4),r 19 (bF t18),r 20 (.oI t15 (some t17) (some t19)),r 21 (.lit 1 [kV] 1 [(0,t20)] true),r 22 (ap 1 16 t14 t21),n (st 1 v3 t22)] [0,0,0,4,0,16,62,126,255,511]) k))
def Kb:h3:=⟨24,q (R [o 1 (ij v0),o 2 (m nc)]) (q (q (R [r 5 (bF v1),r 6 (gq 0 t5),o 7 (gt t6 (c 4096))]) (gg ka (q (R [o 2 (m nc)]) rt) k)) (q (R [o 3 (.alloc [nl])]) (q (q (R [r 8 (bF v1),o 9 (fA (fn 38) [t8])]) (b0 0 (.rangeFunc v9 [10] zO rq))) (q (R [r 23 (bF v3),o 2 (m t23)]) rt)))),[.tmp 2],false⟩
end Go.Abs.bw
namespace Go.Abs.bw
open Go Go.Abs Go.Abs.Lex
noncomputable section
variable{aa:Nat->Option bY}
attribute [local simp] dF S.R S.lB S.q S.k S.rt S.gg S.b0 S.e S.r S.o S.n S.rg S.m S.bF S.ls S.c9 S.eq S.ne S.lt S.gt S.dc S.no S.hI S.st S.fA S.gq S.iG S.ex S.c S.cs S.h7 S.gI S.z S.kV S.nl S.nc S.fn S.ij S.ap
def sH (s:List UInt8)(n:Nat):Env:=[(0,.str s),(1,.ptr n 0),(2,.cp),(7,.bool false),(3,.ptr (n+1) 0),(9,.fn 76 [] [.ptr (n+2) 0,.ptr (n+4) 0])]
def vZ (s:List UInt8)(n:Nat):cc:=.loop .ready .normal (sH s n) [10] zO rq
def xB (n:Nat)(H:Heap)(v:V)(out:List (List UInt8)):Prop:=(out=[]/\v=.cp)\/(out≠[]/\∃q,n+6<=q/\q<H.length/\v=.cz q 1 0 out.length out.length/\H[q]? =some (.row 1 (out.map .str) false))
structure FC (n:Nat) (s:List UInt8) (H:Heap) (out:List (List UInt8)):Prop where
 len:n+6<=H.length
 g0:H[n]? =some (.cells [.str s])
 gt:H[n+2]? =some (.cells [.str s])
 xv:H[n+3]? =some (.map sC)
 Qo:H[n+4]? =some (.cells [.map (n+3)])
 B2:H[n+5]? =some (vZ s n)
 out:∃v,H[n+1]? =some (.cells [v])/\xB n H v out
def aaJ (m:Nat)(H H':Heap):Prop:=∀j o,j≠m->H[j]? =some o->(∀es ds dt,o≠ .row es ds dt)->H'[j]? =some o
set_option maxHeartbeats 2000000 in
theorem aq5{n p lo K F A E:Nat}{s:List UInt8}{Hb:Heap}{v:V}{out:List (List UInt8)}(tX:Hb[n]? =some (.cells [.str s]))(dm:Hb[n+1]? =some (.cells [v]))(FD:Hb[p]? =some (.cells [.int .i64 K,.int .i64 F,.int .i64 A,.int .i64 E]))(hp:n+5<p)
  (ho:xB n Hb v out) (aaK:A<=E) (du:E<=s.length) (e4:out.length<=5000) (kC:K≠0)
  {st:aq} (h1:st.H=Hb) (h2:st.low=lo) (ik:lo<=Hb.length) (hn:n<=lo) (bF:bk st.av 1=.ptr n 0) (vm:bk st.av 3=.ptr (n+1) 0) (pb:bk st.av 4=.ptr p 0):
  ∃aF v',dx aa rq st=some (.normal,aF)/\n<=aF.low/\aF.low<=lo/\Hb.length<=aF.H.length/\aF.H[n+1]? =some (.cells [v'])/\xB n aF.H v' (out++[(s.take E).drop A])/\aaJ (n+1) Hb aF.H:=by
 have aX {k:Nat} {o:cc} (h:Hb[k]? =some o):k<Hb.length:=by
  rcases fX k Hb.length with h1|h1
  ·exact h1
  ·rw[lb h1]at h;cases h
 have aaL:∀h:n<Hb.length,Hb[n]'h=.cells [.str s]:=fun h=>by rw[hX h]at tX;exact rA tX
 have aaM:∀h:n+1<Hb.length,Hb[n+1]'h=.cells [v]:=fun h=>by rw[hX h]at dm;exact rA dm
 have aaN:∀h:p<Hb.length,Hb[p]'h=.cells [.int .i64 K,.int .i64 F,.int .i64 A,.int .i64 E]:=fun h=>by rw[hX h]at FD;exact rA FD
 have aaO:((K:Int) != 0)=true:=by simp;omega
 have oh:min lo Hb.length=lo:=lP ik
 have te:=aX dm
 rcases ho with⟨rfl,rfl⟩|⟨bf,q,q1,aS,rfl,b1⟩
 ·have:∃aF,dx aa rq st=some (.normal,aF)/\n<=aF.low/\aF.low<=lo/\aF.H=(Hb++[cc.row 1 [.str ((s.take E).drop A)] false]).set (n+1) (.cells [.cz Hb.length 1 0 1 1]):=by
   have dq:=sD dm [cc.row 1 [.str ((s.take E).drop A)] false]
   refine⟨_,by simp[rq,fZ,fQ,gn,h6,iO,jC,jD,lf,jY,cQ,e3,ly,kG,jq,k2,k3,lA,me,lz,jK,mc,nH,ag.ae,bk,fB,aq.put,dB,kS,kR,dX,eP,bs,bW,fy,hE,finish,old,ez,flat,iT,mA,gN,fY,aE,h1,h2,bF,vm,pb,tX,aaL,dm,aaM,FD,aaN,dq,mf,aaO,xu,eF,aaK,du,Dv,th,jL,hD,setCells,step,oK,kT,elems,bS,ed,nX,rD,eG,fw,oh];exact⟨.inl (.inl ⟨by decide,.inr (by decide)⟩),rfl⟩,?_⟩
   refine⟨by simp;omega,by simp;omega,by simp⟩
  obtain⟨aF,ai,a2,a3,a4⟩:=this
  refine⟨aF,_,ai,a2,a3,by rw[a4];simp,by rw[a4,nU (by simp;omega)];rfl,.inr ⟨by simp,Hb.length,by have:=aX FD;omega,by rw[a4];simp,rfl,?_⟩,fun j o hj v7 _=> ?_⟩
  ·rw[a4,gm (by omega)];simp
  ·rw[a4,gm (by omega)];exact sD v7 _
 ·have aq6:∀h:q<Hb.length,Hb[q]'h=.row 1 (out.map .str) false:=fun h=>by rw[hX h]at b1;exact rA b1
  have MF:(out.length+1)*17<=1099511627776:=by omega
  have:∃aF,dx aa rq st=some (.normal,aF)/\n<=aF.low/\aF.low<=lo/\aF.H=(Hb.set q (cc.row 1 (out.map .str++[.str ((s.take E).drop A)]) false)).set (n+1) (.cells [.cz q 1 0 (out.length+1) (out.length+1)]):=by
   have dq:(Hb.set q (cc.row 1 (out.map .str++[.str ((s.take E).drop A)]) false))[n+1]? =some (.cells [.cz q 1 0 out.length out.length]):=by rw[gm (by omega)];exact dm
   refine⟨_,by simp[rq,fZ,fQ,gn,h6,iO,jC,jD,lf,jY,cQ,e3,ly,kG,jq,k2,k3,lA,me,lz,jK,mc,nH,ag.ae,bk,fB,aq.put,dB,kS,kR,dX,eP,bs,bW,fy,hE,finish,old,ez,flat,iT,mA,gN,fY,aE,h1,h2,bF,vm,pb,tX,aaL,dm,aaM,FD,aaN,b1,aq6,dq,MF,mf,aaO,xu,eF,aaK,du,Dv,th,jL,hD,setCells,step,oK,kT,elems,bS,ed,nX,rD,eG,fw,oh];exact⟨.inl (.inl (.inr ⟨.inr (by decide),.inr (by decide)⟩)),rfl⟩,?_⟩
   refine⟨by simp;omega,by simp;omega,by simp⟩
  obtain⟨aF,ai,a2,a3,a4⟩:=this
  refine⟨aF,_,ai,a2,a3,by rw[a4];simp,by rw[a4,nU (by simp;omega)],.inr ⟨by simp,q,q1,by rw[a4];simp;omega,by simp,?_⟩,fun j o hj v7 jN=> ?_⟩
  ·rw[a4,gm (by omega),nU aS];simp
  ·rw[a4,gm (by omega),gm ?_];exact v7
   rintro rfl
   rw[b1]at v7
   cases v7
   exact jN _ _ _ rfl
theorem xB.dQ{n m:Nat}{H H':Heap}{v:V}{out:List (List UInt8)}(h:xB n H v out)(hl:H.length<=H'.length)(hk:∀q es ds dt,q≠m->H[q]? =some (.row es ds dt)->H'[q]? =some (.row es ds dt))(hm:m<n+6):xB n H' v out:=by
 rcases h with h|⟨h,q,q1,aS,b1,cL⟩
 ·exact .inl h
 ·exact .inr ⟨h,q,q1,by omega,b1,hk q _ _ _ (by omega) cL⟩
def FE (s:List UInt8)(cO:Nat):List UInt8:=(s.take (iI s cO)).drop (eW s cO)
set_option maxHeartbeats 2000000 in
theorem aaP{n cO:Nat}{s:List UInt8}{H:Heap}{out:List (List UInt8)}(h:FC n s H out)(fT:cO<=s.length)(e4:out.length<=5000):
  ∃H2 c5,bZ aa (.yield (n+5)) [.agg (jS s cO)] (H++[.cells (jS s cO)])=some (.bool true,H2,c5)/\n<=c5/\c5<=n+5/\H.length<=H2.length/\
   FC n s H2 (if fF (s.drop (eW s cO))=0 then out else out++[FE s cO])/\H2[H.length]? =some (.cells (jS s cO)):=by
 have hlen:=h.len
 obtain⟨v,ad,Dh⟩:=h.out
 have zG:eW s cO<=iI s cO:=by unfold iI;omega
 have JW:=Ng fT
 obtain⟨qq,Kc⟩:∃qq,H++[cc.cells (jS s cO)]=qq:=⟨_,rfl⟩
 have jH:qq.length=H.length+1:=by rw[<-Kc];simp
 have c6:∀{j o},H[j]? =some o->qq[j]? =some o:=fun hj=>by rw[<-Kc];exact sD hj _
 have aq7:qq[H.length]? =some (.cells (jS s cO)):=by rw[<-Kc];simp
 obtain⟨Hb,B3⟩:∃Hb,(qq++[cc.cells (jS s cO)]).set (n+5) (.loop .busy .normal (sH s n) [10] zO rq)=Hb:=⟨_,rfl⟩
 have j1:Hb.length=H.length+2:=by rw[<-B3];simp;omega
 have tX:∀{j o},j≠n+5->H[j]? =some o->Hb[j]? =some o:=fun hj v7=>by rw[<-B3,gm (by omega)];exact sD (c6 v7) _
 have aq8:Hb[H.length]? =some (.cells (jS s cO)):=by rw[<-B3,gm (by omega)];exact sD aq7 _
 have B4:Hb[H.length+1]? =some (.cells (jS s cO)):=by rw[<-B3,gm (by omega),<-jH];simp
 have aq9:Hb[n+5]? =some (.loop .busy .normal (sH s n) [10] zO rq):=by rw[<-B3,nU (by simp;omega)]
 have eM:xB n Hb v out:=Dh.dQ (m:=n+5) (by omega) (fun q es ds dt bc hr=>tX bc hr) (by omega)
 have hA:dx aa zO {aG:=[],av:=ec (sH s n) 10 (.agg (jS s cO)),H:=qq,low:=qq.length,ro:=some (n+5)}=some (.normal,{aG:=[],av:=ec (ec (sH s n) 10 (.agg (jS s cO))) 4 (.ptr (H.length+1) 0),H:=qq++[.cells (jS s cO)],low:=qq.length,ro:=some (n+5)}):=by
  unfold jS
  simp[zO,sH,fZ,fQ,gn,h6,iO,jC,jD,lf,jY,cQ,e3,ly,kG,jq,k2,k3,lA,me,lz,jK,mc,nH,ag.ae,bk,ec,aq.put,dB,kS,kR,dX,eP,bs,bW,fy,hE,finish,old,ez,flat,iT,mA,gN,fY,aE,jL,hD,setCells,bS,ed,jH,rl,pj]
 have aaQ:qq[n+5]? =some (vZ s n):=c6 h.B2
 have ara:(qq++[cc.cells (jS s cO)])[n+5]? =some (vZ s n):=sD aaQ _
 have body:∃aF,dx aa rq {aG:=[],av:=ec (ec (sH s n) 10 (.agg (jS s cO))) 4 (.ptr (H.length+1) 0),H:=Hb,low:=n+5,ro:=some (n+5)}=some (.normal,aF)/\n<=aF.low/\aF.low<=n+5/\Hb.length<=aF.H.length/\aaJ (n+1) Hb aF.H/\
   ∃v',aF.H[n+1]? =some (.cells [v'])/\xB n aF.H v' (if fF (s.drop (eW s cO))=0 then out else out++[FE s cO]):=by
  by_cases kC:fF (s.drop (eW s cO))=0
  ·have Qp:∀h:H.length+1<Hb.length,Hb[H.length+1]'h=.cells (jS s cO):=fun h=>by rw[hX h]at B4;exact rA B4
   unfold jS at B4 Qp
   rw[kC]at B4 Qp
   have arb:min (n+5) Hb.length=n+5:=lP (by omega)
   refine⟨_,by simp[rq,sH,fZ,fQ,gn,h6,iO,jC,jD,lf,jY,cQ,e3,ly,kG,jq,k2,k3,lA,me,lz,jK,mc,nH,ag.ae,bk,ec,aq.put,dB,kS,kR,dX,eP,bs,bW,fy,hE,finish,old,ez,flat,iT,mA,gN,fY,aE,mf,B4,Qp,arb];rfl,by simp,by simp,by simp,fun j o hj v7 _=>by simpa using v7,v,by simpa using tX (by omega) ad,?_⟩
   rw[if_pos kC]
   exact eM
  ·obtain⟨aF,v',ai,a2,a3,a4,a5,zD,eu⟩:=aq5 (n:=n) (p:=H.length+1) (lo:=n+5) (s:=s) (Hb:=Hb) (v:=v) (tX (by omega) h.g0) (tX (by omega) ad) B4 (by omega) eM zG JW e4 kC
    (st:={aG:=[],av:=ec (ec (sH s n) 10 (.agg (jS s cO))) 4 (.ptr (H.length+1) 0),H:=Hb,low:=n+5,ro:=some (n+5)}) rfl rfl (by omega) (by omega) rfl rfl rfl
   exact⟨aF,ai,a2,a3,a4,eu,v',a5,by rw[if_neg kC];exact zD⟩
 obtain⟨aF,q1,aS,b1,cL,et,v',gz,jI⟩:=body
 have arc:aF.H[n+5]? =some (.loop .busy .normal (sH s n) [10] zO rq):=et (n+5) _ (by omega) aq9 (fun _ _ _=>by simp)
 refine⟨aF.H.set (n+5) (vZ s n),min aF.low (n+5),?_,by omega,by omega,by simp;omega,?_,?_⟩
 ·rw[Q1,Kc]
  unfold nZ
  rw[aaQ]
  simp only[vZ,ev,ja,if_true,zQ,List.zip_nil_right,qu,List.foldl_nil]
  rw[hA]
  simp only[]
  rw[ara]
  simp only[vZ]
  have ard:min qq.length (n+5)=n+5:=uc (by omega)
  rw[B3,ard,q1]
  simp only[]
  rw[arc]
  simp
 ·have hs:∀{j o},j≠n+5->j≠n+1->H[j]? =some o->(∀es ds dt,o≠ .row es ds dt)->(aF.H.set (n+5) (vZ s n))[j]? =some o:=fun h1 h2 ar aQ=>by
   rw[gm (by omega)];exact et _ _ h2 (tX h1 ar) aQ
  exact⟨by simp;omega,hs (by omega) (by omega) h.g0 (fun _ _ _=>by simp),hs (by omega) (by omega) h.gt (fun _ _ _=>by simp),hs (by omega) (by omega) h.xv (fun _ _ _=>by simp),hs (by omega) (by omega) h.Qo (fun _ _ _=>by simp),
   by rw[nU (by omega)],v',by rw[gm (by omega)];exact gz,
   jI.dQ (m:=n+5) (by simp) (fun q es ds dt bc hr=>by rw[gm (by omega)];exact hr) (by omega)⟩
 ·rw[gm (by omega)]
  exact et _ _ (by omega) aq8 (fun _ _ _=>by simp)
theorem arf (T:lN aa){n:Nat}{s:List UInt8}(hl:s.length<=4096):∀{r:List UInt8} {ws:List (List UInt8)},Lex r ws->∀(cO:Nat) (H:Heap) (out:List (List UInt8)) (st:aq),s.drop cO=r->cO<=s.length->FC n s H out->out.length+ws.length<=5000->
  st.H=H->n<=st.low->st.low<=H.length->bk st.av 0=.yield (n+5)->bk st.av 1=.ptr (n+2) 0->bk st.av 2=.ptr (n+4) 0->bk st.av 4=.int .i64 cO->
  ∃aF,dx aa (.loop E0) st=some (.ret,aF)/\FC n s aF.H (out++ws)/\n<=aF.low/\aF.low<=n+5:=by
 intro r ws hx
 induction hx with
 |done r hk=>
  intro cO H out st hr fT hw e4 h1 h2 ar l7 bF iB pb
  obtain⟨H2,c5,hy,nd,pR,arh,FF,Qq⟩:=aaP hw fT (by simp at e4;omega)
  have hlen:=hw.len
  have dI:fF (s.drop (eW s cO))=0:=by
   unfold eW
   rw[<-sR,hr];exact hk
  obtain⟨x,aF,q1,aS,b1,cL,et,gz,jI⟩:=PX T (s:=s) (H:=H) (H2:=H2) (p1:=n+2) (p2:=n+4) (m:=n+3) (L:=n+5) (cO:=cO) (c5:=c5) (m0:=n) (b:=true) (by omega) fT hw.gt hw.Qo hw.xv h1 h2 ar l7 bF iB pb hy (by omega) nd (by omega) (fun _=>Qq)
  rw[dI]at aS
  simp at aS
  subst aS
  rw[dI,if_pos rfl]at FF
  exact⟨aF,by rw[py,q1],by rw[b1,rz];exact FF,cL,by omega⟩
 |more r ws hk W3 ih=>
  intro cO H out st hr fT hw e4 h1 h2 ar l7 bF iB pb
  obtain⟨H2,c5,hy,nd,pR,arh,FF,Qq⟩:=aaP hw fT (by simp at e4;omega)
  have hlen:=hw.len
  have af:s.drop (eW s cO)=r.drop (eU false r):=by
   unfold eW
   rw[<-sR,hr]
  have dI:fF (s.drop (eW s cO))≠0:=by rw[af];exact hk
  obtain⟨x,aF,q1,aS,b1,cL,et,gz,jI⟩:=PX T (s:=s) (H:=H) (H2:=H2) (p1:=n+2) (p2:=n+4) (m:=n+3) (L:=n+5) (cO:=cO) (c5:=c5) (m0:=n) (b:=true) (by omega) fT hw.gt hw.Qo hw.xv h1 h2 ar l7 bF iB pb hy (by omega) nd (by omega) (fun _=>Qq)
  have ari:x=.normal:=by rw[aS];simp[dI]
  subst ari
  rw[if_neg dI]at FF
  have arj:FE s cO=(r.drop (eU false r)).take (gB (r.drop (eU false r))):=by
   unfold FE iI
   rw[af,List.drop_take,af]
   congr 1
   omega
  have hd:s.drop (iI s cO)=(r.drop (eU false r)).drop (gB (r.drop (eU false r))):=by
   unfold iI
   rw[af,<-sR,af]
  obtain⟨fU,bA,b9,eD,aaR⟩:=ih (iI s cO) H2 (out++[FE s cO]) aF hd (Ng fT) FF (by simp at e4⊢; omega) b1 cL (by omega) ((jI 0 (by decide)).trans l7) ((jI 1 (by decide)).trans bF) ((jI 2 (by decide)).trans iB) gz
  refine⟨fU,by rw[py,q1];exact bA,?_,eD,aaR⟩
  rw[arj]at b9
  simpa using b9
theorem ark (l:List (List UInt8)):bW (l.map V.str)=true:=by induction l<;>simp_all [bW,bs]
def Qr (ws:List (List UInt8)):V:=if ws=[]then .cp else .list 1 (ws.map .str)
set_option maxHeartbeats 1000000 in
theorem arl (T:lN aa)(Qs:aa 10=some (.code Kb)){s:List UInt8}{ws:List (List UInt8)}(hl:s.length<=4096)(hx:Lex s ws)(e4:ws.length<=5000)(H:Heap):aM aa (.fn 10 [] []) [.str s] H (Qr ws):=by
 unfold aM
 have af:¬(4096:Int)<(s.length:Int):=by omega
 have ht:=Zx T s (H++[.cells [.str s],.cells [.cp]])
 simp only[gM,ev,ja,eO,mS,jz,jB,pr,Nat.reduceAdd]at ht
 obtain⟨H0,xC⟩:∃H0,H++[cc.cells [.str s],.cells [.cp],.cells [.str s],.map sC,.cells [.map (H.length+3)],vZ s H.length]=H0:=⟨_,rfl⟩
 have pJ:H0.length=H.length+6:=by rw[<-xC];simp
 have arn:FC H.length s H0 []:=⟨by omega,by rw[<-xC,pj];rfl,by rw[<-xC,jT];rfl,by rw[<-xC,jT];rfl,by rw[<-xC,jT];rfl,by rw[<-xC,jT];rfl,.cp,by rw[<-xC,jT];rfl,.inl ⟨rfl,rfl⟩⟩
 obtain⟨aF,bA,b9,eD,aaR⟩:=arf T (n:=H.length) hl hx 0 H0 [] {aG:=[],av:=[(0,.yield (H.length+5)),(1,.ptr (H.length+2) 0),(2,.ptr (H.length+4) 0),(4,.int .i64 0)],H:=H0,low:=H0.length} (by simp) (cx _) arn (by simpa using e4) rfl (by rw[pJ];simp) (aK _) rfl rfl rfl rfl
 rw[jB]at b9
 have Kd:bZ aa (.fn 76 [] [.ptr (H.length+2) 0,.ptr (H.length+4) 0]) [.yield (H.length+5)] H0=some (.aU [],aF.H,aF.low):=by
  rw[mE,T.Zt]
  have Wc:¬H0.length<=aF.low:=by omega
  simp[O2,fZ,fQ,gn,h6,iO,jC,jD,lf,jY,cQ,e3,ly,kG,jq,k2,k3,lA,me,lz,jK,mc,nH,ag.ae,bk,ec,aq.put,dB,kS,kR,dX,eP,bs,bW,fy,hE,finish,old,ez,flat,iT,mA,gN,fY,aE,bA,Wc]
 rw[<-xC]at Kd
 obtain⟨v,g1,g2⟩:=b9.out
 have B2:=b9.B2
 have hlen:=b9.len
 have dq:(aF.H.set (H.length+5) .gone)[H.length+1]? =some (.cells [v]):=by rw[gm (by omega)];exact g1
 have BX:min H.length aF.low=H.length:=lP eD
 have aaS:min H.length aF.H.length=H.length:=lP (by omega)
 simp only[vZ,sH]at Kd B2
 rw[mE,Qs]
 unfold Qr
 rcases g2 with⟨rfl,rfl⟩|⟨bf,q,q1,aS,rfl,b1⟩
 ·simp[Kb,fZ,fQ,gn,h6,iO,jC,jD,lf,jY,cQ,e3,ly,kG,jq,k2,k3,lA,me,lz,jK,mc,nH,ag.ae,bk,ec,aq.put,dB,kS,kR,dX,eP,bs,bW,fy,hE,finish,old,ez,flat,iT,mA,gN,fY,aE,bS,ed,jL,hD,setCells,jT,pj,tQ,rl,af,qm,ht,F4,xN,wm,Kd,B2,dq,BX,aaS]
 ·have fb:(aF.H.set (H.length+5) .gone)[q]? =some (.row 1 (ws.map .str) false):=by rw[gm (by omega)];exact b1
  have P3:=ark ws
  have zB:List.take ws.length (ws.map V.str)=ws.map V.str:=B5 (by simp)
  have aro:min H.length q=H.length:=lP (by omega)
  have arp:min H.length (min aF.H.length q)=H.length:=lP (by omega)
  simp[Kb,fZ,fQ,gn,h6,iO,jC,jD,lf,jY,cQ,e3,ly,kG,jq,k2,k3,lA,me,lz,jK,mc,nH,ag.ae,bk,ec,aq.put,dB,kS,kR,dX,eP,bs,bW,fy,hE,finish,old,ez,flat,iT,mA,gN,fY,aE,bS,ed,jL,hD,setCells,jT,pj,tQ,rl,af,qm,ht,F4,xN,wm,Kd,B2,dq,fb,P3,zB,bf,BX,aro,aaS,arp]
end
end Go.Abs.bw
namespace Go.Abs.bw
open Go Go.Abs Go.Abs.Lex
theorem aaT:∀{k:Nat} {r:bH} {ws:List bH},vp k r=some ws->Lex r ws/\ws.length<=k
 |0,r,ws,h=>by cases h
 |k+1,r,ws,h=>by
  simp only[vp]at h
  split at h
  ·rename_i h0
   cases h
   exact⟨.done r h0,by simp⟩
  ·rename_i h0
   cases e:vp k ((r.drop (Lex.eU false r)).drop (Lex.gB (r.drop (Lex.eU false r))))with
   |none=>rw[e]at h;cases h
   |some us=>
    rw[e]at h
    cases h
    obtain⟨h1,h2⟩:=aaT e
    exact⟨.more r us h0 h1,by simp only[ev];omega⟩
theorem arq{s:bH}{x:ak bH}(h:tt s=some x):∃ws,s.length<=4096/\Lex s ws/\ws.length<=64/\x=if ws=[]then .nil else .mk ws:=by
 unfold tt at h
 split at h
 ·rename_i hl
  cases e:vp 64 s with
  |none=>rw[e]at h;cases h
  |some ws=>
   rw[e]at h
   cases h
   obtain⟨h1,h2⟩:=aaT e
   exact⟨ws,hl,h1,h2,rfl⟩
 ·cases h
end Go.Abs.bw
namespace Go.Abs.bw
open Go Go.Abs Go.Abs.Lex
variable{aa:Nat->Option bY}
theorem ars (T:lN aa)(Qs:aa 10=some (.code Kb))(H0:Heap)(s:bH)(r:ak bH)(h:tt s=some r):bZ aa (.fn 10 [] []) [.str s] H0=some (bg 1 V.str r,H0,H0.length):=by
 obtain⟨ws,hl,hx,hc,rfl⟩:=arq h
 have h1:=arl T Qs hl hx (by omega) H0
 unfold aM Qr at h1
 rw[h1]
 split<;>rfl
end Go.Abs.bw
namespace Go.Abs.bw
open Go Go.Abs
theorem art{n:Int}{r:bH}(h:strconv_Itoa n=some r):Cr [.int .i64 n]=some (.str r):=by
 unfold strconv_Itoa at h
 split at h
 ·cases h
  rename_i hn
  show(if 0<=n/\n<10 then _ else if -100000<n/\n<100000 then _ else _)=_
  by_cases h1:0<=n/\n<10
  ·obtain⟨k,rfl⟩:=Kg h1.1
   have hk:k<10:=by omega
   unfold Lib.itoa
   rw[if_pos h1,if_neg (by omega),FL,Lib.decDigits_one hk]
  ·rw[if_neg h1,if_pos hn]
 ·cases h
theorem aaU:∀l:List (List UInt8),strs (l.map V.str)=some l
 |[]=>rfl
 |a::l=>by show(strs (l.map V.str)).map (a:: ·)=_;rw[aaU l];rfl
theorem aru{x:ak bH}{sep r:bH}(h:strings_Join x sep=some r):Cq [bg 1 V.str x,.str sep]=some (.str r):=by
 cases x with
 |nil=>cases h;rfl
 |emp=>cases h
 |mk l=>
  unfold strings_Join at h
  simp only at h
  split at h
  ·cases h
   rename_i hc
   show(match strs (l.map V.str)with|some m=>_|none=>_)=_
   rw[aaU l]
   exact if_pos ⟨rfl,hc⟩
  ·cases h
theorem arv (x:ak bH)(sep:bH):bW [bg 1 V.str x,.str sep]=true:=by
 cases x with
 |nil=>rfl
 |emp=>rfl
 |mk l=>rfl
end Go.Abs.bw
