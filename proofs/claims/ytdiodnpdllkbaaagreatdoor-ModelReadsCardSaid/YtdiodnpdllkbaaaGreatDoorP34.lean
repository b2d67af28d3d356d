/- Texts of this claim, joined and written short by a program. -/
import Derived.Test.YtdiodnpdllkbaaaGreatDoorP33
import Derived.Test.YtdiodnpdllkbaaaGreatDoorP14
import Derived.Test.YtdiodnpdllkbaaaGreatDoorP20
import Derived.Test.YtdiodnpdllkbaaaGreatDoorP28
import Derived.Test.YtdiodnpdllkbaaaGreatDoorP24
import Derived.Test.YtdiodnpdllkbaaaGreatDoorP00
set_option linter.unusedVariables false
set_option linter.unusedSimpArgs false
set_option linter.unusedSectionVars false
namespace Go.Abs.bw
open Go Go.Abs Go.Abs.Lex
noncomputable section
variable{aa:Nat->Option bY}
attribute [local simp] fZ fQ gn h6 iO jC jD lf jY cQ e3 ly kG jq k2 k3 lA me lz jK mc nH ag.ae bk fB aq.put dB kS kR dX eP dF bs bW fy hE finish old ez flat iT mA gN fY aE S.R S.q S.k S.rt S.gg S.b0 S.e S.r S.o S.n S.rg S.m S.bF S.ls S.c9 S.eq S.ne S.lt S.gt S.dc S.no S.hI S.st S.fA S.gq S.iG S.ex S.c S.cs S.h7 S.gI S.z S.fn S.ij
set_option maxHeartbeats 1000000 in
theorem Zy (T:lN aa){s:List UInt8}{H:Heap}{lo:Nat}(hl:s.length<4611686018427387904)(fi:min lo H.length=lo):
  ∀(r:List UInt8) (k:Nat) (st:aq),s.drop k=r->k<=s.length->st.H=H->st.low=lo->bk st.av 6=.str s->bk st.av 7=.int .i64 k->
   ∃aF,dx aa (.loop xj) st=some (.exit 3,aF)/\aF.H=H/\aF.low=lo/\bk aF.av 7=.int .i64 ((k+q4 r:Nat):Int)/\∀t,t<7->bk aF.av t=bk st.av t
 |[],k,st,hr,hk,h1,h2,ft,kZ=>by
  have hle:=drop_nil hr
  have hn:¬(k:Int)<(s.length:Int):=by omega
  rw[py]
  refine⟨_,by simp[xj,qm,h1,h2,ft,kZ,hn,fi];rfl,?_⟩
  simp only[fB,h1,h2,q4]
  exact⟨by simp,by first|(simp[fi,l2];done)|(simp[fi];done)|(simp;omega)|omega,by simp[kZ],fun t ht=>by simp[show t≠44 by omega]⟩
 |c::r,k,st,hr,hk,h1,h2,ft,kZ=>by
  obtain⟨g1,g2,g3⟩:=drop_cons hr
  have hn:(k:Int)<(s.length:Int):=by omega
  have hc:=anJ T c H
  have Zz:=anK T c r H
  unfold aM bv at hc
  unfold aM at Zz
  have hb:bZ aa (.fn 84 [] []) [V.str (s.drop k)] H=some (.bool (vo (c::r)),H,H.length):=by rw[hr];exact Zz
  have bj:∀h:k<s.length,s[k]'h=c:=fun h=>by rw[hX h]at g1;exact rA g1
  have rW:k<=s.length:=by omega
  have hw:IntKind.i64.wrap ((k:Int)+1)=((k+1:Nat):Int):=by rw[wrap_small]<;>omega
  have BV:((c.toNat:Int) != 35)=!(c.toNat==35):=by simp only[bne,show((c.toNat:Int)==35)=(c.toNat==35)from xt c 35]
  by_cases BW:(kd c||c.toNat==35||vo (c::r))=true
  ·have aT:q4 (c::r)=0:=by simp only[q4,BW,if_true]
   rw[py,aT]
   cases hW:kd c with
   |true=>
    rw[hW]at hc
    refine⟨_,by simp[xj,qm,vU,h1,h2,ft,kZ,hn,bj,g3,hc,fi];rfl,?_⟩
    simp only[fB,h1,h2]
    exact⟨by simp,by first|(simp[fi,l2];done)|(simp[fi];done)|(simp;omega)|omega,by simp[kZ],fun t ht=>by simp[show t≠44 by omega]⟩
   |false=>
    rw[hW]at hc
    cases rj:(c.toNat==35)with
    |true=>
     refine⟨_,by simp[xj,qm,vU,h1,h2,ft,kZ,hn,bj,g3,hc,BV,rj,fi];rfl,?_⟩
     simp only[fB,h1,h2]
     exact⟨by simp,by first|(simp[fi,l2];done)|(simp[fi];done)|(simp;omega)|omega,by simp[kZ],fun t ht=>by simp[show t≠44 by omega]⟩
    |false=>
     have anV:vo (c::r)=true:=by simpa[hW,rj]using BW
     rw[anV]at hb
     refine⟨_,by simp[xj,qm,vU,xu,eF,rW,h1,h2,ft,kZ,hn,bj,g3,hc,hb,BV,rj,fi];rfl,?_⟩
     simp only[fB,h1,h2]
     exact⟨by simp,by first|(simp[fi,l2];done)|(simp[fi];done)|(simp;omega)|omega,by simp[kZ],fun t ht=>by simp[show t≠44 by omega]⟩
  ·have aT:q4 (c::r)=q4 r+1:=by simp only[q4,BW,if_false];simp
   have hW:kd c=false:=by cases h:kd c<;>simp[h]at BW⊢
   have rj:(c.toNat==35)=false:=by cases h:(c.toNat==35)<;>simp[h]at BW⊢
   have anW:vo (c::r)=false:=by cases h:vo (c::r)<;>simp[h]at BW⊢
   rw[hW]at hc
   rw[anW]at hb
   have Fb:∃b4,dx aa xj st=some (.normal,b4)/\b4.H=H/\b4.low=lo/\bk b4.av 7=.int .i64 ((k+1:Nat):Int)/\∀t,t<7->bk b4.av t=bk st.av t:=by
    refine⟨_,by simp[xj,qm,vU,xu,eF,rW,h1,h2,ft,kZ,hn,bj,g3,hc,hb,BV,rj,fi,hw];rfl,?_⟩
    simp only[fB,h1,h2]
    exact⟨by simp,by first|(simp[fi,l2];done)|(simp[fi];done)|(simp;omega)|omega,by simp,fun t ht=>by simp[show t≠44 by omega,show t≠7 by omega]⟩
   obtain⟨b4,q1,aS,b1,cL,et⟩:=Fb
   obtain⟨aF,bA,b9,eD,gx,iR⟩:=Zy T hl fi r (k+1) b4 g2 (by omega) aS b1 (by rw[et 6 (by decide)];exact ft) cL
   refine⟨aF,by rw[py,q1];exact bA,b9,eD,?_,fun t ht=>(iR t ht).trans (et t ht)⟩
   rw[gx,aT];simp;omega
set_option maxHeartbeats 2000000 in
theorem anX (T:lN aa){s:List UInt8}{H:Heap}{lo p2 m:Nat}{a b:Int}(hl:s.length<4611686018427387904)(ik:lo<=H.length)(g2:H[p2]? =some (.cells [.map m]))(xv:H[m]? =some (.map sC))
  {st:aq} (h1:st.H=H++[.cells [.int .i64 0,.int .i64 a,.int .i64 b,.int .i64 0]]) (h2:st.low=lo) (iB:bk st.av 2=.ptr p2 0) (zF:bk st.av 5=.ptr H.length 0) (xw:bk st.av 6=.str s) (rk:bk st.av 7=.int .i64 0):
  ∃aF,dx aa vL st=some (.normal,aF)/\aF.H=H++[.cells [.int .i64 (fF s),.int .i64 a,.int .i64 b,.int .i64 0]]/\aF.low=lo/\bk aF.av 7=.int .i64 (gB s)/\∀t,t<7->bk aF.av t=bk st.av t:=by
 have fi:min lo H.length=lo:=lP ik
 have l2:min lo (H.length+1)=lo:=lP (by omega)
 have PU:=fun t=>sD g2 t
 have PV:=fun t=>sD xv t
 cases s with
 |nil=>
  refine⟨_,by simp[vL,h1,h2,iB,zF,xw,rk,fi,l2];rfl,?_⟩
  simp only[fB,h1,h2,fF,gB]
  exact⟨by simp,by first|(simp[fi,l2];done)|(simp[fi];done)|(simp;omega)|omega,by simp[rk],fun t ht=>by simp[show t≠47 by omega]⟩
 |cons c r=>
  have bf:((c::r)==[])=false:=rfl
  have df:=anH T c (H++[.cells [.int .i64 0,.int .i64 a,.int .i64 b,.int .i64 0]])
  have lx:=Zu T c (H++[.cells [.int .i64 0,.int .i64 a,.int .i64 b,.int .i64 0]])
  have aC:=anL T (c::r) (H++[.cells [.int .i64 0,.int .i64 a,.int .i64 b,.int .i64 0]])
  have JS:=Zv T (s:=c::r) (p:=om) (i:=80) (H:=H++[.cells [.int .i64 0,.int .i64 a,.int .i64 b,.int .i64 0]]) hl (fun c H=>anI T c H)
  have PW:=Zv T (s:=c::r) (p:=iY) (i:=81) (H:=H++[.cells [.int .i64 0,.int .i64 a,.int .i64 b,.int .i64 0]]) hl (fun c H=>Zu T c H)
  unfold aM bv at df lx
  unfold aM at aC JS PW
  simp only[gM,ev,ja,eO]at df lx aC JS PW
  have oW:=DH om (c::r)
  have JT:=anT ((c::r).take (ke om (c::r)))
  cases ai:ml c with
  |true=>
   rw[ai]at df
   generalize hn:ke om (c::r)=n at*
   have ZA:n<=r.length+1:=oW
   cases a2:kw.contains ((c::r).take n)with
   |true=>
    rw[a2]at JT
    have qn:fF (c::r)=2:=by simp only[fF,ai,if_true,hn,a2]
    have el:gB (c::r)=n:=by simp only[gB,ai,if_true,hn]
    rw[qn,el]
    refine⟨_,by simp[vL,h1,h2,iB,zF,xw,rk,fi,l2,bf,vU,kr,df,JS,jL,mf,hD,bS,ed,setCells,xu,eF,oW,Hd,step,PU,PV,JT,ZA,eG,nX,rD,-List.take_succ_cons];rfl,?_⟩
    simp only[fB,h1,h2]
    exact⟨by simp,by first|(simp[fi,l2];done)|(simp;omega)|omega,by simp,fun t ht=>by simp[show t≠47 by omega,show t≠50 by omega,show t≠61 by omega,show t≠7 by omega]⟩
   |false=>
    rw[a2]at JT
    have qn:fF (c::r)=1:=by simp only[fF,ai,if_true,hn,a2];rfl
    have el:gB (c::r)=n:=by simp only[gB,ai,if_true,hn]
    rw[qn,el]
    refine⟨_,by simp[vL,h1,h2,iB,zF,xw,rk,fi,l2,bf,vU,kr,df,JS,jL,mf,hD,bS,ed,setCells,xu,eF,oW,Hd,step,PU,PV,JT,ZA,eG,nX,rD,-List.take_succ_cons];rfl,?_⟩
    simp only[fB,h1,h2]
    exact⟨by simp,by first|(simp[fi,l2];done)|(simp;omega)|omega,by simp,fun t ht=>by simp[show t≠47 by omega,show t≠50 by omega,show t≠61 by omega,show t≠7 by omega]⟩
  |false=>
   rw[ai]at df
   cases a2:iY c with
   |true=>
    rw[a2]at lx
    have qn:fF (c::r)=3:=by simp only[fF,ai,a2,if_true];rfl
    have el:gB (c::r)=ke iY (c::r):=by simp only[gB,ai,a2,if_true];rfl
    rw[qn,el]
    refine⟨_,by simp[vL,h1,h2,iB,zF,xw,rk,fi,l2,bf,vU,kr,df,lx,PW,jL,mf,hD,bS,ed,setCells];rfl,?_⟩
    simp only[fB,h1,h2]
    exact⟨by simp,by first|(simp[fi,l2];done)|(simp;omega)|omega,by simp,fun t ht=>by simp[show t≠47 by omega,show t≠50 by omega,show t≠63 by omega,show t≠7 by omega]⟩
   |false=>
    rw[a2]at lx
    by_cases a3:0<sym (c::r)
    ·have qn:fF (c::r)=4:=by simp only[fF,ai,a2,a3,if_true];rfl
     have el:gB (c::r)=sym (c::r):=by simp only[gB,ai,a2,a3,if_true];rfl
     rw[qn,el]
     refine⟨_,by simp[vL,h1,h2,iB,zF,xw,rk,fi,l2,bf,vU,kr,df,lx,aC,a3,jL,mf,hD,bS,ed,setCells];rfl,?_⟩
     simp only[fB,h1,h2]
     exact⟨by simp,by first|(simp[fi,l2];done)|(simp;omega)|omega,by simp,fun t ht=>by simp[show t≠47 by omega,show t≠50 by omega,show t≠63 by omega,show t≠70 by omega,show t≠7 by omega]⟩
    ·have qn:fF (c::r)=5:=by simp only[fF,ai,a2,a3,if_false];rfl
     have el:gB (c::r)=q4 r+1:=by simp only[gB,ai,a2,a3,if_false];rfl
     rw[qn,el]
     obtain⟨b4,q1,aS,b1,cL,et⟩:=Zy T (s:=c::r) (H:=H++[.cells [.int .i64 5,.int .i64 a,.int .i64 b,.int .i64 0]]) (lo:=lo) hl (by simp;omega) r 1
      {aG:=[],av:=ec (ec (ec (ec (ec st.av 47 (.bool false)) 50 (.bool false)) 63 (.bool false)) 70 (.bool false)) 7 (.int .i64 1),H:=H++[.cells [.int .i64 5,.int .i64 a,.int .i64 b,.int .i64 0]],low:=lo,ro:=st.ro} rfl (by simp) rfl rfl (by simp[fB,xw]) (by simp[fB])
     refine⟨b4,by simp[vL,h1,h2,iB,zF,xw,rk,fi,l2,bf,vU,kr,df,lx,aC,a3,jL,mf,hD,bS,ed,setCells,q1],aS,b1,?_,fun t ht=> ?_⟩
     ·rw[cL];simp;omega
     ·rw[et t ht];simp[fB,show t≠47 by omega,show t≠50 by omega,show t≠63 by omega,show t≠70 by omega,show t≠7 by omega]
end
end Go.Abs.bw
namespace Go.Abs.bw
open Go Go.Abs Go.Abs.Lex
noncomputable section
variable{aa:Nat->Option bY}
attribute [local simp] fZ fQ gn h6 iO jC jD lf jY cQ e3 ly kG jq k2 k3 lA me lz jK mc nH ag.ae bk fB aq.put dB kS kR dX eP dF bs bW fy hE finish old ez flat iT mA gN fY aE S.R S.q S.k S.rt S.gg S.b0 S.e S.r S.o S.n S.rg S.m S.bF S.ls S.c9 S.eq S.ne S.lt S.gt S.dc S.no S.hI S.st S.fA S.gq S.iG S.ex S.c S.cs S.h7 S.gI S.z S.fn S.ij
theorem anY:E0=.block 1 (.seq Jo (.seq Jp (.seq Jq (.seq (.block 2 vL) BH)))):=rfl
def jS (s:List UInt8)(cO:Nat):List V:=[.int .i64 (fF (s.drop (eW s cO))),.int .i64 cO,.int .i64 (eW s cO),.int .i64 (iI s cO)]
set_option maxHeartbeats 2000000 in
theorem PX (T:lN aa){s:List UInt8}{H H2:Heap}{p1 p2 m L cO c5 m0:Nat}{b:Bool}(hl:s.length<4611686018427387904)(fT:cO<=s.length)(g1:H[p1]? =some (.cells [.str s]))(g2:H[p2]? =some (.cells [.map m]))(xv:H[m]? =some (.map sC))
  {st:aq} (h1:st.H=H) (h2:m0<=st.low) (wA:st.low<=H.length) (l7:bk st.av 0=.yield L) (bF:bk st.av 1=.ptr p1 0) (iB:bk st.av 2=.ptr p2 0) (pb:bk st.av 4=.int .i64 cO)
  (hy:bZ aa (.yield L) [.agg (jS s cO)] (H++[.cells (jS s cO)])=some (.bool b,H2,c5)) (yf:c5<=H.length) (fi:m0<=c5) (auk:m0<=H2.length) (GD:b=true->H2[H.length]? =some (.cells (jS s cO))):
  ∃x aF,dx aa E0 st=some (x,aF)/\x=(if b&&decide (fF (s.drop (eW s cO))≠0)then .normal else .ret)/\aF.H=H2/\m0<=aF.low/\aF.low<=c5/\bk aF.av 4=.int .i64 (iI s cO)/\∀t,t<4->bk aF.av t=bk st.av t:=by
 have anZ:=fun t=>sD g1 t
 have PU:=fun t=>sD g2 t
 have PV:=fun t=>sD xv t
 obtain⟨lo,ik⟩:∃lo,st.low=lo:=⟨_,rfl⟩
 rw[ik]at h2 wA
 have ob:min lo H.length=lo:=lP wA
 have lk:min lo (H.length+1)=lo:=lP (by omega)
 have ZB:=anM T (s:=s.drop cO) (H:=H) (by rw[sN];omega)
 unfold aM at ZB
 have an0:=Wp fT
 have zG:=Ng fT
 have PY:IntKind.i64.wrap ((cO:Int)+(eU false (s.drop cO):Int))=(eW s cO:Int):=by
  have e:(cO:Int)+(eU false (s.drop cO):Int)=(eW s cO:Int):=by unfold eW;omega
  rw[e,wrap_small]<;>omega
 have yr:IntKind.i64.wrap ((eW s cO:Int)+(gB (s.drop (eW s cO)):Int))=(iI s cO:Int):=by
  have e:(eW s cO:Int)+(gB (s.drop (eW s cO)):Int)=(iI s cO:Int):=by unfold iI;omega
  rw[e,wrap_small]<;>omega
 have A:∃b4,dx aa Jo st=some (.normal,b4)/\b4.H=H++[.cells [.int .i64 0,.int .i64 cO,.int .i64 (eW s cO),.int .i64 0]]/\b4.low=lo/\bk b4.av 5=.ptr H.length 0/\∀t,t<5->bk b4.av t=bk st.av t:=by
  refine⟨_,by simp[Jo,h1,ik,pb,bF,g1,xu,eF,fT,ZB,PY,step,uj,setCells,bS,ed,jL,hD,ob,lk];rfl,?_⟩
  simp only[fB,h1]
  exact⟨by simp[setCells,ag.ae,bk,aE],by first|(simp[ob,lk];done)|(simp;omega),by simp,fun t ht=>by simp[show t≠5 by omega]⟩
 obtain⟨b4,ai,a2,a3,a4,a5⟩:=A
 have B:∃fU,dx aa Jp b4=some (.normal,fU)/\fU.H=b4.H/\fU.low=lo/\bk fU.av 6=.str (s.drop (eW s cO))/\∀t,t<6->bk fU.av t=bk b4.av t:=by
  have dm:bk b4.av 1=.ptr p1 0:=(a5 1 (by decide)).trans bF
  refine⟨_,by simp[Jp,a2,a3,a4,dm,anZ,mf,xu,eF,an0,ob,lk];rfl,?_⟩
  simp only[fB,a2]
  exact⟨by simp,by first|(simp[ob,lk];done)|(simp;omega),by simp,fun t ht=>by simp[show t≠6 by omega]⟩
 obtain⟨fU,dm,gy,jO,lg,uv⟩:=B
 have an1:∃lr,dx aa Jq fU=some (.normal,lr)/\lr.H=b4.H/\lr.low=lo/\bk lr.av 7=.int .i64 0/\∀t,t<7->bk lr.av t=bk fU.av t:=by
  refine⟨_,by simp[Jq,gy,jO,a2,ob,lk];rfl,?_⟩
  simp only[fB,a2,gy]
  exact⟨by simp,by first|(simp[ob,lk];done)|(simp;omega),by simp,fun t ht=>by simp[show t≠7 by omega]⟩
 obtain⟨lr,dq,fb,gG,iC,jj⟩:=an1
 obtain⟨Fs,d1,d3,d4,d5,d6⟩:=anX T (s:=s.drop (eW s cO)) (H:=H) (lo:=lo) (by rw[sN];omega) wA g2 xv (st:=lr) (fb.trans a2) gG
  (by rw[jj 2 (by decide),uv 2 (by decide),a5 2 (by decide)];exact iB) (by rw[jj 5 (by decide),uv 5 (by decide)];exact a4) (by rw[jj 6 (by decide)];exact lg) iC
 have dQ:∀t,t<5->bk Fs.av t=bk st.av t:=fun t ht=>by rw[d6 t (by omega),jj t (by omega),uv t (by omega),a5 t ht]
 have yQ:bk Fs.av 5=.ptr H.length 0:=by rw[d6 5 (by decide),jj 5 (by decide),uv 5 (by decide)];exact a4
 have k0:bk Fs.av 0=.yield L:=(dQ 0 (by decide)).trans l7
 have vF:∀t:Heap,¬H.length+1<=c5:=fun _=>by omega
 have Ai:=vF []
 have oh:m0<=H.length:=by omega
 have E:∃x xx,dx aa BH Fs=some (x,xx)/\x=(if b&&decide (fF (s.drop (eW s cO))≠0)then .normal else .ret)/\xx.H=H2/\m0<=xx.low/\xx.low<=c5/\bk xx.av 4=.int .i64 (iI s cO)/\∀t,t<4->bk xx.av t=bk Fs.av t:=by
  unfold jS at hy GD
  generalize kC:fF (s.drop (eW s cO))=K at*
  cases b with
  |false=>
   refine⟨.ret,_,by simp[BH,d3,d4,d5,yQ,k0,mf,jL,hD,bS,ed,setCells,yr,hy,Ai,ob,lk];rfl,rfl,rfl,?_⟩
   exact⟨by simp;omega,by simp;omega,by simp[fB],fun t ht=>by simp[fB,show t≠92 by omega,show t≠4 by omega]⟩
  |true=>
   have JU:=GD rfl
   have ZC:∀h:H.length<H2.length,H2[H.length]'h=.cells [.int .i64 K,.int .i64 cO,.int .i64 (eW s cO),.int .i64 (iI s cO)]:=fun h=>by rw[hX h]at JU;exact rA JU
   by_cases aT:K=0
   ·have PZ:((K:Int)==0)=true:=by simp[aT]
    refine⟨.ret,_,by simp[BH,d3,d4,d5,yQ,k0,mf,jL,hD,bS,ed,setCells,yr,hy,Ai,ob,lk,JU,ZC,PZ];rfl,by simp[aT],rfl,?_⟩
    exact⟨by simp;omega,by simp;omega,by simp[fB],fun t ht=>by simp[fB,show t≠92 by omega,show t≠4 by omega]⟩
   ·have PZ:((K:Int)==0)=false:=by simp;omega
    refine⟨.normal,_,by simp[BH,d3,d4,d5,yQ,k0,mf,jL,hD,bS,ed,setCells,yr,hy,Ai,ob,lk,JU,ZC,PZ];rfl,by simp[aT],rfl,?_⟩
    exact⟨by simp;omega,by simp;omega,by simp[fB],fun t ht=>by simp[fB,show t≠92 by omega,show t≠4 by omega]⟩
 obtain⟨x,xx,af,aj,bT,cF,an2,ej,j2⟩:=E
 have hx:x=.normal\/x=.ret:=by rw[aj];split<;>simp
 refine⟨x,xx,?_,aj,bT,cF,an2,ej,fun t ht=>(j2 t ht).trans (dQ t (by omega))⟩
 rw[anY,jY,gn,ai]
 simp only[]
 rw[gn,dm]
 simp only[]
 rw[gn,dq]
 simp only[]
 rw[gn,jY,d1]
 simp only[]
 rw[af]
 rcases hx with rfl|rfl<;>rfl
end
end Go.Abs.bw
namespace Go.Abs.bw
open Go Go.Abs Go.Abs.Lex
noncomputable section
variable{aa:Nat->Option bY}
attribute [local simp] fZ fQ gn h6 iO jC jD lf jY cQ e3 ly kG jq k2 k3 lA me lz jK mc nH ag.ae bk ec aq.put dB kS kR dX eP dF bs bW fy hE finish old ez flat iT mA gN fY aE S.R S.q S.k S.rt S.gg S.b0 S.e S.r S.o S.n S.rg S.m S.bF S.ls S.c9 S.eq S.ne S.lt S.gt S.dc S.no S.hI S.st S.fA S.gq S.iG S.ex S.c S.cs S.h7 S.gI S.z S.fn S.ij
theorem jT (H l:Heap)(k:Nat):(H++l)[H.length+k]? =l[k]? :=by rw[sJ (by omega)];simp
theorem pj (H l:Heap):(H++l)[H.length]? =l[0]? :=jT H l 0
theorem tQ (H l:Heap)(k:Nat)(x:cc):(H++l).set (H.length+k) x=H++l.set k x:=by rw[List.set_append_right _ _ (by omega)];simp
theorem rl (H l:Heap)(x:cc):(H++l).set H.length x=H++l.set 0 x:=tQ H l 0 x
def Ft (w:List UInt8)(n:Nat):Env:=[(0,.str w),(1,.ptr n 0),(2,.ptr (n+1) 0),(10,.bool false),(12,.fn 76 [] [.ptr (n+2) 0,.ptr (n+4) 0])]
def tR (w:List UInt8)(n:Nat):Heap:=[.cells [.str w],.cells [.int .i64 0],.cells [.str w],.map sC,.cells [.map (n+3)],.loop .ready .normal (Ft w n) [13] EW EX]
set_option maxHeartbeats 1000000 in
theorem an3 (T:lN aa)(w:List UInt8)(H:Heap):∃H2 c5,bZ aa (.yield (H.length+5)) [.agg (jS w 0)] (H++(tR w H.length++[.cells (jS w 0)]))=some (.bool false,H2,c5)/\H.length<=c5/\c5<=H.length+5/\H.length<=H2.length/\
  ((eW w 0=0/\iI w 0=w.length/\H2[H.length+1]? =some (.cells [.int .i64 (fF (w.drop (eW w 0)))])/\∃e p a b,H2[H.length+5]? =some (.loop .done .ret e p a b))\/
   (¬(eW w 0=0/\iI w 0=w.length)/\H2[H.length+1]? =some (.cells [.int .i64 0])/\∃e p a b,H2[H.length+5]? =some (.loop .done (.exit 0) e p a b))):=by
 rw[Q1]
 unfold jS
 generalize fF (w.drop (eW w 0))=K
 by_cases h1:eW w 0=0
 ·have af:((eW w 0:Int) != 0)=false:=by simp[h1]
  by_cases h2:iI w 0=w.length
  ·have aj:((iI w 0:Int) != (w.length:Int))=false:=by simp[h2]
   refine⟨_,_,by simp[tR,Ft,nZ,jT,pj,tQ,rl,EW,EX,mf,qm,jL,hD,setCells,bS,ed,af,aj,eG];exact⟨rfl,rfl⟩,?_⟩
   exact⟨by simp<;>omega,by simp<;>omega,by simp<;>omega,.inl ⟨h1,h2,by simp[jT],_,_,_,_,by rw[jT];rfl⟩⟩
  ·have aj:((iI w 0:Int) != (w.length:Int))=true:=by simp;omega
   refine⟨_,_,by simp[tR,Ft,nZ,jT,pj,tQ,rl,EW,EX,mf,qm,jL,hD,setCells,bS,ed,af,aj,eG];exact⟨rfl,rfl⟩,?_⟩
   exact⟨by simp<;>omega,by simp<;>omega,by simp<;>omega,.inr ⟨fun h=>h2 h.2,by simp[jT],_,_,_,_,by rw[jT];rfl⟩⟩
 ·have af:((eW w 0:Int) != 0)=true:=by simp;omega
  refine⟨_,_,by simp[tR,Ft,nZ,jT,pj,tQ,rl,EW,EX,mf,qm,jL,hD,setCells,bS,ed,af,eG];exact⟨rfl,rfl⟩,?_⟩
  exact⟨by simp<;>omega,by simp<;>omega,by simp<;>omega,.inr ⟨fun h=>h1 h.1,by simp[jT],_,_,_,_,by rw[jT];rfl⟩⟩
set_option maxHeartbeats 1000000 in
theorem an4 (T:lN aa)(w:List UInt8)(hl:w.length<=4096)(H:Heap):∃H2 c5,bZ aa (.fn 76 [] [.ptr (H.length+2) 0,.ptr (H.length+4) 0]) [.yield (H.length+5)] (H++tR w H.length)=some (.aU [],H2,c5)/\H.length<=c5/\H.length<=H2.length/\
  ((eW w 0=0/\iI w 0=w.length/\H2[H.length+1]? =some (.cells [.int .i64 (fF (w.drop (eW w 0)))])/\∃e p a b,H2[H.length+5]? =some (.loop .done .ret e p a b))\/
   (¬(eW w 0=0/\iI w 0=w.length)/\H2[H.length+1]? =some (.cells [.int .i64 0])/\∃e p a b,H2[H.length+5]? =some (.loop .done (.exit 0) e p a b))):=by
 obtain⟨H2,c5,hy,dm,gy,jO,lg⟩:=an3 T w H
 rw[<-mS]at hy
 have hlen:(H++tR w H.length).length=H.length+6:=by simp[tR]
 obtain⟨x,aF,q1,aS,b1,cL,et,gz,jI⟩:=PX T (s:=w) (H:=H++tR w H.length) (H2:=H2) (p1:=H.length+2) (p2:=H.length+4) (m:=H.length+3) (L:=H.length+5) (cO:=0) (c5:=c5) (m0:=H.length) (b:=false)
  (by omega) (cx _) (by rw[jT];rfl) (by rw[jT];rfl) (by rw[jT];rfl)
  (st:={aG:=[],av:=[(0,.yield (H.length+5)),(1,.ptr (H.length+2) 0),(2,.ptr (H.length+4) 0),(4,.int .i64 0)],H:=H++tR w H.length,low:=H.length+6}) rfl (by simp) (by rw[hlen];exact aK _) rfl rfl rfl rfl hy (by rw[hlen];omega) dm jO (fun h=>by cases h)
 simp only[FT]at aS
 subst aS
 have jZ:¬H.length+6<=aF.low:=by omega
 refine⟨H2,aF.low,?_,cL,jO,lg⟩
 rw[mE,T.Zt]
 simp[O2,hlen,py E0,q1,b1,jZ]
set_option maxHeartbeats 1000000 in
theorem an5 (T:lN aa)(w:List UInt8)(H:Heap):aM aa (.fn 28 [] []) [.str w] H (.int .i64 (kindOf w)):=by
 unfold aM
 rw[mE,T.anF]
 by_cases h0:w=[]
 ·subst h0
  simp[EY,bS,ed,jL,hD,setCells,jT,pj,tQ,rl,kindOf]
 ·have dI:(w==[])=false:=by cases w<;>simp_all
  by_cases h1:4096<w.length
  ·have af:(4096:Int)<(w.length:Int):=by omega
   simp[EY,bS,ed,jL,hD,setCells,jT,pj,tQ,rl,kindOf,dI,h0,h1,af,qm]
  ·have af:¬(4096:Int)<(w.length:Int):=by omega
   have ht:=Zx T w (H++[.cells [.str w],.cells [.int .i64 0]])
   simp only[gM,ev,ja,eO,mS,jz,jB,pr,Nat.reduceAdd]at ht
   obtain⟨H2,c5,hc,dm,gy,jO⟩:=an4 T w (by omega) H
   simp only[tR,Ft]at hc
   have BX:min H.length c5=H.length:=lP dm
   have an6:min H.length (min c5 (min H2.length (H.length+1)))=H.length:=by omega
   rcases jO with⟨dq,fb,gG,e,p,a,b,iC⟩|⟨dq,gG,e,p,a,b,iC⟩
   ·have hk:kindOf w=fF (w.drop (eW w 0)):=by simp[kindOf,h0,h1,dq,fb]
    have jj:(H2.set (H.length+5) .gone)[H.length+1]? =some (.cells [.int .i64 (fF (w.drop (eW w 0)))]):=by rw[gm (by omega)];exact gG
    rw[hk]
    simp[EY,bS,ed,jL,hD,setCells,jT,pj,tQ,rl,dI,h0,h1,af,qm,ht,F4,xN,wm,hc,iC,jj,eG,BX]
   ·have hk:kindOf w=0:=by simp[kindOf,h0,h1];exact fun h1 h2=>absurd ⟨h1,h2⟩ dq
    have jj:(H2.set (H.length+5) .gone)[H.length+1]? =some (.cells [.int .i64 0]):=by rw[gm (by omega)];exact gG
    have EA:((H2.set (H.length+5) .gone).set (H.length+1) (.cells [.int .i64 0]))[H.length+1]? =some (.cells [.int .i64 0]):=by rw[nU];rw[zT];rcases fX (H.length+1) H2.length with h|h;exact h;rw[lb h]at gG;cases gG
    rw[hk]
    simp[EY,bS,ed,jL,hD,setCells,jT,pj,tQ,rl,dI,h0,h1,af,qm,ht,F4,xN,wm,hc,iC,jj,EA,eG,an6]
end
end Go.Abs.bw
namespace Go.Abs.bw
open Go Go.Abs
noncomputable section
variable{aa:Nat->Option bY}
def vB:V->Bool
 | .cz .. =>true
 | _=>false
section
variable{call:cU}{ae:ag->V}{H:Heap}{low:Nat}
theorem ZD{x:ag}(h:vB (ae x)=true):b2 call ae H low (.len 1 x)=match ae x with
  | .cz l es _ len tag=>(match H[l]? with
    |some (.row bD ds _)=>if bD=es/\ds.length=tag then some (.int .i64 len,H,low)else none
    | _=>none)
  | _=>none:=by
 show step ae H low (.len 1 x)=_
 cases hx:ae x<;>simp_all [vB,step]<;>rfl
theorem ZE (es:Nat)(a b:ag):b2 call ae H low (.copy es a b)=step ae H low (.copy es a b):=rfl
end
structure Fu (aa:Nat->Option bY):Prop where
 an7:aa 126=some (.code Yh)
 an8:aa 218=some (.code Yi)
 an9:aa 60=some (.code Yf)
def u64 (n:Int):V:=.int .u64 n
theorem P0{W:Nat}(h:W<4294967296):dB .and (u64 W) (u64 4294967295)=some (u64 W):=by
 have e:(BitVec.ofInt 64 (W:Int) &&& BitVec.ofInt 64 4294967295).toNat=W:=by
  rw[BitVec.toNat_and]
  have h1:(BitVec.ofInt 64 (W:Int)).toNat=W:=by
   rw[BitVec.toNat_ofInt];omega
  have h2:(BitVec.ofInt 64 4294967295).toNat=2^32-1:=by decide
  rw[h1,h2,Nat.and_two_pow_sub_one_eq_mod]
  omega
 have dI:dB .and (u64 W) (u64 4294967295)=some (.int .u64 (IntKind.u64.wrap ((BitVec.ofInt 64 (W:Int) &&& BitVec.ofInt 64 4294967295).toNat:Int))):=rfl
 rw[dI,e]
 have:IntKind.u64.wrap (W:Int)=W:=by
  have af:(2^IntKind.u64.bits:Int)=18446744073709551616:=rfl
  have s:IntKind.u64.signed=false:=rfl
  simp only[IntKind.wrap,af,s,FT]
  simp;omega
 rw[this];rfl
theorem JV{n:Int}(h1:0<=n)(h2:n<18446744073709551616):IntKind.u64.wrap n=n:=by
 have af:(2^IntKind.u64.bits:Int)=18446744073709551616:=rfl
 have s:IntKind.u64.signed=false:=rfl
 simp only[IntKind.wrap,af,s,FT]
 simp;omega
theorem P1{W:Nat}(h:W<4294967296):dB .shr (u64 W) (u64 32)=some (u64 0):=by
 have:(W:Int)/4294967296=0:=Int.ediv_eq_zero_of_lt (by omega) (by omega)
 simp[u64,dB,IntKind.bits,this]
theorem aoa{W:Nat}(h:W<4294967296):dB .mul (u64 1) (u64 W)=some (u64 W):=by
 simp[u64,dB,JV (n:=(W:Int)) (by omega) (by omega)]
theorem aob{W:Nat}:dB .mul (u64 0) (u64 W)=some (u64 0):=by
 simp[u64,dB,JV (n:=0) (by omega) (by omega)]
theorem dm:dB .and (u64 1) (u64 4294967295)=some (u64 1):=P0 (W:=1) (by decide)
theorem gy:dB .shr (u64 1) (u64 32)=some (u64 0):=P1 (W:=1) (by decide)
theorem jO:dB .add (u64 0) (u64 0)=some (u64 0):=by kernel_rfl
theorem lg:dB .and (u64 0) (u64 4294967295)=some (u64 0):=P0 (W:=0) (by decide)
theorem uv:dB .shr (u64 0) (u64 32)=some (u64 0):=P1 (W:=0) (by decide)
theorem ZF:dB .mul (u64 1) (u64 0)=some (u64 0):=by kernel_rfl
theorem zC:dB .mul (u64 0) (u64 0)=some (u64 0):=by kernel_rfl
set_option maxHeartbeats 1000000 in
theorem aoc (T:Fu aa){W:Nat}(h:W<4294967296)(H:Heap):aM aa (.fn 218 [] []) [u64 1,u64 W] H (.aU [u64 0,u64 W]):=by
 unfold aM
 have c:∀n,V.int .u64 n=u64 n:=fun _=>rfl
 have i1:∀n,bs (u64 n)=true:=fun _=>rfl
 rw[mE,T.an8]
 simp[Yi,dF,S.R,S.lB,S.q,S.k,S.rt,S.gg,S.b0,S.e,S.r,S.o,S.n,S.rg,S.m,S.bF,S.ls,S.c9,S.eq,S.ne,S.lt,S.gt,S.dc,S.no,S.hI,S.st,S.fA,S.gq,S.iG,S.ex,S.c,S.cs,S.h7,S.gI,S.z,S.fn,S.ij,fZ,fQ,gn,h6,jD,cQ,e3,ly,jq,ag.ae,bk,ec,aq.put,eP,bs,bW,fy,hE,finish,old,ez,mA,iT,c,i1,P0 h,P1 h,aoa h,aob,dm,gy,jO,lg,uv,ZF,zC]
theorem aod{call:cU}{ae:ag->V}{H:Heap}{low:Nat}(k:IntKind)(x:ag):b2 call ae H low (.conv k x)=step ae H low (.conv k x):=rfl
set_option maxHeartbeats 1000000 in
theorem aoe (T:Fu aa){W:Nat}(h:W<4294967296)(H:Heap):aM aa (.fn 126 [] []) [.int .u64 1,.int .u64 W] H (.aU [.int .u64 0,.int .u64 W]):=by
 have hm:=aoc T h H
 unfold aM u64 at*
 rw[mE,T.an7]
 simp[Yh,fZ,fQ,gn,h6,iO,jC,jD,lf,jY,cQ,e3,ly,kG,jq,k2,k3,lA,me,lz,jK,mc,nH,ag.ae,bk,ec,aq.put,dB,kS,kR,dX,eP,dF,bs,bW,fy,hE,finish,old,ez,flat,iT,mA,gN,fY,aE,S.R,S.lB,S.q,S.k,S.rt,S.gg,S.b0,S.e,S.r,S.o,S.n,S.rg,S.m,S.bF,S.ls,S.c9,S.eq,S.ne,S.lt,S.gt,S.dc,S.no,S.hI,S.st,S.fA,S.gq,S.iG,S.ex,S.c,S.cs,S.h7,S.gI,S.z,S.fn,S.ij,hm]
def jw (lo hi:Int):V:=.agg [.int .i64 lo,.int .i64 hi]
def P2:V:=.agg [.int .i64 0,.int .i64 0]
def nq (e:V)(m W:Nat):List V:=List.replicate m e++List.replicate (W-m) P2
theorem aof{e:V}{m W:Nat}(h:m<=W):(nq e m W).length=W:=by simp[nq];omega
theorem ZG{e:V}{m W:Nat}:(nq e m W).take m=List.replicate m e:=by simp[nq,List.take_append]
theorem aog{e:V}{m W:Nat}(h:m<=W)(h1:1<=m):(nq e m W).take m++((nq e m W).take m).take (W-m)++(nq e m W).drop (m+min (W-m) m)=nq e (m+min (W-m) m) W:=by
 rw[ZG,List.take_replicate]
 unfold nq
 rw[QS,List.drop_replicate,List.drop_replicate,xE]
 rw[show m-(m+min (W-m) m)=0 by omega]
 simp only[List.replicate_zero,jB]
 rw[show W-m-(m+min (W-m) m-m)=W-(m+min (W-m) m) by omega,List.replicate_append_replicate]
theorem aoh{a b:Int}(m:Nat):lQ ((List.replicate m (jw a b)).flatMap aE)=true:=by
 induction m with
 |zero=>rfl
 |succ m ih=>rw[Ca,kn];simp[jw,aE,lQ,plainCell]at ih⊢; exact ih
set_option maxHeartbeats 1000000 in
theorem aoi (T:Fu aa){a b:Int}{W:Nat}{H:Heap}(hW:W<=1000):∀(j m:Nat) (st:aq),m+j=W->1<=m->st.H=H++[.row 2 (nq (jw a b) m W) false]->H.length<=st.low->st.low<=H.length+1->bk st.av 7=.cz H.length 2 0 W W->bk st.av 8=.int .i64 m->
  ∃aF,dx aa (.loop EZ) st=some (.exit 0,aF)/\aF.H=H++[.row 2 (nq (jw a b) W W) false]/\H.length<=aF.low/\bk aF.av 7=.cz H.length 2 0 W W:=by
 intro j
 induction j using Nat.strongRecOn with
 |ind j ih=>
  intro m st hj hm h1 h2 wA rk ZH
  have jG:=aof (e:=jw a b) (m:=m) (W:=W) (by omega)
  by_cases aoj:m=W
  ·subst aoj
   rw[py]
   refine⟨_,by simp[EZ,fZ,fQ,gn,h6,iO,jC,jD,lf,jY,cQ,e3,ly,kG,jq,k2,k3,lA,me,lz,jK,mc,ag.ae,bk,fB,aq.put,dB,kS,kR,dX,eP,dF,bs,bW,fy,hE,finish,old,ez,flat,iT,mA,gN,fY,MR,S.R,S.lB,S.q,S.k,S.rt,S.gg,S.b0,S.e,S.r,S.o,S.n,S.rg,S.m,S.bF,S.ls,S.c9,S.eq,S.ne,S.lt,S.gt,S.dc,S.no,S.hI,S.st,S.fA,S.gq,S.iG,S.ex,S.c,S.cs,S.h7,S.gI,S.z,S.fn,S.ij,h1,rk,ZH,ZD,vB,pj,jG];rfl,?_⟩
   exact⟨by simp,by simp;omega,by simp[fB,rk]⟩
  ·have aX:(m:Int)<(W:Int):=by omega
   have EI:m<W:=by omega
   have KU:m<=W:=by omega
   have aok:=aoh (a:=a) (b:=b) m
   have cd:=aog (e:=jw a b) (m:=m) (W:=W) (by omega) hm
   have hw:IntKind.i64.wrap ((m:Int)+((min (W-m) m:Nat):Int))=((m+min (W-m) m:Nat):Int):=by rw[wrap_small]<;>omega
   have zB:=ZG (e:=jw a b) (m:=m) (W:=W)
   have oW:(List.replicate m (jw a b)).length=m:=by simp
   have aol:m+(W-m)=W:=by omega
   have Fb:∃b4,dx aa EZ st=some (.normal,b4)/\b4.H=H++[.row 2 (nq (jw a b) (m+min (W-m) m) W) false]/\H.length<=b4.low/\b4.low<=H.length+1/\bk b4.av 7=.cz H.length 2 0 W W/\bk b4.av 8=.int .i64 ((m+min (W-m) m:Nat):Int):=by
    generalize gr:nq (jw a b) m W=P at*
    have fi:0<m:=hm
    refine⟨_,by simp[EZ,fZ,fQ,gn,h6,iO,jC,jD,lf,jY,cQ,e3,ly,kG,jq,k2,k3,lA,me,lz,jK,mc,ag.ae,bk,fB,aq.put,dB,kS,kR,dX,eP,dF,bs,bW,fy,hE,finish,old,ez,flat,iT,mA,gN,fY,MR,S.R,S.lB,S.q,S.k,S.rt,S.gg,S.b0,S.e,S.r,S.o,S.n,S.rg,S.m,S.bF,S.ls,S.c9,S.eq,S.ne,S.lt,S.gt,S.dc,S.no,S.hI,S.st,S.fA,S.gq,S.iG,S.ex,S.c,S.cs,S.h7,S.gI,S.z,S.fn,S.ij,h1,rk,ZH,ZD,vB,pj,rl,jG,aX,EI,KU,fi,TY,ZE,step,eF,elems,zB,oW,aok,aol,hw,eG,nX,rD,fw,-List.take_replicate];exact⟨.inl (.inl ⟨by decide,by decide⟩),rfl⟩,?_⟩
    refine⟨?_,by simp;omega,by simp;omega,by simp[fB,rk],by simp[fB]⟩
    rw[zB]at cd
    simp[<-cd,-List.take_replicate]
   obtain⟨b4,q1,aS,b1,cL,et,gz⟩:=Fb
   obtain⟨aF,bA,b9⟩:=ih (W-(m+min (W-m) m)) (by omega) (m+min (W-m) m) b4 (by omega) (by omega) aS b1 cL et gz
   exact⟨aF,by rw[py,q1];exact bA,b9⟩
theorem ZI (a b:Int):∀m,bW (List.replicate m (jw a b))=true
 |0=>rfl
 |m+1=>by rw[Ca];simp only[bW,ZI a b m,xH];rfl
theorem aom (n:Nat)(a b:Int)(m:Nat):ez n (List.replicate m (jw a b))=true:=by
 induction m with
 |zero=>rfl
 |succ m ih=>rw[Ca];simp only[ez,ih,xH];rfl
set_option maxHeartbeats 2000000 in
theorem aon (T:Fu aa){a b:Int}{W:Nat}(hW:W<=1000)(h1:1<=W)(H:Heap):
  bZ aa (.fn 60 [] []) [.list 2 [jw a b],.int .i64 W] H=some (.list 2 (List.replicate W (jw a b)),H,H.length):=by
 have hm:=aoe T (W:=W) (by omega) H
 unfold aM at hm
 have Gi:IntKind.u64.wrap 1=1:=JV (by omega) (by omega)
 have s0:IntKind.u64.wrap (W:Int)=W:=JV (by omega) (by omega)
 have hi:IntKind.i64.wrap (W:Int)=W:=by rw[wrap_small]<;>omega
 have aoo:¬(W:Int)<0:=by omega
 have YM:¬(W:Int)>9223372036854775807:=by omega
 have aop:¬(9223372036854775807:Int)<(W:Int):=by omega
 have e4:(W:Int)*17<=1099511627776:=by omega
 have Gh:¬(W:Int)=0:=by omega
 have aoq:¬W=0:=by omega
 have C9:(0:Int)<=W:=by omega
 have BX:min W 1=1:=by omega
 have Au:lQ (List.flatMap aE [jw a b])=true:=rfl
 have aor:nq (jw a b) 1 W=jw a b::List.replicate (W-1) P2:=rfl
 have aos:nq (jw a b) W W=List.replicate W (jw a b):=by simp[nq]
 obtain⟨aF,bA,b9,eD,gx⟩:=aoi T (a:=a) (b:=b) (W:=W) (H:=H) hW (W-1) 1
  {aG:=[],av:=[(0,.list 2 [jw a b]),(1,.int .i64 W),(4,.cp),(10,.bool false),(5,.int .u64 0),(6,.int .u64 W),(26,.bool false),(7,.cz H.length 2 0 W W),(8,.int .i64 1)],H:=H++[.row 2 (nq (jw a b) 1 W) false],low:=H.length} (by omega) (aK _) rfl (aK _) (by simp) rfl rfl
 rw[aos]at b9
 have P3:=ZI a b W
 have hold:=aom H.length a b W
 have aot:List.take W [jw a b]=[jw a b]:=B5 (by simpa using h1)
 have aT:V.agg [V.int .i64 0,V.int .i64 0]=P2:=rfl
 rw[aor]at bA
 rw[mE,T.an9]
 have gY:yD 2 (V.list 2 [jw a b])=true:=rfl
 have P4:(el (V.list 2 [jw a b])).length=1:=rfl
 simp[Yf,fZ,fQ,gn,h6,iO,jC,jD,lf,jY,cQ,e3,ly,kG,jq,k2,k3,lA,me,lz,jK,mc,ag.ae,bk,ec,aq.put,dB,kS,kR,dX,eP,dF,bs,bW,fy,hE,finish,old,ez,flat,iT,mA,gN,fY,MR,S.R,S.lB,S.q,S.k,S.rt,S.gg,S.b0,S.e,S.r,S.o,S.n,S.rg,S.m,S.bF,S.ls,S.c9,S.eq,S.ne,S.lt,S.gt,S.dc,S.no,S.hI,S.st,S.fA,S.gq,S.iG,S.ex,S.c,S.cs,S.h7,S.gI,S.z,S.fn,S.ij,T1 2,gY,P4,aod,step,Gi,s0,hi,hm,aoo,YM,aop,MH,kT,aT,e4,Gh,aoq,C9,ZE,elems,pj,rl,aot,Au,BX,bA,b9,eD,gx,hold,P3,fB,-List.flatMap_cons]
theorem aou (T:Fu aa):akH aa:=by
 intro H0 x n r h
 unfold DJ at h
 split at h
 ·rename_i hc
  obtain⟨h1,h2,ar⟩:=hc
  cases h
  obtain⟨rg,hx⟩:∃rg,x=.mk [rg]:=by
   cases x with
   |nil=>simp[ak.l]at h1
   |emp=>simp[ak.l]at h1
   |mk l=>match l,h1 with
    |[rg],_=>exact⟨rg,rfl⟩
  subst hx
  obtain⟨W,rfl⟩:=Kg (show 0<=n by omega)
  have:=aon T (a:=rg.kI) (b:=rg.kJ) (W:=W) (by omega) (by omega) H0
  have e:(List.replicate ((W:Int)).toNat (ak.mk [rg]).l).flatten=List.replicate W rg:=by
   rw[FL]
   show(List.replicate W [rg]).flatten=_
   simp
  rw[e]
  show bZ aa (.fn 60 [] []) [.list 2 [pS rg],aD (W:Int)] H0=some (.list 2 ((List.replicate W rg).map pS),H0,H0.length)
  rw[List.map_replicate]
  exact this
 ·cases h
end
end Go.Abs.bw
set_option maxRecDepth 100000
namespace Go.Abs.bw
open Go Go.Abs Go.Proofs
noncomputable section
variable{g:Nat->Option Obj}
theorem aov (aow:∀(G:bX) (H:Heap) (w:World),aZ (C g) id G H w->Lib.TabIs Tryz.prog w "internal/strconv.uint64pow10" .u64 Lib.pow10Tab)(pM:∀(G:bX) (H:Heap) (w:World),aZ (C g) id G H w->Lib.TabIs Tryz.prog w "strings.asciiSpace" .u8 Lib.asciiSpaceTab):dU (C g) id (gf g):=by
 refine⟨fun i f h=> ?_,fun i sp h=> ?_⟩
 ·unfold gf at h
  split at h
  ·cases h
  ·split at h
   ·rename_i fn im
    split at h
    ·rename_i a ao
     cases h
     obtain⟨c,-,-,-,-,-,er⟩:=GV ao
     exact⟨fn,im,by rw[er];exact ao⟩
    ·cases h
   ·cases h
 ·unfold gf at h
  split at h
  ·rename_i s hs
   cases h
   unfold TM at hs
   split at hs<;>first|(cases hs;done)|skip
   ·cases hs;exact afK
   ·cases hs;exact afL aow
   ·cases hs;exact afN
   ·cases hs;exact afO pM
   ·cases hs;exact afM
   ·cases hs;exact afR
   ·cases hs;exact afU
  ·split at h
   ·split at h<;>cases h
   ·cases h
def P5:Option bY->Bool
 |some (.code _)=>true
 | _=>false
theorem ZJ{o:Option bY}(h:P5 o=true):∃f,o=some (.code f):=by
 match o,h with
 |some (.code f),_=>exact⟨f,rfl⟩
theorem nr{aa:Nat->Option bY}{n i:Nat}{l:List (List V × V)}(hT:dU (C g) id aa)(hc:P5 (aa i)=true)(h:jf aa n i l):dU (C g) id (over aa i (je l)):=by
 obtain⟨f,ab⟩:=ZJ hc
 exact De hT (GY mixed tg hT ab h)
theorem aox (h:dU (C g) id (gf g)):dU (C g) id (sa g):=De h (mK.GY mixed tg (Db mixed tg h 60) Tryz.func191 (agd g) (agf g))
theorem aoy (h:dU (C g) id (gf g)):dU (C g) id (Hg g):=nr (aox h) (by kernel_rfl) (agp g)
theorem aoz (h:dU (C g) id (gf g)):dU (C g) id (Hh g):=nr (aoy h) (by kernel_rfl) (agr g)
theorem aoA (h:dU (C g) id (gf g)):dU (C g) id (Hi g):=nr (aoz h) (by kernel_rfl) (agt g)
theorem aoB (h:dU (C g) id (gf g)):dU (C g) id (Dw g):=nr (aoA h) (by kernel_rfl) (agv g)
theorem aoC (h:dU (C g) id (gf g)):dU (C g) id (Hj g):=nr (aoB h) (by kernel_rfl) (agy g)
theorem aoD (h:dU (C g) id (gf g)):dU (C g) id (kb g):=nr (aoC h) (by kernel_rfl) (agA g)
theorem aoE (h:dU (C g) id (gf g)):dU (C g) id (Hk g):=nr (aoD h) (by kernel_rfl) (agV g)
theorem aoF (h:dU (C g) id (gf g)):dU (C g) id (Hl g):=nr (aoE h) (by kernel_rfl) (agX g)
theorem aoG (h:dU (C g) id (gf g)):dU (C g) id (Hm g):=nr (aoF h) (by kernel_rfl) (agZ g)
theorem aoH (h:dU (C g) id (gf g)):dU (C g) id (Hn g):=nr (aoG h) (by kernel_rfl) (ag1 g)
theorem aoI (h:dU (C g) id (gf g)):dU (C g) id (Ho g):=nr (aoH h) (by kernel_rfl) (ag3 g)
theorem aoJ (h:dU (C g) id (gf g)):dU (C g) id (Dx g):=nr (aoI h) (by kernel_rfl) (ag5 g)
theorem aoK (h:dU (C g) id (gf g)):dU (C g) id (Hp g):=nr (aoJ h) (by kernel_rfl) (ag8 g)
theorem ZK (h:dU (C g) id (gf g)):dU (C g) id (ML g):=nr (aoK h) (by kernel_rfl) (aha g)
theorem aoL (h:dU (C g) id (gf g)):dU (C g) id (Hq g):=De (ZK h) (mK.GY mixed tg (Db mixed tg (ZK h) 200) Tryz.func49 (age g) (ahb g))
theorem aoM (h:dU (C g) id (gf g)):dU (C g) id (Hr g):=nr (aoL h) (by kernel_rfl) (ahd g)
theorem aoN (h:dU (C g) id (gf g)):dU (C g) id (Hs g):=nr (aoM h) (by kernel_rfl) (ahf g)
theorem aoO (h:dU (C g) id (gf g)):dU (C g) id (MM g):=nr (aoN h) (by kernel_rfl) (ahh g)
theorem aoP (h:dU (C g) id (gf g)):og (C g) id 4 (Dd [] (.bool true)):=by
 obtain⟨f,ab⟩:=ZJ (show P5 (MM g 4)=true by kernel_rfl)
 exact aeV mixed tg (aoO h) ab rfl (ahi g)
end
end Go.Abs.bw
namespace Go.Abs.bw
open Go Go.Abs Go.Abs.gK
theorem di:gC bn where
 k5:=fun t x B ρ fs=>match t,x with
  |0,x=>.int
  |1,x=>(.XS (XT (i:=0) rfl))
  |2,x=>.str
  |3,x=>.int
  |4,x=>.agg (.cons .int (.cons .int (.cons .int .nil)))
  |5,x=>.sl
  |6,x=>.sl
  |7,x=>.agg (.cons .int (.cons .int .nil))
  |8,x=>.agg (.cons .str (.cons .int (.cons .sl (.cons .int (.cons .int (.cons .int .nil))))))
  |9,x=>.sl
  |10,x=>.sl
  |11,x=>.agg (.cons .int (.cons .int .nil))
  |12,x=>.sl
  |13,x=>.agg (.cons .sl (.cons .int .nil))
  |14,x=>.agg (.cons .int (.cons .int (.cons .sl (.cons .int (.cons .int (.cons .int .nil))))))
  |15,x=>.sl
  |16,x=>.agg (.cons .str (.cons (.XS (XT (i:=0) rfl)) (.cons .sl .nil)))
  |17,x=>.sl
  |18,x=>.agg (.cons .int (.cons .int .nil))
  |19,x=>.sl
  |20,x=>.sl
  |21,x=>.agg (.cons .int (.cons .int (.cons .int .nil)))
  |22,x=>.sl
  |23,x=>.agg (.cons .sl (.cons .sl (.cons .sl .nil)))
  |24,x=>.agg (.cons .int (.cons .sl (.cons .sl (.cons .sl (.cons .sl .nil)))))
  |25,x=>.sl
  |26,x=>.agg (.cons .sl (.cons .sl (.cons .sl (.cons .sl (.cons .sl (.cons .sl (.cons .sl .nil)))))))
  |27,x=>.sl
  |28,x=>.sl
  |29,x=>.agg (.cons .sl (.cons .sl (.cons .sl (.cons .sl (.cons .sl (.cons .sl (.cons .sl (.cons .sl .nil))))))))
  | _+30,_=>.k
 iu:=fun t v B ρ fs w x ad h=>match t,x,h with
  |0,x,h=>jv (J:=bn) (k:=.i64) (n:=x) (v:=v) h ad
  |1,x,h=>XU (J:=bn) (B:=B) (c:=x) (v:=v) h ad
  |2,x,h=>OZ (J:=bn) (s:=x) (v:=v) h ad
  |3,x,h=>jv (J:=bn) (k:=.u8) (n:=x) (v:=v) h ad
  |4,x,h=>by
   obtain⟨vs,ws,rfl,hr,h⟩:=qg (J:=bn) h ad
   split at h
   ·obtain⟨_,_,rfl,gU,hr⟩:=bm.inv hr;obtain⟨_,_,rfl,q1,hr⟩:=bm.inv hr;obtain⟨_,_,rfl,aS,hr⟩:=bm.inv hr;cases bm.qd hr
    obtain⟨c6,h0,h⟩:=dZ.1 h
    obtain⟨cb,h1,h⟩:=dZ.1 h
    obtain⟨dR,h2,h⟩:=dZ.1 h
    cases h
    rw[jv h0 gU,jv h1 q1,jv h2 aS];rfl
   ·cases h
  |5,x,h=>fG (J:=bn) (t:=4) h ad
  |6,x,h=>fG (J:=bn) (t:=0) h ad
  |7,x,h=>by
   obtain⟨vs,ws,rfl,hr,h⟩:=qg (J:=bn) h ad
   split at h
   ·obtain⟨_,_,rfl,gU,hr⟩:=bm.inv hr;obtain⟨_,_,rfl,q1,hr⟩:=bm.inv hr;cases bm.qd hr
    obtain⟨c6,h0,h⟩:=dZ.1 h
    obtain⟨cb,h1,h⟩:=dZ.1 h
    cases h
    rw[jv h0 gU,jv h1 q1];rfl
   ·cases h
  |8,x,h=>by
   obtain⟨vs,ws,rfl,hr,h⟩:=qg (J:=bn) h ad
   split at h
   ·obtain⟨_,_,rfl,gU,hr⟩:=bm.inv hr;obtain⟨_,_,rfl,q1,hr⟩:=bm.inv hr;obtain⟨_,_,rfl,aS,hr⟩:=bm.inv hr;obtain⟨_,_,rfl,b1,hr⟩:=bm.inv hr;obtain⟨_,_,rfl,cL,hr⟩:=bm.inv hr;obtain⟨_,_,rfl,et,hr⟩:=bm.inv hr;cases bm.qd hr
    obtain⟨c6,h0,h⟩:=dZ.1 h
    obtain⟨cb,h1,h⟩:=dZ.1 h
    obtain⟨dR,h2,h⟩:=dZ.1 h
    obtain⟨gR,ar,h⟩:=dZ.1 h
    obtain⟨kK,aQ,h⟩:=dZ.1 h
    obtain⟨fl,h5,h⟩:=dZ.1 h
    cases h
    rw[OZ h0 gU,jv h1 q1,fG (J:=bn) (t:=0) h2 aS,jv ar b1,jv aQ cL,jv h5 et];rfl
   ·cases h
  |9,x,h=>fG (J:=bn) (t:=8) h ad
  |10,x,h=>fG (J:=bn) (t:=2) h ad
  |11,x,h=>by
   obtain⟨vs,ws,rfl,hr,h⟩:=qg (J:=bn) h ad
   split at h
   ·obtain⟨_,_,rfl,gU,hr⟩:=bm.inv hr;obtain⟨_,_,rfl,q1,hr⟩:=bm.inv hr;cases bm.qd hr
    obtain⟨c6,h0,h⟩:=dZ.1 h
    obtain⟨cb,h1,h⟩:=dZ.1 h
    cases h
    rw[jv h0 gU,jv h1 q1];rfl
   ·cases h
  |12,x,h=>fG (J:=bn) (t:=11) h ad
  |13,x,h=>by
   obtain⟨vs,ws,rfl,hr,h⟩:=qg (J:=bn) h ad
   split at h
   ·obtain⟨_,_,rfl,gU,hr⟩:=bm.inv hr;obtain⟨_,_,rfl,q1,hr⟩:=bm.inv hr;cases bm.qd hr
    obtain⟨c6,h0,h⟩:=dZ.1 h
    obtain⟨cb,h1,h⟩:=dZ.1 h
    cases h
    rw[fG (J:=bn) (t:=11) h0 gU,jv h1 q1];rfl
   ·cases h
  |14,x,h=>by
   obtain⟨vs,ws,rfl,hr,h⟩:=qg (J:=bn) h ad
   split at h
   ·obtain⟨_,_,rfl,gU,hr⟩:=bm.inv hr;obtain⟨_,_,rfl,q1,hr⟩:=bm.inv hr;obtain⟨_,_,rfl,aS,hr⟩:=bm.inv hr;obtain⟨_,_,rfl,b1,hr⟩:=bm.inv hr;obtain⟨_,_,rfl,cL,hr⟩:=bm.inv hr;obtain⟨_,_,rfl,et,hr⟩:=bm.inv hr;cases bm.qd hr
    obtain⟨c6,h0,h⟩:=dZ.1 h
    obtain⟨cb,h1,h⟩:=dZ.1 h
    obtain⟨dR,h2,h⟩:=dZ.1 h
    obtain⟨gR,ar,h⟩:=dZ.1 h
    obtain⟨kK,aQ,h⟩:=dZ.1 h
    obtain⟨fl,h5,h⟩:=dZ.1 h
    cases h
    rw[jv h0 gU,jv h1 q1,fG (J:=bn) (t:=11) h2 aS,jv ar b1,jv aQ cL,jv h5 et];rfl
   ·cases h
  |15,x,h=>fG (J:=bn) (t:=14) h ad
  |16,x,h=>by
   obtain⟨vs,ws,rfl,hr,h⟩:=qg (J:=bn) h ad
   split at h
   ·obtain⟨_,_,rfl,gU,hr⟩:=bm.inv hr;obtain⟨_,_,rfl,q1,hr⟩:=bm.inv hr;obtain⟨_,_,rfl,aS,hr⟩:=bm.inv hr;cases bm.qd hr
    obtain⟨c6,h0,h⟩:=dZ.1 h
    obtain⟨cb,h1,h⟩:=dZ.1 h
    obtain⟨dR,h2,h⟩:=dZ.1 h
    cases h
    rw[OZ h0 gU,XU h1 q1,fG (J:=bn) (t:=0) h2 aS];rfl
   ·cases h
  |17,x,h=>fG (J:=bn) (t:=16) h ad
  |18,x,h=>by
   obtain⟨vs,ws,rfl,hr,h⟩:=qg (J:=bn) h ad
   split at h
   ·obtain⟨_,_,rfl,gU,hr⟩:=bm.inv hr;obtain⟨_,_,rfl,q1,hr⟩:=bm.inv hr;cases bm.qd hr
    obtain⟨c6,h0,h⟩:=dZ.1 h
    obtain⟨cb,h1,h⟩:=dZ.1 h
    cases h
    rw[jv h0 gU,jv h1 q1];rfl
   ·cases h
  |19,x,h=>fG (J:=bn) (t:=18) h ad
  |20,x,h=>fG (J:=bn) (t:=13) h ad
  |21,x,h=>by
   obtain⟨vs,ws,rfl,hr,h⟩:=qg (J:=bn) h ad
   split at h
   ·obtain⟨_,_,rfl,gU,hr⟩:=bm.inv hr;obtain⟨_,_,rfl,q1,hr⟩:=bm.inv hr;obtain⟨_,_,rfl,aS,hr⟩:=bm.inv hr;cases bm.qd hr
    obtain⟨c6,h0,h⟩:=dZ.1 h
    obtain⟨cb,h1,h⟩:=dZ.1 h
    obtain⟨dR,h2,h⟩:=dZ.1 h
    cases h
    rw[jv h0 gU,jv h1 q1,jv h2 aS];rfl
   ·cases h
  |22,x,h=>fG (J:=bn) (t:=21) h ad
  |23,x,h=>by
   obtain⟨vs,ws,rfl,hr,h⟩:=qg (J:=bn) h ad
   split at h
   ·obtain⟨_,_,rfl,gU,hr⟩:=bm.inv hr;obtain⟨_,_,rfl,q1,hr⟩:=bm.inv hr;obtain⟨_,_,rfl,aS,hr⟩:=bm.inv hr;cases bm.qd hr
    obtain⟨c6,h0,h⟩:=dZ.1 h
    obtain⟨cb,h1,h⟩:=dZ.1 h
    obtain⟨dR,h2,h⟩:=dZ.1 h
    cases h
    rw[fG (J:=bn) (t:=18) h0 gU,fG (J:=bn) (t:=13) h1 q1,fG (J:=bn) (t:=21) h2 aS];rfl
   ·cases h
  |24,x,h=>by
   obtain⟨vs,ws,rfl,hr,h⟩:=qg (J:=bn) h ad
   split at h
   ·obtain⟨_,_,rfl,gU,hr⟩:=bm.inv hr;obtain⟨_,_,rfl,q1,hr⟩:=bm.inv hr;obtain⟨_,_,rfl,aS,hr⟩:=bm.inv hr;obtain⟨_,_,rfl,b1,hr⟩:=bm.inv hr;obtain⟨_,_,rfl,cL,hr⟩:=bm.inv hr;cases bm.qd hr
    obtain⟨c6,h0,h⟩:=dZ.1 h
    obtain⟨cb,h1,h⟩:=dZ.1 h
    obtain⟨dR,h2,h⟩:=dZ.1 h
    obtain⟨gR,ar,h⟩:=dZ.1 h
    obtain⟨kK,aQ,h⟩:=dZ.1 h
    cases h
    rw[jv h0 gU,fG (J:=bn) (t:=0) h1 q1,fG (J:=bn) (t:=18) h2 aS,fG (J:=bn) (t:=13) ar b1,fG (J:=bn) (t:=21) aQ cL];rfl
   ·cases h
  |25,x,h=>fG (J:=bn) (t:=24) h ad
  |26,x,h=>by
   obtain⟨vs,ws,rfl,hr,h⟩:=qg (J:=bn) h ad
   split at h
   ·obtain⟨_,_,rfl,gU,hr⟩:=bm.inv hr;obtain⟨_,_,rfl,q1,hr⟩:=bm.inv hr;obtain⟨_,_,rfl,aS,hr⟩:=bm.inv hr;obtain⟨_,_,rfl,b1,hr⟩:=bm.inv hr;obtain⟨_,_,rfl,cL,hr⟩:=bm.inv hr;obtain⟨_,_,rfl,et,hr⟩:=bm.inv hr;obtain⟨_,_,rfl,gz,hr⟩:=bm.inv hr;cases bm.qd hr
    obtain⟨c6,h0,h⟩:=dZ.1 h
    obtain⟨cb,h1,h⟩:=dZ.1 h
    obtain⟨dR,h2,h⟩:=dZ.1 h
    obtain⟨gR,ar,h⟩:=dZ.1 h
    obtain⟨kK,aQ,h⟩:=dZ.1 h
    obtain⟨fl,h5,h⟩:=dZ.1 h
    obtain⟨oo,ft,h⟩:=dZ.1 h
    cases h
    rw[fG (J:=bn) (t:=0) h0 gU,fG (J:=bn) (t:=8) h1 q1,fG (J:=bn) (t:=2) h2 aS,fG (J:=bn) (t:=14) ar b1,fG (J:=bn) (t:=16) aQ cL,fG (J:=bn) (t:=24) h5 et,fG (J:=bn) (t:=4) ft gz];rfl
   ·cases h
  |27,x,h=>fG (J:=bn) (t:=1) h ad
  |28,x,h=>fG (J:=bn) (t:=7) h ad
  |29,x,h=>by
   obtain⟨vs,ws,rfl,hr,h⟩:=qg (J:=bn) h ad
   split at h
   ·obtain⟨_,_,rfl,gU,hr⟩:=bm.inv hr;obtain⟨_,_,rfl,q1,hr⟩:=bm.inv hr;obtain⟨_,_,rfl,aS,hr⟩:=bm.inv hr;obtain⟨_,_,rfl,b1,hr⟩:=bm.inv hr;obtain⟨_,_,rfl,cL,hr⟩:=bm.inv hr;obtain⟨_,_,rfl,et,hr⟩:=bm.inv hr;obtain⟨_,_,rfl,gz,hr⟩:=bm.inv hr;obtain⟨_,_,rfl,jI,hr⟩:=bm.inv hr;cases bm.qd hr
    obtain⟨c6,h0,h⟩:=dZ.1 h
    obtain⟨cb,h1,h⟩:=dZ.1 h
    obtain⟨dR,h2,h⟩:=dZ.1 h
    obtain⟨gR,ar,h⟩:=dZ.1 h
    obtain⟨kK,aQ,h⟩:=dZ.1 h
    obtain⟨fl,h5,h⟩:=dZ.1 h
    obtain⟨oo,ft,h⟩:=dZ.1 h
    obtain⟨mm,kZ,h⟩:=dZ.1 h
    cases h
    rw[fG (J:=bn) (t:=0) h0 gU,fG (J:=bn) (t:=8) h1 q1,fG (J:=bn) (t:=2) h2 aS,fG (J:=bn) (t:=14) ar b1,fG (J:=bn) (t:=16) aQ cL,fG (J:=bn) (t:=24) h5 et,fG (J:=bn) (t:=4) ft gz,fG (J:=bn) (t:=7) kZ jI];rfl
   ·cases h
  | _+30,_,h=>by cases h
 bs:=fun t x=>match t,x with
  |0,x=>rfl
  |1,x=>rfl
  |2,x=>rfl
  |3,x=>rfl
  |4,x=>ahU x
  |5,x=>o7 _ _ _
  |6,x=>o7 _ _ _
  |7,x=>ahW x
  |8,x=>ahY x
  |9,x=>o7 _ _ _
  |10,x=>o7 _ _ _
  |11,x=>ah0 x
  |12,x=>o7 _ _ _
  |13,x=>ah2 x
  |14,x=>ah4 x
  |15,x=>o7 _ _ _
  |16,x=>ah6 x
  |17,x=>o7 _ _ _
  |18,x=>ah8 x
  |19,x=>o7 _ _ _
  |20,x=>o7 _ _ _
  |21,x=>aia x
  |22,x=>o7 _ _ _
  |23,x=>aic x
  |24,x=>aie x
  |25,x=>o7 _ _ _
  |26,x=>aih x
  |27,x=>o7 _ _ _
  |28,x=>o7 _ _ _
  |29,x=>aij x
  | _+30,_=>rfl
 ok:=fun t x=>match t,x with
  |0,x=>rfl
  |1,x=>rfl
  |2,x=>rfl
  |3,x=>rfl
  |4,x=>ahV x
  |5,x=>qe _ _ _
  |6,x=>qe _ _ _
  |7,x=>ahX x
  |8,x=>ahZ x
  |9,x=>qe _ _ _
  |10,x=>qe _ _ _
  |11,x=>ah1 x
  |12,x=>qe _ _ _
  |13,x=>ah3 x
  |14,x=>ah5 x
  |15,x=>qe _ _ _
  |16,x=>ah7 x
  |17,x=>qe _ _ _
  |18,x=>ah9 x
  |19,x=>qe _ _ _
  |20,x=>qe _ _ _
  |21,x=>aib x
  |22,x=>qe _ _ _
  |23,x=>aid x
  |24,x=>aif x
  |25,x=>qe _ _ _
  |26,x=>aii x
  |27,x=>qe _ _ _
  |28,x=>qe _ _ _
  |29,x=>aik x
  | _+30,_=>rfl
 es:=fun t x=>match t,x with
  |0,x=>rfl
  |1,x=>rfl
  |2,x=>rfl
  |3,x=>rfl
  |4,x=>rfl
  |5,x=>qf _ _ _
  |6,x=>qf _ _ _
  |7,x=>rfl
  |8,x=>rfl
  |9,x=>qf _ _ _
  |10,x=>qf _ _ _
  |11,x=>rfl
  |12,x=>qf _ _ _
  |13,x=>rfl
  |14,x=>rfl
  |15,x=>qf _ _ _
  |16,x=>rfl
  |17,x=>qf _ _ _
  |18,x=>rfl
  |19,x=>qf _ _ _
  |20,x=>qf _ _ _
  |21,x=>rfl
  |22,x=>qf _ _ _
  |23,x=>rfl
  |24,x=>rfl
  |25,x=>qf _ _ _
  |26,x=>rfl
  |27,x=>qf _ _ _
  |28,x=>qf _ _ _
  |29,x=>rfl
  | _+30,_=>rfl
 aR:=fun t x=>match t,x with
  |0,x=>fun h=>rfl
  |1,x=>fun h=>rfl
  |2,x=>fun h=>rfl
  |3,x=>fun h=>rfl
  |4,x=>fun h=>by cases h
  |5,x=>fun h=>by cases h
  |6,x=>fun h=>by cases h
  |7,x=>fun h=>by cases h
  |8,x=>fun h=>by cases h
  |9,x=>fun h=>by cases h
  |10,x=>fun h=>by cases h
  |11,x=>fun h=>by cases h
  |12,x=>fun h=>by cases h
  |13,x=>fun h=>by cases h
  |14,x=>fun h=>by cases h
  |15,x=>fun h=>by cases h
  |16,x=>fun h=>by cases h
  |17,x=>fun h=>by cases h
  |18,x=>fun h=>by cases h
  |19,x=>fun h=>by cases h
  |20,x=>fun h=>by cases h
  |21,x=>fun h=>by cases h
  |22,x=>fun h=>by cases h
  |23,x=>fun h=>by cases h
  |24,x=>fun h=>by cases h
  |25,x=>fun h=>by cases h
  |26,x=>fun h=>by cases h
  |27,x=>fun h=>by cases h
  |28,x=>fun h=>by cases h
  |29,x=>fun h=>by cases h
  | _+30,_=>fun h=>by cases h
 WG:=fun t n h=>by
  have h:N4 t=some n:=h
  unfold N4 at h
  split at h<;>cases h
  ·exact DD
  ·exact ahw
end Go.Abs.bw
