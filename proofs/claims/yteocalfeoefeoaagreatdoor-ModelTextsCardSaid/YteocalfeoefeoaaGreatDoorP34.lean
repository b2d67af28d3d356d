/- Texts of this claim, joined and written short by a program. -/
import Derived.Test.YteocalfeoefeoaaGreatDoorP33
import Derived.Test.YteocalfeoefeoaaGreatDoorP32
import Derived.Test.YteocalfeoefeoaaGreatDoorP31
import Derived.Test.YteocalfeoefeoaaGreatDoorP00
set_option linter.unusedVariables false
set_option linter.unusedSimpArgs false
set_option linter.unusedSectionVars false
namespace Go.Abs.mN
open Go Go.Abs Go.Abs.Lex
theorem afS{sep:List UInt8}{B:Nat}:∀{ws:List (List UInt8)},(∀w∈ws,w.length<=B)->(Lib.joinTail sep ws).length<=ws.length*(sep.length+B)
 |[],_=>by simp[Lib.joinTail]
 |w::ws,h=>by
  have h1:=h w (by simp);have h2:=afS (sep:=sep) (ws:=ws) fun x hx=>h x (by simp[hx]);have e:Lib.joinTail sep (w::ws)=sep++w++Lib.joinTail sep ws:=by simp[Lib.joinTail]
  rw[e];simp only[gM,ev,rC,Nat.one_mul];omega
theorem aq3{sep:List UInt8}{B:Nat}{ws:List (List UInt8)}(h:∀w∈ws,w.length<=B):(Lib.join ws sep).length<=ws.length*(sep.length+B):=by
 cases ws with
 |nil=>simp[Lib.join]
 |cons w ws=>
  have h1:=h w (by simp);have h2:=afS (sep:=sep) (ws:=ws) fun x hx=>h x (by simp[hx]);rw[Lib.join_cons];simp only[gM,ev,rC,Nat.one_mul];omega
theorem afT{out:ak bH}(ho:out.l.length<=100)(x:bH):lG 16 out (.mk [x])=some (.mk (out.l++[x])):=by
 have h:((out.l.length+([x]:List bH).length)*(16+1)<=2^40):=by simp only[ev,ja];omega
 unfold lG;exact(if_neg (List.cons_ne_nil x [])).trans (if_pos h)
def oX (ds:List Int):List bH:=ds.map Lib.itoa
def rn (ds:List Int):ak bH:=if ds=[]then .nil else .mk (oX ds)
theorem TR (ds:List Int):(rn ds).l=oX ds:=by
 unfold rn;split
 ·rename_i h;subst h;rfl
 ·rfl
theorem afZ{d:Int}(h:-9999<=d/\d<=9999):strconv_Itoa d=some (Lib.itoa d):=by
 unfold strconv_Itoa;rw[if_pos (by omega)]
theorem Uw{d:Int}(h:-9999<=d/\d<=9999):(Lib.itoa d).length<=5:=by
 unfold Lib.itoa;split
 ·have:=Up 3 d.natAbs (by simp;omega)
  simp only[ev];omega
 ·have:=Up 3 d.toNat (by simp;omega)
  omega
theorem J4{ds:List Int}(h:vp ds):(Lib.join (oX ds) [44,32]).length<=ds.length*7:=by
 have h1:=aq3 (sep:=[44,32]) (B:=5) (ws:=oX ds) fun w hw=>by
  obtain⟨d,hd,rfl⟩:=ey.1 hw;exact Uw (h d hd)
 have h2:(oX ds).length=ds.length:=by simp[oX]
 rw[h2]at h1;simpa using h1
theorem aq4 (a:Action)(aW:vp a.bL.l)(hl:a.bL.l.length<=6){k:Nat}(hk:k<a.bL.l.length):
  IA a ((k:Int),rn (a.bL.l.take k))=some (.next (((k+1:Nat):Int),rn (a.bL.l.take (k+1)))):=by
 have hd:=aW a.bL.l[k] (Kp hk);have af:decide ((k:Int)<a.bL.len)=true:=decide_eq_true (by show(k:Int)<(a.bL.l.length:Int);omega);have e2:bQ a.bL.l (k:Int)=some a.bL.l[k]:=by rw[fP,hX hk]
 have bT:(rn (a.bL.l.take k)).l.length<=100:=by
  rw[TR];unfold oX;rw[oG,sM];omega
 simp only[IA,af,cond_true,e2,cg,afZ hd,afT bT,TR]
 have cF:rn (a.bL.l.take (k+1))=.mk (oX (a.bL.l.take k)++[Lib.itoa a.bL.l[k]]):=by
  unfold rn
  rw[if_neg fun h=>by
   have:=congrArg List.length h;rw[sM]at this;simp only[ja]at this;omega,zS,hX hk]
  unfold oX;rw[nW];rfl
 rw[cF,iN (by omega) (by omega)];rfl
theorem af6 (a:Action)(aW:vp a.bL.l)(hl:a.bL.l.length<=6):∀(n k:Nat),k+n=a.bL.l.length->c0 (IA a) ((k:Int),rn (a.bL.l.take k))=some (rn a.bL.l)
 |0,k,h=>by
  have af:decide ((k:Int)<a.bL.len)=false:=decide_eq_false (by show ¬(k:Int)<(a.bL.l.length:Int);omega);rw[k4];simp only[IA,af,cond_false];rw[B5 (by omega)]
 |n+1,k,h=>by
  rw[k4,aq4 a aW hl (by omega)];exact af6 a aW hl n (k+1) (by omega)
theorem agc{ds:List Int}(aW:vp ds)(hl:ds.length<=6):strings_Join (rn ds) [44,32]=some (Lib.join (oX ds) [44,32]):=by
 unfold rn;split
 ·rename_i h;subst h;rfl
 ·rename_i h
  have h1:=J4 aW;have h2:(oX ds).length=ds.length:=by simp[oX]
  unfold strings_Join;simp only[];rw[if_pos ⟨by intro fj;rw[fj]at h2;cases ds<;>simp_all,by omega,by omega⟩]
theorem aq5{m:Model}(hV:ou m=some true){k:Nat}{a:Action}{o:cl}(ao:m.Actions.l[k]? =some a)(h0:0<=a.cl)(ho:m.Operations.l[a.cl.toNat]? =some o)(aW:vp a.bL.l)(hl:a.bL.l.length<=6)(hn:o.Name.length<=40):
  B2 m (k:Int)=some (aq1 o.Name a.bL.l):=by
 have hk:k<m.Actions.l.length:=(pY.1 ao).1
 have dI:kg (k:Int) m.Actions.len=some true:=by
  unfold kg;rw[show decide ((k:Int)>=0)=true from decide_eq_true (by omega),show decide ((k:Int)<m.Actions.len)=true from decide_eq_true (by show(k:Int)<(m.Actions.l.length:Int);omega)];rfl
 have af:bQ m.Actions.l (k:Int)=some a:=by rw[fP];exact ao
 have e2:=af6 a aW hl a.bL.l.length 0 (by omega);have bT:bQ m.Operations.l a.cl=some o:=YF h0 ho;have hj:=J4 aW;unfold B2;simp only[hV,cg,cond_true,dI,hZ,cond_false,af];rw[show((0:Int),(ak.nil:ak bH))=(((0:Nat):Int),rn (a.bL.l.take 0))from rfl,e2];simp only[cg,bT,agc aW hl];simp only[vg];rw[if_pos (by simp only[ev,ja];omega)];simp only[cg];rw[if_pos (by simp only[gM,ev,ja];omega)];simp only[cg];rw[if_pos (by simp only[gM,ev,ja];omega)];rfl
end Go.Abs.mN
namespace Go.Abs.mN
open Go Go.Abs Go.Abs.Lex
noncomputable section
theorem aK6{s:bH}(hl:s.length<4611686018427387904):∀(n k:Nat),k+n=s.length->c0 (avS s) (k:Int)=some (((k+q4 (s.drop k):Nat)):Int):=by
 intro n
 induction n with
 |zero=>
  intro k hk;have e:avS s (k:Int)=some (.out (k:Int)):=by simp only[avS,Zo (show s.length<=k by omega),cond_false,cg]
  rw[k4,e,B6 (by omega)];rfl
 |succ n ih=>
  intro k hk;have aX:k<s.length:=by omega
  have hx:s[k]? =some s[k]:=by simp[aX]
  have JR:s.drop k=s[k]::s.drop (k+1):=wc aX
  have hs:((((sym (s.drop k):Nat):Int))==0)=!decide (0<sym (s.drop k)):=by
   by_cases h:0<sym (s.drop k)
   ·rw[decide_eq_true h];simp;omega
   ·have:sym (s.drop k)=0:=by omega
    rw[this];rfl
  have ab:avS s (k:Int)=bif (kd s[k]||s[k].toNat==35||vo (s.drop k))then some (.out (k:Int))else some (.next (bJ ((k:Int)+1))):=by
   simp only[avS,Zn aX,cond_true,fP,hx,cg,aD9,ay9,ayl,aEa hl (xI aX),hs,bne];rw[show((s[k].toNat:Int)==35)=(s[k].toNat==35)from xt s[k] 35];have hb:vo (s.drop k)=(ml s[k]||iY s[k]||decide (0<sym (s.drop k))):=by rw[JR];rfl
   rw[hb];cases kd s[k]<;>cases s[k].toNat==35<;>cases ml s[k]<;>cases iY s[k]<;>cases decide (0<sym (s.drop k))<;>rfl
  rw[k4,ab]
  have hw:q4 (s.drop k)=if kd s[k]||s[k].toNat==35||vo (s.drop k)then 0 else q4 (s.drop (k+1))+1:=by
   rw[JR];rfl
  rw[hw];cases(kd s[k]||s[k].toNat==35||vo (s.drop k))with
  |true=>rfl
  |false=>
   simp only[cond_false,hY,if_false];rw[fN (by omega),ih (k+1) (by omega)];congr 2;omega
theorem aK7{s:bH}(hl:s.length<4611686018427387904){k:Nat}(hk:k<=s.length):c0 (axC s) (k:Int)=some (((k+ke om (s.drop k):Nat)):Int):=
 anu hl om (fun k c hx=>by
  have aX:=kl hx;simp only[axC,Zn aX,cond_true,fP,hx,cg,ay9,ayl];rw[show((c.toNat:Int)==95)=(c.toNat==95)from xt c 95];unfold om;cases ml c<;>cases iY c<;>cases c.toNat==95<;>rfl) (fun k hk=>by simp only[axC,Zo hk,cond_false,cg]) (s.length-k) k (by omega)
theorem aK8{s:bH}(hl:s.length<4611686018427387904){k:Nat}(hk:k<=s.length):c0 (axD s) (k:Int)=some (((k+ke iY (s.drop k):Nat)):Int):=
 anu hl iY (fun k c hx=>by
  have aX:=kl hx;simp only[axD,Zn aX,cond_true,fP,hx,cg,ayl];cases iY c<;>rfl) (fun k hk=>by simp only[axD,Zo hk,cond_false,cg]) (s.length-k) k (by omega)
theorem aK9:cm kw:=by unfold cm;rw[Wn];omega
theorem aLa (l:List bH)(x:bH):l.contains x=l.any fun y=>y==x:=by
 induction l with
 |nil=>rfl
 |cons y r ih=>rw[List.contains_cons,ih,List.any_cons,JD]
theorem aLb{s:bH}(hl:s.length<4611686018427387904){k:Nat}(hk:k<s.length)(hw:kd s[k]=false)(rj:s[k].toNat≠35):
  axE s (k:Int)=some (((fF (s.drop k):Nat):Int),((k+gB (s.drop k):Nat):Int)):=by
 have hx:s[k]? =some s[k]:=by simp[hk]
 have JR:s.drop k=s[k]::s.drop (k+1):=wc hk;have hlen:(s.drop k).length=s.length-k:=sN;unfold axE;simp only[fP,hx,cg,ay9,ayl];have kC:fF (s.drop k)=if ml s[k]then(if kw.contains ((s.drop k).take (ke om (s.drop k)))then 2 else 1)else if iY s[k]then 3 else if 0<sym (s.drop k)then 4 else 5:=by rw[JR];rfl
 have df:gB (s.drop k)=if ml s[k]then ke om (s.drop k)else if iY s[k]then ke iY (s.drop k)else if 0<sym (s.drop k)then sym (s.drop k)else q4 (s.drop (k+1))+1:=by rw[JR];rfl
 rw[kC,df];cases hc:ml s[k]with
 |true=>
  simp only[cond_true,if_true];rw[aK7 hl (xI hk)];have hle:=DH om (s.drop k);simp only[cg,aJ4];rw[Zp (by omega) (by omega)];have e:(s.take (k+ke om (s.drop k))).drop k=(s.drop k).take (ke om (s.drop k)):=by rw[T9];congr 1;omega
  rw[e];simp only[cg];rw[aD4 (ak.mk kw) _ aK9,aLa];simp only[cg];show(bif kw.any (fun y=>y==_)then _ else _)=_;cases kw.any (fun y=>y==(s.drop k).take (ke om (s.drop k)))<;>rfl
 |false=>
  simp only[cond_false,hY,if_false];cases hd:iY s[k]with
  |true=>
   simp only[cond_true,if_true];rw[aK8 hl (xI hk)];rfl
  |false=>
   simp only[cond_false,hY,if_false];rw[aEa hl (xI hk)];simp only[cg];have aNh:=aio (s.drop k);by_cases hs:0<sym (s.drop k)
   ·have d:decide (((sym (s.drop k):Nat):Int)>0)=true:=by simp;exact hs
    rw[d,if_pos hs,if_pos hs];simp only[cond_true];rw[iN (by omega) (by omega)];rfl
   ·have d:decide (((sym (s.drop k):Nat):Int)>0)=false:=by simp;omega
    rw[d,if_neg hs,if_neg hs];simp only[cond_false];rw[aK6 hl (s.length-k) k (by omega)]
    have hb:vo (s.drop k)=false:=by
     have:vo (s.drop k)=(ml s[k]||iY s[k]||decide (0<sym (s.drop k))):=by rw[JR];rfl
     rw[this,hc,hd,decide_eq_false hs];rfl
    have mI:q4 (s.drop k)=q4 (s.drop (k+1))+1:=by
     have:q4 (s.drop k)=if kd s[k]||s[k].toNat==35||vo (s.drop k)then 0 else q4 (s.drop (k+1))+1:=by rw[JR];rfl
     have aLc:(s[k].toNat==35)=false:=by simpa using rj
     rw[this,hw,hb,aLc];rfl
    rw[mI];rfl
theorem aLd{s:bH}{k:Nat}(hk:k<=s.length)(h:eW s k<s.length):kd s[eW s k]=false/\s[eW s k].toNat≠35:=by
 have hd:s.drop (eW s k)=s[eW s k]::s.drop (eW s k+1):=wc h;have e:(s.drop k).drop (eU false (s.drop k))=s.drop (eW s k):=by rw[sR];rfl
 rw[<-e]at hd;exact aza false (s.drop k) _ _ hd rfl
theorem aLe{s:bH}{k:Nat}(h:k<s.length):1<=gB (s.drop k):=by
 have hd:s.drop k=s[k]::s.drop (k+1):=wc h;rw[hd];simp only[gB];split
 ·rename_i hc
  rw[yS,if_pos (by simp[om,hc])];omega
 ·split
  ·rename_i hc;rw[yS,if_pos hc];omega
  ·split<;>omega
theorem aLf{s:bH}(hl:s.length<=4096):∀(n k:Nat) (acc:ak Token),k+n=s.length->acc.l.length<=k+1->
  ∃(e:Int) (y:ak Token) (ts:List Token),c0 (avw s) ((k:Int),acc)=some (e,y)/\y.l=acc.l++ts/\ts.length<=n/\(s.length<=eW s k->ts=[])/\
   (eW s k<s.length->∃av8,ts=⟨((fF (s.drop (eW s k)):Nat):Int),(k:Int),((eW s k:Nat):Int),((iI s k:Nat):Int)⟩::av8/\(s.length<=eW s (iI s k)->av8=[])/\(eW s (iI s k)<s.length->av8≠[])):=by
 intro n
 induction n using Nat.strongRecOn with
 |ind n ih=>
  intro k acc hk aNi;have fT:=Wp (s:=s) (k:=k) (by omega);rw[k4];have ZB:=aJ0 (s:=s) (by omega) (k:=k) (by omega);by_cases aX:eW s k<s.length
  ·obtain⟨q1,aS⟩:=aLd (by omega) aX
   have aLg:=aLb (s:=s) (by omega) aX q1 aS;have lV:=aLe aX;have oe:=Ng (s:=s) (k:=k) (by omega);have hge:k<=eW s k:=by unfold eW;omega
   have he:iI s k=eW s k+gB (s.drop (eW s k)):=rfl;obtain⟨z,Ar,Y3⟩:=YP (BN:=32) (x:=acc) (y:=ak.mk [(⟨((fF (s.drop (eW s k)):Nat):Int),(k:Int),((eW s k:Nat):Int),((iI s k:Nat):Int)⟩:Token)]) (by omega) (by show acc.l.length+1<=_;omega)
   have ab:avw s ((k:Int),acc)=some (.next (((iI s k:Nat):Int),z)):=by
    simp only[avw,ZB,cg,Zn aX,cond_true,aLg];rw[<-he,Ar];rfl
   rw[ab];obtain⟨e,y,ts,af,e2,bT,cF,ej⟩:=ih (s.length-iI s k) (by omega) (iI s k) z (by omega) (by rw[Y3];simp only[gM];show acc.l.length+1<=_;omega);refine⟨e,y,_::ts,af,by rw[e2,Y3,mS];rfl,by simp only[ev];omega,fun h=>by omega,fun _=>⟨ts,rfl,cF,fun h=> ?_⟩⟩;obtain⟨av8,ays,-⟩:=ej h;rw[ays];simp
  ·have ab:avw s ((k:Int),acc)=some (.out ((k:Int),acc)):=by
    simp only[avw,ZB,cg,Zo (show s.length<=eW s k by omega),cond_false]
   rw[ab];exact⟨_,acc,[],rfl,by simp,by simp,fun _=>rfl,fun h=>absurd h aX⟩
theorem aLh{s:bH}(hl:s.length<=4096):axF s=some ((kindOf s:Nat):Int):=by
 unfold axF ayQ;have hd:decide ((s.length:Int)>4096)=false:=by simp;omega
 rw[hd];simp only[cond_false];obtain⟨e,y,ts,af,e2,bT,cF,ej⟩:=aLf hl s.length 0 .emp (by omega) (by simp[ak.l]);have GJ:c0 (avw s) (0,.emp)=some (e,y):=af;have hy:y.l=ts:=by rw[e2];rfl
 rw[GJ];simp only[cg];obtain⟨z,Ar,Y3⟩:=YP (BN:=32) (x:=y) (y:=ak.mk [(Token.mk 0 e (s.length:Int) (s.length:Int))]) (by omega) (by rw[hy];show ts.length+1<=_;omega);rw[Ar];simp only[cg,show((0:Int) != 0)=false from rfl,cond_false];have Am:z.l=ts++[Token.mk 0 e (s.length:Int) (s.length:Int)]:=by rw[Y3,hy];rfl
 have hlen:(z.len != 2)=!(z.l.length==2):=by unfold bne;rw[show(z.len==2)=(z.l.length==2)from Pw z 2]
 rw[hlen,Am];have AG:kindOf s=if s=[]\/4096<s.length then 0 else if eW s 0=0/\iI s 0=s.length then fF s else 0:=rfl
 by_cases aX:eW s 0<s.length
 ·obtain⟨av8,ays,f1,f2⟩:=ej aX
  have bf:¬(s=[]\/4096<s.length):=by
   rintro(h|h)
   ·rw[h]at aX;simp at aX
   ·omega
  rw[AG,if_neg bf];have du:=Ng (s:=s) (k:=0) (by omega);by_cases r3:eW s (iI s 0)<s.length
  ·
   have h1:((ts++[Token.mk 0 e (s.length:Int) (s.length:Int)]).length==2)=false:=by
    have:=f2 r3;rw[ays];cases av8 with
    |nil=>exact absurd rfl this
    |cons a r=>simp
   rw[h1]
   have aLi:¬(eW s 0=0/\iI s 0=s.length):=by
    rintro⟨-,h⟩;have:iI s 0<=eW s (iI s 0):=by show _<=_+_;omega
    omega
   rw[if_neg aLi];rfl
  ·have hn:=f1 (by omega)
   subst hn;subst ays;have h1:(([(⟨((fF (s.drop (eW s 0)):Nat):Int),((0:Nat):Int),((eW s 0:Nat):Int),((iI s 0:Nat):Int)⟩:Token)]++[Token.mk 0 e (s.length:Int) (s.length:Int)]).length==2)=true:=rfl;rw[h1];simp only[hZ,cond_false,jz,jB,al3,rr,cg];by_cases ao:eW s 0=0
   ·by_cases hb:iI s 0=s.length
    ·rw[if_pos ⟨ao,hb⟩,ao,hb]
     simp
    ·have:((((iI s 0:Nat):Int)) != (s.length:Int))=true:=by simp;omega
     rw[if_neg (fun h=>hb h.2),ao,this];rfl
   ·have:((((eW s 0:Nat):Int)) != 0)=true:=by simp;omega
    rw[if_neg (fun h=>ao h.1),this];rfl
 ·have JW:=cF (by omega)
  subst JW;have h1:(([]++[Token.mk 0 e (s.length:Int) (s.length:Int)]).length==2)=false:=rfl;rw[h1,AG];by_cases hs:s=[]
  ·rw[if_pos (.inl hs)];rfl
  ·have lV:0<s.length:=List.length_pos_iff.2 hs
   rw[if_neg (by rintro(h|h);exact hs h;omega),if_neg (by rintro⟨h,-⟩;omega)];rfl
theorem aEM (w:bH)(h:w.length<=40):ajb w=some (tM w):=by
 unfold tM yX ajb;rw[aLh (by omega)];unfold pU;simp only[cg];cases hk:((kindOf w:Nat):Int)==1<;>cases hl:decide ((w.length:Int)<=16)<;>simp[hk]
theorem aLj{m:Model}(h:Fp m=true):ou m=some (vT m)/\avV m=some (vT m):=⟨Fq (ans h),aJX (ans h) aEM⟩
end
end Go.Abs.mN
namespace Go.Abs.mN
open Go Go.Abs Go.Abs.Lex
noncomputable section
theorem Ux{d:Int}(h:0<=d/\d<=9999):vY d=some (Lib.itoa d):=by
 unfold vY;rw[if_pos (by omega)]
theorem aq6{d:Int}(h:-9999<=d/\d<=9999):IB d=some (Lib.itoa d):=by
 unfold IB;by_cases hd:d<0
 ·rw[decide_eq_true hd]
  simp only[cond_true];rw[iN (by omega) (by omega),Ux (by omega)];simp only[cg]
  have e:Lib.itoa d=45::Lib.itoa (0-d):=by
   unfold Lib.itoa;rw[if_pos hd,if_neg (by omega)];congr 2;omega
  have hl:=Uw (d:=0-d) (by omega);unfold vg;rw[if_pos (by simp only[ev,ja];omega),e];rfl
 ·rw[decide_eq_false hd]
  simp only[cond_false,Ux (show 0<=d/\d<=9999 by omega),cg]
theorem aq7 (xs:List bH)(x sep:bH):Lib.join (xs++[x]) sep=(if xs=[]then[]else Lib.join xs sep++sep)++x:=by
 cases xs with
 |nil=>simp[Lib.join_one]
 |cons y r=>
  rw[if_neg (by simp),jz,Lib.join_cons,Lib.join_cons];unfold Lib.joinTail;simp
theorem Uy{f:(bH × Int)->Option (dM (bH × Int) bH)}{g:Int->Option bH}(ds:ak Int)(aW:vp ds.l)(hl:ds.l.length<=100)(bj:∀d,d∈ds.l->g d=some (Lib.itoa d))
  (ab:∀(s:bH) (k:Int),f (s,k)=(bif (decide (k<ds.len))then(((bif (decide (k>0))then((vg s [44,32]).bind fun ajp=>some ajp)else some s):Option (bH)).bind fun y3=>((bQ ds.l k).bind fun ng=>((g ng).bind fun NI=>((vg y3 NI).bind fun vw=>some (.next (vw,(bJ (k+1))))))))else some (.out s))):
  ∀(n k:Nat),k+n=ds.l.length->c0 f (Lib.join (oX (ds.l.take k)) [44,32],(k:Int))=some (Lib.join (oX ds.l) [44,32])
 |0,k,h=>by
  have:k=ds.l.length:=by omega
  subst this;rw[k4,ab,mw,Kq];rfl
 |n+1,k,h=>by
  have hk:k<ds.l.length:=by omega
  have hx:=hX hk;have hm:=Kp hk
  have hlen:(Lib.join (oX (ds.l.take k)) [44,32]).length<=700:=by
   have:=J4 (ds:=ds.l.take k) fun d hd=>aW d (zP hd);rw[sM]at this;omega
  have hi:=Uw (aW _ hm);have hw:bJ ((k:Int)+1)=((k+1:Nat):Int):=fN (by omega)
  have e:oX (ds.l.take (k+1))=oX (ds.l.take k)++[Lib.itoa ds.l[k]]:=by
   unfold oX;rw[zS,hx,nW];rfl
  have wI:f (Lib.join (oX (ds.l.take k)) [44,32],(k:Int))=some (.next (Lib.join (oX (ds.l.take (k+1))) [44,32],((k+1:Nat):Int))):=by
   rw[ab,k8 hk,e,aq7];simp only[cond_true,fP,hx,cg,bj _ hm,hw];by_cases h0:k=0
   ·subst h0
    have d0:decide (((0:Nat):Int)>0)=false:=by decide
    rw[d0];have:oX (ds.l.take 0)=[]:=rfl
    have a0:vg [] (Lib.itoa ds.l[0])=some (Lib.itoa ds.l[0]):=by
     unfold vg;rw[if_pos (by simp only[ja];omega)];rfl
    simp only[cond_false,cg,this,if_true,Lib.join_nil,jB,a0]
   ·have d1:decide (((k:Nat):Int)>0)=true:=by rw[decide_eq_true_eq];omega
    have bf:oX (ds.l.take k)≠[]:=fun h=>by
     have:=congrArg List.length h;unfold oX at this;rw[oG,sM,ja]at this;omega
    rw[d1,if_neg bf]
    have ai:vg (Lib.join (oX (ds.l.take k)) [44,32]) [44,32]=some (Lib.join (oX (ds.l.take k)) [44,32]++[44,32]):=by
     unfold vg;rw[if_pos (by simp only[ev,ja];omega)]
    have a2:vg (Lib.join (oX (ds.l.take k)) [44,32]++[44,32]) (Lib.itoa ds.l[k])=some (Lib.join (oX (ds.l.take k)) [44,32]++[44,32]++Lib.itoa ds.l[k]):=by
     unfold vg;rw[if_pos (by simp only[gM,ev,ja];omega)]
    simp only[cond_true,ai,cg,a2]
  rw[k4,wI];exact Uy ds aW hl bj ab n (k+1) (by omega)
theorem aq8 (ds:ak Int)(aW:vp ds.l)(hl:ds.l.length<=100):Qo ds=some (Lib.join (oX ds.l) [44,32]):=by
 unfold Qo;have:=Uy (f:=Uf ds) (g:=IB) ds aW hl (fun d hd=>aq6 (aW d hd)) (fun s k=>rfl) ds.l.length 0 (by omega);have:c0 (Uf ds) ([],0)=some (Lib.join (oX ds.l) [44,32]):=this;rw[this];rfl
theorem aq9 (ds:ak Int)(aW:∀d∈ds.l,0<=d/\d<=9999)(hl:ds.l.length<=100):Qq ds=some (Lib.join (oX ds.l) [44,32]):=by
 unfold Qq;have:=Uy (f:=Ui ds) (g:=vY) ds (fun d hd=>by have:=aW d hd;omega) hl (fun d hd=>Ux (aW d hd)) (fun s k=>rfl) ds.l.length 0 (by omega);have:c0 (Ui ds) ([],0)=some (Lib.join (oX ds.l) [44,32]):=this;rw[this];rfl
end
end Go.Abs.mN
namespace Go.Abs.mN
open Go Go.Abs Go.Abs.Lex
noncomputable section
theorem ara{r:bH}(h:r≠[]):fF r≠0:=by
 cases r with
 |nil=>exact absurd rfl h
 |cons c r=>
  simp only[fF];split
  ·split<;>omega
  ·split
   ·omega
   ·split<;>omega
def B4 (s:bH)(t:Token):bH:=(s.take t.End.toNat).drop t.At.toNat
theorem arb{s:bH}(hl:s.length<=4096):∀(n k:Nat) (acc:ak Token),k+n=s.length->acc.l.length<=k+1->
  ∃(e:Int) (y:ak Token) (ts:List Token),c0 (avw s) ((k:Int),acc)=some (e,y)/\y.l=acc.l++ts/\ts.length<=n/\(∀t∈ts,0<=t.At/\t.At<=t.End/\t.End<=s.length)/\
   ∀m,ts.length<m->sG m (s.drop k)=some (ts.map (B4 s)):=by
 intro n
 induction n using Nat.strongRecOn with
 |ind n ih=>
  intro k acc hk aNi;have fT:=Wp (s:=s) (k:=k) (by omega);rw[k4];have ZB:=aJ0 (s:=s) (by omega) (k:=k) (by omega);have LX:(s.drop k).drop (eU false (s.drop k))=s.drop (eW s k):=by rw[sR];rfl
  by_cases aX:eW s k<s.length
  ·obtain⟨q1,aS⟩:=aLd (by omega) aX
   have aLg:=aLb (s:=s) (by omega) aX q1 aS;have lV:=aLe aX;have oe:=Ng (s:=s) (k:=k) (by omega);have hge:k<=eW s k:=by unfold eW;omega
   have he:iI s k=eW s k+gB (s.drop (eW s k)):=rfl;obtain⟨z,Ar,Y3⟩:=YP (BN:=32) (x:=acc) (y:=ak.mk [(⟨((fF (s.drop (eW s k)):Nat):Int),(k:Int),((eW s k:Nat):Int),((iI s k:Nat):Int)⟩:Token)]) (by omega) (by show acc.l.length+1<=_;omega)
   have ab:avw s ((k:Int),acc)=some (.next (((iI s k:Nat):Int),z)):=by
    simp only[avw,ZB,cg,Zn aX,cond_true,aLg];rw[<-he,Ar];rfl
   rw[ab];obtain⟨e,y,ts,af,e2,bT,cF,ej⟩:=ih (s.length-iI s k) (by omega) (iI s k) z (by omega) (by rw[Y3];simp only[gM];show acc.l.length+1<=_;omega);refine⟨e,y,_::ts,af,by rw[e2,Y3,mS];rfl,by simp only[ev];omega,fun t ht=> ?_,fun m hm=> ?_⟩
   ·rcases dA.1 ht with rfl|ht
    ·exact⟨Int.natCast_nonneg _,by show((eW s k:Nat):Int)<=((iI s k:Nat):Int);omega,by show((iI s k:Nat):Int)<=_;omega⟩
    ·exact cF t ht
   ·cases m with
    |zero=>omega
    |succ m=>
     simp only[ev]at hm
     have bf:s.drop (eW s k)≠[]:=fun h=>by
      have:=congrArg List.length h;rw[sN]at this;simp at this;omega
     have du:(s.drop (eW s k)).drop (gB (s.drop (eW s k)))=s.drop (iI s k):=by rw[sR];rfl
     simp only[sG,LX,if_neg (ara bf),du,ej m (by omega),pq,eo];congr 2;show(s.drop (eW s k)).take (gB (s.drop (eW s k)))=(s.take (iI s k)).drop (eW s k);rw[T9];congr 1;omega
  ·have ab:avw s ((k:Int),acc)=some (.out ((k:Int),acc)):=by
    simp only[avw,ZB,cg,Zo (show s.length<=eW s k by omega),cond_false]
   rw[ab];refine⟨_,acc,[],rfl,by simp,by simp,(fun t ht=>by cases ht),fun m hm=> ?_⟩;cases m with
   |zero=>simp at hm
   |succ m=>
    have:s.drop (eW s k)=[]:=B6 (by omega);simp only[sG,LX,this];rfl
theorem arc{s:bH}(hl:s.length<=4096):∃(ws:List bH) (z:ak bH),ws.length<=s.length/\(∀m,ws.length<m->sG m s=some ws)/\Qh s=some z/\z.l=ws:=by
 unfold Qh ayQ;have hd:decide ((s.length:Int)>4096)=false:=by simp;omega
 rw[hd];simp only[cond_false];obtain⟨e,y,ts,af,e2,bT,cF,ej⟩:=arb hl s.length 0 .emp (by omega) (by simp[ak.l]);have GJ:c0 (avw s) (0,.emp)=some (e,y):=af;have hy:y.l=ts:=by rw[e2];rfl
 rw[GJ];simp only[cg];obtain⟨z,Ar,Y3⟩:=YP (BN:=32) (x:=y) (y:=ak.mk [(Token.mk 0 e (s.length:Int) (s.length:Int))]) (by omega) (by rw[hy];show ts.length+1<=_;omega);rw[Ar];simp only[cg];have Am:z.l=ts++[Token.mk 0 e (s.length:Int) (s.length:Int)]:=by rw[Y3,hy];rfl
 have key:∀(r:List Token) (k:Nat) (acc:ak bH),ts.drop k=r->acc.l=(ts.take k).map (B4 s)->k<=ts.length->∃q,c0 (E0 s (z,0)) ((k:Int),acc)=some q/\q.l=ts.map (B4 s):=by
  intro r
  induction r with
  |nil=>
   intro k acc hr ao hk;have hk':ts.length<=k:=List.drop_eq_nil_iff.1 hr;have:k=ts.length:=by omega
   subst this;refine⟨acc,?_,by rw[ao,Kq]⟩;rw[k4]
   have:decide (bJ (((ts.length:Nat):Int)+1)<z.len)=false:=by
    rw[iN (by omega) (by omega),gL,Am,gM];simp
   simp only[E0,this,cond_false]
  |cons t r ih=>
   intro k acc hr ao hk
   have aX:k<ts.length:=by
    rcases fX k ts.length with w|w
    ·exact w
    ·rw[B6 w]at hr;cases hr
   have zB:ts[k]? =some t:=by
    have:=congrArg (·[0]?) hr;simpa using this
   have gu:ts.drop (k+1)=r:=by
    have:=congrArg List.tail hr;simpa using this
   have ard:z.l[k]? =some t:=by rw[Am,gE aX,zB]
   obtain⟨t1,t2,t3⟩:=cF t (hz zB)
   have uY:q0 s t.At t.End=some (B4 s t):=by
    unfold q0 B4;rw[if_pos ⟨t1,t2,t3⟩]
   obtain⟨q,f1,f2⟩:=YP (BN:=16) (x:=acc) (y:=ak.mk [B4 s t]) (by omega) (by rw[ao,oG,sM];show _+1<=_;omega)
   have hd:decide (((k+1:Nat):Int)<z.len)=true:=by
    rw[gL,Am,gM,decide_eq_true_eq];simp only[ev,ja];omega
   have hw:bJ ((k:Int)+1)=((k+1:Nat):Int):=fN (by omega)
   have ab:E0 s (z,0) ((k:Int),acc)=some (.next (((k+1:Nat):Int),q)):=by
    simp only[E0,hw,hd,cond_true,fP,ard,cg,uY,f1]
   rw[k4,ab];refine ih (k+1) q gu ?_ (by omega);rw[f2,ao,zS,zB,nW];rfl
 obtain⟨q,cq,ee⟩:=key ts 0 .emp rfl rfl (by omega);have cq:c0 (E0 s (z,0)) (0,.emp)=some q:=cq;rw[cq];exact⟨ts.map (B4 s),q,by rw[oG];omega,fun m hm=>by rw[oG]at hm;have:=ej m hm;rwa [Nh]at this,rfl,ee⟩
end
end Go.Abs.mN
namespace Go.Abs.mN
open Go Go.Abs
theorem arf{s:List Int}{ts:List Table}{n:Int}{ops:List cl}{gV:List Action}(h:zA s ts n ops gV=true):∀k a,gV[k]? =some a->xp s ts n ops gV k a=true:=by
 unfold zA at h;rw[b8]at h;exact E4.1 h.2
theorem arh{s:List Int}{ts:List Table}{n:Int}{ops:List cl}{gV:List Action}{k:Nat}{a:Action}(h:xp s ts n ops gV k a=true):
  0<=a.cl/\∃o,ops[a.cl.toNat]? =some o/\a.bL.l.length=o.bC.l.length/\allI (tO s a.bL.l) o.bC.l=true/\tP gV k a=true:=by
 unfold xp at h;rw[b8]at h;obtain⟨h0,h⟩:=h;rw[b8,decide_eq_true_eq,decide_eq_true_eq]at h0;split at h
 ·rename_i o ho
  simp only[b8,beq_iff_eq]at h;exact⟨h0.1,o,ho,h.1,h.2.1,h.2.2.1⟩
 ·cases h
theorem ari{s:List Int}(h:oD s=true)(x:Int):hP s x<=6:=by
 unfold hP;cases e:s[x.toNat]? with
 |none=>simp
 |some y=>
  have:=eV.1 h y (hz e);simp only[b8,decide_eq_true_eq]at this;simpa using this.2
theorem arj{s:List Int}(hs:oD s=true){args J5:List Int}(hl:args.length=J5.length)(h:allI (tO s args) J5=true):∀d∈args,-9999<=d/\d<=9999:=fun d hd=>by
 obtain⟨k,hk⟩:=T7 hd;have aX:k<args.length:=(pY.1 hk).1;have h1:=E4.1 h k J5[k] (hX (by omega));unfold tO at h1;rw[JP hk]at h1;cases hb:decide (J5[k]<0)with
 |true=>
  rw[hb,cond_true]at h1;unfold tN at h1;simp only[b8,decide_eq_true_eq]at h1;omega
 |false=>
  rw[hb,cond_false]at h1;simp only[b8,decide_eq_true_eq]at h1;have:=ari hs J5[k];omega
end Go.Abs.mN
namespace Go.Abs.mN
open Go Go.Abs Go.Abs.Lex
theorem agd{a b:ak Int}(hl:cm a.l):Qf a b=some (a.l==b.l):=by
 unfold Qf;rw[Za];by_cases hn:a.l.length=b.l.length
 ·rw[show(!(a.l.length==b.l.length))=false by simp[hn],cond_false]
  have h:=Pp (R:=Unit) (f:=Qe a b) a.l hl (fun k x=>x != b.l.getD k 0) (fun k x hx=>by
   have aX:=(pY.1 hx).1;have af:decide ((k:Int)<a.len)=true:=decide_eq_true (by show(k:Int)<(a.l.length:Int);omega)
   have e2:b.l[k]? =some (b.l.getD k 0):=by
    rw[tY,hX (by omega)];rfl
   simp only[Qe,af,cond_true,fP,hx,e2,cg];cases x != b.l.getD k 0<;>rfl)
   (by
     have af:decide ((a.l.length:Int)<a.len)=false:=decide_eq_false (by show ¬(a.l.length:Int)<(a.l.length:Int);omega);simp only[Qe,af,cond_false])
  rw[h]
  have key:(a.l.zipIdx.any fun p=>p.1 != b.l.getD p.2 0)=!(a.l==b.l):=by
   rw[zU,ry,nV,beq_eq_false_iff_ne];constructor
   ·rintro⟨⟨x,k⟩,hp,hx⟩ he
    rw[ie]at hp;simp only at hp hx;rw[he]at hp;rw[tY,hp]at hx;simp at hx
   ·intro bf
    refine UX fun jN=>bf (wg fun k=> ?_);rcases fX k a.l.length with hk|hk
    ·have h1:a.l[k]? =some a.l[k]:=hX hk
     have h2:b.l[k]? =some b.l[k]:=hX (by omega);rw[h1,h2];refine congrArg some (UX fun hx=>jN ⟨(a.l[k],k),ie.2 h1,?_⟩);simp only[tY,h2,sO,bne_iff_ne];exact hx
    ·rw[lb hk,lb (by omega)]
  rw[key];cases a.l==b.l<;>rfl
 ·rw[show(!(a.l.length==b.l.length))=true by simp[hn],cond_true]
  rw[show(a.l==b.l)=false from by rw[beq_eq_false_iff_ne];intro h;exact hn (by rw[h])]
theorem ark{α:Type}{xs:List α}{p:α->Bool}{k:Nat}{x:α}(hk:xs[k]? =some x)(hp:p x=true)(hb:∀j y,j<k->xs[j]? =some y->p y=false):xs.findIdx? p=some k:=by
 obtain⟨aX,he⟩:=pY.1 hk;rw[List.findIdx?_eq_some_iff_getElem];refine⟨aX,by rw[he];exact hp,fun j hj=> ?_⟩;have:=hb j xs[j] hj (hX (by omega));rw[this];simp
end Go.Abs.mN
namespace Go.Abs.mN
open Go Go.Abs Go.Abs.Lex
noncomputable section
theorem age{x y:ak Range}(h:y.l=x.l)(hs:cm x.l):Fx x y=some true:=by
 unfold Fx;have:(x.len != y.len)=false:=by rw[gL,gL,h];simp
 rw[this]
 have:=xn (f:=Qk x y) x.l hs (fun _=>false) (fun k r hx=>by
  simp only[Qk,k8 (kl hx),cond_true,fP,hx,h,cg,beq_self_eq_true,zV,cond_false]) (by simp only[Qk,mw,cond_false])
 have ab:x.l.any (fun _=>false)=false:=by simp
 rw[cond_false,this,ab];rfl
theorem agh{m:Model}(hb:Fp m=true)(s:Bool):∃x y,Iz m s=some x/\((avV m).bind fun v=>bif v then(axH m.bC m.Tables s).bind fun z=>some z else some ak.nil)=some y/\Fx x y=some true:=by
 have b:=ans hb;obtain⟨v1,v2⟩:=aLj hb;have rh:∀t∈m.Tables.l,cm t.bP.l:=fun t ht=>by have:=b.aa t ht;unfold cm;omega
 have fJ:cm m.bC.l:=by have:=b.PO;unfold cm;omega
 have oT:cm m.Tables.l:=by have:=b.tables;unfold cm;omega
 unfold Iz;rw[v1,v2];cases ad:vT m with
 |false=>exact⟨_,_,rfl,rfl,age rfl (by unfold cm;decide)⟩
 |true=>
  obtain⟨x,af,e2⟩:=YR m.bC m.Tables s fJ oT rh;obtain⟨y,bT,cF⟩:=aD2 m.bC m.Tables s fJ oT rh fun t ht=>aEM _ (by have:=b.aa t ht;omega)
  have aLo:mu m.bC.l m.Tables.l=true:=by
   cases h:mu m.bC.l m.Tables.l with
   |true=>rfl
   |false=>unfold vT at ad;rw[h]at ad;simp at ad
  rw[aLo]at e2 cF;simp only[cond_true]at e2 cF;simp only[cg,cond_true,af,bT];obtain⟨-,aS,b1,cL⟩:=BM aLo;refine⟨_,_,rfl,rfl,age (by rw[cF,e2]) ?_⟩;have:=Pv b1 s m.Tables.l cL;rw[e2];unfold cm;omega
theorem Uz{m:Model}(b:BU m)(ad:vT m=true){k:Nat}{a:Action}(ao:m.Actions.l[k]? =some a):0<=a.cl/\∃o,m.Operations.l[a.cl.toNat]? =some o/\vp a.bL.l/\a.bL.l.length<=6/\o.Name.length<=40:=by
 unfold vT at ad;simp only[b8]at ad;obtain⟨-,-,dJ,-⟩:=BM ad.1;obtain⟨h0,o,ho,hlen,vG,-⟩:=arh (arf ad.2.2.2.2.2.1 k a ao);exact⟨h0,o,ho,arj dJ hlen vG,(b.act a (hz ao)).1,(b.op o (hz ho)).1⟩
theorem agi{name:bH}{t:bH}(hn:name.length<=40)(ht:t.length<=100):((vg name [40]).bind fun x=>(vg x t).bind fun y=>(vg y [41]).bind fun z=>some z)=some (name++[40]++t++[41]):=by
 have ai:vg name [40]=some (name++[40]):=by
  unfold vg;rw[if_pos (by simp only[ev,ja];omega)]
 have a2:vg (name++[40]) t=some (name++[40]++t):=by
  unfold vg;rw[if_pos (by simp only[gM,ev,ja];omega)]
 have a3:vg (name++[40]++t) [41]=some (name++[40]++t++[41]):=by
  unfold vg;rw[if_pos (by simp only[gM,ev,ja];omega)]
 simp only[ai,a2,a3,cg]
theorem arl{m:Model}(hb:Fp m=true)(i:Int):∃s,B2 m i=some s/\Fy m i=some s:=by
 have b:=ans hb;obtain⟨v1,v2⟩:=aLj hb;cases ad:vT m with
 |false=>
  refine⟨[],?_,?_⟩
  ·unfold B2;rw[v1,ad];rfl
  ·unfold Fy;rw[v2,ad]
   cases decide (i<0)<;>cases decide (i>=m.Actions.len)<;>rfl
 |true=>
  rw[ad]at v1 v2;by_cases hi:0<=i/\i<m.Actions.l.length
  ·obtain⟨k,rfl⟩:=Kg hi.1
   have ao:=hX (show k<m.Actions.l.length by omega);generalize m.Actions.l[k]=a at ao;obtain⟨h0,o,ho,aW,hl,hn⟩:=Uz b ad ao;refine⟨_,aq5 v1 ao h0 ho aW hl hn,?_⟩;unfold Fy;have d1:decide (((k:Nat):Int)<0)=false:=decide_eq_false (by omega);have d2:decide (((k:Nat):Int)>=m.Actions.len)=false:=decide_eq_false (by rw[gL];omega);have hj:=J4 aW;rw[d1,d2,v2];simp only[cond_false,cg,hZ,fP,ao,YF h0 ho,aq8 a.bL aW (by omega)];rw[agi hn (by omega)];rfl
  ·have s3:i<0\/(m.Actions.l.length:Int)<=i:=by omega
   refine⟨[],?_,?_⟩
   ·have dI:kg i m.Actions.len=some false:=by
     unfold kg;rcases s3 with h|h
     ·rw[show decide (i>=0)=false from decide_eq_false (by omega)];rfl
     ·rw[show decide (i<m.Actions.len)=false from decide_eq_false (by rw[gL];omega),Bool.and_false]
    unfold B2;simp only[v1,cg,cond_true,dI,ue]
   ·unfold Fy
    rcases s3 with h|h
    ·rw[decide_eq_true h];rfl
    ·rw[show decide (i>=m.Actions.len)=true from decide_eq_true (by rw[gL];omega)]
     cases decide (i<0)<;>rfl
end
end Go.Abs.mN
namespace Go.Abs.mN
open Go Go.Abs Go.Abs.Lex
noncomputable section
theorem agj{s:List Int}(hs:oD s=true):∀(l:List Int) (k:Int),(∀x∈l,0<=x/\x<s.length)->∀d∈vQ s l k,0<=d/\d<=9999
 |[],_,_,d,h=>by cases h
 |x::r,k,hx,d,h=>by
  rcases dA.1 h with rfl|h
  ·obtain⟨h1,h2⟩:=JA hs (hx x (by simp)).1 (hx x (by simp)).2
   have:=Int.emod_nonneg k (show hP s x≠0 by omega);have:=Int.emod_lt_of_pos k (show 0<hP s x by omega);omega
  ·exact agj hs r _ (fun y hy=>hx y (by simp[hy])) d h
theorem arn{s:List Int}(hs:oD s=true){hR:List Int}(hc:oE s.length hR=true)(k:Int):(∀d∈Fa s hR k,0<=d/\d<=9999)/\(Fa s hR k).length<=3:=by
 unfold oE at hc;simp only[b8,decide_eq_true_eq,eV]at hc;unfold Fa;refine⟨fun d hd=>agj hs hR.reverse k (fun x hx=> ?_) d (List.mem_reverse.1 hd),by rw[U0,YX,U0];exact hc.1⟩;have:=hc.2 x (List.mem_reverse.1 hx);omega
theorem agk{f:(Int × ak bH)->Option (dM (Int × ak bH) (ak bH))}(ds:ak Int)(aW:vp ds.l)(hl:ds.l.length<=100)
  (ab:∀(k:Int) (q:ak bH),f (k,q)=(bif (decide (k<ds.len))then((bQ ds.l k).bind fun ng=>((strconv_Itoa ng).bind fun NI=>((lG 16 q (ak.mk [NI])).bind fun nN=>some (.next ((bJ (k+1)),nN)))))else some (.out q))):
  ∀(n k:Nat),k+n=ds.l.length->c0 f ((k:Int),rn (ds.l.take k))=some (rn ds.l)
 |0,k,h=>by
  have:k=ds.l.length:=by omega
  subst this;rw[k4,ab,mw,Kq];rfl
 |n+1,k,h=>by
  have hk:k<ds.l.length:=by omega
  have hx:=hX hk
  have bT:(rn (ds.l.take k)).l.length<=100:=by
   rw[TR];unfold oX;rw[oG,sM];omega
  have cF:rn (ds.l.take (k+1))=.mk (oX (ds.l.take k)++[Lib.itoa ds.l[k]]):=by
   unfold rn
   rw[if_neg fun h=>by
    have:=congrArg List.length h;rw[sM]at this;simp only[ja]at this;omega,zS,hx]
   unfold oX;rw[nW];rfl
  have hw:bJ ((k:Int)+1)=((k+1:Nat):Int):=fN (by omega)
  have wI:f ((k:Int),rn (ds.l.take k))=some (.next (((k+1:Nat):Int),rn (ds.l.take (k+1)))):=by
   rw[ab,k8 hk];simp only[cond_true,fP,hx,cg,afZ (aW _ (Kp hk)),afT bT,TR,hw,cF]
  rw[k4,wI];exact agk ds aW hl ab n (k+1) (by omega)
theorem aro{m:Model}(hb:Fp m=true)(c:Int):∃s,Qp m c=some s/\Qr m c=some s:=by
 have b:=ans hb;obtain⟨v1,v2⟩:=aLj hb;unfold Qp Qr;rw[v1,v2];cases ad:vT m with
 |false=>exact⟨_,rfl,rfl⟩
 |true=>
  have rh:∀t∈m.Tables.l,cm t.bP.l:=fun t ht=>by have:=b.aa t ht;unfold cm;omega
  have fJ:cm m.bC.l:=by have:=b.PO;unfold cm;omega
  have oT:cm m.Tables.l:=by have:=b.tables;unfold cm;omega
  obtain⟨x,af,hx⟩:=Y2 m.bC m.Tables true c fJ oT rh;obtain⟨y,e2,hy⟩:=aJI m.bC m.Tables true c fJ oT rh fun t ht=>aEM _ (by have:=b.aa t ht;omega)
  have aLo:mu m.bC.l m.Tables.l=true:=by
   cases h:mu m.bC.l m.Tables.l with
   |true=>rfl
   |false=>unfold vT at ad;rw[h]at ad;simp at ad
  unfold Uh Uj;rw[af,e2];simp only[cg,cond_true];by_cases hc:c<0\/m.Tables.l.findIdx? (nT m.bC.l true c)=none
  ·rw[hx.no (.inr hc),hy.no (.inr hc)]
   exact⟨_,rfl,rfl⟩
  ·obtain⟨i,hi⟩:∃i,m.Tables.l.findIdx? (nT m.bC.l true c)=some i:=by
    cases h:m.Tables.l.findIdx? (nT m.bC.l true c)with
    |none=>exact absurd (.inr h) hc
    |some i=>exact⟨i,rfl⟩
   obtain⟨t,ht⟩:=Y6 hi;obtain⟨p1,p2,p3⟩:=hx.yes i t aLo (by omega) hi ht;obtain⟨q1,aS,b1⟩:=hy.yes i t aLo (by omega) hi ht;obtain⟨-,-,k1,HE⟩:=BM aLo;obtain⟨d1,d2⟩:=arn k1 (JF (HE t (hz ht))) (bJ (c-t.dG));rw[<-p3]at d1 d2;have aW:vp x.2.1.l:=fun d hd=>by have:=d1 d hd;omega
   have hl:=agk (f:=Ug x) x.2.1 aW (by omega) (fun k q=>rfl) x.2.1.l.length 0 (by omega);have hl:c0 (Ug x) (0,.nil)=some (rn x.2.1.l):=hl;have hr:=aq9 y.2.1 (by rw[b1,<-p3];exact d1) (by rw[b1,<-p3];omega);rw[b1,<-p3]at hr;have hn:=(b.aa t (hz ht)).1;have hj:=J4 aW;rw[p2,aS,hl,p1,q1,hr];simp only[cond_true,cg,fP,ht,agc aW (by omega)];rw[agi hn (by omega)];exact⟨_,rfl,rfl⟩
end
end Go.Abs.mN
namespace Go.Abs.mN
open Go Go.Abs Go.Abs.Lex
noncomputable section
theorem agl{p:UInt8->Bool}:∀{l:bH},ke p l=l.length->∀c∈l,p c=true
 |[],_,c,h=>by cases h
 |a::r,h,c,hc=>by
  rw[yS]at h;cases hp:p a with
  |false=>rw[hp]at h;simp at h
  |true=>
   rw[hp,if_pos rfl,ev]at h;rcases dA.1 hc with rfl|hc
   ·exact hp
   ·exact agl (by omega) c hc
theorem arp{w:bH}(h:kindOf w=3):w≠[]/\∀c∈w,iY c=true:=by
 unfold kindOf at h;split at h
 ·cases h
 ·rename_i bf
  split at h
  ·rename_i ht
   have hw:w≠[]:=fun e=>bf (.inl e);refine⟨hw,?_⟩;cases w with
   |nil=>exact absurd rfl hw
   |cons c r=>
    have hk:=h;simp only[fF]at hk;split at hk
    ·split at hk<;>cases hk
    ·rename_i df
     split at hk
     ·rename_i lx
      have h2:=ht.2;unfold iI at h2;rw[ht.1,Nh,eO]at h2;simp only[gB]at h2;rw[if_neg df,if_pos lx]at h2;exact agl h2
     ·split at hk<;>cases hk
  ·cases h
theorem agm{c:UInt8}(h:iY c=true):48<=c.toNat/\c.toNat<=57:=by
 unfold iY at h;simp at h;simpa[UInt8.le_iff_toNat_le]using h
theorem agn{w:bH}(hl:w.length<=4)(hd:∀c∈w,iY c=true):∀(n k a:Nat),k+n=w.length->a<10^k->∃r,c0 (EZ w) ((a:Int),(k:Int))=some ((r:Nat):Int)/\Lib.decFrom a (w.drop k)=some r/\r<10^w.length
 |0,k,a,h,ao=>by
  have:k=w.length:=by omega
  subst this;refine⟨a,?_,by rw[List.drop_length];rfl,ao⟩;rw[k4];simp only[EZ,show decide ((w.length:Int)<(w.length:Int))=false by simp,cond_false]
 |n+1,k,a,h,ao=>by
  have hk:k<w.length:=by omega
  have hx:=hX hk;obtain⟨d1,d2⟩:=agm (hd _ (Kp hk));have hp:10^k<=10^3:=Nat.pow_le_pow_right (by omega) (by omega);have hw:bJ ((k:Int)+1)=((k+1:Nat):Int):=fN (by omega)
  have hu:(IntKind.u8).wrap (((w[k].toNat:Nat):Int)-48)=(((w[k].toNat-48:Nat)):Int):=by
   unfold IntKind.wrap;simp only[show IntKind.u8.signed=false from rfl,show(2:Int)^IntKind.u8.bits=256 from rfl,FT,hY,if_false];omega
  have aNi:bJ (bJ (10*(a:Int))+bJ (((w[k].toNat-48:Nat)):Int))=((a*10+(w[k].toNat-48):Nat):Int):=by
   rw[iN (n:=10*(a:Int)) (by omega) (by omega),iN (n:=(((w[k].toNat-48:Nat)):Int)) (by omega) (by omega),iN (by omega) (by omega)];omega
  obtain⟨r,af,e2,bT⟩:=agn hl hd n (k+1) (a*10+(w[k].toNat-48)) (by omega) (by rw[Nat.pow_succ];omega);refine⟨r,?_,?_,bT⟩
  ·rw[k4]
   have ab:EZ w ((a:Int),(k:Int))=some (.next (((a*10+(w[k].toNat-48):Nat):Int),((k+1:Nat):Int))):=by
    simp only[EZ,show decide ((k:Int)<(w.length:Int))=true by simp;omega,cond_true,fP,hx,cg,hu,aNi,hw]
   rw[ab];exact af
  ·rw[wc hk]
   simp only[Lib.decFrom,Lib.digitVal];rw[if_pos ⟨d1,d2⟩];exact e2
theorem ago{w:bH}(hl:w.length<=4096):∃n ok,vX w=some (n,ok)/\vl w=some (n,ok)/\(ok=true->0<=n/\n<=9999)/\(ok=false->n=0):=by
 unfold vX vl;rw[aLh hl];simp only[cg];by_cases ar:kindOf w=3
 ·by_cases aQ:w.length<=4
  ·obtain⟨bf,hd⟩:=arp ar
   obtain⟨r,af,e2,bT⟩:=agn aQ hd w.length 0 0 (by omega) (by omega);have af:c0 (EZ w) (0,0)=some ((r:Nat):Int):=af;rw[Nh]at e2
   have hr:r<=9999:=by
    have:10^w.length<=10^4:=Nat.pow_le_pow_right (by omega) aQ;omega
   have ao:Lib.atoi w=some ((r:Nat):Int):=by
    cases w with
    |nil=>exact absurd rfl bf
    |cons c q=>
     obtain⟨d1,d2⟩:=agm (hd c (by simp));have dq:(c==45)=false:=by rw[beq_eq_false_iff_ne];intro e;rw[e]at d1;revert d1;decide
     have fb:(c==43)=false:=by rw[beq_eq_false_iff_ne];intro e;rw[e]at d1;revert d1;decide
     simp only[Lib.atoi,dq,fb,hY,if_false,Lib.decNat,List.isEmpty_cons,e2,pq]
   rw[if_pos ⟨aQ,ar⟩,ao,ar];have d4:decide ((w.length:Int)>4)=false:=by simp;omega
   rw[d4];simp only[show(((3:Nat):Int) != 3)=false from rfl,cond_false,cg,af,pq];exact⟨_,_,rfl,rfl,fun _=>⟨by omega,by omega⟩,fun h=>by cases h⟩
  ·rw[if_neg fun h=>aQ h.1,ar]
   have d4:decide ((w.length:Int)>4)=true:=by simp;omega
   rw[d4];exact⟨_,_,rfl,rfl,(fun h=>by cases h),fun _=>rfl⟩
 ·rw[if_neg fun h=>ar h.2]
  have:(((kindOf w:Nat):Int) != 3)=true:=by rw[bne_iff_ne];omega
  rw[this];exact⟨_,_,rfl,rfl,(fun h=>by cases h),fun _=>rfl⟩
end
end Go.Abs.mN
namespace Go.Abs.mN
open Go Go.Abs Go.Abs.Lex
noncomputable section
def comma (ne:Bool)(l:List bH):Option (List bH):=bif ne then(match l with
 |c::r=>bif c==[44]then some r else none
 |[]=>none)else some l
def sign:List bH->Bool × List bH
 |c::r=>bif c==[45]then(true,r)else(false,c::r)
 |[]=>(false,[])
def rp:List bH->Option (bH × List bH)
 |c::r=>bif (((kindOf c:Nat):Int) != 3)then none else some (c,r)
 |[]=>none
def Bo (b:Bool)(n:Int):Int:=bJ ((bif b then -1 else 1)*n)
def Small (l:List bH):Prop:=∀w∈l,w.length<=4096
theorem arq (bF:List bH):(((((bif (decide ((ak.mk bF).len>0))then((bQ (ak.mk bF).l 0).bind fun Bm=>some (Bm==[45]))else some false):Option (Bool)).bind fun NJ=>(bif NJ then((o8 (ak.mk bF) 1 (ak.mk bF).len).bind fun zN=>some (zN,(-1)))else some (ak.mk bF,1))):Option ((ak bH) × Int))=some (ak.mk (sign bF).2,bif (sign bF).1 then -1 else 1)):=by
 cases bF with
 |nil=>rfl
 |cons a q=>
  rw[afQ];simp only[cond_true,Uv,cg,sign];cases a==[45]with
  |false=>rfl
  |true=>simp only[cond_true,Uq,cg]
theorem ars{l:List bH}(h0:l≠[])(fits:Bool)(out:ak Int)(ho:out.l.length<=100):
  zM (.mk l,fits,out)=match comma (decide (out.len>0)) l with
   |none=>some (.out (.ret ()))
   |some bF=>match rp (sign bF).2 with
    |none=>some (.out (.ret ()))
    |some (c,r)=>(vX c).bind fun x=>some (.next (.mk r,(fits&&x.2),.mk (out.l++[Bo (sign bF).1 x.1]))):=by
 obtain⟨c,r,rfl⟩:∃c r,l=c::r:=by
  cases l with
  |nil=>exact absurd rfl h0
  |cons c r=>exact⟨c,r,rfl⟩
 have tail:∀bF:List bH,((((((bif (decide ((ak.mk bF).len>0))then((bQ (ak.mk bF).l 0).bind fun Bm=>some (Bm==[45]))else some false):Option (Bool)).bind fun NJ=>(bif NJ then((o8 (ak.mk bF) 1 (ak.mk bF).len).bind fun zN=>some (zN,(-1)))else some (ak.mk bF,1))):Option ((ak bH) × Int)).bind fun Ek=>match Ek with|⟨qq,w7⟩=>(((bif (qq.len==0)then some true else((bQ qq.l 0).bind fun nf=>((pU nf).bind fun pe=>some (pe != 3)))):Option (Bool)).bind fun Iu=>(bif Iu then some (.out (.ret ()))else((bQ qq.l 0).bind fun w5=>((vX w5).bind fun lJ=>((lG 8 out (ak.mk [(bJ (w7*lJ.1))])).bind fun O2=>((o8 qq 1 qq.len).bind fun EW=>some (.next (EW,(fits&&lJ.2),O2))))))))):Option (dM ((ak bH) × Bool × (ak Int)) (cP (Bool × (ak Int)) (Unit))))=
   match rp (sign bF).2 with
    |none=>some (.out (.ret ()))
    |some (c,r)=>(vX c).bind fun x=>some (.next (.mk r,(fits&&x.2),.mk (out.l++[Bo (sign bF).1 x.1]))):=by
  intro bF;rw[arq];simp only[cg];cases(sign bF).2 with
  |nil=>rfl
  |cons a q=>
   rw[aq2];simp only[cond_false,Uv,cg,pU,rp,Uq,Uu ho];cases(((kindOf a:Nat):Int) != 3)with
   |true=>rfl
   |false=>rfl
 unfold zM comma;simp only[];rw[afQ];simp only[cond_true,Uv];cases decide (out.len>0)with
 |false=>exact tail (c::r)
 |true=>
  simp only[cond_true,cg,bne,Uq];cases c==[44]with
  |false=>rfl
  |true=>exact tail r
end
end Go.Abs.mN
namespace Go.Abs.mN
open Go Go.Abs Go.Abs.Lex
noncomputable section
theorem drop_at{l:List bH}{q:Nat}:l.drop q=(match l[q]? with|some c=>c::l.drop (q+1)|none=>[]):=by
 cases h:l[q]? with
 |some c=>
  have bc:=kl h;rw[wc bc,hX bc]at*;simp only[az]at h;rw[h]
 |none=>exact B6 (UY.1 h)
def tU (l:List bH):Nat:=bif (sign l).1 then 1 else 0
theorem art (l:List bH)(q:Nat):(sign (l.drop q)).2=l.drop (q+tU (l.drop q)):=by
 rw[drop_at];cases h:l[q]? with
 |none=>
  have:=UY.1 h;simp only[sign,tU,cond_false];rw[B6 (by omega)]
 |some c=>
  have bc:=kl h;simp only[sign,tU];cases hc:c==[45]with
  |true=>rfl
  |false=>
   simp only[cond_false,zW];rw[drop_at (q:=q),h]
theorem aru (w:ak bH)(hw:w.l.length<=1000){q:Nat}(bc:q<=w.l.length):(((((bif (decide ((q:Int)<w.len))then((bQ w.l (q:Int)).bind fun yZ=>some (yZ==[45]))else some false):Option (Bool)).bind fun aI8=>(bif aI8 then some ((bJ ((q:Int)+1)),(-1))else some ((q:Int),1))):Option (Int × Int))=some (((q+tU (w.l.drop q):Nat):Int),bif (sign (w.l.drop q)).1 then -1 else 1)):=by
 rw[drop_at];have hn:bJ ((q:Int)+1)=((q+1:Nat):Int):=fN (by omega);cases h:w.l[q]? with
 |none=>
  have:=UY.1 h;have hd:decide ((q:Int)<w.len)=false:=decide_eq_false (by rw[gL];omega);rw[hd];rfl
 |some c=>
  rw[k8 (kl h)];simp only[cond_true,fP,h,cg,sign,tU,hn];cases c==[45]<;>rfl
theorem arv (w:ak bH)(hw:w.l.length<=1000)(aC:∀x∈w.l,x.length<=4096)(out:ak Int)(ho:out.l.length<=100)(Uo:Bool){q:Nat}(bc:q<=w.l.length):
  ((((bif (decide ((bJ ((q:Int)+1))>=w.len))then some true else((bQ w.l (q:Int)).bind fun lJ=>((axF lJ).bind fun aIJ=>some (aIJ != 3)))):Option (Bool)).bind fun aIE=>(bif aIE then some (.out (.ret ()))else((bQ w.l (q:Int)).bind fun Wx=>((vl Wx).bind fun zY=>(((bif zY.2 then some zY.1 else some 10000):Option (Int)).bind fun ajh=>((lG 8 out (ak.mk [(bJ ((bif Uo then -1 else 1)*ajh))])).bind fun Iw=>some (.next ((bJ ((q:Int)+1)),Iw)))))))):Option (dM (Int × (ak Int)) (cP (Int × (ak Int)) (Unit))))=
    match rp (w.l.drop q)with
     |none=>some (.out (.ret ()))
     |some (c,r)=>bif r.isEmpty then some (.out (.ret ()))else(vl c).bind fun x=>some (.next (((q+1:Nat):Int),.mk (out.l++[Bo Uo (bif x.2 then x.1 else 10000)]))):=by
 rw[drop_at];have hn:bJ ((q:Int)+1)=((q+1:Nat):Int):=fN (by omega);rw[hn];cases h:w.l[q]? with
 |none=>
  have:=UY.1 h;have hd:decide (((q+1:Nat):Int)>=w.len)=true:=decide_eq_true (by rw[gL];omega);rw[hd];rfl
 |some c=>
  have aX:=kl h;have hk:=aLh (s:=c) (aC c (hz h));simp only[rp];by_cases he:q+1=w.l.length
  ·have hd:decide (((q+1:Nat):Int)>=w.len)=true:=decide_eq_true (by rw[gL];omega)
   have hr:(w.l.drop (q+1)).isEmpty=true:=by rw[B6 (by omega)];rfl
   rw[hd];simp only[cond_true,cg];cases(((kindOf c:Nat):Int) != 3)with
   |true=>rfl
   |false=>simp only[cond_false,hr,cond_true]
  ·have hd:decide (((q+1:Nat):Int)>=w.len)=false:=decide_eq_false (by rw[gL];omega)
   have hr:(w.l.drop (q+1)).isEmpty=false:=by
    cases h:w.l.drop (q+1)with
    |nil=>have:=List.drop_eq_nil_iff.1 h;omega
    |cons=>rfl
   rw[hd];simp only[cond_false,fP,h,cg,hk];cases(((kindOf c:Nat):Int) != 3)with
   |true=>rfl
   |false=>
    simp only[cond_false,hr];cases vl c with
    |none=>rfl
    |some x=>
     simp only[cg];cases x.2 with
     |true=>simp only[cond_true,cg,Uu ho];rfl
     |false=>simp only[cond_false,cg,Uu ho];rfl
end
end Go.Abs.mN
namespace Go.Abs.mN
open Go Go.Abs Go.Abs.Lex
noncomputable section
theorem agp (w:ak bH)(hw:w.l.length<=1000)(aC:∀x∈w.l,x.length<=4096)(out:ak Int)(ho:out.l.length<=100){q:Nat}(bc:q<=w.l.length):
  ((((((bif (decide ((q:Int)<w.len))then((bQ w.l (q:Int)).bind fun yZ=>some (yZ==[45]))else some false):Option (Bool)).bind fun aI8=>(bif aI8 then some ((bJ ((q:Int)+1)),(-1))else some ((q:Int),1))):Option (Int × Int)).bind fun aJg=>match aJg with|⟨v7,Ud⟩=>(((bif (decide ((bJ (v7+1))>=w.len))then some true else((bQ w.l v7).bind fun lJ=>((axF lJ).bind fun aIJ=>some (aIJ != 3)))):Option (Bool)).bind fun aIE=>(bif aIE then some (.out (.ret ()))else((bQ w.l v7).bind fun Wx=>((vl Wx).bind fun zY=>(((bif zY.2 then some zY.1 else some 10000):Option (Int)).bind fun ajh=>((lG 8 out (ak.mk [(bJ (Ud*ajh))])).bind fun Iw=>some (.next ((bJ (v7+1)),Iw))))))))):Option (dM (Int × (ak Int)) (cP (Int × (ak Int)) (Unit))))=
    match rp (sign (w.l.drop q)).2 with
     |none=>some (.out (.ret ()))
     |some (c,r)=>bif r.isEmpty then some (.out (.ret ()))else(vl c).bind fun x=>some (.next (((w.l.length-r.length:Nat):Int),.mk (out.l++[Bo (sign (w.l.drop q)).1 (bif x.2 then x.1 else 10000)]))):=by
 rw[aru w hw bc];simp only[cg];by_cases hle:q+tU (w.l.drop q)<=w.l.length
 ·rw[arv w hw aC out ho _ hle,art]
  cases h:rp (w.l.drop (q+tU (w.l.drop q)))with
  |none=>rfl
  |some G7=>
   obtain⟨c,r⟩:=G7
   have hr:w.l.length-r.length=q+tU (w.l.drop q)+1:=by
    rw[drop_at]at h;cases hx:w.l[q+tU (w.l.drop q)]? with
    |none=>rw[hx]at h;cases h
    |some y=>
     rw[hx]at h;have aX:=kl hx;simp only[rp]at h;cases hk:(((kindOf y:Nat):Int) != 3)with
     |true=>rw[hk]at h;cases h
     |false=>
      rw[hk]at h;simp only[cond_false,az,bt]at h;rw[<-h.2,sN];omega
   simp only[hr]
 ·exfalso
  have:tU (w.l.drop q)=0:=by
   have:w.l.drop q=[]\/q<w.l.length:=by
    by_cases h:q<w.l.length
    ·exact .inr h
    ·exact .inl (B6 (by omega))
   rcases this with h|h
   ·rw[h];rfl
   ·unfold tU at hle⊢
    cases hs:(sign (w.l.drop q)).1 with
    |true=>rw[hs]at hle;simp only[cond_true]at hle;omega
    |false=>rfl
  omega
theorem UA (w:ak bH)(out:ak Int){p:Nat}{x:bH}(hx:w.l[p]? =some x)(h:x=[41]):sH w ((p:Int),out)=some (.out (.go ((p:Int),out))):=by
 subst h;simp only[sH,fP,hx,cg,bne_self_eq_false,cond_false]
theorem agq (w:ak bH)(hw:w.l.length<=1000)(aC:∀x∈w.l,x.length<=4096)(out:ak Int)(ho:out.l.length<=100){p:Nat}{x:bH}(hx:w.l[p]? =some x)(bf:x≠[41]):
  sH w ((p:Int),out)=match comma (decide (out.len>0)) (w.l.drop p)with
   |none=>some (.out (.ret ()))
   |some bF=>match rp (sign bF).2 with
    |none=>some (.out (.ret ()))
    |some (c,r)=>bif r.isEmpty then some (.out (.ret ()))else(vl c).bind fun x=>some (.next (((w.l.length-r.length:Nat):Int),.mk (out.l++[Bo (sign bF).1 (bif x.2 then x.1 else 10000)]))):=by
 have aX:=kl hx;have hb:(x != [41])=true:=by rw[bne_iff_ne];exact bf
 have hn:bJ ((p:Int)+1)=((p+1:Nat):Int):=fN (by omega);unfold sH comma;simp only[fP,hx,cg,hb,cond_true];have hd:w.l.drop p=x::w.l.drop (p+1):=by rw[drop_at,hx]
 cases decide (out.len>0)with
 |false=>exact agp w hw aC out ho (q:=p) (by omega)
 |true=>
  simp only[cond_true,hd,bne];cases x==[44]with
  |false=>rfl
  |true=>
   simp only[hZ,cond_false,cg,cond_true,hn];exact agp w hw aC out ho (q:=p+1) (by omega)
end
end Go.Abs.mN
namespace Go.Abs.mN
open Go Go.Abs Go.Abs.Lex
noncomputable section
def close:bH:=[41]
theorem agr:(((kindOf close:Nat):Int) != 3)=true:=by kernel_rfl
theorem arx (ne:Bool){l:List bH}(h:l≠[]):comma ne (l++[close])=(comma ne l).map (· ++[close]):=by
 cases l with
 |nil=>exact absurd rfl h
 |cons c r=>
  cases ne with
  |false=>rfl
  |true=>
   simp only[comma,cond_true,jz];cases c==[44]<;>rfl
theorem ary (l:List bH):sign (l++[close])=((sign l).1,(sign l).2++[close]):=by
 cases l with
 |nil=>rfl
 |cons c r=>
  simp only[sign,jz];cases c==[45]<;>rfl
theorem arz (l:List bH):rp (l++[close])=(rp l).map fun p=>(p.1,p.2++[close]):=by
 cases l with
 |nil=>
  simp only[jB,rp,agr];rfl
 |cons c r=>
  simp only[rp,jz];cases(((kindOf c:Nat):Int) != 3)<;>rfl
theorem agu{ne:Bool}{l bF:List bH}(h:comma ne l=some bF):bF <:+ l:=by
 unfold comma at h;cases ne with
 |false=>simp only[cond_false,az]at h;rw[h];exact List.suffix_refl _
 |true=>
  simp only[cond_true]at h;cases l with
  |nil=>cases h
  |cons c r=>
   simp only at h;cases hc:c==[44]with
   |false=>rw[hc]at h;cases h
   |true=>rw[hc]at h;simp only[cond_true,az]at h;rw[<-h];exact List.suffix_cons _ _
theorem agv (l:List bH):(sign l).2 <:+ l:=by
 cases l with
 |nil=>exact List.suffix_refl _
 |cons c r=>
  simp only[sign];cases c==[45]with
  |true=>exact List.suffix_cons _ _
  |false=>exact List.suffix_refl _
theorem agw{l r:List bH}{c:bH}(h:rp l=some (c,r)):l=c::r:=by
 cases l with
 |nil=>cases h
 |cons a q=>
  simp only[rp]at h;cases hk:(((kindOf a:Nat):Int) != 3)with
  |true=>rw[hk]at h;cases h
  |false=>rw[hk]at h;simp only[cond_false,az,bt]at h;rw[h.1,h.2]
def BG (qo ro:List Int)(fits:Bool):Prop:=qo.length=ro.length/\(fits=true->qo=ro)/\(fits=false->∃x∈ro,x=10000\/x=-10000)
theorem BG.snoc{qo ro:List Int}{fits ok b:Bool}{n:Int}(h:BG qo ro fits):BG (qo++[Bo b n]) (ro++[Bo b (bif ok then n else 10000)]) (fits&&ok):=by
 refine⟨by simp[h.1],fun ab=> ?_,fun ab=> ?_⟩
 ·rw[b8]at ab
  rw[h.2.1 ab.1,ab.2];rfl
 ·cases ok with
  |true=>
   rw[xH]at ab;obtain⟨x,hx,q⟩:=h.2.2 ab;exact⟨x,by simp[hx],q⟩
  |false=>
   refine⟨Bo b 10000,by simp,?_⟩;cases b with
   |true=>exact .inr (by kernel_rfl)
   |false=>exact .inl (by kernel_rfl)
def UB (n:Nat)(r:cP (Int × ak Int) Unit):Prop:=r=.ret ()\/∃(q:Nat) (o:ak Int),r=.go ((q:Int),o)/\q+1≠n
theorem agx (w:ak bH)(p:Nat)(qo ro:ak Int)(fits:Bool)(hd:w.l.drop p=[]++[close])(U:BG qo.l ro.l fits):
  ∃J6 J7 J8,c0 zM (.mk [],fits,qo)=some (.go (J6,J7))/\c0 (sH w) ((p:Int),ro)=some (.go (((w.l.length-1:Nat):Int),J8))/\BG J7.l J8.l J6:=by
 have hx:w.l[p]? =some close:=by
  have:=congrArg (·[0]?) hd;simpa using this
 have hlen:w.l.length=p+1:=by
  have:=congrArg List.length hd;simp only[sN,jB,ev,ja]at this;have:=kl hx;omega
 refine⟨fits,qo,ro,by rw[k4];rfl,?_,U⟩;rw[k4,UA w ro hx rfl,show w.l.length-1=p by omega]
theorem arD (w:ak bH)(hw:w.l.length<=100)(aC:∀x∈w.l,x.length<=4096):∀(N:Nat) (l:List bH),l.length<=N->∀(p:Nat) (qo ro:ak Int) (fits:Bool),w.l.drop p=l++[close]->BG qo.l ro.l fits->qo.l.length+l.length<=100->
  (c0 zM (.mk l,fits,qo)=some (.ret ())/\∃r,c0 (sH w) ((p:Int),ro)=some r/\UB w.l.length r)\/
  ∃J6 J7 J8,c0 zM (.mk l,fits,qo)=some (.go (J6,J7))/\c0 (sH w) ((p:Int),ro)=some (.go (((w.l.length-1:Nat):Int),J8))/\BG J7.l J8.l J6:=by
 intro N
 induction N with
 |zero=>
  intro l hl p qo ro fits hd U hb;have:l=[]:=Kf.1 (by omega);subst this;exact .inr (agx w p qo ro fits hd U)
 |succ N ih=>
  intro l hl p qo ro fits hd U hb;cases l with
  |nil=>exact .inr (agx w p qo ro fits hd U)
  |cons x asw=>
   have hx:w.l[p]? =some x:=by
    have:=congrArg (·[0]?) hd;simpa using this
   have hlen:w.l.length=p+(asw.length+2):=by
    have:=congrArg List.length hd;simp only[sN,gM,ev,ja]at this;have:=kl hx;omega
   have uu:=ars (l:=x::asw) (by simp) fits qo (by omega);have UC:decide (ro.len>0)=decide (qo.len>0):=by rw[gL,gL,U.1]
   by_cases FB:x=close
   ·subst FB
    refine .inl ⟨?_,.go ((p:Int),ro),by rw[k4,UA w ro hx rfl],.inr ⟨p,ro,rfl,by omega⟩⟩;rw[k4,uu]
    have ao4:comma (decide (qo.len>0)) (close::asw)=none\/comma (decide (qo.len>0)) (close::asw)=some (close::asw):=by
     cases decide (qo.len>0)with
     |true=>exact .inl rfl
     |false=>exact .inr rfl
    rcases ao4 with h|h
    ·rw[h]
    ·rw[h]
     have h1:sign (close::asw)=(false,close::asw):=rfl;have h2:rp (close::asw)=none:=by simp only[rp,agr];rfl
     simp only[h1,h2]
   ·have Mc:=agq w (by omega) aC ro (by rw[<-U.1];omega) hx FB
    rw[hd,UC,arx _ (by simp)]at Mc;cases uy:comma (decide (qo.len>0)) (x::asw)with
    |none=>
     rw[uy]at Mc uu;exact .inl ⟨by rw[k4,uu],.ret (),by rw[k4,Mc];rfl,.inl rfl⟩
    |some bF=>
     rw[uy]at Mc uu;simp only[pq,ary,arz]at Mc;simp only at uu;cases C9:rp (sign bF).2 with
     |none=>
      rw[C9]at Mc uu;exact .inl ⟨by rw[k4,uu],.ret (),by rw[k4,Mc];rfl,.inl rfl⟩
     |some G7=>
      obtain⟨c,r⟩:=G7;rw[C9]at Mc uu;simp only[pq]at Mc uu
      have FC:(c::r) <:+ (x::asw):=by
       have h1:=agw C9;have h2:=agv bF;rw[h1]at h2;exact h2.trans (agu uy)
      have arE:c∈w.l:=B8 (i:=p) (by rw[hd];exact we _ (FC.subset (by simp)));obtain⟨cJ,ok,lk,Gv,-,-⟩:=ago (aC c arE);have bf:(r++[close]).isEmpty=false:=by cases r<;>rfl
      rw[lk]at uu;rw[bf,Gv]at Mc;simp only[cond_false,cg]at Mc uu;have gY:=FC.length_le;simp only[ev]at gY hl hb
      have JR:w.l.drop (w.l.length-(r++[close]).length)=r++[close]:=by
       have h1:(r++[close]) <:+ w.l:=by
        have h2:r <:+ (x::asw):=(List.suffix_cons c r).trans FC;obtain⟨t,ht⟩:=h2;have ar:(r++[close]) <:+ w.l.drop p:=⟨t,by rw[hd,<-ht,mS]⟩;exact ar.trans (List.drop_suffix _ _)
       exact(List.suffix_iff_eq_drop.1 h1).symm
      rw[k4,uu,k4 (f:=sH w),Mc];exact ih r (by omega) _ _ _ _ JR (U.snoc (ok:=ok) (n:=cJ)) (by show(qo.l++_).length+_<=_;rw[gM];simp only[ev,ja];omega)
end
end Go.Abs.mN
namespace Go.Abs.mN
open Go Go.Abs Go.Abs.Lex
noncomputable section
theorem arG (w:ak bH)(hw:w.l.length<=100)(aC:∀x∈w.l,x.length<=4096)(aqh:∀x,w.l[w.l.length-1]? =some x->x≠close):∀(N p:Nat) (ro:ak Int),w.l.length-p<=N->p<w.l.length->ro.l.length<=p->
  ∃r,c0 (sH w) ((p:Int),ro)=some r/\UB w.l.length r:=by
 intro N
 induction N with
 |zero=>intro p ro h1 h2;omega
 |succ N ih=>
  intro p ro wN hp eJ;have hx:=hX hp;generalize w.l[p]=x at hx;by_cases FB:x=close
  ·refine⟨_,by rw[k4,UA w ro hx FB],.inr ⟨p,ro,rfl,fun h=> ?_⟩⟩
   have:w.l[w.l.length-1]? =some x:=by rw[show w.l.length-1=p by omega];exact hx
   exact aqh x this FB
  ·have Mc:=agq w (by omega) aC ro (by omega) hx FB
   cases uy:comma (decide (ro.len>0)) (w.l.drop p)with
   |none=>rw[uy]at Mc;exact⟨.ret (),by rw[k4,Mc],.inl rfl⟩
   |some bF=>
    rw[uy]at Mc;simp only at Mc;cases C9:rp (sign bF).2 with
    |none=>rw[C9]at Mc;exact⟨.ret (),by rw[k4,Mc],.inl rfl⟩
    |some G7=>
     obtain⟨c,r⟩:=G7;rw[C9]at Mc;simp only at Mc;cases hr:r.isEmpty with
     |true=>rw[hr]at Mc;exact⟨.ret (),by rw[k4,Mc];rfl,.inl rfl⟩
     |false=>
      rw[hr]at Mc
      have FC:(c::r) <:+ w.l.drop p:=by
       have h1:=agw C9;have h2:=agv bF;rw[h1]at h2;exact h2.trans (agu uy)
      have UC:c∈w.l:=B8 (FC.subset (by simp));obtain⟨cJ,ok,lk,Gv,-,-⟩:=ago (aC c UC);rw[Gv]at Mc;simp only[cond_false,cg]at Mc;have gY:=FC.length_le;simp only[ev,sN]at gY
      have aj9:0<r.length:=by
       cases r with
       |nil=>cases hr
       |cons=>simp
      rw[k4,Mc];exact ih _ _ (by omega) (by omega) (by show(ro.l++_).length<=_;rw[gM];simp only[ev,ja];omega)
end
end Go.Abs.mN
