/- Texts of this claim, joined and written short by a program. -/
import Derived.Test.YtdoflpjbdlgciaaGreatDoorP31
import Derived.Lib.Join
import Derived.Lib.ItoaNum
import Derived.Test.YtdoflpjbdlgciaaGreatDoorP01
import Derived.Test.YtdoflpjbdlgciaaGreatDoorP19
import Derived.Test.YtdoflpjbdlgciaaGreatDoorP10
import Derived.Test.YtdoflpjbdlgciaaGreatDoorP26
import Derived.Test.YtdoflpjbdlgciaaGreatDoorP00
set_option linter.unusedVariables false
set_option linter.unusedSimpArgs false
set_option linter.unusedSectionVars false
namespace Go.Abs.bZ
open Go Go.Abs Go.Abs.Lex
noncomputable section
theorem axJ{s:aW}(hl:s.length<4611686018427387904):∀(n k:Nat),k+n=s.length->bO (CR s) (k:Int)=some (((k+l1 (s.drop k):Nat)):Int):=by
 intro n
 induction n with
 |zero=>
  intro k ah;have e:CR s (k:Int)=some (.out (k:Int)):=by simp only[CR,yi (show s.length<=k by omega),cond_false,aK]
  rw[hD,e,uV (by omega)];rfl
 |succ n ih=>
  intro k ah;have aH:k<s.length:=by omega
  have hx:s[k]? =some s[k]:=by simp[aH]
  have ns:s.drop k=s[k]::s.drop (k+1):=qm aH
  have hs:((((sym (s.drop k):Nat):Int))==0)=!decide (0<sym (s.drop k)):=by
   by_cases h:0<sym (s.drop k)
   ·rw[decide_eq_true h];simp;omega
   ·have:sym (s.drop k)=0:=by omega
    rw[this];rfl
  have ae:CR s (k:Int)=bif (iP s[k]||s[k].toNat==35||oA (s.drop k))then some (.out (k:Int))else some (.next (aN ((k:Int)+1))):=by
   simp only[CR,yh aH,cond_true,cX,hx,aK,aeX,Tb,ME,aeY hl (se aH),hs,bne];rw[show((s[k].toNat:Int)==35)=(s[k].toNat==35)from oK s[k] 35];have hb:oA (s.drop k)=(mK s[k]||ji s[k]||decide (0<sym (s.drop k))):=by rw[ns];rfl
   rw[hb];cases iP s[k]<;>cases s[k].toNat==35<;>cases mK s[k]<;>cases ji s[k]<;>cases decide (0<sym (s.drop k))<;>rfl
  rw[hD,ae]
  have hw:l1 (s.drop k)=if iP s[k]||s[k].toNat==35||oA (s.drop k)then 0 else l1 (s.drop (k+1))+1:=by
   rw[ns];rfl
  rw[hw];cases(iP s[k]||s[k].toNat==35||oA (s.drop k))with
  |true=>rfl
  |false=>
   simp only[cond_false,gN,if_false];rw[ef (by omega),ih (k+1) (by omega)];congr 2;omega
theorem axK{s:aW}(hl:s.length<4611686018427387904){k:Nat}(ah:k<=s.length):bO (KY s) (k:Int)=some (((k+hP l0 (s.drop k):Nat)):Int):=
 MF hl l0 (fun k c hx=>by
  have aH:=ep hx;simp only[KY,yh aH,cond_true,cX,hx,aK,Tb,ME];rw[show((c.toNat:Int)==95)=(c.toNat==95)from oK c 95];unfold l0;cases mK c<;>cases ji c<;>cases c.toNat==95<;>rfl) (fun k ah=>by simp only[KY,yi ah,cond_false,aK]) (s.length-k) k (by omega)
theorem axL{s:aW}(hl:s.length<4611686018427387904){k:Nat}(ah:k<=s.length):bO (KZ s) (k:Int)=some (((k+hP ji (s.drop k):Nat)):Int):=
 MF hl ji (fun k c hx=>by
  have aH:=ep hx;simp only[KZ,yh aH,cond_true,cX,hx,aK,ME];cases ji c<;>rfl) (fun k ah=>by simp only[KZ,yi ah,cond_false,aK]) (s.length-k) k (by omega)
theorem axM:bg kw:=by unfold bg;rw[Qj];omega
theorem axN (l:List aW)(x:aW):l.contains x=l.any fun y=>y==x:=by
 induction l with
 |nil=>rfl
 |cons y r ih=>rw[List.contains_cons,ih,List.any_cons,Ht]
theorem axO{s:aW}(hl:s.length<4611686018427387904){k:Nat}(ah:k<s.length)(hw:iP s[k]=false)(oL:s[k].toNat≠35):
  K0 s (k:Int)=some (((iQ (s.drop k):Nat):Int),((k+la (s.drop k):Nat):Int)):=by
 have hx:s[k]? =some s[k]:=by simp[ah]
 have ns:s.drop k=s[k]::s.drop (k+1):=qm ah;have hlen:(s.drop k).length=s.length-k:=pD;unfold K0;simp only[cX,hx,aK,Tb,ME];have oi:iQ (s.drop k)=if mK s[k]then(if kw.contains ((s.drop k).take (hP l0 (s.drop k)))then 2 else 1)else if ji s[k]then 3 else if 0<sym (s.drop k)then 4 else 5:=by rw[ns];rfl
 have dY:la (s.drop k)=if mK s[k]then hP l0 (s.drop k)else if ji s[k]then hP ji (s.drop k)else if 0<sym (s.drop k)then sym (s.drop k)else l1 (s.drop (k+1))+1:=by rw[ns];rfl
 rw[oi,dY];cases hc:mK s[k]with
 |true=>
  simp only[cond_true,if_true];rw[axK hl (se ah)];have hle:=xP l0 (s.drop k);simp only[aK,au7];rw[MG (by omega) (by omega)];have e:(s.take (k+hP l0 (s.drop k))).drop k=(s.drop k).take (hP l0 (s.drop k)):=by rw[List.drop_take];congr 1;omega
  rw[e];simp only[aK];rw[aej (ak.mk kw) _ axM,axN];simp only[aK];show(bif kw.any (fun y=>y==_)then _ else _)=_;cases kw.any (fun y=>y==(s.drop k).take (hP l0 (s.drop k)))<;>rfl
 |false=>
  simp only[cond_false,gN,if_false];cases hd:ji s[k]with
  |true=>
   simp only[cond_true,if_true];rw[axL hl (se ah)];rfl
  |false=>
   simp only[cond_false,gN,if_false];rw[aeY hl (se ah)];simp only[aK];have aCk:=abS (s.drop k);by_cases hs:0<sym (s.drop k)
   ·have d:decide (((sym (s.drop k):Nat):Int)>0)=true:=by simp;exact hs
    rw[d,if_pos hs,if_pos hs];simp only[cond_true];rw[gp (by omega) (by omega)];rfl
   ·have d:decide (((sym (s.drop k):Nat):Int)>0)=false:=by simp;omega
    rw[d,if_neg hs,if_neg hs];simp only[cond_false];rw[axJ hl (s.length-k) k (by omega)]
    have hb:oA (s.drop k)=false:=by
     have:oA (s.drop k)=(mK s[k]||ji s[k]||decide (0<sym (s.drop k))):=by rw[ns];rfl
     rw[this,hc,hd,decide_eq_false hs];rfl
    have lS:l1 (s.drop k)=l1 (s.drop (k+1))+1:=by
     have:l1 (s.drop k)=if iP s[k]||s[k].toNat==35||oA (s.drop k)then 0 else l1 (s.drop (k+1))+1:=by rw[ns];rfl
     have axP:(s[k].toNat==35)=false:=by simpa using oL
     rw[this,hw,hb,axP];rfl
    rw[lS];rfl
theorem axQ{s:aW}{k:Nat}(ah:k<=s.length)(h:dJ s k<s.length):iP s[dJ s k]=false/\s[dJ s k].toNat≠35:=by
 have hd:s.drop (dJ s k)=s[dJ s k]::s.drop (dJ s k+1):=qm h;have e:(s.drop k).drop (hE false (s.drop k))=s.drop (dJ s k):=by rw[tA];rfl
 rw[<-e]at hd;exact Te false (s.drop k) _ _ hd rfl
theorem axR{s:aW}{k:Nat}(h:k<s.length):1<=la (s.drop k):=by
 have hd:s.drop k=s[k]::s.drop (k+1):=qm h;rw[hd];simp only[la];split
 ·rename_i hc
  rw[zI,if_pos (by simp[l0,hc])];omega
 ·split
  ·rename_i hc;rw[zI,if_pos hc];omega
  ·split<;>omega
theorem axS{s:aW}(hl:s.length<=4096):∀(n k:Nat) (acc:ak Token),k+n=s.length->acc.l.length<=k+1->
  ∃(e:Int) (y:ak Token) (ts:List Token),bO (zZ s) ((k:Int),acc)=some (e,y)/\y.l=acc.l++ts/\ts.length<=n/\(s.length<=dJ s k->ts=[])/\
   (dJ s k<s.length->∃DC,ts=⟨((iQ (s.drop (dJ s k)):Nat):Int),(k:Int),((dJ s k:Nat):Int),((hF s k:Nat):Int)⟩::DC/\(s.length<=dJ s (hF s k)->DC=[])/\(dJ s (hF s k)<s.length->DC≠[])):=by
 intro n
 induction n using Nat.strongRecOn with
 |ind n ih=>
  intro k acc ah aCl;have iw:=Qk (s:=s) (k:=k) (by omega);rw[hD];have HJ:=au3 (s:=s) (by omega) (k:=k) (by omega);by_cases aH:dJ s k<s.length
  ·obtain⟨q1,aT⟩:=axQ (by omega) aH
   have axT:=axO (s:=s) (by omega) aH q1 aT;have jb:=axR aH;have oo:=Ql (s:=s) (k:=k) (by omega);have hge:k<=dJ s k:=by unfold dJ;omega
   have he:hF s k=dJ s k+la (s.drop (dJ s k)):=rfl;obtain⟨z,pN,wW⟩:=Dt (uE:=32) (x:=acc) (y:=ak.mk [(⟨((iQ (s.drop (dJ s k)):Nat):Int),(k:Int),((dJ s k:Nat):Int),((hF s k:Nat):Int)⟩:Token)]) (by omega) (by show acc.l.length+1<=_;omega)
   have ae:zZ s ((k:Int),acc)=some (.next (((hF s k:Nat):Int),z)):=by
    simp only[zZ,HJ,aK,yh aH,cond_true,axT];rw[<-he,pN];rfl
   rw[ae];obtain⟨e,y,ts,ag,e2,bI,cz,dF⟩:=ih (s.length-hF s k) (by omega) (hF s k) z (by omega) (by rw[wW];simp only[e1];show acc.l.length+1<=_;omega);refine⟨e,y,_::ts,ag,by rw[e2,wW,jJ];rfl,by simp only[dE];omega,fun h=>by omega,fun _=>⟨ts,rfl,cz,fun h=> ?_⟩⟩;obtain⟨DC,MR,-⟩:=dF h;rw[MR];simp
  ·have ae:zZ s ((k:Int),acc)=some (.out ((k:Int),acc)):=by
    simp only[zZ,HJ,aK,yi (show s.length<=dJ s k by omega),cond_false]
   rw[ae];exact⟨_,acc,[],rfl,by simp,by simp,fun _=>rfl,fun h=>absurd h aH⟩
theorem axU{s:aW}(hl:s.length<=4096):K1 s=some ((kindOf s:Nat):Int):=by
 unfold K1 QV;have hd:decide ((s.length:Int)>4096)=false:=by simp;omega
 rw[hd];simp only[cond_false];obtain⟨e,y,ts,ag,e2,bI,cz,dF⟩:=axS hl s.length 0 .emp (by omega) (by simp[ak.l]);have B6:bO (zZ s) (0,.emp)=some (e,y):=ag;have hy:y.l=ts:=by rw[e2];rfl
 rw[B6];simp only[aK];obtain⟨z,pN,wW⟩:=Dt (uE:=32) (x:=y) (y:=ak.mk [(Token.mk 0 e (s.length:Int) (s.length:Int))]) (by omega) (by rw[hy];show ts.length+1<=_;omega);rw[pN];simp only[aK,show((0:Int) != 0)=false from rfl,cond_false];have ss:z.l=ts++[Token.mk 0 e (s.length:Int) (s.length:Int)]:=by rw[wW,hy];rfl
 have hlen:(z.len != 2)=!(z.l.length==2):=by unfold bne;rw[show(z.len==2)=(z.l.length==2)from Hw z 2]
 rw[hlen,ss];have pV:kindOf s=if s=[]\/4096<s.length then 0 else if dJ s 0=0/\hF s 0=s.length then iQ s else 0:=rfl
 by_cases aH:dJ s 0<s.length
 ·obtain⟨DC,MR,f1,f2⟩:=dF aH
  have bu:¬(s=[]\/4096<s.length):=by
   rintro(h|h)
   ·rw[h]at aH;simp at aH
   ·omega
  rw[pV,if_neg bu];have dw:=Ql (s:=s) (k:=0) (by omega);by_cases qM:dJ s (hF s 0)<s.length
  ·
   have h1:((ts++[Token.mk 0 e (s.length:Int) (s.length:Int)]).length==2)=false:=by
    have:=f2 qM;rw[MR];cases DC with
    |nil=>exact absurd rfl this
    |cons a r=>simp
   rw[h1]
   have axV:¬(dJ s 0=0/\hF s 0=s.length):=by
    rintro⟨-,h⟩;have:hF s 0<=dJ s (hF s 0):=by show _<=_+_;omega
    omega
   rw[if_neg axV];rfl
  ·have hn:=f1 (by omega)
   subst hn;subst MR;have h1:(([(⟨((iQ (s.drop (dJ s 0)):Nat):Int),((0:Nat):Int),((dJ s 0:Nat):Int),((hF s 0:Nat):Int)⟩:Token)]++[Token.mk 0 e (s.length:Int) (s.length:Int)]).length==2)=true:=rfl;rw[h1];simp only[fQ,cond_false,ky,ke,SA,n4,aK];by_cases ao:dJ s 0=0
   ·by_cases hb:hF s 0=s.length
    ·rw[if_pos ⟨ao,hb⟩,ao,hb]
     simp
    ·have:((((hF s 0:Nat):Int)) != (s.length:Int))=true:=by simp;omega
     rw[if_neg (fun h=>hb h.2),ao,this];rfl
   ·have:((((dJ s 0:Nat):Int)) != 0)=true:=by simp;omega
    rw[if_neg (fun h=>ao h.1),this];rfl
 ·have MM:=cz (by omega)
  subst MM;have h1:(([]++[Token.mk 0 e (s.length:Int) (s.length:Int)]).length==2)=false:=rfl;rw[h1,pV];by_cases hs:s=[]
  ·rw[if_pos (.inl hs)];rfl
  ·have jb:0<s.length:=TP.2 hs
   rw[if_neg (by rintro(h|h);exact hs h;omega),if_neg (by rintro⟨h,-⟩;omega)];rfl
theorem Ty (w:aW)(h:w.length<=40):nR w=some (kP w):=by
 unfold kP zP nR;rw[axU (by omega)];unfold Ki;simp only[aK];cases ah:((kindOf w:Nat):Int)==1<;>cases hl:decide ((w.length:Int)<=16)<;>simp[ah]
theorem Tz{m:Model}(h:qk m=true):zV m=some (mT m)/\CU m=some (mT m):=⟨auZ (Dy h),au0 (Dy h) Ty⟩
end
end Go.Abs.bZ
namespace Go.Abs.bZ
open Go Go.Abs Go.Abs.Lex
noncomputable section
theorem DD:∀(k u:Nat),u<10^(k+1)->(Lib.decDigits u).length<=k+1
 |0,u,h=>by rw[Lib.decDigits_one (by simpa using h)];simp
 |k+1,u,h=>by
  rw[Lib.decDigits];split
  ·simp
  ·have:=DD k (u/10) (by rw[Nat.pow_succ]at h;omega)
   simp only[e1,dE,eF];omega
def HP (ds:List Int):Prop:=∀d∈ds,-9999<=d/\d<=9999
theorem afE{sep:List UInt8}{B:Nat}:∀{ws:List (List UInt8)},(∀w∈ws,w.length<=B)->(Lib.joinTail sep ws).length<=ws.length*(sep.length+B)
 |[],_=>by simp[Lib.joinTail]
 |w::ws,h=>by
  have h1:=h w (by simp);have h2:=afE (sep:=sep) (ws:=ws) fun x hx=>h x (by simp[hx]);have e:Lib.joinTail sep (w::ws)=sep++w++Lib.joinTail sep ws:=by simp[Lib.joinTail]
  rw[e];simp only[e1,dE,si,Nat.one_mul];omega
theorem axW{sep:List UInt8}{B:Nat}{ws:List (List UInt8)}(h:∀w∈ws,w.length<=B):(Lib.join ws sep).length<=ws.length*(sep.length+B):=by
 cases ws with
 |nil=>simp[Lib.join]
 |cons w ws=>
  have h1:=h w (by simp);have h2:=afE (sep:=sep) (ws:=ws) fun x hx=>h x (by simp[hx]);rw[Lib.join_cons];simp only[e1,dE,si,Nat.one_mul];omega
theorem axX{out:ak aW}(ho:out.l.length<=100)(x:aW):jz 16 out (.mk [x])=some (.mk (out.l++[x])):=by
 have h:((out.l.length+([x]:List aW).length)*(16+1)<=2^40):=by simp only[dE,eF];omega
 unfold jz;exact(if_neg (List.cons_ne_nil x [])).trans (if_pos h)
def iF (ds:List Int):List aW:=ds.map Lib.itoa
def r8 (ds:List Int):ak aW:=if ds=[]then .nil else .mk (iF ds)
theorem afF (ds:List Int):(r8 ds).l=iF ds:=by
 unfold r8;split
 ·rename_i h;subst h;rfl
 ·rfl
theorem axY{d:Int}(h:-9999<=d/\d<=9999):strconv_Itoa d=some (Lib.itoa d):=by
 unfold strconv_Itoa;rw[if_pos (by omega)]
theorem afG{d:Int}(h:-9999<=d/\d<=9999):(Lib.itoa d).length<=5:=by
 unfold Lib.itoa;split
 ·have:=DD 3 d.natAbs (by simp;omega)
  simp only[dE];omega
 ·have:=DD 3 d.toNat (by simp;omega)
  omega
theorem TA{ds:List Int}(h:HP ds):(Lib.join (iF ds) [44,32]).length<=ds.length*7:=by
 have h1:=axW (sep:=[44,32]) (B:=5) (ws:=iF ds) fun w hw=>by
  obtain⟨d,hd,rfl⟩:=eM.1 hw;exact afG (h d hd)
 have h2:(iF ds).length=ds.length:=by simp[iF]
 rw[h2]at h1;simpa using h1
theorem axZ{ds:List Int}(a7:HP ds)(hl:ds.length<=6):strings_Join (r8 ds) [44,32]=some (Lib.join (iF ds) [44,32]):=by
 unfold r8;split
 ·rename_i h;subst h;rfl
 ·rename_i h
  have h1:=TA a7;have h2:(iF ds).length=ds.length:=by simp[iF]
  unfold strings_Join;simp only[];rw[if_pos ⟨by intro eS;rw[eS]at h2;cases ds<;>simp_all,by omega,by omega⟩]
theorem ax0{d:Int}(h:0<=d/\d<=9999):rZ d=some (Lib.itoa d):=by
 unfold rZ;rw[if_pos (by omega)]
theorem ax1 (xs:List aW)(x sep:aW):Lib.join (xs++[x]) sep=(if xs=[]then[]else Lib.join xs sep++sep)++x:=by
 cases xs with
 |nil=>simp[Lib.join_one]
 |cons y r=>
  rw[if_neg (by simp),ky,Lib.join_cons,Lib.join_cons];unfold Lib.joinTail;simp
theorem afH{f:(aW × Int)->Option (cE (aW × Int) aW)}{g:Int->Option aW}(ds:ak Int)(a7:HP ds.l)(hl:ds.l.length<=100)(bx:∀d,d∈ds.l->g d=some (Lib.itoa d))
  (ae:∀(s:aW) (k:Int),f (s,k)=(bif (decide (k<ds.len))then(((bif (decide (k>0))then((da s [44,32]).bind fun kJ=>some kJ)else some s):Option (aW)).bind fun jj=>((aP ds.l k).bind fun eU=>((g eU).bind fun po=>((da jj po).bind fun kI=>some (.next (kI,(aN (k+1))))))))else some (.out s))):
  ∀(n k:Nat),k+n=ds.l.length->bO f (Lib.join (iF (ds.l.take k)) [44,32],(k:Int))=some (Lib.join (iF ds.l) [44,32])
 |0,k,h=>by
  have:k=ds.l.length:=by omega
  subst this;rw[hD,ae,fj,Bh];rfl
 |n+1,k,h=>by
  have ah:k<ds.l.length:=by omega
  have hx:=jI ah;have hm:=w9 ah
  have hlen:(Lib.join (iF (ds.l.take k)) [44,32]).length<=700:=by
   have:=TA (ds:=ds.l.take k) fun d hd=>a7 d (Be hd);rw[mc]at this;omega
  have hi:=afG (a7 _ hm);have hw:aN ((k:Int)+1)=((k+1:Nat):Int):=ef (by omega)
  have e:iF (ds.l.take (k+1))=iF (ds.l.take k)++[Lib.itoa ds.l[k]]:=by
   unfold iF;rw[tv,hx,lh];rfl
  have rL:f (Lib.join (iF (ds.l.take k)) [44,32],(k:Int))=some (.next (Lib.join (iF (ds.l.take (k+1))) [44,32],((k+1:Nat):Int))):=by
   rw[ae,eL ah,e,ax1];simp only[cond_true,cX,hx,aK,bx _ hm,hw];by_cases h0:k=0
   ·subst h0
    have d0:decide (((0:Nat):Int)>0)=false:=by decide
    rw[d0];have:iF (ds.l.take 0)=[]:=rfl
    have a0:da [] (Lib.itoa ds.l[0])=some (Lib.itoa ds.l[0]):=by
     unfold da;rw[if_pos (by simp only[eF];omega)];rfl
    simp only[cond_false,aK,this,if_true,Lib.join_nil,ke,a0]
   ·have d1:decide (((k:Nat):Int)>0)=true:=by rw[decide_eq_true_eq];omega
    have bu:iF (ds.l.take k)≠[]:=fun h=>by
     have:=congrArg List.length h;unfold iF at this;rw[jn,mc,eF]at this;omega
    rw[d1,if_neg bu]
    have al:da (Lib.join (iF (ds.l.take k)) [44,32]) [44,32]=some (Lib.join (iF (ds.l.take k)) [44,32]++[44,32]):=by
     unfold da;rw[if_pos (by simp only[dE,eF];omega)]
    have a2:da (Lib.join (iF (ds.l.take k)) [44,32]++[44,32]) (Lib.itoa ds.l[k])=some (Lib.join (iF (ds.l.take k)) [44,32]++[44,32]++Lib.itoa ds.l[k]):=by
     unfold da;rw[if_pos (by simp only[e1,dE,eF];omega)]
    simp only[cond_true,al,aK,a2]
  rw[hD,rL];exact afH ds a7 hl bx ae n (k+1) (by omega)
theorem ax2 (ds:ak Int)(a7:∀d∈ds.l,0<=d/\d<=9999)(hl:ds.l.length<=100):Lm ds=some (Lib.join (iF ds.l) [44,32]):=by
 unfold Lm;have:=afH (f:=Q4 ds) (g:=rZ) ds (fun d hd=>by have:=a7 d hd;omega) hl (fun d hd=>ax0 (a7 d hd)) (fun s k=>rfl) ds.l.length 0 (by omega);have:bO (Q4 ds) ([],0)=some (Lib.join (iF ds.l) [44,32]):=this;rw[this];rfl
theorem ax3{name:aW}{t:aW}(hn:name.length<=40)(ht:t.length<=100):((da name [40]).bind fun x=>(da x t).bind fun y=>(da y [41]).bind fun z=>some z)=some (name++[40]++t++[41]):=by
 have al:da name [40]=some (name++[40]):=by
  unfold da;rw[if_pos (by simp only[dE,eF];omega)]
 have a2:da (name++[40]) t=some (name++[40]++t):=by
  unfold da;rw[if_pos (by simp only[e1,dE,eF];omega)]
 have a3:da (name++[40]++t) [41]=some (name++[40]++t++[41]):=by
  unfold da;rw[if_pos (by simp only[e1,dE,eF];omega)]
 simp only[al,a2,a3,aK]
theorem afI{s:List Int}(hs:ka s=true):∀(l:List Int) (k:Int),(∀x∈l,0<=x/\x<s.length)->∀d∈uG s l k,0<=d/\d<=9999
 |[],_,_,d,h=>by cases h
 |x::r,k,hx,d,h=>by
  rcases dL.1 h with rfl|h
  ·obtain⟨h1,h2⟩:=Dr hs (hx x (by simp)).1 (hx x (by simp)).2
   have:=Int.emod_nonneg k (show gg s x≠0 by omega);have:=Int.emod_lt_of_pos k (show 0<gg s x by omega);omega
  ·exact afI hs r _ (fun y hy=>hx y (by simp[hy])) d h
theorem ax4{s:List Int}(hs:ka s=true){fk:List Int}(hc:kb s.length fk=true)(k:Int):(∀d∈uH s fk k,0<=d/\d<=9999)/\(uH s fk k).length<=3:=by
 unfold kb at hc;simp only[ca,decide_eq_true_eq,eV]at hc;unfold uH;refine⟨fun d hd=>afI hs fk.reverse k (fun x hx=> ?_) d (List.mem_reverse.1 hd),by rw[TQ,SL,TQ];exact hc.1⟩;have:=hc.2 x (List.mem_reverse.1 hx);omega
theorem afJ{f:(Int × ak aW)->Option (cE (Int × ak aW) (ak aW))}(ds:ak Int)(a7:HP ds.l)(hl:ds.l.length<=100)
  (ae:∀(k:Int) (q:ak aW),f (k,q)=(bif (decide (k<ds.len))then((aP ds.l k).bind fun eU=>((strconv_Itoa eU).bind fun po=>((jz 16 q (ak.mk [po])).bind fun F8=>some (.next ((aN (k+1)),F8)))))else some (.out q))):
  ∀(n k:Nat),k+n=ds.l.length->bO f ((k:Int),r8 (ds.l.take k))=some (r8 ds.l)
 |0,k,h=>by
  have:k=ds.l.length:=by omega
  subst this;rw[hD,ae,fj,Bh];rfl
 |n+1,k,h=>by
  have ah:k<ds.l.length:=by omega
  have hx:=jI ah
  have bI:(r8 (ds.l.take k)).l.length<=100:=by
   rw[afF];unfold iF;rw[jn,mc];omega
  have cz:r8 (ds.l.take (k+1))=.mk (iF (ds.l.take k)++[Lib.itoa ds.l[k]]):=by
   unfold r8
   rw[if_neg fun h=>by
    have:=congrArg List.length h;rw[mc]at this;simp only[eF]at this;omega,tv,hx]
   unfold iF;rw[lh];rfl
  have hw:aN ((k:Int)+1)=((k+1:Nat):Int):=ef (by omega)
  have rL:f ((k:Int),r8 (ds.l.take k))=some (.next (((k+1:Nat):Int),r8 (ds.l.take (k+1)))):=by
   rw[ae,eL ah];simp only[cond_true,cX,hx,aK,axY (a7 _ (w9 ah)),axX bI,afF,hw,cz]
  rw[hD,rL];exact afJ ds a7 hl ae n (k+1) (by omega)
theorem ax5{m:Model}(hb:qk m=true)(af:mT m=true)(c:Int):∃s,KS m c=some s/\Ln m.aL m.Tables true c=some s/\s.length<=200:=by
 have b:=Dy hb;obtain⟨v1,v2⟩:=Tz hb;unfold KS;rw[v1,af]
 ·skip
  have hI:∀t∈m.Tables.l,bg t.ba.l:=fun t ht=>by have:=b.ad t ht;unfold bg;omega
  have fy:bg m.aL.l:=by have:=b.MD;unfold bg;omega
  have lN:bg m.Tables.l:=by have:=b.tables;unfold bg;omega
  obtain⟨x,ag,hx⟩:=aeA m.aL m.Tables true c fy lN hI;obtain⟨y,e2,hy⟩:=aeB m.aL m.Tables true c fy lN hI fun t ht=>Ty _ (by have:=b.ad t ht;omega)
  have tr:il m.aL.l m.Tables.l=true:=by
   cases h:il m.aL.l m.Tables.l with
   |true=>rfl
   |false=>unfold mT at af;rw[h]at af;simp at af
  unfold QM Ln;rw[ag,e2];simp only[aK,cond_true];by_cases hc:c<0\/m.Tables.l.findIdx? (ku m.aL.l true c)=none
  ·rw[hx.no (.inr hc),hy.no (.inr hc)]
   exact⟨_,rfl,rfl,by decide⟩
  ·obtain⟨i,hi⟩:∃i,m.Tables.l.findIdx? (ku m.aL.l true c)=some i:=by
    cases h:m.Tables.l.findIdx? (ku m.aL.l true c)with
    |none=>exact absurd (.inr h) hc
    |some i=>exact⟨i,rfl⟩
   obtain⟨t,ht⟩:=MA hi;obtain⟨p1,p2,p3⟩:=hx.yes i t tr (by omega) hi ht;obtain⟨q1,aT,b3⟩:=hy.yes i t tr (by omega) hi ht;obtain⟨-,-,jT,C0⟩:=uC tr;obtain⟨d1,d2⟩:=ax4 jT (uD (C0 t (e0 ht))) (aN (c-t.cF));rw[<-p3]at d1 d2;have a7:HP x.2.1.l:=fun d hd=>by have:=d1 d hd;omega
   have hl:=afJ (f:=QL x) x.2.1 a7 (by omega) (fun k q=>rfl) x.2.1.l.length 0 (by omega);have hl:bO (QL x) (0,.nil)=some (r8 x.2.1.l):=hl;have hr:=ax2 y.2.1 (by rw[b3,<-p3];exact d1) (by rw[b3,<-p3];omega);rw[b3,<-p3]at hr;have hn:=(b.ad t (e0 ht)).1;have hj:=TA a7;rw[p2,aT,hl,p1,q1,hr];simp only[cond_true,aK,cX,ht,axZ a7 (by omega)];rw[ax3 hn (by omega)];exact⟨_,rfl,rfl,by simp only[e1,dE,eF];omega⟩
def HQ (n:Int)(c:Change):Bool:=decide (c.Cell<0)||(decide (c.Cell>=n)||(decide (c.Add< -1000000000)||decide (c.Add>1000000000)))
def ql (n:Int)(t:Term):Bool:=decide (t.Cell<0)||(decide (t.Cell>=n)||(decide (t.dB< -1000000000)||decide (t.dB>1000000000)))
theorem ax6 (a:Int):KP a=some (!(decide (a< -1000000000)||decide (a>1000000000))):=by
 unfold KP;congr 1;rw[Bi];simp only[ca,mb,uX,decide_eq_true_eq,decide_eq_false_iff_not];omega
theorem ax7 (n:Int)(t:Term):F7 n t=some (ql n t):=by
 unfold F7 ql;rw[ax6];cases decide (t.Cell<0)<;>cases decide (t.Cell>=n)<;>simp
theorem ax8 (n:Int)(r:Row)(h:bg r.cd.l):KQ r n=some (!(r.cd.l.any (ql n))):=by
 unfold KQ;have:QJ r.cd (fun z0=>F7 n z0)=some (r.cd.l.any (ql n)):=Dp r.cd h fun t _=>ax7 n t;rw[this];rfl
def MS (n:Int)(x:c7):Bool:=!(x.Delta.l.any (HQ n))&&!(x.de.l.any fun r=>r.cd.l.any (ql n))
structure TB (x:c7):Prop where
 d:bg x.Delta.l
 h:bg x.de.l
 r:∀r∈x.de.l,bg r.cd.l
theorem ax9{m:Model}{x:c7}(hx:TB x){y:ak Range}(hy:GJ m=some y):Ll m x=some (MS y.len x):=by
 unfold Ll MS;rw[hy];simp only[aK]
 rw[lE (f:=Li x y) x.Delta.l hx.d (HQ y.len) (fun k c hc=>by
  simp only[Li,eL (ep hc),cond_true,cX,hc,aK];rw[show(decide (c.Cell<0)||(decide (c.Cell>=y.len)||(decide (c.Add< -1000000000)||decide (c.Add>1000000000))))=HQ y.len c from rfl];cases HQ y.len c<;>rfl) (by simp only[Li,fj,cond_false])]
 simp only[aK]
 rw[lE (f:=Lk x y) x.de.l hx.h (fun r=>r.cd.l.any (ql y.len)) (fun k r hr=>by
  simp only[Lk,eL (ep hr),cond_true]
  rw[lE (f:=Lj x y (k:Int)) r.cd.l (hx.r r (e0 hr)) (ql y.len) (fun j t ht=>by
   simp only[Lj,cX,hr,aK,eL (ep ht),cond_true,ht];rw[show(decide (t.Cell<0)||(decide (t.Cell>=y.len)||(decide (t.dB< -1000000000)||decide (t.dB>1000000000))))=ql y.len t from rfl];cases ql y.len t<;>rfl) (by simp only[Lj,cX,hr,aK,fj,cond_false])]
  simp only[aK];cases r.cd.l.any (ql y.len)<;>rfl) (by simp only[Lk,fj,cond_false])]
 cases x.Delta.l.any (HQ y.len)<;>cases x.de.l.any (fun r=>r.cd.l.any (ql y.len))<;>rfl
def uT (r:Row):Bool:=!(decide (r.cd.len>20)||(decide (r.gA< -1000000000)||decide (r.gA>1000000000)))
def Bb (x:c7):Bool:=!(decide (x.Delta.len>20)||decide (x.de.len>8))&&x.de.l.all uT
theorem aya (x:c7):Ku x=some (Bb x):=by
 unfold Ku Bb;cases hc:decide (x.Delta.len>20)||decide (x.de.len>8)with
 |true=>rfl
 |false=>
  have eS:x.de.l.length<=8:=by
   have:=of_decide_eq_false (uX.1 hc).2;rw[dy]at this;omega
  simp only[cond_false]
  rw[lE (f:=Kt x) x.de.l (by omega) (fun r=>!uT r) (fun k r hr=>by
   simp only[Kt,eL (ep hr),cond_true,cX,hr,aK];have:(!uT r)=(decide (r.cd.len>20)||(decide (r.gA< -1000000000)||decide (r.gA>1000000000))):=by unfold uT;simp
   rw[this];cases decide (r.cd.len>20)<;>cases decide (r.gA< -1000000000)<;>cases decide (r.gA>1000000000)<;>rfl) (by simp only[Kt,fj,cond_false])]
  have:(x.de.l.any fun r=>!uT r)=!(x.de.l.all uT):=by rw[List.not_all_eq_any_not]
  rw[this];cases x.de.l.all uT<;>rfl
theorem ayb{x:c7}(h:Bb x=true):TB x/\∀r∈x.de.l,r.cd.l.length<=20:=by
 unfold Bb at h;simp only[ca,mb,uX,decide_eq_false_iff_not]at h;simp only[dy]at h
 have hr:∀r∈x.de.l,r.cd.l.length<=20:=fun r hr=>by
  have:=eV.1 h.2 r hr;unfold uT at this;simp only[mb,uX,decide_eq_false_iff_not]at this;simp only[dy]at this;omega
 exact⟨⟨by unfold bg;omega,by unfold bg;omega,fun r h=>by have:=hr r h;unfold bg;omega⟩,hr⟩
theorem afK{m:Model}(af:mT m=true):il m.aL.l m.Tables.l=true:=by
 cases h:il m.aL.l m.Tables.l with
 |true=>rfl
 |false=>unfold mT at af;rw[h]at af;simp at af
theorem ayc{m:Model}(hb:qk m=true):∃x y,KR m=some x/\GJ m=some y/\y.l=x.l/\x.l.length<=100000:=by
 have b:=Dy hb;obtain⟨v1,v2⟩:=Tz hb;have hI:∀t∈m.Tables.l,bg t.ba.l:=fun t ht=>by have:=b.ad t ht;unfold bg;omega
 have fy:bg m.aL.l:=by have:=b.MD;unfold bg;omega
 have lN:bg m.Tables.l:=by have:=b.tables;unfold bg;omega
 unfold KR QK GJ z8;rw[v1,v2];cases af:mT m with
 |false=>exact⟨_,_,rfl,rfl,rfl,by decide⟩
 |true=>
  obtain⟨x,ag,e2⟩:=aee m.aL m.Tables true fy lN hI;obtain⟨y,bI,cz⟩:=aef m.aL m.Tables true fy lN hI fun t ht=>Ty _ (by have:=b.ad t ht;omega);have tr:=afK af;rw[tr]at e2 cz;simp only[cond_true]at e2 cz;simp only[aK,cond_true,ag,bI];obtain⟨-,aT,b3,cZ⟩:=uC tr;refine⟨_,_,rfl,rfl,by rw[cz,e2],?_⟩;have:=Ms b3 true m.Tables.l cZ;rw[e2];omega
end
end Go.Abs.bZ
namespace Go.Abs.bZ
open Go Go.Abs
noncomputable section
theorem jl{a b:aW}(h:a.length+b.length<=1000000):da a b=some (a++b):=by
 unfold da;rw[if_pos (by omega)]
theorem TC{d:Int}(h:-10000000000<=d/\d<=10000000000):(Lib.itoa d).length<=12:=by
 unfold Lib.itoa;split
 ·have:=DD 10 d.natAbs (by simp;omega)
  simp only[dE];omega
 ·have:=DD 10 d.toNat (by simp;omega)
  omega
theorem afL{d:Int}(h:-10000000000<=d/\d<=10000000000):strconv_Itoa d=some (Lib.itoa d):=by
 unfold strconv_Itoa;rw[if_pos (by omega)]
theorem TD{d:Int}(h:0<=d/\d<=10000000000):rZ d=some (Lib.itoa d):=by
 unfold rZ;rw[if_pos (by omega)]
theorem ayd{d:Int}(h:-10000000000<=d/\d<=10000000000):Lo d=some (Lib.itoa d):=by
 unfold Lo;by_cases hd:d<0
 ·rw[decide_eq_true hd]
  simp only[cond_true];rw[gp (by omega) (by omega),TD (by omega)];simp only[aK]
  have e:Lib.itoa d=45::Lib.itoa (0-d):=by
   unfold Lib.itoa;rw[if_pos hd,if_neg (by omega)];congr 2;omega
  have hl:=TC (d:=0-d) (by omega);rw[jl (by simp only[dE,eF];omega),e];rfl
 ·rw[decide_eq_false hd]
  simp only[cond_false,TD (show 0<=d/\d<=10000000000 by omega),aK]
def uU (k:Nat)(f:Int)(s:aW):aW:=if 0<k then(if f<0 then s++[32,45,32]else s++[32,43,32])else if f<0 then s++[45]else s
theorem aye (k:Nat)(f:Int)(s:aW):(uU k f s).length<=s.length+3:=by
 unfold uU;split<;>split<;>simp
theorem afM (k:Nat)(f:Int)(s:aW)(hs:s.length<=100000):
  (bif (decide ((k:Int)>0))&&(decide (f<0))then((da s [32,45,32]).bind fun x=>some x)else(bif (decide ((k:Int)>0))then((da s [32,43,32]).bind fun x=>some x)else(bif (decide (f<0))then((da s [45]).bind fun x=>some x)else some s)))=some (uU k f s):=by
 have al:da s [32,45,32]=some (s++[32,45,32]):=jl (by simp only[dE,eF];omega);have a2:da s [32,43,32]=some (s++[32,43,32]):=jl (by simp only[dE,eF];omega);have a3:da s [45]=some (s++[45]):=jl (by simp only[dE,eF];omega);unfold uU;by_cases h0:0<k
 ·have d0:decide ((k:Int)>0)=true:=by rw[decide_eq_true_eq];omega
  by_cases ae:f<0
  ·rw[d0,decide_eq_true ae,if_pos h0,if_pos ae,al];rfl
  ·rw[d0,decide_eq_false ae,if_pos h0,if_neg ae,a2];rfl
 ·have d0:decide ((k:Int)>0)=false:=by rw[decide_eq_false_iff_not];omega
  by_cases ae:f<0
  ·rw[d0,decide_eq_true ae,if_neg h0,if_pos ae,a3];rfl
  ·rw[d0,decide_eq_false ae,if_neg h0,if_neg ae];rfl
theorem ayf (k:Nat)(f:Int)(s:aW)(hs:s.length<=100000)(ah:k=0->s=[]):
  (bif (decide ((k:Int)>0))&&(decide (f<0))then((da s [32,45,32]).bind fun x=>some x)else(bif (decide ((k:Int)>0))then((da s [32,43,32]).bind fun x=>some x)else(bif (decide (f<0))then some [45]else some s)))=some (uU k f s):=by
 rw[<-afM k f s hs];by_cases h0:0<k
 ·have d0:decide ((k:Int)>0)=true:=by rw[decide_eq_true_eq];omega
  rw[d0];rfl
 ·have e:k=0:=by omega
  rw[ah e];have d0:decide ((k:Int)>0)=false:=by rw[decide_eq_false_iff_not];omega
  rw[d0];have a3:da [] [45]=some [45]:=jl (by decide);simp only[yw,cond_false,a3,aK]
def MT (k:Nat)(f:Int)(c s:aW):aW:=if(if f<0 then 0-f else f)=1 then uU k f s++c else uU k f s++(Lib.itoa (if f<0 then 0-f else f)++[32,42,32])++c
theorem ayg{m:Model}(hb:qk m=true)(af:mT m=true){r:Row}{k:Nat}{t:Term}(ht:r.cd.l[k]? =some t)(ae:-1000000000<=t.dB/\t.dB<=1000000000)(ah:k<1000){s:aW}(hs:s.length<=100000)(h0:k=0->s=[]):
  ∃ar,CN m r (s,(k:Int))=some (.next (ar,((k+1:Nat):Int)))/\CW m r (s,(k:Int))=some (.next (ar,((k+1:Nat):Int)))/\ar.length<=s.length+400:=by
 obtain⟨c,dk,eu,fe⟩:=ax5 hb af t.Cell;have eS:=aye k t.dB s;have hw:aN (0-t.dB)=0-t.dB:=gp (by omega) (by omega);generalize hn:(if t.dB<0 then 0-t.dB else t.dB)=n;have om:0<=n/\n<=1000000000:=by rw[<-hn];split<;>omega
 have ag:max t.dB (0-t.dB)=n:=by rw[<-hn];split<;>omega
 have e2:(bif decide (t.dB<0)then some (0-t.dB)else some t.dB:Option Int)=some n:=by
  rw[<-hn];by_cases q:t.dB<0
  ·rw[decide_eq_true q,if_pos q];rfl
  ·rw[decide_eq_false q,if_neg q];rfl
 have hi:=TC (d:=n) (by omega);have h1:=afM k t.dB s hs;have h2:=ayf k t.dB s hs h0;refine⟨MT k t.dB c s,?_,?_,?_⟩
 ·simp only[CN,eL (ep ht),cond_true,cX,ht,aK,ef (show k<4611686018427387904 by omega),hw,ag]
  rw[h1];unfold MT;rw[hn];by_cases q:n=1
  ·rw[if_pos q,show(n != 1)=false by rw[q];rfl]
   simp only[cond_false,aK,dk];rw[jl (by omega)];rfl
  ·rw[if_neg q,show(n != 1)=true by simpa using q]
   simp only[cond_true,aK,afL (show -10000000000<=n/\n<=10000000000 by omega),dk];rw[jl (a:=Lib.itoa n) (b:=[32,42,32]) (by simp only[dE,eF];omega)];simp only[aK];rw[jl (a:=uU k t.dB s) (by simp only[e1,dE,eF];omega)];simp only[aK];rw[jl (by simp only[e1,dE,eF];omega)];rfl
 ·simp only[CW,eL (ep ht),cond_true,cX,ht,aK,ef (show k<4611686018427387904 by omega),hw]
  rw[h2];simp only[aK];rw[e2];unfold MT;rw[hn];by_cases q:n=1
  ·rw[if_pos q]
   simp only[aK];rw[show(n != 1)=false by rw[q];rfl];simp only[cond_false,aK,eu];rw[jl (by omega)];rfl
  ·rw[if_neg q]
   simp only[aK];rw[show(n != 1)=true by simpa using q];simp only[cond_true,aK,TD (show 0<=n/\n<=10000000000 by omega),eu];rw[jl (a:=uU k t.dB s) (by omega)];simp only[aK];rw[jl (a:=uU k t.dB s++Lib.itoa n) (by simp only[e1,dE,eF];omega)];simp only[aK];rw[jl (by simp only[e1,dE,eF];omega)];simp only[aK,jJ]
 ·unfold MT
  rw[hn];split
  ·simp only[e1];omega
  ·simp only[e1,dE,eF];omega
theorem ayh{m:Model}(hb:qk m=true)(af:mT m=true){r:Row}(hl:r.cd.l.length<=20)(ae:∀t∈r.cd.l,-1000000000<=t.dB/\t.dB<=1000000000):
  ∀(d k:Nat) (s:aW),k+d=r.cd.l.length->s.length<=k*400->(k=0->s=[])->∃z,bO (CN m r) (s,(k:Int))=some z/\bO (CW m r) (s,(k:Int))=some z/\z.length<=8000:=by
 intro d
 induction d with
 |zero=>
  intro k s ah hs h0;have ah:k=r.cd.l.length:=by omega
  subst ah;exact⟨s,by rw[hD];simp only[CN,fj,cond_false],by rw[hD];simp only[CW,fj,cond_false],by omega⟩
 |succ d ih=>
  intro k s ah hs h0;have aH:k<r.cd.l.length:=by omega
  obtain⟨ar,ag,e2,bI⟩:=ayg hb af (jI aH) (ae _ (w9 aH)) (by omega) (s:=s) (by omega) h0;obtain⟨z,nf,z2,z3⟩:=ih (k+1) ar (by omega) (by omega) (fun h=>by omega);exact⟨z,by rw[hD,ag];exact nf,by rw[hD,e2];exact z2,z3⟩
theorem afN{m:Model}(hb:qk m=true)(af:mT m=true){r:Row}(hl:r.cd.l.length<=20)(ae:∀t∈r.cd.l,-1000000000<=t.dB/\t.dB<=1000000000)(dK:-1000000000<=r.gA/\r.gA<=1000000000):
  ∃s,Ga m r=some s/\CX m r=some s/\s.length<=9000:=by
 obtain⟨z,nf,z2,z3⟩:=ayh hb af hl ae r.cd.l.length 0 [] (by omega) (cI _) (fun _=>rfl);have nf:bO (CN m r) ([],0)=some z:=nf;have z2:bO (CW m r) ([],0)=some z:=z2;have hi:=TC (d:=r.gA) (by omega);unfold Ga CX;rw[nf,z2];simp only[aK];generalize bj:(bif (r.cd.len==0)then some [48]else some z:Option aW)=q
 obtain⟨u,rfl,hu⟩:∃u:aW,q=some u/\u.length<=8000:=by
  rw[<-bj];cases r.cd.len==0 with
  |true=>exact⟨_,rfl,by decide⟩
  |false=>exact⟨_,rfl,z3⟩
 simp only[aK];rw[jl (a:=u) (b:=[32,60,61,32]) (by simp only[dE,eF];omega)];simp only[aK,afL (show -10000000000<=r.gA/\r.gA<=10000000000 by omega),ayd (show -10000000000<=r.gA/\r.gA<=10000000000 by omega)];rw[jl (by simp only[e1,dE,eF];omega)];exact⟨_,rfl,rfl,by simp only[e1,dE,eF];omega⟩
theorem afO{s:List Int}{ts:List Table}{k:Nat}{a:Int × Int}{x:Table}{o:Option (Int × Int)}(cg:nZ s ts k a x=.inr o):o=none:=by
 unfold nZ at cg;cases bj:lf s x&&!(l9 ts k x.Name)<;>cases hb:h4 x<;>cases hc:x.cF==a.1<;>cases hd:x.cF==a.2<;>rw[bj]at cg<;>simp only[hb,hc,hd,cond_true,cond_false]at cg<;>first|(cases cg;rfl)|cases cg
theorem afP{s:List Int}{ts:List Table}{k:Nat}{a bl:Int × Int}{t:Table}(h:nZ s ts k a t=.inl bl):lf s t=true/\(h4 t=true->t.cF=a.1/\bl.1=a.1+wid s t.ba.l)/\(h4 t=false->bl.1=a.1):=by
 unfold nZ at h;cases bj:lf s t&&!(l9 ts k t.Name)with
 |false=>rw[bj]at h;cases h
 |true=>
  rw[bj]at h;simp only[ca]at bj;refine⟨bj.1,?_⟩;cases hb:h4 t with
  |true=>
   rw[hb]at h;cases hc:t.cF==a.1 with
   |false=>rw[hc]at h;cases h
   |true=>rw[hc]at h;cases h;exact⟨fun _=>⟨eq_of_beq hc,rfl⟩,fun e=>by cases e⟩
  |false=>
   rw[hb]at h;cases hc:t.cF==a.2 with
   |false=>rw[hc]at h;cases h
   |true=>rw[hc]at h;cases h;exact⟨fun e=>(by cases e),fun _=>rfl⟩
theorem afQ{s:List Int}{ts:List Table}(hs:ka s=true):∀(l:List Table) (k:Nat) (a p:Int × Int),iU (nZ s ts) some k a l=some p->∀u∈l,h4 u=true->a.1<=u.cF
 |[],_,_,_,_,u,hu,_=>by cases hu
 |x::r,k,a,p,h,u,hu,hb=>by
  simp only[iU]at h;cases cg:nZ s ts k a x with
  |inr o=>
   rw[cg]at h;rw[afO cg]at h;cases h
  |inl bl=>
   rw[cg]at h;obtain⟨q1,aT,b3⟩:=afP cg;have hw:=(uB hs (uD q1)).1;rcases dL.1 hu with rfl|hu
   ·have:=(aT hb).1;omega
   ·have:=afQ hs r (k+1) bl p h u hu hb
    cases hx:h4 x with
    |true=>have:=(aT hx).2;omega
    |false=>have:=b3 hx;omega
theorem TE{s:List Int}{ts:List Table}(hs:ka s=true):∀(l:List Table) (k:Nat) (a p:Int × Int),iU (nZ s ts) some k a l=some p->∀(i j:Nat) (t u:Table),i<j->l[i]? =some t->l[j]? =some u->h4 t=true->h4 u=true->t.cF<u.cF
 |[],_,_,_,_,i,j,t,u,_,ht,_,_,_=>by simp at ht
 |x::r,k,a,p,h,i,j,t,u,cW,ht,hu,h1,h2=>by
  simp only[iU]at h;cases cg:nZ s ts k a x with
  |inr o=>
   rw[cg]at h;rw[afO cg]at h;cases h
  |inl bl=>
   rw[cg]at h;obtain⟨q1,aT,b3⟩:=afP cg;have hw:=(uB hs (uD q1)).1;cases j with
   |zero=>omega
   |succ j=>
    rw[Bd]at hu;cases i with
    |zero=>
     rw[n4]at ht;cases ht;have:=afQ hs r (k+1) bl p h u (e0 hu) h2;have:=aT h1;omega
    |succ i=>
     rw[Bd]at ht;exact TE hs r (k+1) bl p h i j t u (by omega) ht hu h1 h2
def n3 (c:Constraint)(t:Table):Bool:=(t.Kind==0)&&((t.cF==c.cF)&&(t.ba.len==2))
theorem ayi{m:Model}(af:mT m=true){c:Constraint}(bx:ti m.aL.l m.Tables.l c=true):
  ∃(i:Nat) (t:Table),m.Tables.l[i]? =some t/\n3 c t=true/\∀(j:Nat) (u:Table),m.Tables.l[j]? =some u->n3 c u=true->j=i:=by
 have tr:=afK af;unfold ti at bx;simp only[ca,sd]at bx;obtain⟨-,-,t,hm,ht⟩:=bx;obtain⟨i,hi⟩:=TM hm
 have gt:n3 c t=true:=by
  unfold x9 at ht;unfold n3;simp only[ca]at ht⊢;refine⟨ht.1,ht.2.2.2.1,?_⟩;have:=eq_of_beq ht.2.1;rw[dy,this];rfl
 have str:∀u,n3 c u=true->h4 u=true/\u.cF=c.cF:=fun u hu=>by
  unfold n3 at hu;simp only[ca]at hu;exact⟨by unfold h4;rw[hu.1];rfl,eq_of_beq hu.2.1⟩
 obtain⟨-,-,hs,-⟩:=uC tr;unfold il at tr;simp only[ca]at tr;have bc:=tr.2.2.2;cases hr:AR m.aL.l m.Tables.l with
 |none=>rw[hr]at bc;cases bc
 |some p=>
  unfold AR at hr;refine⟨i,t,hi,gt,fun j u hj hu=> ?_⟩;obtain⟨s1,f1⟩:=str t gt;obtain⟨s2,f2⟩:=str u hu;rcases Nat.lt_trichotomy i j with q|q|q
  ·have:=TE hs m.Tables.l 0 (0,0) p hr i j t u q hi hj s1 s2;omega
  ·exact q.symm
  ·have:=TE hs m.Tables.l 0 (0,0) p hr j i u t q hj hi s2 s1;omega
theorem ayj{m:Model}{c:Constraint}{x:aW}{i:Nat}{t:Table}(hlen:m.Tables.l.length<=1000)(hx:x.length<=1000)(ht:m.Tables.l[i]? =some t)(bj:n3 c t=true)(hn:t.Name.length<=1000)(ho:∀(j:Nat) (u:Table),m.Tables.l[j]? =some u->n3 c u=true->j=i):
  ∀(d k:Nat),k+d=i->bO (Gb m c x) (k:Int)=some (.ret (x++[97,99,121,99,108,105,99,32]++t.Name)):=by
 have al:da x [97,99,121,99,108,105,99,32]=some (x++[97,99,121,99,108,105,99,32]):=jl (by simp only[dE,eF];omega);have a2:da (x++[97,99,121,99,108,105,99,32]) t.Name=some (x++[97,99,121,99,108,105,99,32]++t.Name):=jl (by simp only[e1,dE,eF];omega);have aH:=ep ht;intro d
 induction d with
 |zero=>
  intro k ah;have ah:k=i:=by omega
  subst ah;rw[hD];simp only[Gb,eL aH,cond_true,cX,ht,aK];rw[show((t.Kind==0)&&((t.cF==c.cF)&&(t.ba.len==2)))=n3 c t from rfl,bj];simp only[cond_true,al,a2,aK]
 |succ d ih=>
  intro k ah;have hk':k<m.Tables.l.length:=by omega
  have hu:=jI hk'
  have ae:n3 c m.Tables.l[k]=false:=by
   cases h:n3 c m.Tables.l[k]with
   |false=>rfl
   |true=>have:=ho k _ hu h;omega
  rw[hD];simp only[Gb,eL hk',cond_true,cX,hu,aK];rw[show((m.Tables.l[k].Kind==0)&&((m.Tables.l[k].cF==c.cF)&&(m.Tables.l[k].ba.len==2)))=n3 c m.Tables.l[k]from rfl,ae];simp only[cond_false];rw[ef (by omega)];exact ih (k+1) (by omega)
theorem ayk{m:Model}{c:Constraint}{i:Nat}{t:Table}(hlen:m.Tables.l.length<=1000)(ht:m.Tables.l[i]? =some t)(bj:n3 c t=true)(ho:∀(j:Nat) (u:Table),m.Tables.l[j]? =some u->n3 c u=true->j=i):
  ∀(d k:Nat) (s:aW),k+d=m.Tables.l.length->bO (CY m c) (s,(k:Int))=some (if k<=i then t.Name else s):=by
 have aH:=ep ht;intro d
 induction d with
 |zero=>
  intro k s ah;have ah:k=m.Tables.l.length:=by omega
  subst ah;rw[hD,if_neg (by omega)];simp only[CY,fj,cond_false]
 |succ d ih=>
  intro k s ah;have hk':k<m.Tables.l.length:=by omega
  have hu:=jI hk';rw[hD];simp only[CY,eL hk',cond_true,cX,hu,aK];rw[show((m.Tables.l[k].Kind==0)&&((m.Tables.l[k].ba.len==2)&&(m.Tables.l[k].cF==c.cF)))=n3 c m.Tables.l[k] by unfold n3;rw[Bool.and_comm (m.Tables.l[k].ba.len==2)]];cases h:n3 c m.Tables.l[k]with
  |true=>
   have e:=ho k _ hu h;subst e;rw[ht]at hu;cases hu;simp only[cond_true];rw[ef (by omega)];have:=ih (k+1) m.Tables.l[k].Name (by omega);rw[if_neg (by omega)]at this;rw[if_pos (aM k)];exact this
  |false=>
   have bu:k≠i:=fun e=>by
    subst e;rw[ht]at hu;cases hu;rw[bj]at h;cases h
   simp only[cond_false];rw[ef (by omega)];have:=ih (k+1) s (by omega)
   rw[show(if k+1<=i then t.Name else s)=(if k<=i then t.Name else s) by
    by_cases g:k<=i
    ·rw[if_pos g,if_pos (by omega)]
    ·rw[if_neg g,if_neg (by omega)]]at this
   exact this
end
end Go.Abs.bZ
namespace Go.Abs.bZ
open Go Go.Abs
noncomputable section
theorem ayl{m:Model}(hb:qk m=true)(af:mT m=true){k:Nat}{c:Constraint}(hc:m.c4.l[k]? =some c):∃f:aW,aP m.dI.l c.j3=some f/\f.length<=40/\
  (((c.Kind==0)=true/\c.Row.cd.l.length<=20/\(∀t∈c.Row.cd.l,-1000000000<=t.dB/\t.dB<=1000000000)/\(-1000000000<=c.Row.gA/\c.Row.gA<=1000000000))\/((c.Kind==0)=false/\ti m.aL.l m.Tables.l c=true)):=by
 have b:=Dy hb;unfold mT at af;simp only[ca]at af;have fa:=af.2.2.2.1;unfold ya at fa;simp only[ca]at fa;have h:=AO.1 fa.2.2 k c hc;unfold uF AU at h;simp only[ca,decide_eq_true_eq]at h;obtain⟨⟨f0,f1⟩,ah,-⟩:=h;rw[dy]at f1;have ae:aP m.dI.l c.j3=some (m.dI.l[c.j3.toNat]'(by omega)):=by rw[uM f0,jI]
 refine⟨_,ae,b.aeW _ (w9 _),?_⟩;cases bj:c.Kind==0 with
 |true=>
  rw[bj]at ah;simp only[cond_true,ca]at ah;have hr:=ah.2.2;unfold qi nr at hr;simp only[ca,decide_eq_true_eq]at hr;refine .inl ⟨rfl,b.S9 c (e0 hc),fun t ht=> ?_,by omega⟩;obtain⟨j,hj⟩:=TM ht;have:=AO.1 hr.1 j t hj;unfold tg nr at this;simp only[ca,decide_eq_true_eq]at this;omega
 |false=>
  rw[bj]at ah;simp only[cond_false,ca]at ah;exact .inr ⟨rfl,ah.2⟩
theorem aym{m:Model}(hb:qk m=true)(af:mT m=true){k:Nat}{c:Constraint}(hc:m.c4.l[k]? =some c):
  ∃s,((KT m c).bind fun nP=>((da [118,105,111,108,97,116,101,115,32] nP).bind fun lB=>some lB))=some s/\
   (bif (c.Kind==0)then((aP m.dI.l c.j3).bind fun lB=>((da [118,105,111,108,97,116,101,115,32] lB).bind fun s4=>((da s4 [58,32]).bind fun F9=>((CX m c.Row).bind fun wz=>((da F9 wz).bind fun oC=>some oC)))))
     else((bO (CY m c) ([],0):Option (aW)).bind fun Q5=>((aP m.dI.l c.j3).bind fun Gm=>((da [118,105,111,108,97,116,101,115,32] Gm).bind fun Q6=>((da Q6 [58,32,97,99,121,99,108,105,99,32]).bind fun pq=>((da pq Q5).bind fun Q7=>some Q7))))))=some s:=by
 have b:=Dy hb;obtain⟨f,f1,f2,ah⟩:=ayl hb af hc;have al:da f [58,32]=some (f++[58,32]):=jl (by simp only[dE,eF];omega);have a2:da [118,105,111,108,97,116,101,115,32] f=some ([118,105,111,108,97,116,101,115,32]++f):=jl (by simp only[dE,eF];omega);unfold KT;rw[f1];simp only[aK,al,a2];rcases ah with⟨bj,h1,h2,av⟩|⟨bj,bx⟩
 ·obtain⟨w,aE,bG,fI⟩:=afN hb af h1 h2 av
  rw[bj];simp only[cond_true,aE,bG,aK];rw[jl (a:=f++[58,32]) (b:=w) (by simp only[e1,dE,eF];omega)];simp only[aK];rw[jl (a:=[118,105,111,108,97,116,101,115,32]++f) (b:=[58,32]) (by simp only[e1,dE,eF];omega)];simp only[aK]
  rw[jl (a:=[118,105,111,108,97,116,101,115,32]) (by simp only[e1,dE,eF];omega),
   jl (a:=[118,105,111,108,97,116,101,115,32]++f++[58,32]) (b:=w) (by simp only[e1,dE,eF];omega)]
  exact⟨_,rfl,by simp only[aK,jJ]⟩
 ·obtain⟨i,t,ht,gt,ho⟩:=ayi af bx
  have hn:=(b.ad t (e0 ht)).1;have atU:=b.tables;have dY:=ayj (m:=m) (c:=c) (x:=f++[58,32]) (by omega) (by simp only[e1,dE,eF];omega) ht gt (by omega) ho i 0 (by omega);have aa:=ayk (m:=m) (c:=c) (by omega) ht gt ho m.Tables.l.length 0 [] (by omega);rw[if_pos (cI _)]at aa;have dY:bO (Gb m c (f++[58,32])) 0=some (.ret (f++[58,32]++[97,99,121,99,108,105,99,32]++t.Name)):=dY;have aa:bO (CY m c) ([],0)=some t.Name:=aa;rw[bj];simp only[cond_false,dY,aa,aK];rw[jl (a:=[118,105,111,108,97,116,101,115,32]++f) (b:=[58,32,97,99,121,99,108,105,99,32]) (by simp only[e1,dE,eF];omega)];simp only[aK]
  rw[jl (a:=[118,105,111,108,97,116,101,115,32]) (by simp only[e1,dE,eF];omega),
   jl (a:=[118,105,111,108,97,116,101,115,32]++f++[58,32,97,99,121,99,108,105,99,32]) (b:=t.Name) (by simp only[e1,dE,eF];omega)]
  refine⟨_,rfl,?_⟩;simp only[aK,jJ,ky,ke]
theorem sub_one{x:ak Row}{i:Nat}{r:Row}(h:x.l[i]? =some r):qS x (i:Int) ((i+1:Nat):Int)=some (.mk [r]):=by
 have aH:=ep h;cases x with
 |nil=>simp[ak.l]at h
 |emp=>simp[ak.l]at h
 |mk l=>
  have aH:i<l.length:=aH;have h:l[i]? =some r:=h;show(if(0:Int)<=(i:Int)/\(i:Int)<=((i+1:Nat):Int)/\((i+1:Nat):Int)<=(l.length:Int)then _ else _)=_;rw[if_pos ⟨by omega,by omega,by omega⟩,Bf,Bf];congr 2;rw[tv,h];simp only[Option.toList_some];rw[H4,MW (by rw[mc];omega),mc,n6 (by omega),Nat.sub_self];rfl
theorem ayn{m:Model}(hb:qk m=true){x:c7}(hx:Bb x=true)(r:rY):∃s,KU m x r=some s/\Lp m x r=some s:=by
 obtain⟨v1,v2⟩:=Tz hb;unfold KU Lp;rw[v1,v2];cases af:mT m with
 |false=>exact⟨_,rfl,rfl⟩
 |true=>
  simp only[aK,cond_true];by_cases h0:r.Index<0
  ·have d1:decide (r.Index<0)=true:=decide_eq_true h0
   have d2:(r.Index==0)=false:=by rw[beq_eq_false_iff_ne];omega
   have d3:decide (r.Index>=0)=false:=decide_eq_false (by omega);rw[d1,d2,d3];simp only[cond_true,Bool.and_false,cond_false,Ie,Ic];cases r.Kind==1<;>exact⟨_,rfl,rfl⟩
  ·obtain⟨i,hi⟩:=DF (show 0<=r.Index by omega)
   have d1:decide (r.Index<0)=false:=decide_eq_false h0;have d3:decide (r.Index>=0)=true:=decide_eq_true (by omega);rw[d1,d3];simp only[cond_false,cond_true,qp];cases pV:(r.Kind==0)&&(r.Index==0)with
   |true=>exact⟨_,rfl,rfl⟩
   |false=>
    simp only[cond_false];cases h9:r.Kind==1 with
    |true=>
     have dN:(r.Kind==2)=false:=by rw[eq_of_beq h9];rfl
     have HR:(r.Kind != 2)=true:=by simp only[bne,dN,mU]
     rw[dN,HR];simp only[cond_true,yw,cond_false,Ie];cases hl:decide (r.Index<x.de.len)with
     |false=>exact⟨_,rfl,rfl⟩
     |true=>
      have aH:i<x.de.l.length:=by
       have:=of_decide_eq_true hl;rw[dy]at this;omega
      have hr:=jI aH;have hm:=w9 aH;obtain⟨TF,ayo⟩:=ayb hx;obtain⟨y,z,ag,e2,bI,cz⟩:=ayc hb;have lR:aN (r.Index+1)=((i+1:Nat):Int):=by rw[hi];exact ef (by have:=TF.h;unfold bg at this;omega)
      simp only[cond_true];rw[lR,hi,sub_one hr,cX,hr];simp only[aK,ag];rw[ax8 _ _ (TF.r _ hm)]
      have fy:TB (c7.mk ak.nil (ak.mk [x.de.l[i]]) ak.nil):=⟨by unfold bg;show 0<_;omega,by unfold bg;show 1<_;omega,fun q bj=>by
       have:q=x.de.l[i]:=DH.1 bj;subst this;exact TF.r _ hm⟩
      rw[ax9 fy e2];have hy:z.len=y.len:=by rw[dy,dy,bI]
      have ayp:MS z.len (c7.mk ak.nil (ak.mk [x.de.l[i]]) ak.nil)=!(x.de.l[i].cd.l.any (ql y.len)):=by
       unfold MS;rw[hy];show(!(([]:List Change).any _)&&!([x.de.l[i]].any _))=_;simp only[List.any_nil,mU,dC,List.any_cons,Ib]
      rw[ayp];simp only[aK];cases ayq:x.de.l[i].cd.l.any (ql y.len)with
      |true=>exact⟨_,rfl,rfl⟩
      |false=>
       simp only[mU,cond_true]
       have afR:uT x.de.l[i]=true:=by
        unfold Bb at hx;simp only[ca]at hx;exact eV.1 hx.2 _ hm
       unfold uT at afR;simp only[mb,uX,decide_eq_false_iff_not]at afR
       obtain⟨w,aE,bG,fI⟩:=afN hb af (ayo _ hm) (fun t ht=>by
        have:=TY.1 ayq t ht;unfold ql at this;simp only[Bool.not_eq_true,uX,decide_eq_false_iff_not]at this;omega) (by omega)
       simp only[aE,bG,aK];rw[jl (by simp only[dE,eF];omega)];exact⟨_,rfl,rfl⟩
    |false=>
     simp only[cond_false,aK];cases tI:r.Kind==2 with
     |false=>
      have HR:(r.Kind != 2)=true:=by simp only[bne,tI,mU]
      rw[HR];exact⟨_,rfl,rfl⟩
     |true=>
      have HR:(r.Kind != 2)=false:=by simp only[bne,tI,fQ]
      rw[HR];simp only[dC,qp];cases hl:decide (r.Index<m.c4.len)with
      |false=>
       have:decide (r.Index>=m.c4.len)=true:=decide_eq_true (by have:=of_decide_eq_false hl;omega);rw[this];exact⟨_,rfl,rfl⟩
      |true=>
       have:decide (r.Index>=m.c4.len)=false:=decide_eq_false (by have:=of_decide_eq_true hl;omega);rw[this]
       have aH:i<m.c4.l.length:=by
        have:=of_decide_eq_true hl;rw[dy]at this;omega
       have hc:=jI aH;obtain⟨s,s1,s2⟩:=aym hb af hc;simp only[cond_true,cond_false];rw[hi,cX,hc];simp only[aK];exact⟨s,s1,s2⟩
theorem ayr (m:Model)(x:c7)(r:rY):Lq m x r=some true:=by
 unfold Lq Qm;simp only[aK,cond_true,auW,aya];cases hb:qk m with
 |false=>rfl
 |true=>
  simp only[cond_true];cases hx:Bb x with
  |false=>rfl
  |true=>
   obtain⟨s,s1,s2⟩:=ayn hb hx r;simp only[cond_true,s1,s2,aK,beq_self_eq_true]
end
end Go.Abs.bZ
namespace Go.Abs.bZ
open Go Go.Abs
theorem ays{n:Int}{r:aW}(h:strconv_Itoa n=some r):Eb [.int .i64 n]=some (.str r):=by
 unfold strconv_Itoa at h;split at h
 ·cases h
  rename_i hn;show(if 0<=n/\n<10 then _ else if -9223372036854775808<=n/\n<=9223372036854775807 then _ else _)=_;by_cases h1:0<=n/\n<10
  ·obtain⟨k,rfl⟩:=DF h1.1
   have ah:k<10:=by omega
   unfold Lib.itoa;rw[if_pos h1,if_neg (by omega),Bf,Lib.decDigits_one ah]
  ·rw[if_neg h1,if_pos hn]
 ·cases h
theorem afS:∀l:List (List UInt8),strs (l.map V.str)=some l
 |[]=>rfl
 |a::l=>by show(strs (l.map V.str)).map (a:: ·)=_;rw[afS l];rfl
theorem ayt{x:ak aW}{sep r:aW}(h:strings_Join x sep=some r):Ea [bU 1 V.str x,.str sep]=some (.str r):=by
 cases x with
 |nil=>cases h;rfl
 |emp=>cases h
 |mk l=>
  unfold strings_Join at h;simp only at h;split at h
  ·cases h
   rename_i hc;show(match strs (l.map V.str)with|some m=>_|none=>_)=_;rw[afS l];exact if_pos ⟨rfl,hc⟩
  ·cases h
theorem ayu (x:ak aW)(sep:aW):cx [bU 1 V.str x,.str sep]=true:=by
 cases x with
 |nil=>rfl
 |emp=>rfl
 |mk l=>rfl
end Go.Abs.bZ
namespace Go.Abs.bZ
open Go Go.Abs Go.Abs.S
def HS:hh:=⟨18,q (R [o 2 (m (cs []))]) (q (R [r 4 (m v0),r 5 (.bin .rem t4 (c 10)),r 6 (dh (c 48) t5),r 7 (.conv .u8 t6),r 8 (.lit 1 [.int .u8 0] 1 [(0,t7)] true),r 9 (.qu t8),o 3 (m t9)]) (q (q (R [r 10 (m v0),o 11 (ge t10 (c 10))]) (iL v11 (R [r 12 (m v0),r 13 (.bin .quo t12 (c 10)),r 14 (gX (fn 63) [t13]),r 15 (m v3),r 16 (dh t14 t15),o 3 (m t16)]) k)) (q (R [r 17 (m v3),o 2 (m t17)]) rt))),[.tmp 2],false⟩
end Go.Abs.bZ
namespace Go.Abs.bZ
open Go Go.Abs Go.Abs.Lex
variable{ad:Nat->Option cb}
attribute [local simp] gu gF hR kW mi nw nx qy mY c5 gE qN o8 nj p5 p6 qP rV qO nJ rU vT aj.ai bR fN au.put et pF pE e4 fR ei bQ cx hK kC finish old olds flat lx sg jN iq aF S.R S.q S.k S.rt S.iL S.cy S.e S.r S.o S.n S.rg S.m S.ck S.ls S.dA S.eq S.ne S.lt S.gt S.ge S.dh S.no S.j1 S.st S.gX S.iK S.k7 S.ex S.c S.cs S.km S.k6 S.z S.fn S.jr
section
variable{call:c1}{ai:aj->V}{H:Heap}{low:Nat}
theorem ayv (x:aj):cf call ai H low (.conv .u8 x)=match ai x with
  | .int _ n=>some (.int .u8 (IntKind.u8.wrap n),H,low)
  | _=>none:=by
 show step ai H low (.conv .u8 x)=_;cases hx:ai x<;>simp[step,hx]
def ayw (call:c1)(ai:aj->V)(H:Heap)(low:Nat)(x:aj):=cf call ai H low (.lit 1 [.int .u8 0] 1 [(0,x)] true)
def ayx (call:c1)(ai:aj->V)(H:Heap)(low:Nat)(x:aj):=cf call ai H low (.qu x)
theorem ayy (x:aj):cf call ai H low (.lit 1 [.int .u8 0] 1 [(0,x)] true)=match ai x with
  | .int .u8 n=>some (.list 1 [.int .u8 n],H,low)
  |v=>ayw call ai H low x:=by
 split
 ·next n hx=>rw[JP];simp[step,hx,lJ,qw,bX,setCells]
 ·rfl
theorem ayz (x:aj):cf call ai H low (.qu x)=match ai x with
  | .list 1 [.int .u8 n]=>some (.str [UInt8.ofNat n.toNat],H,low)
  |v=>ayx call ai H low x:=by
 split
 ·next n hx=>show step ai H low (.qu x)=_;simp[step,hx,elems,bytesOf]
 ·rfl
end
theorem afT (k:Nat):UInt8.ofNat (IntKind.u8.wrap (IntKind.i64.wrap (48+(k:Int).tmod 10))).toNat=UInt8.ofNat (48+k%10):=by
 have h1:(k:Int).tmod 10=((k%10:Nat):Int):=by rw[af8 (by omega)];omega
 have h2:k%10<10:=Nat.mod_lt _ (by decide);rw[h1];generalize k%10=d at h2;have:d=0\/d=1\/d=2\/d=3\/d=4\/d=5\/d=6\/d=7\/d=8\/d=9:=by omega
 rcases this with rfl|rfl|rfl|rfl|rfl|rfl|rfl|rfl|rfl|rfl<;>rfl
attribute [local simp] ayv ayy ayz
theorem ayA (HT:ad 63=some (.code HS))(k:Nat)(ah:k<9223372036854775808)(H:Heap)(y1:10<=k->cl ad (.fn 63 [] []) [.int .i64 (k/10:Nat)] H=some (.str (Lib.decDigits (k/10)),H,H.length)):
  cl ad (.fn 63 [] []) [.int .i64 k] H=some (.str (Lib.decDigits k),H,H.length):=by
 rw[ny,HT];by_cases afU:10<=k
 ·have hr:=y1 afU
  have hw:IntKind.i64.wrap ((k:Int)/10)=((k/10:Nat):Int):=by rw[wrap_small (by omega) (by omega)];omega
  rw[<-hw]at hr;have hl:=DD 18 (k/10) (by simp;omega);have nb:(Lib.decDigits (k/10)).length+1<=1099511627776:=by omega
  have e:Lib.decDigits k=Lib.decDigits (k/10)++[UInt8.ofNat (48+k%10)]:=by
   rw[Lib.decDigits];rw[dif_neg (by omega)]
  have TG:(10:Int)<=k:=by omega
  simp[HS,hr,e,afT,TG,nb]
 ·have e:Lib.decDigits k=[UInt8.ofNat (48+k%10)]:=by
   rw[Lib.decDigits_one (by omega),Nat.mod_eq_of_lt (by omega)]
  have TG:¬(10:Int)<=k:=by omega
  simp[HS,e,afT,TG]
theorem ayB (HT:ad 63=some (.code HS)):∀k:Nat,k<9223372036854775808->∀H:Heap,cl ad (.fn 63 [] []) [.int .i64 k] H=some (.str (Lib.decDigits k),H,H.length):=by
 intro k
 induction k using Nat.strongRecOn with
 |ind k ih=>exact fun ah H=>ayA HT k ah H fun afU=>ih (k/10) (by omega) (by omega) H
theorem ayC (HT:ad 63=some (.code HS))(H:Heap)(n:Int)(r:aW)(h:rZ n=some r):cl ad (.fn 63 [] []) [.int .i64 n] H=some (.str r,H,H.length):=by
 unfold rZ at h;split at h
 ·next hn=>
  cases h;obtain⟨k,rfl⟩:=DF hn.1;have:Lib.itoa (k:Int)=Lib.decDigits k:=by unfold Lib.itoa;rw[if_neg (by omega)];simp
  rw[this];exact ayB HT k (by omega) H
 ·cases h
end Go.Abs.bZ
