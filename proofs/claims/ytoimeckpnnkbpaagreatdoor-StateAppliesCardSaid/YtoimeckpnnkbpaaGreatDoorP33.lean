/- Texts of this claim, joined and written short by a program. -/
import Derived.Test.YtoimeckpnnkbpaaGreatDoorP32
import Derived.Test.YtoimeckpnnkbpaaGreatDoorP28
import Derived.Test.YtoimeckpnnkbpaaGreatDoorP29
import Derived.Test.YtoimeckpnnkbpaaGreatDoorP10
import Derived.Test.YtoimeckpnnkbpaaGreatDoorP08
import Derived.Test.YtoimeckpnnkbpaaGreatDoorP19
import Derived.Test.YtoimeckpnnkbpaaGreatDoorP20
import Derived.Test.YtoimeckpnnkbpaaGreatDoorP00
set_option linter.unusedVariables false
set_option linter.unusedSimpArgs false
set_option linter.unusedSectionVars false
namespace Go.Abs.hk
open Go Go.Abs Go.Abs.Lex
noncomputable section
theorem ay9 (c:UInt8):avR (c.toNat:Int)=some (ml c):=by
 unfold avR ml;rw[show decide ((c.toNat:Int)>=97)=decide (97<=c.toNat)from decide_eq_decide.2 (by omega),show decide ((c.toNat:Int)<=122)=decide (c.toNat<=122)from decide_eq_decide.2 (by omega)]
theorem ayl (c:UInt8):avv (c.toNat:Int)=some (iY c):=by
 unfold avv iY;rw[show decide ((c.toNat:Int)>=48)=decide (48<=c.toNat)from decide_eq_decide.2 (by omega),show decide ((c.toNat:Int)<=57)=decide (c.toNat<=57)from decide_eq_decide.2 (by omega)]
theorem xt (c:UInt8)(n:Nat):((c.toNat:Int)==(n:Int))=(c.toNat==n):=by
 rw[zU];simp;omega
theorem aD9 (c:UInt8):awv (c.toNat:Int)=some (kd c):=by
 unfold awv kd;rw[show((c.toNat:Int)==9)=(c.toNat==9)from xt c 9,show((c.toNat:Int)==10)=(c.toNat==10)from xt c 10,show((c.toNat:Int)==13)=(c.toNat==13)from xt c 13,show((c.toNat:Int)==32)=(c.toNat==32)from xt c 32];cases c.toNat==9<;>cases c.toNat==10<;>cases c.toNat==13<;>cases c.toNat==32<;>rfl
theorem Zn{s:bH}{k:Nat}(h:k<s.length):decide ((k:Int)<(s.length:Int))=true:=by simp;exact h
theorem Zo{s:bH}{k:Nat}(h:s.length<=k):decide ((k:Int)<(s.length:Int))=false:=by simp;exact h
theorem anu{s:bH}(hl:s.length<4611686018427387904)(p:UInt8->Bool){f:Int->Option (dM Int Int)}(ab:∀(k:Nat) c,s[k]? =some c->f k=some (bif p c then .next (bJ (k+1))else .out k))(he:∀k:Nat,s.length<=k->f k=some (.out k)):
  ∀(n k:Nat),k+n=s.length->c0 f (k:Int)=some (((k+ke p (s.drop k):Nat)):Int):=by
 intro n
 induction n with
 |zero=>
  intro k cW;rw[k4,he k (by omega),B6 (by omega)];rfl
 |succ n ih=>
  intro k cW;have aX:k<s.length:=by omega
  have hx:s[k]? =some s[k]:=by simp[aX]
  rw[k4,ab k _ hx,wc aX,yS];cases hp:p s[k]with
  |true=>
   simp only[cond_true,if_true];rw[fN (by omega),ih (k+1) (by omega)];congr 2;omega
  |false=>rfl
theorem aJY{s:bH}(hl:s.length<4611686018427387904){k:Nat}(cW:k<=s.length):c0 (aww s) (k:Int)=some (((k+ke (fun c=>c.toNat != 10) (s.drop k):Nat)):Int):=
 anu hl (fun c=>c.toNat != 10) (fun k c hx=>by
  have aX:=kl hx;simp only[aww,Zn aX,cond_true,fP,hx,cg,bne];rw[show((c.toNat:Int)==10)=(c.toNat==10)from xt c 10];cases c.toNat==10<;>rfl) (fun k cW=>by simp only[aww,Zo cW,cond_false,cg]) (s.length-k) k (by omega)
theorem aJZ{s:bH}(hl:s.length<4611686018427387904):∀(n k:Nat),k+n=s.length->c0 (avQ s) (k:Int)=some (((k+eU false (s.drop k):Nat)):Int):=by
 intro n
 induction n using Nat.strongRecOn with
 |ind n ih=>
  intro k cW;rw[k4];rcases fX k s.length with aX|hge
  ·have hx:s[k]? =some s[k]:=by simp[aX]
   have JR:s.drop k=s[k]::s.drop (k+1):=wc aX
   have ab:avQ s (k:Int)=bif kd s[k]||(s[k].toNat==35)then(bif s[k].toNat==35 then((c0 (aww s) (k:Int):Option Int).bind fun ajm=>some (.next ajm))else some (.next (bJ ((k:Int)+1))))else some (.out (k:Int)):=by
    simp only[avQ,Zn aX,cond_true,fP,hx,cg,aD9];rw[show((s[k].toNat:Int)==35)=(s[k].toNat==35)from xt s[k] 35];cases kd s[k]<;>cases s[k].toNat==35<;>rfl
   rw[ab,JR];cases rj:s[k].toNat==35 with
   |true=>
    have BV:s[k].toNat=35:=by simpa using rj
    have hw:kd s[k]=false:=by simp[kd,BV]
    rw[hw];simp only[Bool.or_true,cond_true];rw[aJY hl (by omega),JR];simp only[cg];have bf:(fun c:UInt8=>c.toNat != 10) s[k]=true:=by simp[BV]
    have hr:=Wm (s[k]::s.drop (k+1))
    have h0:eU false (s[k]::s.drop (k+1))=eU true (s[k]::s.drop (k+1)):=by
     simp only[eU,hw,hY,if_false,BV,if_true];rfl
    rw[h0,hr];have lV:1<=ke (fun c=>c.toNat != 10) (s[k]::s.drop (k+1)):=by rw[yS,if_pos bf];omega
    have hle:ke (fun c=>c.toNat != 10) (s[k]::s.drop (k+1))<=s.length-k:=by
     have:=DH (fun c=>c.toNat != 10) (s[k]::s.drop (k+1));rw[<-JR,sN]at this;rw[JR]at this;exact this
    generalize U:ke (fun c=>c.toNat != 10) (s[k]::s.drop (k+1))=R at lV hle⊢;have PT:(s[k]::s.drop (k+1)).drop R=s.drop (k+R):=by rw[<-JR,sR]
    rw[PT,ih (s.length-(k+R)) (by omega) (k+R) (by omega)];congr 2;omega
   |false=>
    have anz:¬s[k].toNat=35:=by simpa using rj
    cases hw:kd s[k]with
    |true=>
     simp only[ayw,cond_true,cond_false];rw[fN (by omega),ih (s.length-(k+1)) (by omega) (k+1) (by omega)];simp only[eU,hw,if_true];congr 2;omega
    |false=>
     simp only[ayw,cond_false,eU,hw,hY,if_false,anz];rfl
  ·have e:avQ s (k:Int)=some (.out (k:Int)):=by simp only[avQ,Zo hge,cond_false,cg]
   rw[e,B6 hge];rfl
theorem aJ0{s:bH}(hl:s.length<4611686018427387904){k:Nat}(cW:k<=s.length):awx s (k:Int)=some ((eW s k:Nat):Int):=by
 unfold awx;rw[aJZ hl (s.length-k) k (by omega)];rfl
theorem aJ1:∀w∈syms,1<=w.length/\w.length<=2:=by decide
theorem aJ2:axB=some (ak.mk syms):=by unfold axB;rfl
theorem Zp{s:bH}{a c:Nat}(h1:a<=c)(h2:c<=s.length):q0 s (a:Int) (c:Int)=some ((s.take c).drop a):=by
 unfold q0;rw[if_pos (by omega)];simp
theorem aEa{s:bH}(hl:s.length<4611686018427387904){k:Nat}(cW:k<=s.length):awA s (k:Int)=some ((sym (s.drop k):Nat):Int):=by
 unfold awA;rw[aJ2];simp only[cg];have gY:(ak.mk syms).l=syms:=rfl
 rw[YH (f:=awz s (k:Int) (ak.mk syms)) (fun j (_:Unit) st=>st=(j:Int)/\j<=18) (fun _ _ w=>bif pre (s.drop k) w then(.inr (.ret (w.length:Int)):Sum Unit (cP Unit Int))else .inl ()) (fun _=>.go ()) syms (fun j _ w st hx U=>by
  obtain⟨rfl,hj⟩:=U;have aX:=kl hx;have hw:=aJ1 w (hz hx);have aNg:syms.length=18:=rfl;have hd:decide ((j:Int)<(ak.mk syms).len)=true:=k8 aX;have aJ3:bJ ((k:Int)+(w.length:Int))=((k+w.length:Nat):Int):=by rw[iN (by omega) (by omega)];omega
  have ab:awz s (k:Int) (ak.mk syms) (j:Int)=bif pre (s.drop k) w then some (.out (.ret (w.length:Int)))else some (.next (bJ ((j:Int)+1))):=by
   simp only[awz,hd,cond_true,fP,gY,hx,cg,aJ3];rw[<-aHW cW];by_cases hle:k+w.length<=s.length
   ·have d1:decide (((k+w.length:Nat):Int)<=(s.length:Int))=true:=by simp;omega
    have d2:decide (k+w.length<=s.length)=true:=by simpa using hle
    rw[d1,d2];simp only[cond_true,Zp (show k<=k+w.length by omega) hle,cg,fI]
   ·have d1:decide (((k+w.length:Nat):Int)<=(s.length:Int))=false:=by simp;omega
    have d2:decide (k+w.length<=s.length)=false:=by simpa using hle
    rw[d1,d2];rfl
  rw[ab];cases pre (s.drop k) w with
  |true=>rfl
  |false=>exact⟨_,rfl,fN (by omega),by omega⟩) (fun _ st U=>by
  obtain⟨rfl,-⟩:=U;have hd:decide ((syms.length:Int)<(ak.mk syms).len)=false:=mw;simp only[awz,hd,cond_false]) (a:=()) (s:=0) ⟨rfl,by omega⟩]
 have cr:∀(l:List (List UInt8)) (j:Nat),(match kO (fun _ (_:Unit) w=>bif pre (s.drop k) w then(.inr (.ret ((w.length:Nat):Int)):Sum Unit (cP Unit Int))else .inl ()) (fun _=>.go ()) j () l with| .go _=>(0:Int)| .ret p=>p)=((au7 (s.drop k) l:Nat):Int):=by
  intro l
  induction l with
  |nil=>intro j;rfl
  |cons w ws ih=>
   intro j;simp only[kO,au7];cases pre (s.drop k) w with
   |true=>rfl
   |false=>exact ih (j+1)
 have:=cr syms 0;rw[aHV]at this;rw[<-this];simp only[cg];cases kO (fun _ (_:Unit) w=>bif pre (s.drop k) w then(.inr (.ret ((w.length:Nat):Int)):Sum Unit (cP Unit Int))else .inl ()) (fun _=>.go ()) 0 () syms<;>rfl
theorem aJ4:axA=some (ak.mk kw):=by
 unfold axA;exact congrArg (fun l=>some (ak.mk l)) (show _=kw by kernel_rfl)
theorem aza:∀(b:Bool) (s:List UInt8) (c:UInt8) (r:List UInt8),s.drop (eU b s)=c::r->b=false->kd c=false/\c.toNat≠35
 | _,[],c,r,h,_=>by simp at h
 |true,_,_,_,_,h=>by cases h
 |false,x::s,c,r,h,_=>by
  simp only[eU]at h;split at h
  ·rw[QI]at h
   exact aza false s c r h rfl
  ·rename_i hw
   split at h
   ·rename_i rj
    rw[Wm,QI,<-sR]at h;have:=aza false (s.drop (ke (fun c=>c.toNat != 10) s)) c r h rfl;exact this
   ·rename_i rj
    simp only[List.drop_zero,Ce]at h;obtain⟨rfl,-⟩:=h;exact⟨by simpa using hw,rj⟩
 termination_by _ s=>s.length
 decreasing_by all_goals simp_wf<;>first|omega|(have:=DH (fun c=>c.toNat != 10) s;omega)
end
end Go.Abs.hk
namespace Go.Abs.hk
open Go Go.Abs Go.Abs.Lex
noncomputable section
theorem PR (c:UInt8):yT (c.toNat:Int)=some (ml c):=by
 unfold yT ml;rw[show decide ((c.toNat:Int)>=97)=decide (97<=c.toNat)from decide_eq_decide.2 (by omega),show decide ((c.toNat:Int)<=122)=decide (c.toNat<=122)from decide_eq_decide.2 (by omega)]
theorem PS (c:UInt8):yU (c.toNat:Int)=some (iY c):=by
 unfold yU iY;rw[show decide ((c.toNat:Int)>=48)=decide (48<=c.toNat)from decide_eq_decide.2 (by omega),show decide ((c.toNat:Int)<=57)=decide (c.toNat<=57)from decide_eq_decide.2 (by omega)]
theorem anv (c:UInt8):DT (c.toNat:Int)=some (om c):=by
 unfold DT om;rw[PR,PS,show((c.toNat:Int)==95)=(c.toNat==95)from xt c 95];cases ml c<;>cases iY c<;>rfl
theorem Zq (c:UInt8):A9 (c.toNat:Int)=some (kd c):=by
 unfold A9 kd;rw[show((c.toNat:Int)==9)=(c.toNat==9)from xt c 9,show((c.toNat:Int)==10)=(c.toNat==10)from xt c 10,show((c.toNat:Int)==13)=(c.toNat==13)from xt c 13,show((c.toNat:Int)==32)=(c.toNat==32)from xt c 32];cases c.toNat==9<;>cases c.toNat==10<;>cases c.toNat==13<;>cases c.toNat==32<;>rfl
theorem anw (c:UInt8):Ba (c.toNat:Int)=some (c.toNat != 10):=by
 unfold Ba bne;rw[show((c.toNat:Int)==10)=(c.toNat==10)from xt c 10]
theorem Zr (s:bH)(hl:s.length<4611686018427387904){f:Int->Option Bool}{p:UInt8->Bool}(ab:∀c:UInt8,f (c.toNat:Int)=some (p c)):A8 s f=some ((ke p s:Nat):Int):=by
 unfold A8
 have h:=anu (s:=s) hl p (f:=DQ s f) (fun k c hx=>by
  have aX:=kl hx;simp only[DQ,Zn aX,cond_true,fP,hx,cg,ab];cases p c<;>rfl) (fun k cW=>by simp only[DQ,Zo cW,cond_false,cg]) s.length 0 (by omega)
 rw[show c0 (DQ s f) 0=_ from h];simp
theorem anx (s:bH)(hl:s.length<4611686018427387904):DS s=some ((eU false s:Nat):Int):=by
 have key:∀(n k:Nat),k+n=s.length->∃o:cP Int Int,c0 (Bb s) (k:Int)=some o/\(match o with| .go p=>p| .ret p=>p)=((k+eU false (s.drop k):Nat):Int):=by
  intro n
  induction n using Nat.strongRecOn with
  |ind n ih=>
   intro k cW;rw[k4];rcases fX k s.length with aX|hge
   ·have hx:s[k]? =some s[k]:=by simp[aX]
    have JR:s.drop k=s[k]::s.drop (k+1):=wc aX;have uY:q0 s (k:Int) (s.length:Int)=some (s.drop k):=by rw[Zp (by omega) (aK _),Kq]
    have ab:Bb s (k:Int)=bif kd s[k]then some (.next (bJ ((k:Int)+1)))else(bif s[k].toNat==35 then some (.next (bJ ((k:Int)+(ke (fun c=>c.toNat != 10) (s.drop k):Nat))))else some (.out (.ret (k:Int)))):=by
     simp only[Bb,Zn aX,cond_true,fP,hx,cg,Zq,uY,Zr (s.drop k) (by rw[sN];omega) anw];rw[show((s[k].toNat:Int)==35)=(s[k].toNat==35)from xt s[k] 35]
    rw[ab,JR];cases hw:kd s[k]with
    |true=>
     simp only[cond_true];rw[fN (by omega)];obtain⟨o,h1,h2⟩:=ih (s.length-(k+1)) (by omega) (k+1) (by omega);refine⟨o,h1,?_⟩;rw[h2];simp only[eU,hw,if_true];congr 1;omega
    |false=>
     cases rj:s[k].toNat==35 with
     |true=>
      have BV:s[k].toNat=35:=by simpa using rj
      have bf:(fun c:UInt8=>c.toNat != 10) s[k]=true:=by simp[BV]
      have hr:=Wm (s[k]::s.drop (k+1))
      have h0:eU false (s[k]::s.drop (k+1))=eU true (s[k]::s.drop (k+1)):=by
       simp only[eU,hw,hY,if_false,BV,if_true];rfl
      have lV:1<=ke (fun c=>c.toNat != 10) (s[k]::s.drop (k+1)):=by rw[yS,if_pos bf];omega
      have hle:ke (fun c=>c.toNat != 10) (s[k]::s.drop (k+1))<=s.length-k:=by
       have:=DH (fun c=>c.toNat != 10) (s[k]::s.drop (k+1));rw[<-JR,sN]at this;rw[JR]at this;exact this
      rw[h0,hr];generalize U:ke (fun c=>c.toNat != 10) (s[k]::s.drop (k+1))=R at lV hle⊢;have PT:(s[k]::s.drop (k+1)).drop R=s.drop (k+R):=by rw[<-JR,sR]
      simp only[cond_true,cond_false];rw[PT,iN (by omega) (by omega)];obtain⟨o,h1,h2⟩:=ih (s.length-(k+R)) (by omega) (k+R) (by omega);refine⟨o,by rw[show(k:Int)+(R:Int)=((k+R:Nat):Int) by omega];exact h1,?_⟩;rw[h2];congr 1;omega
     |false=>
      have anz:¬s[k].toNat=35:=by simpa using rj
      refine⟨.ret (k:Int),rfl,?_⟩;simp only[eU,hw,hY,if_false,anz];simp
   ·refine⟨.go (k:Int),by simp only[Bb,Zo hge,cond_false],?_⟩
    rw[B6 hge];simp[eU]
 obtain⟨o,h1,h2⟩:=key s.length 0 (by omega);unfold DS;rw[show c0 (Bb s) 0=_ from h1];simp only[eO,List.drop_zero]at h2;cases o<;>simp_all
theorem anA (s w:bH):HL s w=some (pre s w):=by
 unfold HL Ni pre;by_cases h:w.length<=s.length
 ·have d:decide ((s.length:Int)>=(w.length:Int))=true:=by simp;exact h
  have hs:q0 s 0 (w.length:Int)=some (s.take w.length):=by
   have:=Zp (s:=s) (a:=0) (c:=w.length) (cx _) h;simpa using this
  rw[d,hs];rfl
 ·have d:decide ((s.length:Int)>=(w.length:Int))=false:=by simp;omega
  have e:(s.take w.length==w)=false:=by
   rw[B5 (by omega),Bool.eq_false_iff];intro fj;have:=congrArg List.length (eq_of_beq fj);omega
  rw[d,e];rfl
theorem Zs (s:bH):A7 s=some ((sym s:Nat):Int):=by
 unfold A7;have hl:(ak.mk two).l=two:=rfl
 rw[show c0 (DN s) 0=some (bif two.any (pre s)then .ret ()else .go ())from xn (f:=DN s) two (by decide) (pre s) (fun k x hx=>by
  have hd:decide ((k:Int)<(ak.mk [[61,61],[33,61],[60,61],[62,61],[46,46]]).len)=true:=k8 (show k<two.length from kl hx);have bj:([[61,61],[33,61],[60,61],[62,61],[46,46]]:List bH)[k]? =some x:=hx;simp only[DN,hd,cond_true,ak.l,fP,bj,cg,anA];cases pre s x<;>rfl) (by
  have hd:decide ((two.length:Int)<(ak.mk [[61,61],[33,61],[60,61],[62,61],[46,46]]).len)=false:=by decide
  simp only[DN,hd,cond_false])]
 unfold sym;cases h:two.any (pre s)with
 |true=>rfl
 |false=>
  simp only[cond_false,cg,hY,if_false];cases s with
  |nil=>rfl
  |cons c r=>
   have bf:((c::r) != ([]:bH))=true:=rfl;have hi:bQ (c::r) 0=some c:=rfl;have hu:UInt8.ofNat ((c.toNat:Int)).toNat=c:=by simp
   rw[bf,hi];simp only[cond_true,cg,strings_IndexByte,hu];rw[show decide (Lib.indexByte [60,62,61,43,45,42,40,41,123,125,44,58,59] c>=0)=Lex.one.contains c from aim Lex.one c];cases Lex.one.contains c<;>rfl
theorem anB (c:UInt8)(r:bH):DP (c::r)=some (vo (c::r)):=by
 unfold DP vo;have hi:bQ (c::r) 0=some c:=rfl;rw[hi];simp only[cg,PR,PS,Zs];have hd:decide (((sym (c::r):Nat):Int)>0)=decide (0<sym (c::r)):=decide_eq_decide.2 (by omega);rw[hd];cases ml c<;>cases iY c<;>rfl
end
end Go.Abs.hk
namespace Go.Abs.hk
open Go Go.Abs Go.Abs.Lex
noncomputable section
variable{aa:Nat->Option bY}
section
variable{call:cU}{ae:ag->V}{H:Heap}{low:Nat}
theorem qm (x:ag):b2 call ae H low (.len 0 x)=match ae x with
  | .str s=>some (.int .i64 s.length,H,low)
  | _=>none:=by
 show step ae H low (.len 0 x)=_;cases hx:ae x<;>simp[step,hx]
theorem vU (x i:ag):b2 call ae H low (.qw x i)=match ae x,kr (ae i)with
 | .str s,some i=>(s[i]?).map fun c=>(.int .u8 c.toNat,H,low)
 | _,_=>none:=rfl
theorem xu (x:ag)(lo hi:Option ag):b2 call ae H low (.oI x lo hi)=match ae x with
 | .str s=>match eF ae 0 lo,eF ae s.length hi with
   |some a,some b=>if a<=b/\b<=s.length then some (.str ((s.take b).drop a),H,low)else none
   | _,_=>none
 | _=>none:=rfl
end
structure lN (aa:Nat->Option bY):Prop where
 letter:XW aa
 digit:XX aa
 part:XY aa
 anC:XZ aa
 BI:X0 aa
 symbol:X1 aa
 run:X2 aa
 skip:X3 aa
 nl:X4 aa
 aGg:aa 227=some (.code aCj)
 aGh:aa 228=some (.code aCk)
 aGi:aa 119=some (.code aCh)
 aGj:aa 117=some (.code avs)
 aGk:∃sp,aa 357=some (.ext sp)/\sp [.str HI]=some (.list 1 (kw.map .str))
def aM (aa:Nat->Option bY)(f:V)(args:List V)(H:Heap)(v:V):Prop:=bZ aa f args H=some (v,H,H.length)
def bv (c:UInt8):V:=.int .u8 c.toNat
theorem anH (T:lN aa)(c:UInt8)(H:Heap):aM aa (.fn 230 [] []) [bv c] H (.bool (ml c)):=T.letter H _ _ (PR c)
theorem Zu (T:lN aa)(c:UInt8)(H:Heap):aM aa (.fn 233 [] []) [bv c] H (.bool (iY c)):=T.digit H _ _ (PS c)
theorem anI (T:lN aa)(c:UInt8)(H:Heap):aM aa (.fn 232 [] []) [bv c] H (.bool (om c)):=T.part H _ _ (anv c)
theorem anJ (T:lN aa)(c:UInt8)(H:Heap):aM aa (.fn 235 [] []) [bv c] H (.bool (kd c)):=T.anC H _ _ (Zq c)
theorem anK (T:lN aa)(c:UInt8)(r:List UInt8)(H:Heap):aM aa (.fn 236 [] []) [.str (c::r)] H (.bool (vo (c::r))):=T.BI H _ _ (anB c r)
theorem anL (T:lN aa)(s:List UInt8)(H:Heap):aM aa (.fn 234 [] []) [.str s] H (.int .i64 (sym s)):=T.symbol H _ _ (Zs s)
theorem anM (T:lN aa){s:List UInt8}{H:Heap}(hl:s.length<4611686018427387904):aM aa (.fn 229 [] []) [.str s] H (.int .i64 (eU false s)):=T.skip H _ _ (anx s hl)
theorem Zv (T:lN aa){s:List UInt8}{p:UInt8->Bool}{i:Nat}{H:Heap}(hl:s.length<4611686018427387904)(ab:∀(c:UInt8) H,aM aa (.fn i [] []) [bv c] H (.bool (p c))):
  aM aa (.fn 231 [] []) [.str s,.fn i [] []] H (.int .i64 (ke p s)):=
 T.run H [] (Own.nil H) s (fun n=>if 0<=n/\n<256 then some (p (UInt8.ofNat n.toNat))else none) (.fn i [] []) (fun H low=>by simp[eP,dF,bs,bW]) (fun H' z q _ aT=>by
   split at aT
   ·rename_i h
    cases aT;have:=ab (UInt8.ofNat z.toNat) H';unfold aM bv at this
    have e:((UInt8.ofNat z.toNat).toNat:Int)=z:=by
     rw[UInt8.toNat_ofNat'];omega
    rw[e]at this;exact this
   ·cases aT) _ (Zr s hl fun c=>by
   have h1:c.toNat<256:=c.toNat_lt;rw[if_pos ⟨by omega,by omega⟩];simp)
def zE (l:List (List UInt8))(k:Nat):List (V × V):=(l.take k).foldl (fun e s=>ld 1 (.str s) (.bool true) e) []
def sC:List (V × V):=kw.map fun s=>(V.str s,V.bool true)
theorem anN:zE kw 35=sC:=by kernel_rfl
theorem anO (T:lN aa)(H:Heap):bZ aa (.fn 357 [] []) [.str HI] H=some (.list 1 (kw.map .str),H,H.length):=by
 obtain⟨sp,h1,h2⟩:=T.aGk;rw[mE,h1];simp[h2,bW,bs]
def strKeys (es:List (V × V)):Prop:=∀p∈es,∃t,p.1=V.str t
theorem anP{es:List (V × V)}(h:strKeys es)(s:List UInt8)(v:V):strKeys (ld 1 (.str s) v es):=by
 induction es with
 |nil=>intro p hp;simp[ld]at hp;exact⟨s,by rw[hp]⟩
 |cons q es ih=>
  obtain⟨t,ht⟩:=h q (by simp);obtain⟨a,b⟩:=q;simp only at ht;subst ht;simp only[ld,ix];split
  ·intro p hp
   rcases dA.1 hp with rfl|hp
   ·exact⟨s,rfl⟩
   ·exact h p (by simp[hp])
  ·intro p hp
   rcases dA.1 hp with rfl|hp
   ·exact⟨t,rfl⟩
   ·exact ih (fun p hp=>h p (by simp[hp])) p hp
theorem anQ{es:List (V × V)}(h:strKeys es)(s:List UInt8):∃o,h4 1 (.str s) es=some o:=by
 induction es with
 |nil=>exact⟨none,rfl⟩
 |cons q es ih=>
  obtain⟨t,ht⟩:=h q (by simp);obtain⟨a,b⟩:=q;simp only at ht;subst ht;obtain⟨o,ho⟩:=ih (fun p hp=>h p (by simp[hp]));simp only[h4,ix];cases(s==t)with
  |true=>exact⟨some b,rfl⟩
  |false=>exact⟨o,ho⟩
theorem anR (l:List (List UInt8))(k:Nat):strKeys (zE l k):=by
 unfold zE;generalize l.take k=m
 have:∀(m:List (List UInt8)) e,strKeys e->strKeys (m.foldl (fun e s=>ld 1 (.str s) (.bool true) e) e):=by
  intro m
  induction m with
  |nil=>intro e h;exact h
  |cons a m ih=>intro e h;exact ih _ (anP h _ _)
 exact this m [] (fun p hp=>by cases hp)
theorem anS{l:List (List UInt8)}{k:Nat}{s:List UInt8}(h:l[k]? =some s):zE l (k+1)=ld 1 (.str s) (.bool true) (zE l k):=by
 unfold zE;rw[zS,h];simp
theorem anT (s:List UInt8):h4 1 (.str s) sC=some (if kw.contains s then some (.bool true)else none):=by
 unfold sC;generalize kw=l
 induction l with
 |nil=>rfl
 |cons a l ih=>
  simp only[eo,h4,ix,List.contains_cons];cases auj:(s==a)with
  |true=>rfl
  |false=>simp[ih]
theorem sD{H:Heap}{p:Nat}{o:cc}(h:H[p]? =some o)(t:Heap):(H++t)[p]? =some o:=by
 have hp:p<H.length:=by
  rcases fX p H.length with h1|h1
  ·exact h1
  ·rw[lb h1]at h;cases h
 rw[gE hp,h]
set_option maxHeartbeats 1000000 in
theorem anU (T:lN aa)(H:Heap):bZ aa (.fn 227 [] []) [] H=some (.map H.length,H++[.map sC],H.length):=by
 have key:=afX (aa:=aa) (b:=8) (n:=6) (i:=7) (t:=13) (blk:=1) (ex:=0) (body:=axt)
  (I:=fun k st=>st.H=H++[.map (zE kw k)]/\st.low=H.length/\bk st.av 1=.map H.length/\bk st.av 5=.list 1 (kw.map .str)/\bk st.av 7=.int .i64 k/\bk st.av 6=.int .i64 (35:Nat))
  (Q:=fun x st=>st.H=H++[.map sC]/\st.low=H.length/\x=.exit 0/\bk st.av 1=.map H.length)
  (N:=35) (by decide) (by decide) (by decide)
  (fun k st h=>⟨h.2.2.2.2.1,h.2.2.2.2.2,by rw[h.1,h.2.1];simp⟩)
  (by
    rintro k st cW ⟨h1,h2,ar,aQ,h5,ft⟩;obtain⟨w,hn⟩:∃w,kw[k]? =some w:=⟨_,hX (by rw[Wn];exact cW)⟩;have gY:yD 1 (V.list 1 (kw.map .str))=true:=rfl;have bj:(el (V.list 1 (kw.map .str)))[k]? =some (.str w):=by simp[el,hn]
    have Zw:aE (V.str w)=[V.str w]:=rfl;obtain⟨o,ho⟩:=anQ (anR kw k) w;refine⟨.normal,_,by simp[axt,fZ,fQ,gn,h6,iO,jC,jD,lf,jY,cQ,e3,ly,kG,jq,k2,k3,lA,me,lz,jK,mc,nH,ag.ae,bk,fB,aq.put,dB,kS,kR,dX,eP,dF,bs,bW,fy,hE,finish,old,olds,flat,iT,mA,gN,fY,aE,S.R,S.q,S.k,S.rt,S.gg,S.b0,S.e,S.r,S.o,S.n,S.rg,S.m,S.bF,S.ls,S.c9,S.eq,S.ne,S.lt,S.gt,S.dc,S.no,S.hI,S.st,S.fA,S.gq,S.iG,S.ex,S.c,S.cs,S.h7,S.gI,S.z,S.fn,S.ij,h1,h2,ar,aQ,h5,ft,afW,gY,bj,TZ,step,ho,ui,-List.getElem?_map];rfl,?_⟩;simp only[true_or,if_true,fB,h1,h2];refine⟨by simp[h5],by simp,by simp[anS hn],by simp,by simp[ar],by simp[aQ],by simp,by simp[ft]⟩)
  (by
    rintro st ⟨h1,h2,ar,aQ,h5,ft⟩;exact⟨by rw[h1,anN],h2,rfl,by simp[fB,ar]⟩)
 obtain⟨x,aF,h1,h2,ar,rfl,aQ⟩:=key 35 0 {aG:=[],av:=[(0,.iw),(1,.map H.length),(5,.list 1 (kw.map .str)),(6,.int .i64 35),(7,.int .i64 0)],H:=H++[.map []],low:=H.length} (by omega)
  ⟨rfl,rfl,rfl,rfl,rfl,rfl⟩
 have hx:=anO T (H++[.map []]);simp only[HI]at hx;have hlen:(el (V.list 1 (kw.map .str))).length=35:=by simp[el,Wn]
 have gY:yD 1 (V.list 1 (kw.map .str))=true:=rfl;rw[mE,T.aGg];simp[aCj,fZ,fQ,gn,h6,iO,jC,jD,lf,jY,cQ,e3,ly,kG,jq,k2,k3,lA,me,lz,jK,mc,nH,ag.ae,bk,ec,aq.put,dB,kS,kR,dX,eP,dF,bs,bW,fy,hE,finish,old,olds,flat,iT,mA,gN,fY,aE,S.R,S.q,S.k,S.rt,S.gg,S.b0,S.e,S.r,S.o,S.n,S.rg,S.m,S.bF,S.ls,S.c9,S.eq,S.ne,S.lt,S.gt,S.dc,S.no,S.hI,S.st,S.fA,S.gq,S.iG,S.ex,S.c,S.cs,S.h7,S.gI,S.z,S.fn,S.ij,TX,T1 1,gY,hlen,hx,h1,h2,ar,aQ,fB,eG]
set_option maxHeartbeats 1000000 in
theorem Zx (T:lN aa)(s:List UInt8)(H:Heap):bZ aa (.fn 119 [] []) [.str s] H=some (.fn 228 [] [.ptr H.length 0,.ptr (H.length+2) 0],H++[.cells [.str s],.map sC,.cells [.map (H.length+1)]],H.length):=by
 have cW:=anU T (H++[.cells [.str s]]);simp only[gM,ev,ja,eO,mS,jz,jB]at cW;rw[mE,T.aGi];simp[aCh,fZ,fQ,gn,h6,iO,jC,jD,lf,jY,cQ,e3,ly,kG,jq,k2,k3,lA,me,lz,jK,mc,nH,ag.ae,bk,ec,aq.put,dB,kS,kR,dX,eP,dF,bs,bW,fy,hE,finish,old,olds,flat,iT,mA,gN,fY,aE,S.R,S.q,S.k,S.rt,S.gg,S.b0,S.e,S.r,S.o,S.n,S.rg,S.m,S.bF,S.ls,S.c9,S.eq,S.ne,S.lt,S.gt,S.dc,S.no,S.hI,S.st,S.fA,S.gq,S.iG,S.ex,S.c,S.cs,S.h7,S.gI,S.z,S.fn,S.ij,MG,bS,ed,cW,jL,hD,setCells,eG]
end
end Go.Abs.hk
namespace Go.Abs.hk
open Go Go.Abs Go.Abs.Lex
noncomputable section
variable{aa:Nat->Option bY}
attribute [local simp] fZ fQ gn h6 iO jC jD lf jY cQ e3 ly kG jq k2 k3 lA me lz jK mc nH ag.ae bk fB aq.put dB kS kR dX eP dF bs bW fy hE finish old olds flat iT mA gN fY aE S.R S.q S.k S.rt S.gg S.b0 S.e S.r S.o S.n S.rg S.m S.bF S.ls S.c9 S.eq S.ne S.lt S.gt S.dc S.no S.hI S.st S.fA S.gq S.iG S.ex S.c S.cs S.h7 S.gI S.z S.fn S.ij
set_option maxHeartbeats 1000000 in
theorem Zy (T:lN aa){s:List UInt8}{H:Heap}{lo:Nat}(hl:s.length<4611686018427387904)(fi:min lo H.length=lo):
  ∀(r:List UInt8) (k:Nat) (st:aq),s.drop k=r->k<=s.length->st.H=H->st.low=lo->bk st.av 6=.str s->bk st.av 7=.int .i64 k->
   ∃aF,dx aa (.loop apn) st=some (.exit 3,aF)/\aF.H=H/\aF.low=lo/\bk aF.av 7=.int .i64 ((k+q4 r:Nat):Int)/\∀t,t<7->bk aF.av t=bk st.av t
 |[],k,st,hr,cW,h1,h2,ft,kZ=>by
  have hle:=drop_nil hr;have hn:¬(k:Int)<(s.length:Int):=by omega
  rw[py];refine⟨_,by simp[apn,qm,h1,h2,ft,kZ,hn,fi];rfl,?_⟩;simp only[fB,h1,h2,q4];exact⟨by simp,by first|(simp[fi,l2];done)|(simp[fi];done)|(simp;omega)|omega,by simp[kZ],fun t ht=>by simp[show t≠44 by omega]⟩
 |c::r,k,st,hr,cW,h1,h2,ft,kZ=>by
  obtain⟨g1,g2,g3⟩:=drop_cons hr;have hn:(k:Int)<(s.length:Int):=by omega
  have hc:=anJ T c H;have Zz:=anK T c r H;unfold aM bv at hc;unfold aM at Zz;have hb:bZ aa (.fn 236 [] []) [V.str (s.drop k)] H=some (.bool (vo (c::r)),H,H.length):=by rw[hr];exact Zz
  have bj:∀h:k<s.length,s[k]'h=c:=fun h=>by rw[hX h]at g1;exact rA g1
  have rW:k<=s.length:=by omega
  have hw:IntKind.i64.wrap ((k:Int)+1)=((k+1:Nat):Int):=by rw[wrap_small]<;>omega
  have BV:((c.toNat:Int) != 35)=!(c.toNat==35):=by simp only[bne,show((c.toNat:Int)==35)=(c.toNat==35)from xt c 35]
  by_cases BW:(kd c||c.toNat==35||vo (c::r))=true
  ·have aT:q4 (c::r)=0:=by simp only[q4,BW,if_true]
   rw[py,aT];cases hW:kd c with
   |true=>
    rw[hW]at hc;refine⟨_,by simp[apn,qm,vU,h1,h2,ft,kZ,hn,bj,g3,hc,fi];rfl,?_⟩;simp only[fB,h1,h2];exact⟨by simp,by first|(simp[fi,l2];done)|(simp[fi];done)|(simp;omega)|omega,by simp[kZ],fun t ht=>by simp[show t≠44 by omega]⟩
   |false=>
    rw[hW]at hc;cases rj:(c.toNat==35)with
    |true=>
     refine⟨_,by simp[apn,qm,vU,h1,h2,ft,kZ,hn,bj,g3,hc,BV,rj,fi];rfl,?_⟩;simp only[fB,h1,h2];exact⟨by simp,by first|(simp[fi,l2];done)|(simp[fi];done)|(simp;omega)|omega,by simp[kZ],fun t ht=>by simp[show t≠44 by omega]⟩
    |false=>
     have anV:vo (c::r)=true:=by simpa[hW,rj]using BW
     rw[anV]at hb;refine⟨_,by simp[apn,qm,vU,xu,eF,rW,h1,h2,ft,kZ,hn,bj,g3,hc,hb,BV,rj,fi];rfl,?_⟩;simp only[fB,h1,h2];exact⟨by simp,by first|(simp[fi,l2];done)|(simp[fi];done)|(simp;omega)|omega,by simp[kZ],fun t ht=>by simp[show t≠44 by omega]⟩
  ·have aT:q4 (c::r)=q4 r+1:=by simp only[q4,BW,if_false];simp
   have hW:kd c=false:=by cases h:kd c<;>simp[h]at BW⊢
   have rj:(c.toNat==35)=false:=by cases h:(c.toNat==35)<;>simp[h]at BW⊢
   have anW:vo (c::r)=false:=by cases h:vo (c::r)<;>simp[h]at BW⊢
   rw[hW]at hc;rw[anW]at hb
   have Fb:∃b4,dx aa apn st=some (.normal,b4)/\b4.H=H/\b4.low=lo/\bk b4.av 7=.int .i64 ((k+1:Nat):Int)/\∀t,t<7->bk b4.av t=bk st.av t:=by
    refine⟨_,by simp[apn,qm,vU,xu,eF,rW,h1,h2,ft,kZ,hn,bj,g3,hc,hb,BV,rj,fi,hw];rfl,?_⟩;simp only[fB,h1,h2];exact⟨by simp,by first|(simp[fi,l2];done)|(simp[fi];done)|(simp;omega)|omega,by simp,fun t ht=>by simp[show t≠44 by omega,show t≠7 by omega]⟩
   obtain⟨b4,q1,aS,b1,cL,et⟩:=Fb;obtain⟨aF,bA,b9,eD,gx,iR⟩:=Zy T hl fi r (k+1) b4 g2 (by omega) aS b1 (by rw[et 6 (by decide)];exact ft) cL;refine⟨aF,by rw[py,q1];exact bA,b9,eD,?_,fun t ht=>(iR t ht).trans (et t ht)⟩;rw[gx,aT];simp;omega
set_option maxHeartbeats 2000000 in
theorem anX (T:lN aa){s:List UInt8}{H:Heap}{lo p2 m:Nat}{a b:Int}(hl:s.length<4611686018427387904)(ik:lo<=H.length)(g2:H[p2]? =some (.cells [.map m]))(xv:H[m]? =some (.map sC))
  {st:aq} (h1:st.H=H++[.cells [.int .i64 0,.int .i64 a,.int .i64 b,.int .i64 0]]) (h2:st.low=lo) (iB:bk st.av 2=.ptr p2 0) (zF:bk st.av 5=.ptr H.length 0) (xw:bk st.av 6=.str s) (rk:bk st.av 7=.int .i64 0):
  ∃aF,dx aa Wz st=some (.normal,aF)/\aF.H=H++[.cells [.int .i64 (fF s),.int .i64 a,.int .i64 b,.int .i64 0]]/\aF.low=lo/\bk aF.av 7=.int .i64 (gB s)/\∀t,t<7->bk aF.av t=bk st.av t:=by
 have fi:min lo H.length=lo:=lP ik;have l2:min lo (H.length+1)=lo:=lP (by omega);have PU:=fun t=>sD g2 t;have PV:=fun t=>sD xv t;cases s with
 |nil=>
  refine⟨_,by simp[Wz,h1,h2,iB,zF,xw,rk,fi,l2];rfl,?_⟩;simp only[fB,h1,h2,fF,gB];exact⟨by simp,by first|(simp[fi,l2];done)|(simp[fi];done)|(simp;omega)|omega,by simp[rk],fun t ht=>by simp[show t≠47 by omega]⟩
 |cons c r=>
  have bf:((c::r)==[])=false:=rfl;have df:=anH T c (H++[.cells [.int .i64 0,.int .i64 a,.int .i64 b,.int .i64 0]]);have lx:=Zu T c (H++[.cells [.int .i64 0,.int .i64 a,.int .i64 b,.int .i64 0]]);have aC:=anL T (c::r) (H++[.cells [.int .i64 0,.int .i64 a,.int .i64 b,.int .i64 0]]);have JS:=Zv T (s:=c::r) (p:=om) (i:=232) (H:=H++[.cells [.int .i64 0,.int .i64 a,.int .i64 b,.int .i64 0]]) hl (fun c H=>anI T c H);have PW:=Zv T (s:=c::r) (p:=iY) (i:=233) (H:=H++[.cells [.int .i64 0,.int .i64 a,.int .i64 b,.int .i64 0]]) hl (fun c H=>Zu T c H);unfold aM bv at df lx;unfold aM at aC JS PW;simp only[gM,ev,ja,eO]at df lx aC JS PW;have oW:=DH om (c::r);have JT:=anT ((c::r).take (ke om (c::r)));cases ai:ml c with
  |true=>
   rw[ai]at df;generalize hn:ke om (c::r)=n at*;have ZA:n<=r.length+1:=oW;cases a2:kw.contains ((c::r).take n)with
   |true=>
    rw[a2]at JT;have qn:fF (c::r)=2:=by simp only[fF,ai,if_true,hn,a2]
    have el:gB (c::r)=n:=by simp only[gB,ai,if_true,hn]
    rw[qn,el];refine⟨_,by simp[Wz,h1,h2,iB,zF,xw,rk,fi,l2,bf,vU,kr,df,JS,jL,mf,hD,bS,ed,setCells,xu,eF,oW,Hd,step,PU,PV,JT,ZA,eG,nX,rD,-List.take_succ_cons];rfl,?_⟩;simp only[fB,h1,h2];exact⟨by simp,by first|(simp[fi,l2];done)|(simp;omega)|omega,by simp,fun t ht=>by simp[show t≠47 by omega,show t≠50 by omega,show t≠61 by omega,show t≠7 by omega]⟩
   |false=>
    rw[a2]at JT;have qn:fF (c::r)=1:=by simp only[fF,ai,if_true,hn,a2];rfl
    have el:gB (c::r)=n:=by simp only[gB,ai,if_true,hn]
    rw[qn,el];refine⟨_,by simp[Wz,h1,h2,iB,zF,xw,rk,fi,l2,bf,vU,kr,df,JS,jL,mf,hD,bS,ed,setCells,xu,eF,oW,Hd,step,PU,PV,JT,ZA,eG,nX,rD,-List.take_succ_cons];rfl,?_⟩;simp only[fB,h1,h2];exact⟨by simp,by first|(simp[fi,l2];done)|(simp;omega)|omega,by simp,fun t ht=>by simp[show t≠47 by omega,show t≠50 by omega,show t≠61 by omega,show t≠7 by omega]⟩
  |false=>
   rw[ai]at df;cases a2:iY c with
   |true=>
    rw[a2]at lx;have qn:fF (c::r)=3:=by simp only[fF,ai,a2,if_true];rfl
    have el:gB (c::r)=ke iY (c::r):=by simp only[gB,ai,a2,if_true];rfl
    rw[qn,el];refine⟨_,by simp[Wz,h1,h2,iB,zF,xw,rk,fi,l2,bf,vU,kr,df,lx,PW,jL,mf,hD,bS,ed,setCells];rfl,?_⟩;simp only[fB,h1,h2];exact⟨by simp,by first|(simp[fi,l2];done)|(simp;omega)|omega,by simp,fun t ht=>by simp[show t≠47 by omega,show t≠50 by omega,show t≠63 by omega,show t≠7 by omega]⟩
   |false=>
    rw[a2]at lx;by_cases a3:0<sym (c::r)
    ·have qn:fF (c::r)=4:=by simp only[fF,ai,a2,a3,if_true];rfl
     have el:gB (c::r)=sym (c::r):=by simp only[gB,ai,a2,a3,if_true];rfl
     rw[qn,el];refine⟨_,by simp[Wz,h1,h2,iB,zF,xw,rk,fi,l2,bf,vU,kr,df,lx,aC,a3,jL,mf,hD,bS,ed,setCells];rfl,?_⟩;simp only[fB,h1,h2];exact⟨by simp,by first|(simp[fi,l2];done)|(simp;omega)|omega,by simp,fun t ht=>by simp[show t≠47 by omega,show t≠50 by omega,show t≠63 by omega,show t≠70 by omega,show t≠7 by omega]⟩
    ·have qn:fF (c::r)=5:=by simp only[fF,ai,a2,a3,if_false];rfl
     have el:gB (c::r)=q4 r+1:=by simp only[gB,ai,a2,a3,if_false];rfl
     rw[qn,el]
     obtain⟨b4,q1,aS,b1,cL,et⟩:=Zy T (s:=c::r) (H:=H++[.cells [.int .i64 5,.int .i64 a,.int .i64 b,.int .i64 0]]) (lo:=lo) hl (by simp;omega) r 1
      {aG:=[],av:=ec (ec (ec (ec (ec st.av 47 (.bool false)) 50 (.bool false)) 63 (.bool false)) 70 (.bool false)) 7 (.int .i64 1),H:=H++[.cells [.int .i64 5,.int .i64 a,.int .i64 b,.int .i64 0]],low:=lo,ro:=st.ro} rfl (by simp) rfl rfl (by simp[fB,xw]) (by simp[fB])
     refine⟨b4,by simp[Wz,h1,h2,iB,zF,xw,rk,fi,l2,bf,vU,kr,df,lx,aC,a3,jL,mf,hD,bS,ed,setCells,q1],aS,b1,?_,fun t ht=> ?_⟩
     ·rw[cL];simp;omega
     ·rw[et t ht];simp[fB,show t≠47 by omega,show t≠50 by omega,show t≠63 by omega,show t≠70 by omega,show t≠7 by omega]
end
end Go.Abs.hk
namespace Go.Abs.hk
open Go Go.Abs Go.Abs.Lex
noncomputable section
variable{aa:Nat->Option bY}
attribute [local simp] fZ fQ gn h6 iO jC jD lf jY cQ e3 ly kG jq k2 k3 lA me lz jK mc nH ag.ae bk fB aq.put dB kS kR dX eP dF bs bW fy hE finish old olds flat iT mA gN fY aE S.R S.q S.k S.rt S.gg S.b0 S.e S.r S.o S.n S.rg S.m S.bF S.ls S.c9 S.eq S.ne S.lt S.gt S.dc S.no S.hI S.st S.fA S.gq S.iG S.ex S.c S.cs S.h7 S.gI S.z S.fn S.ij
theorem aGl:awZ=.block 1 (.seq awW (.seq awX (.seq awY (.seq (.block 2 Wz) au1)))):=rfl
def jS (s:List UInt8)(cO:Nat):List V:=[.int .i64 (fF (s.drop (eW s cO))),.int .i64 cO,.int .i64 (eW s cO),.int .i64 (iI s cO)]
set_option maxHeartbeats 2000000 in
theorem PX (T:lN aa){s:List UInt8}{H H2:Heap}{p1 p2 m L cO c5 m0:Nat}{b:Bool}(hl:s.length<4611686018427387904)(fT:cO<=s.length)(g1:H[p1]? =some (.cells [.str s]))(g2:H[p2]? =some (.cells [.map m]))(xv:H[m]? =some (.map sC))
  {st:aq} (h1:st.H=H) (h2:m0<=st.low) (wA:st.low<=H.length) (l7:bk st.av 0=.yield L) (bF:bk st.av 1=.ptr p1 0) (iB:bk st.av 2=.ptr p2 0) (pb:bk st.av 4=.int .i64 cO)
  (hy:bZ aa (.yield L) [.agg (jS s cO)] (H++[.cells (jS s cO)])=some (.bool b,H2,c5)) (yf:c5<=H.length) (fi:m0<=c5) (auk:m0<=H2.length) (GD:b=true->H2[H.length]? =some (.cells (jS s cO))):
  ∃x aF,dx aa awZ st=some (x,aF)/\x=(if b&&decide (fF (s.drop (eW s cO))≠0)then .normal else .ret)/\aF.H=H2/\m0<=aF.low/\aF.low<=c5/\bk aF.av 4=.int .i64 (iI s cO)/\∀t,t<4->bk aF.av t=bk st.av t:=by
 have anZ:=fun t=>sD g1 t;have PU:=fun t=>sD g2 t;have PV:=fun t=>sD xv t;obtain⟨lo,ik⟩:∃lo,st.low=lo:=⟨_,rfl⟩;rw[ik]at h2 wA;have ob:min lo H.length=lo:=lP wA;have lk:min lo (H.length+1)=lo:=lP (by omega);have ZB:=anM T (s:=s.drop cO) (H:=H) (by rw[sN];omega);unfold aM at ZB;have an0:=Wp fT;have zG:=Ng fT
 have PY:IntKind.i64.wrap ((cO:Int)+(eU false (s.drop cO):Int))=(eW s cO:Int):=by
  have e:(cO:Int)+(eU false (s.drop cO):Int)=(eW s cO:Int):=by unfold eW;omega
  rw[e,wrap_small]<;>omega
 have yr:IntKind.i64.wrap ((eW s cO:Int)+(gB (s.drop (eW s cO)):Int))=(iI s cO:Int):=by
  have e:(eW s cO:Int)+(gB (s.drop (eW s cO)):Int)=(iI s cO:Int):=by unfold iI;omega
  rw[e,wrap_small]<;>omega
 have A:∃b4,dx aa awW st=some (.normal,b4)/\b4.H=H++[.cells [.int .i64 0,.int .i64 cO,.int .i64 (eW s cO),.int .i64 0]]/\b4.low=lo/\bk b4.av 5=.ptr H.length 0/\∀t,t<5->bk b4.av t=bk st.av t:=by
  refine⟨_,by simp[awW,h1,ik,pb,bF,g1,xu,eF,fT,ZB,PY,step,uj,setCells,bS,ed,jL,hD,ob,lk];rfl,?_⟩;simp only[fB,h1];exact⟨by simp[setCells,ag.ae,bk,aE],by first|(simp[ob,lk];done)|(simp;omega),by simp,fun t ht=>by simp[show t≠5 by omega]⟩
 obtain⟨b4,ai,a2,a3,a4,a5⟩:=A
 have B:∃fU,dx aa awX b4=some (.normal,fU)/\fU.H=b4.H/\fU.low=lo/\bk fU.av 6=.str (s.drop (eW s cO))/\∀t,t<6->bk fU.av t=bk b4.av t:=by
  have dm:bk b4.av 1=.ptr p1 0:=(a5 1 (by decide)).trans bF;refine⟨_,by simp[awX,a2,a3,a4,dm,anZ,mf,xu,eF,an0,ob,lk];rfl,?_⟩;simp only[fB,a2];exact⟨by simp,by first|(simp[ob,lk];done)|(simp;omega),by simp,fun t ht=>by simp[show t≠6 by omega]⟩
 obtain⟨fU,dm,gy,jO,lg,uv⟩:=B
 have an1:∃lr,dx aa awY fU=some (.normal,lr)/\lr.H=b4.H/\lr.low=lo/\bk lr.av 7=.int .i64 0/\∀t,t<7->bk lr.av t=bk fU.av t:=by
  refine⟨_,by simp[awY,gy,jO,a2,ob,lk];rfl,?_⟩;simp only[fB,a2,gy];exact⟨by simp,by first|(simp[ob,lk];done)|(simp;omega),by simp,fun t ht=>by simp[show t≠7 by omega]⟩
 obtain⟨lr,dq,fb,gG,iC,jj⟩:=an1
 obtain⟨Fs,d1,d3,d4,d5,d6⟩:=anX T (s:=s.drop (eW s cO)) (H:=H) (lo:=lo) (by rw[sN];omega) wA g2 xv (st:=lr) (fb.trans a2) gG
  (by rw[jj 2 (by decide),uv 2 (by decide),a5 2 (by decide)];exact iB) (by rw[jj 5 (by decide),uv 5 (by decide)];exact a4) (by rw[jj 6 (by decide)];exact lg) iC
 have dQ:∀t,t<5->bk Fs.av t=bk st.av t:=fun t ht=>by rw[d6 t (by omega),jj t (by omega),uv t (by omega),a5 t ht]
 have yQ:bk Fs.av 5=.ptr H.length 0:=by rw[d6 5 (by decide),jj 5 (by decide),uv 5 (by decide)];exact a4
 have k0:bk Fs.av 0=.yield L:=(dQ 0 (by decide)).trans l7;have vF:∀t:Heap,¬H.length+1<=c5:=fun _=>by omega
 have Ai:=vF [];have oh:m0<=H.length:=by omega
 have E:∃x xx,dx aa au1 Fs=some (x,xx)/\x=(if b&&decide (fF (s.drop (eW s cO))≠0)then .normal else .ret)/\xx.H=H2/\m0<=xx.low/\xx.low<=c5/\bk xx.av 4=.int .i64 (iI s cO)/\∀t,t<4->bk xx.av t=bk Fs.av t:=by
  unfold jS at hy GD;generalize kC:fF (s.drop (eW s cO))=K at*;cases b with
  |false=>
   refine⟨.ret,_,by simp[au1,d3,d4,d5,yQ,k0,mf,jL,hD,bS,ed,setCells,yr,hy,Ai,ob,lk];rfl,rfl,rfl,?_⟩;exact⟨by simp;omega,by simp;omega,by simp[fB],fun t ht=>by simp[fB,show t≠92 by omega,show t≠4 by omega]⟩
  |true=>
   have JU:=GD rfl;have ZC:∀h:H.length<H2.length,H2[H.length]'h=.cells [.int .i64 K,.int .i64 cO,.int .i64 (eW s cO),.int .i64 (iI s cO)]:=fun h=>by rw[hX h]at JU;exact rA JU
   by_cases aT:K=0
   ·have PZ:((K:Int)==0)=true:=by simp[aT]
    refine⟨.ret,_,by simp[au1,d3,d4,d5,yQ,k0,mf,jL,hD,bS,ed,setCells,yr,hy,Ai,ob,lk,JU,ZC,PZ];rfl,by simp[aT],rfl,?_⟩;exact⟨by simp;omega,by simp;omega,by simp[fB],fun t ht=>by simp[fB,show t≠92 by omega,show t≠4 by omega]⟩
   ·have PZ:((K:Int)==0)=false:=by simp;omega
    refine⟨.normal,_,by simp[au1,d3,d4,d5,yQ,k0,mf,jL,hD,bS,ed,setCells,yr,hy,Ai,ob,lk,JU,ZC,PZ];rfl,by simp[aT],rfl,?_⟩;exact⟨by simp;omega,by simp;omega,by simp[fB],fun t ht=>by simp[fB,show t≠92 by omega,show t≠4 by omega]⟩
 obtain⟨x,xx,af,e2,bT,cF,an2,ej,j2⟩:=E;have hx:x=.normal\/x=.ret:=by rw[e2];split<;>simp
 refine⟨x,xx,?_,e2,bT,cF,an2,ej,fun t ht=>(j2 t ht).trans (dQ t (by omega))⟩;rw[aGl,jY,gn,ai];simp only[];rw[gn,dm];simp only[];rw[gn,dq];simp only[];rw[gn,jY,d1];simp only[];rw[af];rcases hx with rfl|rfl<;>rfl
end
end Go.Abs.hk
namespace Go.Abs.hk
open Go Go.Abs Go.Abs.Lex
noncomputable section
variable{aa:Nat->Option bY}
attribute [local simp] fZ fQ gn h6 iO jC jD lf jY cQ e3 ly kG jq k2 k3 lA me lz jK mc nH ag.ae bk ec aq.put dB kS kR dX eP dF bs bW fy hE finish old olds flat iT mA gN fY aE S.R S.q S.k S.rt S.gg S.b0 S.e S.r S.o S.n S.rg S.m S.bF S.ls S.c9 S.eq S.ne S.lt S.gt S.dc S.no S.hI S.st S.fA S.gq S.iG S.ex S.c S.cs S.h7 S.gI S.z S.fn S.ij
theorem jT (H l:Heap)(k:Nat):(H++l)[H.length+k]? =l[k]? :=by rw[sJ (by omega)];simp
theorem pj (H l:Heap):(H++l)[H.length]? =l[0]? :=jT H l 0
theorem tQ (H l:Heap)(k:Nat)(x:cc):(H++l).set (H.length+k) x=H++l.set k x:=by rw[List.set_append_right _ _ (by omega)];simp
theorem rl (H l:Heap)(x:cc):(H++l).set H.length x=H++l.set 0 x:=tQ H l 0 x
def Ft (w:List UInt8)(n:Nat):Env:=[(0,.str w),(1,.ptr n 0),(2,.ptr (n+1) 0),(10,.bool false),(12,.fn 228 [] [.ptr (n+2) 0,.ptr (n+4) 0])]
def tR (w:List UInt8)(n:Nat):Heap:=[.cells [.str w],.cells [.int .i64 0],.cells [.str w],.map sC,.cells [.map (n+3)],.loop .ready .normal (Ft w n) [13] avq avr]
set_option maxHeartbeats 1000000 in
theorem an3 (T:lN aa)(w:List UInt8)(H:Heap):∃H2 c5,bZ aa (.yield (H.length+5)) [.agg (jS w 0)] (H++(tR w H.length++[.cells (jS w 0)]))=some (.bool false,H2,c5)/\H.length<=c5/\c5<=H.length+5/\H.length<=H2.length/\
  ((eW w 0=0/\iI w 0=w.length/\H2[H.length+1]? =some (.cells [.int .i64 (fF (w.drop (eW w 0)))])/\∃e p a b,H2[H.length+5]? =some (.loop .done .ret e p a b))\/
   (¬(eW w 0=0/\iI w 0=w.length)/\H2[H.length+1]? =some (.cells [.int .i64 0])/\∃e p a b,H2[H.length+5]? =some (.loop .done (.exit 0) e p a b))):=by
 rw[Q1];unfold jS;generalize fF (w.drop (eW w 0))=K;by_cases h1:eW w 0=0
 ·have af:((eW w 0:Int) != 0)=false:=by simp[h1]
  by_cases h2:iI w 0=w.length
  ·have e2:((iI w 0:Int) != (w.length:Int))=false:=by simp[h2]
   refine⟨_,_,by simp[tR,Ft,nZ,jT,pj,tQ,rl,avq,avr,mf,qm,jL,hD,setCells,bS,ed,af,e2,eG];exact⟨rfl,rfl⟩,?_⟩;exact⟨by simp<;>omega,by simp<;>omega,by simp<;>omega,.inl ⟨h1,h2,by simp[jT],_,_,_,_,by rw[jT];rfl⟩⟩
  ·have e2:((iI w 0:Int) != (w.length:Int))=true:=by simp;omega
   refine⟨_,_,by simp[tR,Ft,nZ,jT,pj,tQ,rl,avq,avr,mf,qm,jL,hD,setCells,bS,ed,af,e2,eG];exact⟨rfl,rfl⟩,?_⟩;exact⟨by simp<;>omega,by simp<;>omega,by simp<;>omega,.inr ⟨fun h=>h2 h.2,by simp[jT],_,_,_,_,by rw[jT];rfl⟩⟩
 ·have af:((eW w 0:Int) != 0)=true:=by simp;omega
  refine⟨_,_,by simp[tR,Ft,nZ,jT,pj,tQ,rl,avq,avr,mf,qm,jL,hD,setCells,bS,ed,af,eG];exact⟨rfl,rfl⟩,?_⟩;exact⟨by simp<;>omega,by simp<;>omega,by simp<;>omega,.inr ⟨fun h=>h1 h.1,by simp[jT],_,_,_,_,by rw[jT];rfl⟩⟩
set_option maxHeartbeats 1000000 in
theorem an4 (T:lN aa)(w:List UInt8)(hl:w.length<=4096)(H:Heap):∃H2 c5,bZ aa (.fn 228 [] [.ptr (H.length+2) 0,.ptr (H.length+4) 0]) [.yield (H.length+5)] (H++tR w H.length)=some (.aU [],H2,c5)/\H.length<=c5/\H.length<=H2.length/\
  ((eW w 0=0/\iI w 0=w.length/\H2[H.length+1]? =some (.cells [.int .i64 (fF (w.drop (eW w 0)))])/\∃e p a b,H2[H.length+5]? =some (.loop .done .ret e p a b))\/
   (¬(eW w 0=0/\iI w 0=w.length)/\H2[H.length+1]? =some (.cells [.int .i64 0])/\∃e p a b,H2[H.length+5]? =some (.loop .done (.exit 0) e p a b))):=by
 obtain⟨H2,c5,hy,dm,gy,jO,lg⟩:=an3 T w H;rw[<-mS]at hy;have hlen:(H++tR w H.length).length=H.length+6:=by simp[tR]
 obtain⟨x,aF,q1,aS,b1,cL,et,gz,jI⟩:=PX T (s:=w) (H:=H++tR w H.length) (H2:=H2) (p1:=H.length+2) (p2:=H.length+4) (m:=H.length+3) (L:=H.length+5) (cO:=0) (c5:=c5) (m0:=H.length) (b:=false)
  (by omega) (cx _) (by rw[jT];rfl) (by rw[jT];rfl) (by rw[jT];rfl)
  (st:={aG:=[],av:=[(0,.yield (H.length+5)),(1,.ptr (H.length+2) 0),(2,.ptr (H.length+4) 0),(4,.int .i64 0)],H:=H++tR w H.length,low:=H.length+6}) rfl (by simp) (by rw[hlen];exact aK _) rfl rfl rfl rfl hy (by rw[hlen];omega) dm jO (fun h=>by cases h)
 simp only[FT]at aS;subst aS;have jZ:¬H.length+6<=aF.low:=by omega
 refine⟨H2,aF.low,?_,cL,jO,lg⟩;rw[mE,T.aGh];simp[aCk,hlen,py awZ,q1,b1,jZ]
set_option maxHeartbeats 1000000 in
theorem an5 (T:lN aa)(w:List UInt8)(H:Heap):aM aa (.fn 117 [] []) [.str w] H (.int .i64 (kindOf w)):=by
 unfold aM;rw[mE,T.aGj];by_cases h0:w=[]
 ·subst h0
  simp[avs,bS,ed,jL,hD,setCells,jT,pj,tQ,rl,kindOf]
 ·have dI:(w==[])=false:=by cases w<;>simp_all
  by_cases h1:4096<w.length
  ·have af:(4096:Int)<(w.length:Int):=by omega
   simp[avs,bS,ed,jL,hD,setCells,jT,pj,tQ,rl,kindOf,dI,h0,h1,af,qm]
  ·have af:¬(4096:Int)<(w.length:Int):=by omega
   have ht:=Zx T w (H++[.cells [.str w],.cells [.int .i64 0]]);simp only[gM,ev,ja,eO,mS,jz,jB,pr,Nat.reduceAdd]at ht;obtain⟨H2,c5,hc,dm,gy,jO⟩:=an4 T w (by omega) H;simp only[tR,Ft]at hc;have BX:min H.length c5=H.length:=lP dm;have an6:min H.length (min c5 (min H2.length (H.length+1)))=H.length:=by omega
   rcases jO with⟨dq,fb,gG,e,p,a,b,iC⟩|⟨dq,gG,e,p,a,b,iC⟩
   ·have cW:kindOf w=fF (w.drop (eW w 0)):=by simp[kindOf,h0,h1,dq,fb]
    have jj:(H2.set (H.length+5) .gone)[H.length+1]? =some (.cells [.int .i64 (fF (w.drop (eW w 0)))]):=by rw[gm (by omega)];exact gG
    rw[cW];simp[avs,bS,ed,jL,hD,setCells,jT,pj,tQ,rl,dI,h0,h1,af,qm,ht,F4,xN,wm,hc,iC,jj,eG,BX]
   ·have cW:kindOf w=0:=by simp[kindOf,h0,h1];exact fun h1 h2=>absurd ⟨h1,h2⟩ dq
    have jj:(H2.set (H.length+5) .gone)[H.length+1]? =some (.cells [.int .i64 0]):=by rw[gm (by omega)];exact gG
    have EA:((H2.set (H.length+5) .gone).set (H.length+1) (.cells [.int .i64 0]))[H.length+1]? =some (.cells [.int .i64 0]):=by rw[nU];rw[zT];rcases fX (H.length+1) H2.length with h|h;exact h;rw[lb h]at gG;cases gG
    rw[cW];simp[avs,bS,ed,jL,hD,setCells,jT,pj,tQ,rl,dI,h0,h1,af,qm,ht,F4,xN,wm,hc,iC,jj,EA,eG,an6]
end
end Go.Abs.hk
namespace Go.Abs.hk
open Go Go.Abs
noncomputable section
variable{aa:Nat->Option bY}
def vB:V->Bool
 | .cz .. =>true
 | _=>false
section
variable{call:cU}{ae:ag->V}{H:Heap}{low:Nat}
theorem ZD{x:ag}(h:vB (ae x)=true):b2 call ae H low (.len 1 x)=match ae x with
  | .cz l es _ len tag=>(match H[l]? with
    |some (.row bD ds _)=>if bD=es/\ds.length=tag then some (.int .i64 len,H,low)else none
    |some (.Nk r)=>if r.length=tag then some (.int .i64 len,H,low)else none
    | _=>none)
  | _=>none:=by
 show step ae H low (.len 1 x)=_;cases hx:ae x<;>simp_all [vB,step]<;>rfl
theorem ZE (es:Nat)(a b:ag):b2 call ae H low (.copy es a b)=step ae H low (.copy es a b):=rfl
end
structure Fu (aa:Nat->Option bY):Prop where
 aGm:aa 346=some (.code aCl)
 aGn:aa 419=some (.code aCm)
 aGo:aa 213=some (.code aCi)
def u64 (n:Int):V:=.int .u64 n
theorem P0{W:Nat}(h:W<4294967296):dB .and (u64 W) (u64 4294967295)=some (u64 W):=by
 have e:(BitVec.ofInt 64 (W:Int) &&& BitVec.ofInt 64 4294967295).toNat=W:=by
  rw[BitVec.toNat_and]
  have h1:(BitVec.ofInt 64 (W:Int)).toNat=W:=by
   rw[BitVec.toNat_ofInt];omega
  have h2:(BitVec.ofInt 64 4294967295).toNat=2^32-1:=by decide
  rw[h1,h2,Nat.and_two_pow_sub_one_eq_mod];omega
 have dI:dB .and (u64 W) (u64 4294967295)=some (.int .u64 (IntKind.u64.wrap ((BitVec.ofInt 64 (W:Int) &&& BitVec.ofInt 64 4294967295).toNat:Int))):=rfl;rw[dI,e]
 have:IntKind.u64.wrap (W:Int)=W:=by
  have af:(2^IntKind.u64.bits:Int)=18446744073709551616:=rfl;have s:IntKind.u64.signed=false:=rfl;simp only[IntKind.wrap,af,s,FT];simp;omega
 rw[this];rfl
theorem JV{n:Int}(h1:0<=n)(h2:n<18446744073709551616):IntKind.u64.wrap n=n:=by
 have af:(2^IntKind.u64.bits:Int)=18446744073709551616:=rfl;have s:IntKind.u64.signed=false:=rfl;simp only[IntKind.wrap,af,s,FT];simp;omega
theorem P1{W:Nat}(h:W<4294967296):dB .shr (u64 W) (u64 32)=some (u64 0):=by
 have:(W:Int)/4294967296=0:=Int.ediv_eq_zero_of_lt (by omega) (by omega);simp[u64,dB,IntKind.bits,this]
theorem aoa{W:Nat}(h:W<4294967296):dB .mul (u64 1) (u64 W)=some (u64 W):=by
 simp[u64,dB,JV (n:=(W:Int)) (by omega) (by omega)]
theorem aob{W:Nat}:dB .mul (u64 0) (u64 W)=some (u64 0):=by
 simp[u64,dB,JV (n:=0) (by omega) (by omega)]
theorem dm:dB .and (u64 1) (u64 4294967295)=some (u64 1):=P0 (W:=1) (by decide)
theorem gy:dB .shr (u64 1) (u64 32)=some (u64 0):=P1 (W:=1) (by decide)
theorem jO:dB .add (u64 0) (u64 0)=some (u64 0):=by kernel_rfl
theorem lg:dB .and (u64 0) (u64 4294967295)=some (u64 0):=P0 (W:=0) (by decide)
theorem uv:dB .shr (u64 0) (u64 32)=some (u64 0):=P1 (W:=0) (by decide)
theorem ZF:dB .mul (u64 1) (u64 0)=some (u64 0):=by kernel_rfl
theorem zC:dB .mul (u64 0) (u64 0)=some (u64 0):=by kernel_rfl
set_option maxHeartbeats 1000000 in
theorem aoc (T:Fu aa){W:Nat}(h:W<4294967296)(H:Heap):aM aa (.fn 419 [] []) [u64 1,u64 W] H (.aU [u64 0,u64 W]):=by
 unfold aM;have c:∀n,V.int .u64 n=u64 n:=fun _=>rfl;have i1:∀n,bs (u64 n)=true:=fun _=>rfl;rw[mE,T.aGn];simp[aCm,dF,S.R,S.lB,S.q,S.k,S.rt,S.gg,S.b0,S.e,S.r,S.o,S.n,S.rg,S.m,S.bF,S.ls,S.c9,S.eq,S.ne,S.lt,S.gt,S.dc,S.no,S.hI,S.st,S.fA,S.gq,S.iG,S.ex,S.c,S.cs,S.h7,S.gI,S.z,S.fn,S.ij,fZ,fQ,gn,h6,jD,cQ,e3,ly,jq,ag.ae,bk,ec,aq.put,eP,bs,bW,fy,hE,finish,old,olds,mA,iT,c,i1,P0 h,P1 h,aoa h,aob,dm,gy,jO,lg,uv,ZF,zC]
theorem aod{call:cU}{ae:ag->V}{H:Heap}{low:Nat}(k:IntKind)(x:ag):b2 call ae H low (.conv k x)=step ae H low (.conv k x):=rfl
set_option maxHeartbeats 1000000 in
theorem aoe (T:Fu aa){W:Nat}(h:W<4294967296)(H:Heap):aM aa (.fn 346 [] []) [.int .u64 1,.int .u64 W] H (.aU [.int .u64 0,.int .u64 W]):=by
 have hm:=aoc T h H;unfold aM u64 at*;rw[mE,T.aGm];simp[aCl,fZ,fQ,gn,h6,iO,jC,jD,lf,jY,cQ,e3,ly,kG,jq,k2,k3,lA,me,lz,jK,mc,nH,ag.ae,bk,ec,aq.put,dB,kS,kR,dX,eP,dF,bs,bW,fy,hE,finish,old,olds,flat,iT,mA,gN,fY,aE,S.R,S.lB,S.q,S.k,S.rt,S.gg,S.b0,S.e,S.r,S.o,S.n,S.rg,S.m,S.bF,S.ls,S.c9,S.eq,S.ne,S.lt,S.gt,S.dc,S.no,S.hI,S.st,S.fA,S.gq,S.iG,S.ex,S.c,S.cs,S.h7,S.gI,S.z,S.fn,S.ij,hm]
def jw (lo hi:Int):V:=.agg [.int .i64 lo,.int .i64 hi]
def P2:V:=.agg [.int .i64 0,.int .i64 0]
def nq (e:V)(m W:Nat):List V:=List.replicate m e++List.replicate (W-m) P2
theorem aof{e:V}{m W:Nat}(h:m<=W):(nq e m W).length=W:=by simp[nq];omega
theorem ZG{e:V}{m W:Nat}:(nq e m W).take m=List.replicate m e:=by simp[nq,List.take_append]
theorem aog{e:V}{m W:Nat}(h:m<=W)(h1:1<=m):(nq e m W).take m++((nq e m W).take m).take (W-m)++(nq e m W).drop (m+min (W-m) m)=nq e (m+min (W-m) m) W:=by
 rw[ZG,List.take_replicate];unfold nq;rw[QS,List.drop_replicate,List.drop_replicate,xE];rw[show m-(m+min (W-m) m)=0 by omega];simp only[List.replicate_zero,jB];rw[show W-m-(m+min (W-m) m-m)=W-(m+min (W-m) m) by omega,List.replicate_append_replicate]
theorem aoh{a b:Int}(m:Nat):lQ ((List.replicate m (jw a b)).flatMap aE)=true:=by
 induction m with
 |zero=>rfl
 |succ m ih=>rw[Ca,kn];simp[jw,aE,lQ,plainCell]at ih⊢; exact ih
set_option maxHeartbeats 1000000 in
theorem aoi (T:Fu aa){a b:Int}{W:Nat}{H:Heap}(hW:W<=1000):∀(j m:Nat) (st:aq),m+j=W->1<=m->st.H=H++[.row 2 (nq (jw a b) m W) false]->H.length<=st.low->st.low<=H.length+1->bk st.av 7=.cz H.length 2 0 W W->bk st.av 8=.int .i64 m->
  ∃aF,dx aa (.loop avt) st=some (.exit 0,aF)/\aF.H=H++[.row 2 (nq (jw a b) W W) false]/\H.length<=aF.low/\bk aF.av 7=.cz H.length 2 0 W W:=by
 intro j
 induction j using Nat.strongRecOn with
 |ind j ih=>
  intro m st hj hm h1 h2 wA rk ZH;have jG:=aof (e:=jw a b) (m:=m) (W:=W) (by omega);by_cases aoj:m=W
  ·subst aoj
   rw[py];refine⟨_,by simp[avt,fZ,fQ,gn,h6,iO,jC,jD,lf,jY,cQ,e3,ly,kG,jq,k2,k3,lA,me,lz,jK,mc,ag.ae,bk,fB,aq.put,dB,kS,kR,dX,eP,dF,bs,bW,fy,hE,finish,old,olds,flat,iT,mA,gN,fY,MR,S.R,S.lB,S.q,S.k,S.rt,S.gg,S.b0,S.e,S.r,S.o,S.n,S.rg,S.m,S.bF,S.ls,S.c9,S.eq,S.ne,S.lt,S.gt,S.dc,S.no,S.hI,S.st,S.fA,S.gq,S.iG,S.ex,S.c,S.cs,S.h7,S.gI,S.z,S.fn,S.ij,h1,rk,ZH,ZD,vB,pj,jG];rfl,?_⟩;exact⟨by simp,by simp;omega,by simp[fB,rk]⟩
  ·have aX:(m:Int)<(W:Int):=by omega
   have EI:m<W:=by omega
   have KU:m<=W:=by omega
   have aok:=aoh (a:=a) (b:=b) m;have cd:=aog (e:=jw a b) (m:=m) (W:=W) (by omega) hm;have hw:IntKind.i64.wrap ((m:Int)+((min (W-m) m:Nat):Int))=((m+min (W-m) m:Nat):Int):=by rw[wrap_small]<;>omega
   have zB:=ZG (e:=jw a b) (m:=m) (W:=W);have oW:(List.replicate m (jw a b)).length=m:=by simp
   have aol:m+(W-m)=W:=by omega
   have Fb:∃b4,dx aa avt st=some (.normal,b4)/\b4.H=H++[.row 2 (nq (jw a b) (m+min (W-m) m) W) false]/\H.length<=b4.low/\b4.low<=H.length+1/\bk b4.av 7=.cz H.length 2 0 W W/\bk b4.av 8=.int .i64 ((m+min (W-m) m:Nat):Int):=by
    generalize gr:nq (jw a b) m W=P at*;have fi:0<m:=hm;refine⟨_,by simp[avt,fZ,fQ,gn,h6,iO,jC,jD,lf,jY,cQ,e3,ly,kG,jq,k2,k3,lA,me,lz,jK,mc,ag.ae,bk,fB,aq.put,dB,kS,kR,dX,eP,dF,bs,bW,fy,hE,finish,old,olds,flat,iT,mA,gN,fY,MR,S.R,S.lB,S.q,S.k,S.rt,S.gg,S.b0,S.e,S.r,S.o,S.n,S.rg,S.m,S.bF,S.ls,S.c9,S.eq,S.ne,S.lt,S.gt,S.dc,S.no,S.hI,S.st,S.fA,S.gq,S.iG,S.ex,S.c,S.cs,S.h7,S.gI,S.z,S.fn,S.ij,h1,rk,ZH,ZD,vB,pj,rl,jG,aX,EI,KU,fi,TY,ZE,step,eF,elems,zB,oW,aok,aol,hw,eG,nX,rD,fw,-List.take_replicate];exact⟨.inl (.inl ⟨by decide,by decide⟩),rfl⟩,?_⟩;refine⟨?_,by simp;omega,by simp;omega,by simp[fB,rk],by simp[fB]⟩;rw[zB]at cd;simp[<-cd,-List.take_replicate]
   obtain⟨b4,q1,aS,b1,cL,et,gz⟩:=Fb;obtain⟨aF,bA,b9⟩:=ih (W-(m+min (W-m) m)) (by omega) (m+min (W-m) m) b4 (by omega) (by omega) aS b1 cL et gz;exact⟨aF,by rw[py,q1];exact bA,b9⟩
theorem ZI (a b:Int):∀m,bW (List.replicate m (jw a b))=true
 |0=>rfl
 |m+1=>by rw[Ca];simp only[bW,ZI a b m,xH];rfl
theorem aom (n:Nat)(a b:Int)(m:Nat):olds n (List.replicate m (jw a b))=true:=by
 induction m with
 |zero=>rfl
 |succ m ih=>rw[Ca];simp only[olds,ih,xH];rfl
set_option maxHeartbeats 2000000 in
theorem aon (T:Fu aa){a b:Int}{W:Nat}(hW:W<=1000)(h1:1<=W)(H:Heap):
  bZ aa (.fn 213 [] []) [.list 2 [jw a b],.int .i64 W] H=some (.list 2 (List.replicate W (jw a b)),H,H.length):=by
 have hm:=aoe T (W:=W) (by omega) H;unfold aM at hm;have Gi:IntKind.u64.wrap 1=1:=JV (by omega) (by omega);have s0:IntKind.u64.wrap (W:Int)=W:=JV (by omega) (by omega);have hi:IntKind.i64.wrap (W:Int)=W:=by rw[wrap_small]<;>omega
 have aoo:¬(W:Int)<0:=by omega
 have YM:¬(W:Int)>9223372036854775807:=by omega
 have aop:¬(9223372036854775807:Int)<(W:Int):=by omega
 have e4:(W:Int)*17<=1099511627776:=by omega
 have Gh:¬(W:Int)=0:=by omega
 have aoq:¬W=0:=by omega
 have C9:(0:Int)<=W:=by omega
 have BX:min W 1=1:=by omega
 have Au:lQ (List.flatMap aE [jw a b])=true:=rfl;have aor:nq (jw a b) 1 W=jw a b::List.replicate (W-1) P2:=rfl;have aos:nq (jw a b) W W=List.replicate W (jw a b):=by simp[nq]
 obtain⟨aF,bA,b9,eD,gx⟩:=aoi T (a:=a) (b:=b) (W:=W) (H:=H) hW (W-1) 1
  {aG:=[],av:=[(0,.list 2 [jw a b]),(1,.int .i64 W),(4,.cp),(10,.bool false),(5,.int .u64 0),(6,.int .u64 W),(26,.bool false),(7,.cz H.length 2 0 W W),(8,.int .i64 1)],H:=H++[.row 2 (nq (jw a b) 1 W) false],low:=H.length} (by omega) (aK _) rfl (aK _) (by simp) rfl rfl
 rw[aos]at b9;have P3:=ZI a b W;have hold:=aom H.length a b W;have aot:List.take W [jw a b]=[jw a b]:=B5 (by simpa using h1);have aT:V.agg [V.int .i64 0,V.int .i64 0]=P2:=rfl;rw[aor]at bA;rw[mE,T.aGo];have gY:yD 2 (V.list 2 [jw a b])=true:=rfl;have P4:(el (V.list 2 [jw a b])).length=1:=rfl;simp[aCi,fZ,fQ,gn,h6,iO,jC,jD,lf,jY,cQ,e3,ly,kG,jq,k2,k3,lA,me,lz,jK,mc,ag.ae,bk,ec,aq.put,dB,kS,kR,dX,eP,dF,bs,bW,fy,hE,finish,old,olds,flat,iT,mA,gN,fY,MR,S.R,S.lB,S.q,S.k,S.rt,S.gg,S.b0,S.e,S.r,S.o,S.n,S.rg,S.m,S.bF,S.ls,S.c9,S.eq,S.ne,S.lt,S.gt,S.dc,S.no,S.hI,S.st,S.fA,S.gq,S.iG,S.ex,S.c,S.cs,S.h7,S.gI,S.z,S.fn,S.ij,T1 2,gY,P4,aod,step,Gi,s0,hi,hm,aoo,YM,aop,MH,kT,aT,e4,Gh,aoq,C9,ZE,elems,pj,rl,aot,Au,BX,bA,b9,eD,gx,hold,P3,fB,-List.flatMap_cons]
theorem aou (T:Fu aa):akH aa:=by
 intro H0 x n r h;unfold DJ at h;split at h
 ·rename_i hc
  obtain⟨h1,h2,ar⟩:=hc;cases h
  obtain⟨rg,hx⟩:∃rg,x=.mk [rg]:=by
   cases x with
   |nil=>simp[ak.l]at h1
   |emp=>simp[ak.l]at h1
   |mk l=>match l,h1 with
    |[rg],_=>exact⟨rg,rfl⟩
  subst hx;obtain⟨W,rfl⟩:=Kg (show 0<=n by omega);have:=aon T (a:=rg.kI) (b:=rg.kJ) (W:=W) (by omega) (by omega) H0
  have e:(List.replicate ((W:Int)).toNat (ak.mk [rg]).l).flatten=List.replicate W rg:=by
   rw[FL];show(List.replicate W [rg]).flatten=_;simp
  rw[e];show bZ aa (.fn 213 [] []) [.list 2 [pS rg],aD (W:Int)] H0=some (.list 2 ((List.replicate W rg).map pS),H0,H0.length);rw[List.map_replicate];exact this
 ·cases h
end
end Go.Abs.hk
namespace Go.Abs
open Go
variable{C D:Ctx}{fid:Nat->Nat}
theorem og.turn (gr:D.P=C.P)(bj:D.e9=C.e9){i:Nat}{spec:List V->Option V}(hp:∀args v,spec args=some v->bs v=true)(h:og C fid i spec):og D fid i spec:=by
 intro G H w args v xs U eQ hs;have hA:=U.apart;have arQ:aZ C fid ⟨fun _=>Option.none,G.I⟩ [] w:=⟨fun _ _ e=>(by cases e),fun _ _ _ _ e=>(by cases e),fun _ _ e=>(by cases e),hA.cX,fun _ _ e=>(by cases e),by rw[<-bj];exact hA.e9⟩;have hc:=h arQ eQ hs;rw[gr];refine hc.mono fun x w' hx=> ?_;obtain⟨ay,gO,he,ad⟩:=hx
 have hn:∀l h,ay.β l=some h->False:=fun l h e=>by
  obtain⟨o,ho,-⟩:=gO.obj l h e;simp at ho
 exact ll.beside (H':=([]:Heap)) U (hp _ _ hs) ⟨ay,⟨fun l h e=>(hn l h e).elim,gO.inj,gO.blk,gO.cX,gO.ku,by rw[bj];exact gO.e9⟩,he,ad⟩
end Go.Abs
set_option maxRecDepth 100000
namespace Go.Abs.hk
open Go Go.Abs Go.Proofs
section
variable{g:Nat->Option Obj}
theorem aGp:∀args v,Cp args=some v->bs v=true:=fun args v h=>by
 unfold Cp at h
 repeat' split at h
 all_goals first|(cases h;done)|(cases h;rfl)|(cases h;split<;>rfl)|(obtain⟨_,_,rfl⟩:=ct.1 h;rfl)
theorem aGq:∀args v,Co args=some v->bs v=true:=fun args v h=>by
 unfold Co at h
 repeat' split at h
 all_goals first|(cases h;done)|(cases h;rfl)|(cases h;split<;>rfl)|(obtain⟨_,_,rfl⟩:=ct.1 h;rfl)
theorem aGr:∀args v,F8 args=some v->bs v=true:=fun args v h=>by
 unfold F8 at h
 repeat' split at h
 all_goals first|(cases h;done)|(cases h;rfl)|(cases h;split<;>rfl)|(obtain⟨_,_,rfl⟩:=ct.1 h;rfl)
theorem aGs:∀args v,Cr args=some v->bs v=true:=fun args v h=>by
 unfold Cr at h
 repeat' split at h
 all_goals first|(cases h;done)|(cases h;rfl)|(cases h;split<;>rfl)|(obtain⟨_,_,rfl⟩:=ct.1 h;rfl)
theorem aGt:∀args v,Cq args=some v->bs v=true:=fun args v h=>by
 unfold Cq at h
 repeat' split at h
 all_goals first|(cases h;done)|(cases h;rfl)|(cases h;split<;>rfl)|(obtain⟨_,_,rfl⟩:=ct.1 h;rfl)
theorem aGu:∀args v,KF args=some v->bs v=true:=fun args v h=>by
 unfold KF at h
 repeat' split at h
 all_goals first|(cases h;done)|(cases h;rfl)|(cases h;split<;>rfl)|(obtain⟨_,_,rfl⟩:=ct.1 h;rfl)
theorem aGv:∀args v,KG args=some v->bs v=true:=fun args v h=>by
 unfold KG at h
 repeat' split at h
 all_goals first|(cases h;done)|(cases h;rfl)|(cases h;split<;>rfl)|(obtain⟨_,_,rfl⟩:=ct.1 h;rfl)
theorem aov (aow:∀(G:bX) (H:Heap) (w:World),aZ (C g) id G H w->Lib.TabIs Tryz.prog w "internal/strconv.uint64pow10" .u64 Lib.pow10Tab)(pM:∀(G:bX) (H:Heap) (w:World),aZ (C g) id G H w->Lib.TabIs Tryz.prog w "strings.asciiSpace" .u8 Lib.asciiSpaceTab):dU (A g) id (gf g):=by
 refine⟨fun i f h=> ?_,fun i sp h=> ?_,fun i sp h=> ?_⟩
 ·unfold gf at h
  split at h
  ·cases h
  ·split at h
   ·cases h
   ·split at h
    ·rename_i fn im
     split at h
     ·rename_i a ao
      cases h;obtain⟨c,-,-,-,-,-,er⟩:=GV ao;exact⟨fn,im,by rw[er];exact ao⟩
     ·cases h
    ·cases h
 ·unfold gf at h
  split at h
  ·cases h
  ·split at h
   ·rename_i s hs
    cases h;unfold TM at hs;split at hs<;>first|(cases hs;done)|skip
    ·cases hs;exact og.turn (C:=C g) (D:=A g) rfl rfl aGs (afL aow)
    ·cases hs;exact og.turn (C:=C g) (D:=A g) rfl rfl aGu afR
    ·cases hs;exact og.turn (C:=C g) (D:=A g) rfl rfl aGt afK
    ·cases hs;exact og.turn (C:=C g) (D:=A g) rfl rfl aGp afN
    ·cases hs;exact og.turn (C:=C g) (D:=A g) rfl rfl aGq (afO pM)
    ·cases hs;exact og.turn (C:=C g) (D:=A g) rfl rfl aGr afM
    ·cases hs;exact og.turn (C:=C g) (D:=A g) rfl rfl aGv afU
   ·split at h
    ·split at h<;>cases h
    ·cases h
 ·unfold gf at h
  split at h
  ·rename_i s hs
   cases h;unfold aye at hs;split at hs<;>first|(cases hs;done)|skip
   ·cases hs;exact(show ag7 (A g) id 51 avb from aDh (C:=A g) (fid:=id) Tryz.aFx Tryz.TQ rfl rfl)
   ·cases hs;exact(show ag7 (A g) id 104 ava from aDa (C:=A g) (fid:=id) Tryz.aFy Tryz.TQ.toX72 rfl)
  ·split at h
   ·cases h
   ·split at h
    ·split at h<;>cases h
    ·cases h
theorem aGw (aow:∀(G:bX) (H:Heap) (w:World),aZ (C g) id G H w->Lib.TabIs Tryz.prog w "internal/strconv.uint64pow10" .u64 Lib.pow10Tab)(pM:∀(G:bX) (H:Heap) (w:World),aZ (C g) id G H w->Lib.TabIs Tryz.prog w "strings.asciiSpace" .u8 Lib.asciiSpaceTab):dU (C g) id (H3 g):=by
 refine⟨fun i f h=> ?_,fun i sp h=> ?_,fun i sp h=> ?_⟩
 ·unfold H3 at h
  split at h
  ·cases h
  ·split at h
   ·rename_i fn im
    split at h
    ·rename_i a ao
     cases h;obtain⟨c,-,-,-,-,-,er⟩:=GV ao;exact⟨fn,im,by rw[er];exact ao⟩
    ·cases h
   ·cases h
 ·unfold H3 at h
  split at h
  ·rename_i s hs
   cases h;unfold ayf at hs;split at hs<;>first|(cases hs;done)|skip
   ·cases hs;exact afO pM
   ·cases hs;exact afM
  ·split at h
   ·split at h<;>cases h
   ·cases h
 ·unfold H3 at h
  split at h
  ·cases h
  ·split at h
   ·split at h<;>cases h
   ·cases h
def P5:Option bY->Bool
 |some (.code _)=>true
 | _=>false
theorem ZJ{o:Option bY}(h:P5 o=true):∃f,o=some (.code f):=by
 match o,h with
 |some (.code f),_=>exact⟨f,rfl⟩
theorem nr{aa:Nat->Option bY}{n i:Nat}{l:List (List V × V)}(hT:dU (A g) id aa)(hc:P5 (aa i)=true)(h:jf aa n i l):dU (A g) id (over aa i (je l)):=by
 obtain⟨f,ab⟩:=ZJ hc;exact De hT (GY avX avP hT ab h)
theorem aox (h:dU (A g) id (gf g)):dU (A g) id (sa g):=De h (mK.GY avX avP (Db avX avP h 120) Tryz.func183 (aDl g) (agf g))
theorem aoy (h:dU (A g) id (gf g)):dU (A g) id (Hg g):=nr (aox h) (by kernel_rfl) (aDZ g)
theorem aoz (h:dU (A g) id (gf g)):dU (A g) id (Hh g):=nr (aoy h) (by kernel_rfl) (aEk g)
theorem aoA (h:dU (A g) id (gf g)):dU (A g) id (Hi g):=nr (aoz h) (by kernel_rfl) (aEm g)
theorem aoB (h:dU (A g) id (gf g)):dU (A g) id (Dw g):=nr (aoA h) (by kernel_rfl) (aEo g)
theorem aoC (h:dU (A g) id (gf g)):dU (A g) id (Hj g):=nr (aoB h) (by kernel_rfl) (aEq g)
theorem aoD (h:dU (A g) id (gf g)):dU (A g) id (kb g):=nr (aoC h) (by kernel_rfl) (aEU g)
theorem aoE (h:dU (A g) id (gf g)):dU (A g) id (Hk g):=nr (aoD h) (by kernel_rfl) (aEW g)
theorem aoF (h:dU (A g) id (gf g)):dU (A g) id (Hl g):=nr (aoE h) (by kernel_rfl) (aEY g)
theorem aoG (h:dU (A g) id (gf g)):dU (A g) id (Hm g):=nr (aoF h) (by kernel_rfl) (aE0 g)
theorem aoH (h:dU (A g) id (gf g)):dU (A g) id (Hn g):=nr (aoG h) (by kernel_rfl) (aE2 g)
theorem aoI (h:dU (A g) id (gf g)):dU (A g) id (Ho g):=nr (aoH h) (by kernel_rfl) (aE4 g)
theorem aoJ (h:dU (A g) id (gf g)):dU (A g) id (Dx g):=nr (aoI h) (by kernel_rfl) (aE6 g)
theorem aoK (h:dU (A g) id (gf g)):dU (A g) id (Hp g):=nr (aoJ h) (by kernel_rfl) (aE8 g)
theorem ZK (h:dU (A g) id (gf g)):dU (A g) id (ML g):=nr (aoK h) (by kernel_rfl) (aqf g)
theorem aoL (h:dU (A g) id (gf g)):dU (A g) id (Hq g):=nr (ZK h) (by kernel_rfl) (aFa g)
theorem aoM (h:dU (A g) id (gf g)):dU (A g) id (Hr g):=nr (aoL h) (by kernel_rfl) (aFp g)
theorem aoN (h:dU (A g) id (gf g)):dU (A g) id (Hs g):=nr (aoM h) (by kernel_rfl) (aFr g)
theorem aoO (h:dU (A g) id (gf g)):dU (A g) id (MM g):=nr (aoN h) (by kernel_rfl) (aFu g)
theorem aGx (h:dU (A g) id (gf g)):dU (A g) id (axm g):=nr (aoO h) (by kernel_rfl) (aFw g)
theorem aoP (h:dU (A g) id (gf g)):og (C g) id 5 (Dd [] (.bool true)):=by
 obtain⟨f,ab⟩:=ZJ (show P5 (axm g 5)=true by kernel_rfl);refine og.turn (C:=A g) (D:=C g) rfl rfl (fun args v h=> ?_) (aeV avX avP (aGx h) ab rfl (ahi g));unfold Dd at h;split at h
 ·cases h;rfl
 ·cases h
end
end Go.Abs.hk
