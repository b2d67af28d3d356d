/- Texts of this claim, joined and written short by a program. -/
import Derived.Test.YtgkcikhegodchaaGreatDoorS31
import Derived.Test.YtgkcikhegodchaaGreatDoorS28
import Derived.Test.YtgkcikhegodchaaGreatDoorS29
import Derived.Test.YtgkcikhegodchaaGreatDoorS10
import Derived.Test.YtgkcikhegodchaaGreatDoorS08
import Derived.Test.YtgkcikhegodchaaGreatDoorS19
import Derived.Test.YtgkcikhegodchaaGreatDoorS20
import Derived.Test.YtgkcikhegodchaaGreatDoorS00
set_option linter.unusedVariables false
set_option linter.unusedSimpArgs false
set_option linter.unusedSectionVars false
namespace Go.Abs.bs
open Go Go.Abs Go.Abs.Lex
noncomputable section
theorem R7 (c:UInt8):FW (c.toNat:Int)=some (mE c):=by
 unfold FW mE;rw[show decide ((c.toNat:Int)>=97)=decide (97<=c.toNat)from decide_eq_decide.2 (by omega),show decide ((c.toNat:Int)<=122)=decide (c.toNat<=122)from decide_eq_decide.2 (by omega)]
theorem LK (c:UInt8):CN (c.toNat:Int)=some (jo c):=by
 unfold CN jo;rw[show decide ((c.toNat:Int)>=48)=decide (48<=c.toNat)from decide_eq_decide.2 (by omega),show decide ((c.toNat:Int)<=57)=decide (c.toNat<=57)from decide_eq_decide.2 (by omega)]
theorem oY (c:UInt8)(n:Nat):((c.toNat:Int)==(n:Int))=(c.toNat==n):=by
 rw[xb];simp;omega
theorem adB (c:UInt8):Kd (c.toNat:Int)=some (iV c):=by
 unfold Kd iV;rw[show((c.toNat:Int)==9)=(c.toNat==9)from oY c 9,show((c.toNat:Int)==10)=(c.toNat==10)from oY c 10,show((c.toNat:Int)==13)=(c.toNat==13)from oY c 13,show((c.toNat:Int)==32)=(c.toNat==32)from oY c 32];cases c.toNat==9<;>cases c.toNat==10<;>cases c.toNat==13<;>cases c.toNat==32<;>rfl
theorem yj{s:cf}{k:Nat}(h:k<s.length):decide ((k:Int)<(s.length:Int))=true:=by simp;exact h
theorem yk{s:cf}{k:Nat}(h:s.length<=k):decide ((k:Int)<(s.length:Int))=false:=by simp;exact h
theorem LL{s:cf}(hl:s.length<4611686018427387904)(p:UInt8->Bool){f:Int->Option (cU Int Int)}(ae:∀(k:Nat) c,s[k]? =some c->f k=some (bif p c then .next (aM (k+1))else .out k))(he:∀k:Nat,s.length<=k->f k=some (.out k)):
  ∀(n k:Nat),k+n=s.length->bZ f (k:Int)=some (((k+hJ p (s.drop k):Nat)):Int):=by
 intro n
 induction n with
 |zero=>
  intro k hk;rw[fK,he k (by omega),u1 (by omega)];rfl
 |succ n ih=>
  intro k hk;have aK:k<s.length:=by omega
  have hx:s[k]? =some s[k]:=by simp[aK]
  rw[fK,ae k _ hx,pK aK,zT];cases hp:p s[k]with
  |true=>
   simp only[cond_true,if_true];rw[eT (by omega),ih (k+1) (by omega)];congr 2;omega
  |false=>rfl
theorem atn{s:cf}(hl:s.length<4611686018427387904){k:Nat}(hk:k<=s.length):bZ (FU s) (k:Int)=some (((k+hJ (fun c=>c.toNat != 10) (s.drop k):Nat)):Int):=
 LL hl (fun c=>c.toNat != 10) (fun k c hx=>by
  have aK:=fM hx;simp only[FU,yj aK,cond_true,dV,hx,bm,bne];rw[show((c.toNat:Int)==10)=(c.toNat==10)from oY c 10];cases c.toNat==10<;>rfl) (fun k hk=>by simp only[FU,yk hk,cond_false,bm]) (s.length-k) k (by omega)
theorem ato{s:cf}(hl:s.length<4611686018427387904):∀(n k:Nat),k+n=s.length->bZ (CM s) (k:Int)=some (((k+hf false (s.drop k):Nat)):Int):=by
 intro n
 induction n using Nat.strongRecOn with
 |ind n ih=>
  intro k hk;rw[fK];rcases fV k s.length with aK|hge
  ·have hx:s[k]? =some s[k]:=by simp[aK]
   have nv:s.drop k=s[k]::s.drop (k+1):=pK aK
   have ae:CM s (k:Int)=bif iV s[k]||(s[k].toNat==35)then(bif s[k].toNat==35 then((bZ (FU s) (k:Int):Option Int).bind fun z8=>some (.next z8))else some (.next (aM ((k:Int)+1))))else some (.out (k:Int)):=by
    simp only[CM,yj aK,cond_true,dV,hx,bm,adB];rw[show((s[k].toNat:Int)==35)=(s[k].toNat==35)from oY s[k] 35];cases iV s[k]<;>cases s[k].toNat==35<;>rfl
   rw[ae,nv];cases oZ:s[k].toNat==35 with
   |true=>
    have uU:s[k].toNat=35:=by simpa using oZ
    have hw:iV s[k]=false:=by simp[iV,uU]
    rw[hw];simp only[Bool.or_true,cond_true];rw[atn hl (by omega),nv];simp only[bm];have aZ:(fun c:UInt8=>c.toNat != 10) s[k]=true:=by simp[uU]
    have hr:=JA (s[k]::s.drop (k+1))
    have h0:hf false (s[k]::s.drop (k+1))=hf true (s[k]::s.drop (k+1)):=by
     simp only[hf,hw,fE,if_false,uU,if_true];rfl
    rw[h0,hr];have hC:1<=hJ (fun c=>c.toNat != 10) (s[k]::s.drop (k+1)):=by rw[zT,if_pos aZ];omega
    have hle:hJ (fun c=>c.toNat != 10) (s[k]::s.drop (k+1))<=s.length-k:=by
     have:=xP (fun c=>c.toNat != 10) (s[k]::s.drop (k+1));rw[<-nv,qv]at this;rw[nv]at this;exact this
    generalize U:hJ (fun c=>c.toNat != 10) (s[k]::s.drop (k+1))=R at hC hle⊢;have R8:(s[k]::s.drop (k+1)).drop R=s.drop (k+R):=by rw[<-nv,tY]
    rw[R8,ih (s.length-(k+R)) (by omega) (k+R) (by omega)];congr 2;omega
   |false=>
    have n35:¬s[k].toNat=35:=by simpa using oZ
    cases hw:iV s[k]with
    |true=>
     simp only[Bool.or_false,cond_true,cond_false];rw[eT (by omega),ih (s.length-(k+1)) (by omega) (k+1) (by omega)];simp only[hf,hw,if_true];congr 2;omega
    |false=>
     simp only[Bool.or_false,cond_false,hf,hw,fE,if_false,n35];rfl
  ·have e:CM s (k:Int)=some (.out (k:Int)):=by simp only[CM,yk hge,cond_false,bm]
   rw[e,u1 hge];rfl
theorem atp{s:cf}(hl:s.length<4611686018427387904){k:Nat}(hk:k<=s.length):Ke s (k:Int)=some ((dz s k:Nat):Int):=by
 unfold Ke;rw[ato hl (s.length-k) k (by omega)];rfl
theorem atq:∀w∈syms,1<=w.length/\w.length<=2:=by decide
theorem atr:P3=some (ad.mk syms):=by unfold P3;rfl
theorem LM{s:cf}{a c:Nat}(h1:a<=c)(h2:c<=s.length):ql s (a:Int) (c:Int)=some ((s.take c).drop a):=by
 unfold ql;rw[if_pos (by omega)];simp
theorem adC{s:cf}(hl:s.length<4611686018427387904){k:Nat}(hk:k<=s.length):Kg s (k:Int)=some ((sym (s.drop k):Nat):Int):=by
 unfold Kg;rw[atr];simp only[bm];have dY:(ad.mk syms).l=syms:=rfl
 rw[RF (f:=FX s (k:Int) (ad.mk syms)) (fun j (_:Unit) st=>st=(j:Int)/\j<=18) (fun _ _ w=>bif pre (s.drop k) w then(.inr (.ret (w.length:Int)):Sum Unit (cz Unit Int))else .inl ()) (fun _=>.go ()) syms (fun j _ w st hx U=>by
  obtain⟨rfl,hj⟩:=U;have aK:=fM hx;have hw:=atq w (gV hx);have aBd:syms.length=18:=rfl;have hd:decide ((j:Int)<(ad.mk syms).len)=true:=gF aK;have ats:aM ((k:Int)+(w.length:Int))=((k+w.length:Nat):Int):=by rw[eY (by omega) (by omega)];omega
  have ae:FX s (k:Int) (ad.mk syms) (j:Int)=bif pre (s.drop k) w then some (.out (.ret (w.length:Int)))else some (.next (aM ((j:Int)+1))):=by
   simp only[FX,hd,cond_true,dV,dY,hx,bm,ats];rw[<-anl hk];by_cases hle:k+w.length<=s.length
   ·have d1:decide (((k+w.length:Nat):Int)<=(s.length:Int))=true:=by simp;omega
    have d2:decide (k+w.length<=s.length)=true:=by simpa using hle
    rw[d1,d2];simp only[cond_true,LM (show k<=k+w.length by omega) hle,bm,fF]
   ·have d1:decide (((k+w.length:Nat):Int)<=(s.length:Int))=false:=by simp;omega
    have d2:decide (k+w.length<=s.length)=false:=by simpa using hle
    rw[d1,d2];rfl
  rw[ae];cases pre (s.drop k) w with
  |true=>rfl
  |false=>exact⟨_,rfl,eT (by omega),by omega⟩) (fun _ st U=>by
  obtain⟨rfl,-⟩:=U;have hd:decide ((syms.length:Int)<(ad.mk syms).len)=false:=hv;simp only[FX,hd,cond_false]) (a:=()) (s:=0) ⟨rfl,by omega⟩]
 have cc:∀(l:List (List UInt8)) (j:Nat),(match jL (fun _ (_:Unit) w=>bif pre (s.drop k) w then(.inr (.ret ((w.length:Nat):Int)):Sum Unit (cz Unit Int))else .inl ()) (fun _=>.go ()) j () l with| .go _=>(0:Int)| .ret p=>p)=((wo (s.drop k) l:Nat):Int):=by
  intro l
  induction l with
  |nil=>intro j;rfl
  |cons w ws ih=>
   intro j;simp only[jL,wo];cases pre (s.drop k) w with
   |true=>rfl
   |false=>exact ih (j+1)
 have:=cc syms 0;rw[ank]at this;rw[<-this];simp only[bm];cases jL (fun _ (_:Unit) w=>bif pre (s.drop k) w then(.inr (.ret ((w.length:Nat):Int)):Sum Unit (cz Unit Int))else .inl ()) (fun _=>.go ()) 0 () syms<;>rfl
theorem att:P2=some (ad.mk kw):=by
 unfold P2;exact congrArg (fun l=>some (ad.mk l)) (show _=kw by kernel_rfl)
theorem R9:∀(b:Bool) (s:List UInt8) (c:UInt8) (r:List UInt8),s.drop (hf b s)=c::r->b=false->iV c=false/\c.toNat≠35
 | _,[],c,r,h,_=>by simp at h
 |true,_,_,_,_,h=>by cases h
 |false,x::s,c,r,h,_=>by
  simp only[hf]at h;split at h
  ·rw[SY]at h
   exact R9 false s c r h rfl
  ·rename_i hw
   split at h
   ·rename_i oZ
    rw[JA,SY,<-tY]at h;have:=R9 false (s.drop (hJ (fun c=>c.toNat != 10) s)) c r h rfl;exact this
   ·rename_i oZ
    simp only[HT,xa]at h;obtain⟨rfl,-⟩:=h;exact⟨by simpa using hw,oZ⟩
 termination_by _ s=>s.length
 decreasing_by all_goals simp_wf<;>first|omega|(have:=xP (fun c=>c.toNat != 10) s;omega)
end
end Go.Abs.bs
namespace Go.Abs.bs
open Go Go.Abs Go.Abs.Lex
noncomputable section
theorem Sa (c:UInt8):zV (c.toNat:Int)=some (mE c):=by
 unfold zV mE;rw[show decide ((c.toNat:Int)>=97)=decide (97<=c.toNat)from decide_eq_decide.2 (by omega),show decide ((c.toNat:Int)<=122)=decide (c.toNat<=122)from decide_eq_decide.2 (by omega)]
theorem Sb (c:UInt8):zW (c.toNat:Int)=some (jo c):=by
 unfold zW jo;rw[show decide ((c.toNat:Int)>=48)=decide (48<=c.toNat)from decide_eq_decide.2 (by omega),show decide ((c.toNat:Int)<=57)=decide (c.toNat<=57)from decide_eq_decide.2 (by omega)]
theorem atu (c:UInt8):Ft (c.toNat:Int)=some (l1 c):=by
 unfold Ft l1;rw[Sa,Sb,show((c.toNat:Int)==95)=(c.toNat==95)from oY c 95];cases mE c<;>cases jo c<;>rfl
theorem adD (c:UInt8):CA (c.toNat:Int)=some (iV c):=by
 unfold CA iV;rw[show((c.toNat:Int)==9)=(c.toNat==9)from oY c 9,show((c.toNat:Int)==10)=(c.toNat==10)from oY c 10,show((c.toNat:Int)==13)=(c.toNat==13)from oY c 13,show((c.toNat:Int)==32)=(c.toNat==32)from oY c 32];cases c.toNat==9<;>cases c.toNat==10<;>cases c.toNat==13<;>cases c.toNat==32<;>rfl
theorem atv (c:UInt8):CB (c.toNat:Int)=some (c.toNat != 10):=by
 unfold CB bne;rw[show((c.toNat:Int)==10)=(c.toNat==10)from oY c 10]
theorem adE (s:cf)(hl:s.length<4611686018427387904){f:Int->Option Bool}{p:UInt8->Bool}(ae:∀c:UInt8,f (c.toNat:Int)=some (p c)):Cz s f=some ((hJ p s:Nat):Int):=by
 unfold Cz
 have h:=LL (s:=s) hl p (f:=Fp s f) (fun k c hx=>by
  have aK:=fM hx;simp only[Fp,yj aK,cond_true,dV,hx,bm,ae];cases p c<;>rfl) (fun k hk=>by simp only[Fp,yk hk,cond_false,bm]) s.length 0 (by omega)
 rw[show bZ (Fp s f) 0=_ from h];simp
theorem atw (s:cf)(hl:s.length<4611686018427387904):Fs s=some ((hf false s:Nat):Int):=by
 have key:∀(n k:Nat),k+n=s.length->∃o:cz Int Int,bZ (CC s) (k:Int)=some o/\(match o with| .go p=>p| .ret p=>p)=((k+hf false (s.drop k):Nat):Int):=by
  intro n
  induction n using Nat.strongRecOn with
  |ind n ih=>
   intro k hk;rw[fK];rcases fV k s.length with aK|hge
   ·have hx:s[k]? =some s[k]:=by simp[aK]
    have nv:s.drop k=s[k]::s.drop (k+1):=pK aK;have zt:ql s (k:Int) (s.length:Int)=some (s.drop k):=by rw[LM (by omega) (aF _),DJ]
    have ae:CC s (k:Int)=bif iV s[k]then some (.next (aM ((k:Int)+1)))else(bif s[k].toNat==35 then some (.next (aM ((k:Int)+(hJ (fun c=>c.toNat != 10) (s.drop k):Nat))))else some (.out (.ret (k:Int)))):=by
     simp only[CC,yj aK,cond_true,dV,hx,bm,adD,zt,adE (s.drop k) (by rw[qv];omega) atv];rw[show((s[k].toNat:Int)==35)=(s[k].toNat==35)from oY s[k] 35]
    rw[ae,nv];cases hw:iV s[k]with
    |true=>
     simp only[cond_true];rw[eT (by omega)];obtain⟨o,h1,h2⟩:=ih (s.length-(k+1)) (by omega) (k+1) (by omega);refine⟨o,h1,?_⟩;rw[h2];simp only[hf,hw,if_true];congr 1;omega
    |false=>
     cases oZ:s[k].toNat==35 with
     |true=>
      have uU:s[k].toNat=35:=by simpa using oZ
      have aZ:(fun c:UInt8=>c.toNat != 10) s[k]=true:=by simp[uU]
      have hr:=JA (s[k]::s.drop (k+1))
      have h0:hf false (s[k]::s.drop (k+1))=hf true (s[k]::s.drop (k+1)):=by
       simp only[hf,hw,fE,if_false,uU,if_true];rfl
      have hC:1<=hJ (fun c=>c.toNat != 10) (s[k]::s.drop (k+1)):=by rw[zT,if_pos aZ];omega
      have hle:hJ (fun c=>c.toNat != 10) (s[k]::s.drop (k+1))<=s.length-k:=by
       have:=xP (fun c=>c.toNat != 10) (s[k]::s.drop (k+1));rw[<-nv,qv]at this;rw[nv]at this;exact this
      rw[h0,hr];generalize U:hJ (fun c=>c.toNat != 10) (s[k]::s.drop (k+1))=R at hC hle⊢;have R8:(s[k]::s.drop (k+1)).drop R=s.drop (k+R):=by rw[<-nv,tY]
      simp only[cond_true,cond_false];rw[R8,eY (by omega) (by omega)];obtain⟨o,h1,h2⟩:=ih (s.length-(k+R)) (by omega) (k+R) (by omega);refine⟨o,by rw[show(k:Int)+(R:Int)=((k+R:Nat):Int) by omega];exact h1,?_⟩;rw[h2];congr 1;omega
     |false=>
      have n35:¬s[k].toNat=35:=by simpa using oZ
      refine⟨.ret (k:Int),rfl,?_⟩;simp only[hf,hw,fE,if_false,n35];simp
   ·refine⟨.go (k:Int),by simp only[CC,yk hge,cond_false],?_⟩
    rw[u1 hge];simp[hf]
 obtain⟨o,h1,h2⟩:=key s.length 0 (by omega);unfold Fs;rw[show bZ (CC s) 0=_ from h1];simp only[dP,HT]at h2;cases o<;>simp_all
theorem atx (s w:cf):JE s w=some (pre s w):=by
 unfold JE PC pre;by_cases h:w.length<=s.length
 ·have d:decide ((s.length:Int)>=(w.length:Int))=true:=by simp;exact h
  have hs:ql s 0 (w.length:Int)=some (s.take w.length):=by
   have:=LM (s:=s) (a:=0) (c:=w.length) (cD _) h;simpa using this
  rw[d,hs];rfl
 ·have d:decide ((s.length:Int)>=(w.length:Int))=false:=by simp;omega
  have e:(s.take w.length==w)=false:=by
   rw[HE (by omega),Mm];intro fY;have:=congrArg List.length (eq_of_beq fY);omega
  rw[d,e];rfl
theorem adF (s:cf):Cy s=some ((sym s:Nat):Int):=by
 unfold Cy;have hl:(ad.mk two).l=two:=rfl
 rw[show bZ (Fm s) 0=some (bif two.any (pre s)then .ret ()else .go ())from rp (f:=Fm s) two (by decide) (pre s) (fun k x hx=>by
  have hd:decide ((k:Int)<(ad.mk [[61,61],[33,61],[60,61],[62,61],[46,46]]).len)=true:=gF (show k<two.length from fM hx);have a6:([[61,61],[33,61],[60,61],[62,61],[46,46]]:List cf)[k]? =some x:=hx;simp only[Fm,hd,cond_true,ad.l,dV,a6,bm,atx];cases pre s x<;>rfl) (by
  have hd:decide ((two.length:Int)<(ad.mk [[61,61],[33,61],[60,61],[62,61],[46,46]]).len)=false:=by decide
  simp only[Fm,hd,cond_false])]
 unfold sym;cases h:two.any (pre s)with
 |true=>rfl
 |false=>
  simp only[cond_false,bm,fE,if_false];cases s with
  |nil=>rfl
  |cons c r=>
   have aZ:((c::r) != ([]:cf))=true:=rfl;have hi:bj (c::r) 0=some c:=rfl;have hu:UInt8.ofNat ((c.toNat:Int)).toNat=c:=by simp
   rw[aZ,hi];simp only[cond_true,bm,strings_IndexByte,hu];rw[show decide (Lib.indexByte [60,62,61,43,45,42,40,41,123,125,44,58,59] c>=0)=Lex.one.contains c from anh Lex.one c];cases Lex.one.contains c<;>rfl
theorem aty (c:UInt8)(r:cf):Fo (c::r)=some (oO (c::r)):=by
 unfold Fo oO;have hi:bj (c::r) 0=some c:=rfl;rw[hi];simp only[bm,Sa,Sb,adF];have hd:decide (((sym (c::r):Nat):Int)>0)=decide (0<sym (c::r)):=decide_eq_decide.2 (by omega);rw[hd];cases mE c<;>cases jo c<;>rfl
end
end Go.Abs.bs
namespace Go.Abs.bs
open Go Go.Abs Go.Abs.Lex
noncomputable section
variable{aa:Nat->Option bV}
section
variable{call:cP}{ag:ai->V}{H:Heap}{low:Nat}
theorem tP (x:ai):b3 call ag H low (.len 0 x)=match ag x with
  | .str s=>some (.int .i64 s.length,H,low)
  | _=>none:=by
 show step ag H low (.len 0 x)=_;cases hx:ag x<;>simp[step,hx]
theorem wZ (x i:ai):b3 call ag H low (.rG x i)=match ag x,ku (ag i)with
 | .str s,some i=>(s[i]?).map fun c=>(.int .u8 c.toNat,H,low)
 | _,_=>none:=rfl
theorem Dn (x:ai)(lo hi:Option ai):b3 call ag H low (.qB x lo hi)=match ag x with
 | .str s=>match e1 ag 0 lo,e1 ag s.length hi with
   |some a,some b=>if a<=b/\b<=s.length then some (.str ((s.take b).drop a),H,low)else none
   | _,_=>none
 | _=>none:=rfl
end
structure oj (aa:Nat->Option bV):Prop where
 letter:acn aa
 digit:aco aa
 part:acp aa
 atz:acq aa
 Dd:acr aa
 symbol:acs aa
 run:acu aa
 skip:acv aa
 nl:acw aa
 atA:aa 242=some (.code acz)
 atB:aa 243=some (.code acA)
 atC:aa 140=some (.code acx)
 atD:aa 138=some (.code GP)
 atE:∃sp,aa 368=some (.ext sp)/\sp [.str JB]=some (.list 1 (kw.map .str))
def aG (aa:Nat->Option bV)(f:V)(args:List V)(H:Heap)(v:V):Prop:=bY aa f args H=some (v,H,H.length)
def bv (c:UInt8):V:=.int .u8 c.toNat
theorem atF (T:oj aa)(c:UInt8)(H:Heap):aG aa (.fn 245 [] []) [bv c] H (.bool (mE c)):=T.letter H _ _ (Sa c)
theorem adG (T:oj aa)(c:UInt8)(H:Heap):aG aa (.fn 248 [] []) [bv c] H (.bool (jo c)):=T.digit H _ _ (Sb c)
theorem atG (T:oj aa)(c:UInt8)(H:Heap):aG aa (.fn 247 [] []) [bv c] H (.bool (l1 c)):=T.part H _ _ (atu c)
theorem atH (T:oj aa)(c:UInt8)(H:Heap):aG aa (.fn 250 [] []) [bv c] H (.bool (iV c)):=T.atz H _ _ (adD c)
theorem atI (T:oj aa)(c:UInt8)(r:List UInt8)(H:Heap):aG aa (.fn 251 [] []) [.str (c::r)] H (.bool (oO (c::r))):=T.Dd H _ _ (aty c r)
theorem atJ (T:oj aa)(s:List UInt8)(H:Heap):aG aa (.fn 249 [] []) [.str s] H (.int .i64 (sym s)):=T.symbol H _ _ (adF s)
theorem atK (T:oj aa){s:List UInt8}{H:Heap}(hl:s.length<4611686018427387904):aG aa (.fn 244 [] []) [.str s] H (.int .i64 (hf false s)):=T.skip H _ _ (atw s hl)
theorem adH (T:oj aa){s:List UInt8}{p:UInt8->Bool}{i:Nat}{H:Heap}(hl:s.length<4611686018427387904)(ae:∀(c:UInt8) H,aG aa (.fn i [] []) [bv c] H (.bool (p c))):
  aG aa (.fn 246 [] []) [.str s,.fn i [] []] H (.int .i64 (hJ p s)):=
 T.run H [] (Own.nil H) s (fun n=>if 0<=n/\n<256 then some (p (UInt8.ofNat n.toNat))else none) (.fn i [] []) (fun H low=>by simp[fN,dQ,bx,cg]) (fun H' z q _ aO=>by
   split at aO
   ·rename_i h
    cases aO;have:=ae (UInt8.ofNat z.toNat) H';unfold aG bv at this
    have e:((UInt8.ofNat z.toNat).toNat:Int)=z:=by
     rw[UInt8.toNat_ofNat'];omega
    rw[e]at this;exact this
   ·cases aO) _ (adE s hl fun c=>by
   have h1:c.toNat<256:=c.toNat_lt;rw[if_pos ⟨by omega,by omega⟩];simp)
def A3 (l:List (List UInt8))(k:Nat):List (V × V):=(l.take k).foldl (fun e s=>kU 1 (.str s) (.bool true) e) []
def w0:List (V × V):=kw.map fun s=>(V.str s,V.bool true)
theorem atL:A3 kw 35=w0:=by kernel_rfl
theorem atM (T:oj aa)(H:Heap):bY aa (.fn 368 [] []) [.str JB] H=some (.list 1 (kw.map .str),H,H.length):=by
 obtain⟨sp,h1,h2⟩:=T.atE;rw[ou,h1];simp[h2,cg,bx]
def strKeys (es:List (V × V)):Prop:=∀p∈es,∃t,p.1=V.str t
theorem atN{es:List (V × V)}(h:strKeys es)(s:List UInt8)(v:V):strKeys (kU 1 (.str s) v es):=by
 induction es with
 |nil=>intro p hp;simp[kU]at hp;exact⟨s,by rw[hp]⟩
 |cons q es ih=>
  obtain⟨t,ht⟩:=h q (by simp);obtain⟨a,b⟩:=q;simp only at ht;subst ht;simp only[kU,ix];split
  ·intro p hp
   rcases dp.1 hp with rfl|hp
   ·exact⟨s,rfl⟩
   ·exact h p (by simp[hp])
  ·intro p hp
   rcases dp.1 hp with rfl|hp
   ·exact⟨t,rfl⟩
   ·exact ih (fun p hp=>h p (by simp[hp])) p hp
theorem atO{es:List (V × V)}(h:strKeys es)(s:List UInt8):∃o,hK 1 (.str s) es=some o:=by
 induction es with
 |nil=>exact⟨none,rfl⟩
 |cons q es ih=>
  obtain⟨t,ht⟩:=h q (by simp);obtain⟨a,b⟩:=q;simp only at ht;subst ht;obtain⟨o,ho⟩:=ih (fun p hp=>h p (by simp[hp]));simp only[hK,ix];cases(s==t)with
  |true=>exact⟨some b,rfl⟩
  |false=>exact⟨o,ho⟩
theorem atP (l:List (List UInt8))(k:Nat):strKeys (A3 l k):=by
 unfold A3;generalize l.take k=m
 have:∀(m:List (List UInt8)) e,strKeys e->strKeys (m.foldl (fun e s=>kU 1 (.str s) (.bool true) e) e):=by
  intro m
  induction m with
  |nil=>intro e h;exact h
  |cons a m ih=>intro e h;exact ih _ (atN h _ _)
 exact this m [] (fun p hp=>by cases hp)
theorem atQ{l:List (List UInt8)}{k:Nat}{s:List UInt8}(h:l[k]? =some s):A3 l (k+1)=kU 1 (.str s) (.bool true) (A3 l k):=by
 unfold A3;rw[Bi,h];simp
theorem atS (s:List UInt8):hK 1 (.str s) w0=some (if kw.contains s then some (.bool true)else none):=by
 unfold w0;generalize kw=l
 induction l with
 |nil=>rfl
 |cons a l ih=>
  simp only[de,hK,ix,List.contains_cons];cases aBe:(s==a)with
  |true=>rfl
  |false=>simp[ih]
theorem Hn{H:Heap}{p:Nat}{o:bU}(h:H[p]? =some o)(t:Heap):(H++t)[p]? =some o:=by
 have hp:p<H.length:=by
  rcases fV p H.length with h1|h1
  ·exact h1
  ·rw[nA h1]at h;cases h
 rw[fB hp,h]
set_option maxHeartbeats 1000000 in
theorem atT (T:oj aa)(H:Heap):bY aa (.fn 242 [] []) [] H=some (.map H.length,H++[.map w0],H.length):=by
 have key:=Wb (aa:=aa) (b:=8) (n:=6) (i:=7) (t:=13) (blk:=1) (ex:=0) (body:=Rm)
  (I:=fun k st=>st.H=H++[.map (A3 kw k)]/\st.low=H.length/\bA st.au 1=.map H.length/\bA st.au 5=.list 1 (kw.map .str)/\bA st.au 7=.int .i64 k/\bA st.au 6=.int .i64 (35:Nat))
  (Q:=fun x st=>st.H=H++[.map w0]/\st.low=H.length/\x=.exit 0/\bA st.au 1=.map H.length)
  (N:=35) (by decide) (by decide) (by decide)
  (fun k st h=>⟨h.2.2.2.2.1,h.2.2.2.2.2,by rw[h.1,h.2.1];simp⟩)
  (by
    rintro k st hk ⟨h1,h2,ar,aR,h5,eo⟩;obtain⟨w,hn⟩:∃w,kw[k]? =some w:=⟨_,gq (by rw[Pw];exact hk)⟩;have dY:zF 1 (V.list 1 (kw.map .str))=true:=rfl;have a6:(el (V.list 1 (kw.map .str)))[k]? =some (.str w):=by simp[el,hn]
    have adI:aE (V.str w)=[V.str w]:=rfl;obtain⟨o,ho⟩:=atO (atP kw k) w;refine⟨.normal,_,by simp[Rm,iP,fW,iy,kW,mg,nD,nE,qF,nF,cY,gu,qU,pt,nf,qh,qi,ng,sa,qV,nY,r9,vZ,ai.ag,bA,gh,av.put,eg,pS,pR,eV,fN,dQ,bx,cg,gH,ke,finish,old,olds,flat,lD,sH,jR,iw,aE,S.R,S.q,S.k,S.rt,S.jF,S.cX,S.e,S.r,S.o,S.n,S.rg,S.m,S.ch,S.ls,S.dZ,S.eq,S.ne,S.lt,S.gt,S.c4,S.no,S.j3,S.st,S.jX,S.ic,S.lE,S.ex,S.c,S.cs,S.kk,S.k8,S.z,S.fn,S.kg,h1,h2,ar,aR,h5,eo,ajI,dY,a6,O6,step,ho,uc,-List.getElem?_map];rfl,?_⟩;simp only[true_or,if_true,gh,h1,h2];refine⟨by simp[h5],by simp,by simp[atQ hn],by simp,by simp[ar],by simp[aR],by simp,by simp[eo]⟩)
  (by
    rintro st ⟨h1,h2,ar,aR,h5,eo⟩;exact⟨by rw[h1,atL],h2,rfl,by simp[gh,ar]⟩)
 obtain⟨x,aV,h1,h2,ar,rfl,aR⟩:=key 35 0 {aC:=[],au:=[(0,.jt),(1,.map H.length),(5,.list 1 (kw.map .str)),(6,.int .i64 35),(7,.int .i64 0)],H:=H++[.map []],low:=H.length} (by omega)
  ⟨rfl,rfl,rfl,rfl,rfl,rfl⟩
 have hx:=atM T (H++[.map []]);simp only[JB]at hx;have hlen:(el (V.list 1 (kw.map .str))).length=35:=by simp[el,Pw]
 have dY:zF 1 (V.list 1 (kw.map .str))=true:=rfl;rw[ou,T.atA];simp[acz,iP,fW,iy,kW,mg,nD,nE,qF,nF,cY,gu,qU,pt,nf,qh,qi,ng,sa,qV,nY,r9,vZ,ai.ag,bA,dw,av.put,eg,pS,pR,eV,fN,dQ,bx,cg,gH,ke,finish,old,olds,flat,lD,sH,jR,iw,aE,S.R,S.q,S.k,S.rt,S.jF,S.cX,S.e,S.r,S.o,S.n,S.rg,S.m,S.ch,S.ls,S.dZ,S.eq,S.ne,S.lt,S.gt,S.c4,S.no,S.j3,S.st,S.jX,S.ic,S.lE,S.ex,S.c,S.cs,S.kk,S.k8,S.z,S.fn,S.kg,O4,Wa 1,dY,hlen,hx,h1,h2,ar,aR,gh,ei]
set_option maxHeartbeats 1000000 in
theorem atU (T:oj aa)(s:List UInt8)(H:Heap):bY aa (.fn 140 [] []) [.str s] H=some (.fn 243 [] [.ptr H.length 0,.ptr (H.length+2) 0],H++[.cells [.str s],.map w0,.cells [.map (H.length+1)]],H.length):=by
 have hk:=atT T (H++[.cells [.str s]]);simp only[fD,fl,mQ,dP,kr,lN,iM]at hk;rw[ou,T.atC];simp[acx,iP,fW,iy,kW,mg,nD,nE,qF,nF,cY,gu,qU,pt,nf,qh,qi,ng,sa,qV,nY,r9,vZ,ai.ag,bA,dw,av.put,eg,pS,pR,eV,fN,dQ,bx,cg,gH,ke,finish,old,olds,flat,lD,sH,jR,iw,aE,S.R,S.q,S.k,S.rt,S.jF,S.cX,S.e,S.r,S.o,S.n,S.rg,S.m,S.ch,S.ls,S.dZ,S.eq,S.ne,S.lt,S.gt,S.c4,S.no,S.j3,S.st,S.jX,S.ic,S.lE,S.ex,S.c,S.cs,S.kk,S.k8,S.z,S.fn,S.kg,O3,bM,ez,hk,lW,jw,setCells,ei]
end
end Go.Abs.bs
namespace Go.Abs.bs
open Go Go.Abs Go.Abs.Lex
noncomputable section
variable{aa:Nat->Option bV}
attribute [local simp] iP fW iy kW mg nD nE qF nF cY gu qU pt nf qh qi ng sa qV nY r9 vZ ai.ag bA gh av.put eg pS pR eV fN dQ bx cg gH ke finish old olds flat lD sH jR iw aE S.R S.q S.k S.rt S.jF S.cX S.e S.r S.o S.n S.rg S.m S.ch S.ls S.dZ S.eq S.ne S.lt S.gt S.c4 S.no S.j3 S.st S.jX S.ic S.lE S.ex S.c S.cs S.kk S.k8 S.z S.fn S.kg
set_option maxHeartbeats 1000000 in
theorem adJ (T:oj aa){s:List UInt8}{H:Heap}{lo:Nat}(hl:s.length<4611686018427387904)(fX:min lo H.length=lo):
  ∀(r:List UInt8) (k:Nat) (st:av),s.drop k=r->k<=s.length->st.H=H->st.low=lo->bA st.au 6=.str s->bA st.au 7=.int .i64 k->
   ∃aV,dq aa (.loop ya) st=some (.exit 3,aV)/\aV.H=H/\aV.low=lo/\bA aV.au 7=.int .i64 ((k+l2 r:Nat):Int)/\∀t,t<7->bA aV.au t=bA st.au t
 |[],k,st,hr,hk,h1,h2,eo,lC=>by
  have hle:=drop_nil hr;have hn:¬(k:Int)<(s.length:Int):=by omega
  rw[sN];refine⟨_,by simp[ya,tP,h1,h2,eo,lC,hn,fX];rfl,?_⟩;simp only[gh,h1,h2,l2];exact⟨by simp,by first|(simp[fX,mr];done)|(simp[fX];done)|(simp;omega)|omega,by simp[lC],fun t ht=>by simp[show t≠44 by omega]⟩
 |c::r,k,st,hr,hk,h1,h2,eo,lC=>by
  obtain⟨g1,g2,g3⟩:=drop_cons hr;have hn:(k:Int)<(s.length:Int):=by omega
  have hc:=atH T c H;have adK:=atI T c r H;unfold aG bv at hc;unfold aG at adK;have hb:bY aa (.fn 251 [] []) [V.str (s.drop k)] H=some (.bool (oO (c::r)),H,H.length):=by rw[hr];exact adK
  have a6:∀h:k<s.length,s[k]'h=c:=fun h=>by rw[gq h]at g1;exact u3 g1
  have s7:k<=s.length:=by omega
  have hw:IntKind.i64.wrap ((k:Int)+1)=((k+1:Nat):Int):=by rw[wrap_small]<;>omega
  have uU:((c.toNat:Int) != 35)=!(c.toNat==35):=by simp only[bne,show((c.toNat:Int)==35)=(c.toNat==35)from oY c 35]
  by_cases Dp:(iV c||c.toNat==35||oO (c::r))=true
  ·have aO:l2 (c::r)=0:=by simp only[l2,Dp,if_true]
   rw[sN,aO];cases hW:iV c with
   |true=>
    rw[hW]at hc;refine⟨_,by simp[ya,tP,wZ,h1,h2,eo,lC,hn,a6,g3,hc,fX];rfl,?_⟩;simp only[gh,h1,h2];exact⟨by simp,by first|(simp[fX,mr];done)|(simp[fX];done)|(simp;omega)|omega,by simp[lC],fun t ht=>by simp[show t≠44 by omega]⟩
   |false=>
    rw[hW]at hc;cases oZ:(c.toNat==35)with
    |true=>
     refine⟨_,by simp[ya,tP,wZ,h1,h2,eo,lC,hn,a6,g3,hc,uU,oZ,fX];rfl,?_⟩;simp only[gh,h1,h2];exact⟨by simp,by first|(simp[fX,mr];done)|(simp[fX];done)|(simp;omega)|omega,by simp[lC],fun t ht=>by simp[show t≠44 by omega]⟩
    |false=>
     have adL:oO (c::r)=true:=by simpa[hW,oZ]using Dp
     rw[adL]at hb;refine⟨_,by simp[ya,tP,wZ,Dn,e1,s7,h1,h2,eo,lC,hn,a6,g3,hc,hb,uU,oZ,fX];rfl,?_⟩;simp only[gh,h1,h2];exact⟨by simp,by first|(simp[fX,mr];done)|(simp[fX];done)|(simp;omega)|omega,by simp[lC],fun t ht=>by simp[show t≠44 by omega]⟩
  ·have aO:l2 (c::r)=l2 r+1:=by simp only[l2,Dp,if_false];simp
   have hW:iV c=false:=by cases h:iV c<;>simp[h]at Dp⊢
   have oZ:(c.toNat==35)=false:=by cases h:(c.toNat==35)<;>simp[h]at Dp⊢
   have atV:oO (c::r)=false:=by cases h:oO (c::r)<;>simp[h]at Dp⊢
   rw[hW]at hc;rw[atV]at hb
   have wV:∃st1,dq aa ya st=some (.normal,st1)/\st1.H=H/\st1.low=lo/\bA st1.au 7=.int .i64 ((k+1:Nat):Int)/\∀t,t<7->bA st1.au t=bA st.au t:=by
    refine⟨_,by simp[ya,tP,wZ,Dn,e1,s7,h1,h2,eo,lC,hn,a6,g3,hc,hb,uU,oZ,fX,hw];rfl,?_⟩;simp only[gh,h1,h2];exact⟨by simp,by first|(simp[fX,mr];done)|(simp[fX];done)|(simp;omega)|omega,by simp,fun t ht=>by simp[show t≠44 by omega,show t≠7 by omega]⟩
   obtain⟨st1,q1,q2,cd,c2,fi⟩:=wV;obtain⟨aV,bB,b4,eI,gM,jj⟩:=adJ T hl fX r (k+1) st1 g2 (by omega) q2 cd (by rw[fi 6 (by decide)];exact eo) c2;refine⟨aV,by rw[sN,q1];exact bB,b4,eI,?_,fun t ht=>(jj t ht).trans (fi t ht)⟩;rw[gM,aO];simp;omega
set_option maxHeartbeats 2000000 in
theorem atW (T:oj aa){s:List UInt8}{H:Heap}{lo p2 m:Nat}{a b:Int}(hl:s.length<4611686018427387904)(iQ:lo<=H.length)(g2:H[p2]? =some (.cells [.map m]))(LN:H[m]? =some (.map w0))
  {st:av} (h1:st.H=H++[.cells [.int .i64 0,.int .i64 a,.int .i64 b,.int .i64 0]]) (h2:st.low=lo) (kX:bA st.au 2=.ptr p2 0) (A4:bA st.au 5=.ptr H.length 0) (yl:bA st.au 6=.str s) (sA:bA st.au 7=.int .i64 0):
  ∃aV,dq aa wQ st=some (.normal,aV)/\aV.H=H++[.cells [.int .i64 (iW s),.int .i64 a,.int .i64 b,.int .i64 0]]/\aV.low=lo/\bA aV.au 7=.int .i64 (lg s)/\∀t,t<7->bA aV.au t=bA st.au t:=by
 have fX:min lo H.length=lo:=qx iQ;have mr:min lo (H.length+1)=lo:=qx (by omega);have Sc:=fun t=>Hn g2 t;have Sd:=fun t=>Hn LN t;cases s with
 |nil=>
  refine⟨_,by simp[wQ,h1,h2,kX,A4,yl,sA,fX,mr];rfl,?_⟩;simp only[gh,h1,h2,iW,lg];exact⟨by simp,by first|(simp[fX,mr];done)|(simp[fX];done)|(simp;omega)|omega,by simp[sA],fun t ht=>by simp[show t≠47 by omega]⟩
 |cons c r=>
  have aZ:((c::r)==[])=false:=rfl;have ee:=atF T c (H++[.cells [.int .i64 0,.int .i64 a,.int .i64 b,.int .i64 0]]);have n2:=adG T c (H++[.cells [.int .i64 0,.int .i64 a,.int .i64 b,.int .i64 0]]);have az:=atJ T (c::r) (H++[.cells [.int .i64 0,.int .i64 a,.int .i64 b,.int .i64 0]]);have LO:=adH T (s:=c::r) (p:=l1) (i:=247) (H:=H++[.cells [.int .i64 0,.int .i64 a,.int .i64 b,.int .i64 0]]) hl (fun c H=>atG T c H);have Se:=adH T (s:=c::r) (p:=jo) (i:=248) (H:=H++[.cells [.int .i64 0,.int .i64 a,.int .i64 b,.int .i64 0]]) hl (fun c H=>adG T c H);unfold aG bv at ee n2;unfold aG at az LO Se;simp only[fD,fl,mQ,dP]at ee n2 az LO Se;have p7:=xP l1 (c::r);have LP:=atS ((c::r).take (hJ l1 (c::r)));cases al:mE c with
  |true=>
   rw[al]at ee;generalize hn:hJ l1 (c::r)=n at*;have adM:n<=r.length+1:=p7;cases a2:kw.contains ((c::r).take n)with
   |true=>
    rw[a2]at LP;have w1:iW (c::r)=2:=by simp only[iW,al,if_true,hn,a2]
    have el:lg (c::r)=n:=by simp only[lg,al,if_true,hn]
    rw[w1,el];refine⟨_,by simp[wQ,h1,h2,kX,A4,yl,sA,fX,mr,aZ,wZ,ku,ee,LO,lW,nZ,jw,bM,ez,setCells,Dn,e1,p7,E5,step,Sc,Sd,LP,adM,ei,rH,xg,-List.take_succ_cons];rfl,?_⟩;simp only[gh,h1,h2];exact⟨by simp,by first|(simp[fX,mr];done)|(simp;omega)|omega,by simp,fun t ht=>by simp[show t≠47 by omega,show t≠50 by omega,show t≠61 by omega,show t≠7 by omega]⟩
   |false=>
    rw[a2]at LP;have w1:iW (c::r)=1:=by simp only[iW,al,if_true,hn,a2];rfl
    have el:lg (c::r)=n:=by simp only[lg,al,if_true,hn]
    rw[w1,el];refine⟨_,by simp[wQ,h1,h2,kX,A4,yl,sA,fX,mr,aZ,wZ,ku,ee,LO,lW,nZ,jw,bM,ez,setCells,Dn,e1,p7,E5,step,Sc,Sd,LP,adM,ei,rH,xg,-List.take_succ_cons];rfl,?_⟩;simp only[gh,h1,h2];exact⟨by simp,by first|(simp[fX,mr];done)|(simp;omega)|omega,by simp,fun t ht=>by simp[show t≠47 by omega,show t≠50 by omega,show t≠61 by omega,show t≠7 by omega]⟩
  |false=>
   rw[al]at ee;cases a2:jo c with
   |true=>
    rw[a2]at n2;have w1:iW (c::r)=3:=by simp only[iW,al,a2,if_true];rfl
    have el:lg (c::r)=hJ jo (c::r):=by simp only[lg,al,a2,if_true];rfl
    rw[w1,el];refine⟨_,by simp[wQ,h1,h2,kX,A4,yl,sA,fX,mr,aZ,wZ,ku,ee,n2,Se,lW,nZ,jw,bM,ez,setCells];rfl,?_⟩;simp only[gh,h1,h2];exact⟨by simp,by first|(simp[fX,mr];done)|(simp;omega)|omega,by simp,fun t ht=>by simp[show t≠47 by omega,show t≠50 by omega,show t≠63 by omega,show t≠7 by omega]⟩
   |false=>
    rw[a2]at n2;by_cases a3:0<sym (c::r)
    ·have w1:iW (c::r)=4:=by simp only[iW,al,a2,a3,if_true];rfl
     have el:lg (c::r)=sym (c::r):=by simp only[lg,al,a2,a3,if_true];rfl
     rw[w1,el];refine⟨_,by simp[wQ,h1,h2,kX,A4,yl,sA,fX,mr,aZ,wZ,ku,ee,n2,az,a3,lW,nZ,jw,bM,ez,setCells];rfl,?_⟩;simp only[gh,h1,h2];exact⟨by simp,by first|(simp[fX,mr];done)|(simp;omega)|omega,by simp,fun t ht=>by simp[show t≠47 by omega,show t≠50 by omega,show t≠63 by omega,show t≠70 by omega,show t≠7 by omega]⟩
    ·have w1:iW (c::r)=5:=by simp only[iW,al,a2,a3,if_false];rfl
     have el:lg (c::r)=l2 r+1:=by simp only[lg,al,a2,a3,if_false];rfl
     rw[w1,el]
     obtain⟨st1,q1,q2,cd,c2,fi⟩:=adJ T (s:=c::r) (H:=H++[.cells [.int .i64 5,.int .i64 a,.int .i64 b,.int .i64 0]]) (lo:=lo) hl (by simp;omega) r 1
      {aC:=[],au:=dw (dw (dw (dw (dw st.au 47 (.bool false)) 50 (.bool false)) 63 (.bool false)) 70 (.bool false)) 7 (.int .i64 1),H:=H++[.cells [.int .i64 5,.int .i64 a,.int .i64 b,.int .i64 0]],low:=lo,ro:=st.ro} rfl (by simp) rfl rfl (by simp[gh,yl]) (by simp[gh])
     refine⟨st1,by simp[wQ,h1,h2,kX,A4,yl,sA,fX,mr,aZ,wZ,ku,ee,n2,az,a3,lW,nZ,jw,bM,ez,setCells,q1],q2,cd,?_,fun t ht=> ?_⟩
     ·rw[c2];simp;omega
     ·rw[fi t ht];simp[gh,show t≠47 by omega,show t≠50 by omega,show t≠63 by omega,show t≠70 by omega,show t≠7 by omega]
end
end Go.Abs.bs
namespace Go.Abs.bs
open Go Go.Abs Go.Abs.Lex
noncomputable section
variable{aa:Nat->Option bV}
attribute [local simp] iP fW iy kW mg nD nE qF nF cY gu qU pt nf qh qi ng sa qV nY r9 vZ ai.ag bA gh av.put eg pS pR eV fN dQ bx cg gH ke finish old olds flat lD sH jR iw aE S.R S.q S.k S.rt S.jF S.cX S.e S.r S.o S.n S.rg S.m S.ch S.ls S.dZ S.eq S.ne S.lt S.gt S.c4 S.no S.j3 S.st S.jX S.ic S.lE S.ex S.c S.cs S.kk S.k8 S.z S.fn S.kg
theorem atX:Li=.block 1 (.seq Lf (.seq Lg (.seq Lh (.seq (.block 2 wQ) Dc)))):=rfl
def A5 (s:List UInt8)(fy:Nat):List V:=[.int .i64 (iW (s.drop (dz s fy))),.int .i64 fy,.int .i64 (dz s fy),.int .i64 (hg s fy)]
set_option maxHeartbeats 2000000 in
theorem atY (T:oj aa){s:List UInt8}{H H2:Heap}{p1 p2 m L fy dB m0:Nat}{b:Bool}(hl:s.length<4611686018427387904)(iA:fy<=s.length)(g1:H[p1]? =some (.cells [.str s]))(g2:H[p2]? =some (.cells [.map m]))(LN:H[m]? =some (.map w0))
  {st:av} (h1:st.H=H) (h2:m0<=st.low) (xx:st.low<=H.length) (qd:bA st.au 0=.yield L) (ch:bA st.au 1=.ptr p1 0) (kX:bA st.au 2=.ptr p2 0) (Ad:bA st.au 4=.int .i64 fy)
  (hy:bY aa (.yield L) [.agg (A5 s fy)] (H++[.cells (A5 s fy)])=some (.bool b,H2,dB)) (zf:dB<=H.length) (fX:m0<=dB) (aBf:m0<=H2.length) (IB:b=true->H2[H.length]? =some (.cells (A5 s fy))):
  ∃x aV,dq aa Li st=some (x,aV)/\x=(if b&&decide (iW (s.drop (dz s fy))≠0)then .normal else .ret)/\aV.H=H2/\m0<=aV.low/\aV.low<=dB/\bA aV.au 4=.int .i64 (hg s fy)/\∀t,t<4->bA aV.au t=bA st.au t:=by
 have atZ:=fun t=>Hn g1 t;have Sc:=fun t=>Hn g2 t;have Sd:=fun t=>Hn LN t;obtain⟨lo,iQ⟩:∃lo,st.low=lo:=⟨_,rfl⟩;rw[iQ]at h2 xx;have pn:min lo H.length=lo:=qx xx;have kC:min lo (H.length+1)=lo:=qx (by omega);have Ho:=atK T (s:=s.drop fy) (H:=H) (by rw[qv];omega);unfold aG at Ho;have at0:=Px iA;have aBg:=Py iA
 have Sf:IntKind.i64.wrap ((fy:Int)+(hf false (s.drop fy):Int))=(dz s fy:Int):=by
  have e:(fy:Int)+(hf false (s.drop fy):Int)=(dz s fy:Int):=by unfold dz;omega
  rw[e,wrap_small]<;>omega
 have vT:IntKind.i64.wrap ((dz s fy:Int)+(lg (s.drop (dz s fy)):Int))=(hg s fy:Int):=by
  have e:(dz s fy:Int)+(lg (s.drop (dz s fy)):Int)=(hg s fy:Int):=by unfold hg;omega
  rw[e,wrap_small]<;>omega
 have A:∃st1,dq aa Lf st=some (.normal,st1)/\st1.H=H++[.cells [.int .i64 0,.int .i64 fy,.int .i64 (dz s fy),.int .i64 0]]/\st1.low=lo/\bA st1.au 5=.ptr H.length 0/\∀t,t<5->bA st1.au t=bA st.au t:=by
  refine⟨_,by simp[Lf,h1,iQ,Ad,ch,g1,Dn,e1,iA,Ho,Sf,step,sJ,setCells,bM,ez,lW,jw,pn,kC];rfl,?_⟩;simp only[gh,h1];exact⟨by simp[setCells,ai.ag,bA,aE],by first|(simp[pn,kC];done)|(simp;omega),by simp,fun t ht=>by simp[show t≠5 by omega]⟩
 obtain⟨st1,al,a2,a3,a4,a5⟩:=A
 have B:∃st2,dq aa Lg st1=some (.normal,st2)/\st2.H=st1.H/\st2.low=lo/\bA st2.au 6=.str (s.drop (dz s fy))/\∀t,t<6->bA st2.au t=bA st1.au t:=by
  have b1:bA st1.au 1=.ptr p1 0:=(a5 1 (by decide)).trans ch;refine⟨_,by simp[Lg,a2,a3,a4,b1,atZ,nZ,Dn,e1,at0,pn,kC];rfl,?_⟩;simp only[gh,a2];exact⟨by simp,by first|(simp[pn,kC];done)|(simp;omega),by simp,fun t ht=>by simp[show t≠6 by omega]⟩
 obtain⟨st2,b1,ff,iZ,kz,vg⟩:=B
 have at1:∃lT,dq aa Lh st2=some (.normal,lT)/\lT.H=st1.H/\lT.low=lo/\bA lT.au 7=.int .i64 0/\∀t,t<7->bA lT.au t=bA st2.au t:=by
  refine⟨_,by simp[Lh,ff,iZ,a2,pn,kC];rfl,?_⟩;simp only[gh,a2,ff];exact⟨by simp,by first|(simp[pn,kC];done)|(simp;omega),by simp,fun t ht=>by simp[show t≠7 by omega]⟩
 obtain⟨lT,dj,eG,e3,hO,hX⟩:=at1
 obtain⟨Hp,d1,d3,d4,d5,d6⟩:=atW T (s:=s.drop (dz s fy)) (H:=H) (lo:=lo) (by rw[qv];omega) xx g2 LN (st:=lT) (eG.trans a2) e3
  (by rw[hX 2 (by decide),vg 2 (by decide),a5 2 (by decide)];exact kX) (by rw[hX 5 (by decide),vg 5 (by decide)];exact a4) (by rw[hX 6 (by decide)];exact kz) hO
 have ek:∀t,t<5->bA Hp.au t=bA st.au t:=fun t ht=>by rw[d6 t (by omega),hX t (by omega),vg t (by omega),a5 t ht]
 have Af:bA Hp.au 5=.ptr H.length 0:=by rw[d6 5 (by decide),hX 5 (by decide),vg 5 (by decide)];exact a4
 have k0:bA Hp.au 0=.yield L:=(ek 0 (by decide)).trans qd;have wL:∀t:Heap,¬H.length+1<=dB:=fun _=>by omega
 have BB:=wL [];have qf:m0<=H.length:=by omega
 have E:∃x ym,dq aa Dc Hp=some (x,ym)/\x=(if b&&decide (iW (s.drop (dz s fy))≠0)then .normal else .ret)/\ym.H=H2/\m0<=ym.low/\ym.low<=dB/\bA ym.au 4=.int .i64 (hg s fy)/\∀t,t<4->bA ym.au t=bA Hp.au t:=by
  unfold A5 at hy IB;generalize mZ:iW (s.drop (dz s fy))=K at*;cases b with
  |false=>
   refine⟨.ret,_,by simp[Dc,d3,d4,d5,Af,k0,nZ,lW,jw,bM,ez,setCells,vT,hy,BB,pn,kC];rfl,rfl,rfl,?_⟩;exact⟨by simp;omega,by simp;omega,by simp[gh],fun t ht=>by simp[gh,show t≠92 by omega,show t≠4 by omega]⟩
  |true=>
   have LQ:=IB rfl;have adN:∀h:H.length<H2.length,H2[H.length]'h=.cells [.int .i64 K,.int .i64 fy,.int .i64 (dz s fy),.int .i64 (hg s fy)]:=fun h=>by rw[gq h]at LQ;exact u3 LQ
   by_cases aO:K=0
   ·have Sg:((K:Int)==0)=true:=by simp[aO]
    refine⟨.ret,_,by simp[Dc,d3,d4,d5,Af,k0,nZ,lW,jw,bM,ez,setCells,vT,hy,BB,pn,kC,LQ,adN,Sg];rfl,by simp[aO],rfl,?_⟩;exact⟨by simp;omega,by simp;omega,by simp[gh],fun t ht=>by simp[gh,show t≠92 by omega,show t≠4 by omega]⟩
   ·have Sg:((K:Int)==0)=false:=by simp;omega
    refine⟨.normal,_,by simp[Dc,d3,d4,d5,Af,k0,nZ,lW,jw,bM,ez,setCells,vT,hy,BB,pn,kC,LQ,adN,Sg];rfl,by simp[aO],rfl,?_⟩;exact⟨by simp;omega,by simp;omega,by simp[gh],fun t ht=>by simp[gh,show t≠92 by omega,show t≠4 by omega]⟩
 obtain⟨x,ym,ab,aj,bC,cu,at2,dv,gY⟩:=E;have hx:x=.normal\/x=.ret:=by rw[aj];split<;>simp
 refine⟨x,ym,?_,aj,bC,cu,at2,dv,fun t ht=>(gY t ht).trans (ek t (by omega))⟩;rw[atX,nF,iy,al];simp only[];rw[iy,b1];simp only[];rw[iy,dj];simp only[];rw[iy,nF,d1];simp only[];rw[ab];rcases hx with rfl|rfl<;>rfl
end
end Go.Abs.bs
namespace Go.Abs.bs
open Go Go.Abs Go.Abs.Lex
noncomputable section
variable{aa:Nat->Option bV}
attribute [local simp] iP fW iy kW mg nD nE qF nF cY gu qU pt nf qh qi ng sa qV nY r9 vZ ai.ag bA dw av.put eg pS pR eV fN dQ bx cg gH ke finish old olds flat lD sH jR iw aE S.R S.q S.k S.rt S.jF S.cX S.e S.r S.o S.n S.rg S.m S.ch S.ls S.dZ S.eq S.ne S.lt S.gt S.c4 S.no S.j3 S.st S.jX S.ic S.lE S.ex S.c S.cs S.kk S.k8 S.z S.fn S.kg
theorem om (H l:Heap)(k:Nat):(H++l)[H.length+k]? =l[k]? :=by rw[u0 (by omega)];simp
theorem uV (H l:Heap):(H++l)[H.length]? =l[0]? :=om H l 0
theorem yn (H l:Heap)(k:Nat)(x:bU):(H++l).set (H.length+k) x=H++l.set k x:=by rw[List.set_append_right _ _ (by omega)];simp
theorem w2 (H l:Heap)(x:bU):(H++l).set H.length x=H++l.set 0 x:=yn H l 0 x
def Hq (w:List UInt8)(n:Nat):Env:=[(0,.str w),(1,.ptr n 0),(2,.ptr (n+1) 0),(10,.bool false),(12,.fn 243 [] [.ptr (n+2) 0,.ptr (n+4) 0])]
def uW (w:List UInt8)(n:Nat):Heap:=[.cells [.str w],.cells [.int .i64 0],.cells [.str w],.map w0,.cells [.map (n+3)],.loop .ready .normal (Hq w n) [13] GN GO]
set_option maxHeartbeats 1000000 in
theorem at3 (T:oj aa)(w:List UInt8)(H:Heap):∃H2 dB,bY aa (.yield (H.length+5)) [.agg (A5 w 0)] (H++(uW w H.length++[.cells (A5 w 0)]))=some (.bool false,H2,dB)/\H.length<=dB/\dB<=H.length+5/\H.length<=H2.length/\
  ((dz w 0=0/\hg w 0=w.length/\H2[H.length+1]? =some (.cells [.int .i64 (iW (w.drop (dz w 0)))])/\∃e p a b,H2[H.length+5]? =some (.loop .done .ret e p a b))\/
   (¬(dz w 0=0/\hg w 0=w.length)/\H2[H.length+1]? =some (.cells [.int .i64 0])/\∃e p a b,H2[H.length+5]? =some (.loop .done (.exit 0) e p a b))):=by
 rw[afF];unfold A5;generalize iW (w.drop (dz w 0))=K;by_cases h1:dz w 0=0
 ·have ab:((dz w 0:Int) != 0)=false:=by simp[h1]
  by_cases h2:hg w 0=w.length
  ·have aj:((hg w 0:Int) != (w.length:Int))=false:=by simp[h2]
   refine⟨_,_,by simp[uW,Hq,pW,om,uV,yn,w2,GN,GO,nZ,tP,lW,jw,setCells,bM,ez,ab,aj,ei];exact⟨rfl,rfl⟩,?_⟩;exact⟨by simp<;>omega,by simp<;>omega,by simp<;>omega,.inl ⟨h1,h2,by simp[om],_,_,_,_,by rw[om];rfl⟩⟩
  ·have aj:((hg w 0:Int) != (w.length:Int))=true:=by simp;omega
   refine⟨_,_,by simp[uW,Hq,pW,om,uV,yn,w2,GN,GO,nZ,tP,lW,jw,setCells,bM,ez,ab,aj,ei];exact⟨rfl,rfl⟩,?_⟩;exact⟨by simp<;>omega,by simp<;>omega,by simp<;>omega,.inr ⟨fun h=>h2 h.2,by simp[om],_,_,_,_,by rw[om];rfl⟩⟩
 ·have ab:((dz w 0:Int) != 0)=true:=by simp;omega
  refine⟨_,_,by simp[uW,Hq,pW,om,uV,yn,w2,GN,GO,nZ,tP,lW,jw,setCells,bM,ez,ab,ei];exact⟨rfl,rfl⟩,?_⟩;exact⟨by simp<;>omega,by simp<;>omega,by simp<;>omega,.inr ⟨fun h=>h1 h.1,by simp[om],_,_,_,_,by rw[om];rfl⟩⟩
set_option maxHeartbeats 1000000 in
theorem at4 (T:oj aa)(w:List UInt8)(hl:w.length<=4096)(H:Heap):∃H2 dB,bY aa (.fn 243 [] [.ptr (H.length+2) 0,.ptr (H.length+4) 0]) [.yield (H.length+5)] (H++uW w H.length)=some (.aU [],H2,dB)/\H.length<=dB/\H.length<=H2.length/\
  ((dz w 0=0/\hg w 0=w.length/\H2[H.length+1]? =some (.cells [.int .i64 (iW (w.drop (dz w 0)))])/\∃e p a b,H2[H.length+5]? =some (.loop .done .ret e p a b))\/
   (¬(dz w 0=0/\hg w 0=w.length)/\H2[H.length+1]? =some (.cells [.int .i64 0])/\∃e p a b,H2[H.length+5]? =some (.loop .done (.exit 0) e p a b))):=by
 obtain⟨H2,dB,hy,b1,ff,iZ,kz⟩:=at3 T w H;rw[<-kr]at hy;have hlen:(H++uW w H.length).length=H.length+6:=by simp[uW]
 obtain⟨x,aV,q1,q2,cd,c2,fi,hU,nU⟩:=atY T (s:=w) (H:=H++uW w H.length) (H2:=H2) (p1:=H.length+2) (p2:=H.length+4) (m:=H.length+3) (L:=H.length+5) (fy:=0) (dB:=dB) (m0:=H.length) (b:=false)
  (by omega) (cD _) (by rw[om];rfl) (by rw[om];rfl) (by rw[om];rfl)
  (st:={aC:=[],au:=[(0,.yield (H.length+5)),(1,.ptr (H.length+2) 0),(2,.ptr (H.length+4) 0),(4,.int .i64 0)],H:=H++uW w H.length,low:=H.length+6}) rfl (by simp) (by rw[hlen];exact aF _) rfl rfl rfl rfl hy (by rw[hlen];omega) b1 iZ (fun h=>by cases h)
 simp only[Ms]at q2;subst q2;have kB:¬H.length+6<=aV.low:=by omega
 refine⟨H2,aV.low,?_,c2,iZ,kz⟩;rw[ou,T.atB];simp[acA,hlen,sN Li,q1,cd,kB]
set_option maxHeartbeats 1000000 in
theorem at5 (T:oj aa)(w:List UInt8)(H:Heap):aG aa (.fn 138 [] []) [.str w] H (.int .i64 (kindOf w)):=by
 unfold aG;rw[ou,T.atD];by_cases h0:w=[]
 ·subst h0
  simp[GP,bM,ez,lW,jw,setCells,om,uV,yn,w2,kindOf]
 ·have eL:(w==[])=false:=by cases w<;>simp_all
  by_cases h1:4096<w.length
  ·have ab:(4096:Int)<(w.length:Int):=by omega
   simp[GP,bM,ez,lW,jw,setCells,om,uV,yn,w2,kindOf,eL,h0,h1,ab,tP]
  ·have ab:¬(4096:Int)<(w.length:Int):=by omega
   have ht:=atU T w (H++[.cells [.str w],.cells [.int .i64 0]]);simp only[fD,fl,mQ,dP,kr,lN,iM,qy,Nat.reduceAdd]at ht;obtain⟨H2,dB,hc,b1,ff,iZ⟩:=at4 T w (by omega) H;simp only[uW,Hq]at hc;have Sh:min H.length dB=H.length:=qx b1;have at6:min H.length (min dB (min H2.length (H.length+1)))=H.length:=by omega
   rcases iZ with⟨dj,eG,e3,e,p,a,b,hO⟩|⟨dj,e3,e,p,a,b,hO⟩
   ·have hk:kindOf w=iW (w.drop (dz w 0)):=by simp[kindOf,h0,h1,dj,eG]
    have hX:(H2.set (H.length+5) .gone)[H.length+1]? =some (.cells [.int .i64 (iW (w.drop (dz w 0)))]):=by rw[iv (by omega)];exact e3
    rw[hk];simp[GP,bM,ez,lW,jw,setCells,om,uV,yn,w2,eL,h0,h1,ab,tP,ht,Tf,DS,Bq,hc,hO,hX,ei,Sh]
   ·have hk:kindOf w=0:=by simp[kindOf,h0,h1];exact fun h1 h2=>absurd ⟨h1,h2⟩ dj
    have hX:(H2.set (H.length+5) .gone)[H.length+1]? =some (.cells [.int .i64 0]):=by rw[iv (by omega)];exact e3
    have Gr:((H2.set (H.length+5) .gone).set (H.length+1) (.cells [.int .i64 0]))[H.length+1]? =some (.cells [.int .i64 0]):=by rw[mP];rw[yD];rcases fV (H.length+1) H2.length with h|h;exact h;rw[nA h]at e3;cases e3
    rw[hk];simp[GP,bM,ez,lW,jw,setCells,om,uV,yn,w2,eL,h0,h1,ab,tP,ht,Tf,DS,Bq,hc,hO,hX,Gr,ei,at6]
end
end Go.Abs.bs
namespace Go.Abs.bs
open Go Go.Abs
noncomputable section
variable{aa:Nat->Option bV}
def wF:V->Bool
 | .ca .. =>true
 | _=>false
section
variable{call:cP}{ag:ai->V}{H:Heap}{low:Nat}
theorem adO{x:ai}(h:wF (ag x)=true):b3 call ag H low (.len 1 x)=match ag x with
  | .ca l es _ len tag=>(match H[l]? with
    |some (.row bK ds _)=>if bK=es/\ds.length=tag then some (.int .i64 len,H,low)else none
    |some (.qC r)=>if r.length=tag then some (.int .i64 len,H,low)else none
    | _=>none)
  | _=>none:=by
 show step ag H low (.len 1 x)=_;cases hx:ag x<;>simp_all [wF,step]<;>rfl
theorem adP (es:Nat)(a b:ai):b3 call ag H low (.copy es a b)=step ag H low (.copy es a b):=rfl
end
structure Hr (aa:Nat->Option bV):Prop where
 at7:aa 156=some (.code acB)
 aua:aa 266=some (.code acC)
 aub:aa 81=some (.code acy)
def u64 (n:Int):V:=.int .u64 n
theorem Si{W:Nat}(h:W<4294967296):eg .and (u64 W) (u64 4294967295)=some (u64 W):=by
 have e:(BitVec.ofInt 64 (W:Int) &&& BitVec.ofInt 64 4294967295).toNat=W:=by
  rw[BitVec.toNat_and]
  have h1:(BitVec.ofInt 64 (W:Int)).toNat=W:=by
   rw[BitVec.toNat_ofInt];omega
  have h2:(BitVec.ofInt 64 4294967295).toNat=2^32-1:=by decide
  rw[h1,h2,Nat.and_two_pow_sub_one_eq_mod];omega
 have eL:eg .and (u64 W) (u64 4294967295)=some (.int .u64 (IntKind.u64.wrap ((BitVec.ofInt 64 (W:Int) &&& BitVec.ofInt 64 4294967295).toNat:Int))):=rfl;rw[eL,e]
 have:IntKind.u64.wrap (W:Int)=W:=by
  have ab:(2^IntKind.u64.bits:Int)=18446744073709551616:=rfl;have s:IntKind.u64.signed=false:=rfl;simp only[IntKind.wrap,ab,s,Ms];simp;omega
 rw[this];rfl
theorem LR{n:Int}(h1:0<=n)(h2:n<18446744073709551616):IntKind.u64.wrap n=n:=by
 have ab:(2^IntKind.u64.bits:Int)=18446744073709551616:=rfl;have s:IntKind.u64.signed=false:=rfl;simp only[IntKind.wrap,ab,s,Ms];simp;omega
theorem Sj{W:Nat}(h:W<4294967296):eg .shr (u64 W) (u64 32)=some (u64 0):=by
 have:(W:Int)/4294967296=0:=Int.ediv_eq_zero_of_lt (by omega) (by omega);simp[u64,eg,IntKind.bits,this]
theorem auc{W:Nat}(h:W<4294967296):eg .mul (u64 1) (u64 W)=some (u64 W):=by
 simp[u64,eg,LR (n:=(W:Int)) (by omega) (by omega)]
theorem aud{W:Nat}:eg .mul (u64 0) (u64 W)=some (u64 0):=by
 simp[u64,eg,LR (n:=0) (by omega) (by omega)]
theorem b1:eg .and (u64 1) (u64 4294967295)=some (u64 1):=Si (W:=1) (by decide)
theorem ff:eg .shr (u64 1) (u64 32)=some (u64 0):=Sj (W:=1) (by decide)
theorem iZ:eg .add (u64 0) (u64 0)=some (u64 0):=by kernel_rfl
theorem kz:eg .and (u64 0) (u64 4294967295)=some (u64 0):=Si (W:=0) (by decide)
theorem vg:eg .shr (u64 0) (u64 32)=some (u64 0):=Sj (W:=0) (by decide)
theorem adQ:eg .mul (u64 1) (u64 0)=some (u64 0):=by kernel_rfl
theorem A2:eg .mul (u64 0) (u64 0)=some (u64 0):=by kernel_rfl
set_option maxHeartbeats 1000000 in
theorem aue (T:Hr aa){W:Nat}(h:W<4294967296)(H:Heap):aG aa (.fn 266 [] []) [u64 1,u64 W] H (.aU [u64 0,u64 W]):=by
 unfold aG;have c:∀n,V.int .u64 n=u64 n:=fun _=>rfl;have i1:∀n,bx (u64 n)=true:=fun _=>rfl;rw[ou,T.aua];simp[acC,dQ,S.R,S.tl,S.q,S.k,S.rt,S.jF,S.cX,S.e,S.r,S.o,S.n,S.rg,S.m,S.ch,S.ls,S.dZ,S.eq,S.ne,S.lt,S.gt,S.c4,S.no,S.j3,S.st,S.jX,S.ic,S.lE,S.ex,S.c,S.cs,S.kk,S.k8,S.z,S.fn,S.kg,iP,fW,iy,kW,nE,cY,gu,qU,nf,ai.ag,bA,dw,av.put,fN,bx,cg,gH,ke,finish,old,olds,sH,lD,c,i1,Si h,Sj h,auc h,aud,b1,ff,iZ,kz,vg,adQ,A2]
theorem auf{call:cP}{ag:ai->V}{H:Heap}{low:Nat}(k:IntKind)(x:ai):b3 call ag H low (.conv k x)=step ag H low (.conv k x):=rfl
set_option maxHeartbeats 1000000 in
theorem aug (T:Hr aa){W:Nat}(h:W<4294967296)(H:Heap):aG aa (.fn 156 [] []) [.int .u64 1,.int .u64 W] H (.aU [.int .u64 0,.int .u64 W]):=by
 have hm:=aue T h H;unfold aG u64 at*;rw[ou,T.at7];simp[acB,iP,fW,iy,kW,mg,nD,nE,qF,nF,cY,gu,qU,pt,nf,qh,qi,ng,sa,qV,nY,r9,vZ,ai.ag,bA,dw,av.put,eg,pS,pR,eV,fN,dQ,bx,cg,gH,ke,finish,old,olds,flat,lD,sH,jR,iw,aE,S.R,S.tl,S.q,S.k,S.rt,S.jF,S.cX,S.e,S.r,S.o,S.n,S.rg,S.m,S.ch,S.ls,S.dZ,S.eq,S.ne,S.lt,S.gt,S.c4,S.no,S.j3,S.st,S.jX,S.ic,S.lE,S.ex,S.c,S.cs,S.kk,S.k8,S.z,S.fn,S.kg,hm]
def kb (lo hi:Int):V:=.agg [.int .i64 lo,.int .i64 hi]
def Sk:V:=.agg [.int .i64 0,.int .i64 0]
def oo (e:V)(m W:Nat):List V:=List.replicate m e++List.replicate (W-m) Sk
theorem auh{e:V}{m W:Nat}(h:m<=W):(oo e m W).length=W:=by simp[oo];omega
theorem adR{e:V}{m W:Nat}:(oo e m W).take m=List.replicate m e:=by simp[oo,List.take_append]
theorem aui{e:V}{m W:Nat}(h:m<=W)(h1:1<=m):(oo e m W).take m++((oo e m W).take m).take (W-m)++(oo e m W).drop (m+min (W-m) m)=oo e (m+min (W-m) m) W:=by
 rw[adR,List.take_replicate];unfold oo;rw[Mo,List.drop_replicate,List.drop_replicate,Bf];rw[show m-(m+min (W-m) m)=0 by omega];simp only[List.replicate_zero,iM];rw[show W-m-(m+min (W-m) m-m)=W-(m+min (W-m) m) by omega,List.replicate_append_replicate]
theorem auj{a b:Int}(m:Nat):mc ((List.replicate m (kb a b)).flatMap aE)=true:=by
 induction m with
 |zero=>rfl
 |succ m ih=>rw[DF,kd];simp[kb,aE,mc,plainCell]at ih⊢; exact ih
set_option maxHeartbeats 1000000 in
theorem auk (T:Hr aa){a b:Int}{W:Nat}{H:Heap}(hW:W<=1000):∀(j m:Nat) (st:av),m+j=W->1<=m->st.H=H++[.row 2 (oo (kb a b) m W) false]->H.length<=st.low->st.low<=H.length+1->bA st.au 7=.ca H.length 2 0 W W->bA st.au 8=.int .i64 m->
  ∃aV,dq aa (.loop GQ) st=some (.exit 0,aV)/\aV.H=H++[.row 2 (oo (kb a b) W W) false]/\H.length<=aV.low/\bA aV.au 7=.ca H.length 2 0 W W:=by
 intro j
 induction j using Nat.strongRecOn with
 |ind j ih=>
  intro m st hj hm h1 h2 xx sA adS;have jg:=auh (e:=kb a b) (m:=m) (W:=W) (by omega);by_cases aul:m=W
  ·subst aul
   rw[sN];refine⟨_,by simp[GQ,iP,fW,iy,kW,mg,nD,nE,qF,nF,cY,gu,qU,pt,nf,qh,qi,ng,sa,qV,nY,r9,ai.ag,bA,gh,av.put,eg,pS,pR,eV,fN,dQ,bx,cg,gH,ke,finish,old,olds,flat,lD,sH,jR,iw,Pc,S.R,S.tl,S.q,S.k,S.rt,S.jF,S.cX,S.e,S.r,S.o,S.n,S.rg,S.m,S.ch,S.ls,S.dZ,S.eq,S.ne,S.lt,S.gt,S.c4,S.no,S.j3,S.st,S.jX,S.ic,S.lE,S.ex,S.c,S.cs,S.kk,S.k8,S.z,S.fn,S.kg,h1,sA,adS,adO,wF,uV,jg];rfl,?_⟩;exact⟨by simp,by simp;omega,by simp[gh,sA]⟩
  ·have aK:(m:Int)<(W:Int):=by omega
   have CZ:m<W:=by omega
   have M6:m<=W:=by omega
   have aum:=auj (a:=a) (b:=b) m;have b7:=aui (e:=kb a b) (m:=m) (W:=W) (by omega) hm;have hw:IntKind.i64.wrap ((m:Int)+((min (W-m) m:Nat):Int))=((m+min (W-m) m:Nat):Int):=by rw[wrap_small]<;>omega
   have Hd:=adR (e:=kb a b) (m:=m) (W:=W);have p7:(List.replicate m (kb a b)).length=m:=by simp
   have aun:m+(W-m)=W:=by omega
   have wV:∃st1,dq aa GQ st=some (.normal,st1)/\st1.H=H++[.row 2 (oo (kb a b) (m+min (W-m) m) W) false]/\H.length<=st1.low/\st1.low<=H.length+1/\bA st1.au 7=.ca H.length 2 0 W W/\bA st1.au 8=.int .i64 ((m+min (W-m) m:Nat):Int):=by
    generalize mC:oo (kb a b) m W=P at*;have fX:0<m:=hm;refine⟨_,by simp[GQ,iP,fW,iy,kW,mg,nD,nE,qF,nF,cY,gu,qU,pt,nf,qh,qi,ng,sa,qV,nY,r9,ai.ag,bA,gh,av.put,eg,pS,pR,eV,fN,dQ,bx,cg,gH,ke,finish,old,olds,flat,lD,sH,jR,iw,Pc,S.R,S.tl,S.q,S.k,S.rt,S.jF,S.cX,S.e,S.r,S.o,S.n,S.rg,S.m,S.ch,S.ls,S.dZ,S.eq,S.ne,S.lt,S.gt,S.c4,S.no,S.j3,S.st,S.jX,S.ic,S.lE,S.ex,S.c,S.cs,S.kk,S.k8,S.z,S.fn,S.kg,h1,sA,adS,adO,wF,uV,w2,jg,aK,CZ,M6,fX,Cm,adP,step,e1,elems,Hd,p7,aum,aun,hw,ei,rH,xg,gk,-List.take_replicate];exact⟨.inl (.inl ⟨by decide,by decide⟩),rfl⟩,?_⟩;refine⟨?_,by simp;omega,by simp;omega,by simp[gh,sA],by simp[gh]⟩;rw[Hd]at b7;simp[<-b7,-List.take_replicate]
   obtain⟨st1,q1,q2,cd,c2,fi,hU⟩:=wV;obtain⟨aV,bB,b4⟩:=ih (W-(m+min (W-m) m)) (by omega) (m+min (W-m) m) st1 (by omega) (by omega) q2 cd c2 fi hU;exact⟨aV,by rw[sN,q1];exact bB,b4⟩
theorem adT (a b:Int):∀m,cg (List.replicate m (kb a b))=true
 |0=>rfl
 |m+1=>by rw[DF];simp only[cg,adT a b m,Bk];rfl
theorem auo (n:Nat)(a b:Int)(m:Nat):olds n (List.replicate m (kb a b))=true:=by
 induction m with
 |zero=>rfl
 |succ m ih=>rw[DF];simp only[olds,ih,Bk];rfl
set_option maxHeartbeats 2000000 in
theorem aup (T:Hr aa){a b:Int}{W:Nat}(hW:W<=1000)(h1:1<=W)(H:Heap):
  bY aa (.fn 81 [] []) [.list 2 [kb a b],.int .i64 W] H=some (.list 2 (List.replicate W (kb a b)),H,H.length):=by
 have hm:=aug T (W:=W) (by omega) H;unfold aG at hm;have Ik:IntKind.u64.wrap 1=1:=LR (by omega) (by omega);have ui:IntKind.u64.wrap (W:Int)=W:=LR (by omega) (by omega);have hi:IntKind.i64.wrap (W:Int)=W:=by rw[wrap_small]<;>omega
 have auq:¬(W:Int)<0:=by omega
 have ac5:¬(W:Int)>9223372036854775807:=by omega
 have aur:¬(9223372036854775807:Int)<(W:Int):=by omega
 have ec:(W:Int)*17<=1099511627776:=by omega
 have Ij:¬(W:Int)=0:=by omega
 have aus:¬W=0:=by omega
 have EM:(0:Int)<=W:=by omega
 have Sh:min W 1=1:=by omega
 have BN:mc (List.flatMap aE [kb a b])=true:=rfl;have aut:oo (kb a b) 1 W=kb a b::List.replicate (W-1) Sk:=rfl;have auu:oo (kb a b) W W=List.replicate W (kb a b):=by simp[oo]
 obtain⟨aV,bB,b4,eI,gM⟩:=auk T (a:=a) (b:=b) (W:=W) (H:=H) hW (W-1) 1
  {aC:=[],au:=[(0,.list 2 [kb a b]),(1,.int .i64 W),(4,.bX),(10,.bool false),(5,.int .u64 0),(6,.int .u64 W),(26,.bool false),(7,.ca H.length 2 0 W W),(8,.int .i64 1)],H:=H++[.row 2 (oo (kb a b) 1 W) false],low:=H.length} (by omega) (aF _) rfl (aF _) (by simp) rfl rfl
 rw[auu]at b4;have auv:=adT a b W;have hold:=auo H.length a b W;have auw:List.take W [kb a b]=[kb a b]:=HE (by simpa using h1);have aO:V.agg [V.int .i64 0,V.int .i64 0]=Sk:=rfl;rw[aut]at bB;rw[ou,T.aub];have dY:zF 2 (V.list 2 [kb a b])=true:=rfl;have x6:(el (V.list 2 [kb a b])).length=1:=rfl;simp[acy,iP,fW,iy,kW,mg,nD,nE,qF,nF,cY,gu,qU,pt,nf,qh,qi,ng,sa,qV,nY,r9,ai.ag,bA,dw,av.put,eg,pS,pR,eV,fN,dQ,bx,cg,gH,ke,finish,old,olds,flat,lD,sH,jR,iw,Pc,S.R,S.tl,S.q,S.k,S.rt,S.jF,S.cX,S.e,S.r,S.o,S.n,S.rg,S.m,S.ch,S.ls,S.dZ,S.eq,S.ne,S.lt,S.gt,S.c4,S.no,S.j3,S.st,S.jX,S.ic,S.lE,S.ex,S.c,S.cs,S.kk,S.k8,S.z,S.fn,S.kg,Wa 2,dY,x6,auf,step,Ik,ui,hi,hm,auq,ac5,aur,O5,lr,aO,ec,Ij,aus,EM,adP,elems,uV,w2,auw,BN,Sh,bB,b4,eI,gM,hold,auv,gh,-List.flatMap_cons]
theorem auy (T:Hr aa):aqp aa:=by
 intro H0 x n r h;unfold Fj at h;split at h
 ·rename_i hc
  obtain⟨h1,h2,ar⟩:=hc;cases h
  obtain⟨rg,hx⟩:∃rg,x=.mk [rg]:=by
   cases x with
   |nil=>simp[ad.l]at h1
   |emp=>simp[ad.l]at h1
   |mk l=>match l,h1 with
    |[rg],_=>exact⟨rg,rfl⟩
  subst hx;obtain⟨W,rfl⟩:=HD (show 0<=n by omega);have:=aup T (a:=rg.lb) (b:=rg.lf) (W:=W) (by omega) (by omega) H0
  have e:(List.replicate ((W:Int)).toNat (ad.mk [rg]).l).flatten=List.replicate W rg:=by
   rw[HL];show(List.replicate W [rg]).flatten=_;simp
  rw[e];show bY aa (.fn 81 [] []) [.list 2 [q3 rg],aI (W:Int)] H0=some (.list 2 ((List.replicate W rg).map q3),H0,H0.length);rw[List.map_replicate];exact this
 ·cases h
end
end Go.Abs.bs
namespace Go.Abs
open Go
variable{C D:Ctx}{fid:Nat->Nat}
theorem iS.turn (mC:D.P=C.P)(a6:D.e2=C.e2){i:Nat}{spec:List V->Option V}(hp:∀args v,spec args=some v->bx v=true)(h:iS C fid i spec):iS D fid i spec:=by
 intro G H w args v xs U eC hs;have hA:=U.apart;have auz:aX C fid ⟨fun _=>Option.none,G.I⟩ [] w:=⟨fun _ _ e=>(by cases e),fun _ _ _ _ e=>(by cases e),fun _ _ e=>(by cases e),hA.c0,fun _ _ e=>(by cases e),by rw[<-a6];exact hA.e2⟩;have hc:=h auz eC hs;rw[mC];refine hc.mono fun x w' hx=> ?_;obtain⟨ay,fI,he,af⟩:=hx
 have hn:∀l h,ay.β l=some h->False:=fun l h e=>by
  obtain⟨o,ho,-⟩:=fI.obj l h e;simp at ho
 exact k1.beside (H':=([]:Heap)) U (hp _ _ hs) ⟨ay,⟨fun l h e=>(hn l h e).elim,fI.inj,fI.blk,fI.c0,fI.ky,by rw[a6];exact fI.e2⟩,he,af⟩
end Go.Abs
set_option maxRecDepth 100000
namespace Go.Abs.bs
open Go Go.Abs Go.Proofs
section
variable{g:Nat->Option Obj}
theorem auA:∀args v,DW args=some v->bx v=true:=fun args v h=>by
 unfold DW at h
 repeat' split at h
 all_goals first|(cases h;done)|(cases h;rfl)|(cases h;split<;>rfl)|(obtain⟨_,_,rfl⟩:=cj.1 h;rfl)
theorem auB:∀args v,yW args=some v->bx v=true:=fun args v h=>by
 unfold yW at h
 repeat' split at h
 all_goals first|(cases h;done)|(cases h;rfl)|(cases h;split<;>rfl)|(obtain⟨_,_,rfl⟩:=cj.1 h;rfl)
theorem auC:∀args v,yX args=some v->bx v=true:=fun args v h=>by
 unfold yX at h
 repeat' split at h
 all_goals first|(cases h;done)|(cases h;rfl)|(cases h;split<;>rfl)|(obtain⟨_,_,rfl⟩:=cj.1 h;rfl)
theorem auD:∀args v,DY args=some v->bx v=true:=fun args v h=>by
 unfold DY at h
 repeat' split at h
 all_goals first|(cases h;done)|(cases h;rfl)|(cases h;split<;>rfl)|(obtain⟨_,_,rfl⟩:=cj.1 h;rfl)
theorem auE:∀args v,DX args=some v->bx v=true:=fun args v h=>by
 unfold DX at h
 repeat' split at h
 all_goals first|(cases h;done)|(cases h;rfl)|(cases h;split<;>rfl)|(obtain⟨_,_,rfl⟩:=cj.1 h;rfl)
theorem auF:∀args v,DZ args=some v->bx v=true:=fun args v h=>by
 unfold DZ at h
 repeat' split at h
 all_goals first|(cases h;done)|(cases h;rfl)|(cases h;split<;>rfl)|(obtain⟨_,_,rfl⟩:=cj.1 h;rfl)
theorem auG:∀args v,D0 args=some v->bx v=true:=fun args v h=>by
 unfold D0 at h
 repeat' split at h
 all_goals first|(cases h;done)|(cases h;rfl)|(cases h;split<;>rfl)|(obtain⟨_,_,rfl⟩:=cj.1 h;rfl)
theorem auH (adU:∀(G:bT) (H:Heap) (w:World),aX (C g) id G H w->Lib.TabIs Tryz.prog w "internal/strconv.uint64pow10" .u64 Lib.pow10Tab)(nV:∀(G:bT) (H:Heap) (w:World),aX (C g) id G H w->Lib.TabIs Tryz.prog w "strings.asciiSpace" .u8 Lib.asciiSpaceTab):du (A g) id (iE g):=by
 refine⟨fun i f h=> ?_,fun i sp h=> ?_,fun i sp h=> ?_⟩
 ·unfold iE at h
  split at h
  ·cases h
  ·split at h
   ·cases h
   ·split at h
    ·rename_i fn h9
     split at h
     ·rename_i a ha
      cases h;obtain⟨c,-,-,-,-,-,eN⟩:=EL ha;exact⟨fn,h9,by rw[eN];exact ha⟩
     ·cases h
    ·cases h
 ·unfold iE at h
  split at h
  ·cases h
  ·split at h
   ·rename_i s hs
    cases h;unfold V6 at hs;split at hs<;>first|(cases hs;done)|skip
    ·cases hs;exact iS.turn (C:=C g) (D:=A g) rfl rfl auD (amc adU)
    ·cases hs;exact iS.turn (C:=C g) (D:=A g) rfl rfl auF amg
    ·cases hs;exact iS.turn (C:=C g) (D:=A g) rfl rfl auE ama
    ·cases hs;exact iS.turn (C:=C g) (D:=A g) rfl rfl auA amd
    ·cases hs;exact iS.turn (C:=C g) (D:=A g) rfl rfl auB (ZR nV)
    ·cases hs;exact iS.turn (C:=C g) (D:=A g) rfl rfl auC ZP
    ·cases hs;exact iS.turn (C:=C g) (D:=A g) rfl rfl auG amj
   ·split at h
    ·split at h<;>cases h
    ·cases h
 ·unfold iE at h
  split at h
  ·rename_i s hs
   cases h;unfold V7 at hs;split at hs<;>first|(cases hs;done)|skip
   ·cases hs;exact(show xG (A g) id 63 E3 from ajD (C:=A g) (fid:=id) Tryz.alM Tryz.Jo rfl rfl)
   ·cases hs;exact(show xG (A g) id 132 E2 from ajy (C:=A g) (fid:=id) Tryz.alN Tryz.Jo.toX72 rfl)
  ·split at h
   ·cases h
   ·split at h
    ·split at h<;>cases h
    ·cases h
theorem auI (adU:∀(G:bT) (H:Heap) (w:World),aX (C g) id G H w->Lib.TabIs Tryz.prog w "internal/strconv.uint64pow10" .u64 Lib.pow10Tab)(nV:∀(G:bT) (H:Heap) (w:World),aX (C g) id G H w->Lib.TabIs Tryz.prog w "strings.asciiSpace" .u8 Lib.asciiSpaceTab):du (C g) id (nX g):=by
 refine⟨fun i f h=> ?_,fun i sp h=> ?_,fun i sp h=> ?_⟩
 ·unfold nX at h
  split at h
  ·cases h
  ·split at h
   ·rename_i fn h9
    split at h
    ·rename_i a ha
     cases h;obtain⟨c,-,-,-,-,-,eN⟩:=EL ha;exact⟨fn,h9,by rw[eN];exact ha⟩
    ·cases h
   ·cases h
 ·unfold nX at h
  split at h
  ·rename_i s hs
   cases h;unfold V8 at hs;split at hs<;>first|(cases hs;done)|skip
   ·cases hs;exact ZR nV
   ·cases hs;exact ZP
  ·split at h
   ·split at h<;>cases h
   ·cases h
 ·unfold nX at h
  split at h
  ·cases h
  ·split at h
   ·split at h<;>cases h
   ·cases h
def Sl:Option bV->Bool
 |some (.code _)=>true
 | _=>false
theorem adV{o:Option bV}(h:Sl o=true):∃f,o=some (.code f):=by
 match o,h with
 |some (.code f),_=>exact⟨f,rfl⟩
theorem mN{aa:Nat->Option bV}{n i:Nat}{l:List (List V × V)}(hT:du (A g) id aa)(hc:Sl (aa i)=true)(h:jz aa n i l):du (A g) id (over aa i (jy l)):=by
 obtain⟨f,ae⟩:=adV hc;exact EN hT (Ow Jm Jl hT ae h)
theorem auJ (h:du (A g) id (iE g)):du (A g) id (hI g):=EN h (lV.Ow Jm Jl (IX Jm Jl h 120) Tryz.func47 (ajP g) (ajQ g))
theorem auK (h:du (A g) id (iE g)):du (A g) id (qW g):=mN (auJ h) (by kernel_rfl) (akk g)
theorem auL (h:du (A g) id (iE g)):du (A g) id (I7 g):=mN (auK h) (by kernel_rfl) (akv g)
theorem auM (h:du (A g) id (iE g)):du (A g) id (I8 g):=mN (auL h) (by kernel_rfl) (akx g)
theorem auN (h:du (A g) id (iE g)):du (A g) id (I9 g):=mN (auM h) (by kernel_rfl) (akz g)
theorem auO (h:du (A g) id (iE g)):du (A g) id (hZ g):=mN (auN h) (by kernel_rfl) (akB g)
theorem auP (h:du (A g) id (iE g)):du (A g) id (Ja g):=mN (auO h) (by kernel_rfl) (ak4 g)
theorem auQ (h:du (A g) id (iE g)):du (A g) id (Jb g):=mN (auP h) (by kernel_rfl) (ak6 g)
theorem auR (h:du (A g) id (iE g)):du (A g) id (Jc g):=mN (auQ h) (by kernel_rfl) (ak8 g)
theorem auS (h:du (A g) id (iE g)):du (A g) id (Jd g):=mN (auR h) (by kernel_rfl) (ala g)
theorem auT (h:du (A g) id (iE g)):du (A g) id (Je g):=mN (auS h) (by kernel_rfl) (alc g)
theorem auU (h:du (A g) id (iE g)):du (A g) id (Jf g):=mN (auT h) (by kernel_rfl) (ale g)
theorem auV (h:du (A g) id (iE g)):du (A g) id (Jg g):=mN (auU h) (by kernel_rfl) (alg g)
theorem auW (h:du (A g) id (iE g)):du (A g) id (Jh g):=mN (auV h) (by kernel_rfl) (ali g)
theorem auX (h:du (A g) id (iE g)):du (A g) id (Ji g):=mN (auW h) (by kernel_rfl) (alk g)
theorem auY (h:du (A g) id (iE g)):du (A g) id (n1 g):=mN (auX h) (by kernel_rfl) (aln g)
theorem auZ (h:du (A g) id (iE g)):du (A g) id (Jj g):=mN (auY h) (by kernel_rfl) (alD g)
theorem au0 (h:du (A g) id (iE g)):du (A g) id (E6 g):=mN (auZ h) (by kernel_rfl) (alF g)
theorem au1 (h:du (A g) id (iE g)):du (A g) id (Jk g):=mN (au0 h) (by kernel_rfl) (alI g)
theorem au2 (h:du (A g) id (iE g)):du (A g) id (O7 g):=mN (au1 h) (by kernel_rfl) (alK g)
theorem au3 (h:du (A g) id (iE g)):iS (C g) id 6 (Ce [] (.bool true)):=by
 obtain⟨f,ae⟩:=adV (show Sl (O7 g 6)=true by kernel_rfl);refine iS.turn (C:=A g) (D:=C g) rfl rfl (fun args v h=> ?_) (ajb Jm Jl (au2 h) ae rfl (alL g));unfold Ce at h;split at h
 ·cases h;rfl
 ·cases h
end
end Go.Abs.bs
