/- Texts of this claim, joined and written short by a program. -/
import Derived.Test.YtdoflpjbdlgciaaGreatDoorP30
import Derived.Test.YtdoflpjbdlgciaaGreatDoorP26
import Derived.Test.YtdoflpjbdlgciaaGreatDoorP27
import Derived.Test.YtdoflpjbdlgciaaGreatDoorP10
import Derived.Test.YtdoflpjbdlgciaaGreatDoorP17
import Derived.Test.YtdoflpjbdlgciaaGreatDoorP00
set_option linter.unusedVariables false
set_option linter.unusedSimpArgs false
set_option linter.unusedSectionVars false
namespace Go.Abs.bZ
open Go Go.Abs Go.Abs.Lex
noncomputable section
theorem Tb (c:UInt8):CQ (c.toNat:Int)=some (mK c):=by
 unfold CQ mK;rw[show decide ((c.toNat:Int)>=97)=decide (97<=c.toNat)from decide_eq_decide.2 (by omega),show decide ((c.toNat:Int)<=122)=decide (c.toNat<=122)from decide_eq_decide.2 (by omega)]
theorem ME (c:UInt8):zY (c.toNat:Int)=some (ji c):=by
 unfold zY ji;rw[show decide ((c.toNat:Int)>=48)=decide (48<=c.toNat)from decide_eq_decide.2 (by omega),show decide ((c.toNat:Int)<=57)=decide (c.toNat<=57)from decide_eq_decide.2 (by omega)]
theorem oK (c:UInt8)(n:Nat):((c.toNat:Int)==(n:Int))=(c.toNat==n):=by
 rw[Bi];simp;omega
theorem aeX (c:UInt8):Gf (c.toNat:Int)=some (iP c):=by
 unfold Gf iP;rw[show((c.toNat:Int)==9)=(c.toNat==9)from oK c 9,show((c.toNat:Int)==10)=(c.toNat==10)from oK c 10,show((c.toNat:Int)==13)=(c.toNat==13)from oK c 13,show((c.toNat:Int)==32)=(c.toNat==32)from oK c 32];cases c.toNat==9<;>cases c.toNat==10<;>cases c.toNat==13<;>cases c.toNat==32<;>rfl
theorem yh{s:aW}{k:Nat}(h:k<s.length):decide ((k:Int)<(s.length:Int))=true:=by simp;exact h
theorem yi{s:aW}{k:Nat}(h:s.length<=k):decide ((k:Int)<(s.length:Int))=false:=by simp;exact h
theorem MF{s:aW}(hl:s.length<4611686018427387904)(p:UInt8->Bool){f:Int->Option (cE Int Int)}(ae:∀(k:Nat) c,s[k]? =some c->f k=some (bif p c then .next (aN (k+1))else .out k))(he:∀k:Nat,s.length<=k->f k=some (.out k)):
  ∀(n k:Nat),k+n=s.length->bO f (k:Int)=some (((k+hP p (s.drop k):Nat)):Int):=by
 intro n
 induction n with
 |zero=>
  intro k ah;rw[hD,he k (by omega),uV (by omega)];rfl
 |succ n ih=>
  intro k ah;have aH:k<s.length:=by omega
  have hx:s[k]? =some s[k]:=by simp[aH]
  rw[hD,ae k _ hx,qm aH,zI];cases hp:p s[k]with
  |true=>
   simp only[cond_true,if_true];rw[ef (by omega),ih (k+1) (by omega)];congr 2;omega
  |false=>rfl
theorem au1{s:aW}(hl:s.length<4611686018427387904){k:Nat}(ah:k<=s.length):bO (Gg s) (k:Int)=some (((k+hP (fun c=>c.toNat != 10) (s.drop k):Nat)):Int):=
 MF hl (fun c=>c.toNat != 10) (fun k c hx=>by
  have aH:=ep hx;simp only[Gg,yh aH,cond_true,cX,hx,aK,bne];rw[show((c.toNat:Int)==10)=(c.toNat==10)from oK c 10];cases c.toNat==10<;>rfl) (fun k ah=>by simp only[Gg,yi ah,cond_false,aK]) (s.length-k) k (by omega)
theorem au2{s:aW}(hl:s.length<4611686018427387904):∀(n k:Nat),k+n=s.length->bO (CP s) (k:Int)=some (((k+hE false (s.drop k):Nat)):Int):=by
 intro n
 induction n using Nat.strongRecOn with
 |ind n ih=>
  intro k ah;rw[hD];rcases gq k s.length with aH|hge
  ·have hx:s[k]? =some s[k]:=by simp[aH]
   have ns:s.drop k=s[k]::s.drop (k+1):=qm aH
   have ae:CP s (k:Int)=bif iP s[k]||(s[k].toNat==35)then(bif s[k].toNat==35 then((bO (Gg s) (k:Int):Option Int).bind fun QT=>some (.next QT))else some (.next (aN ((k:Int)+1))))else some (.out (k:Int)):=by
    simp only[CP,yh aH,cond_true,cX,hx,aK,aeX];rw[show((s[k].toNat:Int)==35)=(s[k].toNat==35)from oK s[k] 35];cases iP s[k]<;>cases s[k].toNat==35<;>rfl
   rw[ae,ns];cases oL:s[k].toNat==35 with
   |true=>
    have uN:s[k].toNat=35:=by simpa using oL
    have hw:iP s[k]=false:=by simp[iP,uN]
    rw[hw];simp only[Ic,cond_true];rw[au1 hl (by omega),ns];simp only[aK];have bu:(fun c:UInt8=>c.toNat != 10) s[k]=true:=by simp[uN]
    have hr:=Kf (s[k]::s.drop (k+1))
    have h0:hE false (s[k]::s.drop (k+1))=hE true (s[k]::s.drop (k+1)):=by
     simp only[hE,hw,gN,if_false,uN,if_true];rfl
    rw[h0,hr];have jb:1<=hP (fun c=>c.toNat != 10) (s[k]::s.drop (k+1)):=by rw[zI,if_pos bu];omega
    have hle:hP (fun c=>c.toNat != 10) (s[k]::s.drop (k+1))<=s.length-k:=by
     have:=xP (fun c=>c.toNat != 10) (s[k]::s.drop (k+1));rw[<-ns,pD]at this;rw[ns]at this;exact this
    generalize aa:hP (fun c=>c.toNat != 10) (s[k]::s.drop (k+1))=R at jb hle⊢;have Tc:(s[k]::s.drop (k+1)).drop R=s.drop (k+R):=by rw[<-ns,tA]
    rw[Tc,ih (s.length-(k+R)) (by omega) (k+R) (by omega)];congr 2;omega
   |false=>
    have Td:¬s[k].toNat=35:=by simpa using oL
    cases hw:iP s[k]with
    |true=>
     simp only[Ib,cond_true,cond_false];rw[ef (by omega),ih (s.length-(k+1)) (by omega) (k+1) (by omega)];simp only[hE,hw,if_true];congr 2;omega
    |false=>
     simp only[Ib,cond_false,hE,hw,gN,if_false,Td];rfl
  ·have e:CP s (k:Int)=some (.out (k:Int)):=by simp only[CP,yi hge,cond_false,aK]
   rw[e,uV hge];rfl
theorem au3{s:aW}(hl:s.length<4611686018427387904){k:Nat}(ah:k<=s.length):Gh s (k:Int)=some ((dJ s k:Nat):Int):=by
 unfold Gh;rw[au2 hl (s.length-k) k (by omega)];rfl
theorem au4:∀w∈syms,1<=w.length/\w.length<=2:=by decide
theorem au5:KX=some (ak.mk syms):=by unfold KX;rfl
theorem MG{s:aW}{a c:Nat}(h1:a<=c)(h2:c<=s.length):qa s (a:Int) (c:Int)=some ((s.take c).drop a):=by
 unfold qa;rw[if_pos (by omega)];simp
theorem aeY{s:aW}(hl:s.length<4611686018427387904){k:Nat}(ah:k<=s.length):Gk s (k:Int)=some ((sym (s.drop k):Nat):Int):=by
 unfold Gk;rw[au5];simp only[aK];have gh:(ak.mk syms).l=syms:=rfl
 rw[Hs (f:=Gj s (k:Int) (ak.mk syms)) (fun j (_:Unit) st=>st=(j:Int)/\j<=18) (fun _ _ w=>bif pre (s.drop k) w then(.inr (.ret (w.length:Int)):Sum Unit (bJ Unit Int))else .inl ()) (fun _=>.go ()) syms (fun j _ w st hx aa=>by
  obtain⟨rfl,hj⟩:=aa;have aH:=ep hx;have hw:=au4 w (e0 hx);have aCd:syms.length=18:=rfl;have hd:decide ((j:Int)<(ak.mk syms).len)=true:=eL aH;have au6:aN ((k:Int)+(w.length:Int))=((k+w.length:Nat):Int):=by rw[gp (by omega) (by omega)];omega
  have ae:Gj s (k:Int) (ak.mk syms) (j:Int)=bif pre (s.drop k) w then some (.out (.ret (w.length:Int)))else some (.next (aN ((j:Int)+1))):=by
   simp only[Gj,hd,cond_true,cX,gh,hx,aK,au6];rw[<-aoI ah];by_cases hle:k+w.length<=s.length
   ·have d1:decide (((k+w.length:Nat):Int)<=(s.length:Int))=true:=by simp;omega
    have d2:decide (k+w.length<=s.length)=true:=by simpa using hle
    rw[d1,d2];simp only[cond_true,MG (show k<=k+w.length by omega) hle,aK,dC]
   ·have d1:decide (((k+w.length:Nat):Int)<=(s.length:Int))=false:=by simp;omega
    have d2:decide (k+w.length<=s.length)=false:=by simpa using hle
    rw[d1,d2];rfl
  rw[ae];cases pre (s.drop k) w with
  |true=>rfl
  |false=>exact⟨_,rfl,ef (by omega),by omega⟩) (fun _ st aa=>by
  obtain⟨rfl,-⟩:=aa;have hd:decide ((syms.length:Int)<(ak.mk syms).len)=false:=fj;simp only[Gj,hd,cond_false]) (a:=()) (s:=0) ⟨rfl,by omega⟩]
 have cn:∀(l:List (List UInt8)) (j:Nat),(match iU (fun _ (_:Unit) w=>bif pre (s.drop k) w then(.inr (.ret ((w.length:Nat):Int)):Sum Unit (bJ Unit Int))else .inl ()) (fun _=>.go ()) j () l with| .go _=>(0:Int)| .ret p=>p)=((wq (s.drop k) l:Nat):Int):=by
  intro l
  induction l with
  |nil=>intro j;rfl
  |cons w ws ih=>
   intro j;simp only[iU,wq];cases pre (s.drop k) w with
   |true=>rfl
   |false=>exact ih (j+1)
 have:=cn syms 0;rw[aoH]at this;rw[<-this];simp only[aK];cases iU (fun _ (_:Unit) w=>bif pre (s.drop k) w then(.inr (.ret ((w.length:Nat):Int)):Sum Unit (bJ Unit Int))else .inl ()) (fun _=>.go ()) 0 () syms<;>rfl
theorem au7:KW=some (ak.mk kw):=by
 unfold KW;exact congrArg (fun l=>some (ak.mk l)) (show _=kw by kernel_rfl)
theorem Te:∀(b:Bool) (s:List UInt8) (c:UInt8) (r:List UInt8),s.drop (hE b s)=c::r->b=false->iP c=false/\c.toNat≠35
 | _,[],c,r,h,_=>by simp at h
 |true,_,_,_,_,h=>by cases h
 |false,x::s,c,r,h,_=>by
  simp only[hE]at h;split at h
  ·rw[TN]at h
   exact Te false s c r h rfl
  ·rename_i hw
   split at h
   ·rename_i oL
    rw[Kf,TN,<-tA]at h;have:=Te false (s.drop (hP (fun c=>c.toNat != 10) s)) c r h rfl;exact this
   ·rename_i oL
    simp only[List.drop_zero,xa]at h;obtain⟨rfl,-⟩:=h;exact⟨by simpa using hw,oL⟩
 termination_by _ s=>s.length
 decreasing_by all_goals simp_wf<;>first|omega|(have:=xP (fun c=>c.toNat != 10) s;omega)
end
end Go.Abs.bZ
namespace Go.Abs.bZ
open Go Go.Abs Go.Abs.Lex
noncomputable section
theorem Tf (c:UInt8):zK (c.toNat:Int)=some (mK c):=by
 unfold zK mK;rw[show decide ((c.toNat:Int)>=97)=decide (97<=c.toNat)from decide_eq_decide.2 (by omega),show decide ((c.toNat:Int)<=122)=decide (c.toNat<=122)from decide_eq_decide.2 (by omega)]
theorem Tg (c:UInt8):zL (c.toNat:Int)=some (ji c):=by
 unfold zL ji;rw[show decide ((c.toNat:Int)>=48)=decide (48<=c.toNat)from decide_eq_decide.2 (by omega),show decide ((c.toNat:Int)<=57)=decide (c.toNat<=57)from decide_eq_decide.2 (by omega)]
theorem au8 (c:UInt8):FI (c.toNat:Int)=some (l0 c):=by
 unfold FI l0;rw[Tf,Tg,show((c.toNat:Int)==95)=(c.toNat==95)from oK c 95];cases mK c<;>cases ji c<;>rfl
theorem aeZ (c:UInt8):Cx (c.toNat:Int)=some (iP c):=by
 unfold Cx iP;rw[show((c.toNat:Int)==9)=(c.toNat==9)from oK c 9,show((c.toNat:Int)==10)=(c.toNat==10)from oK c 10,show((c.toNat:Int)==13)=(c.toNat==13)from oK c 13,show((c.toNat:Int)==32)=(c.toNat==32)from oK c 32];cases c.toNat==9<;>cases c.toNat==10<;>cases c.toNat==13<;>cases c.toNat==32<;>rfl
theorem au9 (c:UInt8):Cy (c.toNat:Int)=some (c.toNat != 10):=by
 unfold Cy bne;rw[show((c.toNat:Int)==10)=(c.toNat==10)from oK c 10]
theorem ae0 (s:aW)(hl:s.length<4611686018427387904){f:Int->Option Bool}{p:UInt8->Bool}(ae:∀c:UInt8,f (c.toNat:Int)=some (p c)):Cw s f=some ((hP p s:Nat):Int):=by
 unfold Cw
 have h:=MF (s:=s) hl p (f:=FG s f) (fun k c hx=>by
  have aH:=ep hx;simp only[FG,yh aH,cond_true,cX,hx,aK,ae];cases p c<;>rfl) (fun k ah=>by simp only[FG,yi ah,cond_false,aK]) s.length 0 (by omega)
 rw[show bO (FG s f) 0=_ from h];simp
theorem ava (s:aW)(hl:s.length<4611686018427387904):FH s=some ((hE false s:Nat):Int):=by
 have key:∀(n k:Nat),k+n=s.length->∃o:bJ Int Int,bO (Cz s) (k:Int)=some o/\(match o with| .go p=>p| .ret p=>p)=((k+hE false (s.drop k):Nat):Int):=by
  intro n
  induction n using Nat.strongRecOn with
  |ind n ih=>
   intro k ah;rw[hD];rcases gq k s.length with aH|hge
   ·have hx:s[k]? =some s[k]:=by simp[aH]
    have ns:s.drop k=s[k]::s.drop (k+1):=qm aH;have zg:qa s (k:Int) (s.length:Int)=some (s.drop k):=by rw[MG (by omega) (aM _),Bh]
    have ae:Cz s (k:Int)=bif iP s[k]then some (.next (aN ((k:Int)+1)))else(bif s[k].toNat==35 then some (.next (aN ((k:Int)+(hP (fun c=>c.toNat != 10) (s.drop k):Nat))))else some (.out (.ret (k:Int)))):=by
     simp only[Cz,yh aH,cond_true,cX,hx,aK,aeZ,zg,ae0 (s.drop k) (by rw[pD];omega) au9];rw[show((s[k].toNat:Int)==35)=(s[k].toNat==35)from oK s[k] 35]
    rw[ae,ns];cases hw:iP s[k]with
    |true=>
     simp only[cond_true];rw[ef (by omega)];obtain⟨o,h1,h2⟩:=ih (s.length-(k+1)) (by omega) (k+1) (by omega);refine⟨o,h1,?_⟩;rw[h2];simp only[hE,hw,if_true];congr 1;omega
    |false=>
     cases oL:s[k].toNat==35 with
     |true=>
      have uN:s[k].toNat=35:=by simpa using oL
      have bu:(fun c:UInt8=>c.toNat != 10) s[k]=true:=by simp[uN]
      have hr:=Kf (s[k]::s.drop (k+1))
      have h0:hE false (s[k]::s.drop (k+1))=hE true (s[k]::s.drop (k+1)):=by
       simp only[hE,hw,gN,if_false,uN,if_true];rfl
      have jb:1<=hP (fun c=>c.toNat != 10) (s[k]::s.drop (k+1)):=by rw[zI,if_pos bu];omega
      have hle:hP (fun c=>c.toNat != 10) (s[k]::s.drop (k+1))<=s.length-k:=by
       have:=xP (fun c=>c.toNat != 10) (s[k]::s.drop (k+1));rw[<-ns,pD]at this;rw[ns]at this;exact this
      rw[h0,hr];generalize aa:hP (fun c=>c.toNat != 10) (s[k]::s.drop (k+1))=R at jb hle⊢;have Tc:(s[k]::s.drop (k+1)).drop R=s.drop (k+R):=by rw[<-ns,tA]
      simp only[cond_true,cond_false];rw[Tc,gp (by omega) (by omega)];obtain⟨o,h1,h2⟩:=ih (s.length-(k+R)) (by omega) (k+R) (by omega);refine⟨o,by rw[show(k:Int)+(R:Int)=((k+R:Nat):Int) by omega];exact h1,?_⟩;rw[h2];congr 1;omega
     |false=>
      have Td:¬s[k].toNat=35:=by simpa using oL
      refine⟨.ret (k:Int),rfl,?_⟩;simp only[hE,hw,gN,if_false,Td];simp
   ·refine⟨.go (k:Int),by simp only[Cz,yi hge,cond_false],?_⟩
    rw[uV hge];simp[hE]
 obtain⟨o,h1,h2⟩:=key s.length 0 (by omega);unfold FH;rw[show bO (Cz s) 0=_ from h1];simp only[er,List.drop_zero]at h2;cases o<;>simp_all
theorem avb (s w:aW):Kk s w=some (pre s w):=by
 unfold Kk Qn pre;by_cases h:w.length<=s.length
 ·have d:decide ((s.length:Int)>=(w.length:Int))=true:=by simp;exact h
  have hs:qa s 0 (w.length:Int)=some (s.take w.length):=by
   have:=MG (s:=s) (a:=0) (c:=w.length) (cI _) h;simpa using this
  rw[d,hs];rfl
 ·have d:decide ((s.length:Int)>=(w.length:Int))=false:=by simp;omega
  have e:(s.take w.length==w)=false:=by
   rw[MV (by omega),Bool.eq_false_iff];intro eS;have:=congrArg List.length (eq_of_beq eS);omega
  rw[d,e];rfl
theorem ae1 (s:aW):Cv s=some ((sym s:Nat):Int):=by
 unfold Cv;have hl:(ak.mk two).l=two:=rfl
 rw[show bO (FE s) 0=some (bif two.any (pre s)then .ret ()else .go ())from lE (f:=FE s) two (by decide) (pre s) (fun k x hx=>by
  have hd:decide ((k:Int)<(ak.mk [[61,61],[33,61],[60,61],[62,61],[46,46]]).len)=true:=eL (show k<two.length from ep hx);have bx:([[61,61],[33,61],[60,61],[62,61],[46,46]]:List aW)[k]? =some x:=hx;simp only[FE,hd,cond_true,ak.l,cX,bx,aK,avb];cases pre s x<;>rfl) (by
  have hd:decide ((two.length:Int)<(ak.mk [[61,61],[33,61],[60,61],[62,61],[46,46]]).len)=false:=by decide
  simp only[FE,hd,cond_false])]
 unfold sym;cases h:two.any (pre s)with
 |true=>rfl
 |false=>
  simp only[cond_false,aK,gN,if_false];cases s with
  |nil=>rfl
  |cons c r=>
   have bu:((c::r) != ([]:aW))=true:=rfl;have hi:aP (c::r) 0=some c:=rfl;have hu:UInt8.ofNat ((c.toNat:Int)).toNat=c:=by simp
   rw[bu,hi];simp only[cond_true,aK,strings_IndexByte,hu];rw[show decide (Lib.indexByte [60,62,61,43,45,42,40,41,123,125,44,58,59] c>=0)=Lex.one.contains c from aoE Lex.one c];cases Lex.one.contains c<;>rfl
theorem avc (c:UInt8)(r:aW):FF (c::r)=some (oA (c::r)):=by
 unfold FF oA;have hi:aP (c::r) 0=some c:=rfl;rw[hi];simp only[aK,Tf,Tg,ae1];have hd:decide (((sym (c::r):Nat):Int)>0)=decide (0<sym (c::r)):=decide_eq_decide.2 (by omega);rw[hd];cases mK c<;>cases ji c<;>rfl
end
end Go.Abs.bZ
namespace Go.Abs.bZ
open Go Go.Abs Go.Abs.Lex
noncomputable section
variable{ad:Nat->Option cb}
section
variable{call:c1}{ai:aj->V}{H:Heap}{low:Nat}
theorem tn (x:aj):cf call ai H low (.len 0 x)=match ai x with
  | .str s=>some (.int .i64 s.length,H,low)
  | _=>none:=by
 show step ai H low (.len 0 x)=_;cases hx:ai x<;>simp[step,hx]
theorem wZ (x i:aj):cf call ai H low (.rn x i)=match ai x,kU (ai i)with
 | .str s,some i=>(s[i]?).map fun c=>(.int .u8 c.toNat,H,low)
 | _,_=>none:=rfl
theorem Dz (x:aj)(lo hi:Option aj):cf call ai H low (.qs x lo hi)=match ai x with
 | .str s=>match e5 ai 0 lo,e5 ai s.length hi with
   |some a,some b=>if a<=b/\b<=s.length then some (.str ((s.take b).drop a),H,low)else none
   | _,_=>none
 | _=>none:=rfl
end
structure n0 (ad:Nat->Option cb):Prop where
 letter:adu ad
 digit:adv ad
 part:adw ad
 avd:adx ad
 Dl:ady ad
 symbol:adz ad
 run:adA ad
 skip:adB ad
 nl:adC ad
 ave:ad 356=some (.code adF)
 avf:ad 357=some (.code adG)
 avg:ad 251=some (.code adD)
 avh:ad 233=some (.code Ho)
 avi:∃sp,ad 424=some (.ext sp)/\sp [.str Kg]=some (.list 1 (kw.map .str))
def aS (ad:Nat->Option cb)(f:V)(args:List V)(H:Heap)(v:V):Prop:=cl ad f args H=some (v,H,H.length)
def bv (c:UInt8):V:=.int .u8 c.toNat
theorem avj (T:n0 ad)(c:UInt8)(H:Heap):aS ad (.fn 359 [] []) [bv c] H (.bool (mK c)):=T.letter H _ _ (Tf c)
theorem ae2 (T:n0 ad)(c:UInt8)(H:Heap):aS ad (.fn 362 [] []) [bv c] H (.bool (ji c)):=T.digit H _ _ (Tg c)
theorem avk (T:n0 ad)(c:UInt8)(H:Heap):aS ad (.fn 361 [] []) [bv c] H (.bool (l0 c)):=T.part H _ _ (au8 c)
theorem avl (T:n0 ad)(c:UInt8)(H:Heap):aS ad (.fn 364 [] []) [bv c] H (.bool (iP c)):=T.avd H _ _ (aeZ c)
theorem avm (T:n0 ad)(c:UInt8)(r:List UInt8)(H:Heap):aS ad (.fn 365 [] []) [.str (c::r)] H (.bool (oA (c::r))):=T.Dl H _ _ (avc c r)
theorem avn (T:n0 ad)(s:List UInt8)(H:Heap):aS ad (.fn 363 [] []) [.str s] H (.int .i64 (sym s)):=T.symbol H _ _ (ae1 s)
theorem avo (T:n0 ad){s:List UInt8}{H:Heap}(hl:s.length<4611686018427387904):aS ad (.fn 358 [] []) [.str s] H (.int .i64 (hE false s)):=T.skip H _ _ (ava s hl)
theorem ae3 (T:n0 ad){s:List UInt8}{p:UInt8->Bool}{i:Nat}{H:Heap}(hl:s.length<4611686018427387904)(ae:∀(c:UInt8) H,aS ad (.fn i [] []) [bv c] H (.bool (p c))):
  aS ad (.fn 360 [] []) [.str s,.fn i [] []] H (.int .i64 (hP p s)):=
 T.run H [] (Own.nil H) s (fun n=>if 0<=n/\n<256 then some (p (UInt8.ofNat n.toNat))else none) (.fn i [] []) (fun H low=>by simp[fR,ei,bQ,cx]) (fun H' z q _ aI=>by
   split at aI
   ·rename_i h
    cases aI;have:=ae (UInt8.ofNat z.toNat) H';unfold aS bv at this
    have e:((UInt8.ofNat z.toNat).toNat:Int)=z:=by
     rw[UInt8.toNat_ofNat'];omega
    rw[e]at this;exact this
   ·cases aI) _ (ae0 s hl fun c=>by
   have h1:c.toNat<256:=c.toNat_lt;rw[if_pos ⟨by omega,by omega⟩];simp)
def A4 (l:List (List UInt8))(k:Nat):List (V × V):=(l.take k).foldl (fun e s=>lI 1 (.str s) (.bool true) e) []
def w0:List (V × V):=kw.map fun s=>(V.str s,V.bool true)
theorem avp:A4 kw 35=w0:=by kernel_rfl
theorem avq (T:n0 ad)(H:Heap):cl ad (.fn 424 [] []) [.str Kg] H=some (.list 1 (kw.map .str),H,H.length):=by
 obtain⟨sp,h1,h2⟩:=T.avi;rw[ny,h1];simp[h2,cx,bQ]
def strKeys (es:List (V × V)):Prop:=∀p∈es,∃t,p.1=V.str t
theorem avr{es:List (V × V)}(h:strKeys es)(s:List UInt8)(v:V):strKeys (lI 1 (.str s) v es):=by
 induction es with
 |nil=>intro p hp;simp[lI]at hp;exact⟨s,by rw[hp]⟩
 |cons q es ih=>
  obtain⟨t,ht⟩:=h q (by simp);obtain⟨a,b⟩:=q;simp only at ht;subst ht;simp only[lI,iZ];split
  ·intro p hp
   rcases dL.1 hp with rfl|hp
   ·exact⟨s,rfl⟩
   ·exact h p (by simp[hp])
  ·intro p hp
   rcases dL.1 hp with rfl|hp
   ·exact⟨t,rfl⟩
   ·exact ih (fun p hp=>h p (by simp[hp])) p hp
theorem avs{es:List (V × V)}(h:strKeys es)(s:List UInt8):∃o,iu 1 (.str s) es=some o:=by
 induction es with
 |nil=>exact⟨none,rfl⟩
 |cons q es ih=>
  obtain⟨t,ht⟩:=h q (by simp);obtain⟨a,b⟩:=q;simp only at ht;subst ht;obtain⟨o,ho⟩:=ih (fun p hp=>h p (by simp[hp]));simp only[iu,iZ];cases(s==t)with
  |true=>exact⟨some b,rfl⟩
  |false=>exact⟨o,ho⟩
theorem avt (l:List (List UInt8))(k:Nat):strKeys (A4 l k):=by
 unfold A4;generalize l.take k=m
 have:∀(m:List (List UInt8)) e,strKeys e->strKeys (m.foldl (fun e s=>lI 1 (.str s) (.bool true) e) e):=by
  intro m
  induction m with
  |nil=>intro e h;exact h
  |cons a m ih=>intro e h;exact ih _ (avr h _ _)
 exact this m [] (fun p hp=>by cases hp)
theorem avu{l:List (List UInt8)}{k:Nat}{s:List UInt8}(h:l[k]? =some s):A4 l (k+1)=lI 1 (.str s) (.bool true) (A4 l k):=by
 unfold A4;rw[tv,h];simp
theorem avv (s:List UInt8):iu 1 (.str s) w0=some (if kw.contains s then some (.bool true)else none):=by
 unfold w0;generalize kw=l
 induction l with
 |nil=>rfl
 |cons a l ih=>
  simp only[eG,iu,iZ,List.contains_cons];cases aCe:(s==a)with
  |true=>rfl
  |false=>simp[ih]
theorem HI{H:Heap}{p:Nat}{o:cD}(h:H[p]? =some o)(t:Heap):(H++t)[p]? =some o:=by
 have hp:p<H.length:=by
  rcases gq p H.length with h1|h1
  ·exact h1
  ·rw[nt h1]at h;cases h
 rw[gM hp,h]
set_option maxHeartbeats 1000000 in
theorem avw (T:n0 ad)(H:Heap):cl ad (.fn 356 [] []) [] H=some (.map H.length,H++[.map w0],H.length):=by
 have key:=akS (ad:=ad) (b:=8) (n:=6) (i:=7) (t:=13) (blk:=1) (ex:=0) (body:=Si)
  (I:=fun k st=>st.H=H++[.map (A4 kw k)]/\st.low=H.length/\bR st.aw 1=.map H.length/\bR st.aw 5=.list 1 (kw.map .str)/\bR st.aw 7=.int .i64 k/\bR st.aw 6=.int .i64 (35:Nat))
  (Q:=fun x st=>st.H=H++[.map w0]/\st.low=H.length/\x=.exit 0/\bR st.aw 1=.map H.length)
  (N:=35) (by decide) (by decide) (by decide)
  (fun k st h=>⟨h.2.2.2.2.1,h.2.2.2.2.2,by rw[h.1,h.2.1];simp⟩)
  (by
    rintro k st ah ⟨h1,h2,av,bc,h5,gb⟩;obtain⟨w,hn⟩:∃w,kw[k]? =some w:=⟨_,jI (by rw[Qj];exact ah)⟩;have gh:zt 1 (V.list 1 (kw.map .str))=true:=rfl;have bx:(el (V.list 1 (kw.map .str)))[k]? =some (.str w):=by simp[el,hn]
    have Mt:aF (V.str w)=[V.str w]:=rfl;obtain⟨o,ho⟩:=avs (avt kw k) w;refine⟨.normal,_,by simp[Si,gu,gF,hR,kW,mi,nw,nx,qy,mY,c5,gE,qN,o8,nj,p5,p6,qP,rV,qO,nJ,rU,vT,aj.ai,bR,gy,au.put,et,pF,pE,e4,fR,ei,bQ,cx,hK,kC,finish,old,olds,flat,lx,sg,jN,iq,aF,S.R,S.q,S.k,S.rt,S.iL,S.cy,S.e,S.r,S.o,S.n,S.rg,S.m,S.ck,S.ls,S.dA,S.eq,S.ne,S.lt,S.gt,S.dh,S.no,S.j1,S.st,S.gX,S.iK,S.k7,S.ex,S.c,S.cs,S.km,S.k6,S.z,S.fn,S.jr,h1,h2,av,bc,h5,gb,akR,gh,bx,Xb,step,ho,u3,-List.getElem?_map];rfl,?_⟩;simp only[true_or,if_true,gy,h1,h2];refine⟨by simp[h5],by simp,by simp[avu hn],by simp,by simp[av],by simp[bc],by simp,by simp[gb]⟩)
  (by
    rintro st ⟨h1,h2,av,bc,h5,gb⟩;exact⟨by rw[h1,avp],h2,rfl,by simp[gy,av]⟩)
 obtain⟨x,aX,h1,h2,av,rfl,bc⟩:=key 35 0 {aG:=[],aw:=[(0,.h7),(1,.map H.length),(5,.list 1 (kw.map .str)),(6,.int .i64 35),(7,.int .i64 0)],H:=H++[.map []],low:=H.length} (by omega)
  ⟨rfl,rfl,rfl,rfl,rfl,rfl⟩
 have hx:=avq T (H++[.map []]);simp only[Kg]at hx;have hlen:(el (V.list 1 (kw.map .str))).length=35:=by simp[el,Qj]
 have gh:zt 1 (V.list 1 (kw.map .str))=true:=rfl;rw[ny,T.ave];simp[adF,gu,gF,hR,kW,mi,nw,nx,qy,mY,c5,gE,qN,o8,nj,p5,p6,qP,rV,qO,nJ,rU,vT,aj.ai,bR,fN,au.put,et,pF,pE,e4,fR,ei,bQ,cx,hK,kC,finish,old,olds,flat,lx,sg,jN,iq,aF,S.R,S.q,S.k,S.rt,S.iL,S.cy,S.e,S.r,S.o,S.n,S.rg,S.m,S.ck,S.ls,S.dA,S.eq,S.ne,S.lt,S.gt,S.dh,S.no,S.j1,S.st,S.gX,S.iK,S.k7,S.ex,S.c,S.cs,S.km,S.k6,S.z,S.fn,S.jr,W9,Xd 1,gh,hlen,hx,h1,h2,av,bc,gy,fm]
set_option maxHeartbeats 1000000 in
theorem avx (T:n0 ad)(s:List UInt8)(H:Heap):cl ad (.fn 251 [] []) [.str s] H=some (.fn 357 [] [.ptr H.length 0,.ptr (H.length+2) 0],H++[.cells [.str s],.map w0,.cells [.map (H.length+1)]],H.length):=by
 have ah:=avw T (H++[.cells [.str s]]);simp only[e1,dE,eF,er,jJ,ky,ke]at ah;rw[ny,T.avg];simp[adD,gu,gF,hR,kW,mi,nw,nx,qy,mY,c5,gE,qN,o8,nj,p5,p6,qP,rV,qO,nJ,rU,vT,aj.ai,bR,fN,au.put,et,pF,pE,e4,fR,ei,bQ,cx,hK,kC,finish,old,olds,flat,lx,sg,jN,iq,aF,S.R,S.q,S.k,S.rt,S.iL,S.cy,S.e,S.r,S.o,S.n,S.rg,S.m,S.ck,S.ls,S.dA,S.eq,S.ne,S.lt,S.gt,S.dh,S.no,S.j1,S.st,S.gX,S.iK,S.k7,S.ex,S.c,S.cs,S.km,S.k6,S.z,S.fn,S.jr,PO,bX,eH,ah,mH,jO,setCells,fm]
end
end Go.Abs.bZ
namespace Go.Abs.bZ
open Go Go.Abs Go.Abs.Lex
noncomputable section
variable{ad:Nat->Option cb}
attribute [local simp] gu gF hR kW mi nw nx qy mY c5 gE qN o8 nj p5 p6 qP rV qO nJ rU vT aj.ai bR gy au.put et pF pE e4 fR ei bQ cx hK kC finish old olds flat lx sg jN iq aF S.R S.q S.k S.rt S.iL S.cy S.e S.r S.o S.n S.rg S.m S.ck S.ls S.dA S.eq S.ne S.lt S.gt S.dh S.no S.j1 S.st S.gX S.iK S.k7 S.ex S.c S.cs S.km S.k6 S.z S.fn S.jr
set_option maxHeartbeats 1000000 in
theorem ae4 (T:n0 ad){s:List UInt8}{H:Heap}{lo:Nat}(hl:s.length<4611686018427387904)(fO:min lo H.length=lo):
  ∀(r:List UInt8) (k:Nat) (st:au),s.drop k=r->k<=s.length->st.H=H->st.low=lo->bR st.aw 6=.str s->bR st.aw 7=.int .i64 k->
   ∃aX,dz ad (.loop x3) st=some (.exit 3,aX)/\aX.H=H/\aX.low=lo/\bR aX.aw 7=.int .i64 ((k+l1 r:Nat):Int)/\∀t,t<7->bR aX.aw t=bR st.aw t
 |[],k,st,hr,ah,h1,h2,gb,lu=>by
  have hle:=drop_nil hr;have hn:¬(k:Int)<(s.length:Int):=by omega
  rw[ru];refine⟨_,by simp[x3,tn,h1,h2,gb,lu,hn,fO];rfl,?_⟩;simp only[gy,h1,h2,l1];exact⟨by simp,by first|(simp[fO,mw];done)|(simp[fO];done)|(simp;omega)|omega,by simp[lu],fun t ht=>by simp[show t≠44 by omega]⟩
 |c::r,k,st,hr,ah,h1,h2,gb,lu=>by
  obtain⟨g1,g2,g3⟩:=drop_cons hr;have hn:(k:Int)<(s.length:Int):=by omega
  have hc:=avl T c H;have ae5:=avm T c r H;unfold aS bv at hc;unfold aS at ae5;have hb:cl ad (.fn 365 [] []) [V.str (s.drop k)] H=some (.bool (oA (c::r)),H,H.length):=by rw[hr];exact ae5
  have bx:∀h:k<s.length,s[k]'h=c:=fun h=>by rw[jI h]at g1;exact yv g1
  have sG:k<=s.length:=by omega
  have hw:IntKind.i64.wrap ((k:Int)+1)=((k+1:Nat):Int):=by rw[wrap_small]<;>omega
  have uN:((c.toNat:Int) != 35)=!(c.toNat==35):=by simp only[bne,show((c.toNat:Int)==35)=(c.toNat==35)from oK c 35]
  by_cases DA:(iP c||c.toNat==35||oA (c::r))=true
  ·have aI:l1 (c::r)=0:=by simp only[l1,DA,if_true]
   rw[ru,aI];cases hW:iP c with
   |true=>
    rw[hW]at hc;refine⟨_,by simp[x3,tn,wZ,h1,h2,gb,lu,hn,bx,g3,hc,fO];rfl,?_⟩;simp only[gy,h1,h2];exact⟨by simp,by first|(simp[fO,mw];done)|(simp[fO];done)|(simp;omega)|omega,by simp[lu],fun t ht=>by simp[show t≠44 by omega]⟩
   |false=>
    rw[hW]at hc;cases oL:(c.toNat==35)with
    |true=>
     refine⟨_,by simp[x3,tn,wZ,h1,h2,gb,lu,hn,bx,g3,hc,uN,oL,fO];rfl,?_⟩;simp only[gy,h1,h2];exact⟨by simp,by first|(simp[fO,mw];done)|(simp[fO];done)|(simp;omega)|omega,by simp[lu],fun t ht=>by simp[show t≠44 by omega]⟩
    |false=>
     have avy:oA (c::r)=true:=by simpa[hW,oL]using DA
     rw[avy]at hb;refine⟨_,by simp[x3,tn,wZ,Dz,e5,sG,h1,h2,gb,lu,hn,bx,g3,hc,hb,uN,oL,fO];rfl,?_⟩;simp only[gy,h1,h2];exact⟨by simp,by first|(simp[fO,mw];done)|(simp[fO];done)|(simp;omega)|omega,by simp[lu],fun t ht=>by simp[show t≠44 by omega]⟩
  ·have aI:l1 (c::r)=l1 r+1:=by simp only[l1,DA,if_false];simp
   have hW:iP c=false:=by cases h:iP c<;>simp[h]at DA⊢
   have oL:(c.toNat==35)=false:=by cases h:(c.toNat==35)<;>simp[h]at DA⊢
   have avz:oA (c::r)=false:=by cases h:oA (c::r)<;>simp[h]at DA⊢
   rw[hW]at hc;rw[avz]at hb
   have Hx:∃cm,dz ad x3 st=some (.normal,cm)/\cm.H=H/\cm.low=lo/\bR cm.aw 7=.int .i64 ((k+1:Nat):Int)/\∀t,t<7->bR cm.aw t=bR st.aw t:=by
    refine⟨_,by simp[x3,tn,wZ,Dz,e5,sG,h1,h2,gb,lu,hn,bx,g3,hc,hb,uN,oL,fO,hw];rfl,?_⟩;simp only[gy,h1,h2];exact⟨by simp,by first|(simp[fO,mw];done)|(simp[fO];done)|(simp;omega)|omega,by simp,fun t ht=>by simp[show t≠44 by omega,show t≠7 by omega]⟩
   obtain⟨cm,q1,aT,b3,cZ,fq⟩:=Hx;obtain⟨aX,bH,cw,ff,gW,jv⟩:=ae4 T hl fO r (k+1) cm g2 (by omega) aT b3 (by rw[fq 6 (by decide)];exact gb) cZ;refine⟨aX,by rw[ru,q1];exact bH,cw,ff,?_,fun t ht=>(jv t ht).trans (fq t ht)⟩;rw[gW,aI];simp;omega
set_option maxHeartbeats 2000000 in
theorem avA (T:n0 ad){s:List UInt8}{H:Heap}{lo p2 m:Nat}{a b:Int}(hl:s.length<4611686018427387904)(iH:lo<=H.length)(g2:H[p2]? =some (.cells [.map m]))(MH:H[m]? =some (.map w0))
  {st:au} (h1:st.H=H++[.cells [.int .i64 0,.int .i64 a,.int .i64 b,.int .i64 0]]) (h2:st.low=lo) (kY:bR st.aw 2=.ptr p2 0) (A5:bR st.aw 5=.ptr H.length 0) (yj:bR st.aw 6=.str s) (r7:bR st.aw 7=.int .i64 0):
  ∃aX,dz ad wQ st=some (.normal,aX)/\aX.H=H++[.cells [.int .i64 (iQ s),.int .i64 a,.int .i64 b,.int .i64 0]]/\aX.low=lo/\bR aX.aw 7=.int .i64 (la s)/\∀t,t<7->bR aX.aw t=bR st.aw t:=by
 have fO:min lo H.length=lo:=n6 iH;have mw:min lo (H.length+1)=lo:=n6 (by omega);have Th:=fun t=>HI g2 t;have Ti:=fun t=>HI MH t;cases s with
 |nil=>
  refine⟨_,by simp[wQ,h1,h2,kY,A5,yj,r7,fO,mw];rfl,?_⟩;simp only[gy,h1,h2,iQ,la];exact⟨by simp,by first|(simp[fO,mw];done)|(simp[fO];done)|(simp;omega)|omega,by simp[r7],fun t ht=>by simp[show t≠47 by omega]⟩
 |cons c r=>
  have bu:((c::r)==[])=false:=rfl;have dY:=avj T c (H++[.cells [.int .i64 0,.int .i64 a,.int .i64 b,.int .i64 0]]);have lW:=ae2 T c (H++[.cells [.int .i64 0,.int .i64 a,.int .i64 b,.int .i64 0]]);have aD:=avn T (c::r) (H++[.cells [.int .i64 0,.int .i64 a,.int .i64 b,.int .i64 0]]);have MI:=ae3 T (s:=c::r) (p:=l0) (i:=361) (H:=H++[.cells [.int .i64 0,.int .i64 a,.int .i64 b,.int .i64 0]]) hl (fun c H=>avk T c H);have Tj:=ae3 T (s:=c::r) (p:=ji) (i:=362) (H:=H++[.cells [.int .i64 0,.int .i64 a,.int .i64 b,.int .i64 0]]) hl (fun c H=>ae2 T c H);unfold aS bv at dY lW;unfold aS at aD MI Tj;simp only[e1,dE,eF,er]at dY lW aD MI Tj;have pR:=xP l0 (c::r);have MJ:=avv ((c::r).take (hP l0 (c::r)));cases al:mK c with
  |true=>
   rw[al]at dY;generalize hn:hP l0 (c::r)=n at*;have ae6:n<=r.length+1:=pR;cases a2:kw.contains ((c::r).take n)with
   |true=>
    rw[a2]at MJ;have w1:iQ (c::r)=2:=by simp only[iQ,al,if_true,hn,a2]
    have el:la (c::r)=n:=by simp only[la,al,if_true,hn]
    rw[w1,el];refine⟨_,by simp[wQ,h1,h2,kY,A5,yj,r7,fO,mw,bu,wZ,kU,dY,MI,mH,ox,jO,bX,eH,setCells,Dz,e5,pR,JQ,step,Th,Ti,MJ,ae6,fm,rp,xh,-List.take_succ_cons];rfl,?_⟩;simp only[gy,h1,h2];exact⟨by simp,by first|(simp[fO,mw];done)|(simp;omega)|omega,by simp,fun t ht=>by simp[show t≠47 by omega,show t≠50 by omega,show t≠61 by omega,show t≠7 by omega]⟩
   |false=>
    rw[a2]at MJ;have w1:iQ (c::r)=1:=by simp only[iQ,al,if_true,hn,a2];rfl
    have el:la (c::r)=n:=by simp only[la,al,if_true,hn]
    rw[w1,el];refine⟨_,by simp[wQ,h1,h2,kY,A5,yj,r7,fO,mw,bu,wZ,kU,dY,MI,mH,ox,jO,bX,eH,setCells,Dz,e5,pR,JQ,step,Th,Ti,MJ,ae6,fm,rp,xh,-List.take_succ_cons];rfl,?_⟩;simp only[gy,h1,h2];exact⟨by simp,by first|(simp[fO,mw];done)|(simp;omega)|omega,by simp,fun t ht=>by simp[show t≠47 by omega,show t≠50 by omega,show t≠61 by omega,show t≠7 by omega]⟩
  |false=>
   rw[al]at dY;cases a2:ji c with
   |true=>
    rw[a2]at lW;have w1:iQ (c::r)=3:=by simp only[iQ,al,a2,if_true];rfl
    have el:la (c::r)=hP ji (c::r):=by simp only[la,al,a2,if_true];rfl
    rw[w1,el];refine⟨_,by simp[wQ,h1,h2,kY,A5,yj,r7,fO,mw,bu,wZ,kU,dY,lW,Tj,mH,ox,jO,bX,eH,setCells];rfl,?_⟩;simp only[gy,h1,h2];exact⟨by simp,by first|(simp[fO,mw];done)|(simp;omega)|omega,by simp,fun t ht=>by simp[show t≠47 by omega,show t≠50 by omega,show t≠63 by omega,show t≠7 by omega]⟩
   |false=>
    rw[a2]at lW;by_cases a3:0<sym (c::r)
    ·have w1:iQ (c::r)=4:=by simp only[iQ,al,a2,a3,if_true];rfl
     have el:la (c::r)=sym (c::r):=by simp only[la,al,a2,a3,if_true];rfl
     rw[w1,el];refine⟨_,by simp[wQ,h1,h2,kY,A5,yj,r7,fO,mw,bu,wZ,kU,dY,lW,aD,a3,mH,ox,jO,bX,eH,setCells];rfl,?_⟩;simp only[gy,h1,h2];exact⟨by simp,by first|(simp[fO,mw];done)|(simp;omega)|omega,by simp,fun t ht=>by simp[show t≠47 by omega,show t≠50 by omega,show t≠63 by omega,show t≠70 by omega,show t≠7 by omega]⟩
    ·have w1:iQ (c::r)=5:=by simp only[iQ,al,a2,a3,if_false];rfl
     have el:la (c::r)=l1 r+1:=by simp only[la,al,a2,a3,if_false];rfl
     rw[w1,el]
     obtain⟨cm,q1,aT,b3,cZ,fq⟩:=ae4 T (s:=c::r) (H:=H++[.cells [.int .i64 5,.int .i64 a,.int .i64 b,.int .i64 0]]) (lo:=lo) hl (by simp;omega) r 1
      {aG:=[],aw:=fN (fN (fN (fN (fN st.aw 47 (.bool false)) 50 (.bool false)) 63 (.bool false)) 70 (.bool false)) 7 (.int .i64 1),H:=H++[.cells [.int .i64 5,.int .i64 a,.int .i64 b,.int .i64 0]],low:=lo,ro:=st.ro} rfl (by simp) rfl rfl (by simp[gy,yj]) (by simp[gy])
     refine⟨cm,by simp[wQ,h1,h2,kY,A5,yj,r7,fO,mw,bu,wZ,kU,dY,lW,aD,a3,mH,ox,jO,bX,eH,setCells,q1],aT,b3,?_,fun t ht=> ?_⟩
     ·rw[cZ];simp;omega
     ·rw[fq t ht];simp[gy,show t≠47 by omega,show t≠50 by omega,show t≠63 by omega,show t≠70 by omega,show t≠7 by omega]
end
end Go.Abs.bZ
namespace Go.Abs.bZ
open Go Go.Abs Go.Abs.Lex
noncomputable section
variable{ad:Nat->Option cb}
attribute [local simp] gu gF hR kW mi nw nx qy mY c5 gE qN o8 nj p5 p6 qP rV qO nJ rU vT aj.ai bR gy au.put et pF pE e4 fR ei bQ cx hK kC finish old olds flat lx sg jN iq aF S.R S.q S.k S.rt S.iL S.cy S.e S.r S.o S.n S.rg S.m S.ck S.ls S.dA S.eq S.ne S.lt S.gt S.dh S.no S.j1 S.st S.gX S.iK S.k7 S.ex S.c S.cs S.km S.k6 S.z S.fn S.jr
theorem avB:Mg=.block 1 (.seq Md (.seq Me (.seq Mf (.seq (.block 2 wQ) Dk)))):=rfl
def A6 (s:List UInt8)(fL:Nat):List V:=[.int .i64 (iQ (s.drop (dJ s fL))),.int .i64 fL,.int .i64 (dJ s fL),.int .i64 (hF s fL)]
set_option maxHeartbeats 2000000 in
theorem avC (T:n0 ad){s:List UInt8}{H H2:Heap}{p1 p2 m L fL dM m0:Nat}{b:Bool}(hl:s.length<4611686018427387904)(iw:fL<=s.length)(g1:H[p1]? =some (.cells [.str s]))(g2:H[p2]? =some (.cells [.map m]))(MH:H[m]? =some (.map w0))
  {st:au} (h1:st.H=H) (h2:m0<=st.low) (xr:st.low<=H.length) (o5:bR st.aw 0=.yield L) (ck:bR st.aw 1=.ptr p1 0) (kY:bR st.aw 2=.ptr p2 0) (Ab:bR st.aw 4=.int .i64 fL)
  (hy:cl ad (.yield L) [.agg (A6 s fL)] (H++[.cells (A6 s fL)])=some (.bool b,H2,dM)) (y4:dM<=H.length) (fO:m0<=dM) (aCf:m0<=H2.length) (Jk:b=true->H2[H.length]? =some (.cells (A6 s fL))):
  ∃x aX,dz ad Mg st=some (x,aX)/\x=(if b&&decide (iQ (s.drop (dJ s fL))≠0)then .normal else .ret)/\aX.H=H2/\m0<=aX.low/\aX.low<=dM/\bR aX.aw 4=.int .i64 (hF s fL)/\∀t,t<4->bR aX.aw t=bR st.aw t:=by
 have avD:=fun t=>HI g1 t;have Th:=fun t=>HI g2 t;have Ti:=fun t=>HI MH t;obtain⟨lo,iH⟩:∃lo,st.low=lo:=⟨_,rfl⟩;rw[iH]at h2 xr;have om:min lo H.length=lo:=n6 xr;have lR:min lo (H.length+1)=lo:=n6 (by omega);have HJ:=avo T (s:=s.drop fL) (H:=H) (by rw[pD];omega);unfold aS at HJ;have avE:=Qk iw;have aCg:=Ql iw
 have avF:IntKind.i64.wrap ((fL:Int)+(hE false (s.drop fL):Int))=(dJ s fL:Int):=by
  have e:(fL:Int)+(hE false (s.drop fL):Int)=(dJ s fL:Int):=by unfold dJ;omega
  rw[e,wrap_small]<;>omega
 have vP:IntKind.i64.wrap ((dJ s fL:Int)+(la (s.drop (dJ s fL)):Int))=(hF s fL:Int):=by
  have e:(dJ s fL:Int)+(la (s.drop (dJ s fL)):Int)=(hF s fL:Int):=by unfold hF;omega
  rw[e,wrap_small]<;>omega
 have A:∃cm,dz ad Md st=some (.normal,cm)/\cm.H=H++[.cells [.int .i64 0,.int .i64 fL,.int .i64 (dJ s fL),.int .i64 0]]/\cm.low=lo/\bR cm.aw 5=.ptr H.length 0/\∀t,t<5->bR cm.aw t=bR st.aw t:=by
  refine⟨_,by simp[Md,h1,iH,Ab,ck,g1,Dz,e5,iw,HJ,avF,step,u4,setCells,bX,eH,mH,jO,om,lR];rfl,?_⟩;simp only[gy,h1];exact⟨by simp[setCells,aj.ai,bR,aF],by first|(simp[om,lR];done)|(simp;omega),by simp,fun t ht=>by simp[show t≠5 by omega]⟩
 obtain⟨cm,al,a2,a3,a4,a5⟩:=A
 have B:∃gP,dz ad Me cm=some (.normal,gP)/\gP.H=cm.H/\gP.low=lo/\bR gP.aw 6=.str (s.drop (dJ s fL))/\∀t,t<6->bR gP.aw t=bR cm.aw t:=by
  have dQ:bR cm.aw 1=.ptr p1 0:=(a5 1 (by decide)).trans ck;refine⟨_,by simp[Me,a2,a3,a4,dQ,avD,ox,Dz,e5,avE,om,lR];rfl,?_⟩;simp only[gy,a2];exact⟨by simp,by first|(simp[om,lR];done)|(simp;omega),by simp,fun t ht=>by simp[show t≠6 by omega]⟩
 obtain⟨gP,dQ,fY,jG,lk,vb⟩:=B
 have avG:∃lU,dz ad Mf gP=some (.normal,lU)/\lU.H=cm.H/\lU.low=lo/\bR lU.aw 7=.int .i64 0/\∀t,t<7->bR lU.aw t=bR gP.aw t:=by
  refine⟨_,by simp[Mf,fY,jG,a2,om,lR];rfl,?_⟩;simp only[gy,a2,fY];exact⟨by simp,by first|(simp[om,lR];done)|(simp;omega),by simp,fun t ht=>by simp[show t≠7 by omega]⟩
 obtain⟨lU,dk,eu,fe,ix,iz⟩:=avG
 obtain⟨HK,d1,d3,d4,d5,d6⟩:=avA T (s:=s.drop (dJ s fL)) (H:=H) (lo:=lo) (by rw[pD];omega) xr g2 MH (st:=lU) (eu.trans a2) fe
  (by rw[iz 2 (by decide),vb 2 (by decide),a5 2 (by decide)];exact kY) (by rw[iz 5 (by decide),vb 5 (by decide)];exact a4) (by rw[iz 6 (by decide)];exact lk) ix
 have ey:∀t,t<5->bR HK.aw t=bR st.aw t:=fun t ht=>by rw[d6 t (by omega),iz t (by omega),vb t (by omega),a5 t ht]
 have ug:bR HK.aw 5=.ptr H.length 0:=by rw[d6 5 (by decide),iz 5 (by decide),vb 5 (by decide)];exact a4
 have k0:bR HK.aw 0=.yield L:=(ey 0 (by decide)).trans o5;have wM:∀t:Heap,¬H.length+1<=dM:=fun _=>by omega
 have BI:=wM [];have rS:m0<=H.length:=by omega
 have E:∃x yk,dz ad Dk HK=some (x,yk)/\x=(if b&&decide (iQ (s.drop (dJ s fL))≠0)then .normal else .ret)/\yk.H=H2/\m0<=yk.low/\yk.low<=dM/\bR yk.aw 4=.int .i64 (hF s fL)/\∀t,t<4->bR yk.aw t=bR HK.aw t:=by
  unfold A6 at hy Jk;generalize oi:iQ (s.drop (dJ s fL))=K at*;cases b with
  |false=>
   refine⟨.ret,_,by simp[Dk,d3,d4,d5,ug,k0,ox,mH,jO,bX,eH,setCells,vP,hy,BI,om,lR];rfl,rfl,rfl,?_⟩;exact⟨by simp;omega,by simp;omega,by simp[gy],fun t ht=>by simp[gy,show t≠92 by omega,show t≠4 by omega]⟩
  |true=>
   have MK:=Jk rfl;have ae7:∀h:H.length<H2.length,H2[H.length]'h=.cells [.int .i64 K,.int .i64 fL,.int .i64 (dJ s fL),.int .i64 (hF s fL)]:=fun h=>by rw[jI h]at MK;exact yv MK
   by_cases aI:K=0
   ·have Tk:((K:Int)==0)=true:=by simp[aI]
    refine⟨.ret,_,by simp[Dk,d3,d4,d5,ug,k0,ox,mH,jO,bX,eH,setCells,vP,hy,BI,om,lR,MK,ae7,Tk];rfl,by simp[aI],rfl,?_⟩;exact⟨by simp;omega,by simp;omega,by simp[gy],fun t ht=>by simp[gy,show t≠92 by omega,show t≠4 by omega]⟩
   ·have Tk:((K:Int)==0)=false:=by simp;omega
    refine⟨.normal,_,by simp[Dk,d3,d4,d5,ug,k0,ox,mH,jO,bX,eH,setCells,vP,hy,BI,om,lR,MK,ae7,Tk];rfl,by simp[aI],rfl,?_⟩;exact⟨by simp;omega,by simp;omega,by simp[gy],fun t ht=>by simp[gy,show t≠92 by omega,show t≠4 by omega]⟩
 obtain⟨x,yk,ag,e2,bI,cz,avH,dF,hz⟩:=E;have hx:x=.normal\/x=.ret:=by rw[e2];split<;>simp
 refine⟨x,yk,?_,e2,bI,cz,avH,dF,fun t ht=>(hz t ht).trans (ey t (by omega))⟩;rw[avB,mY,hR,al];simp only[];rw[hR,dQ];simp only[];rw[hR,dk];simp only[];rw[hR,mY,d1];simp only[];rw[ag];rcases hx with rfl|rfl<;>rfl
end
end Go.Abs.bZ
namespace Go.Abs.bZ
open Go Go.Abs Go.Abs.Lex
noncomputable section
variable{ad:Nat->Option cb}
attribute [local simp] gu gF hR kW mi nw nx qy mY c5 gE qN o8 nj p5 p6 qP rV qO nJ rU vT aj.ai bR fN au.put et pF pE e4 fR ei bQ cx hK kC finish old olds flat lx sg jN iq aF S.R S.q S.k S.rt S.iL S.cy S.e S.r S.o S.n S.rg S.m S.ck S.ls S.dA S.eq S.ne S.lt S.gt S.dh S.no S.j1 S.st S.gX S.iK S.k7 S.ex S.c S.cs S.km S.k6 S.z S.fn S.jr
theorem n1 (H l:Heap)(k:Nat):(H++l)[H.length+k]? =l[k]? :=by rw[w5 (by omega)];simp
theorem uO (H l:Heap):(H++l)[H.length]? =l[0]? :=n1 H l 0
theorem yl (H l:Heap)(k:Nat)(x:cD):(H++l).set (H.length+k) x=H++l.set k x:=by rw[List.set_append_right _ _ (by omega)];simp
theorem w2 (H l:Heap)(x:cD):(H++l).set H.length x=H++l.set 0 x:=yl H l 0 x
def HL (w:List UInt8)(n:Nat):Env:=[(0,.str w),(1,.ptr n 0),(2,.ptr (n+1) 0),(10,.bool false),(12,.fn 357 [] [.ptr (n+2) 0,.ptr (n+4) 0])]
def uP (w:List UInt8)(n:Nat):Heap:=[.cells [.str w],.cells [.int .i64 0],.cells [.str w],.map w0,.cells [.map (n+3)],.loop .ready .normal (HL w n) [13] Hm Hn]
set_option maxHeartbeats 1000000 in
theorem avI (T:n0 ad)(w:List UInt8)(H:Heap):∃H2 dM,cl ad (.yield (H.length+5)) [.agg (A6 w 0)] (H++(uP w H.length++[.cells (A6 w 0)]))=some (.bool false,H2,dM)/\H.length<=dM/\dM<=H.length+5/\H.length<=H2.length/\
  ((dJ w 0=0/\hF w 0=w.length/\H2[H.length+1]? =some (.cells [.int .i64 (iQ (w.drop (dJ w 0)))])/\∃e p a b,H2[H.length+5]? =some (.loop .done .ret e p a b))\/
   (¬(dJ w 0=0/\hF w 0=w.length)/\H2[H.length+1]? =some (.cells [.int .i64 0])/\∃e p a b,H2[H.length+5]? =some (.loop .done (.exit 0) e p a b))):=by
 rw[agl];unfold A6;generalize iQ (w.drop (dJ w 0))=K;by_cases h1:dJ w 0=0
 ·have ag:((dJ w 0:Int) != 0)=false:=by simp[h1]
  by_cases h2:hF w 0=w.length
  ·have e2:((hF w 0:Int) != (w.length:Int))=false:=by simp[h2]
   refine⟨_,_,by simp[uP,HL,pI,n1,uO,yl,w2,Hm,Hn,ox,tn,mH,jO,setCells,bX,eH,ag,e2,fm];exact⟨rfl,rfl⟩,?_⟩;exact⟨by simp<;>omega,by simp<;>omega,by simp<;>omega,.inl ⟨h1,h2,by simp[n1],_,_,_,_,by rw[n1];rfl⟩⟩
  ·have e2:((hF w 0:Int) != (w.length:Int))=true:=by simp;omega
   refine⟨_,_,by simp[uP,HL,pI,n1,uO,yl,w2,Hm,Hn,ox,tn,mH,jO,setCells,bX,eH,ag,e2,fm];exact⟨rfl,rfl⟩,?_⟩;exact⟨by simp<;>omega,by simp<;>omega,by simp<;>omega,.inr ⟨fun h=>h2 h.2,by simp[n1],_,_,_,_,by rw[n1];rfl⟩⟩
 ·have ag:((dJ w 0:Int) != 0)=true:=by simp;omega
  refine⟨_,_,by simp[uP,HL,pI,n1,uO,yl,w2,Hm,Hn,ox,tn,mH,jO,setCells,bX,eH,ag,fm];exact⟨rfl,rfl⟩,?_⟩;exact⟨by simp<;>omega,by simp<;>omega,by simp<;>omega,.inr ⟨fun h=>h1 h.1,by simp[n1],_,_,_,_,by rw[n1];rfl⟩⟩
set_option maxHeartbeats 1000000 in
theorem avJ (T:n0 ad)(w:List UInt8)(hl:w.length<=4096)(H:Heap):∃H2 dM,cl ad (.fn 357 [] [.ptr (H.length+2) 0,.ptr (H.length+4) 0]) [.yield (H.length+5)] (H++uP w H.length)=some (.bd [],H2,dM)/\H.length<=dM/\H.length<=H2.length/\
  ((dJ w 0=0/\hF w 0=w.length/\H2[H.length+1]? =some (.cells [.int .i64 (iQ (w.drop (dJ w 0)))])/\∃e p a b,H2[H.length+5]? =some (.loop .done .ret e p a b))\/
   (¬(dJ w 0=0/\hF w 0=w.length)/\H2[H.length+1]? =some (.cells [.int .i64 0])/\∃e p a b,H2[H.length+5]? =some (.loop .done (.exit 0) e p a b))):=by
 obtain⟨H2,dM,hy,dQ,fY,jG,lk⟩:=avI T w H;rw[<-jJ]at hy;have hlen:(H++uP w H.length).length=H.length+6:=by simp[uP]
 obtain⟨x,aX,q1,aT,b3,cZ,fq,hC,nH⟩:=avC T (s:=w) (H:=H++uP w H.length) (H2:=H2) (p1:=H.length+2) (p2:=H.length+4) (m:=H.length+3) (L:=H.length+5) (fL:=0) (dM:=dM) (m0:=H.length) (b:=false)
  (by omega) (cI _) (by rw[n1];rfl) (by rw[n1];rfl) (by rw[n1];rfl)
  (st:={aG:=[],aw:=[(0,.yield (H.length+5)),(1,.ptr (H.length+2) 0),(2,.ptr (H.length+4) 0),(4,.int .i64 0)],H:=H++uP w H.length,low:=H.length+6}) rfl (by simp) (by rw[hlen];exact aM _) rfl rfl rfl rfl hy (by rw[hlen];omega) dQ jG (fun h=>by cases h)
 simp only[yw]at aT;subst aT;have jq:¬H.length+6<=aX.low:=by omega
 refine⟨H2,aX.low,?_,cZ,jG,lk⟩;rw[ny,T.avf];simp[adG,hlen,ru Mg,q1,b3,jq]
set_option maxHeartbeats 1000000 in
theorem avK (T:n0 ad)(w:List UInt8)(H:Heap):aS ad (.fn 233 [] []) [.str w] H (.int .i64 (kindOf w)):=by
 unfold aS;rw[ny,T.avh];by_cases h0:w=[]
 ·subst h0
  simp[Ho,bX,eH,mH,jO,setCells,n1,uO,yl,w2,kindOf]
 ·have eW:(w==[])=false:=by cases w<;>simp_all
  by_cases h1:4096<w.length
  ·have ag:(4096:Int)<(w.length:Int):=by omega
   simp[Ho,bX,eH,mH,jO,setCells,n1,uO,yl,w2,kindOf,eW,h0,h1,ag,tn]
  ·have ag:¬(4096:Int)<(w.length:Int):=by omega
   have ht:=avx T w (H++[.cells [.str w],.cells [.int .i64 0]]);simp only[e1,dE,eF,er,jJ,ky,ke,rl,Nat.reduceAdd]at ht;obtain⟨H2,dM,hc,dQ,fY,jG⟩:=avJ T w (by omega) H;simp only[uP,HL]at hc;have Tl:min H.length dM=H.length:=n6 dQ;have avL:min H.length (min dM (min H2.length (H.length+1)))=H.length:=by omega
   rcases jG with⟨dk,eu,fe,e,p,a,b,ix⟩|⟨dk,fe,e,p,a,b,ix⟩
   ·have ah:kindOf w=iQ (w.drop (dJ w 0)):=by simp[kindOf,h0,h1,dk,eu]
    have iz:(H2.set (H.length+5) .gone)[H.length+1]? =some (.cells [.int .i64 (iQ (w.drop (dJ w 0)))]):=by rw[lG (by omega)];exact fe
    rw[ah];simp[Ho,bX,eH,mH,jO,setCells,n1,uO,yl,w2,eW,h0,h1,ag,tn,ht,T8,DS,Bo,hc,ix,iz,fm,Tl]
   ·have ah:kindOf w=0:=by simp[kindOf,h0,h1];exact fun h1 h2=>absurd ⟨h1,h2⟩ dk
    have iz:(H2.set (H.length+5) .gone)[H.length+1]? =some (.cells [.int .i64 0]):=by rw[lG (by omega)];exact fe
    have G0:((H2.set (H.length+5) .gone).set (H.length+1) (.cells [.int .i64 0]))[H.length+1]? =some (.cells [.int .i64 0]):=by rw[tu];rw[yt];rcases gq (H.length+1) H2.length with h|h;exact h;rw[nt h]at fe;cases fe
    rw[ah];simp[Ho,bX,eH,mH,jO,setCells,n1,uO,yl,w2,eW,h0,h1,ag,tn,ht,T8,DS,Bo,hc,ix,iz,G0,fm,avL]
end
end Go.Abs.bZ
namespace Go.Abs.bZ
open Go Go.Abs
noncomputable section
variable{ad:Nat->Option cb}
def wH:V->Bool
 | .b7 .. =>true
 | _=>false
section
variable{call:c1}{ai:aj->V}{H:Heap}{low:Nat}
theorem ae8{x:aj}(h:wH (ai x)=true):cf call ai H low (.len 1 x)=match ai x with
  | .b7 l es _ len tag=>(match H[l]? with
    |some (.row bN ds _)=>if bN=es/\ds.length=tag then some (.int .i64 len,H,low)else none
    |some (.sj r)=>if r.length=tag then some (.int .i64 len,H,low)else none
    | _=>none)
  | _=>none:=by
 show step ai H low (.len 1 x)=_;cases hx:ai x<;>simp_all [wH,step]<;>rfl
theorem ae9 (es:Nat)(a b:aj):cf call ai H low (.copy es a b)=step ai H low (.copy es a b):=rfl
end
structure HM (ad:Nat->Option cb):Prop where
 avM:ad 235=some (.code adH)
 avN:ad 346=some (.code adI)
 avO:ad 119=some (.code adE)
def u64 (n:Int):V:=.int .u64 n
theorem Tm{W:Nat}(h:W<4294967296):et .and (u64 W) (u64 4294967295)=some (u64 W):=by
 have e:(BitVec.ofInt 64 (W:Int) &&& BitVec.ofInt 64 4294967295).toNat=W:=by
  rw[BitVec.toNat_and]
  have h1:(BitVec.ofInt 64 (W:Int)).toNat=W:=by
   rw[BitVec.toNat_ofInt];omega
  have h2:(BitVec.ofInt 64 4294967295).toNat=2^32-1:=by decide
  rw[h1,h2,Nat.and_two_pow_sub_one_eq_mod];omega
 have eW:et .and (u64 W) (u64 4294967295)=some (.int .u64 (IntKind.u64.wrap ((BitVec.ofInt 64 (W:Int) &&& BitVec.ofInt 64 4294967295).toNat:Int))):=rfl;rw[eW,e]
 have:IntKind.u64.wrap (W:Int)=W:=by
  have ag:(2^IntKind.u64.bits:Int)=18446744073709551616:=rfl;have s:IntKind.u64.signed=false:=rfl;simp only[IntKind.wrap,ag,s,yw];simp;omega
 rw[this];rfl
theorem ML{n:Int}(h1:0<=n)(h2:n<18446744073709551616):IntKind.u64.wrap n=n:=by
 have ag:(2^IntKind.u64.bits:Int)=18446744073709551616:=rfl;have s:IntKind.u64.signed=false:=rfl;simp only[IntKind.wrap,ag,s,yw];simp;omega
theorem Tn{W:Nat}(h:W<4294967296):et .shr (u64 W) (u64 32)=some (u64 0):=by
 have:(W:Int)/4294967296=0:=Int.ediv_eq_zero_of_lt (by omega) (by omega);simp[u64,et,IntKind.bits,this]
theorem avP{W:Nat}(h:W<4294967296):et .mul (u64 1) (u64 W)=some (u64 W):=by
 simp[u64,et,ML (n:=(W:Int)) (by omega) (by omega)]
theorem avQ{W:Nat}:et .mul (u64 0) (u64 W)=some (u64 0):=by
 simp[u64,et,ML (n:=0) (by omega) (by omega)]
theorem dQ:et .and (u64 1) (u64 4294967295)=some (u64 1):=Tm (W:=1) (by decide)
theorem fY:et .shr (u64 1) (u64 32)=some (u64 0):=Tn (W:=1) (by decide)
theorem jG:et .add (u64 0) (u64 0)=some (u64 0):=by kernel_rfl
theorem lk:et .and (u64 0) (u64 4294967295)=some (u64 0):=Tm (W:=0) (by decide)
theorem vb:et .shr (u64 0) (u64 32)=some (u64 0):=Tn (W:=0) (by decide)
theorem afa:et .mul (u64 1) (u64 0)=some (u64 0):=by kernel_rfl
theorem A3:et .mul (u64 0) (u64 0)=some (u64 0):=by kernel_rfl
set_option maxHeartbeats 1000000 in
theorem avR (T:HM ad){W:Nat}(h:W<4294967296)(H:Heap):aS ad (.fn 346 [] []) [u64 1,u64 W] H (.bd [u64 0,u64 W]):=by
 unfold aS;have c:∀n,V.int .u64 n=u64 n:=fun _=>rfl;have i1:∀n,bQ (u64 n)=true:=fun _=>rfl;rw[ny,T.avN];simp[adI,ei,S.R,S.p7,S.q,S.k,S.rt,S.iL,S.cy,S.e,S.r,S.o,S.n,S.rg,S.m,S.ck,S.ls,S.dA,S.eq,S.ne,S.lt,S.gt,S.dh,S.no,S.j1,S.st,S.gX,S.iK,S.k7,S.ex,S.c,S.cs,S.km,S.k6,S.z,S.fn,S.jr,gu,gF,hR,kW,nx,c5,gE,qN,nj,aj.ai,bR,fN,au.put,fR,bQ,cx,hK,kC,finish,old,olds,sg,lx,c,i1,Tm h,Tn h,avP h,avQ,dQ,fY,jG,lk,vb,afa,A3]
theorem avS{call:c1}{ai:aj->V}{H:Heap}{low:Nat}(k:IntKind)(x:aj):cf call ai H low (.conv k x)=step ai H low (.conv k x):=rfl
set_option maxHeartbeats 1000000 in
theorem avT (T:HM ad){W:Nat}(h:W<4294967296)(H:Heap):aS ad (.fn 235 [] []) [.int .u64 1,.int .u64 W] H (.bd [.int .u64 0,.int .u64 W]):=by
 have hm:=avR T h H;unfold aS u64 at*;rw[ny,T.avM];simp[adH,gu,gF,hR,kW,mi,nw,nx,qy,mY,c5,gE,qN,o8,nj,p5,p6,qP,rV,qO,nJ,rU,vT,aj.ai,bR,fN,au.put,et,pF,pE,e4,fR,ei,bQ,cx,hK,kC,finish,old,olds,flat,lx,sg,jN,iq,aF,S.R,S.p7,S.q,S.k,S.rt,S.iL,S.cy,S.e,S.r,S.o,S.n,S.rg,S.m,S.ck,S.ls,S.dA,S.eq,S.ne,S.lt,S.gt,S.dh,S.no,S.j1,S.st,S.gX,S.iK,S.k7,S.ex,S.c,S.cs,S.km,S.k6,S.z,S.fn,S.jr,hm]
def kc (lo hi:Int):V:=.agg [.int .i64 lo,.int .i64 hi]
def To:V:=.agg [.int .i64 0,.int .i64 0]
def n2 (e:V)(m W:Nat):List V:=List.replicate m e++List.replicate (W-m) To
theorem avU{e:V}{m W:Nat}(h:m<=W):(n2 e m W).length=W:=by simp[n2];omega
theorem afb{e:V}{m W:Nat}:(n2 e m W).take m=List.replicate m e:=by simp[n2,List.take_append]
theorem avV{e:V}{m W:Nat}(h:m<=W)(h1:1<=m):(n2 e m W).take m++((n2 e m W).take m).take (W-m)++(n2 e m W).drop (m+min (W-m) m)=n2 e (m+min (W-m) m) W:=by
 rw[afb,List.take_replicate];unfold n2;rw[H4,List.drop_replicate,List.drop_replicate,w6];rw[show m-(m+min (W-m) m)=0 by omega];simp only[List.replicate_zero,ke];rw[show W-m-(m+min (W-m) m-m)=W-(m+min (W-m) m) by omega,List.replicate_append_replicate]
theorem avW{a b:Int}(m:Nat):mf ((List.replicate m (kc a b)).flatMap aF)=true:=by
 induction m with
 |zero=>rfl
 |succ m ih=>rw[DG,lH];simp[kc,aF,mf,plainCell]at ih⊢; exact ih
set_option maxHeartbeats 1000000 in
theorem avX (T:HM ad){a b:Int}{W:Nat}{H:Heap}(hW:W<=1000):∀(j m:Nat) (st:au),m+j=W->1<=m->st.H=H++[.row 2 (n2 (kc a b) m W) false]->H.length<=st.low->st.low<=H.length+1->bR st.aw 7=.b7 H.length 2 0 W W->bR st.aw 8=.int .i64 m->
  ∃aX,dz ad (.loop Hp) st=some (.exit 0,aX)/\aX.H=H++[.row 2 (n2 (kc a b) W W) false]/\H.length<=aX.low/\bR aX.aw 7=.b7 H.length 2 0 W W:=by
 intro j
 induction j using Nat.strongRecOn with
 |ind j ih=>
  intro m st hj hm h1 h2 xr r7 afc;have kh:=avU (e:=kc a b) (m:=m) (W:=W) (by omega);by_cases avY:m=W
  ·subst avY
   rw[ru];refine⟨_,by simp[Hp,gu,gF,hR,kW,mi,nw,nx,qy,mY,c5,gE,qN,o8,nj,p5,p6,qP,rV,qO,nJ,rU,aj.ai,bR,gy,au.put,et,pF,pE,e4,fR,ei,bQ,cx,hK,kC,finish,old,olds,flat,lx,sg,jN,iq,P2,S.R,S.p7,S.q,S.k,S.rt,S.iL,S.cy,S.e,S.r,S.o,S.n,S.rg,S.m,S.ck,S.ls,S.dA,S.eq,S.ne,S.lt,S.gt,S.dh,S.no,S.j1,S.st,S.gX,S.iK,S.k7,S.ex,S.c,S.cs,S.km,S.k6,S.z,S.fn,S.jr,h1,r7,afc,ae8,wH,uO,kh];rfl,?_⟩;exact⟨by simp,by simp;omega,by simp[gy,r7]⟩
  ·have aH:(m:Int)<(W:Int):=by omega
   have G8:m<W:=by omega
   have NU:m<=W:=by omega
   have avZ:=avW (a:=a) (b:=b) m;have cg:=avV (e:=kc a b) (m:=m) (W:=W) (by omega) hm;have hw:IntKind.i64.wrap ((m:Int)+((min (W-m) m:Nat):Int))=((m+min (W-m) m:Nat):Int):=by rw[wrap_small]<;>omega
   have HA:=afb (e:=kc a b) (m:=m) (W:=W);have pR:(List.replicate m (kc a b)).length=m:=by simp
   have av0:m+(W-m)=W:=by omega
   have Hx:∃cm,dz ad Hp st=some (.normal,cm)/\cm.H=H++[.row 2 (n2 (kc a b) (m+min (W-m) m) W) false]/\H.length<=cm.low/\cm.low<=H.length+1/\bR cm.aw 7=.b7 H.length 2 0 W W/\bR cm.aw 8=.int .i64 ((m+min (W-m) m:Nat):Int):=by
    generalize p9:n2 (kc a b) m W=P at*;have fO:0<m:=hm;refine⟨_,by simp[Hp,gu,gF,hR,kW,mi,nw,nx,qy,mY,c5,gE,qN,o8,nj,p5,p6,qP,rV,qO,nJ,rU,aj.ai,bR,gy,au.put,et,pF,pE,e4,fR,ei,bQ,cx,hK,kC,finish,old,olds,flat,lx,sg,jN,iq,P2,S.R,S.p7,S.q,S.k,S.rt,S.iL,S.cy,S.e,S.r,S.o,S.n,S.rg,S.m,S.ck,S.ls,S.dA,S.eq,S.ne,S.lt,S.gt,S.dh,S.no,S.j1,S.st,S.gX,S.iK,S.k7,S.ex,S.c,S.cs,S.km,S.k6,S.z,S.fn,S.jr,h1,r7,afc,ae8,wH,uO,w2,kh,aH,G8,NU,fO,Xa,ae9,step,e5,elems,HA,pR,avZ,av0,hw,fm,rp,xh,gr,-List.take_replicate];exact⟨.inl (.inl ⟨by decide,by decide⟩),rfl⟩,?_⟩;refine⟨?_,by simp;omega,by simp;omega,by simp[gy,r7],by simp[gy]⟩;rw[HA]at cg;simp[<-cg,-List.take_replicate]
   obtain⟨cm,q1,aT,b3,cZ,fq,hC⟩:=Hx;obtain⟨aX,bH,cw⟩:=ih (W-(m+min (W-m) m)) (by omega) (m+min (W-m) m) cm (by omega) (by omega) aT b3 cZ fq hC;exact⟨aX,by rw[ru,q1];exact bH,cw⟩
theorem afd (a b:Int):∀m,cx (List.replicate m (kc a b))=true
 |0=>rfl
 |m+1=>by rw[DG];simp only[cx,afd a b m,u0];rfl
theorem av1 (n:Nat)(a b:Int)(m:Nat):olds n (List.replicate m (kc a b))=true:=by
 induction m with
 |zero=>rfl
 |succ m ih=>rw[DG];simp only[olds,ih,u0];rfl
set_option maxHeartbeats 2000000 in
theorem av2 (T:HM ad){a b:Int}{W:Nat}(hW:W<=1000)(h1:1<=W)(H:Heap):
  cl ad (.fn 119 [] []) [.list 2 [kc a b],.int .i64 W] H=some (.list 2 (List.replicate W (kc a b)),H,H.length):=by
 have hm:=avT T (W:=W) (by omega) H;unfold aS at hm;have I2:IntKind.u64.wrap 1=1:=ML (by omega) (by omega);have tL:IntKind.u64.wrap (W:Int)=W:=ML (by omega) (by omega);have hi:IntKind.i64.wrap (W:Int)=W:=by rw[wrap_small]<;>omega
 have av3:¬(W:Int)<0:=by omega
 have SE:¬(W:Int)>9223372036854775807:=by omega
 have av4:¬(9223372036854775807:Int)<(W:Int):=by omega
 have fb:(W:Int)*17<=1099511627776:=by omega
 have I1:¬(W:Int)=0:=by omega
 have av5:¬W=0:=by omega
 have EY:(0:Int)<=W:=by omega
 have Tl:min W 1=1:=by omega
 have BQ:mf (List.flatMap aF [kc a b])=true:=rfl;have av6:n2 (kc a b) 1 W=kc a b::List.replicate (W-1) To:=rfl;have av7:n2 (kc a b) W W=List.replicate W (kc a b):=by simp[n2]
 obtain⟨aX,bH,cw,ff,gW⟩:=avX T (a:=a) (b:=b) (W:=W) (H:=H) hW (W-1) 1
  {aG:=[],aw:=[(0,.list 2 [kc a b]),(1,.int .i64 W),(4,.aY),(10,.bool false),(5,.int .u64 0),(6,.int .u64 W),(26,.bool false),(7,.b7 H.length 2 0 W W),(8,.int .i64 1)],H:=H++[.row 2 (n2 (kc a b) 1 W) false],low:=H.length} (by omega) (aM _) rfl (aM _) (by simp) rfl rfl
 rw[av7]at cw;have av8:=afd a b W;have hold:=av1 H.length a b W;have av9:List.take W [kc a b]=[kc a b]:=MV (by simpa using h1);have aI:V.agg [V.int .i64 0,V.int .i64 0]=To:=rfl;rw[av6]at bH;rw[ny,T.avO];have gh:zt 2 (V.list 2 [kc a b])=true:=rfl;have Tp:(el (V.list 2 [kc a b])).length=1:=rfl;simp[adE,gu,gF,hR,kW,mi,nw,nx,qy,mY,c5,gE,qN,o8,nj,p5,p6,qP,rV,qO,nJ,rU,aj.ai,bR,fN,au.put,et,pF,pE,e4,fR,ei,bQ,cx,hK,kC,finish,old,olds,flat,lx,sg,jN,iq,P2,S.R,S.p7,S.q,S.k,S.rt,S.iL,S.cy,S.e,S.r,S.o,S.n,S.rg,S.m,S.ck,S.ls,S.dA,S.eq,S.ne,S.lt,S.gt,S.dh,S.no,S.j1,S.st,S.gX,S.iK,S.k7,S.ex,S.c,S.cs,S.km,S.k6,S.z,S.fn,S.jr,Xd 2,gh,Tp,avS,step,I2,tL,hi,hm,av3,SE,av4,PQ,lJ,aI,fb,I1,av5,EY,ae9,elems,uO,w2,av9,BQ,Tl,bH,cw,ff,gW,hold,av8,gy,-List.flatMap_cons]
theorem awa (T:HM ad):arS ad:=by
 intro H0 x n r h;unfold FA at h;split at h
 ·rename_i hc
  obtain⟨h1,h2,av⟩:=hc;cases h
  obtain⟨rg,hx⟩:∃rg,x=.mk [rg]:=by
   cases x with
   |nil=>simp[ak.l]at h1
   |emp=>simp[ak.l]at h1
   |mk l=>match l,h1 with
    |[rg],_=>exact⟨rg,rfl⟩
  subst hx;obtain⟨W,rfl⟩:=DF (show 0<=n by omega);have:=av2 T (a:=rg.fh) (b:=rg.fi) (W:=W) (by omega) (by omega) H0
  have e:(List.replicate ((W:Int)).toNat (ak.mk [rg]).l).flatten=List.replicate W rg:=by
   rw[Bf];show(List.replicate W [rg]).flatten=_;simp
  rw[e];show cl ad (.fn 119 [] []) [.list 2 [qV rg],aQ (W:Int)] H0=some (.list 2 ((List.replicate W rg).map qV),H0,H0.length);rw[List.map_replicate];exact this
 ·cases h
end
end Go.Abs.bZ
set_option maxRecDepth 100000
namespace Go.Abs.bZ
open Go Go.Abs Go.Proofs
noncomputable section
variable{g:Nat->Option Obj}
theorem awb (awc:∀(G:cc) (H:Heap) (w:World),bf (C g) id G H w->Lib.TabIs Tryz.prog w "internal/strconv.uint64pow10" .u64 Lib.pow10Tab)(o7:∀(G:cc) (H:Heap) (w:World),bf (C g) id G H w->Lib.TabIs Tryz.prog w "strings.asciiSpace" .u8 Lib.asciiSpaceTab):dr (C g) id (fw g):=by
 refine⟨fun i f h=> ?_,fun i sp h=> ?_,fun i sp h=> ?_⟩
 ·unfold fw at h
  split at h
  ·cases h
  ·split at h
   ·rename_i fn iI
    split at h
    ·rename_i a ao
     cases h;obtain⟨c,-,-,-,-,-,eP⟩:=Jz ao;exact⟨fn,iI,by rw[eP];exact ao⟩
    ·cases h
   ·cases h
 ·unfold fw at h
  split at h
  ·rename_i s hs
   cases h;unfold WZ at hs;split at hs<;>first|(cases hs;done)|skip
   ·cases hs;exact akG awc
   ·cases hs;exact akM
   ·cases hs;exact akE
   ·cases hs;exact akI
   ·cases hs;exact akP
   ·cases hs;exact akJ o7
   ·cases hs;exact akH
  ·split at h
   ·split at h<;>cases h
   ·cases h
 ·unfold fw at h
  split at h
  ·cases h
  ·split at h
   ·split at h<;>cases h
   ·cases h
def Tq:Option cb->Bool
 |some (.code _)=>true
 | _=>false
theorem afe{o:Option cb}(h:Tq o=true):∃f,o=some (.code f):=by
 match o,h with
 |some (.code f),_=>exact⟨f,rfl⟩
theorem kd{ad:Nat->Option cb}{n i:Nat}{l:List (List V × V)}(hT:dr (C g) id ad)(hc:Tq (ad i)=true)(h:hq ad n i l):dr (C g) id (over ad i (hk l)):=by
 obtain⟨f,ae⟩:=afe hc;exact E3 hT (JC mixed tW hT ae h)
theorem awd (h:dr (C g) id (fw g)):dr (C g) id (PS g):=E3 h (ni.JC mixed tW (E0 mixed tW h 95) Tryz.func197 (ak7 g) (ak9 g))
theorem awe (h:dr (C g) id (fw g)):dr (C g) id (PT g):=kd (awd h) (by kernel_rfl) (ala g)
theorem awf (h:dr (C g) id (fw g)):dr (C g) id (qQ g):=kd (awe h) (by kernel_rfl) (alb g)
theorem awg (h:dr (C g) id (fw g)):dr (C g) id (JR g):=kd (awf h) (by kernel_rfl) (aln g)
theorem awh (h:dr (C g) id (fw g)):dr (C g) id (JS g):=kd (awg h) (by kernel_rfl) (alp g)
theorem awi (h:dr (C g) id (fw g)):dr (C g) id (JT g):=kd (awh h) (by kernel_rfl) (alr g)
theorem awj (h:dr (C g) id (fw g)):dr (C g) id (JU g):=kd (awi h) (by kernel_rfl) (alu g)
theorem awk (h:dr (C g) id (fw g)):dr (C g) id (JV g):=kd (awj h) (by kernel_rfl) (alw g)
theorem awl (h:dr (C g) id (fw g)):dr (C g) id (fK g):=kd (awk h) (by kernel_rfl) (aly g)
theorem awm (h:dr (C g) id (fw g)):dr (C g) id (xJ g):=kd (awl h) (by kernel_rfl) (amc g)
theorem awn (h:dr (C g) id (fw g)):dr (C g) id (JX g):=kd (awm h) (by kernel_rfl) (aml g).choose_spec
theorem awo (h:dr (C g) id (fw g)):dr (C g) id (xL g):=kd (awn h) (by kernel_rfl) (amn g)
theorem awp (h:dr (C g) id (fw g)):dr (C g) id (JZ g):=kd (awo h) (by kernel_rfl) (amt g).choose_spec
theorem awq (h:dr (C g) id (fw g)):dr (C g) id (J0 g):=kd (awp h) (by kernel_rfl) (amv g)
theorem awr (h:dr (C g) id (fw g)):dr (C g) id (Cl g):=kd (awq h) (by kernel_rfl) (amx g)
theorem aws (h:dr (C g) id (fw g)):dr (C g) id (Fj g):=kd (awr h) (by kernel_rfl) (amB g)
theorem aff (h:dr (C g) id (fw g)):dr (C g) id (PX g):=kd (aws h) (by kernel_rfl) (amE g)
theorem awt (h:dr (C g) id (fw g)):dr (C g) id (J1 g):=E3 (aff h) (ni.JC mixed tW (E0 mixed tW (aff h) 200) Tryz.func35 (ak8 g) (amF g))
theorem awu (h:dr (C g) id (fw g)):dr (C g) id (J2 g):=kd (awt h) (by kernel_rfl) (amH g)
theorem awv (h:dr (C g) id (fw g)):dr (C g) id (J3 g):=kd (awu h) (by kernel_rfl) (amJ g)
theorem aww (h:dr (C g) id (fw g)):dr (C g) id (hO g):=kd (awv h) (by kernel_rfl) (amL g)
theorem awx (h:dr (C g) id (fw g)):dr (C g) id (Fk g):=kd (aww h) (by kernel_rfl) (ang g)
theorem awy (h:dr (C g) id (fw g)):dr (C g) id (rW g):=kd (awx h) (by kernel_rfl) (anj g)
theorem awz (h:dr (C g) id (fw g)):dr (C g) id (Fl g):=kd (awy h) (by kernel_rfl) (ant g)
theorem awA (h:dr (C g) id (fw g)):dr (C g) id (J4 g):=kd (awz h) (by kernel_rfl) (anw g)
theorem awB (h:dr (C g) id (fw g)):dr (C g) id (Fm g):=kd (awA h) (by kernel_rfl) (anz g)
theorem awC (h:dr (C g) id (fw g)):dr (C g) id (PY g):=kd (awB h) (by kernel_rfl) (anC g)
theorem awD (h:dr (C g) id (fw g)):o6 (C g) id 4 (E2 [] (.bool true)):=by
 obtain⟨f,ae⟩:=afe (show Tq (PY g 4)=true by kernel_rfl);exact ajN mixed tW (awC h) ae rfl (anD g)
end
end Go.Abs.bZ
