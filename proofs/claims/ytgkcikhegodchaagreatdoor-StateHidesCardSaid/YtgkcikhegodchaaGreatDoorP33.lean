/- Texts of this claim, joined and written short by a program. -/
import Derived.Test.YtgkcikhegodchaaGreatDoorP32
import Derived.Test.YtgkcikhegodchaaGreatDoorP28
import Derived.Test.YtgkcikhegodchaaGreatDoorP29
import Derived.Test.YtgkcikhegodchaaGreatDoorP10
import Derived.Test.YtgkcikhegodchaaGreatDoorP08
import Derived.Test.YtgkcikhegodchaaGreatDoorP19
import Derived.Test.YtgkcikhegodchaaGreatDoorP20
import Derived.Test.YtgkcikhegodchaaGreatDoorP00
set_option linter.unusedVariables false
set_option linter.unusedSimpArgs false
set_option linter.unusedSectionVars false
namespace Go.Abs.bA
open Go Go.Abs Go.Abs.Lex
noncomputable section
theorem TH (c:UInt8):DJ (c.toNat:Int)=some (na c):=by
 unfold DJ na;rw[show decide ((c.toNat:Int)>=97)=decide (97<=c.toNat)from decide_eq_decide.2 (by omega),show decide ((c.toNat:Int)<=122)=decide (c.toNat<=122)from decide_eq_decide.2 (by omega)]
theorem M3 (c:UInt8):A3 (c.toNat:Int)=some (jy c):=by
 unfold A3 jy;rw[show decide ((c.toNat:Int)>=48)=decide (48<=c.toNat)from decide_eq_decide.2 (by omega),show decide ((c.toNat:Int)<=57)=decide (c.toNat<=57)from decide_eq_decide.2 (by omega)]
theorem pr (c:UInt8)(n:Nat):((c.toNat:Int)==(n:Int))=(c.toNat==n):=by
 rw[EA];simp;omega
theorem af3 (c:UInt8):GW (c.toNat:Int)=some (ja c):=by
 unfold GW ja;rw[show((c.toNat:Int)==9)=(c.toNat==9)from pr c 9,show((c.toNat:Int)==10)=(c.toNat==10)from pr c 10,show((c.toNat:Int)==13)=(c.toNat==13)from pr c 13,show((c.toNat:Int)==32)=(c.toNat==32)from pr c 32];cases c.toNat==9<;>cases c.toNat==10<;>cases c.toNat==13<;>cases c.toNat==32<;>rfl
theorem zd{s:ck}{k:Nat}(h:k<s.length):decide ((k:Int)<(s.length:Int))=true:=by simp;exact h
theorem ze{s:ck}{k:Nat}(h:s.length<=k):decide ((k:Int)<(s.length:Int))=false:=by simp;exact h
theorem M4{s:ck}(hl:s.length<4611686018427387904)(p:UInt8->Bool){f:Int->Option (cH Int Int)}(ag:∀(k:Nat) c,s[k]? =some c->f k=some (bif p c then .next (aL (k+1))else .out k))(he:∀k:Nat,s.length<=k->f k=some (.out k)):
  ∀(n k:Nat),k+n=s.length->bW f (k:Int)=some (((k+h6 p (s.drop k):Nat)):Int):=by
 intro n
 induction n with
 |zero=>
  intro k hk;rw[hG,he k (by omega),uJ (by omega)];rfl
 |succ n ih=>
  intro k hk;have aG:k<s.length:=by omega
  have hx:s[k]? =some s[k]:=by simp[aG]
  rw[hG,ag k _ hx,qo aG,AF];cases hp:p s[k]with
  |true=>
   simp only[cond_true,if_true];rw[eS (by omega),ih (k+1) (by omega)];congr 2;omega
  |false=>rfl
theorem avA{s:ck}(hl:s.length<4611686018427387904){k:Nat}(hk:k<=s.length):bW (GX s) (k:Int)=some (((k+h6 (fun c=>c.toNat != 10) (s.drop k):Nat)):Int):=
 M4 hl (fun c=>c.toNat != 10) (fun k c hx=>by
  have aG:=en hx;simp only[GX,zd aG,cond_true,dc,hx,aS,bne];rw[show((c.toNat:Int)==10)=(c.toNat==10)from pr c 10];cases c.toNat==10<;>rfl) (fun k hk=>by simp only[GX,ze hk,cond_false,aS]) (s.length-k) k (by omega)
theorem avB{s:ck}(hl:s.length<4611686018427387904):∀(n k:Nat),k+n=s.length->bW (DI s) (k:Int)=some (((k+hK false (s.drop k):Nat)):Int):=by
 intro n
 induction n using Nat.strongRecOn with
 |ind n ih=>
  intro k hk;rw[hG];rcases gD k s.length with aG|hge
  ·have hx:s[k]? =some s[k]:=by simp[aG]
   have nM:s.drop k=s[k]::s.drop (k+1):=qo aG
   have ag:DI s (k:Int)=bif ja s[k]||(s[k].toNat==35)then(bif s[k].toNat==35 then((bW (GX s) (k:Int):Option Int).bind fun GQ=>some (.next GQ))else some (.next (aL ((k:Int)+1))))else some (.out (k:Int)):=by
    simp only[DI,zd aG,cond_true,dc,hx,aS,af3];rw[show((s[k].toNat:Int)==35)=(s[k].toNat==35)from pr s[k] 35];cases ja s[k]<;>cases s[k].toNat==35<;>rfl
   rw[ag,nM];cases pt:s[k].toNat==35 with
   |true=>
    have vA:s[k].toNat=35:=by simpa using pt
    have hw:ja s[k]=false:=by simp[ja,vA]
    rw[hw];simp only[Bool.or_true,cond_true];rw[avA hl (by omega),nM];simp only[aS];have bq:(fun c:UInt8=>c.toNat != 10) s[k]=true:=by simp[vA]
    have hr:=KX (s[k]::s.drop (k+1))
    have h0:hK false (s[k]::s.drop (k+1))=hK true (s[k]::s.drop (k+1)):=by
     simp only[hK,hw,fV,if_false,vA,if_true];rfl
    rw[h0,hr];have iW:1<=h6 (fun c=>c.toNat != 10) (s[k]::s.drop (k+1)):=by rw[AF,if_pos bq];omega
    have hle:h6 (fun c=>c.toNat != 10) (s[k]::s.drop (k+1))<=s.length-k:=by
     have:=yw (fun c=>c.toNat != 10) (s[k]::s.drop (k+1));rw[<-nM,qs]at this;rw[nM]at this;exact this
    generalize U:h6 (fun c=>c.toNat != 10) (s[k]::s.drop (k+1))=R at iW hle⊢;have TI:(s[k]::s.drop (k+1)).drop R=s.drop (k+R):=by rw[<-nM,uN]
    rw[TI,ih (s.length-(k+R)) (by omega) (k+R) (by omega)];congr 2;omega
   |false=>
    have n35:¬s[k].toNat=35:=by simpa using pt
    cases hw:ja s[k]with
    |true=>
     simp only[NQ,cond_true,cond_false];rw[eS (by omega),ih (s.length-(k+1)) (by omega) (k+1) (by omega)];simp only[hK,hw,if_true];congr 2;omega
    |false=>
     simp only[NQ,cond_false,hK,hw,fV,if_false,n35];rfl
  ·have e:DI s (k:Int)=some (.out (k:Int)):=by simp only[DI,ze hge,cond_false,aS]
   rw[e,uJ hge];rfl
theorem avC{s:ck}(hl:s.length<4611686018427387904){k:Nat}(hk:k<=s.length):GZ s (k:Int)=some ((dJ s k:Nat):Int):=by
 unfold GZ;rw[avB hl (s.length-k) k (by omega)];rfl
theorem avD:∀w∈syms,1<=w.length/\w.length<=2:=by decide
theorem avE:Lq=some (ae.mk syms):=by unfold Lq;rfl
theorem M5{s:ck}{a c:Nat}(h1:a<=c)(h2:c<=s.length):qU s (a:Int) (c:Int)=some ((s.take c).drop a):=by
 unfold qU;rw[if_pos (by omega)];simp
theorem af4{s:ck}(hl:s.length<4611686018427387904){k:Nat}(hk:k<=s.length):G2 s (k:Int)=some ((sym (s.drop k):Nat):Int):=by
 unfold G2;rw[avE];simp only[aS];have ew:(ae.mk syms).l=syms:=rfl
 rw[H8 (f:=G1 s (k:Int) (ae.mk syms)) (fun j (_:Unit) st=>st=(j:Int)/\j<=18) (fun _ _ w=>bif pre (s.drop k) w then(.inr (.ret (w.length:Int)):Sum Unit (bO Unit Int))else .inl ()) (fun _=>.go ()) syms (fun j _ w st hx U=>by
  obtain⟨rfl,hj⟩:=U;have aG:=en hx;have hw:=avD w (eZ hx);have aBT:syms.length=18:=rfl;have hd:decide ((j:Int)<(ae.mk syms).len)=true:=fk aG;have avF:aL ((k:Int)+(w.length:Int))=((k+w.length:Nat):Int):=by rw[fF (by omega) (by omega)];omega
  have ag:G1 s (k:Int) (ae.mk syms) (j:Int)=bif pre (s.drop k) w then some (.out (.ret (w.length:Int)))else some (.next (aL ((j:Int)+1))):=by
   simp only[G1,hd,cond_true,dc,ew,hx,aS,avF];rw[<-apt hk];by_cases hle:k+w.length<=s.length
   ·have d1:decide (((k+w.length:Nat):Int)<=(s.length:Int))=true:=by simp;omega
    have d2:decide (k+w.length<=s.length)=true:=by simpa using hle
    rw[d1,d2];simp only[cond_true,M5 (show k<=k+w.length by omega) hle,aS,dy]
   ·have d1:decide (((k+w.length:Nat):Int)<=(s.length:Int))=false:=by simp;omega
    have d2:decide (k+w.length<=s.length)=false:=by simpa using hle
    rw[d1,d2];rfl
  rw[ag];cases pre (s.drop k) w with
  |true=>rfl
  |false=>exact⟨_,rfl,eS (by omega),by omega⟩) (fun _ st U=>by
  obtain⟨rfl,-⟩:=U;have hd:decide ((syms.length:Int)<(ae.mk syms).len)=false:=fQ;simp only[G1,hd,cond_false]) (a:=()) (s:=0) ⟨rfl,by omega⟩]
 have ct:∀(l:List (List UInt8)) (j:Nat),(match j0 (fun _ (_:Unit) w=>bif pre (s.drop k) w then(.inr (.ret ((w.length:Nat):Int)):Sum Unit (bO Unit Int))else .inl ()) (fun _=>.go ()) j () l with| .go _=>(0:Int)| .ret p=>p)=((w4 (s.drop k) l:Nat):Int):=by
  intro l
  induction l with
  |nil=>intro j;rfl
  |cons w ws ih=>
   intro j;simp only[j0,w4];cases pre (s.drop k) w with
   |true=>rfl
   |false=>exact ih (j+1)
 have:=ct syms 0;rw[aps]at this;rw[<-this];simp only[aS];cases j0 (fun _ (_:Unit) w=>bif pre (s.drop k) w then(.inr (.ret ((w.length:Nat):Int)):Sum Unit (bO Unit Int))else .inl ()) (fun _=>.go ()) 0 () syms<;>rfl
theorem avG:Lp=some (ae.mk kw):=by
 unfold Lp;exact congrArg (fun l=>some (ae.mk l)) (show _=kw by kernel_rfl)
theorem TJ:∀(b:Bool) (s:List UInt8) (c:UInt8) (r:List UInt8),s.drop (hK b s)=c::r->b=false->ja c=false/\c.toNat≠35
 | _,[],c,r,h,_=>by simp at h
 |true,_,_,_,_,h=>by cases h
 |false,x::s,c,r,h,_=>by
  simp only[hK]at h;split at h
  ·rw[Vo]at h
   exact TJ false s c r h rfl
  ·rename_i hw
   split at h
   ·rename_i pt
    rw[KX,Vo,<-uN]at h;have:=TJ false (s.drop (h6 (fun c=>c.toNat != 10) s)) c r h rfl;exact this
   ·rename_i pt
    simp only[List.drop_zero,xP]at h;obtain⟨rfl,-⟩:=h;exact⟨by simpa using hw,pt⟩
 termination_by _ s=>s.length
 decreasing_by all_goals simp_wf<;>first|omega|(have:=yw (fun c=>c.toNat != 10) s;omega)
end
end Go.Abs.bA
namespace Go.Abs.bA
open Go Go.Abs Go.Abs.Lex
noncomputable section
theorem TK (c:UInt8):yz (c.toNat:Int)=some (na c):=by
 unfold yz na;rw[show decide ((c.toNat:Int)>=97)=decide (97<=c.toNat)from decide_eq_decide.2 (by omega),show decide ((c.toNat:Int)<=122)=decide (c.toNat<=122)from decide_eq_decide.2 (by omega)]
theorem TL (c:UInt8):yA (c.toNat:Int)=some (jy c):=by
 unfold yA jy;rw[show decide ((c.toNat:Int)>=48)=decide (48<=c.toNat)from decide_eq_decide.2 (by omega),show decide ((c.toNat:Int)<=57)=decide (c.toNat<=57)from decide_eq_decide.2 (by omega)]
theorem avH (c:UInt8):Dy (c.toNat:Int)=some (mg c):=by
 unfold Dy mg;rw[TK,TL,show((c.toNat:Int)==95)=(c.toNat==95)from pr c 95];cases na c<;>cases jy c<;>rfl
theorem af5 (c:UInt8):AK (c.toNat:Int)=some (ja c):=by
 unfold AK ja;rw[show((c.toNat:Int)==9)=(c.toNat==9)from pr c 9,show((c.toNat:Int)==10)=(c.toNat==10)from pr c 10,show((c.toNat:Int)==13)=(c.toNat==13)from pr c 13,show((c.toNat:Int)==32)=(c.toNat==32)from pr c 32];cases c.toNat==9<;>cases c.toNat==10<;>cases c.toNat==13<;>cases c.toNat==32<;>rfl
theorem avI (c:UInt8):AL (c.toNat:Int)=some (c.toNat != 10):=by
 unfold AL bne;rw[show((c.toNat:Int)==10)=(c.toNat==10)from pr c 10]
theorem af6 (s:ck)(hl:s.length<4611686018427387904){f:Int->Option Bool}{p:UInt8->Bool}(ag:∀c:UInt8,f (c.toNat:Int)=some (p c)):AJ s f=some ((h6 p s:Nat):Int):=by
 unfold AJ
 have h:=M4 (s:=s) hl p (f:=Gh s f) (fun k c hx=>by
  have aG:=en hx;simp only[Gh,zd aG,cond_true,dc,hx,aS,ag];cases p c<;>rfl) (fun k hk=>by simp only[Gh,ze hk,cond_false,aS]) s.length 0 (by omega)
 rw[show bW (Gh s f) 0=_ from h];simp
theorem avJ (s:ck)(hl:s.length<4611686018427387904):Dx s=some ((hK false s:Nat):Int):=by
 have key:∀(n k:Nat),k+n=s.length->∃o:bO Int Int,bW (Dw s) (k:Int)=some o/\(match o with| .go p=>p| .ret p=>p)=((k+hK false (s.drop k):Nat):Int):=by
  intro n
  induction n using Nat.strongRecOn with
  |ind n ih=>
   intro k hk;rw[hG];rcases gD k s.length with aG|hge
   ·have hx:s[k]? =some s[k]:=by simp[aG]
    have nM:s.drop k=s[k]::s.drop (k+1):=qo aG;have Am:qU s (k:Int) (s.length:Int)=some (s.drop k):=by rw[M5 (by omega) (aN _),Ci]
    have ag:Dw s (k:Int)=bif ja s[k]then some (.next (aL ((k:Int)+1)))else(bif s[k].toNat==35 then some (.next (aL ((k:Int)+(h6 (fun c=>c.toNat != 10) (s.drop k):Nat))))else some (.out (.ret (k:Int)))):=by
     simp only[Dw,zd aG,cond_true,dc,hx,aS,af5,Am,af6 (s.drop k) (by rw[qs];omega) avI];rw[show((s[k].toNat:Int)==35)=(s[k].toNat==35)from pr s[k] 35]
    rw[ag,nM];cases hw:ja s[k]with
    |true=>
     simp only[cond_true];rw[eS (by omega)];obtain⟨o,h1,h2⟩:=ih (s.length-(k+1)) (by omega) (k+1) (by omega);refine⟨o,h1,?_⟩;rw[h2];simp only[hK,hw,if_true];congr 1;omega
    |false=>
     cases pt:s[k].toNat==35 with
     |true=>
      have vA:s[k].toNat=35:=by simpa using pt
      have bq:(fun c:UInt8=>c.toNat != 10) s[k]=true:=by simp[vA]
      have hr:=KX (s[k]::s.drop (k+1))
      have h0:hK false (s[k]::s.drop (k+1))=hK true (s[k]::s.drop (k+1)):=by
       simp only[hK,hw,fV,if_false,vA,if_true];rfl
      have iW:1<=h6 (fun c=>c.toNat != 10) (s[k]::s.drop (k+1)):=by rw[AF,if_pos bq];omega
      have hle:h6 (fun c=>c.toNat != 10) (s[k]::s.drop (k+1))<=s.length-k:=by
       have:=yw (fun c=>c.toNat != 10) (s[k]::s.drop (k+1));rw[<-nM,qs]at this;rw[nM]at this;exact this
      rw[h0,hr];generalize U:h6 (fun c=>c.toNat != 10) (s[k]::s.drop (k+1))=R at iW hle⊢;have TI:(s[k]::s.drop (k+1)).drop R=s.drop (k+R):=by rw[<-nM,uN]
      simp only[cond_true,cond_false];rw[TI,fF (by omega) (by omega)];obtain⟨o,h1,h2⟩:=ih (s.length-(k+R)) (by omega) (k+R) (by omega);refine⟨o,by rw[show(k:Int)+(R:Int)=((k+R:Nat):Int) by omega];exact h1,?_⟩;rw[h2];congr 1;omega
     |false=>
      have n35:¬s[k].toNat=35:=by simpa using pt
      refine⟨.ret (k:Int),rfl,?_⟩;simp only[hK,hw,fV,if_false,n35];simp
   ·refine⟨.go (k:Int),by simp only[Dw,ze hge,cond_false],?_⟩
    rw[uJ hge];simp[hK]
 obtain⟨o,h1,h2⟩:=key s.length 0 (by omega);unfold Dx;rw[show bW (Dw s) 0=_ from h1];simp only[eo,List.drop_zero]at h2;cases o<;>simp_all
theorem avK (s w:ck):Gf s w=some (pre s w):=by
 unfold Gf K0 pre;by_cases h:w.length<=s.length
 ·have d:decide ((s.length:Int)>=(w.length:Int))=true:=by simp;exact h
  have hs:qU s 0 (w.length:Int)=some (s.take w.length):=by
   have:=M5 (s:=s) (a:=0) (c:=w.length) (cN _) h;simpa using this
  rw[d,hs];rfl
 ·have d:decide ((s.length:Int)>=(w.length:Int))=false:=by simp;omega
  have e:(s.take w.length==w)=false:=by
   rw[Nt (by omega),Bool.eq_false_iff];intro c7;have:=congrArg List.length (eq_of_beq c7);omega
  rw[d,e];rfl
theorem af7 (s:ck):AG s=some ((sym s:Nat):Int):=by
 unfold AG;have hl:(ae.mk two).l=two:=rfl
 rw[show bW (Gg s) 0=some (bif two.any (pre s)then .ret ()else .go ())from mw (f:=Gg s) two (by decide) (pre s) (fun k x hx=>by
  have hd:decide ((k:Int)<(ae.mk [[61,61],[33,61],[60,61],[62,61],[46,46]]).len)=true:=fk (show k<two.length from en hx);have bb:([[61,61],[33,61],[60,61],[62,61],[46,46]]:List ck)[k]? =some x:=hx;simp only[Gg,hd,cond_true,ae.l,dc,bb,aS,avK];cases pre s x<;>rfl) (by
  have hd:decide ((two.length:Int)<(ae.mk [[61,61],[33,61],[60,61],[62,61],[46,46]]).len)=false:=by decide
  simp only[Gg,hd,cond_false])]
 unfold sym;cases h:two.any (pre s)with
 |true=>rfl
 |false=>
  simp only[cond_false,aS,fV,if_false];cases s with
  |nil=>rfl
  |cons c r=>
   have bq:((c::r) != ([]:ck))=true:=rfl;have hi:aO (c::r) 0=some c:=rfl;have hu:UInt8.ofNat ((c.toNat:Int)).toNat=c:=by simp
   rw[bq,hi];simp only[cond_true,aS,strings_IndexByte,hu];rw[show decide (Lib.indexByte [60,62,61,43,45,42,40,41,123,125,44,58,59] c>=0)=Lex.one.contains c from apo Lex.one c];cases Lex.one.contains c<;>rfl
theorem avL (c:UInt8)(r:ck):Dv (c::r)=some (pe (c::r)):=by
 unfold Dv pe;have hi:aO (c::r) 0=some c:=rfl;rw[hi];simp only[aS,TK,TL,af7];have hd:decide (((sym (c::r):Nat):Int)>0)=decide (0<sym (c::r)):=decide_eq_decide.2 (by omega);rw[hd];cases na c<;>cases jy c<;>rfl
end
end Go.Abs.bA
namespace Go.Abs.bA
open Go Go.Abs Go.Abs.Lex
noncomputable section
variable{aa:Nat->Option cc}
section
variable{call:c5}{ah:ai->V}{H:Heap}{low:Nat}
theorem uE (x:ai):ch call ah H low (.len 0 x)=match ah x with
  | .str s=>some (.int .i64 s.length,H,low)
  | _=>none:=by
 show step ah H low (.len 0 x)=_;cases hx:ah x<;>simp[step,hx]
theorem xD (x i:ai):ch call ah H low (.sn x i)=match ah x,lj (ah i)with
 | .str s,some i=>(s[i]?).map fun c=>(.int .u8 c.toNat,H,low)
 | _,_=>none:=rfl
theorem El (x:ai)(lo hi:Option ai):ch call ah H low (.rf x lo hi)=match ah x with
 | .str s=>match fe ah 0 lo,fe ah s.length hi with
   |some a,some b=>if a<=b/\b<=s.length then some (.str ((s.take b).drop a),H,low)else none
   | _,_=>none
 | _=>none:=rfl
end
structure ow (aa:Nat->Option cc):Prop where
 letter:aet aa
 digit:aeu aa
 part:aev aa
 avM:aew aa
 Eb:aex aa
 symbol:aey aa
 run:aez aa
 skip:aeA aa
 nl:aeB aa
 avN:aa 242=some (.code aeS)
 avO:aa 243=some (.code aeT)
 avP:aa 140=some (.code aeQ)
 avQ:aa 138=some (.code H3)
 avR:∃sp,aa 368=some (.ext sp)/\sp [.str KY]=some (.list 1 (kw.map .str))
def aP (aa:Nat->Option cc)(f:V)(args:List V)(H:Heap)(v:V):Prop:=b9 aa f args H=some (v,H,H.length)
def bv (c:UInt8):V:=.int .u8 c.toNat
theorem avS (T:ow aa)(c:UInt8)(H:Heap):aP aa (.fn 245 [] []) [bv c] H (.bool (na c)):=T.letter H _ _ (TK c)
theorem af8 (T:ow aa)(c:UInt8)(H:Heap):aP aa (.fn 248 [] []) [bv c] H (.bool (jy c)):=T.digit H _ _ (TL c)
theorem avT (T:ow aa)(c:UInt8)(H:Heap):aP aa (.fn 247 [] []) [bv c] H (.bool (mg c)):=T.part H _ _ (avH c)
theorem avU (T:ow aa)(c:UInt8)(H:Heap):aP aa (.fn 250 [] []) [bv c] H (.bool (ja c)):=T.avM H _ _ (af5 c)
theorem avV (T:ow aa)(c:UInt8)(r:List UInt8)(H:Heap):aP aa (.fn 251 [] []) [.str (c::r)] H (.bool (pe (c::r))):=T.Eb H _ _ (avL c r)
theorem avW (T:ow aa)(s:List UInt8)(H:Heap):aP aa (.fn 249 [] []) [.str s] H (.int .i64 (sym s)):=T.symbol H _ _ (af7 s)
theorem avX (T:ow aa){s:List UInt8}{H:Heap}(hl:s.length<4611686018427387904):aP aa (.fn 244 [] []) [.str s] H (.int .i64 (hK false s)):=T.skip H _ _ (avJ s hl)
theorem af9 (T:ow aa){s:List UInt8}{p:UInt8->Bool}{i:Nat}{H:Heap}(hl:s.length<4611686018427387904)(ag:∀(c:UInt8) H,aP aa (.fn i [] []) [bv c] H (.bool (p c))):
  aP aa (.fn 246 [] []) [.str s,.fn i [] []] H (.int .i64 (h6 p s)):=
 T.run H [] (Own.nil H) s (fun n=>if 0<=n/\n<256 then some (p (UInt8.ofNat n.toNat))else none) (.fn i [] []) (fun H low=>by simp[gl,ec,bx,cj]) (fun H' z q _ aJ=>by
   split at aJ
   ·rename_i h
    cases aJ;have:=ag (UInt8.ofNat z.toNat) H';unfold aP bv at this
    have e:((UInt8.ofNat z.toNat).toNat:Int)=z:=by
     rw[UInt8.toNat_ofNat'];omega
    rw[e]at this;exact this
   ·cases aJ) _ (af6 s hl fun c=>by
   have h1:c.toNat<256:=c.toNat_lt;rw[if_pos ⟨by omega,by omega⟩];simp)
def B6 (l:List (List UInt8))(k:Nat):List (V × V):=(l.take k).foldl (fun e s=>l5 1 (.str s) (.bool true) e) []
def xE:List (V × V):=kw.map fun s=>(V.str s,V.bool true)
theorem avY:B6 kw 35=xE:=by kernel_rfl
theorem avZ (T:ow aa)(H:Heap):b9 aa (.fn 368 [] []) [.str KY] H=some (.list 1 (kw.map .str),H,H.length):=by
 obtain⟨sp,h1,h2⟩:=T.avR;rw[pF,h1];simp[h2,cj,bx]
def strKeys (es:List (V × V)):Prop:=∀p∈es,∃t,p.1=V.str t
theorem av0{es:List (V × V)}(h:strKeys es)(s:List UInt8)(v:V):strKeys (l5 1 (.str s) v es):=by
 induction es with
 |nil=>intro p hp;simp[l5]at hp;exact⟨s,by rw[hp]⟩
 |cons q es ih=>
  obtain⟨t,ht⟩:=h q (by simp);obtain⟨a,b⟩:=q;simp only at ht;subst ht;simp only[l5,jl];split
  ·intro p hp
   rcases dG.1 hp with rfl|hp
   ·exact⟨s,rfl⟩
   ·exact h p (by simp[hp])
  ·intro p hp
   rcases dG.1 hp with rfl|hp
   ·exact⟨t,rfl⟩
   ·exact ih (fun p hp=>h p (by simp[hp])) p hp
theorem av1{es:List (V × V)}(h:strKeys es)(s:List UInt8):∃o,iJ 1 (.str s) es=some o:=by
 induction es with
 |nil=>exact⟨none,rfl⟩
 |cons q es ih=>
  obtain⟨t,ht⟩:=h q (by simp);obtain⟨a,b⟩:=q;simp only at ht;subst ht;obtain⟨o,ho⟩:=ih (fun p hp=>h p (by simp[hp]));simp only[iJ,jl];cases(s==t)with
  |true=>exact⟨some b,rfl⟩
  |false=>exact⟨o,ho⟩
theorem av2 (l:List (List UInt8))(k:Nat):strKeys (B6 l k):=by
 unfold B6;generalize l.take k=m
 have:∀(m:List (List UInt8)) e,strKeys e->strKeys (m.foldl (fun e s=>l5 1 (.str s) (.bool true) e) e):=by
  intro m
  induction m with
  |nil=>intro e h;exact h
  |cons a m ih=>intro e h;exact ih _ (av0 h _ _)
 exact this m [] (fun p hp=>by cases hp)
theorem av3{l:List (List UInt8)}{k:Nat}{s:List UInt8}(h:l[k]? =some s):B6 l (k+1)=l5 1 (.str s) (.bool true) (B6 l k):=by
 unfold B6;rw[xN,h];simp
theorem av4 (s:List UInt8):iJ 1 (.str s) xE=some (if kw.contains s then some (.bool true)else none):=by
 unfold xE;generalize kw=l
 induction l with
 |nil=>rfl
 |cons a l ih=>
  simp only[dX,iJ,jl,List.contains_cons];cases aBU:(s==a)with
  |true=>rfl
  |false=>simp[ih]
theorem Ix{H:Heap}{p:Nat}{o:cf}(h:H[p]? =some o)(t:Heap):(H++t)[p]? =some o:=by
 have hp:p<H.length:=by
  rcases gD p H.length with h1|h1
  ·exact h1
  ·rw[nP h1]at h;cases h
 rw[fY hp,h]
set_option maxHeartbeats 1000000 in
theorem av5 (T:ow aa)(H:Heap):b9 aa (.fn 242 [] []) [] H=some (.map H.length,H++[.map xE],H.length):=by
 have key:=alU (aa:=aa) (b:=8) (n:=6) (i:=7) (t:=13) (blk:=1) (ex:=0) (body:=SQ)
  (I:=fun k st=>st.H=H++[.map (B6 kw k)]/\st.low=H.length/\bZ st.ay 1=.map H.length/\bZ st.ay 5=.list 1 (kw.map .str)/\bZ st.ay 7=.int .i64 k/\bZ st.ay 6=.int .i64 (35:Nat))
  (Q:=fun x st=>st.H=H++[.map xE]/\st.low=H.length/\x=.exit 0/\bZ st.ay 1=.map H.length)
  (N:=35) (by decide) (by decide) (by decide)
  (fun k st h=>⟨h.2.2.2.2.1,h.2.2.2.2.2,by rw[h.1,h.2.1];simp⟩)
  (by
    rintro k st hk ⟨h1,h2,au,a7,h5,fL⟩;obtain⟨w,hn⟩:∃w,kw[k]? =some w:=⟨_,jD (by rw[QN];exact hk)⟩;have ew:AB 1 (V.list 1 (kw.map .str))=true:=rfl;have bb:(el (V.list 1 (kw.map .str)))[k]? =some (.str w):=by simp[el,hn]
    have MS:aI (V.str w)=[V.str w]:=rfl;obtain⟨o,ho⟩:=av1 (av2 kw k) w;refine⟨.normal,_,by simp[SQ,iL,iK,jn,lJ,nu,oE,oF,sv,pE,c8,gS,sQ,qR,n9,rF,pZ,oa,tT,sR,o3,tS,ys,ai.ah,bZ,gH,aw.put,eF,rk,ri,fb,gl,ec,bx,cj,gZ,kU,finish,old,olds,flat,lv,uO,kt,iV,aI,S.R,S.q,S.k,S.rt,S.hY,S.b2,S.e,S.r,S.o,S.n,S.rg,S.m,S.b6,S.ls,S.ef,S.eq,S.ne,S.lt,S.gt,S.dh,S.no,S.ez,S.st,S.iA,S.hE,S.jv,S.ex,S.c,S.cs,S.jP,S.k2,S.z,S.fn,S.kb,h1,h2,au,a7,h5,fL,alT,ew,bb,YA,step,ho,vO,-List.getElem?_map];rfl,?_⟩;simp only[true_or,if_true,gH,h1,h2];refine⟨by simp[h5],by simp,by simp[av3 hn],by simp,by simp[au],by simp[a7],by simp,by simp[fL]⟩)
  (by
    rintro st ⟨h1,h2,au,a7,h5,fL⟩;exact⟨by rw[h1,avY],h2,rfl,by simp[gH,au]⟩)
 obtain⟨x,bf,h1,h2,au,rfl,a7⟩:=key 35 0 {aM:=[],ay:=[(0,.jk),(1,.map H.length),(5,.list 1 (kw.map .str)),(6,.int .i64 35),(7,.int .i64 0)],H:=H++[.map []],low:=H.length} (by omega)
  ⟨rfl,rfl,rfl,rfl,rfl,rfl⟩
 have hx:=avZ T (H++[.map []]);simp only[KY]at hx;have hlen:(el (V.list 1 (kw.map .str))).length=35:=by simp[el,QN]
 have ew:AB 1 (V.list 1 (kw.map .str))=true:=rfl;rw[pF,T.avN];simp[aeS,iL,iK,jn,lJ,nu,oE,oF,sv,pE,c8,gS,sQ,qR,n9,rF,pZ,oa,tT,sR,o3,tS,ys,ai.ah,bZ,ga,aw.put,eF,rk,ri,fb,gl,ec,bx,cj,gZ,kU,finish,old,olds,flat,lv,uO,kt,iV,aI,S.R,S.q,S.k,S.rt,S.hY,S.b2,S.e,S.r,S.o,S.n,S.rg,S.m,S.b6,S.ls,S.ef,S.eq,S.ne,S.lt,S.gt,S.dh,S.no,S.ez,S.st,S.iA,S.hE,S.jv,S.ex,S.c,S.cs,S.jP,S.k2,S.z,S.fn,S.kb,Yz,YC 1,ew,hlen,hx,h1,h2,au,a7,gH,eG]
set_option maxHeartbeats 1000000 in
theorem av6 (T:ow aa)(s:List UInt8)(H:Heap):b9 aa (.fn 140 [] []) [.str s] H=some (.fn 243 [] [.ptr H.length 0,.ptr (H.length+2) 0],H++[.cells [.str s],.map xE,.cells [.map (H.length+1)]],H.length):=by
 have hk:=av5 T (H++[.cells [.str s]]);simp only[hO,iI,oD,eo,kR,l4,j4]at hk;rw[pF,T.avP];simp[aeQ,iL,iK,jn,lJ,nu,oE,oF,sv,pE,c8,gS,sQ,qR,n9,rF,pZ,oa,tT,sR,o3,tS,ys,ai.ah,bZ,ga,aw.put,eF,rk,ri,fb,gl,ec,bx,cj,gZ,kU,finish,old,olds,flat,lv,uO,kt,iV,aI,S.R,S.q,S.k,S.rt,S.hY,S.b2,S.e,S.r,S.o,S.n,S.rg,S.m,S.b6,S.ls,S.ef,S.eq,S.ne,S.lt,S.gt,S.dh,S.no,S.ez,S.st,S.iA,S.hE,S.jv,S.ex,S.c,S.cs,S.jP,S.k2,S.z,S.fn,S.kb,Qj,bM,dY,hk,mY,j6,setCells,eG]
end
end Go.Abs.bA
namespace Go.Abs.bA
open Go Go.Abs Go.Abs.Lex
noncomputable section
variable{aa:Nat->Option cc}
attribute [local simp] iL iK jn lJ nu oE oF sv pE c8 gS sQ qR n9 rF pZ oa tT sR o3 tS ys ai.ah bZ gH aw.put eF rk ri fb gl ec bx cj gZ kU finish old olds flat lv uO kt iV aI S.R S.q S.k S.rt S.hY S.b2 S.e S.r S.o S.n S.rg S.m S.b6 S.ls S.ef S.eq S.ne S.lt S.gt S.dh S.no S.ez S.st S.iA S.hE S.jv S.ex S.c S.cs S.jP S.k2 S.z S.fn S.kb
set_option maxHeartbeats 1000000 in
theorem aga (T:ow aa){s:List UInt8}{H:Heap}{lo:Nat}(hl:s.length<4611686018427387904)(gn:min lo H.length=lo):
  ∀(r:List UInt8) (k:Nat) (st:aw),s.drop k=r->k<=s.length->st.H=H->st.low=lo->bZ st.ay 6=.str s->bZ st.ay 7=.int .i64 k->
   ∃bf,er aa (.loop yY) st=some (.exit 3,bf)/\bf.H=H/\bf.low=lo/\bZ bf.ay 7=.int .i64 ((k+mh r:Nat):Int)/\∀t,t<7->bZ bf.ay t=bZ st.ay t
 |[],k,st,hr,hk,h1,h2,fL,mS=>by
  have hle:=drop_nil hr;have hn:¬(k:Int)<(s.length:Int):=by omega
  rw[tq];refine⟨_,by simp[yY,uE,h1,h2,fL,mS,hn,gn];rfl,?_⟩;simp only[gH,h1,h2,mh];exact⟨by simp,by first|(simp[gn,mL];done)|(simp[gn];done)|(simp;omega)|omega,by simp[mS],fun t ht=>by simp[show t≠44 by omega]⟩
 |c::r,k,st,hr,hk,h1,h2,fL,mS=>by
  obtain⟨g1,g2,g3⟩:=drop_cons hr;have hn:(k:Int)<(s.length:Int):=by omega
  have hc:=avU T c H;have agb:=avV T c r H;unfold aP bv at hc;unfold aP at agb;have hb:b9 aa (.fn 251 [] []) [V.str (s.drop k)] H=some (.bool (pe (c::r)),H,H.length):=by rw[hr];exact agb
  have bb:∀h:k<s.length,s[k]'h=c:=fun h=>by rw[jD h]at g1;exact ra g1
  have tG:k<=s.length:=by omega
  have hw:IntKind.i64.wrap ((k:Int)+1)=((k+1:Nat):Int):=by rw[wrap_small]<;>omega
  have vA:((c.toNat:Int) != 35)=!(c.toNat==35):=by simp only[bne,show((c.toNat:Int)==35)=(c.toNat==35)from pr c 35]
  by_cases Em:(ja c||c.toNat==35||pe (c::r))=true
  ·have aJ:mh (c::r)=0:=by simp only[mh,Em,if_true]
   rw[tq,aJ];cases hW:ja c with
   |true=>
    rw[hW]at hc;refine⟨_,by simp[yY,uE,xD,h1,h2,fL,mS,hn,bb,g3,hc,gn];rfl,?_⟩;simp only[gH,h1,h2];exact⟨by simp,by first|(simp[gn,mL];done)|(simp[gn];done)|(simp;omega)|omega,by simp[mS],fun t ht=>by simp[show t≠44 by omega]⟩
   |false=>
    rw[hW]at hc;cases pt:(c.toNat==35)with
    |true=>
     refine⟨_,by simp[yY,uE,xD,h1,h2,fL,mS,hn,bb,g3,hc,vA,pt,gn];rfl,?_⟩;simp only[gH,h1,h2];exact⟨by simp,by first|(simp[gn,mL];done)|(simp[gn];done)|(simp;omega)|omega,by simp[mS],fun t ht=>by simp[show t≠44 by omega]⟩
    |false=>
     have av7:pe (c::r)=true:=by simpa[hW,pt]using Em
     rw[av7]at hb;refine⟨_,by simp[yY,uE,xD,El,fe,tG,h1,h2,fL,mS,hn,bb,g3,hc,hb,vA,pt,gn];rfl,?_⟩;simp only[gH,h1,h2];exact⟨by simp,by first|(simp[gn,mL];done)|(simp[gn];done)|(simp;omega)|omega,by simp[mS],fun t ht=>by simp[show t≠44 by omega]⟩
  ·have aJ:mh (c::r)=mh r+1:=by simp only[mh,Em,if_false];simp
   have hW:ja c=false:=by cases h:ja c<;>simp[h]at Em⊢
   have pt:(c.toNat==35)=false:=by cases h:(c.toNat==35)<;>simp[h]at Em⊢
   have TM:pe (c::r)=false:=by cases h:pe (c::r)<;>simp[h]at Em⊢
   rw[hW]at hc;rw[TM]at hb
   have Ij:∃st1,er aa yY st=some (.normal,st1)/\st1.H=H/\st1.low=lo/\bZ st1.ay 7=.int .i64 ((k+1:Nat):Int)/\∀t,t<7->bZ st1.ay t=bZ st.ay t:=by
    refine⟨_,by simp[yY,uE,xD,El,fe,tG,h1,h2,fL,mS,hn,bb,g3,hc,hb,vA,pt,gn,hw];rfl,?_⟩;simp only[gH,h1,h2];exact⟨by simp,by first|(simp[gn,mL];done)|(simp[gn];done)|(simp;omega)|omega,by simp,fun t ht=>by simp[show t≠44 by omega,show t≠7 by omega]⟩
   obtain⟨st1,q1,q2,b3,cS,fw⟩:=Ij;obtain⟨bf,bI,cq,e6,gU,ju⟩:=aga T hl gn r (k+1) st1 g2 (by omega) q2 b3 (by rw[fw 6 (by decide)];exact fL) cS;refine⟨bf,by rw[tq,q1];exact bI,cq,e6,?_,fun t ht=>(ju t ht).trans (fw t ht)⟩;rw[gU,aJ];simp;omega
set_option maxHeartbeats 2000000 in
theorem av8 (T:ow aa){s:List UInt8}{H:Heap}{lo p2 m:Nat}{a b:Int}(hl:s.length<4611686018427387904)(hR:lo<=H.length)(g2:H[p2]? =some (.cells [.map m]))(M6:H[m]? =some (.map xE))
  {st:aw} (h1:st.H=H++[.cells [.int .i64 0,.int .i64 a,.int .i64 b,.int .i64 0]]) (h2:st.low=lo) (ll:bZ st.ay 2=.ptr p2 0) (B7:bZ st.ay 5=.ptr H.length 0) (zf:bZ st.ay 6=.str s) (td:bZ st.ay 7=.int .i64 0):
  ∃bf,er aa xq st=some (.normal,bf)/\bf.H=H++[.cells [.int .i64 (jb s),.int .i64 a,.int .i64 b,.int .i64 0]]/\bf.low=lo/\bZ bf.ay 7=.int .i64 (lz s)/\∀t,t<7->bZ bf.ay t=bZ st.ay t:=by
 have gn:min lo H.length=lo:=pz hR;have mL:min lo (H.length+1)=lo:=pz (by omega);have TN:=fun t=>Ix g2 t;have TP:=fun t=>Ix M6 t;cases s with
 |nil=>
  refine⟨_,by simp[xq,h1,h2,ll,B7,zf,td,gn,mL];rfl,?_⟩;simp only[gH,h1,h2,jb,lz];exact⟨by simp,by first|(simp[gn,mL];done)|(simp[gn];done)|(simp;omega)|omega,by simp[td],fun t ht=>by simp[show t≠47 by omega]⟩
 |cons c r=>
  have bq:((c::r)==[])=false:=rfl;have dP:=avS T c (H++[.cells [.int .i64 0,.int .i64 a,.int .i64 b,.int .i64 0]]);have me:=af8 T c (H++[.cells [.int .i64 0,.int .i64 a,.int .i64 b,.int .i64 0]]);have aC:=avW T (c::r) (H++[.cells [.int .i64 0,.int .i64 a,.int .i64 b,.int .i64 0]]);have M7:=af9 T (s:=c::r) (p:=mg) (i:=247) (H:=H++[.cells [.int .i64 0,.int .i64 a,.int .i64 b,.int .i64 0]]) hl (fun c H=>avT T c H);have TQ:=af9 T (s:=c::r) (p:=jy) (i:=248) (H:=H++[.cells [.int .i64 0,.int .i64 a,.int .i64 b,.int .i64 0]]) hl (fun c H=>af8 T c H);unfold aP bv at dP me;unfold aP at aC M7 TQ;simp only[hO,iI,oD,eo]at dP me aC M7 TQ;have qH:=yw mg (c::r);have M8:=av4 ((c::r).take (h6 mg (c::r)));cases ak:na c with
  |true=>
   rw[ak]at dP;generalize hn:h6 mg (c::r)=n at*;have agc:n<=r.length+1:=qH;cases a2:kw.contains ((c::r).take n)with
   |true=>
    rw[a2]at M8;have xF:jb (c::r)=2:=by simp only[jb,ak,if_true,hn,a2]
    have el:lz (c::r)=n:=by simp only[lz,ak,if_true,hn]
    rw[xF,el];refine⟨_,by simp[xq,h1,h2,ll,B7,zf,td,gn,mL,bq,xD,lj,dP,M7,mY,o4,j6,bM,dY,setCells,El,fe,qH,Ko,step,TN,TP,M8,agc,eG,sr,xV,-List.take_succ_cons];rfl,?_⟩;simp only[gH,h1,h2];exact⟨by simp,by first|(simp[gn,mL];done)|(simp;omega)|omega,by simp,fun t ht=>by simp[show t≠47 by omega,show t≠50 by omega,show t≠61 by omega,show t≠7 by omega]⟩
   |false=>
    rw[a2]at M8;have xF:jb (c::r)=1:=by simp only[jb,ak,if_true,hn,a2];rfl
    have el:lz (c::r)=n:=by simp only[lz,ak,if_true,hn]
    rw[xF,el];refine⟨_,by simp[xq,h1,h2,ll,B7,zf,td,gn,mL,bq,xD,lj,dP,M7,mY,o4,j6,bM,dY,setCells,El,fe,qH,Ko,step,TN,TP,M8,agc,eG,sr,xV,-List.take_succ_cons];rfl,?_⟩;simp only[gH,h1,h2];exact⟨by simp,by first|(simp[gn,mL];done)|(simp;omega)|omega,by simp,fun t ht=>by simp[show t≠47 by omega,show t≠50 by omega,show t≠61 by omega,show t≠7 by omega]⟩
  |false=>
   rw[ak]at dP;cases a2:jy c with
   |true=>
    rw[a2]at me;have xF:jb (c::r)=3:=by simp only[jb,ak,a2,if_true];rfl
    have el:lz (c::r)=h6 jy (c::r):=by simp only[lz,ak,a2,if_true];rfl
    rw[xF,el];refine⟨_,by simp[xq,h1,h2,ll,B7,zf,td,gn,mL,bq,xD,lj,dP,me,TQ,mY,o4,j6,bM,dY,setCells];rfl,?_⟩;simp only[gH,h1,h2];exact⟨by simp,by first|(simp[gn,mL];done)|(simp;omega)|omega,by simp,fun t ht=>by simp[show t≠47 by omega,show t≠50 by omega,show t≠63 by omega,show t≠7 by omega]⟩
   |false=>
    rw[a2]at me;by_cases a3:0<sym (c::r)
    ·have xF:jb (c::r)=4:=by simp only[jb,ak,a2,a3,if_true];rfl
     have el:lz (c::r)=sym (c::r):=by simp only[lz,ak,a2,a3,if_true];rfl
     rw[xF,el];refine⟨_,by simp[xq,h1,h2,ll,B7,zf,td,gn,mL,bq,xD,lj,dP,me,aC,a3,mY,o4,j6,bM,dY,setCells];rfl,?_⟩;simp only[gH,h1,h2];exact⟨by simp,by first|(simp[gn,mL];done)|(simp;omega)|omega,by simp,fun t ht=>by simp[show t≠47 by omega,show t≠50 by omega,show t≠63 by omega,show t≠70 by omega,show t≠7 by omega]⟩
    ·have xF:jb (c::r)=5:=by simp only[jb,ak,a2,a3,if_false];rfl
     have el:lz (c::r)=mh r+1:=by simp only[lz,ak,a2,a3,if_false];rfl
     rw[xF,el]
     obtain⟨st1,q1,q2,b3,cS,fw⟩:=aga T (s:=c::r) (H:=H++[.cells [.int .i64 5,.int .i64 a,.int .i64 b,.int .i64 0]]) (lo:=lo) hl (by simp;omega) r 1
      {aM:=[],ay:=ga (ga (ga (ga (ga st.ay 47 (.bool false)) 50 (.bool false)) 63 (.bool false)) 70 (.bool false)) 7 (.int .i64 1),H:=H++[.cells [.int .i64 5,.int .i64 a,.int .i64 b,.int .i64 0]],low:=lo,ro:=st.ro} rfl (by simp) rfl rfl (by simp[gH,zf]) (by simp[gH])
     refine⟨st1,by simp[xq,h1,h2,ll,B7,zf,td,gn,mL,bq,xD,lj,dP,me,aC,a3,mY,o4,j6,bM,dY,setCells,q1],q2,b3,?_,fun t ht=> ?_⟩
     ·rw[cS];simp;omega
     ·rw[fw t ht];simp[gH,show t≠47 by omega,show t≠50 by omega,show t≠63 by omega,show t≠70 by omega,show t≠7 by omega]
end
end Go.Abs.bA
namespace Go.Abs.bA
open Go Go.Abs Go.Abs.Lex
noncomputable section
variable{aa:Nat->Option cc}
attribute [local simp] iL iK jn lJ nu oE oF sv pE c8 gS sQ qR n9 rF pZ oa tT sR o3 tS ys ai.ah bZ gH aw.put eF rk ri fb gl ec bx cj gZ kU finish old olds flat lv uO kt iV aI S.R S.q S.k S.rt S.hY S.b2 S.e S.r S.o S.n S.rg S.m S.b6 S.ls S.ef S.eq S.ne S.lt S.gt S.dh S.no S.ez S.st S.iA S.hE S.jv S.ex S.c S.cs S.jP S.k2 S.z S.fn S.kb
theorem av9:MC=.block 1 (.seq Mz (.seq MA (.seq MB (.seq (.block 2 xq) Ea)))):=rfl
def B8 (s:List UInt8)(fT:Nat):List V:=[.int .i64 (jb (s.drop (dJ s fT))),.int .i64 fT,.int .i64 (dJ s fT),.int .i64 (hL s fT)]
set_option maxHeartbeats 2000000 in
theorem awa (T:ow aa){s:List UInt8}{H H2:Heap}{p1 p2 m L fT dL m0:Nat}{b:Bool}(hl:s.length<4611686018427387904)(iN:fT<=s.length)(g1:H[p1]? =some (.cells [.str s]))(g2:H[p2]? =some (.cells [.map m]))(M6:H[m]? =some (.map xE))
  {st:aw} (h1:st.H=H) (h2:m0<=st.low) (yb:st.low<=H.length) (qM:bZ st.ay 0=.yield L) (b6:bZ st.ay 1=.ptr p1 0) (ll:bZ st.ay 2=.ptr p2 0) (Be:bZ st.ay 4=.int .i64 fT)
  (hy:b9 aa (.yield L) [.agg (B8 s fT)] (H++[.cells (B8 s fT)])=some (.bool b,H2,dL)) (z8:dL<=H.length) (gn:m0<=dL) (aBV:m0<=H2.length) (JV:b=true->H2[H.length]? =some (.cells (B8 s fT))):
  ∃x bf,er aa MC st=some (x,bf)/\x=(if b&&decide (jb (s.drop (dJ s fT))≠0)then .normal else .ret)/\bf.H=H2/\m0<=bf.low/\bf.low<=dL/\bZ bf.ay 4=.int .i64 (hL s fT)/\∀t,t<4->bZ bf.ay t=bZ st.ay t:=by
 have awb:=fun t=>Ix g1 t;have TN:=fun t=>Ix g2 t;have TP:=fun t=>Ix M6 t;obtain⟨lo,hR⟩:∃lo,st.low=lo:=⟨_,rfl⟩;rw[hR]at h2 yb;have pV:min lo H.length=lo:=pz yb;have mM:min lo (H.length+1)=lo:=pz (by omega);have Iy:=avX T (s:=s.drop fT) (H:=H) (by rw[qs];omega);unfold aP at Iy;have awc:=QO iN;have aBW:=QP iN
 have awd:IntKind.i64.wrap ((fT:Int)+(hK false (s.drop fT):Int))=(dJ s fT:Int):=by
  have e:(fT:Int)+(hK false (s.drop fT):Int)=(dJ s fT:Int):=by unfold dJ;omega
  rw[e,wrap_small]<;>omega
 have wR:IntKind.i64.wrap ((dJ s fT:Int)+(lz (s.drop (dJ s fT)):Int))=(hL s fT:Int):=by
  have e:(dJ s fT:Int)+(lz (s.drop (dJ s fT)):Int)=(hL s fT:Int):=by unfold hL;omega
  rw[e,wrap_small]<;>omega
 have A:∃st1,er aa Mz st=some (.normal,st1)/\st1.H=H++[.cells [.int .i64 0,.int .i64 fT,.int .i64 (dJ s fT),.int .i64 0]]/\st1.low=lo/\bZ st1.ay 5=.ptr H.length 0/\∀t,t<5->bZ st1.ay t=bZ st.ay t:=by
  refine⟨_,by simp[Mz,h1,hR,Be,b6,g1,El,fe,iN,Iy,awd,step,vP,setCells,bM,dY,mY,j6,pV,mM];rfl,?_⟩;simp only[gH,h1];exact⟨by simp[setCells,ai.ah,bZ,aI],by first|(simp[pV,mM];done)|(simp;omega),by simp,fun t ht=>by simp[show t≠5 by omega]⟩
 obtain⟨st1,ak,a2,a3,a4,a5⟩:=A
 have B:∃st2,er aa MA st1=some (.normal,st2)/\st2.H=st1.H/\st2.low=lo/\bZ st2.ay 6=.str (s.drop (dJ s fT))/\∀t,t<6->bZ st2.ay t=bZ st1.ay t:=by
  have b1:bZ st1.ay 1=.ptr p1 0:=(a5 1 (by decide)).trans b6;refine⟨_,by simp[MA,a2,a3,a4,b1,awb,o4,El,fe,awc,pV,mM];rfl,?_⟩;simp only[gH,a2];exact⟨by simp,by first|(simp[pV,mM];done)|(simp;omega),by simp,fun t ht=>by simp[show t≠6 by omega]⟩
 obtain⟨st2,b1,e8,h7,j9,tr⟩:=B
 have awe:∃ma,er aa MB st2=some (.normal,ma)/\ma.H=st1.H/\ma.low=lo/\bZ ma.ay 7=.int .i64 0/\∀t,t<7->bZ ma.ay t=bZ st2.ay t:=by
  refine⟨_,by simp[MB,e8,h7,a2,pV,mM];rfl,?_⟩;simp only[gH,a2,e8];exact⟨by simp,by first|(simp[pV,mM];done)|(simp;omega),by simp,fun t ht=>by simp[show t≠7 by omega]⟩
 obtain⟨ma,cT,dI,fg,ic,il⟩:=awe
 obtain⟨Iz,d1,d3,d4,d5,d6⟩:=av8 T (s:=s.drop (dJ s fT)) (H:=H) (lo:=lo) (by rw[qs];omega) yb g2 M6 (st:=ma) (dI.trans a2) fg
  (by rw[il 2 (by decide),tr 2 (by decide),a5 2 (by decide)];exact ll) (by rw[il 5 (by decide),tr 5 (by decide)];exact a4) (by rw[il 6 (by decide)];exact j9) ic
 have eH:∀t,t<5->bZ Iz.ay t=bZ st.ay t:=fun t ht=>by rw[d6 t (by omega),il t (by omega),tr t (by omega),a5 t ht]
 have vg:bZ Iz.ay 5=.ptr H.length 0:=by rw[d6 5 (by decide),il 5 (by decide),tr 5 (by decide)];exact a4
 have k0:bZ Iz.ay 0=.yield L:=(eH 0 (by decide)).trans qM;have xl:∀t:Heap,¬H.length+1<=dL:=fun _=>by omega
 have CB:=xl [];have sO:m0<=H.length:=by omega
 have E:∃x zg,er aa Ea Iz=some (x,zg)/\x=(if b&&decide (jb (s.drop (dJ s fT))≠0)then .normal else .ret)/\zg.H=H2/\m0<=zg.low/\zg.low<=dL/\bZ zg.ay 4=.int .i64 (hL s fT)/\∀t,t<4->bZ zg.ay t=bZ Iz.ay t:=by
  unfold B8 at hy JV;generalize oU:jb (s.drop (dJ s fT))=K at*;cases b with
  |false=>
   refine⟨.ret,_,by simp[Ea,d3,d4,d5,vg,k0,o4,mY,j6,bM,dY,setCells,wR,hy,CB,pV,mM];rfl,rfl,rfl,?_⟩;exact⟨by simp;omega,by simp;omega,by simp[gH],fun t ht=>by simp[gH,show t≠92 by omega,show t≠4 by omega]⟩
  |true=>
   have M9:=JV rfl;have agd:∀h:H.length<H2.length,H2[H.length]'h=.cells [.int .i64 K,.int .i64 fT,.int .i64 (dJ s fT),.int .i64 (hL s fT)]:=fun h=>by rw[jD h]at M9;exact ra M9
   by_cases aJ:K=0
   ·have TR:((K:Int)==0)=true:=by simp[aJ]
    refine⟨.ret,_,by simp[Ea,d3,d4,d5,vg,k0,o4,mY,j6,bM,dY,setCells,wR,hy,CB,pV,mM,M9,agd,TR];rfl,by simp[aJ],rfl,?_⟩;exact⟨by simp;omega,by simp;omega,by simp[gH],fun t ht=>by simp[gH,show t≠92 by omega,show t≠4 by omega]⟩
   ·have TR:((K:Int)==0)=false:=by simp;omega
    refine⟨.normal,_,by simp[Ea,d3,d4,d5,vg,k0,o4,mY,j6,bM,dY,setCells,wR,hy,CB,pV,mM,M9,agd,TR];rfl,by simp[aJ],rfl,?_⟩;exact⟨by simp;omega,by simp;omega,by simp[gH],fun t ht=>by simp[gH,show t≠92 by omega,show t≠4 by omega]⟩
 obtain⟨x,zg,ad,e2,bK,cw,awf,dC,gp⟩:=E;have hx:x=.normal\/x=.ret:=by rw[e2];split<;>simp
 refine⟨x,zg,?_,e2,bK,cw,awf,dC,fun t ht=>(gp t ht).trans (eH t (by omega))⟩;rw[av9,pE,jn,ak];simp only[];rw[jn,b1];simp only[];rw[jn,cT];simp only[];rw[jn,pE,d1];simp only[];rw[ad];rcases hx with rfl|rfl<;>rfl
end
end Go.Abs.bA
namespace Go.Abs.bA
open Go Go.Abs Go.Abs.Lex
noncomputable section
variable{aa:Nat->Option cc}
attribute [local simp] iL iK jn lJ nu oE oF sv pE c8 gS sQ qR n9 rF pZ oa tT sR o3 tS ys ai.ah bZ ga aw.put eF rk ri fb gl ec bx cj gZ kU finish old olds flat lv uO kt iV aI S.R S.q S.k S.rt S.hY S.b2 S.e S.r S.o S.n S.rg S.m S.b6 S.ls S.ef S.eq S.ne S.lt S.gt S.dh S.no S.ez S.st S.iA S.hE S.jv S.ex S.c S.cs S.jP S.k2 S.z S.fn S.kb
theorem ox (H l:Heap)(k:Nat):(H++l)[H.length+k]? =l[k]? :=by rw[vH (by omega)];simp
theorem vB (H l:Heap):(H++l)[H.length]? =l[0]? :=ox H l 0
theorem zh (H l:Heap)(k:Nat)(x:cf):(H++l).set (H.length+k) x=H++l.set k x:=by rw[List.set_append_right _ _ (by omega)];simp
theorem xG (H l:Heap)(x:cf):(H++l).set H.length x=H++l.set 0 x:=zh H l 0 x
def IA (w:List UInt8)(n:Nat):Env:=[(0,.str w),(1,.ptr n 0),(2,.ptr (n+1) 0),(10,.bool false),(12,.fn 243 [] [.ptr (n+2) 0,.ptr (n+4) 0])]
def vC (w:List UInt8)(n:Nat):Heap:=[.cells [.str w],.cells [.int .i64 0],.cells [.str w],.map xE,.cells [.map (n+3)],.loop .ready .normal (IA w n) [13] HY HZ]
set_option maxHeartbeats 1000000 in
theorem awg (T:ow aa)(w:List UInt8)(H:Heap):∃H2 dL,b9 aa (.yield (H.length+5)) [.agg (B8 w 0)] (H++(vC w H.length++[.cells (B8 w 0)]))=some (.bool false,H2,dL)/\H.length<=dL/\dL<=H.length+5/\H.length<=H2.length/\
  ((dJ w 0=0/\hL w 0=w.length/\H2[H.length+1]? =some (.cells [.int .i64 (jb (w.drop (dJ w 0)))])/\∃e p a b,H2[H.length+5]? =some (.loop .done .ret e p a b))\/
   (¬(dJ w 0=0/\hL w 0=w.length)/\H2[H.length+1]? =some (.cells [.int .i64 0])/\∃e p a b,H2[H.length+5]? =some (.loop .done (.exit 0) e p a b))):=by
 rw[ahP];unfold B8;generalize jb (w.drop (dJ w 0))=K;by_cases h1:dJ w 0=0
 ·have ad:((dJ w 0:Int) != 0)=false:=by simp[h1]
  by_cases h2:hL w 0=w.length
  ·have e2:((hL w 0:Int) != (w.length:Int))=false:=by simp[h2]
   refine⟨_,_,by simp[vC,IA,qx,ox,vB,zh,xG,HY,HZ,o4,uE,mY,j6,setCells,bM,dY,ad,e2,eG];exact⟨rfl,rfl⟩,?_⟩;exact⟨by simp<;>omega,by simp<;>omega,by simp<;>omega,.inl ⟨h1,h2,by simp[ox],_,_,_,_,by rw[ox];rfl⟩⟩
  ·have e2:((hL w 0:Int) != (w.length:Int))=true:=by simp;omega
   refine⟨_,_,by simp[vC,IA,qx,ox,vB,zh,xG,HY,HZ,o4,uE,mY,j6,setCells,bM,dY,ad,e2,eG];exact⟨rfl,rfl⟩,?_⟩;exact⟨by simp<;>omega,by simp<;>omega,by simp<;>omega,.inr ⟨fun h=>h2 h.2,by simp[ox],_,_,_,_,by rw[ox];rfl⟩⟩
 ·have ad:((dJ w 0:Int) != 0)=true:=by simp;omega
  refine⟨_,_,by simp[vC,IA,qx,ox,vB,zh,xG,HY,HZ,o4,uE,mY,j6,setCells,bM,dY,ad,eG];exact⟨rfl,rfl⟩,?_⟩;exact⟨by simp<;>omega,by simp<;>omega,by simp<;>omega,.inr ⟨fun h=>h1 h.1,by simp[ox],_,_,_,_,by rw[ox];rfl⟩⟩
set_option maxHeartbeats 1000000 in
theorem awh (T:ow aa)(w:List UInt8)(hl:w.length<=4096)(H:Heap):∃H2 dL,b9 aa (.fn 243 [] [.ptr (H.length+2) 0,.ptr (H.length+4) 0]) [.yield (H.length+5)] (H++vC w H.length)=some (.aF [],H2,dL)/\H.length<=dL/\H.length<=H2.length/\
  ((dJ w 0=0/\hL w 0=w.length/\H2[H.length+1]? =some (.cells [.int .i64 (jb (w.drop (dJ w 0)))])/\∃e p a b,H2[H.length+5]? =some (.loop .done .ret e p a b))\/
   (¬(dJ w 0=0/\hL w 0=w.length)/\H2[H.length+1]? =some (.cells [.int .i64 0])/\∃e p a b,H2[H.length+5]? =some (.loop .done (.exit 0) e p a b))):=by
 obtain⟨H2,dL,hy,b1,e8,h7,j9⟩:=awg T w H;rw[<-kR]at hy;have hlen:(H++vC w H.length).length=H.length+6:=by simp[vC]
 obtain⟨x,bf,q1,q2,b3,cS,fw,gV,mT⟩:=awa T (s:=w) (H:=H++vC w H.length) (H2:=H2) (p1:=H.length+2) (p2:=H.length+4) (m:=H.length+3) (L:=H.length+5) (fT:=0) (dL:=dL) (m0:=H.length) (b:=false)
  (by omega) (cN _) (by rw[ox];rfl) (by rw[ox];rfl) (by rw[ox];rfl)
  (st:={aM:=[],ay:=[(0,.yield (H.length+5)),(1,.ptr (H.length+2) 0),(2,.ptr (H.length+4) 0),(4,.int .i64 0)],H:=H++vC w H.length,low:=H.length+6}) rfl (by simp) (by rw[hlen];exact aN _) rfl rfl rfl rfl hy (by rw[hlen];omega) b1 h7 (fun h=>by cases h)
 simp only[EB]at q2;subst q2;have jL:¬H.length+6<=bf.low:=by omega
 refine⟨H2,bf.low,?_,cS,h7,j9⟩;rw[pF,T.avO];simp[aeT,hlen,tq MC,q1,b3,jL]
set_option maxHeartbeats 1000000 in
theorem age (T:ow aa)(w:List UInt8)(H:Heap):aP aa (.fn 138 [] []) [.str w] H (.int .i64 (kindOf w)):=by
 unfold aP;rw[pF,T.avQ];by_cases h0:w=[]
 ·subst h0
  simp[H3,bM,dY,mY,j6,setCells,ox,vB,zh,xG,kindOf]
 ·have eP:(w==[])=false:=by cases w<;>simp_all
  by_cases h1:4096<w.length
  ·have ad:(4096:Int)<(w.length:Int):=by omega
   simp[H3,bM,dY,mY,j6,setCells,ox,vB,zh,xG,kindOf,eP,h0,h1,ad,uE]
  ·have ad:¬(4096:Int)<(w.length:Int):=by omega
   have ht:=av6 T w (H++[.cells [.str w],.cells [.int .i64 0]]);simp only[hO,iI,oD,eo,kR,l4,j4,rb,Nat.reduceAdd]at ht;obtain⟨H2,dL,hc,b1,e8,h7⟩:=awh T w (by omega) H;simp only[vC,IA]at hc;have TS:min H.length dL=H.length:=pz b1;have awi:min H.length (min dL (min H2.length (H.length+1)))=H.length:=by omega
   rcases h7 with⟨cT,dI,fg,e,p,a,b,ic⟩|⟨cT,fg,e,p,a,b,ic⟩
   ·have hk:kindOf w=jb (w.drop (dJ w 0)):=by simp[kindOf,h0,h1,cT,dI]
    have il:(H2.set (H.length+5) .gone)[H.length+1]? =some (.cells [.int .i64 (jb (w.drop (dJ w 0)))]):=by rw[jE (by omega)];exact fg
    rw[hk];simp[H3,bM,dY,mY,j6,setCells,ox,vB,zh,xG,eP,h0,h1,ad,uE,ht,VF,EI,Cq,hc,ic,il,eG,TS]
   ·have hk:kindOf w=0:=by simp[kindOf,h0,h1];exact fun h1 h2=>absurd ⟨h1,h2⟩ cT
    have il:(H2.set (H.length+5) .gone)[H.length+1]? =some (.cells [.int .i64 0]):=by rw[jE (by omega)];exact fg
    have HC:((H2.set (H.length+5) .gone).set (H.length+1) (.cells [.int .i64 0]))[H.length+1]? =some (.cells [.int .i64 0]):=by rw[oA];rw[zu];rcases gD (H.length+1) H2.length with h|h;exact h;rw[nP h]at fg;cases fg
    rw[hk];simp[H3,bM,dY,mY,j6,setCells,ox,vB,zh,xG,eP,h0,h1,ad,uE,ht,VF,EI,Cq,hc,ic,il,HC,eG,awi]
end
end Go.Abs.bA
namespace Go.Abs.bA
open Go Go.Abs
noncomputable section
variable{aa:Nat->Option cc}
def xf:V->Bool
 | .cB .. =>true
 | _=>false
section
variable{call:c5}{ah:ai->V}{H:Heap}{low:Nat}
theorem agf{x:ai}(h:xf (ah x)=true):ch call ah H low (.len 1 x)=match ah x with
  | .cB l es _ len tag=>(match H[l]? with
    |some (.row bV ds _)=>if bV=es/\ds.length=tag then some (.int .i64 len,H,low)else none
    |some (.rh r)=>if r.length=tag then some (.int .i64 len,H,low)else none
    | _=>none)
  | _=>none:=by
 show step ah H low (.len 1 x)=_;cases hx:ah x<;>simp_all [xf,step]<;>rfl
theorem agh (es:Nat)(a b:ai):ch call ah H low (.copy es a b)=step ah H low (.copy es a b):=rfl
end
structure IB (aa:Nat->Option cc):Prop where
 awj:aa 156=some (.code aeU)
 awk:aa 266=some (.code aeV)
 awl:aa 81=some (.code aeR)
def u64 (n:Int):V:=.int .u64 n
theorem TT{W:Nat}(h:W<4294967296):eF .and (u64 W) (u64 4294967295)=some (u64 W):=by
 have e:(BitVec.ofInt 64 (W:Int) &&& BitVec.ofInt 64 4294967295).toNat=W:=by
  rw[BitVec.toNat_and]
  have h1:(BitVec.ofInt 64 (W:Int)).toNat=W:=by
   rw[BitVec.toNat_ofInt];omega
  have h2:(BitVec.ofInt 64 4294967295).toNat=2^32-1:=by decide
  rw[h1,h2,Nat.and_two_pow_sub_one_eq_mod];omega
 have eP:eF .and (u64 W) (u64 4294967295)=some (.int .u64 (IntKind.u64.wrap ((BitVec.ofInt 64 (W:Int) &&& BitVec.ofInt 64 4294967295).toNat:Int))):=rfl;rw[eP,e]
 have:IntKind.u64.wrap (W:Int)=W:=by
  have ad:(2^IntKind.u64.bits:Int)=18446744073709551616:=rfl;have s:IntKind.u64.signed=false:=rfl;simp only[IntKind.wrap,ad,s,EB];simp;omega
 rw[this];rfl
theorem Na{n:Int}(h1:0<=n)(h2:n<18446744073709551616):IntKind.u64.wrap n=n:=by
 have ad:(2^IntKind.u64.bits:Int)=18446744073709551616:=rfl;have s:IntKind.u64.signed=false:=rfl;simp only[IntKind.wrap,ad,s,EB];simp;omega
theorem TU{W:Nat}(h:W<4294967296):eF .shr (u64 W) (u64 32)=some (u64 0):=by
 have:(W:Int)/4294967296=0:=Int.ediv_eq_zero_of_lt (by omega) (by omega);simp[u64,eF,IntKind.bits,this]
theorem awm{W:Nat}(h:W<4294967296):eF .mul (u64 1) (u64 W)=some (u64 W):=by
 simp[u64,eF,Na (n:=(W:Int)) (by omega) (by omega)]
theorem awn{W:Nat}:eF .mul (u64 0) (u64 W)=some (u64 0):=by
 simp[u64,eF,Na (n:=0) (by omega) (by omega)]
theorem b1:eF .and (u64 1) (u64 4294967295)=some (u64 1):=TT (W:=1) (by decide)
theorem e8:eF .shr (u64 1) (u64 32)=some (u64 0):=TU (W:=1) (by decide)
theorem h7:eF .add (u64 0) (u64 0)=some (u64 0):=by kernel_rfl
theorem j9:eF .and (u64 0) (u64 4294967295)=some (u64 0):=TT (W:=0) (by decide)
theorem tr:eF .shr (u64 0) (u64 32)=some (u64 0):=TU (W:=0) (by decide)
theorem zi:eF .mul (u64 1) (u64 0)=some (u64 0):=by kernel_rfl
theorem B5:eF .mul (u64 0) (u64 0)=some (u64 0):=by kernel_rfl
set_option maxHeartbeats 1000000 in
theorem awo (T:IB aa){W:Nat}(h:W<4294967296)(H:Heap):aP aa (.fn 266 [] []) [u64 1,u64 W] H (.aF [u64 0,u64 W]):=by
 unfold aP;have c:∀n,V.int .u64 n=u64 n:=fun _=>rfl;have i1:∀n,bx (u64 n)=true:=fun _=>rfl;rw[pF,T.awk];simp[aeV,ec,S.R,S.sS,S.q,S.k,S.rt,S.hY,S.b2,S.e,S.r,S.o,S.n,S.rg,S.m,S.b6,S.ls,S.ef,S.eq,S.ne,S.lt,S.gt,S.dh,S.no,S.ez,S.st,S.iA,S.hE,S.jv,S.ex,S.c,S.cs,S.jP,S.k2,S.z,S.fn,S.kb,iL,iK,jn,lJ,oF,c8,gS,sQ,n9,ai.ah,bZ,ga,aw.put,gl,bx,cj,gZ,kU,finish,old,olds,uO,lv,c,i1,TT h,TU h,awm h,awn,b1,e8,h7,j9,tr,zi,B5]
theorem awp{call:c5}{ah:ai->V}{H:Heap}{low:Nat}(k:IntKind)(x:ai):ch call ah H low (.conv k x)=step ah H low (.conv k x):=rfl
set_option maxHeartbeats 1000000 in
theorem awq (T:IB aa){W:Nat}(h:W<4294967296)(H:Heap):aP aa (.fn 156 [] []) [.int .u64 1,.int .u64 W] H (.aF [.int .u64 0,.int .u64 W]):=by
 have hm:=awo T h H;unfold aP u64 at*;rw[pF,T.awj];simp[aeU,iL,iK,jn,lJ,nu,oE,oF,sv,pE,c8,gS,sQ,qR,n9,rF,pZ,oa,tT,sR,o3,tS,ys,ai.ah,bZ,ga,aw.put,eF,rk,ri,fb,gl,ec,bx,cj,gZ,kU,finish,old,olds,flat,lv,uO,kt,iV,aI,S.R,S.sS,S.q,S.k,S.rt,S.hY,S.b2,S.e,S.r,S.o,S.n,S.rg,S.m,S.b6,S.ls,S.ef,S.eq,S.ne,S.lt,S.gt,S.dh,S.no,S.ez,S.st,S.iA,S.hE,S.jv,S.ex,S.c,S.cs,S.jP,S.k2,S.z,S.fn,S.kb,hm]
def kp (lo hi:Int):V:=.agg [.int .i64 lo,.int .i64 hi]
def TV:V:=.agg [.int .i64 0,.int .i64 0]
def oy (e:V)(m W:Nat):List V:=List.replicate m e++List.replicate (W-m) TV
theorem awr{e:V}{m W:Nat}(h:m<=W):(oy e m W).length=W:=by simp[oy];omega
theorem agi{e:V}{m W:Nat}:(oy e m W).take m=List.replicate m e:=by simp[oy,List.take_append]
theorem aws{e:V}{m W:Nat}(h:m<=W)(h1:1<=m):(oy e m W).take m++((oy e m W).take m).take (W-m)++(oy e m W).drop (m+min (W-m) m)=oy e (m+min (W-m) m) W:=by
 rw[agi,List.take_replicate];unfold oy;rw[NL,List.drop_replicate,List.drop_replicate,vI];rw[show m-(m+min (W-m) m)=0 by omega];simp only[List.replicate_zero,j4];rw[show W-m-(m+min (W-m) m-m)=W-(m+min (W-m) m) by omega,List.replicate_append_replicate]
theorem awt{a b:Int}(m:Nat):mz ((List.replicate m (kp a b)).flatMap aI)=true:=by
 induction m with
 |zero=>rfl
 |succ m ih=>rw[Ex,lH];simp[kp,aI,mz,plainCell]at ih⊢; exact ih
set_option maxHeartbeats 1000000 in
theorem awu (T:IB aa){a b:Int}{W:Nat}{H:Heap}(hW:W<=1000):∀(j m:Nat) (st:aw),m+j=W->1<=m->st.H=H++[.row 2 (oy (kp a b) m W) false]->H.length<=st.low->st.low<=H.length+1->bZ st.ay 7=.cB H.length 2 0 W W->bZ st.ay 8=.int .i64 m->
  ∃bf,er aa (.loop H4) st=some (.exit 0,bf)/\bf.H=H++[.row 2 (oy (kp a b) W W) false]/\H.length<=bf.low/\bZ bf.ay 7=.cB H.length 2 0 W W:=by
 intro j
 induction j using Nat.strongRecOn with
 |ind j ih=>
  intro m st hj hm h1 h2 yb td agj;have ky:=awr (e:=kp a b) (m:=m) (W:=W) (by omega);by_cases awv:m=W
  ·subst awv
   rw[tq];refine⟨_,by simp[H4,iL,iK,jn,lJ,nu,oE,oF,sv,pE,c8,gS,sQ,qR,n9,rF,pZ,oa,tT,sR,o3,tS,ai.ah,bZ,gH,aw.put,eF,rk,ri,fb,gl,ec,bx,cj,gZ,kU,finish,old,olds,flat,lv,uO,kt,iV,Qs,S.R,S.sS,S.q,S.k,S.rt,S.hY,S.b2,S.e,S.r,S.o,S.n,S.rg,S.m,S.b6,S.ls,S.ef,S.eq,S.ne,S.lt,S.gt,S.dh,S.no,S.ez,S.st,S.iA,S.hE,S.jv,S.ex,S.c,S.cs,S.jP,S.k2,S.z,S.fn,S.kb,h1,td,agj,agf,xf,vB,ky];rfl,?_⟩;exact⟨by simp,by simp;omega,by simp[gH,td]⟩
  ·have aG:(m:Int)<(W:Int):=by omega
   have DZ:m<W:=by omega
   have Ow:m<=W:=by omega
   have aww:=awt (a:=a) (b:=b) m;have ca:=aws (e:=kp a b) (m:=m) (W:=W) (by omega) hm;have hw:IntKind.i64.wrap ((m:Int)+((min (W-m) m:Nat):Int))=((m+min (W-m) m:Nat):Int):=by rw[wrap_small]<;>omega
   have Io:=agi (e:=kp a b) (m:=m) (W:=W);have qH:(List.replicate m (kp a b)).length=m:=by simp
   have awx:m+(W-m)=W:=by omega
   have Ij:∃st1,er aa H4 st=some (.normal,st1)/\st1.H=H++[.row 2 (oy (kp a b) (m+min (W-m) m) W) false]/\H.length<=st1.low/\st1.low<=H.length+1/\bZ st1.ay 7=.cB H.length 2 0 W W/\bZ st1.ay 8=.int .i64 ((m+min (W-m) m:Nat):Int):=by
    generalize o8:oy (kp a b) m W=P at*;have gn:0<m:=hm;refine⟨_,by simp[H4,iL,iK,jn,lJ,nu,oE,oF,sv,pE,c8,gS,sQ,qR,n9,rF,pZ,oa,tT,sR,o3,tS,ai.ah,bZ,gH,aw.put,eF,rk,ri,fb,gl,ec,bx,cj,gZ,kU,finish,old,olds,flat,lv,uO,kt,iV,Qs,S.R,S.sS,S.q,S.k,S.rt,S.hY,S.b2,S.e,S.r,S.o,S.n,S.rg,S.m,S.b6,S.ls,S.ef,S.eq,S.ne,S.lt,S.gt,S.dh,S.no,S.ez,S.st,S.iA,S.hE,S.jv,S.ex,S.c,S.cs,S.jP,S.k2,S.z,S.fn,S.kb,h1,td,agj,agf,xf,vB,xG,ky,aG,DZ,Ow,gn,Df,agh,step,fe,elems,Io,qH,aww,awx,hw,eG,sr,xV,gE,-List.take_replicate];exact⟨.inl (.inl ⟨by decide,by decide⟩),rfl⟩,?_⟩;refine⟨?_,by simp;omega,by simp;omega,by simp[gH,td],by simp[gH]⟩;rw[Io]at ca;simp[<-ca,-List.take_replicate]
   obtain⟨st1,q1,q2,b3,cS,fw,gV⟩:=Ij;obtain⟨bf,bI,cq⟩:=ih (W-(m+min (W-m) m)) (by omega) (m+min (W-m) m) st1 (by omega) (by omega) q2 b3 cS fw gV;exact⟨bf,by rw[tq,q1];exact bI,cq⟩
theorem agk (a b:Int):∀m,cj (List.replicate m (kp a b))=true
 |0=>rfl
 |m+1=>by rw[Ex];simp only[cj,agk a b m,sj];rfl
theorem awy (n:Nat)(a b:Int)(m:Nat):olds n (List.replicate m (kp a b))=true:=by
 induction m with
 |zero=>rfl
 |succ m ih=>rw[Ex];simp only[olds,ih,sj];rfl
set_option maxHeartbeats 2000000 in
theorem awz (T:IB aa){a b:Int}{W:Nat}(hW:W<=1000)(h1:1<=W)(H:Heap):
  b9 aa (.fn 81 [] []) [.list 2 [kp a b],.int .i64 W] H=some (.list 2 (List.replicate W (kp a b)),H,H.length):=by
 have hm:=awq T (W:=W) (by omega) H;unfold aP at hm;have JF:IntKind.u64.wrap 1=1:=Na (by omega) (by omega);have uW:IntKind.u64.wrap (W:Int)=W:=Na (by omega) (by omega);have hi:IntKind.i64.wrap (W:Int)=W:=by rw[wrap_small]<;>omega
 have awA:¬(W:Int)<0:=by omega
 have Tc:¬(W:Int)>9223372036854775807:=by omega
 have awB:¬(9223372036854775807:Int)<(W:Int):=by omega
 have ev:(W:Int)*17<=1099511627776:=by omega
 have JE:¬(W:Int)=0:=by omega
 have awC:¬W=0:=by omega
 have FI:(0:Int)<=W:=by omega
 have TS:min W 1=1:=by omega
 have CL:mz (List.flatMap aI [kp a b])=true:=rfl;have awD:oy (kp a b) 1 W=kp a b::List.replicate (W-1) TV:=rfl;have awE:oy (kp a b) W W=List.replicate W (kp a b):=by simp[oy]
 obtain⟨bf,bI,cq,e6,gU⟩:=awu T (a:=a) (b:=b) (W:=W) (H:=H) hW (W-1) 1
  {aM:=[],ay:=[(0,.list 2 [kp a b]),(1,.int .i64 W),(4,.cu),(10,.bool false),(5,.int .u64 0),(6,.int .u64 W),(26,.bool false),(7,.cB H.length 2 0 W W),(8,.int .i64 1)],H:=H++[.row 2 (oy (kp a b) 1 W) false],low:=H.length} (by omega) (aN _) rfl (aN _) (by simp) rfl rfl
 rw[awE]at cq;have awF:=agk a b W;have hold:=awy H.length a b W;have awG:List.take W [kp a b]=[kp a b]:=Nt (by simpa using h1);have aJ:V.agg [V.int .i64 0,V.int .i64 0]=TV:=rfl;rw[awD]at bI;rw[pF,T.awl];have ew:AB 2 (V.list 2 [kp a b])=true:=rfl;have yT:(el (V.list 2 [kp a b])).length=1:=rfl;simp[aeR,iL,iK,jn,lJ,nu,oE,oF,sv,pE,c8,gS,sQ,qR,n9,rF,pZ,oa,tT,sR,o3,tS,ai.ah,bZ,ga,aw.put,eF,rk,ri,fb,gl,ec,bx,cj,gZ,kU,finish,old,olds,flat,lv,uO,kt,iV,Qs,S.R,S.sS,S.q,S.k,S.rt,S.hY,S.b2,S.e,S.r,S.o,S.n,S.rg,S.m,S.b6,S.ls,S.ef,S.eq,S.ne,S.lt,S.gt,S.dh,S.no,S.ez,S.st,S.iA,S.hE,S.jv,S.ex,S.c,S.cs,S.jP,S.k2,S.z,S.fn,S.kb,YC 2,ew,yT,awp,step,JF,uW,hi,hm,awA,Tc,awB,Ql,mA,aJ,ev,JE,awC,FI,agh,elems,vB,xG,awG,CL,TS,bI,cq,e6,gU,hold,awF,gH,-List.flatMap_cons]
theorem agl (T:IB aa):asF aa:=by
 intro H0 x n r h;unfold Ds at h;split at h
 ·rename_i hc
  obtain⟨h1,h2,au⟩:=hc;cases h
  obtain⟨rg,hx⟩:∃rg,x=.mk [rg]:=by
   cases x with
   |nil=>simp[ae.l]at h1
   |emp=>simp[ae.l]at h1
   |mk l=>match l,h1 with
    |[rg],_=>exact⟨rg,rfl⟩
  subst hx;obtain⟨W,rfl⟩:=Eu (show 0<=n by omega);have:=awz T (a:=rg.fq) (b:=rg.fr) (W:=W) (by omega) (by omega) H0
  have e:(List.replicate ((W:Int)).toNat (ae.mk [rg]).l).flatten=List.replicate W rg:=by
   rw[zq];show(List.replicate W [rg]).flatten=_;simp
  rw[e];show b9 aa (.fn 81 [] []) [.list 2 [rJ rg],ao (W:Int)] H0=some (.list 2 ((List.replicate W rg).map rJ),H0,H0.length);rw[List.map_replicate];exact this
 ·cases h
end
end Go.Abs.bA
namespace Go.Abs
open Go
variable{C D:Ctx}{fid:Nat->Nat}
theorem jQ.turn (o8:D.P=C.P)(bb:D.ff=C.ff){i:Nat}{spec:List V->Option V}(hp:∀args v,spec args=some v->bx v=true)(h:jQ C fid i spec):jQ D fid i spec:=by
 intro G H w args v xs U e0 hs;have hA:=U.apart;have awH:bd C fid ⟨fun _=>Option.none,G.I⟩ [] w:=⟨fun _ _ e=>(by cases e),fun _ _ _ _ e=>(by cases e),fun _ _ e=>(by cases e),hA.c9,fun _ _ e=>(by cases e),by rw[<-bb];exact hA.ff⟩;have hc:=h awH e0 hs;rw[o8];refine hc.mono fun x w' hx=> ?_;obtain⟨aB,gq,he,af⟩:=hx
 have hn:∀l h,aB.β l=some h->False:=fun l h e=>by
  obtain⟨o,ho,-⟩:=gq.obj l h e;simp at ho
 exact lO.beside (H':=([]:Heap)) U (hp _ _ hs) ⟨aB,⟨fun l h e=>(hn l h e).elim,gq.inj,gq.blk,gq.c9,gq.kV,by rw[bb];exact gq.ff⟩,he,af⟩
end Go.Abs
set_option maxRecDepth 100000
namespace Go.Abs.bA
open Go Go.Abs Go.Proofs
section
variable{g:Nat->Option Obj}
theorem awI:∀args v,EM args=some v->bx v=true:=fun args v h=>by
 unfold EM at h
 repeat' split at h
 all_goals first|(cases h;done)|(cases h;rfl)|(cases h;split<;>rfl)|(obtain⟨_,_,rfl⟩:=cD.1 h;rfl)
theorem awJ:∀args v,x4 args=some v->bx v=true:=fun args v h=>by
 unfold x4 at h
 repeat' split at h
 all_goals first|(cases h;done)|(cases h;rfl)|(cases h;split<;>rfl)|(obtain⟨_,_,rfl⟩:=cD.1 h;rfl)
theorem awK:∀args v,x5 args=some v->bx v=true:=fun args v h=>by
 unfold x5 at h
 repeat' split at h
 all_goals first|(cases h;done)|(cases h;rfl)|(cases h;split<;>rfl)|(obtain⟨_,_,rfl⟩:=cD.1 h;rfl)
theorem awL:∀args v,EO args=some v->bx v=true:=fun args v h=>by
 unfold EO at h
 repeat' split at h
 all_goals first|(cases h;done)|(cases h;rfl)|(cases h;split<;>rfl)|(obtain⟨_,_,rfl⟩:=cD.1 h;rfl)
theorem awM:∀args v,EN args=some v->bx v=true:=fun args v h=>by
 unfold EN at h
 repeat' split at h
 all_goals first|(cases h;done)|(cases h;rfl)|(cases h;split<;>rfl)|(obtain⟨_,_,rfl⟩:=cD.1 h;rfl)
theorem awN:∀args v,EP args=some v->bx v=true:=fun args v h=>by
 unfold EP at h
 repeat' split at h
 all_goals first|(cases h;done)|(cases h;rfl)|(cases h;split<;>rfl)|(obtain⟨_,_,rfl⟩:=cD.1 h;rfl)
theorem awO:∀args v,ER args=some v->bx v=true:=fun args v h=>by
 unfold ER at h
 repeat' split at h
 all_goals first|(cases h;done)|(cases h;rfl)|(cases h;split<;>rfl)|(obtain⟨_,_,rfl⟩:=cD.1 h;rfl)
theorem awP (agm:∀(G:cg) (H:Heap) (w:World),bd (C g) id G H w->Lib.TabIs Tryz.prog w "internal/strconv.uint64pow10" .u64 Lib.pow10Tab)(n2:∀(G:cg) (H:Heap) (w:World),bd (C g) id G H w->Lib.TabIs Tryz.prog w "strings.asciiSpace" .u8 Lib.asciiSpaceTab):dU (A g) id (iQ g):=by
 refine⟨fun i f h=> ?_,fun i sp h=> ?_,fun i sp h=> ?_⟩
 ·unfold iQ at h
  split at h
  ·cases h
  ·split at h
   ·cases h
   ·split at h
    ·rename_i fn hS
     split at h
     ·rename_i a al
      cases h;obtain⟨c,-,-,-,-,-,eR⟩:=FH al;exact⟨fn,hS,by rw[eR];exact al⟩
     ·cases h
    ·cases h
 ·unfold iQ at h
  split at h
  ·cases h
  ·split at h
   ·rename_i s hs
    cases h;unfold Yw at hs;split at hs<;>first|(cases hs;done)|skip
    ·cases hs;exact jQ.turn (C:=C g) (D:=A g) rfl rfl awL (aoq agm)
    ·cases hs;exact jQ.turn (C:=C g) (D:=A g) rfl rfl awN aou
    ·cases hs;exact jQ.turn (C:=C g) (D:=A g) rfl rfl awM aoo
    ·cases hs;exact jQ.turn (C:=C g) (D:=A g) rfl rfl awI aor
    ·cases hs;exact jQ.turn (C:=C g) (D:=A g) rfl rfl awJ (aci n2)
    ·cases hs;exact jQ.turn (C:=C g) (D:=A g) rfl rfl awK acg
    ·cases hs;exact jQ.turn (C:=C g) (D:=A g) rfl rfl awO aox
   ·split at h
    ·split at h<;>cases h
    ·cases h
 ·unfold iQ at h
  split at h
  ·rename_i s hs
   cases h;unfold Yx at hs;split at hs<;>first|(cases hs;done)|skip
   ·cases hs;exact(show FD (A g) id 63 F0 from alO (C:=A g) (fid:=id) Tryz.an0 Tryz.KI rfl rfl)
   ·cases hs;exact(show FD (A g) id 132 FZ from alJ (C:=A g) (fid:=id) Tryz.an1 Tryz.KI.toX72 rfl)
  ·split at h
   ·cases h
   ·split at h
    ·split at h<;>cases h
    ·cases h
theorem awQ (agm:∀(G:cg) (H:Heap) (w:World),bd (C g) id G H w->Lib.TabIs Tryz.prog w "internal/strconv.uint64pow10" .u64 Lib.pow10Tab)(n2:∀(G:cg) (H:Heap) (w:World),bd (C g) id G H w->Lib.TabIs Tryz.prog w "strings.asciiSpace" .u8 Lib.asciiSpaceTab):dU (C g) id (pY g):=by
 refine⟨fun i f h=> ?_,fun i sp h=> ?_,fun i sp h=> ?_⟩
 ·unfold pY at h
  split at h
  ·cases h
  ·split at h
   ·rename_i fn hS
    split at h
    ·rename_i a al
     cases h;obtain⟨c,-,-,-,-,-,eR⟩:=FH al;exact⟨fn,hS,by rw[eR];exact al⟩
    ·cases h
   ·cases h
 ·unfold pY at h
  split at h
  ·rename_i s hs
   cases h;unfold Yy at hs;split at hs<;>first|(cases hs;done)|skip
   ·cases hs;exact aci n2
   ·cases hs;exact acg
  ·split at h
   ·split at h<;>cases h
   ·cases h
 ·unfold pY at h
  split at h
  ·cases h
  ·split at h
   ·split at h<;>cases h
   ·cases h
def TW:Option cc->Bool
 |some (.code _)=>true
 | _=>false
theorem agn{o:Option cc}(h:TW o=true):∃f,o=some (.code f):=by
 match o,h with
 |some (.code f),_=>exact⟨f,rfl⟩
theorem np{aa:Nat->Option cc}{n i:Nat}{l:List (List V × V)}(hT:dU (A g) id aa)(hc:TW (aa i)=true)(h:jJ aa n i l):dU (A g) id (over aa i (jI l)):=by
 obtain⟨f,ag⟩:=agn hc;exact Kd hT (PR KG KF hT ag h)
theorem awR (h:dU (A g) id (iQ g)):dU (A g) id (hZ g):=Kd h (o2.PR KG KF (Kc KG KF h 120) Tryz.func47 (al3 g) (al4 g))
theorem awS (h:dU (A g) id (iQ g)):dU (A g) id (rG g):=np (awR h) (by kernel_rfl) (amy g)
theorem awT (h:dU (A g) id (iQ g)):dU (A g) id (Kq g):=np (awS h) (by kernel_rfl) (amJ g)
theorem awU (h:dU (A g) id (iQ g)):dU (A g) id (Kr g):=np (awT h) (by kernel_rfl) (amL g)
theorem awV (h:dU (A g) id (iQ g)):dU (A g) id (Ks g):=np (awU h) (by kernel_rfl) (amN g)
theorem awW (h:dU (A g) id (iQ g)):dU (A g) id (iq g):=np (awV h) (by kernel_rfl) (amP g)
theorem awX (h:dU (A g) id (iQ g)):dU (A g) id (Kt g):=np (awW h) (by kernel_rfl) (anj g)
theorem awY (h:dU (A g) id (iQ g)):dU (A g) id (Ku g):=np (awX h) (by kernel_rfl) (anl g)
theorem awZ (h:dU (A g) id (iQ g)):dU (A g) id (Kv g):=np (awY h) (by kernel_rfl) (ann g)
theorem aw0 (h:dU (A g) id (iQ g)):dU (A g) id (Kw g):=np (awZ h) (by kernel_rfl) (anp g)
theorem aw1 (h:dU (A g) id (iQ g)):dU (A g) id (Kx g):=np (aw0 h) (by kernel_rfl) (anr g)
theorem aw2 (h:dU (A g) id (iQ g)):dU (A g) id (Ky g):=np (aw1 h) (by kernel_rfl) (ant g)
theorem aw3 (h:dU (A g) id (iQ g)):dU (A g) id (Kz g):=np (aw2 h) (by kernel_rfl) (anv g)
theorem aw4 (h:dU (A g) id (iQ g)):dU (A g) id (KA g):=np (aw3 h) (by kernel_rfl) (anx g)
theorem aw5 (h:dU (A g) id (iQ g)):dU (A g) id (KB g):=np (aw4 h) (by kernel_rfl) (anA g)
theorem aw6 (h:dU (A g) id (iQ g)):dU (A g) id (ob g):=np (aw5 h) (by kernel_rfl) (anC g)
theorem aw7 (h:dU (A g) id (iQ g)):dU (A g) id (KC g):=np (aw6 h) (by kernel_rfl) (anR g)
theorem aw8 (h:dU (A g) id (iQ g)):dU (A g) id (F1 g):=np (aw7 h) (by kernel_rfl) (anT g)
theorem aw9 (h:dU (A g) id (iQ g)):dU (A g) id (KD g):=np (aw8 h) (by kernel_rfl) (anW g)
theorem axa (h:dU (A g) id (iQ g)):dU (A g) id (Qm g):=np (aw9 h) (by kernel_rfl) (anY g)
theorem axb (h:dU (A g) id (iQ g)):jQ (C g) id 6 (Al [] (.bool true)):=by
 obtain⟨f,ag⟩:=agn (show TW (Qm g 6)=true by kernel_rfl);refine jQ.turn (C:=A g) (D:=C g) rfl rfl (fun args v h=> ?_) (alh KG KF (axa h) ag rfl (anZ g));unfold Al at h;split at h
 ·cases h;rfl
 ·cases h
end
end Go.Abs.bA
