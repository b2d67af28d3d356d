/- Texts of this claim, joined and written short by a program. -/
import Derived.Test.YtonmjjfciemcoaaGreatDoorP29
import Derived.Test.YtonmjjfciemcoaaGreatDoorP26
import Derived.Test.YtonmjjfciemcoaaGreatDoorP27
import Derived.Test.YtonmjjfciemcoaaGreatDoorP10
import Derived.Test.YtonmjjfciemcoaaGreatDoorP17
import Derived.Test.YtonmjjfciemcoaaGreatDoorP00
set_option linter.unusedVariables false
set_option linter.unusedSimpArgs false
set_option linter.unusedSectionVars false
namespace Go.Abs.bz
open Go Go.Abs Go.Abs.Lex
noncomputable section
theorem zh (c:UInt8)(n:Nat):((c.toNat:Int)==(n:Int))=(c.toNat==n):=by
 rw[zG];simp;omega
theorem ahJ{s:dn}{k:Nat}(h:k<s.length):decide ((k:Int)<(s.length:Int))=true:=by simp;exact h
theorem ahK{s:dn}{k:Nat}(h:s.length<=k):decide ((k:Int)<(s.length:Int))=false:=by simp;exact h
theorem ayp{s:dn}(hl:s.length<4611686018427387904)(p:UInt8->Bool){f:Int->Option (di Int Int)}(ag:∀(k:Nat) c,s[k]? =some c->f k=some (bif p c then .next (aM (k+1))else .out k))(he:∀k:Nat,s.length<=k->f k=some (.out k)):
  ∀(n k:Nat),k+n=s.length->cd f (k:Int)=some (((k+mO p (s.drop k):Nat)):Int):=by
 intro n
 induction n with
 |zero=>
  intro k hk;rw[fp,he k (by omega),zy (by omega)];rfl
 |succ n ih=>
  intro k hk;have aT:k<s.length:=by omega
  have hx:s[k]? =some s[k]:=by simp[aT]
  rw[fp,ag k _ hx,uQ aT,LR];cases hp:p s[k]with
  |true=>
   simp only[cond_true,if_true];rw[eR (by omega),ih (k+1) (by omega)];congr 2;omega
  |false=>rfl
theorem ahL{s:dn}{a c:Nat}(h1:a<=c)(h2:c<=s.length):sK s (a:Int) (c:Int)=some ((s.take c).drop a):=by
 unfold sK;rw[if_pos (by omega)];simp
end
end Go.Abs.bz
namespace Go.Abs.bz
open Go Go.Abs Go.Abs.Lex
noncomputable section
theorem T8 (c:UInt8):yK (c.toNat:Int)=some (vo c):=by
 unfold yK vo;rw[show decide ((c.toNat:Int)>=97)=decide (97<=c.toNat)from decide_eq_decide.2 (by omega),show decide ((c.toNat:Int)<=122)=decide (c.toNat<=122)from decide_eq_decide.2 (by omega)]
theorem T9 (c:UInt8):yL (c.toNat:Int)=some (qI c):=by
 unfold yL qI;rw[show decide ((c.toNat:Int)>=48)=decide (48<=c.toNat)from decide_eq_decide.2 (by omega),show decide ((c.toNat:Int)<=57)=decide (c.toNat<=57)from decide_eq_decide.2 (by omega)]
theorem ayq (c:UInt8):D4 (c.toNat:Int)=some (vp c):=by
 unfold D4 vp;rw[T8,T9,show((c.toNat:Int)==95)=(c.toNat==95)from zh c 95];cases vo c<;>cases qI c<;>rfl
theorem ahM (c:UInt8):Bf (c.toNat:Int)=some (rA c):=by
 unfold Bf rA;rw[show((c.toNat:Int)==9)=(c.toNat==9)from zh c 9,show((c.toNat:Int)==10)=(c.toNat==10)from zh c 10,show((c.toNat:Int)==13)=(c.toNat==13)from zh c 13,show((c.toNat:Int)==32)=(c.toNat==32)from zh c 32];cases c.toNat==9<;>cases c.toNat==10<;>cases c.toNat==13<;>cases c.toNat==32<;>rfl
theorem ayr (c:UInt8):Bg (c.toNat:Int)=some (c.toNat != 10):=by
 unfold Bg bne;rw[show((c.toNat:Int)==10)=(c.toNat==10)from zh c 10]
theorem ahN (s:dn)(hl:s.length<4611686018427387904){f:Int->Option Bool}{p:UInt8->Bool}(ag:∀c:UInt8,f (c.toNat:Int)=some (p c)):Be s f=some ((mO p s:Nat):Int):=by
 unfold Be
 have h:=ayp (s:=s) hl p (f:=Hi s f) (fun k c hx=>by
  have aT:=ik hx;simp only[Hi,ahJ aT,cond_true,ef,hx,bs,ag];cases p c<;>rfl) (fun k hk=>by simp only[Hi,ahK hk,cond_false,bs]) s.length 0 (by omega)
 rw[show cd (Hi s f) 0=_ from h];simp
theorem ays (s:dn)(hl:s.length<4611686018427387904):D3 s=some ((ku false s:Nat):Int):=by
 have key:∀(n k:Nat),k+n=s.length->∃o:cz Int Int,cd (D2 s) (k:Int)=some o/\(match o with| .go p=>p| .ret p=>p)=((k+ku false (s.drop k):Nat):Int):=by
  intro n
  induction n using Nat.strongRecOn with
  |ind n ih=>
   intro k hk;rw[fp];rcases gh k s.length with aT|hge
   ·have hx:s[k]? =some s[k]:=by simp[aT]
    have NJ:s.drop k=s[k]::s.drop (k+1):=uQ aT;have oS:sK s (k:Int) (s.length:Int)=some (s.drop k):=by rw[ahL (by omega) (aH _),J4]
    have ag:D2 s (k:Int)=bif rA s[k]then some (.next (aM ((k:Int)+1)))else(bif s[k].toNat==35 then some (.next (aM ((k:Int)+(mO (fun c=>c.toNat != 10) (s.drop k):Nat))))else some (.out (.ret (k:Int)))):=by
     simp only[D2,ahJ aT,cond_true,ef,hx,bs,ahM,oS,ahN (s.drop k) (by rw[nK];omega) ayr];rw[show((s[k].toNat:Int)==35)=(s[k].toNat==35)from zh s[k] 35]
    rw[ag,NJ];cases hw:rA s[k]with
    |true=>
     simp only[cond_true];rw[eR (by omega)];obtain⟨o,h1,h2⟩:=ih (s.length-(k+1)) (by omega) (k+1) (by omega);refine⟨o,h1,?_⟩;rw[h2];simp only[ku,hw,if_true];congr 1;omega
    |false=>
     cases zi:s[k].toNat==35 with
     |true=>
      have EZ:s[k].toNat=35:=by simpa using zi
      have bg:(fun c:UInt8=>c.toNat != 10) s[k]=true:=by simp[EZ]
      have hr:=aes (s[k]::s.drop (k+1))
      have h0:ku false (s[k]::s.drop (k+1))=ku true (s[k]::s.drop (k+1)):=by
       simp only[ku,hw,gq,if_false,EZ,if_true];rfl
      have iV:1<=mO (fun c=>c.toNat != 10) (s[k]::s.drop (k+1)):=by rw[LR,if_pos bg];omega
      have hle:mO (fun c=>c.toNat != 10) (s[k]::s.drop (k+1))<=s.length-k:=by
       have:=Hb (fun c=>c.toNat != 10) (s[k]::s.drop (k+1));rw[<-NJ,nK]at this;rw[NJ]at this;exact this
      rw[h0,hr];generalize ab:mO (fun c=>c.toNat != 10) (s[k]::s.drop (k+1))=R at iV hle⊢;have ayt:(s[k]::s.drop (k+1)).drop R=s.drop (k+R):=by rw[<-NJ,zH]
      simp only[cond_true,cond_false];rw[ayt,fi (by omega) (by omega)];obtain⟨o,h1,h2⟩:=ih (s.length-(k+R)) (by omega) (k+R) (by omega);refine⟨o,by rw[show(k:Int)+(R:Int)=((k+R:Nat):Int) by omega];exact h1,?_⟩;rw[h2];congr 1;omega
     |false=>
      have n35:¬s[k].toNat=35:=by simpa using zi
      refine⟨.ret (k:Int),rfl,?_⟩;simp only[ku,hw,gq,if_false,n35];simp
   ·refine⟨.go (k:Int),by simp only[D2,ahK hge,cond_false],?_⟩
    rw[zy hge];simp[ku]
 obtain⟨o,h1,h2⟩:=key s.length 0 (by omega);unfold D3;rw[show cd (D2 s) 0=_ from h1];simp only[dA,CJ]at h2;cases o<;>simp_all
theorem ayu (s w:dn):Hg s w=some (pre s w):=by
 unfold Hg LW pre;by_cases h:w.length<=s.length
 ·have d:decide ((s.length:Int)>=(w.length:Int))=true:=by simp;exact h
  have hs:sK s 0 (w.length:Int)=some (s.take w.length):=by
   have:=ahL (s:=s) (a:=0) (c:=w.length) (cJ _) h;simpa using this
  rw[d,hs];rfl
 ·have d:decide ((s.length:Int)>=(w.length:Int))=false:=by simp;omega
  have e:(s.take w.length==w)=false:=by
   rw[JS (by omega),Bool.eq_false_iff];intro e8;have:=congrArg List.length (eq_of_beq e8);omega
  rw[d,e];rfl
theorem ahO (s:dn):Bd s=some ((sym s:Nat):Int):=by
 unfold Bd;have hl:(ae.mk two).l=two:=rfl
 rw[show cd (Hh s) 0=some (bif two.any (pre s)then .ret ()else .go ())from xG (f:=Hh s) two (by decide) (pre s) (fun k x hx=>by
  have hd:decide ((k:Int)<(ae.mk [[61,61],[33,61],[60,61],[62,61],[46,46]]).len)=true:=gC (show k<two.length from ik hx);have ba:([[61,61],[33,61],[60,61],[62,61],[46,46]]:List dn)[k]? =some x:=hx;simp only[Hh,hd,cond_true,ae.l,ef,ba,bs,ayu];cases pre s x<;>rfl) (by
  have hd:decide ((two.length:Int)<(ae.mk [[61,61],[33,61],[60,61],[62,61],[46,46]]).len)=false:=by decide
  simp only[Hh,hd,cond_false])]
 unfold sym;cases h:two.any (pre s)with
 |true=>rfl
 |false=>
  simp only[cond_false,bs,gq,if_false];cases s with
  |nil=>rfl
  |cons c r=>
   have bg:((c::r) != ([]:dn))=true:=rfl;have hi:bE (c::r) 0=some c:=rfl;have hu:UInt8.ofNat ((c.toNat:Int)).toNat=c:=by simp
   rw[bg,hi];simp only[cond_true,bs,strings_IndexByte,hu];rw[show decide (Lib.indexByte [60,62,61,43,45,42,40,41,123,125,44,58,59] c>=0)=Lex.one.contains c from asi Lex.one c];cases Lex.one.contains c<;>rfl
theorem ayv (c:UInt8)(r:dn):D1 (c::r)=some (xc (c::r)):=by
 unfold D1 xc;have hi:bE (c::r) 0=some c:=rfl;rw[hi];simp only[bs,T8,T9,ahO];have hd:decide (((sym (c::r):Nat):Int)>0)=decide (0<sym (c::r)):=decide_eq_decide.2 (by omega);rw[hd];cases vo c<;>cases qI c<;>rfl
end
end Go.Abs.bz
namespace Go.Abs.bz
open Go Go.Abs Go.Abs.Lex
noncomputable section
variable{aa:Nat->Option bU}
section
variable{call:cW}{ah:aj->V}{H:Heap}{low:Nat}
theorem uL (x:aj):cc call ah H low (.len 0 x)=match ah x with
  | .str s=>some (.int .i64 s.length,H,low)
  | _=>none:=by
 show step ah H low (.len 0 x)=_;cases hx:ah x<;>simp[step,hx]
theorem xN (x i:aj):cc call ah H low (.r6 x i)=match ah x,kE (ah i)with
 | .str s,some i=>(s[i]?).map fun c=>(.int .u8 c.toNat,H,low)
 | _,_=>none:=rfl
theorem E0 (x:aj)(lo hi:Option aj):cc call ah H low (.qX x lo hi)=match ah x with
 | .str s=>match fa ah 0 lo,fa ah s.length hi with
   |some a,some b=>if a<=b/\b<=s.length then some (.str ((s.take b).drop a),H,low)else none
   | _,_=>none
 | _=>none:=rfl
end
structure ow (aa:Nat->Option bU):Prop where
 letter:agj aa
 digit:agk aa
 part:agl aa
 ayw:agm aa
 EL:agn aa
 symbol:ago aa
 run:agp aa
 skip:agq aa
 nl:agr aa
 ayx:aa 376=some (.code agE)
 ayy:aa 377=some (.code agF)
 ayz:aa 258=some (.code agC)
 ayA:aa 259=some (.code I0)
 ayB:∃sp,aa 449=some (.ext sp)/\sp [.str LS]=some (.list 1 (kw.map .str))
def aJ (aa:Nat->Option bU)(f:V)(args:List V)(H:Heap)(v:V):Prop:=b0 aa f args H=some (v,H,H.length)
def bv (c:UInt8):V:=.int .u8 c.toNat
theorem ayC (T:ow aa)(c:UInt8)(H:Heap):aJ aa (.fn 379 [] []) [bv c] H (.bool (vo c)):=T.letter H _ _ (T8 c)
theorem ahP (T:ow aa)(c:UInt8)(H:Heap):aJ aa (.fn 382 [] []) [bv c] H (.bool (qI c)):=T.digit H _ _ (T9 c)
theorem ayD (T:ow aa)(c:UInt8)(H:Heap):aJ aa (.fn 381 [] []) [bv c] H (.bool (vp c)):=T.part H _ _ (ayq c)
theorem ayE (T:ow aa)(c:UInt8)(H:Heap):aJ aa (.fn 384 [] []) [bv c] H (.bool (rA c)):=T.ayw H _ _ (ahM c)
theorem ayF (T:ow aa)(c:UInt8)(r:List UInt8)(H:Heap):aJ aa (.fn 385 [] []) [.str (c::r)] H (.bool (xc (c::r))):=T.EL H _ _ (ayv c r)
theorem ayG (T:ow aa)(s:List UInt8)(H:Heap):aJ aa (.fn 383 [] []) [.str s] H (.int .i64 (sym s)):=T.symbol H _ _ (ahO s)
theorem ayH (T:ow aa){s:List UInt8}{H:Heap}(hl:s.length<4611686018427387904):aJ aa (.fn 378 [] []) [.str s] H (.int .i64 (ku false s)):=T.skip H _ _ (ays s hl)
theorem ahQ (T:ow aa){s:List UInt8}{p:UInt8->Bool}{i:Nat}{H:Heap}(hl:s.length<4611686018427387904)(ag:∀(c:UInt8) H,aJ aa (.fn i [] []) [bv c] H (.bool (p c))):
  aJ aa (.fn 380 [] []) [.str s,.fn i [] []] H (.int .i64 (mO p s)):=
 T.run H [] (Own.nil H) s (fun n=>if 0<=n/\n<256 then some (p (UInt8.ofNat n.toNat))else none) (.fn i [] []) (fun H low=>by simp[fF,dR,bI,cj]) (fun H' z q _ aR=>by
   split at aR
   ·rename_i h
    cases aR;have:=ag (UInt8.ofNat z.toNat) H';unfold aJ bv at this
    have e:((UInt8.ofNat z.toNat).toNat:Int)=z:=by
     rw[UInt8.toNat_ofNat'];omega
    rw[e]at this;exact this
   ·cases aR) _ (ahN s hl fun c=>by
   have h1:c.toNat<256:=c.toNat_lt;rw[if_pos ⟨by omega,by omega⟩];simp)
def Cl (l:List (List UInt8))(k:Nat):List (V × V):=(l.take k).foldl (fun e s=>kZ 1 (.str s) (.bool true) e) []
def xO:List (V × V):=kw.map fun s=>(V.str s,V.bool true)
theorem ayI:Cl kw 35=xO:=by kernel_rfl
theorem ayJ (T:ow aa)(H:Heap):b0 aa (.fn 449 [] []) [.str LS] H=some (.list 1 (kw.map .str),H,H.length):=by
 obtain⟨sp,h1,h2⟩:=T.ayB;rw[k3,h1];simp[h2,cj,bI]
def strKeys (es:List (V × V)):Prop:=∀p∈es,∃t,p.1=V.str t
theorem ayK{es:List (V × V)}(h:strKeys es)(s:List UInt8)(v:V):strKeys (kZ 1 (.str s) v es):=by
 induction es with
 |nil=>intro p hp;simp[kZ]at hp;exact⟨s,by rw[hp]⟩
 |cons q es ih=>
  obtain⟨t,ht⟩:=h q (by simp);obtain⟨a,b⟩:=q;simp only at ht;subst ht;simp only[kZ,iK];split
  ·intro p hp
   rcases dx.1 hp with rfl|hp
   ·exact⟨s,rfl⟩
   ·exact h p (by simp[hp])
  ·intro p hp
   rcases dx.1 hp with rfl|hp
   ·exact⟨t,rfl⟩
   ·exact ih (fun p hp=>h p (by simp[hp])) p hp
theorem ayL{es:List (V × V)}(h:strKeys es)(s:List UInt8):∃o,hZ 1 (.str s) es=some o:=by
 induction es with
 |nil=>exact⟨none,rfl⟩
 |cons q es ih=>
  obtain⟨t,ht⟩:=h q (by simp);obtain⟨a,b⟩:=q;simp only at ht;subst ht;obtain⟨o,ho⟩:=ih (fun p hp=>h p (by simp[hp]));simp only[hZ,iK];cases(s==t)with
  |true=>exact⟨some b,rfl⟩
  |false=>exact⟨o,ho⟩
theorem ayM (l:List (List UInt8))(k:Nat):strKeys (Cl l k):=by
 unfold Cl;generalize l.take k=m
 have:∀(m:List (List UInt8)) e,strKeys e->strKeys (m.foldl (fun e s=>kZ 1 (.str s) (.bool true) e) e):=by
  intro m
  induction m with
  |nil=>intro e h;exact h
  |cons a m ih=>intro e h;exact ih _ (ayK h _ _)
 exact this m [] (fun p hp=>by cases hp)
theorem ayN{l:List (List UInt8)}{k:Nat}{s:List UInt8}(h:l[k]? =some s):Cl l (k+1)=kZ 1 (.str s) (.bool true) (Cl l k):=by
 unfold Cl;rw[Fp,h];simp
theorem ayO (s:List UInt8):hZ 1 (.str s) xO=some (if kw.contains s then some (.bool true)else none):=by
 unfold xO;generalize kw=l
 induction l with
 |nil=>rfl
 |cons a l ih=>
  simp only[dv,hZ,iK,List.contains_cons];cases aES:(s==a)with
  |true=>rfl
  |false=>simp[ih]
theorem Jm{H:Heap}{p:Nat}{o:b5}(h:H[p]? =some o)(t:Heap):(H++t)[p]? =some o:=by
 have hp:p<H.length:=by
  rcases gh p H.length with h1|h1
  ·exact h1
  ·rw[lQ h1]at h;cases h
 rw[e5 hp,h]
set_option maxHeartbeats 1000000 in
theorem ayP (T:ow aa)(H:Heap):b0 aa (.fn 376 [] []) [] H=some (.map H.length,H++[.map xO],H.length):=by
 have key:=ZD (aa:=aa) (b:=8) (n:=6) (i:=7) (t:=13) (blk:=1) (ex:=0) (body:=Ts)
  (I:=fun k st=>st.H=H++[.map (Cl kw k)]/\st.low=H.length/\bG st.au 1=.map H.length/\bG st.au 5=.list 1 (kw.map .str)/\bG st.au 7=.int .i64 k/\bG st.au 6=.int .i64 (35:Nat))
  (Q:=fun x st=>st.H=H++[.map xO]/\st.low=H.length/\x=.exit 0/\bG st.au 1=.map H.length)
  (N:=35) (by decide) (by decide) (by decide)
  (fun k st h=>⟨h.2.2.2.2.1,h.2.2.2.2.2,by rw[h.1,h.2.1];simp⟩)
  (by
    rintro k st hk ⟨h1,h2,ar,aS,h5,eA⟩;obtain⟨w,hn⟩:∃w,kw[k]? =some w:=⟨_,eg (by rw[aet];exact hk)⟩;have ec:AV 1 (V.list 1 (kw.map .str))=true:=rfl;have ba:(el (V.list 1 (kw.map .str)))[k]? =some (.str w):=by simp[el,hn]
    have ahR:aC (V.str w)=[V.str w]:=rfl;obtain⟨o,ho⟩:=ayL (ayM kw k) w;refine⟨.normal,_,by simp[Ts,gF,fl,hM,k2,mn,nO,nP,q3,mo,c3,gE,rp,pC,nv,qB,qC,nw,sF,rq,n2,sE,w1,aj.ah,bG,gn,av.put,en,qa,p9,e0,fF,dR,bI,cj,gP,kl,finish,old,olds,flat,lJ,tg,jQ,iJ,aC,S.R,S.q,S.k,S.rt,S.i7,S.cw,S.e,S.r,S.o,S.n,S.rg,S.m,S.cb,S.ls,S.dw,S.eq,S.ne,S.lt,S.gt,S.c8,S.no,S.j3,S.st,S.hF,S.ix,S.kM,S.ex,S.c,S.cs,S.kr,S.lg,S.z,S.fn,S.jA,h1,h2,ar,aS,h5,eA,aoC,ec,ba,Q2,step,ho,u0,-List.getElem?_map];rfl,?_⟩;simp only[true_or,if_true,gn,h1,h2];refine⟨by simp[h5],by simp,by simp[ayN hn],by simp,by simp[ar],by simp[aS],by simp,by simp[eA]⟩)
  (by
    rintro st ⟨h1,h2,ar,aS,h5,eA⟩;exact⟨by rw[h1,ayI],h2,rfl,by simp[gn,ar]⟩)
 obtain⟨x,aQ,h1,h2,ar,rfl,aS⟩:=key 35 0 {aF:=[],au:=[(0,.iu),(1,.map H.length),(5,.list 1 (kw.map .str)),(6,.int .i64 35),(7,.int .i64 0)],H:=H++[.map []],low:=H.length} (by omega)
  ⟨rfl,rfl,rfl,rfl,rfl,rfl⟩
 have hx:=ayJ T (H++[.map []]);simp only[LS]at hx;have hlen:(el (V.list 1 (kw.map .str))).length=35:=by simp[el,aet]
 have ec:AV 1 (V.list 1 (kw.map .str))=true:=rfl;rw[k3,T.ayx];simp[agE,gF,fl,hM,k2,mn,nO,nP,q3,mo,c3,gE,rp,pC,nv,qB,qC,nw,sF,rq,n2,sE,w1,aj.ah,bG,dD,av.put,en,qa,p9,e0,fF,dR,bI,cj,gP,kl,finish,old,olds,flat,lJ,tg,jQ,iJ,aC,S.R,S.q,S.k,S.rt,S.i7,S.cw,S.e,S.r,S.o,S.n,S.rg,S.m,S.cb,S.ls,S.dw,S.eq,S.ne,S.lt,S.gt,S.c8,S.no,S.j3,S.st,S.hF,S.ix,S.kM,S.ex,S.c,S.cs,S.kr,S.lg,S.z,S.fn,S.jA,Q0,ZC 1,ec,hlen,hx,h1,h2,ar,aS,gn,ew]
set_option maxHeartbeats 1000000 in
theorem ayQ (T:ow aa)(s:List UInt8)(H:Heap):b0 aa (.fn 258 [] []) [.str s] H=some (.fn 377 [] [.ptr H.length 0,.ptr (H.length+2) 0],H++[.cells [.str s],.map xO,.cells [.map (H.length+1)]],H.length):=by
 have hk:=ayP T (H++[.cells [.str s]]);simp only[eZ,gD,nL,dA,kA,mi,jN]at hk;rw[k3,T.ayz];simp[agC,gF,fl,hM,k2,mn,nO,nP,q3,mo,c3,gE,rp,pC,nv,qB,qC,nw,sF,rq,n2,sE,w1,aj.ah,bG,dD,av.put,en,qa,p9,e0,fF,dR,bI,cj,gP,kl,finish,old,olds,flat,lJ,tg,jQ,iJ,aC,S.R,S.q,S.k,S.rt,S.i7,S.cw,S.e,S.r,S.o,S.n,S.rg,S.m,S.cb,S.ls,S.dw,S.eq,S.ne,S.lt,S.gt,S.c8,S.no,S.j3,S.st,S.hF,S.ix,S.kM,S.ex,S.c,S.cs,S.kr,S.lg,S.z,S.fn,S.jA,QZ,bL,eF,hk,l3,jy,setCells,ew]
end
end Go.Abs.bz
namespace Go.Abs.bz
open Go Go.Abs Go.Abs.Lex
noncomputable section
variable{aa:Nat->Option bU}
attribute [local simp] gF fl hM k2 mn nO nP q3 mo c3 gE rp pC nv qB qC nw sF rq n2 sE w1 aj.ah bG gn av.put en qa p9 e0 fF dR bI cj gP kl finish old olds flat lJ tg jQ iJ aC S.R S.q S.k S.rt S.i7 S.cw S.e S.r S.o S.n S.rg S.m S.cb S.ls S.dw S.eq S.ne S.lt S.gt S.c8 S.no S.j3 S.st S.hF S.ix S.kM S.ex S.c S.cs S.kr S.lg S.z S.fn S.jA
set_option maxHeartbeats 1000000 in
theorem ahS (T:ow aa){s:List UInt8}{H:Heap}{lo:Nat}(hl:s.length<4611686018427387904)(ga:min lo H.length=lo):
  ∀(r:List UInt8) (k:Nat) (st:av),s.drop k=r->k<=s.length->st.H=H->st.low=lo->bG st.au 6=.str s->bG st.au 7=.int .i64 k->
   ∃aQ,c4 aa (.loop y9) st=some (.exit 3,aQ)/\aQ.H=H/\aQ.low=lo/\bG aQ.au 7=.int .i64 ((k+sM r:Nat):Int)/\∀t,t<7->bG aQ.au t=bG st.au t
 |[],k,st,hr,hk,h1,h2,eA,lI=>by
  have hle:=drop_nil hr;have hn:¬(k:Int)<(s.length:Int):=by omega
  rw[sa];refine⟨_,by simp[y9,uL,h1,h2,eA,lI,hn,ga];rfl,?_⟩;simp only[gn,h1,h2,sM];exact⟨by simp,by first|(simp[ga,mD];done)|(simp[ga];done)|(simp;omega)|omega,by simp[lI],fun t ht=>by simp[show t≠44 by omega]⟩
 |c::r,k,st,hr,hk,h1,h2,eA,lI=>by
  obtain⟨g1,g2,g3⟩:=drop_cons hr;have hn:(k:Int)<(s.length:Int):=by omega
  have hc:=ayE T c H;have ahT:=ayF T c r H;unfold aJ bv at hc;unfold aJ at ahT;have hb:b0 aa (.fn 385 [] []) [V.str (s.drop k)] H=some (.bool (xc (c::r)),H,H.length):=by rw[hr];exact ahT
  have ba:∀h:k<s.length,s[k]'h=c:=fun h=>by rw[eg h]at g1;exact te g1
  have tI:k<=s.length:=by omega
  have hw:IntKind.i64.wrap ((k:Int)+1)=((k+1:Nat):Int):=by rw[wrap_small]<;>omega
  have EZ:((c.toNat:Int) != 35)=!(c.toNat==35):=by simp only[bne,show((c.toNat:Int)==35)=(c.toNat==35)from zh c 35]
  by_cases E1:(rA c||c.toNat==35||xc (c::r))=true
  ·have aR:sM (c::r)=0:=by simp only[sM,E1,if_true]
   rw[sa,aR];cases hW:rA c with
   |true=>
    rw[hW]at hc;refine⟨_,by simp[y9,uL,xN,h1,h2,eA,lI,hn,ba,g3,hc,ga];rfl,?_⟩;simp only[gn,h1,h2];exact⟨by simp,by first|(simp[ga,mD];done)|(simp[ga];done)|(simp;omega)|omega,by simp[lI],fun t ht=>by simp[show t≠44 by omega]⟩
   |false=>
    rw[hW]at hc;cases zi:(c.toNat==35)with
    |true=>
     refine⟨_,by simp[y9,uL,xN,h1,h2,eA,lI,hn,ba,g3,hc,EZ,zi,ga];rfl,?_⟩;simp only[gn,h1,h2];exact⟨by simp,by first|(simp[ga,mD];done)|(simp[ga];done)|(simp;omega)|omega,by simp[lI],fun t ht=>by simp[show t≠44 by omega]⟩
    |false=>
     have ayR:xc (c::r)=true:=by simpa[hW,zi]using E1
     rw[ayR]at hb;refine⟨_,by simp[y9,uL,xN,E0,fa,tI,h1,h2,eA,lI,hn,ba,g3,hc,hb,EZ,zi,ga];rfl,?_⟩;simp only[gn,h1,h2];exact⟨by simp,by first|(simp[ga,mD];done)|(simp[ga];done)|(simp;omega)|omega,by simp[lI],fun t ht=>by simp[show t≠44 by omega]⟩
  ·have aR:sM (c::r)=sM r+1:=by simp only[sM,E1,if_false];simp
   have hW:rA c=false:=by cases h:rA c<;>simp[h]at E1⊢
   have zi:(c.toNat==35)=false:=by cases h:(c.toNat==35)<;>simp[h]at E1⊢
   have ayS:xc (c::r)=false:=by cases h:xc (c::r)<;>simp[h]at E1⊢
   rw[hW]at hc;rw[ayS]at hb
   have xK:∃st1,c4 aa y9 st=some (.normal,st1)/\st1.H=H/\st1.low=lo/\bG st1.au 7=.int .i64 ((k+1:Nat):Int)/\∀t,t<7->bG st1.au t=bG st.au t:=by
    refine⟨_,by simp[y9,uL,xN,E0,fa,tI,h1,h2,eA,lI,hn,ba,g3,hc,hb,EZ,zi,ga,hw];rfl,?_⟩;simp only[gn,h1,h2];exact⟨by simp,by first|(simp[ga,mD];done)|(simp[ga];done)|(simp;omega)|omega,by simp,fun t ht=>by simp[show t≠44 by omega,show t≠7 by omega]⟩
   obtain⟨st1,q1,q2,cn,c7,fr⟩:=xK;obtain⟨aQ,bB,ca,ez,fC,hG⟩:=ahS T hl ga r (k+1) st1 g2 (by omega) q2 cn (by rw[fr 6 (by decide)];exact eA) c7;refine⟨aQ,by rw[sa,q1];exact bB,ca,ez,?_,fun t ht=>(hG t ht).trans (fr t ht)⟩;rw[fC,aR];simp;omega
set_option maxHeartbeats 2000000 in
theorem ayT (T:ow aa){s:List UInt8}{H:Heap}{lo p2 m:Nat}{a b:Int}(hl:s.length<4611686018427387904)(i1:lo<=H.length)(g2:H[p2]? =some (.cells [.map m]))(NK:H[m]? =some (.map xO))
  {st:av} (h1:st.H=H++[.cells [.int .i64 0,.int .i64 a,.int .i64 b,.int .i64 0]]) (h2:st.low=lo) (jk:bG st.au 2=.ptr p2 0) (Cm:bG st.au 5=.ptr H.length 0) (zj:bG st.au 6=.str s) (s3:bG st.au 7=.int .i64 0):
  ∃aQ,c4 aa xA st=some (.normal,aQ)/\aQ.H=H++[.cells [.int .i64 (lk s),.int .i64 a,.int .i64 b,.int .i64 0]]/\aQ.low=lo/\bG aQ.au 7=.int .i64 (og s)/\∀t,t<7->bG aQ.au t=bG st.au t:=by
 have ga:min lo H.length=lo:=qU i1;have mD:min lo (H.length+1)=lo:=qU (by omega);have Ua:=fun t=>Jm g2 t;have Ub:=fun t=>Jm NK t;cases s with
 |nil=>
  refine⟨_,by simp[xA,h1,h2,jk,Cm,zj,s3,ga,mD];rfl,?_⟩;simp only[gn,h1,h2,lk,og];exact⟨by simp,by first|(simp[ga,mD];done)|(simp[ga];done)|(simp;omega)|omega,by simp[s3],fun t ht=>by simp[show t≠47 by omega]⟩
 |cons c r=>
  have bg:((c::r)==[])=false:=rfl;have ei:=ayC T c (H++[.cells [.int .i64 0,.int .i64 a,.int .i64 b,.int .i64 0]]);have n1:=ahP T c (H++[.cells [.int .i64 0,.int .i64 a,.int .i64 b,.int .i64 0]]);have aA:=ayG T (c::r) (H++[.cells [.int .i64 0,.int .i64 a,.int .i64 b,.int .i64 0]]);have NL:=ahQ T (s:=c::r) (p:=vp) (i:=381) (H:=H++[.cells [.int .i64 0,.int .i64 a,.int .i64 b,.int .i64 0]]) hl (fun c H=>ayD T c H);have Uc:=ahQ T (s:=c::r) (p:=qI) (i:=382) (H:=H++[.cells [.int .i64 0,.int .i64 a,.int .i64 b,.int .i64 0]]) hl (fun c H=>ahP T c H);unfold aJ bv at ei n1;unfold aJ at aA NL Uc;simp only[eZ,gD,nL,dA]at ei n1 aA NL Uc;have qp:=Hb vp (c::r);have NM:=ayO ((c::r).take (mO vp (c::r)));cases al:vo c with
  |true=>
   rw[al]at ei;generalize hn:mO vp (c::r)=n at*;have ahU:n<=r.length+1:=qp;cases a2:kw.contains ((c::r).take n)with
   |true=>
    rw[a2]at NM;have xP:lk (c::r)=2:=by simp only[lk,al,if_true,hn,a2]
    have el:og (c::r)=n:=by simp only[og,al,if_true,hn]
    rw[xP,el];refine⟨_,by simp[xA,h1,h2,jk,Cm,zj,s3,ga,mD,bg,xN,kE,ei,NL,l3,n3,jy,bL,eF,setCells,E0,fa,qp,GX,step,Ua,Ub,NM,ahU,ew,r7,yc,-List.take_succ_cons];rfl,?_⟩;simp only[gn,h1,h2];exact⟨by simp,by first|(simp[ga,mD];done)|(simp;omega)|omega,by simp,fun t ht=>by simp[show t≠47 by omega,show t≠50 by omega,show t≠61 by omega,show t≠7 by omega]⟩
   |false=>
    rw[a2]at NM;have xP:lk (c::r)=1:=by simp only[lk,al,if_true,hn,a2];rfl
    have el:og (c::r)=n:=by simp only[og,al,if_true,hn]
    rw[xP,el];refine⟨_,by simp[xA,h1,h2,jk,Cm,zj,s3,ga,mD,bg,xN,kE,ei,NL,l3,n3,jy,bL,eF,setCells,E0,fa,qp,GX,step,Ua,Ub,NM,ahU,ew,r7,yc,-List.take_succ_cons];rfl,?_⟩;simp only[gn,h1,h2];exact⟨by simp,by first|(simp[ga,mD];done)|(simp;omega)|omega,by simp,fun t ht=>by simp[show t≠47 by omega,show t≠50 by omega,show t≠61 by omega,show t≠7 by omega]⟩
  |false=>
   rw[al]at ei;cases a2:qI c with
   |true=>
    rw[a2]at n1;have xP:lk (c::r)=3:=by simp only[lk,al,a2,if_true];rfl
    have el:og (c::r)=mO qI (c::r):=by simp only[og,al,a2,if_true];rfl
    rw[xP,el];refine⟨_,by simp[xA,h1,h2,jk,Cm,zj,s3,ga,mD,bg,xN,kE,ei,n1,Uc,l3,n3,jy,bL,eF,setCells];rfl,?_⟩;simp only[gn,h1,h2];exact⟨by simp,by first|(simp[ga,mD];done)|(simp;omega)|omega,by simp,fun t ht=>by simp[show t≠47 by omega,show t≠50 by omega,show t≠63 by omega,show t≠7 by omega]⟩
   |false=>
    rw[a2]at n1;by_cases a3:0<sym (c::r)
    ·have xP:lk (c::r)=4:=by simp only[lk,al,a2,a3,if_true];rfl
     have el:og (c::r)=sym (c::r):=by simp only[og,al,a2,a3,if_true];rfl
     rw[xP,el];refine⟨_,by simp[xA,h1,h2,jk,Cm,zj,s3,ga,mD,bg,xN,kE,ei,n1,aA,a3,l3,n3,jy,bL,eF,setCells];rfl,?_⟩;simp only[gn,h1,h2];exact⟨by simp,by first|(simp[ga,mD];done)|(simp;omega)|omega,by simp,fun t ht=>by simp[show t≠47 by omega,show t≠50 by omega,show t≠63 by omega,show t≠70 by omega,show t≠7 by omega]⟩
    ·have xP:lk (c::r)=5:=by simp only[lk,al,a2,a3,if_false];rfl
     have el:og (c::r)=sM r+1:=by simp only[og,al,a2,a3,if_false];rfl
     rw[xP,el]
     obtain⟨st1,q1,q2,cn,c7,fr⟩:=ahS T (s:=c::r) (H:=H++[.cells [.int .i64 5,.int .i64 a,.int .i64 b,.int .i64 0]]) (lo:=lo) hl (by simp;omega) r 1
      {aF:=[],au:=dD (dD (dD (dD (dD st.au 47 (.bool false)) 50 (.bool false)) 63 (.bool false)) 70 (.bool false)) 7 (.int .i64 1),H:=H++[.cells [.int .i64 5,.int .i64 a,.int .i64 b,.int .i64 0]],low:=lo,ro:=st.ro} rfl (by simp) rfl rfl (by simp[gn,zj]) (by simp[gn])
     refine⟨st1,by simp[xA,h1,h2,jk,Cm,zj,s3,ga,mD,bg,xN,kE,ei,n1,aA,a3,l3,n3,jy,bL,eF,setCells,q1],q2,cn,?_,fun t ht=> ?_⟩
     ·rw[c7];simp;omega
     ·rw[fr t ht];simp[gn,show t≠47 by omega,show t≠50 by omega,show t≠63 by omega,show t≠70 by omega,show t≠7 by omega]
end
end Go.Abs.bz
namespace Go.Abs.bz
open Go Go.Abs Go.Abs.Lex
noncomputable section
variable{aa:Nat->Option bU}
attribute [local simp] gF fl hM k2 mn nO nP q3 mo c3 gE rp pC nv qB qC nw sF rq n2 sE w1 aj.ah bG gn av.put en qa p9 e0 fF dR bI cj gP kl finish old olds flat lJ tg jQ iJ aC S.R S.q S.k S.rt S.i7 S.cw S.e S.r S.o S.n S.rg S.m S.cb S.ls S.dw S.eq S.ne S.lt S.gt S.c8 S.no S.j3 S.st S.hF S.ix S.kM S.ex S.c S.cs S.kr S.lg S.z S.fn S.jA
theorem ayU:Ni=.block 1 (.seq Nf (.seq Ng (.seq Nh (.seq (.block 2 xA) EK)))):=rfl
def Cn (s:List UInt8)(fK:Nat):List V:=[.int .i64 (lk (s.drop (hh s fK))),.int .i64 fK,.int .i64 (hh s fK),.int .i64 (oh s fK)]
set_option maxHeartbeats 2000000 in
theorem ayV (T:ow aa){s:List UInt8}{H H2:Heap}{p1 p2 m L fK dH m0:Nat}{b:Bool}(hl:s.length<4611686018427387904)(iU:fK<=s.length)(g1:H[p1]? =some (.cells [.str s]))(g2:H[p2]? =some (.cells [.map m]))(NK:H[m]? =some (.map xO))
  {st:av} (h1:st.H=H) (h2:m0<=st.low) (ym:st.low<=H.length) (qx:bG st.au 0=.yield L) (cb:bG st.au 1=.ptr p1 0) (jk:bG st.au 2=.ptr p2 0) (Bu:bG st.au 4=.int .i64 fK)
  (hy:b0 aa (.yield L) [.agg (Cn s fK)] (H++[.cells (Cn s fK)])=some (.bool b,H2,dH)) (An:dH<=H.length) (ga:m0<=dH) (aET:m0<=H2.length) (KX:b=true->H2[H.length]? =some (.cells (Cn s fK))):
  ∃x aQ,c4 aa Ni st=some (x,aQ)/\x=(if b&&decide (lk (s.drop (hh s fK))≠0)then .normal else .ret)/\aQ.H=H2/\m0<=aQ.low/\aQ.low<=dH/\bG aQ.au 4=.int .i64 (oh s fK)/\∀t,t<4->bG aQ.au t=bG st.au t:=by
 have ayW:=fun t=>Jm g1 t;have Ua:=fun t=>Jm g2 t;have Ub:=fun t=>Jm NK t;obtain⟨lo,i1⟩:∃lo,st.low=lo:=⟨_,rfl⟩;rw[i1]at h2 ym;have px:min lo H.length=lo:=qU ym;have nT:min lo (H.length+1)=lo:=qU (by omega);have ahV:=ayH T (s:=s.drop fK) (H:=H) (by rw[nK];omega);unfold aJ at ahV;have ayX:=aev iU;have aEU:=asn iU
 have Co:IntKind.i64.wrap ((fK:Int)+(ku false (s.drop fK):Int))=(hh s fK:Int):=by
  have e:(fK:Int)+(ku false (s.drop fK):Int)=(hh s fK:Int):=by unfold hh;omega
  rw[e,wrap_small]<;>omega
 have AE:IntKind.i64.wrap ((hh s fK:Int)+(og (s.drop (hh s fK)):Int))=(oh s fK:Int):=by
  have e:(hh s fK:Int)+(og (s.drop (hh s fK)):Int)=(oh s fK:Int):=by unfold oh;omega
  rw[e,wrap_small]<;>omega
 have A:∃st1,c4 aa Nf st=some (.normal,st1)/\st1.H=H++[.cells [.int .i64 0,.int .i64 fK,.int .i64 (hh s fK),.int .i64 0]]/\st1.low=lo/\bG st1.au 5=.ptr H.length 0/\∀t,t<5->bG st1.au t=bG st.au t:=by
  refine⟨_,by simp[Nf,h1,i1,Bu,cb,g1,E0,fa,iU,ahV,Co,step,tk,setCells,bL,eF,l3,jy,px,nT];rfl,?_⟩;simp only[gn,h1];exact⟨by simp[setCells,aj.ah,bG,aC],by first|(simp[px,nT];done)|(simp;omega),by simp,fun t ht=>by simp[show t≠5 by omega]⟩
 obtain⟨st1,al,a2,a3,a4,a5⟩:=A
 have B:∃st2,c4 aa Ng st1=some (.normal,st2)/\st2.H=st1.H/\st2.low=lo/\bG st2.au 6=.str (s.drop (hh s fK))/\∀t,t<6->bG st2.au t=bG st1.au t:=by
  have b1:bG st1.au 1=.ptr p1 0:=(a5 1 (by decide)).trans cb;refine⟨_,by simp[Ng,a2,a3,a4,b1,ayW,n3,E0,fa,ayX,px,nT];rfl,?_⟩;simp only[gn,a2];exact⟨by simp,by first|(simp[px,nT];done)|(simp;omega),by simp,fun t ht=>by simp[show t≠6 by omega]⟩
 obtain⟨st2,b1,e3,iC,kG,v7⟩:=B
 have ayY:∃l0,c4 aa Nh st2=some (.normal,l0)/\l0.H=st1.H/\l0.low=lo/\bG l0.au 7=.int .i64 0/\∀t,t<7->bG l0.au t=bG st2.au t:=by
  refine⟨_,by simp[Nh,e3,iC,a2,px,nT];rfl,?_⟩;simp only[gn,a2,e3];exact⟨by simp,by first|(simp[px,nT];done)|(simp;omega),by simp,fun t ht=>by simp[show t≠7 by omega]⟩
 obtain⟨l0,df,er,e2,h6,ie⟩:=ayY
 obtain⟨Jn,d1,d3,d4,d5,d6⟩:=ayT T (s:=s.drop (hh s fK)) (H:=H) (lo:=lo) (by rw[nK];omega) ym g2 NK (st:=l0) (er.trans a2) e2
  (by rw[ie 2 (by decide),v7 2 (by decide),a5 2 (by decide)];exact jk) (by rw[ie 5 (by decide),v7 5 (by decide)];exact a4) (by rw[ie 6 (by decide)];exact kG) h6
 have keep:∀t,t<5->bG Jn.au t=bG st.au t:=fun t ht=>by rw[d6 t (by omega),ie t (by omega),v7 t (by omega),a5 t ht]
 have rE:bG Jn.au 5=.ptr H.length 0:=by rw[d6 5 (by decide),ie 5 (by decide),v7 5 (by decide)];exact a4
 have k0:bG Jn.au 0=.yield L:=(keep 0 (by decide)).trans qx;have xv:∀t:Heap,¬H.length+1<=dH:=fun _=>by omega
 have C5:=xv [];have qz:m0<=H.length:=by omega
 have E:∃x zk,c4 aa EK Jn=some (x,zk)/\x=(if b&&decide (lk (s.drop (hh s fK))≠0)then .normal else .ret)/\zk.H=H2/\m0<=zk.low/\zk.low<=dH/\bG zk.au 4=.int .i64 (oh s fK)/\∀t,t<4->bG zk.au t=bG Jn.au t:=by
  unfold Cn at hy KX;generalize oO:lk (s.drop (hh s fK))=K at*;cases b with
  |false=>
   refine⟨.ret,_,by simp[EK,d3,d4,d5,rE,k0,n3,l3,jy,bL,eF,setCells,AE,hy,C5,px,nT];rfl,rfl,rfl,?_⟩;exact⟨by simp;omega,by simp;omega,by simp[gn],fun t ht=>by simp[gn,show t≠92 by omega,show t≠4 by omega]⟩
  |true=>
   have NN:=KX rfl;have ahW:∀h:H.length<H2.length,H2[H.length]'h=.cells [.int .i64 K,.int .i64 fK,.int .i64 (hh s fK),.int .i64 (oh s fK)]:=fun h=>by rw[eg h]at NN;exact te NN
   by_cases aR:K=0
   ·have Jo:((K:Int)==0)=true:=by simp[aR]
    refine⟨.ret,_,by simp[EK,d3,d4,d5,rE,k0,n3,l3,jy,bL,eF,setCells,AE,hy,C5,px,nT,NN,ahW,Jo];rfl,by simp[aR],rfl,?_⟩;exact⟨by simp;omega,by simp;omega,by simp[gn],fun t ht=>by simp[gn,show t≠92 by omega,show t≠4 by omega]⟩
   ·have Jo:((K:Int)==0)=false:=by simp;omega
    refine⟨.normal,_,by simp[EK,d3,d4,d5,rE,k0,n3,l3,jy,bL,eF,setCells,AE,hy,C5,px,nT,NN,ahW,Jo];rfl,by simp[aR],rfl,?_⟩;exact⟨by simp;omega,by simp;omega,by simp[gn],fun t ht=>by simp[gn,show t≠92 by omega,show t≠4 by omega]⟩
 obtain⟨x,zk,af,ak,bK,cL,ayZ,dF,hE⟩:=E;have hx:x=.normal\/x=.ret:=by rw[ak];split<;>simp
 refine⟨x,zk,?_,ak,bK,cL,ayZ,dF,fun t ht=>(hE t ht).trans (keep t (by omega))⟩;rw[ayU,mo,hM,al];simp only[];rw[hM,b1];simp only[];rw[hM,df];simp only[];rw[hM,mo,d1];simp only[];rw[af];rcases hx with rfl|rfl<;>rfl
end
end Go.Abs.bz
namespace Go.Abs.bz
open Go Go.Abs Go.Abs.Lex
noncomputable section
variable{aa:Nat->Option bU}
attribute [local simp] gF fl hM k2 mn nO nP q3 mo c3 gE rp pC nv qB qC nw sF rq n2 sE w1 aj.ah bG dD av.put en qa p9 e0 fF dR bI cj gP kl finish old olds flat lJ tg jQ iJ aC S.R S.q S.k S.rt S.i7 S.cw S.e S.r S.o S.n S.rg S.m S.cb S.ls S.dw S.eq S.ne S.lt S.gt S.c8 S.no S.j3 S.st S.hF S.ix S.kM S.ex S.c S.cs S.kr S.lg S.z S.fn S.jA
theorem ox (H l:Heap)(k:Nat):(H++l)[H.length+k]? =l[k]? :=by rw[pX (by omega)];simp
theorem vI (H l:Heap):(H++l)[H.length]? =l[0]? :=ox H l 0
theorem zl (H l:Heap)(k:Nat)(x:b5):(H++l).set (H.length+k) x=H++l.set k x:=by rw[List.set_append_right _ _ (by omega)];simp
theorem xQ (H l:Heap)(x:b5):(H++l).set H.length x=H++l.set 0 x:=zl H l 0 x
def Jp (w:List UInt8)(n:Nat):Env:=[(0,.str w),(1,.ptr n 0),(2,.ptr (n+1) 0),(10,.bool false),(12,.fn 377 [] [.ptr (n+2) 0,.ptr (n+4) 0])]
def vJ (w:List UInt8)(n:Nat):Heap:=[.cells [.str w],.cells [.int .i64 0],.cells [.str w],.map xO,.cells [.map (n+3)],.loop .ready .normal (Jp w n) [13] IY IZ]
set_option maxHeartbeats 1000000 in
theorem ay0 (T:ow aa)(w:List UInt8)(H:Heap):∃H2 dH,b0 aa (.yield (H.length+5)) [.agg (Cn w 0)] (H++(vJ w H.length++[.cells (Cn w 0)]))=some (.bool false,H2,dH)/\H.length<=dH/\dH<=H.length+5/\H.length<=H2.length/\
  ((hh w 0=0/\oh w 0=w.length/\H2[H.length+1]? =some (.cells [.int .i64 (lk (w.drop (hh w 0)))])/\∃e p a b,H2[H.length+5]? =some (.loop .done .ret e p a b))\/
   (¬(hh w 0=0/\oh w 0=w.length)/\H2[H.length+1]? =some (.cells [.int .i64 0])/\∃e p a b,H2[H.length+5]? =some (.loop .done (.exit 0) e p a b))):=by
 rw[akc];unfold Cn;generalize lk (w.drop (hh w 0))=K;by_cases h1:hh w 0=0
 ·have af:((hh w 0:Int) != 0)=false:=by simp[h1]
  by_cases h2:oh w 0=w.length
  ·have ak:((oh w 0:Int) != (w.length:Int))=false:=by simp[h2]
   refine⟨_,_,by simp[vJ,Jp,qg,ox,vI,zl,xQ,IY,IZ,n3,uL,l3,jy,setCells,bL,eF,af,ak,ew];exact⟨rfl,rfl⟩,?_⟩;exact⟨by simp<;>omega,by simp<;>omega,by simp<;>omega,.inl ⟨h1,h2,by simp[ox],_,_,_,_,by rw[ox];rfl⟩⟩
  ·have ak:((oh w 0:Int) != (w.length:Int))=true:=by simp;omega
   refine⟨_,_,by simp[vJ,Jp,qg,ox,vI,zl,xQ,IY,IZ,n3,uL,l3,jy,setCells,bL,eF,af,ak,ew];exact⟨rfl,rfl⟩,?_⟩;exact⟨by simp<;>omega,by simp<;>omega,by simp<;>omega,.inr ⟨fun h=>h2 h.2,by simp[ox],_,_,_,_,by rw[ox];rfl⟩⟩
 ·have af:((hh w 0:Int) != 0)=true:=by simp;omega
  refine⟨_,_,by simp[vJ,Jp,qg,ox,vI,zl,xQ,IY,IZ,n3,uL,l3,jy,setCells,bL,eF,af,ew];exact⟨rfl,rfl⟩,?_⟩;exact⟨by simp<;>omega,by simp<;>omega,by simp<;>omega,.inr ⟨fun h=>h1 h.1,by simp[ox],_,_,_,_,by rw[ox];rfl⟩⟩
set_option maxHeartbeats 1000000 in
theorem ay1 (T:ow aa)(w:List UInt8)(hl:w.length<=4096)(H:Heap):∃H2 dH,b0 aa (.fn 377 [] [.ptr (H.length+2) 0,.ptr (H.length+4) 0]) [.yield (H.length+5)] (H++vJ w H.length)=some (.aU [],H2,dH)/\H.length<=dH/\H.length<=H2.length/\
  ((hh w 0=0/\oh w 0=w.length/\H2[H.length+1]? =some (.cells [.int .i64 (lk (w.drop (hh w 0)))])/\∃e p a b,H2[H.length+5]? =some (.loop .done .ret e p a b))\/
   (¬(hh w 0=0/\oh w 0=w.length)/\H2[H.length+1]? =some (.cells [.int .i64 0])/\∃e p a b,H2[H.length+5]? =some (.loop .done (.exit 0) e p a b))):=by
 obtain⟨H2,dH,hy,b1,e3,iC,kG⟩:=ay0 T w H;rw[<-kA]at hy;have hlen:(H++vJ w H.length).length=H.length+6:=by simp[vJ]
 obtain⟨x,aQ,q1,q2,cn,c7,fr,ic,mH⟩:=ayV T (s:=w) (H:=H++vJ w H.length) (H2:=H2) (p1:=H.length+2) (p2:=H.length+4) (m:=H.length+3) (L:=H.length+5) (fK:=0) (dH:=dH) (m0:=H.length) (b:=false)
  (by omega) (cJ _) (by rw[ox];rfl) (by rw[ox];rfl) (by rw[ox];rfl)
  (st:={aF:=[],au:=[(0,.yield (H.length+5)),(1,.ptr (H.length+2) 0),(2,.ptr (H.length+4) 0),(4,.int .i64 0)],H:=H++vJ w H.length,low:=H.length+6}) rfl (by simp) (by rw[hlen];exact aH _) rfl rfl rfl rfl hy (by rw[hlen];omega) b1 iC (fun h=>by cases h)
 simp only[Ov]at q2;subst q2;have kH:¬H.length+6<=aQ.low:=by omega
 refine⟨H2,aQ.low,?_,c7,iC,kG⟩;rw[k3,T.ayy];simp[agF,hlen,sa Ni,q1,cn,kH]
set_option maxHeartbeats 1000000 in
theorem ahX (T:ow aa)(w:List UInt8)(H:Heap):aJ aa (.fn 259 [] []) [.str w] H (.int .i64 (kindOf w)):=by
 unfold aJ;rw[k3,T.ayA];by_cases h0:w=[]
 ·subst h0
  simp[I0,bL,eF,l3,jy,setCells,ox,vI,zl,xQ,kindOf]
 ·have eM:(w==[])=false:=by cases w<;>simp_all
  by_cases h1:4096<w.length
  ·have af:(4096:Int)<(w.length:Int):=by omega
   simp[I0,bL,eF,l3,jy,setCells,ox,vI,zl,xQ,kindOf,eM,h0,h1,af,uL]
  ·have af:¬(4096:Int)<(w.length:Int):=by omega
   have ht:=ayQ T w (H++[.cells [.str w],.cells [.int .i64 0]]);simp only[eZ,gD,nL,dA,kA,mi,jN,qV,Nat.reduceAdd]at ht;obtain⟨H2,dH,hc,b1,e3,iC⟩:=ay1 T w (by omega) H;simp only[vJ,Jp]at hc;have Ud:min H.length dH=H.length:=qU b1;have ay2:min H.length (min dH (min H2.length (H.length+1)))=H.length:=by omega
   rcases iC with⟨df,er,e2,e,p,a,b,h6⟩|⟨df,e2,e,p,a,b,h6⟩
   ·have hk:kindOf w=lk (w.drop (hh w 0)):=by simp[kindOf,h0,h1,df,er]
    have ie:(H2.set (H.length+5) .gone)[H.length+1]? =some (.cells [.int .i64 (lk (w.drop (hh w 0)))]):=by rw[jx (by omega)];exact e2
    rw[hk];simp[I0,bL,eF,l3,jy,setCells,ox,vI,zl,xQ,eM,h0,h1,af,uL,ht,WE,Fy,CO,hc,h6,ie,ew,Ud]
   ·have hk:kindOf w=0:=by simp[kindOf,h0,h1];exact fun h1 h2=>absurd ⟨h1,h2⟩ df
    have ie:(H2.set (H.length+5) .gone)[H.length+1]? =some (.cells [.int .i64 0]):=by rw[jx (by omega)];exact e2
    have Iv:((H2.set (H.length+5) .gone).set (H.length+1) (.cells [.int .i64 0]))[H.length+1]? =some (.cells [.int .i64 0]):=by rw[nI];rw[x7];rcases gh (H.length+1) H2.length with h|h;exact h;rw[lQ h]at e2;cases e2
    rw[hk];simp[I0,bL,eF,l3,jy,setCells,ox,vI,zl,xQ,eM,h0,h1,af,uL,ht,WE,Fy,CO,hc,h6,ie,Iv,ew,ay2]
end
end Go.Abs.bz
namespace Go.Abs.bz
open Go Go.Abs
noncomputable section
variable{aa:Nat->Option bU}
def xo:V->Bool
 | .bJ .. =>true
 | _=>false
section
variable{call:cW}{ah:aj->V}{H:Heap}{low:Nat}
theorem ahY{x:aj}(h:xo (ah x)=true):cc call ah H low (.len 1 x)=match ah x with
  | .bJ l es _ len tag=>(match H[l]? with
    |some (.row bN ds _)=>if bN=es/\ds.length=tag then some (.int .i64 len,H,low)else none
    |some (.tj r)=>if r.length=tag then some (.int .i64 len,H,low)else none
    | _=>none)
  | _=>none:=by
 show step ah H low (.len 1 x)=_;cases hx:ah x<;>simp_all [xo,step]<;>rfl
theorem ahZ (es:Nat)(a b:aj):cc call ah H low (.copy es a b)=step ah H low (.copy es a b):=rfl
end
structure Jq (aa:Nat->Option bU):Prop where
 ay3:aa 347=some (.code agD)
 ay4:aa 434=some (.code agG)
 ay5:aa 223=some (.code agB)
def u64 (n:Int):V:=.int .u64 n
theorem Ue{W:Nat}(h:W<4294967296):en .and (u64 W) (u64 4294967295)=some (u64 W):=by
 have e:(BitVec.ofInt 64 (W:Int) &&& BitVec.ofInt 64 4294967295).toNat=W:=by
  rw[BitVec.toNat_and]
  have h1:(BitVec.ofInt 64 (W:Int)).toNat=W:=by
   rw[BitVec.toNat_ofInt];omega
  have h2:(BitVec.ofInt 64 4294967295).toNat=2^32-1:=by decide
  rw[h1,h2,Nat.and_two_pow_sub_one_eq_mod];omega
 have eM:en .and (u64 W) (u64 4294967295)=some (.int .u64 (IntKind.u64.wrap ((BitVec.ofInt 64 (W:Int) &&& BitVec.ofInt 64 4294967295).toNat:Int))):=rfl;rw[eM,e]
 have:IntKind.u64.wrap (W:Int)=W:=by
  have af:(2^IntKind.u64.bits:Int)=18446744073709551616:=rfl;have s:IntKind.u64.signed=false:=rfl;simp only[IntKind.wrap,af,s,Ov];simp;omega
 rw[this];rfl
theorem NP{n:Int}(h1:0<=n)(h2:n<18446744073709551616):IntKind.u64.wrap n=n:=by
 have af:(2^IntKind.u64.bits:Int)=18446744073709551616:=rfl;have s:IntKind.u64.signed=false:=rfl;simp only[IntKind.wrap,af,s,Ov];simp;omega
theorem Uf{W:Nat}(h:W<4294967296):en .shr (u64 W) (u64 32)=some (u64 0):=by
 have:(W:Int)/4294967296=0:=Int.ediv_eq_zero_of_lt (by omega) (by omega);simp[u64,en,IntKind.bits,this]
theorem ay6{W:Nat}(h:W<4294967296):en .mul (u64 1) (u64 W)=some (u64 W):=by
 simp[u64,en,NP (n:=(W:Int)) (by omega) (by omega)]
theorem ay7{W:Nat}:en .mul (u64 0) (u64 W)=some (u64 0):=by
 simp[u64,en,NP (n:=0) (by omega) (by omega)]
theorem b1:en .and (u64 1) (u64 4294967295)=some (u64 1):=Ue (W:=1) (by decide)
theorem e3:en .shr (u64 1) (u64 32)=some (u64 0):=Uf (W:=1) (by decide)
theorem iC:en .add (u64 0) (u64 0)=some (u64 0):=by kernel_rfl
theorem kG:en .and (u64 0) (u64 4294967295)=some (u64 0):=Ue (W:=0) (by decide)
theorem v7:en .shr (u64 0) (u64 32)=some (u64 0):=Uf (W:=0) (by decide)
theorem ah0:en .mul (u64 1) (u64 0)=some (u64 0):=by kernel_rfl
theorem Ci:en .mul (u64 0) (u64 0)=some (u64 0):=by kernel_rfl
set_option maxHeartbeats 1000000 in
theorem ay8 (T:Jq aa){W:Nat}(h:W<4294967296)(H:Heap):aJ aa (.fn 434 [] []) [u64 1,u64 W] H (.aU [u64 0,u64 W]):=by
 unfold aJ;have c:∀n,V.int .u64 n=u64 n:=fun _=>rfl;have l2:∀n,bI (u64 n)=true:=fun _=>rfl;rw[k3,T.ay4];simp[agG,dR,S.R,S.qE,S.q,S.k,S.rt,S.i7,S.cw,S.e,S.r,S.o,S.n,S.rg,S.m,S.cb,S.ls,S.dw,S.eq,S.ne,S.lt,S.gt,S.c8,S.no,S.j3,S.st,S.hF,S.ix,S.kM,S.ex,S.c,S.cs,S.kr,S.lg,S.z,S.fn,S.jA,gF,fl,hM,k2,nP,c3,gE,rp,nv,aj.ah,bG,dD,av.put,fF,bI,cj,gP,kl,finish,old,olds,tg,lJ,c,l2,Ue h,Uf h,ay6 h,ay7,b1,e3,iC,kG,v7,ah0,Ci]
theorem ay9{call:cW}{ah:aj->V}{H:Heap}{low:Nat}(k:IntKind)(x:aj):cc call ah H low (.conv k x)=step ah H low (.conv k x):=rfl
set_option maxHeartbeats 1000000 in
theorem aza (T:Jq aa){W:Nat}(h:W<4294967296)(H:Heap):aJ aa (.fn 347 [] []) [.int .u64 1,.int .u64 W] H (.aU [.int .u64 0,.int .u64 W]):=by
 have hm:=ay8 T h H;unfold aJ u64 at*;rw[k3,T.ay3];simp[agD,gF,fl,hM,k2,mn,nO,nP,q3,mo,c3,gE,rp,pC,nv,qB,qC,nw,sF,rq,n2,sE,w1,aj.ah,bG,dD,av.put,en,qa,p9,e0,fF,dR,bI,cj,gP,kl,finish,old,olds,flat,lJ,tg,jQ,iJ,aC,S.R,S.qE,S.q,S.k,S.rt,S.i7,S.cw,S.e,S.r,S.o,S.n,S.rg,S.m,S.cb,S.ls,S.dw,S.eq,S.ne,S.lt,S.gt,S.c8,S.no,S.j3,S.st,S.hF,S.ix,S.kM,S.ex,S.c,S.cs,S.kr,S.lg,S.z,S.fn,S.jA,hm]
def kh (lo hi:Int):V:=.agg [.int .i64 lo,.int .i64 hi]
def Ug:V:=.agg [.int .i64 0,.int .i64 0]
def oy (e:V)(m W:Nat):List V:=List.replicate m e++List.replicate (W-m) Ug
theorem azb{e:V}{m W:Nat}(h:m<=W):(oy e m W).length=W:=by simp[oy];omega
theorem ah1{e:V}{m W:Nat}:(oy e m W).take m=List.replicate m e:=by simp[oy,List.take_append]
theorem azc{e:V}{m W:Nat}(h:m<=W)(h1:1<=m):(oy e m W).take m++((oy e m W).take m).take (W-m)++(oy e m W).drop (m+min (W-m) m)=oy e (m+min (W-m) m) W:=by
 rw[ah1,List.take_replicate];unfold oy;rw[Oo,List.drop_replicate,List.drop_replicate,CE];rw[show m-(m+min (W-m) m)=0 by omega];simp only[List.replicate_zero,jN];rw[show W-m-(m+min (W-m) m-m)=W-(m+min (W-m) m) by omega,List.replicate_append_replicate]
theorem azd{a b:Int}(m:Nat):mj ((List.replicate m (kh a b)).flatMap aC)=true:=by
 induction m with
 |zero=>rfl
 |succ m ih=>rw[zz,im];simp[kh,aC,mj,plainCell]at ih⊢; exact ih
set_option maxHeartbeats 1000000 in
theorem aze (T:Jq aa){a b:Int}{W:Nat}{H:Heap}(hW:W<=1000):∀(j m:Nat) (st:av),m+j=W->1<=m->st.H=H++[.row 2 (oy (kh a b) m W) false]->H.length<=st.low->st.low<=H.length+1->bG st.au 7=.bJ H.length 2 0 W W->bG st.au 8=.int .i64 m->
  ∃aQ,c4 aa (.loop IX) st=some (.exit 0,aQ)/\aQ.H=H++[.row 2 (oy (kh a b) W W) false]/\H.length<=aQ.low/\bG aQ.au 7=.bJ H.length 2 0 W W:=by
 intro j
 induction j using Nat.strongRecOn with
 |ind j ih=>
  intro m st hj hm h1 h2 ym s3 ah2;have jm:=azb (e:=kh a b) (m:=m) (W:=W) (by omega);by_cases azf:m=W
  ·subst azf
   rw[sa];refine⟨_,by simp[IX,gF,fl,hM,k2,mn,nO,nP,q3,mo,c3,gE,rp,pC,nv,qB,qC,nw,sF,rq,n2,sE,aj.ah,bG,gn,av.put,en,qa,p9,e0,fF,dR,bI,cj,gP,kl,finish,old,olds,flat,lJ,tg,jQ,iJ,Re,S.R,S.qE,S.q,S.k,S.rt,S.i7,S.cw,S.e,S.r,S.o,S.n,S.rg,S.m,S.cb,S.ls,S.dw,S.eq,S.ne,S.lt,S.gt,S.c8,S.no,S.j3,S.st,S.hF,S.ix,S.kM,S.ex,S.c,S.cs,S.kr,S.lg,S.z,S.fn,S.jA,h1,s3,ah2,ahY,xo,vI,jm];rfl,?_⟩;exact⟨by simp,by simp;omega,by simp[gn,s3]⟩
  ·have aT:(m:Int)<(W:Int):=by omega
   have Ey:m<W:=by omega
   have Pc:m<=W:=by omega
   have azg:=azd (a:=a) (b:=b) m;have ct:=azc (e:=kh a b) (m:=m) (W:=W) (by omega) hm;have hw:IntKind.i64.wrap ((m:Int)+((min (W-m) m:Nat):Int))=((m+min (W-m) m:Nat):Int):=by rw[wrap_small]<;>omega
   have Ch:=ah1 (e:=kh a b) (m:=m) (W:=W);have qp:(List.replicate m (kh a b)).length=m:=by simp
   have azh:m+(W-m)=W:=by omega
   have xK:∃st1,c4 aa IX st=some (.normal,st1)/\st1.H=H++[.row 2 (oy (kh a b) (m+min (W-m) m) W) false]/\H.length<=st1.low/\st1.low<=H.length+1/\bG st1.au 7=.bJ H.length 2 0 W W/\bG st1.au 8=.int .i64 ((m+min (W-m) m:Nat):Int):=by
    generalize oa:oy (kh a b) m W=P at*;have ga:0<m:=hm;refine⟨_,by simp[IX,gF,fl,hM,k2,mn,nO,nP,q3,mo,c3,gE,rp,pC,nv,qB,qC,nw,sF,rq,n2,sE,aj.ah,bG,gn,av.put,en,qa,p9,e0,fF,dR,bI,cj,gP,kl,finish,old,olds,flat,lJ,tg,jQ,iJ,Re,S.R,S.qE,S.q,S.k,S.rt,S.i7,S.cw,S.e,S.r,S.o,S.n,S.rg,S.m,S.cb,S.ls,S.dw,S.eq,S.ne,S.lt,S.gt,S.c8,S.no,S.j3,S.st,S.hF,S.ix,S.kM,S.ex,S.c,S.cs,S.kr,S.lg,S.z,S.fn,S.jA,h1,s3,ah2,ahY,xo,vI,xQ,jm,aT,Ey,Pc,ga,DL,ahZ,step,fa,elems,Ch,qp,azg,azh,hw,ew,r7,yc,gr,-List.take_replicate];exact⟨.inl (.inl ⟨by decide,by decide⟩),rfl⟩,?_⟩;refine⟨?_,by simp;omega,by simp;omega,by simp[gn,s3],by simp[gn]⟩;rw[Ch]at ct;simp[<-ct,-List.take_replicate]
   obtain⟨st1,q1,q2,cn,c7,fr,ic⟩:=xK;obtain⟨aQ,bB,ca⟩:=ih (W-(m+min (W-m) m)) (by omega) (m+min (W-m) m) st1 (by omega) (by omega) q2 cn c7 fr ic;exact⟨aQ,by rw[sa,q1];exact bB,ca⟩
theorem ah3 (a b:Int):∀m,cj (List.replicate m (kh a b))=true
 |0=>rfl
 |m+1=>by rw[zz];simp only[cj,ah3 a b m,uW];rfl
theorem azi (n:Nat)(a b:Int)(m:Nat):olds n (List.replicate m (kh a b))=true:=by
 induction m with
 |zero=>rfl
 |succ m ih=>rw[zz];simp only[olds,ih,uW];rfl
set_option maxHeartbeats 2000000 in
theorem azj (T:Jq aa){a b:Int}{W:Nat}(hW:W<=1000)(h1:1<=W)(H:Heap):
  b0 aa (.fn 223 [] []) [.list 2 [kh a b],.int .i64 W] H=some (.list 2 (List.replicate W (kh a b)),H,H.length):=by
 have hm:=aza T (W:=W) (by omega) H;unfold aJ at hm;have KH:IntKind.u64.wrap 1=1:=NP (by omega) (by omega);have sq:IntKind.u64.wrap (W:Int)=W:=NP (by omega) (by omega);have hi:IntKind.i64.wrap (W:Int)=W:=by rw[wrap_small]<;>omega
 have azk:¬(W:Int)<0:=by omega
 have ahb:¬(W:Int)>9223372036854775807:=by omega
 have azl:¬(9223372036854775807:Int)<(W:Int):=by omega
 have ea:(W:Int)*17<=1099511627776:=by omega
 have KG:¬(W:Int)=0:=by omega
 have azm:¬W=0:=by omega
 have GG:(0:Int)<=W:=by omega
 have Ud:min W 1=1:=by omega
 have Dg:mj (List.flatMap aC [kh a b])=true:=rfl;have azn:oy (kh a b) 1 W=kh a b::List.replicate (W-1) Ug:=rfl;have azo:oy (kh a b) W W=List.replicate W (kh a b):=by simp[oy]
 obtain⟨aQ,bB,ca,ez,fC⟩:=aze T (a:=a) (b:=b) (W:=W) (H:=H) hW (W-1) 1
  {aF:=[],au:=[(0,.list 2 [kh a b]),(1,.int .i64 W),(4,.aN),(10,.bool false),(5,.int .u64 0),(6,.int .u64 W),(26,.bool false),(7,.bJ H.length 2 0 W W),(8,.int .i64 1)],H:=H++[.row 2 (oy (kh a b) 1 W) false],low:=H.length} (by omega) (aH _) rfl (aH _) (by simp) rfl rfl
 rw[azo]at ca;have azp:=ah3 a b W;have hold:=azi H.length a b W;have azq:List.take W [kh a b]=[kh a b]:=JS (by simpa using h1);have aR:V.agg [V.int .i64 0,V.int .i64 0]=Ug:=rfl;rw[azn]at bB;rw[k3,T.ay5];have ec:AV 2 (V.list 2 [kh a b])=true:=rfl;have y3:(el (V.list 2 [kh a b])).length=1:=rfl;simp[agB,gF,fl,hM,k2,mn,nO,nP,q3,mo,c3,gE,rp,pC,nv,qB,qC,nw,sF,rq,n2,sE,aj.ah,bG,dD,av.put,en,qa,p9,e0,fF,dR,bI,cj,gP,kl,finish,old,olds,flat,lJ,tg,jQ,iJ,Re,S.R,S.qE,S.q,S.k,S.rt,S.i7,S.cw,S.e,S.r,S.o,S.n,S.rg,S.m,S.cb,S.ls,S.dw,S.eq,S.ne,S.lt,S.gt,S.c8,S.no,S.j3,S.st,S.hF,S.ix,S.kM,S.ex,S.c,S.cs,S.kr,S.lg,S.z,S.fn,S.jA,ZC 2,ec,y3,ay9,step,KH,sq,hi,hm,azk,ahb,azl,Q1,lz,aR,ea,KG,azm,GG,ahZ,elems,vI,xQ,azq,Dg,Ud,bB,ca,ez,fC,hold,azp,gn,-List.flatMap_cons]
theorem ah4 (T:Jq aa):avG aa:=by
 intro H0 x n r h;unfold DY at h;split at h
 ·rename_i hc
  obtain⟨h1,h2,ar⟩:=hc;cases h
  obtain⟨rg,hx⟩:∃rg,x=.mk [rg]:=by
   cases x with
   |nil=>simp[ae.l]at h1
   |emp=>simp[ae.l]at h1
   |mk l=>match l,h1 with
    |[rg],_=>exact⟨rg,rfl⟩
  subst hx;obtain⟨W,rfl⟩:=zw (show 0<=n by omega);have:=azj T (a:=rg.jI) (b:=rg.j7) (W:=W) (by omega) (by omega) H0
  have e:(List.replicate ((W:Int)).toNat (ae.mk [rg]).l).flatten=List.replicate W rg:=by
   rw[Oi];show(List.replicate W [rg]).flatten=_;simp
  rw[e];show b0 aa (.fn 223 [] []) [.list 2 [rz rg],aI (W:Int)] H0=some (.list 2 ((List.replicate W rg).map rz),H0,H0.length);rw[List.map_replicate];exact this
 ·cases h
end
end Go.Abs.bz
set_option maxRecDepth 100000
namespace Go.Abs.bz
open Go Go.Abs Go.Proofs
noncomputable section
variable{g:Nat->Option Obj}
theorem azr (azs:∀(G:bX) (H:Heap) (w:World),a8 (C g) id G H w->Lib.TabIs Tryz.prog w "internal/strconv.uint64pow10" .u64 Lib.pow10Tab)(pB:∀(G:bX) (H:Heap) (w:World),a8 (C g) id G H w->Lib.TabIs Tryz.prog w "strings.asciiSpace" .u8 Lib.asciiSpaceTab):c0 (C g) id (eS g):=by
 refine⟨fun i f h=> ?_,fun i sp h=> ?_,fun i sp h=> ?_⟩
 ·unfold eS at h
  split at h
  ·cases h
  ·split at h
   ·rename_i fn iv
    split at h
    ·rename_i a ha
     cases h;obtain⟨c,-,-,-,-,-,eQ⟩:=Le ha;exact⟨fn,iv,by rw[eQ];exact ha⟩
    ·cases h
   ·cases h
 ·unfold eS at h
  split at h
  ·rename_i s hs
   cases h;unfold Zr at hs;split at hs<;>first|(cases hs;done)|skip
   ·cases hs;exact aor azs
   ·cases hs;exact aox
   ·cases hs;exact aot
   ·cases hs;exact aop
   ·cases hs;exact aoA
   ·cases hs;exact aou pB
   ·cases hs;exact aos
  ·split at h
   ·split at h<;>cases h
   ·cases h
 ·unfold eS at h
  split at h
  ·cases h
  ·split at h
   ·split at h<;>cases h
   ·cases h
def Uh:Option bU->Bool
 |some (.code _)=>true
 | _=>false
theorem ah5{o:Option bU}(h:Uh o=true):∃f,o=some (.code f):=by
 match o,h with
 |some (.code f),_=>exact⟨f,rfl⟩
theorem ki{aa:Nat->Option bU}{n i:Nat}{l:List (List V × V)}(hT:c0 (C g) id aa)(hc:Uh (aa i)=true)(h:hC aa n i l):c0 (C g) id (over aa i (hB l)):=by
 obtain⟨f,ag⟩:=ah5 hc;exact yw hT (Lg mixed tU hT ag h)
theorem azt (h:c0 (C g) id (eS g)):c0 (C g) id (Q3 g):=yw h (lb.Lg mixed tU (GH mixed tU h 95) Tryz.func52 (aoL g) (aoN g))
theorem azu (h:c0 (C g) id (eS g)):c0 (C g) id (Q4 g):=ki (azt h) (by kernel_rfl) (aoO g)
theorem azv (h:c0 (C g) id (eS g)):c0 (C g) id (rr g):=ki (azu h) (by kernel_rfl) (aoP g)
theorem azw (h:c0 (C g) id (eS g)):c0 (C g) id (Lr g):=ki (azv h) (by kernel_rfl) (ao0 g)
theorem azx (h:c0 (C g) id (eS g)):c0 (C g) id (Ls g):=ki (azw h) (by kernel_rfl) (ao2 g)
theorem azy (h:c0 (C g) id (eS g)):c0 (C g) id (Lt g):=ki (azx h) (by kernel_rfl) (ao4 g)
theorem azz (h:c0 (C g) id (eS g)):c0 (C g) id (Lu g):=ki (azy h) (by kernel_rfl) (ao6 g)
theorem azA (h:c0 (C g) id (eS g)):c0 (C g) id (Lv g):=ki (azz h) (by kernel_rfl) (ao8 g)
theorem azB (h:c0 (C g) id (eS g)):c0 (C g) id (fH g):=ki (azA h) (by kernel_rfl) (apa g)
theorem azC (h:c0 (C g) id (eS g)):c0 (C g) id (yF g):=ki (azB h) (by kernel_rfl) (apP g)
theorem azD (h:c0 (C g) id (eS g)):c0 (C g) id (Lx g):=ki (azC h) (by kernel_rfl) (apY g).choose_spec
theorem azE (h:c0 (C g) id (eS g)):c0 (C g) id (yH g):=ki (azD h) (by kernel_rfl) (ap0 g)
theorem azF (h:c0 (C g) id (eS g)):c0 (C g) id (Lz g):=ki (azE h) (by kernel_rfl) (ap6 g).choose_spec
theorem azG (h:c0 (C g) id (eS g)):c0 (C g) id (LA g):=ki (azF h) (by kernel_rfl) (ap8 g)
theorem azH (h:c0 (C g) id (eS g)):c0 (C g) id (DN g):=ki (azG h) (by kernel_rfl) (aqa g)
theorem azI (h:c0 (C g) id (eS g)):c0 (C g) id (GY g):=ki (azH h) (by kernel_rfl) (aqe g)
theorem ah6 (h:c0 (C g) id (eS g)):c0 (C g) id (Q8 g):=ki (azI h) (by kernel_rfl) (aqh g)
theorem azJ (h:c0 (C g) id (eS g)):c0 (C g) id (LB g):=yw (ah6 h) (lb.Lg mixed tU (GH mixed tU (ah6 h) 200) Tryz.func61 (aoM g) (aqi g))
theorem azK (h:c0 (C g) id (eS g)):c0 (C g) id (LC g):=ki (azJ h) (by kernel_rfl) (aqk g)
theorem azL (h:c0 (C g) id (eS g)):c0 (C g) id (LD g):=ki (azK h) (by kernel_rfl) (aqm g)
theorem azM (h:c0 (C g) id (eS g)):c0 (C g) id (hR g):=ki (azL h) (by kernel_rfl) (aqo g)
theorem azN (h:c0 (C g) id (eS g)):c0 (C g) id (GZ g):=ki (azM h) (by kernel_rfl) (aqS g)
theorem azO (h:c0 (C g) id (eS g)):c0 (C g) id (sH g):=ki (azN h) (by kernel_rfl) (aqV g)
theorem azP (h:c0 (C g) id (eS g)):c0 (C g) id (G0 g):=ki (azO h) (by kernel_rfl) (aq5 g)
theorem azQ (h:c0 (C g) id (eS g)):c0 (C g) id (LF g):=ki (azP h) (by kernel_rfl) (aq8 g)
theorem azR (h:c0 (C g) id (eS g)):c0 (C g) id (G1 g):=ki (azQ h) (by kernel_rfl) (ara g)
theorem azS (h:c0 (C g) id (eS g)):c0 (C g) id (Q9 g):=ki (azR h) (by kernel_rfl) (ard g)
theorem ah7 (h:c0 (C g) id (eS g)):nY (C g) id 7 (AB [] (.bool true)):=by
 obtain⟨f,ag⟩:=ah5 (show Uh (Q9 g 7)=true by kernel_rfl);exact anD mixed tU (azS h) ag rfl (arf g)
end
end Go.Abs.bz
