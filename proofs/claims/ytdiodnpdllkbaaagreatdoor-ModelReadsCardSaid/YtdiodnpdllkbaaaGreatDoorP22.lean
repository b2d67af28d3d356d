/- Texts of this claim, joined and written short by a program. -/
import Derived.Lib.Fields
import Derived.Lib.Bytealg
import Derived.KernelRfl
import Derived.Test.YtdiodnpdllkbaaaGreatDoorP21
import Derived.Lib.Join
import Derived.Lib.ItoaNum
import Derived.Lib.Atoi
import Derived.Test.YtdiodnpdllkbaaaGreatDoorP00
set_option linter.unusedVariables false
set_option linter.unusedSimpArgs false
set_option linter.unusedSectionVars false
namespace Go.Abs.Lex
open Go
def ml (c:UInt8):Bool:=decide (97<=c.toNat)&&decide (c.toNat<=122)
def iY (c:UInt8):Bool:=decide (48<=c.toNat)&&decide (c.toNat<=57)
def om (c:UInt8):Bool:=ml c||iY c||c.toNat==95
def kd (c:UInt8):Bool:=c.toNat==32||c.toNat==9||c.toNat==10||c.toNat==13
def pre (s w:List UInt8):Bool:=s.take w.length==w
def two:List (List UInt8):=[[61,61],[33,61],[60,61],[62,61],[46,46]]
def one:List UInt8:=[60,62,61,43,45,42,40,41,123,125,44,58,59]
def sym (s:List UInt8):Nat:=if two.any (pre s)then 2 else match s with
 |[]=>0
 |c::_=>if one.contains c then 1 else 0
theorem drop_cons{α:Type}{s r:List α}{k:Nat}{c:α}(h:s.drop k=c::r):s[k]? =some c/\s.drop (k+1)=r/\k<s.length:=by
 have hk:k<s.length:=by
  rcases fX k s.length with h1|h1
  ·exact h1
  ·rw[aa5 h1]at h;cases h
 rw[wc hk]at h
 injection h with h1 h2
 exact⟨by rw[hX hk,h1],h2,hk⟩
theorem drop_nil{α:Type}{s:List α}{k:Nat}(h:s.drop k=[]):s.length<=k:=by
 have:=congrArg List.length h
 simp at this;omega
def ke (p:UInt8->Bool)(s:List UInt8):Nat:=(s.takeWhile p).length
theorem yS (p:UInt8->Bool)(c:UInt8)(s:List UInt8):ke p (c::s)=if p c then ke p s+1 else 0:=by
 unfold ke
 rw[List.takeWhile_cons]
 cases p c<;>simp
theorem DH (p:UInt8->Bool):∀s:List UInt8,ke p s<=s.length
 |[]=>aK _
 |c::s=>by
  rw[yS]
  have:=DH p s
  split<;>simp;omega
def eU:Bool->List UInt8->Nat
 | _,[]=>0
 |false,c::r=>if kd c then eU false r+1 else if c.toNat=35 then eU true r+1 else 0
 |true,c::r=>if c.toNat != 10 then eU true r+1 else eU false r+1
theorem DI:∀(b:Bool) (s:List UInt8),eU b s<=s.length
 |b,[]=>by cases b<;>simp[eU]
 |false,c::r=>by
  have h1:=DI false r
  have h2:=DI true r
  simp only[eU,ev]
  split
  ·omega
  ·split<;>omega
 |true,c::r=>by
  have h1:=DI false r
  have h2:=DI true r
  simp only[eU,ev]
  split<;>omega
theorem Wm:∀s:List UInt8,eU true s=ke (fun c=>c.toNat != 10) s+eU false (s.drop (ke (fun c=>c.toNat != 10) s))
 |[]=>rfl
 |c::r=>by
  rw[yS]
  by_cases h:(c.toNat != 10)=true
  ·simp only[eU,h,if_true,QI]
   rw[Wm r];omega
  ·have hw:kd c=true:=by
    simp at h;simp[kd,h]
   simp[eU,h,hw]
theorem ail (l:List UInt8)(c:UInt8):0<=Lib.indexByte l c↔c∈l:=by
 induction l with
 |nil=>exact⟨fun h=>absurd h (show ¬(0:Int)<=-1 by decide),fun h=>by cases h⟩
 |cons b l ih=>
  have hge:=Lib.indexByte_ge l c
  show(0<=if(b==c)=true then 0 else if(Lib.indexByte l c==-1)=true then -1 else Lib.indexByte l c+1)↔_
  by_cases h:b=c
  ·subst h;simp
  ·have h1:(b==c)=false:=by simp[h]
   rw[h1,dA,<-ih]
   simp only[hY,if_false]
   by_cases ar:Lib.indexByte l c=-1
   ·simp[ar,kp h]
   ·have aQ:(Lib.indexByte l c==-1)=false:=by simp[ar]
    simp only[aQ,hY,if_false]
    constructor
    ·intro _;right;omega
    ·rintro(h5|h5)
     ·exact absurd h5.symm h
     ·omega
theorem aim (l:List UInt8)(c:UInt8):decide (0<=Lib.indexByte l c)=l.contains c:=by
 rw[zU,decide_eq_true_iff,ail,ua]
def vo (s:List UInt8):Bool:=match s with
 |[]=>false
 |c::_=>ml c||iY c||decide (0<sym s)
def HI:List UInt8:=[115,111,114,116,32,114,101,108,97,116,105,111,110,32,99,111,117,110,116,101,114,32,115,101,116,32,114,101,103,105,115,116,101,114,32,105,110,118,97,114,105,97,110,116,32,111,112,101,114,97,116,105,111,110,32,107,101,121,32,114,101,102,101,114,101,110,99,101,32,116,111,32,99,111,117,110,116,32,97,99,121,99,108,105,99,32,97,108,108,32,115,117,109,32,105,110,32,97,100,100,119,105,110,115,32,114,101,109,111,118,101,119,105,110,115,32,108,97,115,116,32,109,117,108,116,105,32,104,105,100,101,32,111,114,100,101,114,101,100,32,114,101,113,117,105,114,101,32,104,111,108,100,32,105,110,115,101,114,116,32,100,101,108,101,116,101,32,97,100,100,32,102,114,111,109,32,112,117,116,32,100,114,111,112,32,97,115,115,105,103,110,32,102,111,114,32,119,104,101,114,101,32,97,110,100,32,111,114,32,110,111,116]
def kw:List (List UInt8):=Lib.fields HI
theorem Wn:kw.length=35:=by kernel_rfl
def q4:List UInt8->Nat
 |[]=>0
 |c::r=>if kd c||c.toNat==35||vo (c::r)then 0 else q4 r+1
theorem Wo:∀s:List UInt8,q4 s<=s.length
 |[]=>aK _
 |c::r=>by
  have:=Wo r
  simp only[q4,ev]
  split<;>omega
def fF:List UInt8->Nat
 |[]=>0
 |c::r=>if ml c then(if kw.contains ((c::r).take (ke om (c::r)))then 2 else 1)else if iY c then 3 else if 0<sym (c::r)then 4 else 5
def gB:List UInt8->Nat
 |[]=>0
 |c::r=>if ml c then ke om (c::r)else if iY c then ke iY (c::r)else if 0<sym (c::r)then sym (c::r)else q4 r+1
theorem ain{s w:List UInt8}(h:pre s w=true):w.length<=s.length:=by
 unfold pre at h
 have:=eq_of_beq h
 rw[<-this,sM];exact qt _ _
theorem aio (s:List UInt8):sym s<=s.length:=by
 unfold sym
 split
 ·rename_i h
  obtain⟨w,hw,hp⟩:=ry.1 h
  have:=ain hp
  have h2:∀w∈two,w.length=2:=by decide
  rw[h2 w hw]at this;exact this
 ·split
  ·exact aK _
  ·split<;>simp
theorem aip (s:List UInt8):gB s<=s.length:=by
 cases s with
 |nil=>exact aK _
 |cons c r=>
  have h1:=DH om (c::r)
  have h2:=DH iY (c::r)
  have ar:=aio (c::r)
  have aQ:=Wo r
  simp only[gB]
  split
  ·exact h1
  ·split
   ·exact h2
   ·split
    ·exact ar
    ·simp;omega
def eW (s:List UInt8)(cO:Nat):Nat:=cO+eU false (s.drop cO)
def iI (s:List UInt8)(cO:Nat):Nat:=eW s cO+gB (s.drop (eW s cO))
theorem Wp{s:List UInt8}{k:Nat}(h:k<=s.length):eW s k<=s.length:=by
 have:=DI false (s.drop k)
 rw[sN]at this
 unfold eW;omega
theorem Ng{s:List UInt8}{k:Nat}(h:k<=s.length):iI s k<=s.length:=by
 have h1:=Wp h
 have:=aip (s.drop (eW s k))
 rw[sN]at this
 unfold iI;omega
def kindOf (w:List UInt8):Nat:=if w=[]\/4096<w.length then 0 else if eW w 0=0/\iI w 0=w.length then fF w else 0
end Go.Abs.Lex
namespace Go.Abs.bw
open Go Go.Abs
noncomputable section
def pU (w:bH):Option Int:=some (Lex.kindOf w)
def DJ (x:ak Range)(n:Int):Option (ak Range):=if x.l.length=1/\1<=n/\n<=1000 then some (.mk ((List.replicate n.toNat x.l).flatten))else none
def Nh:Option Bool:=some true
def strings_IndexByte (s:bH)(c:Int):Option Int:=some (Lib.indexByte s (UInt8.ofNat c.toNat))
def A6 (w:bH):Option (Int × Bool):=if w.length<=4/\Lex.kindOf w=3 then(Lib.atoi w).map fun n=>(n,true)else some (0,false)
def strconv_Itoa (n:Int):Option bH:=if -100000<n/\n<100000 then some (Lib.itoa n)else none
def strings_Join (x:ak bH)(sep:bH):Option bH:=match x with
 | .nil=>some []
 | .emp=>none
 | .mk l=>if l≠[]/\l.length<=4096/\(Lib.join l sep).length<=1000000 then some (Lib.join l sep)else none
def vp:Nat->bH->Option (List bH)
 |0,_=>none
 |k+1,r=>let t:=r.drop (Lex.eU false r);if Lex.fF t=0 then some []else(vp k (t.drop (Lex.gB t))).map (t.take (Lex.gB t):: ·)
def tt (s:bH):Option (ak bH):=if s.length<=4096 then(vp 64 s).map fun l=>if l=[]then .nil else .mk l else none
def vq (ts:List Table)(h:gk):Bool:=
 (decide (h.Table>=0)&&decide (h.Table<ts.length))&&((decide (h.da>=0)&&decide (h.da<ts.length))&&(!(h.Table==h.da)&&match ts[h.Table.toNat]?,ts[h.da.toNat]? with
   |some t,some u=>(t.Kind==0)&&((u.Kind==0)&&((decide (h.jt>=0)&&decide (h.jt<t.bP.l.length))&&((u.bP.l.length==1)&&(u.bP.l.getD 0 0==t.bP.l.getD h.jt.toNat 0))))
   | _,_=>false))
def lI (hs:List gk):Nat->Int->Int->Bool
 |0,a,b=>a==b
 |n+1,a,b=>(a==b)||hs.any fun h=>(h.Table==a)&&lI hs n h.da b
def HJ (hs:List gk)(n:Nat):Bool:=hs.all fun h=>!lI hs n h.da h.Table
def DK (ts:List Table)(hs:List gk):Bool:=decide (hs.length<=12)&&(hs.all (vq ts)&&HJ hs ts.length)
def Wq (j:dN):Option Bool:=some (DK j.Model.Tables.l j.Model.b7.l)
end
end Go.Abs.bw
namespace Go.Abs.bw
open Go Go.Abs
structure DL (hs:List gk) (ks rJ:List Int):Prop where
 sub:∀t∈rJ,t∈ks
 dk:rJ.Nodup
 next:∀t∈rJ,∃h∈hs,h.Table=t/\h.da∈ks
 dQ:∀K:Int->Prop,(∀t,K t->t∈ks)->(∀t,K t->∃h∈hs,h.Table=t/\K h.da)->∀t,K t->t∈rJ
inductive pV (hs:List gk) (ks:List Int):Nat->List Int->Prop
 |zero:pV hs ks 0 ks
 |succ {n:Nat} {cq ee:List Int}:pV hs ks n cq->DL hs cq ee->pV hs ks (n+1) ee
variable{hs:List gk}{ks:List Int}
theorem pV.sub{n:Nat}{k:List Int}(h:pV hs ks n k):∀t∈k,t∈ks:=by
 induction h with
 |zero=>exact fun t h=>h
 |succ _ h2 ih=>exact fun t h=>ih t (h2.sub t h)
theorem pV.dQ{n:Nat}{k:List Int}(h:pV hs ks n k)(K:Int->Prop)(h1:∀t,K t->t∈ks)(h2:∀t,K t->∃h∈hs,h.Table=t/\K h.da):∀t,K t->t∈k:=by
 induction h with
 |zero=>exact h1
 |succ _ ar ih=>exact ar.dQ K ih h2
theorem pV.walk{n:Nat}{k:List Int}(h:pV hs ks n k):∀t∈k,∃f:Nat->Int,f 0=t/\(∀i,i<=n->f i∈ks)/\∀i,i<n->∃h∈hs,h.Table=f i/\h.da=f (i+1):=by
 induction h with
 |zero=>exact fun t ht=>⟨fun _=>t,rfl,fun _ _=>ht,fun i hi=>absurd hi (Nat.not_lt_zero i)⟩
 |@succ n cq ee h1 h2 ih=>
  intro t ht
  obtain⟨h,fj,af,aj⟩:=h2.next t ht
  obtain⟨f,f0,f1,f2⟩:=ih h.da aj
  refine⟨fun i=>match i with|0=>t|i+1=>f i,rfl,fun i hi=> ?_,fun i hi=> ?_⟩
  ·cases i with
   |zero=>exact h1.sub t (h2.sub t ht)
   |succ i=>exact f1 i (by omega)
  ·cases i with
   |zero=>exact⟨h,fj,af,f0.symm⟩
   |succ i=>exact f2 i (by omega)
theorem HK{α:Type}[BEq α][LawfulBEq α]:∀{l k:List α},l.Nodup->(∀x∈l,x∈k)->l.length<=k.length
 |[],_,_,_=>cx _
 |a::l,k,hn,hs=>by
  obtain⟨h1,h2⟩:=ud.1 hn
  have ao:=hs a (by simp)
  have ih:=HK (l:=l) (k:=k.erase a) h2 fun x hx=>(List.mem_erase_of_ne (fun e=>h1 (by rw[<-e];exact hx))).2 (hs x (by simp[hx]))
  rw[List.length_erase_of_mem ao]at ih
  have:=List.length_pos_of_mem ao
  simp only[ev];omega
theorem aiq{f:Nat->Int}{k:List Int}(h:∀i,i<=k.length->f i∈k):∃i j,i<j/\j<=k.length/\f i=f j:=by
 refine QE fun hc=> ?_
 have hnd:((List.range (k.length+1)).map f).Nodup:=by
  unfold List.Nodup
  rw[List.pairwise_map]
  refine List.pairwise_lt_range.imp_of_mem fun {a b} ao hb pE e=>hc ⟨a,b,pE,?_,e⟩
  have:=Ks.1 hb
  omega
 have:=HK hnd (k:=k) fun x hx=>by
  obtain⟨i,hi,rfl⟩:=ey.1 hx
  have:=Ks.1 hi
  exact h i (by omega)
 simp at this
 omega
theorem air{n:Nat}{a b:Int}:∀{a:Int},lI hs n a b=true->lI hs (n+1) a b=true:=by
 induction n with
 |zero=>intro a h;simp only[lI]at h⊢; simp[h]
 |succ n ih=>
  intro a h
  rw[lI,ko]at h⊢
  rcases h with h|h
  ·exact .inl h
  ·refine .inr ?_
   obtain⟨x,hx,h1⟩:=ry.1 h
   simp only[b8]at h1
   exact ry.2 ⟨x,hx,by simp only[b8];exact⟨h1.1,ih h1.2⟩⟩
theorem ais{n m:Nat}{a b:Int}(h:n<=m)(hl:lI hs n a b=true):lI hs m a b=true:=by
 induction h with
 |refl=>exact hl
 |step _ ih=>exact air (a:=a) ih
theorem Wr{f:Nat->Int}{n:Nat}(h:∀i,i<n->∃h∈hs,h.Table=f i/\h.da=f (i+1)):∀k a,a+k<=n->lI hs k (f a) (f (a+k))=true
 |0,a,_=>by simp[lI]
 |k+1,a,hk=>by
  obtain⟨x,hx,af,aj⟩:=h a (by omega)
  have ih:=Wr h k (a+1) (by omega)
  rw[lI,ko]
  refine .inr (ry.2 ⟨x,hx,?_⟩)
  rw[af,aj]
  simp only[beq_self_eq_true,fI]
  rw[show a+(k+1)=a+1+k by omega];exact ih
theorem ait{n:Nat}{a b:Int}(pE:a≠b)(h:lI hs n a b=true):∃x∈hs,x.Table=a/\∃m,lI hs m x.da b=true:=by
 cases n with
 |zero=>simp only[lI,beq_iff_eq]at h;exact absurd h pE
 |succ n=>
  rw[lI,ko]at h
  rcases h with h|h
  ·exact absurd (eq_of_beq h) pE
  ·obtain⟨x,hx,h1⟩:=ry.1 h
   simp only[b8,beq_iff_eq]at h1
   exact⟨x,hx,h1.1,n,h1.2⟩
theorem aiu{N:Nat}{k:List Int}(hnd:ks.Nodup)(hm:∀t,t∈ks↔∃h∈hs,h.Table=t)(wN:∀h∈hs,0<=h.Table/\h.Table<N)(hr:pV hs ks hs.length k):decide (k.length=0)=HJ hs N:=by
 have yl:ks.length<=hs.length:=by
  have:=HK hnd (k:=hs.map (·.Table)) fun x hx=>by
   obtain⟨h,h1,h2⟩:=(hm x).1 hx
   exact ey.2 ⟨h,h1,h2⟩
  simpa using this
 have Ai:ks.length<=N:=by
  have:=HK hnd (k:=(List.range N).map Int.ofNat) fun x hx=>by
   obtain⟨h,h1,rfl⟩:=(hm x).1 hx
   have:=wN h h1
   exact ey.2 ⟨h.Table.toNat,Ks.2 (by omega),by simp;omega⟩
  simpa using this
 rw[zU,decide_eq_true_iff]
 unfold HJ
 rw[eV]
 constructor
 ·intro h0 h fj
  have hk:k=[]:=Kf.1 h0
  cases hl:lI hs N h.da h.Table with
  |false=>rfl
  |true=>
   have kC:∀t,(∃n,lI hs n t h.Table=true)->∃x∈hs,x.Table=t/\∃n,lI hs n x.da h.Table=true:=by
    rintro t ⟨n,hn⟩
    by_cases e:t=h.Table
    ·exact⟨h,fj,e.symm,N,hl⟩
    ·exact ait e hn
   have:=hr.dQ (fun t=>∃n,lI hs n t h.Table=true) (fun t ht=>by
    obtain⟨x,hx,e,-⟩:=kC t ht
    exact(hm t).2 ⟨x,hx,e⟩) kC h.Table ⟨0,by simp[lI]⟩
   rw[hk]at this;cases this
 ·intro eA
  refine QE fun bf=> ?_
  obtain⟨t,ht⟩:=List.exists_mem_of_length_pos (l:=k) (by omega)
  obtain⟨f,-,f1,f2⟩:=hr.walk t ht
  obtain⟨i,j,cK,hj,e⟩:=aiq (f:=f) (k:=ks) fun i hi=>f1 i (by omega)
  obtain⟨x,hx,af,aj⟩:=f2 i (by omega)
  have hw:=Wr (n:=hs.length) f2 (j-(i+1)) (i+1) (by omega)
  rw[show i+1+(j-(i+1))=j by omega,<-e,<-af,<-aj]at hw
  have:=eA x hx
  rw[ais (m:=N) (by omega) hw]at this
  cases this
end Go.Abs.bw
set_option maxHeartbeats 2000000
namespace Go.Abs.bw
open Go Go.Abs
noncomputable section
def aiv (ah:(ak gk))(ba:(gk->Option Bool)):(Int)->Option (dM (Int) (cP (Unit) (Int))):=fun i7=>(bif (decide (i7<ah.len))then((bQ ah.l i7).bind fun hh=>((ba hh).bind fun hM=>(bif hM then some (.out (.ret i7))else some (.next (bJ (i7+1))))))else some (.out (.go ())))
def Ws (ah:(ak gk))(ba:(gk->Option Bool)):Option (Int):=
 ((c0 (aiv ah ba) 0:Option (cP (Unit) (Int))).bind fun iJ=>match iJ with| .go _=>some (-1)| .ret pW=>some pW)
def DM (ah:(ak gk))(ba:(gk->Option Bool)):Option (Bool):=
 ((Ws ah ba).bind fun cb=>some (decide (cb>=0)))
def yT (ah:Int):Option (Bool):=
 some ((decide (ah>=97))&&(decide (ah<=122)))
def yU (ah:Int):Option (Bool):=
 some ((decide (ah>=48))&&(decide (ah<=57)))
def Ni (ah:bH)(ba:bH):Option (Bool):=
 (((bif (decide ((ah.length:Int)>=(ba.length:Int)))then((q0 ah 0 (ba.length:Int)).bind fun gR=>some (gR==ba))else some false):Option (Bool)).bind fun hg=>some hg)
def HL (ah:bH)(ba:bH):Option (Bool):=
 ((Ni ah ba).bind fun cb=>some cb)
def DN (ah:bH):(Int)->Option (dM (Int) (cP (Unit) (Unit))):=fun i7=>(bif (decide (i7<(ak.mk [[61,61],[33,61],[60,61],[62,61],[46,46]]).len))then((bQ (ak.mk [[61,61],[33,61],[60,61],[62,61],[46,46]]).l i7).bind fun hh=>((HL ah hh).bind fun hM=>(bif hM then some (.out (.ret ()))else some (.next (bJ (i7+1))))))else some (.out (.go ())))
def A7 (ah:bH):Option (Int):=
 ((c0 (DN ah) 0:Option (cP (Unit) (Unit))).bind fun iJ=>match iJ with| .go _=>(((bif (ah != [])then((bQ ah 0).bind fun aiw=>((strings_IndexByte [60,62,61,43,45,42,40,41,123,125,44,58,59] (aiw.toNat:Int)).bind fun pd=>some (decide (pd>=0))))else some false):Option (Bool)).bind fun vr=>(bif vr then some 1 else some 0))| .ret _=>some 2)
def DP (ah:bH):Option (Bool):=
 ((((bQ ah 0).bind fun dR=>((yT (dR.toNat:Int)).bind fun gR=>(bif gR then some true else((bQ ah 0).bind fun fl=>((yU (fl.toNat:Int)).bind fun oo=>(bif oo then some true else((A7 ah).bind fun vt=>some (decide (vt>0))))))))):Option (Bool)).bind fun hg=>some hg)
def DQ (ah:bH)(ba:(Int->Option Bool)):(Int)->Option (dM (Int) (Int)):=fun i7=>(((bif (decide (i7<(ah.length:Int)))then((bQ ah i7).bind fun hM=>((ba (hM.toNat:Int)).bind fun nM=>some nM))else some false):Option (Bool)).bind fun DR=>(bif DR then some (.next (bJ (i7+1)))else some (.out i7)))
def A8 (ah:bH)(ba:(Int->Option Bool)):Option (Int):=
 ((c0 (DQ ah ba) 0:Option (Int)).bind fun iJ=>some iJ)
def A9 (ah:Int):Option (Bool):=
 some ((ah==32)||((ah==9)||((ah==10)||(ah==13))))
def Ba (ah:Int):Option (Bool):=
 some (ah != 10)
def Bb (ah:bH):(Int)->Option (dM (Int) (cP (Int) (Int))):=fun i7=>(bif (decide (i7<(ah.length:Int)))then((bQ ah i7).bind fun hh=>((A9 (hh.toNat:Int)).bind fun hM=>(bif hM then some (.next (bJ (i7+1)))else((bQ ah i7).bind fun oq=>(bif ((oq.toNat:Int)==35)then((q0 ah i7 (ah.length:Int)).bind fun eN=>((A8 eN Ba).bind fun yV=>some (.next (bJ (i7+yV)))))else some (.out (.ret i7)))))))else some (.out (.go i7)))
def DS (ah:bH):Option (Int):=
 ((c0 (Bb ah) 0:Option (cP (Int) (Int))).bind fun iJ=>match iJ with| .go aix=>some aix| .ret aiy=>some aiy)
def DT (ah:Int):Option (Bool):=
 ((((yT ah).bind fun dR=>(bif dR then some true else((yU ah).bind fun kK=>(bif kK then some true else some (ah==95))))):Option (Bool)).bind fun hg=>some hg)
def HM (ba:(ak Table)):(Int)->Option (dM (Int) (cP (Unit) (Unit))):=fun i7=>(bif (decide (i7<ba.len))then((((bQ ba.l i7).bind fun hM=>(bif (decide ((hM.Name.length:Int)>40))then some true else((bQ ba.l i7).bind fun oq=>some (decide (oq.bP.len>12))))):Option (Bool)).bind fun aiz=>(bif aiz then some (.out (.ret ()))else some (.next (bJ (i7+1)))))else some (.out (.go ())))
def HN (ah:(ak Int))(ba:(ak Table)):Option (Bool):=
 ((c0 (HM ba) 0:Option (cP (Unit) (Unit))).bind fun iJ=>match iJ with| .go _=>some ((decide (ah.len<=12))&&(decide (ba.len<=20)))| .ret _=>some false)
def HO (ah:Model):(Int)->Option (dM (Int) (cP (Unit) (Unit))):=fun i26=>(bif (decide (i26<ah.fE.len))then((bQ ah.fE.l i26).bind fun DU=>(bif (decide ((DU.length:Int)>40))then some (.out (.ret ()))else some (.next (bJ (i26+1)))))else some (.out (.go ())))
def HP (ah:Model):(Int)->Option (dM (Int) (cP (Unit) (Unit))):=fun i49=>(bif (decide (i49<ah.fu.len))then((bQ ah.fu.l i49).bind fun DV=>(bif (decide (DV.Row.eT.len>20))then some (.out (.ret ()))else some (.next (bJ (i49+1)))))else some (.out (.go ())))
def HQ (ah:Model):(Int)->Option (dM (Int) (cP (Unit) (Unit))):=fun i72=>(bif (decide (i72<ah.Operations.len))then((((bQ ah.Operations.l i72).bind fun aiA=>(bif (decide ((aiA.Name.length:Int)>40))then some true else((bQ ah.Operations.l i72).bind fun aiB=>some (decide (aiB.bC.len>6))))):Option (Bool)).bind fun aiC=>(bif aiC then some (.out (.ret ()))else some (.next (bJ (i72+1)))))else some (.out (.go ())))
def HR (yW:Action):(Int)->Option (dM (Int) (cP (Unit) (Unit))):=fun i133=>(bif (decide (i133<yW.eK.ia.len))then((bQ yW.eK.ia.l i133).bind fun aiD=>(bif (decide (aiD.eT.len>20))then some (.out (.ret ()))else some (.next (bJ (i133+1)))))else some (.out (.go ())))
def HS (ah:Model):(Int)->Option (dM (Int) (cP (Unit) (Unit))):=fun i103=>(bif (decide (i103<ah.Actions.len))then((bQ ah.Actions.l i103).bind fun yW=>((((bQ ah.Actions.l i103).bind fun aiE=>(bif (decide (aiE.bL.len>6))then some true else(bif (decide (yW.eK.Delta.len>20))then some true else(bif (decide (yW.eK.ia.len>10))then some true else some (decide (yW.eK.hL.len>40)))))):Option (Bool)).bind fun aiF=>(bif aiF then some (.out (.ret ()))else((c0 (HR yW) 0:Option (cP (Unit) (Unit))).bind fun aiG=>match aiG with| .go _=>some (.next (bJ (i103+1)))| .ret _=>some (.out (.ret ()))))))else some (.out (.go ())))
def HU (ah:Model):Option (Bool):=
 (((bif (decide (ah.bC.len>8))then some true else(bif (decide (ah.Tables.len>6))then some true else(bif (decide (ah.fE.len>20))then some true else(bif (decide (ah.fu.len>60))then some true else(bif (decide (ah.Operations.len>8))then some true else(bif (decide (ah.Actions.len>30))then some true else(bif (decide (ah.b7.len>12))then some true else((HN ah.bC ah.Tables).bind fun hh=>some (!hh))))))))):Option (Bool)).bind fun ot=>(bif ot then some false else((c0 (HO ah) 0:Option (cP (Unit) (Unit))).bind fun vr=>match vr with| .go _=>((c0 (HP ah) 0:Option (cP (Unit) (Unit))).bind fun aiH=>match aiH with| .go _=>((c0 (HQ ah) 0:Option (cP (Unit) (Unit))).bind fun Nl=>match Nl with| .go _=>((c0 (HS ah) 0:Option (cP (Unit) (Unit))).bind fun aiI=>match aiI with| .go _=>some true| .ret _=>some false)| .ret _=>some false)| .ret _=>some false)| .ret _=>some false)))
def aiJ (ah:(ak Bool))(ba:Bool):(Int)->Option (dM (Int) (cP (Unit) (Int))):=fun i7=>(bif (decide (i7<ah.len))then((bQ ah.l i7).bind fun hh=>(bif (ba==hh)then some (.out (.ret i7))else some (.next (bJ (i7+1)))))else some (.out (.go ())))
def Wt (ah:(ak Bool))(ba:Bool):Option (Int):=
 ((c0 (aiJ ah ba) 0:Option (cP (Unit) (Int))).bind fun iJ=>match iJ with| .go _=>some (-1)| .ret aiK=>some aiK)
def Nn (ah:(ak Bool))(ba:Bool):Option (Bool):=
 ((Wt ah ba).bind fun cb=>some (decide (cb>=0)))
def Bc (ah:(ak Bool)):Option (Bool):=
 ((Nn ah false).bind fun cb=>some (!cb))
def aiL (ah:(ak Int))(ba:(Int->Option Bool)):(Int)->Option (dM (Int) (cP (Unit) (Int))):=fun i7=>(bif (decide (i7<ah.len))then((bQ ah.l i7).bind fun hh=>((ba hh).bind fun hM=>(bif hM then some (.out (.ret i7))else some (.next (bJ (i7+1))))))else some (.out (.go ())))
def Wu (ah:(ak Int))(ba:(Int->Option Bool)):Option (Int):=
 ((c0 (aiL ah ba) 0:Option (cP (Unit) (Int))).bind fun iJ=>match iJ with| .go _=>some (-1)| .ret pW=>some pW)
def DW (ah:(ak Int))(ba:(Int->Option Bool)):Option (Bool):=
 ((Wu ah ba).bind fun cb=>some (decide (cb>=0)))
def HV (ah:Int)(ba:Int)(pX:Int):Option (Bool):=
 some ((decide (ah>=ba))&&(decide (ah<=pX)))
def Np (ah:Int):Option (Bool):=
 ((HV ah 1 6).bind fun cb=>some (!cb))
def HW (ah:(ak Int)):Option (Bool):=
 ((DW ah Np).bind fun cb=>some (!cb))
def yX (ah:bH):Option (Bool):=
 (((bif (decide ((ah.length:Int)<=16))then((pU ah).bind fun gR=>some (gR==1))else some false):Option (Bool)).bind fun hg=>some hg)
def Nq (q5:(ak Int))(ah:Int):Option (Bool):=
 some ((decide (ah<0))||(decide (ah>=q5.len)))
def HX (ah:(ak Int))(ba:(ak Int)):Option (Bool):=
 (((bif (decide (ba.len<=3))then((DW ba (fun z0=>Nq ah z0)).bind fun mm=>some (!mm))else some false):Option (Bool)).bind fun ot=>some ot)
def HY (ah:Table):Option (Bool):=
 (((((bif (ah.Kind==1)then some (ah.Kind==1)else(bif (ah.Kind==4)then some (ah.Kind==4)else some (ah.Kind==5))):Option (Bool)).bind fun iJ=>(bif iJ then some (.ret ((decide (ah.Range.kI<=ah.Range.kJ))&&((decide (ah.Range.kI>=(-9999)))&&(decide (ah.Range.kJ<=9999)))))else some (.go ()))):Option (cP (Unit) (Bool))).bind fun ot=>match ot with| .go _=>some ((ah.Range.kI==0)&&((ah.Range.kJ==1)&&true))| .ret aiM=>some aiM)
def Bd (ah:Table):Option (Bool):=
 some ((ah.Kind==0)||(ah.Kind==1))
def HZ (ah:(ak Int))(ba:(ak Int)):(Int × Int)->Option (dM (Int × Int) (Int)):=fun⟨i8,i9⟩=>(bif (decide (i9<ba.len))then((bQ ba.l i9).bind fun nM=>((bQ ah.l nM).bind fun oq=>some (.next ((bJ (i8*oq)),(bJ (i9+1))))))else some (.out i8))
def tu (ah:(ak Int))(ba:(ak Int)):Option (Int):=
 ((c0 (HZ ah ba) (1,0):Option (Int)).bind fun yY=>some yY)
def Be (ah:(ak Int))(ba:(ak Table)):(Int × Int × Int × (List (bH × Bool)))->Option (dM (Int × Int × Int × (List (bH × Bool))) (cP (Int × Int) (Unit))):=fun⟨i29,i30,i31,i32⟩=>(bif (decide (i29<ba.len))then((bQ ba.l i29).bind fun q6=>((yX q6.Name).bind fun Bf=>((HV q6.Kind 0 5).bind fun aiN=>((HX ah q6.bP).bind fun aiO=>((HY q6).bind fun vu=>((Bc (ak.mk [Bf,(!((iH i32 q6.Name).getD false)),aiN,aiO,vu])).bind fun yZ=>(bif yZ then((Bd q6).bind fun tv=>(bif tv then(bif (q6.dG != i31)then some (.out (.ret ()))else((tu ah q6.bP).bind fun nf=>some (.next ((bJ (i29+1)),i30,(bJ (i31+nf)),(mg i32 q6.Name true)))))else(bif (q6.dG != i30)then some (.out (.ret ()))else((tu ah q6.bP).bind fun w2=>some (.next ((bJ (i29+1)),(bJ (i30+w2)),i31,(mg i32 q6.Name true)))))))else some (.out (.ret ())))))))))else some (.out (.go (i30,i31))))
def Bg (ah:(ak Int))(ba:(ak Table)):Option (Bool):=
 ((HW ah).bind fun cb=>((Bc (ak.mk [(decide (ah.len<=4)),(decide (ba.len<=12)),cb])).bind fun dR=>(bif dR then((c0 (Be ah ba) (0,0,0,[]):Option (cP (Int × Int) (Unit))).bind fun aiP=>match aiP with| .go (⟨aiQ,aiR⟩)=>some ((decide (aiR<=128))&&(decide (aiQ<=64)))| .ret _=>some false)else some false)))
def DX (ah:(ak bH)):(Int × (List (bH × Bool)))->Option (dM (Int × (List (bH × Bool))) (cP (Unit) (Unit))):=fun⟨i12,i13⟩=>(bif (decide (i12<ah.len))then((bQ ah.l i12).bind fun yV=>((((yX yV).bind fun Nr=>(bif Nr then some ((iH i13 yV).getD false)else some true)):Option (Bool)).bind fun aiS=>(bif aiS then some (.out (.ret ()))else some (.next ((bJ (i12+1)),(mg i13 yV true))))))else some (.out (.go ())))
def DY (ah:(ak bH)):Option (Bool):=
 ((c0 (DX ah) (0,[]):Option (cP (Unit) (Unit))).bind fun vv=>match vv with| .go _=>some true| .ret _=>some false)
def DZ (ah:(ak Int))(ba:(ak Table))(pX:Bool):(Int × (ak Range))->Option (dM (Int × (ak Range)) ((ak Range))):=fun⟨i13,i14⟩=>(bif (decide (i13<ba.len))then((bQ ba.l i13).bind fun ng=>((Bd ng).bind fun q7=>(bif (q7==pX)then((tu ah ng.bP).bind fun DU=>((DJ (ak.mk [ng.Range]) DU).bind fun y0=>((lG 16 i14 y0).bind fun aiT=>some (.next ((bJ (i13+1)),aiT)))))else some (.next ((bJ (i13+1)),i14)))))else some (.out i14))
def D0 (ah:(ak Int))(ba:(ak Table))(pX:Bool):Option ((ak Range)):=
 ((Bg ah ba).bind fun cb=>(bif cb then((c0 (DZ ah ba pX) (0,.nil):Option ((ak Range))).bind fun DR=>some DR)else some ak.nil))
def kg (ah:Int)(ba:Int):Option (Bool):=
 some ((decide (ah>=0))&&(decide (ah<ba)))
def y1 (ah:Int)(ba:Int):Option (Bool):=
 some ((decide (ah>=(bJ (0-ba))))&&(decide (ah<=ba)))
def D1 (ah:dN)(ba:Row):(Int × Int)->Option (dM (Int × Int) (cP (Unit) (Unit))):=fun⟨i16,i17⟩=>(bif (decide (i17<ba.eT.len))then((bQ ba.eT.l i17).bind fun ng=>(((bif (decide (ng.Cell<=i16))then some true else(bif (decide (ng.Cell>=ah.strict.len))then some true else(bif (ng.pT==0)then some true else((y1 ng.pT 1000).bind fun Bh=>some (!Bh))))):Option (Bool)).bind fun Ns=>(bif Ns then some (.out (.ret ()))else some (.next (ng.Cell,(bJ (i17+1)))))))else some (.out (.go ())))
def D2 (ah:dN)(ba:Row):Option (Bool):=
 ((c0 (D1 ah ba) ((-1),0):Option (cP (Unit) (Unit))).bind fun y3=>match y3 with| .go _=>((y1 ba.q3 1000000000).bind fun Nt=>some Nt)| .ret _=>some false)
def aiU (ah:(ak Table))(ba:(Table->Option Bool)):(Int)->Option (dM (Int) (cP (Unit) (Int))):=fun i7=>(bif (decide (i7<ah.len))then((bQ ah.l i7).bind fun hh=>((ba hh).bind fun hM=>(bif hM then some (.out (.ret i7))else some (.next (bJ (i7+1))))))else some (.out (.go ())))
def Wv (ah:(ak Table))(ba:(Table->Option Bool)):Option (Int):=
 ((c0 (aiU ah ba) 0:Option (cP (Unit) (Int))).bind fun iJ=>match iJ with| .go _=>some (-1)| .ret pW=>some pW)
def Nu (ah:(ak Table))(ba:(Table->Option Bool)):Option (Bool):=
 ((Wv ah ba).bind fun cb=>some (decide (cb>=0)))
def H5 (q5:Constraint)(Nv:dN)(ah:Table):Option (Bool):=
 (((bif (ah.Kind==0)then(bif (ah.bP.len==2)then((bQ ah.bP.l 0).bind fun vt=>((bQ ah.bP.l 1).bind fun w3=>(bif (vt==w3)then(bif (ah.dG==q5.dG)then((bQ ah.bP.l 0).bind fun D3=>((bQ Nv.Model.bC.l D3).bind fun hh=>some (hh==q5.w1)))else some false)else some false)))else some false)else some false):Option (Bool)).bind fun ot=>some ot)
def H6 (ah:dN)(ba:Constraint):Option (Bool):=
 (((bif (ba.Row.eT.len==0)then(bif (ba.Row.q3==0)then((Nu ah.Model.Tables (fun z0=>H5 ba ah z0)).bind fun D3=>some D3)else some false)else some false):Option (Bool)).bind fun aiV=>some aiV)
def H7 (ah:(ak Term))(ba:(ak Term)):(Int)->Option (dM (Int) (cP (Unit) (Unit))):=fun i8=>(bif (decide (i8<ah.len))then((bQ ah.l i8).bind fun hM=>((bQ ba.l i8).bind fun nM=>(bif ((hM.Cell==nM.Cell)&&((hM.pT==nM.pT)&&true))then some (.next (bJ (i8+1)))else some (.out (.ret ())))))else some (.out (.go ())))
def Bi (ah:(ak Term))(ba:(ak Term)):Option (Bool):=
 (bif (ah.len != ba.len)then some false else((c0 (H7 ah ba) 0:Option (cP (Unit) (Unit))).bind fun yY=>match yY with| .go _=>some true| .ret _=>some false))
def H8 (ah:Row)(ba:Int)(pX:Int)(tw:Int):Option (Bool):=
 ((((Bi ah.eT (ak.mk [(Term.mk ba pX)])).bind fun oo=>(bif oo then some (ah.q3==tw)else some false)):Option (Bool)).bind fun ot=>some ot)
def D4 (ah:dN):(Int)->Option (dM (Int) (cP (Unit) (Unit))):=fun i16=>(bif (decide (i16<ah.Model.fu.len))then((bQ ah.Model.fu.l i16).bind fun mn=>((((kg mn.yR ah.Model.fE.len).bind fun q7=>(bif q7 then(bif (mn.Kind==0)then(((bif (mn.dG != 0)then some true else(bif (mn.w1 != 0)then some true else((D2 ah mn.Row).bind fun hq=>some (!hq)))):Option (Bool)).bind fun aiW=>(bif aiW then some (.ret ())else some (.go ())))else(((bif (mn.Kind != 1)then some true else((H6 ah mn).bind fun Bf=>some (!Bf))):Option (Bool)).bind fun aiX=>(bif aiX then some (.ret ())else some (.go ()))))else some (.ret ()))):Option (cP (Unit) (Unit))).bind fun Nw=>match Nw with| .go _=>(bif (decide ((bJ (i16.tdiv 2))<ah.strict.len))then((bQ ah.strict.l (bJ (i16.tdiv 2))).bind fun w2=>(((bif ((i16.tmod 2)==0)then some ((-1),(bJ (0-w2.kI)))else some (1,w2.kJ)):Option (Int × Int)).bind fun Nx=>match Nx with|⟨aiY,aiZ⟩=>(((bif (mn.Kind != 0)then some true else((H8 mn.Row (bJ (i16.tdiv 2)) aiY aiZ).bind fun ai0=>some (!ai0))):Option (Bool)).bind fun ai1=>(bif ai1 then some (.out (.ret ()))else some (.next (bJ (i16+1)))))))else some (.next (bJ (i16+1))))| .ret _=>some (.out (.ret ()))))else some (.out (.go ())))
def H9 (ah:dN):Option (Bool):=
 (bif ((decide (ah.Model.fu.len>512))||(decide (ah.Model.fu.len<(bJ (2*ah.strict.len)))))then some false else((c0 (D4 ah) 0:Option (cP (Unit) (Unit))).bind fun y3=>match y3 with| .go _=>some true| .ret _=>some false))
def Ia (q5:dN)(ah:Int):Option (Bool):=
 some ((decide (ah<(-1)))||(decide (ah>=q5.Model.bC.len)))
def D5 (ah:dN):(Int × (ak bH))->Option (dM (Int × (ak bH)) (cP ((ak bH)) (Unit))):=fun⟨i15,i16⟩=>(bif (decide (i15<ah.Model.Operations.len))then((bQ ah.Model.Operations.l i15).bind fun vw=>((lG 16 i16 (ak.mk [vw.Name])).bind fun ai2=>(((bif (decide (vw.bC.len>3))then some true else((DW vw.bC (fun z0=>Ia ah z0)).bind fun ai3=>some ai3)):Option (Bool)).bind fun ai4=>(bif ai4 then some (.out (.ret ()))else some (.next ((bJ (i15+1)),ai2))))))else some (.out (.go i16)))
def Ib (ah:dN):Option (Bool):=
 ((c0 (D5 ah) (0,.nil):Option (cP ((ak bH)) (Unit))).bind fun Nz=>match Nz with| .go Ww=>(((bif (decide (Ww.len<=8))then((DY Ww).bind fun D6=>some D6)else some false):Option (Bool)).bind fun Nx=>some Nx)| .ret _=>some false)
def Ic (ah:Int):Option (Bool):=
 some (ah != ah)
def Ie (ah:Int)(ba:Int):Option (Int):=
 ((Ic ah).bind fun cb=>((Ic ba).bind fun dR=>(bif cb then(bif dR then some 0 else some (-1))else(bif dR then some 1 else(bif (decide (ah<ba))then some (-1)else(bif (decide (ah>ba))then some 1 else some 0))))))
def Bj (ah:(ak Int))(ba:(ak Int)):(Int)->Option (dM (Int) (cP (Unit) (Int))):=fun i7=>(bif (decide (i7<ah.len))then((bQ ah.l i7).bind fun hh=>(bif (decide (i7>=ba.len))then some (.out (.ret 1))else((bQ ba.l i7).bind fun nM=>((Ie hh nM).bind fun oq=>(bif (oq != 0)then some (.out (.ret oq))else some (.next (bJ (i7+1))))))))else some (.out (.go ())))
def D7 (ah:(ak Int))(ba:(ak Int)):Option (Int):=
 ((c0 (Bj ah ba) 0:Option (cP (Unit) (Int))).bind fun iJ=>match iJ with| .go _=>(bif (decide (ah.len<ba.len))then some (-1)else some 0)| .ret ai5=>some ai5)
def Ig (ah:(ak Int))(mn:Table):(Int × Int × (ak Int))->Option (dM (Int × Int × (ak Int)) ((ak Int))):=fun⟨i58,i59,i60⟩=>(bif (decide (i59>=0))then((bQ mn.bP.l i59).bind fun D6=>((bQ ah.l D6).bind fun Ii=>((DC i58 Ii).bind fun NA=>((DB i58 Ii).bind fun ai6=>((bQ i60.l i59).bind fun Wx=>((bQ i60.l i59).bind fun w4=>some (.next (ai6,(bJ (i59-1)),(o9 i60 i59 NA)))))))))else some (.out i60))
def D8 (ah:(ak Int))(ba:(ak Table))(pX:Bool)(tw:Int):(Int)->Option (dM (Int) (cP (Unit) (Int × (ak Int)))):=fun i16=>(bif (decide (i16<ba.len))then((bQ ba.l i16).bind fun mn=>((((Bd mn).bind fun q7=>(bif (q7==pX)then(bif (decide ((bJ (tw-mn.dG))<0))then some true else((tu ah mn.bP).bind fun y0=>some (decide ((bJ (tw-mn.dG))>=y0))))else some true)):Option (Bool)).bind fun Nw=>(bif Nw then some (.next (bJ (i16+1)))else((yI 8 0 mn.bP.len).bind fun D9=>((c0 (Ig ah mn) ((bJ (tw-mn.dG)),(bJ (D9.len-1)),D9):Option ((ak Int))).bind fun NB=>some (.out (.ret (i16,NB))))))))else some (.out (.go ())))
def Ea (ah:(ak Int))(ba:(ak Table))(pX:Bool)(tw:Int):Option (Int × (ak Int) × Bool):=
 ((((Bg ah ba).bind fun dR=>(bif dR then some (decide (tw<0))else some true)):Option (Bool)).bind fun hg=>(bif hg then some (0,ak.nil,false)else((c0 (D8 ah ba pX tw) 0:Option (cP (Unit) (Int × (ak Int)))).bind fun y3=>match y3 with| .go _=>some (0,ak.nil,false)| .ret (⟨ai7,ai8⟩)=>some (ai7,ai8,true))))
def Ij (ah:dN)(ba:mj):Option (Bool):=
 ((Ea ah.Model.bC ah.Model.Tables false ba.Cell).bind fun w3=>(bif w3.2.2 then((bQ ah.Model.Tables.l w3.1).bind fun Eb=>(((bif (Eb.Kind==2)then some (Eb.Kind==2)else some (Eb.Kind==3)):Option (Bool)).bind fun ai9=>(bif ai9 then some (bif (ba.Kind==0)then(ba.Value==0)else((ba.Kind==1)&&(ba.Value==0)))else some ((ba.Kind==2)&&((decide (ba.Value>=Eb.Range.kI))&&(decide (ba.Value<=Eb.Range.kJ)))))))else some false))
def aja (ah:(ak Row))(ba:(Row->Option Bool)):(Int)->Option (dM (Int) (cP (Unit) (Int))):=fun i7=>(bif (decide (i7<ah.len))then((bQ ah.l i7).bind fun hh=>((ba hh).bind fun hM=>(bif hM then some (.out (.ret i7))else some (.next (bJ (i7+1))))))else some (.out (.go ())))
def Wy (ah:(ak Row))(ba:(Row->Option Bool)):Option (Int):=
 ((c0 (aja ah ba) 0:Option (cP (Unit) (Int))).bind fun iJ=>match iJ with| .go _=>some (-1)| .ret pW=>some pW)
def NC (ah:(ak Row))(ba:(Row->Option Bool)):Option (Bool):=
 ((Wy ah ba).bind fun cb=>some (decide (cb>=0)))
def Ik (q5:dN)(ah:Row):Option (Bool):=
 ((D2 q5 ah).bind fun fl=>some (!fl))
def Ec (ah:dN)(ba:eK):(Int × Int)->Option (dM (Int × Int) (cP (Unit) (Unit))):=fun⟨i16,i17⟩=>(bif (decide (i17<ba.Delta.len))then((bQ ba.Delta.l i17).bind fun ng=>(((bif (decide (ng.Cell<=i16))then some true else(bif (decide (ng.Cell>=ah.strict.len))then some true else(bif (ng.Add==0)then some true else((y1 ng.Add 1000000000).bind fun Bh=>some (!Bh))))):Option (Bool)).bind fun Ns=>(bif Ns then some (.out (.ret ()))else some (.next (ng.Cell,(bJ (i17+1)))))))else some (.out (.go ())))
def Ed (ah:dN)(ba:eK):(Int × Int)->Option (dM (Int × Int) (cP (Unit) (Unit))):=fun⟨i57,i58⟩=>(bif (decide (i58<ba.hL.len))then((bQ ba.hL.l i58).bind fun w5=>(((bif (decide (w5.Cell<=i57))then some true else((Ij ah w5).bind fun Wx=>some (!Wx))):Option (Bool)).bind fun Nl=>(bif Nl then some (.out (.ret ()))else some (.next (w5.Cell,(bJ (i58+1)))))))else some (.out (.go ())))
def Il (ah:dN)(ba:eK):Option (Bool):=
 ((c0 (Ec ah ba) ((-1),0):Option (cP (Unit) (Unit))).bind fun y3=>match y3 with| .go _=>((c0 (Ed ah ba) ((-1),0):Option (cP (Unit) (Unit))).bind fun ajc=>match ajc with| .go _=>(((bif (decide (ba.ia.len<=8))then(bif (decide (ba.hL.len<=32))then((NC ba.ia (fun z0=>Ik ah z0)).bind fun ajd=>some (!ajd))else some false)else some false):Option (Bool)).bind fun aje=>some aje)| .ret _=>some false)| .ret _=>some false)
def Im (ah:dN)(eN:Action)(Io:cl):(Int)->Option (dM (Int) (cP (Unit) (Unit))):=fun i42=>(bif (decide (i42<Io.bC.len))then((bQ Io.bC.l i42).bind fun vu=>((bQ eN.bL.l i42).bind fun yZ=>(((bif (decide (vu<0))then((y1 yZ 9999).bind fun ND=>(bif ND then(bif (decide (vu>=0))then((bQ ah.Model.bC.l vu).bind fun DV=>((kg yZ DV).bind fun nf=>some (!nf)))else some false)else some true))else(bif (decide (vu>=0))then((bQ ah.Model.bC.l vu).bind fun NF=>((kg yZ NF).bind fun ajf=>some (!ajf)))else some false)):Option (Bool)).bind fun Ee=>(bif Ee then some (.out (.ret ()))else some (.next (bJ (i42+1)))))))else some (.out (.go ())))
def Ef (ah:dN):(Int)->Option (dM (Int) (cP (Unit) (Unit))):=fun i12=>(bif (decide (i12<ah.Model.Actions.len))then((bQ ah.Model.Actions.l i12).bind fun eN=>((((kg eN.cl ah.Model.Operations.len).bind fun sj=>(bif sj then((bQ ah.Model.Operations.l eN.cl).bind fun pd=>some (eN.bL.len != pd.bC.len))else some true)):Option (Bool)).bind fun vr=>(bif vr then some (.out (.ret ()))else((bQ ah.Model.Operations.l eN.cl).bind fun Io=>((c0 (Im ah eN Io) 0:Option (cP (Unit) (Unit))).bind fun ajg=>match ajg with| .go _=>(((bif (decide (i12>0))then((bQ ah.Model.Actions.l (bJ (i12-1))).bind fun w4=>(((bif (decide (w4.cl>eN.cl))then some true else(bif (w4.cl==eN.cl)then((D7 w4.bL eN.bL).bind fun NG=>some (decide (NG>=0)))else some false)):Option (Bool)).bind fun NH=>(bif NH then some (.ret ())else some (.go ()))))else some (.go ())):Option (cP (Unit) (Unit))).bind fun ajh=>match ajh with| .go _=>((Il ah eN.eK).bind fun aji=>(bif aji then some (.next (bJ (i12+1)))else some (.out (.ret ()))))| .ret _=>some (.out (.ret ())))| .ret _=>some (.out (.ret ())))))))else some (.out (.go ())))
def Iq (ah:dN):Option (Bool):=
 (bif (decide (ah.Model.Actions.len>256))then some false else((c0 (Ef ah) 0:Option (cP (Unit) (Unit))).bind fun vv=>match vv with| .go _=>some true| .ret _=>some false))
def ou (ah:Model):Option (Bool):=
 ((((Bg ah.bC ah.Tables).bind fun oo=>(bif oo then(bif (decide (ah.fE.len>24))then some true else((DY ah.fE).bind fun w3=>some (!w3)))else some true)):Option (Bool)).bind fun ot=>(bif ot then some false else((D0 ah.bC ah.Tables true).bind fun oq=>((((H9 (dN.mk ah oq)).bind fun NI=>(bif NI then((Ib (dN.mk ah oq)).bind fun sj=>(bif sj then((Iq (dN.mk ah oq)).bind fun pd=>(bif pd then((Wq (dN.mk ah oq)).bind fun q7=>some q7)else some false))else some false))else some false)):Option (Bool)).bind fun Bl=>some Bl))))
def Eg (nM:Action):(Int × (ak bH))->Option (dM (Int × (ak bH)) ((ak bH))):=fun⟨i32,i33⟩=>(bif (decide (i32<nM.bL.len))then((bQ nM.bL.l i32).bind fun ajj=>((strconv_Itoa ajj).bind fun ajk=>((lG 16 i33 (ak.mk [ajk])).bind fun ajl=>some (.next ((bJ (i32+1)),ajl)))))else some (.out i33))
def w6 (ah:Model)(ba:Int):Option (bH):=
 ((((ou ah).bind fun oo=>(bif oo then((kg ba ah.Actions.len).bind fun vt=>some (!vt))else some true)):Option (Bool)).bind fun ot=>(bif ot then some []else((bQ ah.Actions.l ba).bind fun nM=>((c0 (Eg nM) (0,.nil):Option ((ak bH))).bind fun ajm=>((bQ ah.Operations.l nM.cl).bind fun ajn=>((vg ajn.Name [40]).bind fun ajo=>((strings_Join ajm [44,32]).bind fun D6=>((vg ajo D6).bind fun Ii=>((vg Ii [41]).bind fun NA=>some NA)))))))))
def sk:((ak bH) × Bool × (ak Int))->Option (dM ((ak bH) × Bool × (ak Int)) (cP (Bool × (ak Int)) (Unit))):=fun⟨i12,i13,i14⟩=>(bif (decide (i12.len>0))then(((bif (decide (i14.len>0))then((bQ i12.l 0).bind fun vw=>(bif (vw != [44])then some (.ret ())else((o8 i12 1 i12.len).bind fun Ir=>some (.go Ir))))else some (.go i12)):Option (cP ((ak bH)) (Unit))).bind fun Bl=>match Bl with| .go pZ=>(((((bif (decide (pZ.len>0))then((bQ pZ.l 0).bind fun Bm=>some (Bm==[45]))else some false):Option (Bool)).bind fun NJ=>(bif NJ then((o8 pZ 1 pZ.len).bind fun Is=>some (Is,(-1)))else some (pZ,1))):Option ((ak bH) × Int)).bind fun It=>match It with|⟨ov,w7⟩=>(((bif (ov.len==0)then some true else((bQ ov.l 0).bind fun nf=>((pU nf).bind fun pe=>some (pe != 3)))):Option (Bool)).bind fun NK=>(bif NK then some (.out (.ret ()))else((bQ ov.l 0).bind fun w5=>((A6 w5).bind fun lJ=>((lG 8 i14 (ak.mk [(bJ (w7*lJ.1))])).bind fun WA=>((o8 ov 1 ov.len).bind fun Iu=>some (.next (Iu,(i13&&lJ.2),WA)))))))))| .ret _=>some (.out (.ret ())))else some (.out (.go (i13,i14))))
def Bn (ah:(ak bH)):Option ((ak Int) × Bool × Bool):=
 ((c0 (sk) (ah,true,.nil):Option (cP (Bool × (ak Int)) (Unit))).bind fun vv=>match vv with| .go (⟨Eh,WB⟩)=>some (WB,Eh,true)| .ret _=>some (ak.nil,false,false))
def WC (ah:(ak cl))(ba:(cl->Option Bool)):(Int)->Option (dM (Int) (cP (Unit) (Int))):=fun i7=>(bif (decide (i7<ah.len))then((bQ ah.l i7).bind fun hh=>((ba hh).bind fun hM=>(bif hM then some (.out (.ret i7))else some (.next (bJ (i7+1))))))else some (.out (.go ())))
def Iv (ah:(ak cl))(ba:(cl->Option Bool)):Option (Int):=
 ((c0 (WC ah ba) 0:Option (cP (Unit) (Int))).bind fun iJ=>match iJ with| .go _=>some (-1)| .ret pW=>some pW)
def Iw (q5:(ak bH))(ah:cl):Option (Bool):=
 ((bQ q5.l 0).bind fun fl=>some (ah.Name==fl))
def WD (ah:(ak Action))(ba:(Action->Option Bool)):(Int)->Option (dM (Int) (cP (Unit) (Int))):=fun i7=>(bif (decide (i7<ah.len))then((bQ ah.l i7).bind fun hh=>((ba hh).bind fun hM=>(bif hM then some (.out (.ret i7))else some (.next (bJ (i7+1))))))else some (.out (.go ())))
def Ix (ah:(ak Action))(ba:(Action->Option Bool)):Option (Int):=
 ((c0 (WD ah ba) 0:Option (cP (Unit) (Int))).bind fun iJ=>match iJ with| .go _=>some (-1)| .ret pW=>some pW)
def Iy (ah:(ak Int))(ba:(ak Int)):(Int)->Option (dM (Int) (cP (Unit) (Unit))):=fun i8=>(bif (decide (i8<ah.len))then((bQ ah.l i8).bind fun hM=>((bQ ba.l i8).bind fun nM=>(bif (hM != nM)then some (.out (.ret ()))else some (.next (bJ (i8+1))))))else some (.out (.go ())))
def Iz (ah:(ak Int))(ba:(ak Int)):Option (Bool):=
 (bif (ah.len != ba.len)then some false else((c0 (Iy ah ba) 0:Option (cP (Unit) (Unit))).bind fun yY=>match yY with| .go _=>some true| .ret _=>some false))
def Ei (q5:Int)(Nv:(ak Int))(ah:Action):Option (Bool):=
 (((bif (ah.cl==q5)then((Iz ah.bL Nv).bind fun mm=>some mm)else some false):Option (Bool)).bind fun ot=>some ot)
def Ej (ah:Model)(ba:bH):Option (Int × Int):=
 ((ou ah).bind fun fl=>(bif fl then((tt ba).bind fun mm=>(((bif (decide (mm.len<3))then some true else((bQ mm.l 0).bind fun oq=>((pU oq).bind fun ajp=>(bif (ajp != 1)then some true else((bQ mm.l 1).bind fun yV=>(bif (yV != [40])then some true else((bQ mm.l (bJ (mm.len-1))).bind fun Nr=>some (Nr != [41])))))))):Option (Bool)).bind fun Nz=>(bif Nz then some (0,3)else((o8 mm 2 (bJ (mm.len-1))).bind fun ajq=>((Bn ajq).bind fun y4=>(bif y4.2.2 then((Iv ah.Operations (fun z0=>Iw mm z0)).bind fun gl=>(bif (decide (gl<0))then some (0,4)else((Ix ah.Actions (fun z0=>Ei gl y4.1 z0)).bind fun Bf=>(bif ((decide (Bf<0))||(!y4.2.1))then some (0,7)else some (Bf,0)))))else some (0,3)))))))else some (0,1)))
def ajr (cb:Int × (ak Int) × Bool):(Int × (ak bH))->Option (dM (Int × (ak bH)) ((ak bH))):=fun⟨i13,i14⟩=>(bif (decide (i13<cb.2.1.len))then((bQ cb.2.1.l i13).bind fun ng=>((strconv_Itoa ng).bind fun NI=>((lG 16 i14 (ak.mk [NI])).bind fun nN=>some (.next ((bJ (i13+1)),nN)))))else some (.out i14))
def NL (ah:(ak Int))(ba:(ak Table))(pX:Bool)(tw:Int):Option (bH):=
 ((Ea ah ba pX tw).bind fun cb=>(bif cb.2.2 then((c0 (ajr cb) (0,.nil):Option ((ak bH))).bind fun DR=>((bQ ba.l cb.1).bind fun vu=>((vg vu.Name [40]).bind fun yZ=>((strings_Join DR [44,32]).bind fun Nt=>((vg yZ Nt).bind fun ajs=>((vg ajs [41]).bind fun ND=>some ND))))))else some []))
def Ek (ah:Model)(ba:Int):Option (bH):=
 ((ou ah).bind fun fl=>(bif fl then((NL ah.bC ah.Tables true ba).bind fun mm=>some mm)else some []))
def NM (ah:Model)(ba:Bool):Option ((ak Range)):=
 ((ou ah).bind fun fl=>(bif fl then((D0 ah.bC ah.Tables ba).bind fun mm=>some mm)else some ak.nil))
def IA (ah:Model):Option ((ak Range)):=
 ((NM ah true).bind fun fl=>some fl)
def Bo (ah:Model)(ba:Int):(Int)->Option (dM (Int) (cP (Unit) (Unit))):=fun i23=>(bif (decide (i23<ah.Actions.len))then((w6 ah i23).bind fun y4=>((Ej ah y4).bind fun q7=>((tt y4).bind fun ajt=>((bQ (ak.mk [[],[32],[10],[35,10]]).l ((bJ ba).tmod 4)).bind fun DU=>((strings_Join ajt DU).bind fun y0=>((Ej ah y0).bind fun Bh=>(bif ((y4==[])||((q7.2 != 0)||((Bh.2 != 0)||((q7.1 != i23)||(Bh.1 != i23)))))then some (.out (.ret ()))else some (.next (bJ (i23+1))))))))))else some (.out (.go ())))
def IB (ah:Model)(ba:Int):Option (Bool):=
 ((Nh).bind fun fl=>(bif fl then((((HU ah).bind fun vt=>(bif vt then((ou ah).bind fun aju=>some (!aju))else some true)):Option (Bool)).bind fun yY=>(bif yY then some true else((c0 (Bo ah ba) 0:Option (cP (Unit) (Unit))).bind fun ajv=>match ajv with| .go _=>((((w6 ah ah.Actions.len).bind fun tv=>(bif (tv==[])then((w6 ah (-1)).bind fun DV=>(bif (DV==[])then((IA ah).bind fun pe=>((Ek ah pe.len).bind fun NF=>(bif (NF==[])then((Ek ah (-1)).bind fun w2=>some (w2==[]))else some false)))else some false))else some false)):Option (Bool)).bind fun ajw=>some ajw)| .ret _=>some false)))else some false))
end
end Go.Abs.bw
