/- Texts of this claim, joined and written short by a program. -/
import Derived.Test.YtdiodnpdllkbaaaGreatDoorP35
import Derived.Lib.ItoaNum
import Derived.Lib.Atoi
import Derived.Test.YtdiodnpdllkbaaaGreatDoorP31
import Derived.Test.YtdiodnpdllkbaaaGreatDoorP33
import Derived.Test.YtdiodnpdllkbaaaGreatDoorP14
import Derived.Test.YtdiodnpdllkbaaaGreatDoorP20
import Derived.Test.YtdiodnpdllkbaaaGreatDoorP21
import Derived.Test.YtdiodnpdllkbaaaGreatDoorP00
set_option linter.unusedVariables false
set_option linter.unusedSimpArgs false
set_option linter.unusedSectionVars false
namespace Go.Abs.bw
open Go Go.Abs Go.Abs.Lex
def Fx (c:UInt8):Bool:=c==40||c==41||c==44||c==45
theorem B0{c:UInt8}(h:Fx c=true):c=40\/c=41\/c=44\/c=45:=by
 simp[Fx]at h
 rcases h with((h|h)|h)|h
 ·exact .inl h
 ·exact .inr (.inl h)
 ·exact .inr (.inr (.inl h))
 ·exact .inr (.inr (.inr h))
theorem apU{c:UInt8}(h:Fx c=true)(r:List UInt8):sym (c::r)=1:=by
 rcases B0 h with rfl|rfl|rfl|rfl<;>simp[sym,two,Lex.one,pre]<;>decide
theorem Lex.tU{sep rest:List UInt8}{ws:List (List UInt8)}{c:UInt8}(hs:Sep sep)(hc:Fx c=true)(h:Lex rest ws):Lex (sep++c::rest) ([c]::ws):=by
 have hW:kd c=false:=by rcases B0 hc with rfl|rfl|rfl|rfl<;>rfl
 have rj:c.toNat≠35:=by rcases B0 hc with rfl|rfl|rfl|rfl<;>decide
 have df:ml c=false:=by rcases B0 hc with rfl|rfl|rfl|rfl<;>rfl
 have lx:iY c=false:=by rcases B0 hc with rfl|rfl|rfl|rfl<;>rfl
 have fJ:=apU hc rest
 exact Lex.step (w:=[c]) (hs.skip c rest hW rj) (by simp[fF,df,lx,fJ]) (by simp[gB,df,lx,fJ]) h
theorem Sep.B1{sep:List UInt8}(hs:Sep sep){c:UInt8}(hc:Fx c=true)(r:List UInt8):Stop (sep++c::r):=by
 obtain⟨c',mU,e,hp⟩:=hs.head c r (by rcases B0 hc with rfl|rfl|rfl|rfl<;>rfl)
 intro x y h
 rw[e]at h
 cases h
 exact hp
theorem Z9{k:Nat}(h:k<10):iY (UInt8.ofNat (48+k))=true/\ml (UInt8.ofNat (48+k))=false/\kd (UInt8.ofNat (48+k))=false/\(UInt8.ofNat (48+k)).toNat=48+k:=by
 have:k=0\/k=1\/k=2\/k=3\/k=4\/k=5\/k=6\/k=7\/k=8\/k=9:=by omega
 rcases this with rfl|rfl|rfl|rfl|rfl|rfl|rfl|rfl|rfl|rfl<;>exact⟨rfl,rfl,rfl,rfl⟩
theorem tV (u:Nat):(Lib.decDigits u).all iY=true/\Lib.decDigits u≠[]:=by
 induction u using Nat.strongRecOn with
 | _ u ih=>
   rw[Lib.decDigits]
   split
   ·rename_i h
    exact⟨by rw[xG,(Z9 h).1];rfl,by simp⟩
   ·rename_i h
    obtain⟨h1,h2⟩:=ih (u/10) (by omega)
    exact⟨by rw[List.all_append,h1,xG,(Z9 (Nat.mod_lt u (by decide:0<10))).1];rfl,by simp⟩
theorem aaa{c:UInt8}(h:iY c=true):ml c=false/\kd c=false/\c.toNat≠35:=by
 simp only[iY,b8,decide_eq_true_eq]at h
 refine⟨?_,?_,by omega⟩
 ·simp only[ml,Bool.and_eq_false_iff,decide_eq_false_iff_not];omega
 ·simp only[kd,B9,beq_eq_false_iff_ne];omega
theorem Lex.J1{sep w rest:List UInt8}{ws:List (List UInt8)}(hs:Sep sep)(hw:w.all iY=true)(h0:w≠[])(cd:Stop rest)(h:Lex rest ws):Lex (sep++(w++rest)) (w::ws):=by
 cases w with
 |nil=>exact absurd rfl h0
 |cons c r=>
  have hc:iY c=true:=by rw[xG,b8]at hw;exact hw.1
  obtain⟨ai,a2,a3⟩:=aaa hc
  have hr:ke iY (c::r++rest)=(c::r).length:=Qd hw fun x y e=>by
   have hp:=cd x y e
   simp only[om,B9]at hp
   exact hp.1.2
  have af:gB (c::r++rest)=(c::r).length:=by
   rw[jz]at hr⊢
   simp only[gB,ai,hc,if_true,hr]
   rfl
  have aj:fF (c::r++rest)≠0:=by
   rw[jz]
   simp[fF,ai,hc]
  exact Lex.step (hs.skip _ _ a2 a3) aj af h
def jx (d:Int):List bH:=if d<0 then[[45],Lib.decDigits d.natAbs]else[Lib.decDigits d.toNat]
theorem aab{sep rest:List UInt8}{ws:List (List UInt8)}(hs:Sep sep)(d:Int)(cd:Stop rest)(h:Lex rest ws):Lex (sep++(Lib.itoa d++rest)) (jx d++ws):=by
 unfold Lib.itoa jx
 split
 ·have:=Lex.J1 (sep:=[]) tT (tV d.natAbs).1 (tV d.natAbs).2 cd h
  have h2:=Lex.tU (c:=45) hs rfl this
  simpa using h2
 ·exact Lex.J1 hs (tV d.toNat).1 (tV d.toNat).2 cd h
theorem aac{sep rest:List UInt8}{ws:List (List UInt8)}(hs:Sep sep)(d:Int)(cd:Stop rest)(h:Lex rest ws):Lex (Lib.joinTail sep (jx d)++rest) (jx d++ws):=by
 unfold jx
 split
 ·have:=Lex.J1 hs (tV d.natAbs).1 (tV d.natAbs).2 cd h
  have h2:=Lex.tU (c:=45) hs rfl this
  simpa[Lib.joinTail]using h2
 ·simpa[Lib.joinTail]using Lex.J1 hs (tV d.toNat).1 (tV d.toNat).2 cd h
def hS (ds:List Int):List bH:=ds.flatMap fun d=>[44]::jx d
def hU:List Int->List bH
 |[]=>[]
 |d::r=>jx d++hS r
def hv (name:bH)(ds:List Int):List bH:=name::[40]::(hU ds++[[41]])
def vX (name:bH)(ds:List Int):bH:=(name++[40]++Lib.join (ds.map Lib.itoa) [44,32])++[41]
theorem aad (sep:List UInt8)(a b:List (List UInt8)):Lib.joinTail sep (a++b)=Lib.joinTail sep a++Lib.joinTail sep b:=by simp[Lib.joinTail]
theorem apV (ds:List Int):Lex (Lib.joinTail [44,32] (ds.map Lib.itoa)++[41]) (hS ds++[[41]])/\Stop (Lib.joinTail [44,32] (ds.map Lib.itoa)++[41]):=by
 induction ds with
 |nil=>exact⟨Lex.tU tT rfl Lex.nil,tT.B1 (c:=41) rfl []⟩
 |cons d r ih=>
  obtain⟨i1,i2⟩:=ih
  have e:Lib.joinTail [44,32] ((d::r).map Lib.itoa)++[41]=[]++44::([32]++(Lib.itoa d++(Lib.joinTail [44,32] (r.map Lib.itoa)++[41]))):=by simp[Lib.joinTail]
  have aj:hS (d::r)++[[41]]=[44]::(jx d++(hS r++[[41]])):=by simp[hS]
  rw[e,aj]
  exact⟨Lex.tU tT rfl (aab Z8 d i2 i1),tT.B1 rfl _⟩
theorem apW{name:bH}{ds:List Int}(hn:vW name=true):Lex (vX name ds) (hv name ds):=by
 have e:vX name ds=name++([]++40::(Lib.join (ds.map Lib.itoa) [44,32]++[41])):=by simp[vX]
 rw[e]
 refine Lex.nm hn (tT.B1 rfl _) (Lex.tU tT rfl ?_)
 cases ds with
 |nil=>exact Lex.tU tT rfl Lex.nil
 |cons d r=>
  obtain⟨i1,i2⟩:=apV r
  have aj:Lib.join ((d::r).map Lib.itoa) [44,32]++[41]=[]++(Lib.itoa d++(Lib.joinTail [44,32] (r.map Lib.itoa)++[41])):=by rw[eo,Lib.join_cons];simp
  have bT:hU (d::r)++[[41]]=jx d++(hS r++[[41]]):=by simp[hU]
  rw[aj,bT]
  exact aab tT d i2 i1
theorem apX{sep:List UInt8}(hs:Sep sep)(ds:List Int):Lex (Lib.joinTail sep (hS ds++[[41]])) (hS ds++[[41]])/\Stop (Lib.joinTail sep (hS ds++[[41]])):=by
 induction ds with
 |nil=>
  have e:Lib.joinTail sep (hS []++[[41]])=sep++41::[]:=by simp[Lib.joinTail,hS]
  rw[e]
  exact⟨Lex.tU hs rfl Lex.nil,hs.B1 rfl _⟩
 |cons d r ih=>
  obtain⟨i1,i2⟩:=ih
  have aj:hS (d::r)++[[41]]=[44]::(jx d++(hS r++[[41]])):=by simp[hS]
  have e:Lib.joinTail sep (hS (d::r)++[[41]])=sep++44::(Lib.joinTail sep (jx d)++Lib.joinTail sep (hS r++[[41]])):=by rw[aj,<-aad];simp[Lib.joinTail]
  rw[e,aj]
  exact⟨Lex.tU hs rfl (aac hs d i2 i1),hs.B1 rfl _⟩
theorem apY{name sep:bH}{ds:List Int}(hs:Sep sep)(hn:vW name=true):Lex (Lib.join (hv name ds) sep) (hv name ds):=by
 unfold hv
 rw[Lib.join_cons]
 have e:Lib.joinTail sep ([40]::(hU ds++[[41]]))=sep++40::Lib.joinTail sep (hU ds++[[41]]):=by simp[Lib.joinTail]
 rw[e]
 refine Lex.nm hn (hs.B1 rfl _) (Lex.tU hs rfl ?_)
 cases ds with
 |nil=>
  have e:Lib.joinTail sep (hU []++[[41]])=sep++41::[]:=by simp[Lib.joinTail,hU]
  rw[e]
  exact Lex.tU hs rfl Lex.nil
 |cons d r=>
  obtain⟨i1,i2⟩:=apX hs r
  have aj:hU (d::r)++[[41]]=jx d++(hS r++[[41]]):=by simp[hU]
  rw[aj,aad]
  exact aac hs d i2 i1
end Go.Abs.bw
namespace Go.Abs.bw
open Go Go.Abs Go.Abs.Lex
theorem aae{r:List UInt8}{ws:List (List UInt8)}(h:Lex r ws):∀{k:Nat},ws.length<k->vp k r=some ws:=by
 induction h with
 |done r h=>
  intro k hk
  cases k with
  |zero=>omega
  |succ k=>simp only[vp,h,if_true]
 |more r ws h hw ih=>
  intro k hk
  cases k with
  |zero=>omega
  |succ k=>
   simp only[ev]at hk
   simp only[vp,if_neg h,ih (k:=k) (by omega),pq]
theorem zL:∀(k u:Nat),u<10^(k+1)->(Lib.decDigits u).length<=k+1
 |0,u,h=>by rw[Lib.decDigits_one (by simpa using h)];simp
 |k+1,u,h=>by
  rw[Lib.decDigits]
  split
  ·simp
  ·have:=zL k (u/10) (by rw[Nat.pow_succ]at h;omega)
   simp only[gM,ev,ja]
   omega
theorem aaf:∀(a b:List UInt8) (acc:Nat),Lib.decFrom acc (a++b)=(Lib.decFrom acc a).bind fun x=>Lib.decFrom x b
 |[],b,acc=>rfl
 |c::a,b,acc=>by
  simp only[jz,Lib.decFrom]
  split
  ·exact aaf a b _
  ·rfl
theorem aag{k:Nat}(h:k<10):Lib.digitVal (UInt8.ofNat (48+k))=some k:=by
 have:k=0\/k=1\/k=2\/k=3\/k=4\/k=5\/k=6\/k=7\/k=8\/k=9:=by omega
 rcases this with rfl|rfl|rfl|rfl|rfl|rfl|rfl|rfl|rfl|rfl<;>rfl
theorem apZ (u:Nat):Lib.decFrom 0 (Lib.decDigits u)=some u:=by
 induction u using Nat.strongRecOn with
 | _ u ih=>
   rw[Lib.decDigits]
   split
   ·rename_i h
    simp only[Lib.decFrom,aag h]
    simp
   ·rename_i h
    rw[aaf,ih (u/10) (by omega)]
    simp only[cg,Lib.decFrom,aag (Nat.mod_lt u (by decide:0<10))]
    congr 1;omega
theorem Qe (u:Nat):∃c r,Lib.decDigits u=c::r/\iY c=true:=by
 obtain⟨h1,h2⟩:=tV u
 cases h:Lib.decDigits u with
 |nil=>exact absurd h h2
 |cons c r=>
  rw[h,xG,b8]at h1
  exact⟨c,r,rfl,h1.1⟩
theorem ap0{c:UInt8}(h:iY c=true):c≠45/\c≠43:=by
 constructor<;>(rintro rfl;exact absurd h (by decide))
theorem ap1 (u:Nat):Lib.atoi (Lib.decDigits u)=some (u:Int):=by
 have hd:=apZ u
 obtain⟨c,r,e,hc⟩:=Qe u
 rw[e]at hd⊢
 obtain⟨h1,h2⟩:=ap0 hc
 simp only[Lib.atoi,beq_eq_false_iff_ne.2 h1,beq_eq_false_iff_ne.2 h2,Lib.decNat,List.isEmpty_cons,hd]
 rfl
theorem Fy{u:Nat}(h:u<100000):kindOf (Lib.decDigits u)=3:=by
 have hl:=zL 4 u (by simpa using h)
 obtain⟨h1,-⟩:=tV u
 obtain⟨c,r,e,hc⟩:=Qe u
 rw[e]at h1 hl⊢
 obtain⟨ai,a2,a3⟩:=aaa hc
 have hr:ke iY (c::r)=(c::r).length:=by
  have:=Qd (p:=iY) (w:=c::r) (rest:=[]) h1 fun x y e=>by cases e
  simpa using this
 have t0:eW (c::r) 0=0:=by simp[eW,eU,a2,a3]
 have t1:iI (c::r) 0=(c::r).length:=by
  unfold iI
  rw[t0]
  simp[gB,ai,hc,hr]
 unfold kindOf
 rw[if_neg (by simp only[ev]at hl⊢; simp;omega),if_pos ⟨t0,t1⟩]
 simp[fF,ai,hc]
theorem J2{u:Nat}(h:u<=9999):A6 (Lib.decDigits u)=some ((u:Int),true):=by
 unfold A6
 rw[if_pos ⟨zL 3 u (by simp;omega),Fy (by omega)⟩,ap1]
 rfl
theorem aah (u:Nat):(Lib.decDigits u==[45])=false:=by
 obtain⟨c,r,e,hc⟩:=Qe u
 rw[e,beq_eq_false_iff_ne]
 intro h
 cases h
 exact absurd hc (by decide)
theorem J3{α:Type}(a:α)(l:List α):o8 (.mk (a::l)) 1 (ak.mk (a::l)).len=some (.mk l):=by
 show(if(0:Int)<=1/\(1:Int)<=((a::l).length:Int)/\((a::l).length:Int)<=((a::l).length:Int)then some (ak.mk (((a::l).take ((a::l).length:Int).toNat).drop (1:Int).toNat))else none)=_
 rw[if_pos ⟨by decide,by simp only[ev];omega,zY _⟩]
 simp
theorem J4{out:ak Int}(ho:out.l.length<=100)(x:Int):lG 8 out (.mk [x])=some (.mk (out.l++[x])):=by
 have h:((out.l.length+([x]:List Int).length)*(8+1)<=2^40):=by simp only[ev,ja];omega
 unfold lG
 exact(if_neg (List.cons_ne_nil x [])).trans (if_pos h)
theorem J5{α:Type}(a:α)(l:List α):decide ((ak.mk (a::l)).len>0)=true:=decide_eq_true (by show(0:Int)<((a::l).length:Int);simp only[ev];omega)
theorem J6{α:Type}(a:α)(l:List α):((ak.mk (a::l)).len==0)=false:=by
 show((((a::l).length:Nat):Int)==0)=false
 rw[beq_eq_false_iff_ne];simp only[ev];omega
theorem J7{α:Type}(a:α)(l:List α):bQ (ak.mk (a::l)).l 0=some a:=rfl
def rn (ds:List Int):Prop:=∀d∈ds,-9999<=d/\d<=9999
theorem ap2{d:Int}(hd:-9999<=d/\d<=9999)(r:List bH){fits:Bool}:sk (.mk (jx d++r),fits,.nil)=some (.next (.mk r,(fits&&true),.mk [d])):=by
 unfold jx
 split
 ·have e:bJ (-1*((d.natAbs:Nat):Int))=d:=by rw[iN (by omega) (by omega)];omega
  simp only[jz,jB,sk,J5,cond_true,show decide ((ak.nil:ak Int).len>0)=false from rfl,cond_false,cg,J7,show(([45]:List UInt8)==[45])=true from rfl,J6,pU,Fy (u:=d.natAbs) (by omega),J2 (u:=d.natAbs) (by omega),e,J3,
   J4 (out:=ak.nil) (by decide),show((((3:Nat):Int)) != 3)=false from rfl]
  rfl
 ·have e:bJ (1*((d.toNat:Nat):Int))=d:=by rw[iN (by omega) (by omega)];omega
  simp only[jz,jB,sk,J5,cond_true,show decide ((ak.nil:ak Int).len>0)=false from rfl,cond_false,cg,J7,aah,J6,pU,Fy (u:=d.toNat) (by omega),J2 (u:=d.toNat) (by omega),e,J3,
   J4 (out:=ak.nil) (by decide),show((((3:Nat):Int)) != 3)=false from rfl]
  rfl
theorem ap3{d:Int}(hd:-9999<=d/\d<=9999)(r:List bH){out:List Int}(hn:out≠[])(ho:out.length<=100){fits:Bool}:sk (.mk ([44]::(jx d++r)),fits,.mk out)=some (.next (.mk r,(fits&&true),.mk (out++[d]))):=by
 have c4:decide ((ak.mk out).len>0)=true:=decide_eq_true (by
  have:=List.length_pos_iff.2 hn
  show(0:Int)<(out.length:Int);omega)
 unfold jx
 split
 ·have e:bJ (-1*((d.natAbs:Nat):Int))=d:=by rw[iN (by omega) (by omega)];omega
  simp only[jz,jB,sk,J5,c4,cond_true,show(([44]:List UInt8) != [44])=false from rfl,cond_false,cg,J7,show(([45]:List UInt8)==[45])=true from rfl,J6,pU,Fy (u:=d.natAbs) (by omega),J2 (u:=d.natAbs) (by omega),e,J3,
   J4 (out:=ak.mk out) ho,show((((3:Nat):Int)) != 3)=false from rfl]
  rfl
 ·have e:bJ (1*((d.toNat:Nat):Int))=d:=by rw[iN (by omega) (by omega)];omega
  simp only[jz,jB,sk,J5,c4,cond_true,show(([44]:List UInt8) != [44])=false from rfl,cond_false,cg,J7,aah,J6,pU,Fy (u:=d.toNat) (by omega),J2 (u:=d.toNat) (by omega),e,J3,
   J4 (out:=ak.mk out) ho,show((((3:Nat):Int)) != 3)=false from rfl]
  rfl
theorem aai:∀(ds:List Int),rn ds->∀(out:List Int),out≠[]->out.length+ds.length<=100->c0 sk (.mk (hS ds),true,.mk out)=some (.go (true,.mk (out++ds)))
 |[],_,out,hn,_=>by
  rw[k4]
  simp only[hS,List.flatMap_nil,sk,rz]
  rfl
 |d::ds,h,out,hn,hl=>by
  have hd:=h d (by simp)
  simp only[ev]at hl
  rw[k4,show hS (d::ds)=[44]::(jx d++hS ds) by simp[hS],ap3 hd _ hn (by omega)]
  simp only[xH]
  rw[aai ds (fun x hx=>h x (by simp[hx])) (out++[d]) (by simp) (by simp only[gM,ev,ja];omega),mS]
  rfl
theorem ap4 (ds:List Int)(h:rn ds)(hl:ds.length<=100):Bn (.mk (hU ds))=some (if ds=[]then .nil else .mk ds,true,true):=by
 unfold Bn
 cases ds with
 |nil=>rw[k4];rfl
 |cons d ds=>
  have hd:=h d (by simp)
  simp only[ev]at hl
  rw[k4,show hU (d::ds)=jx d++hS ds from rfl,ap2 hd]
  simp only[xH]
  rw[aai ds (fun x hx=>h x (by simp[hx])) [d] (by simp) (by simp only[ev,ja];omega)]
  rfl
end Go.Abs.bw
namespace Go.Abs.bw
open Go Go.Abs Go.Abs.Lex
theorem aaj{sep:List UInt8}{B:Nat}:∀{ws:List (List UInt8)},(∀w∈ws,w.length<=B)->(Lib.joinTail sep ws).length<=ws.length*(sep.length+B)
 |[],_=>by simp[Lib.joinTail]
 |w::ws,h=>by
  have h1:=h w (by simp)
  have h2:=aaj (sep:=sep) (ws:=ws) fun x hx=>h x (by simp[hx])
  have e:Lib.joinTail sep (w::ws)=sep++w++Lib.joinTail sep ws:=by simp[Lib.joinTail]
  rw[e]
  simp only[gM,ev,rC,Nat.one_mul]
  omega
theorem aak{sep:List UInt8}{B:Nat}{ws:List (List UInt8)}(h:∀w∈ws,w.length<=B):(Lib.join ws sep).length<=ws.length*(sep.length+B):=by
 cases ws with
 |nil=>simp[Lib.join]
 |cons w ws=>
  have h1:=h w (by simp)
  have h2:=aaj (sep:=sep) (ws:=ws) fun x hx=>h x (by simp[hx])
  rw[Lib.join_cons]
  simp only[gM,ev,rC,Nat.one_mul]
  omega
theorem ap5{out:ak bH}(ho:out.l.length<=100)(x:bH):lG 16 out (.mk [x])=some (.mk (out.l++[x])):=by
 have h:((out.l.length+([x]:List bH).length)*(16+1)<=2^40):=by simp only[ev,ja];omega
 unfold lG
 exact(if_neg (List.cons_ne_nil x [])).trans (if_pos h)
def qo (ds:List Int):List bH:=ds.map Lib.itoa
def rp (ds:List Int):ak bH:=if ds=[]then .nil else .mk (qo ds)
theorem aal (ds:List Int):(rp ds).l=qo ds:=by
 unfold rp
 split
 ·rename_i h;subst h;rfl
 ·rfl
theorem ap6{d:Int}(h:-9999<=d/\d<=9999):strconv_Itoa d=some (Lib.itoa d):=by
 unfold strconv_Itoa
 rw[if_pos (by omega)]
theorem ap7{d:Int}(h:-9999<=d/\d<=9999):(Lib.itoa d).length<=5:=by
 unfold Lib.itoa
 split
 ·have:=zL 3 d.natAbs (by simp;omega)
  simp only[ev];omega
 ·have:=zL 3 d.toNat (by simp;omega)
  omega
theorem Qf{ds:List Int}(h:rn ds):(Lib.join (qo ds) [44,32]).length<=ds.length*7:=by
 have h1:=aak (sep:=[44,32]) (B:=5) (ws:=qo ds) fun w hw=>by
  obtain⟨d,hd,rfl⟩:=ey.1 hw;exact ap7 (h d hd)
 have h2:(qo ds).length=ds.length:=by simp[qo]
 rw[h2]at h1
 simpa using h1
theorem ap8 (a:Action)(aW:rn a.bL.l)(hl:a.bL.l.length<=6){k:Nat}(hk:k<a.bL.l.length):
  Eg a ((k:Int),rp (a.bL.l.take k))=some (.next (((k+1:Nat):Int),rp (a.bL.l.take (k+1)))):=by
 have hd:=aW a.bL.l[k] (Kp hk)
 have af:decide ((k:Int)<a.bL.len)=true:=decide_eq_true (by show(k:Int)<(a.bL.l.length:Int);omega)
 have aj:bQ a.bL.l (k:Int)=some a.bL.l[k]:=by rw[fP,hX hk]
 have bT:(rp (a.bL.l.take k)).l.length<=100:=by
  rw[aal];unfold qo;rw[oG,sM];omega
 simp only[Eg,af,cond_true,aj,cg,ap6 hd,ap5 bT,aal]
 have cF:rp (a.bL.l.take (k+1))=.mk (qo (a.bL.l.take k)++[Lib.itoa a.bL.l[k]]):=by
  unfold rp
  rw[if_neg fun h=>by
   have:=congrArg List.length h
   rw[sM]at this
   simp only[ja]at this
   omega,zS,hX hk]
  unfold qo
  rw[nW]
  rfl
 rw[cF,iN (by omega) (by omega)]
 rfl
theorem aam (a:Action)(aW:rn a.bL.l)(hl:a.bL.l.length<=6):∀(n k:Nat),k+n=a.bL.l.length->c0 (Eg a) ((k:Int),rp (a.bL.l.take k))=some (rp a.bL.l)
 |0,k,h=>by
  have af:decide ((k:Int)<a.bL.len)=false:=decide_eq_false (by show ¬(k:Int)<(a.bL.l.length:Int);omega)
  rw[k4]
  simp only[Eg,af,cond_false]
  rw[B5 (by omega)]
 |n+1,k,h=>by
  rw[k4,ap8 a aW hl (by omega)]
  exact aam a aW hl n (k+1) (by omega)
theorem ap9{ds:List Int}(aW:rn ds)(hl:ds.length<=6):strings_Join (rp ds) [44,32]=some (Lib.join (qo ds) [44,32]):=by
 unfold rp
 split
 ·rename_i h;subst h;rfl
 ·rename_i h
  have h1:=Qf aW
  have h2:(qo ds).length=ds.length:=by simp[qo]
  unfold strings_Join
  simp only[]
  rw[if_pos ⟨by intro fj;rw[fj]at h2;cases ds<;>simp_all,by omega,by omega⟩]
theorem aqa{name:bH}{ds:List Int}(aW:rn ds)(hn:name.length<=40)(hl:ds.length<=6):(vX name ds).length<=100:=by
 have h1:=Qf aW
 unfold vX
 unfold qo at h1
 simp only[gM,ev,ja]
 omega
theorem aqb{m:Model}(hV:ou m=some true){k:Nat}{a:Action}{o:cl}(ao:m.Actions.l[k]? =some a)(h0:0<=a.cl)(ho:m.Operations.l[a.cl.toNat]? =some o)(aW:rn a.bL.l)(hl:a.bL.l.length<=6)(hn:o.Name.length<=40):
  w6 m (k:Int)=some (vX o.Name a.bL.l):=by
 have hk:k<m.Actions.l.length:=(e2.1 ao).1
 have dI:kg (k:Int) m.Actions.len=some true:=by
  unfold kg
  rw[show decide ((k:Int)>=0)=true from decide_eq_true (by omega),show decide ((k:Int)<m.Actions.len)=true from decide_eq_true (by show(k:Int)<(m.Actions.l.length:Int);omega)]
  rfl
 have af:bQ m.Actions.l (k:Int)=some a:=by rw[fP];exact ao
 have aj:=aam a aW hl a.bL.l.length 0 (by omega)
 have bT:bQ m.Operations.l a.cl=some o:=YF h0 ho
 have hj:=Qf aW
 unfold w6
 simp only[hV,cg,cond_true,dI,hZ,cond_false,af]
 rw[show((0:Int),(ak.nil:ak bH))=(((0:Nat):Int),rp (a.bL.l.take 0))from rfl,aj]
 simp only[cg,bT,ap9 aW hl]
 simp only[vg]
 rw[if_pos (by simp only[ev,ja];omega)]
 simp only[cg]
 rw[if_pos (by simp only[gM,ev,ja];omega)]
 simp only[cg]
 rw[if_pos (by simp only[gM,ev,ja];omega)]
 rfl
end Go.Abs.bw
namespace Go.Abs.bw
open Go Go.Abs
theorem aan:∀l:List Int,lM l l=false
 |[]=>rfl
 |x::r=>by simp[lM,aan r]
theorem aao:∀{a b c:List Int},lM a b=true->lM b c=true->lM a c=true
 | _,_,[],_,h=>by rw[PA]at h;cases h
 | _,[],_::_,h,_=>by rw[PA]at h;cases h
 |[],_::_,_::_,_,_=>rfl
 |x::r,y::s,z::t,h1,h2=>by
  simp only[lM]at h1 h2⊢
  by_cases af:x=y
  ·subst af
   by_cases aj:x=z
   ·subst aj
    simp only[BEq.rfl,cond_true]at h1 h2⊢
    exact aao h1 h2
   ·rw[show(x==z)=false from by simpa using aj]at h2⊢; exact h2
  ·rw[show(x==y)=false from by simpa using af]at h1
   simp only[cond_false,decide_eq_true_eq]at h1
   by_cases aj:y=z
   ·subst aj
    rw[show(x==y)=false from by simpa using af]
    simpa using h1
   ·rw[show(y==z)=false from by simpa using aj]at h2
    simp only[cond_false,decide_eq_true_eq]at h2
    rw[show(x==z)=false from by simp;omega]
    simp;omega
def Fz (a b:Action):Prop:=a.cl<b.cl\/a.cl=b.cl/\lM a.bL.l b.bL.l=true
theorem aqc{a b c:Action}(h1:Fz a b)(h2:Fz b c):Fz a c:=by
 rcases h1 with h1|⟨h1,q1⟩<;>rcases h2 with h2|⟨h2,aS⟩
 ·exact .inl (by omega)
 ·exact .inl (by omega)
 ·exact .inl (by omega)
 ·exact .inr ⟨by omega,aao q1 aS⟩
theorem aap{gV:List Action}{k:Nat}{a b:Action}(h:tP gV (k+1) a=true)(hb:gV[k]? =some b):Fz b a:=by
 simp only[tP,hb,b8,nV,decide_eq_false_iff_not]at h
 obtain⟨h1,h2⟩:=h
 by_cases e:b.cl=a.cl
 ·rw[show(b.cl==a.cl)=true from by simpa using e]at h2
  exact .inr ⟨e,h2⟩
 ·exact .inl (by omega)
theorem aaq{gV:List Action}(h:∀k a,gV[k]? =some a->tP gV k a=true):∀(d j:Nat) (a b:Action),gV[j]? =some a->gV[j+d+1]? =some b->Fz a b
 |0,j,a,b,ao,hb=>aap (h _ _ hb) ao
 |d+1,j,a,b,ao,hb=>by
  have aX:=(e2.1 hb).1
  have hc:=hX (l:=gV) (i:=j+d+1) (by omega)
  exact aqc (aaq h d j a _ ao hc) (aap (h _ _ hb) hc)
theorem aar{s:List Int}{ts:List Table}{n:Int}{ops:List cl}{gV:List Action}(h:zA s ts n ops gV=true):∀k a,gV[k]? =some a->xp s ts n ops gV k a=true:=by
 unfold zA at h
 rw[b8]at h
 exact E4.1 h.2
theorem aas{s:List Int}{ts:List Table}{n:Int}{ops:List cl}{gV:List Action}{k:Nat}{a:Action}(h:xp s ts n ops gV k a=true):
  0<=a.cl/\∃o,ops[a.cl.toNat]? =some o/\a.bL.l.length=o.bC.l.length/\allI (tO s a.bL.l) o.bC.l=true/\tP gV k a=true:=by
 unfold xp at h
 rw[b8]at h
 obtain⟨h0,h⟩:=h
 rw[b8,decide_eq_true_eq,decide_eq_true_eq]at h0
 split at h
 ·rename_i o ho
  simp only[b8,beq_iff_eq]at h
  exact⟨h0.1,o,ho,h.1,h.2.1,h.2.2.1⟩
 ·cases h
theorem aqd{s:List Int}(h:oD s=true)(x:Int):hP s x<=6:=by
 unfold hP
 cases e:s[x.toNat]? with
 |none=>simp
 |some y=>
  have:=eV.1 h y (hz e)
  simp only[b8,decide_eq_true_eq]at this
  simpa using this.2
theorem aqe{s:List Int}(hs:oD s=true){args FA:List Int}(hl:args.length=FA.length)(h:allI (tO s args) FA=true):∀d∈args,-9999<=d/\d<=9999:=fun d hd=>by
 obtain⟨k,hk⟩:=QH hd
 have aX:k<args.length:=(e2.1 hk).1
 have h1:=E4.1 h k FA[k] (hX (by omega))
 unfold tO at h1
 rw[JP hk]at h1
 cases hb:decide (FA[k]<0)with
 |true=>
  rw[hb,cond_true]at h1
  unfold tN at h1
  simp only[b8,decide_eq_true_eq]at h1
  omega
 |false=>
  rw[hb,cond_false]at h1
  simp only[b8,decide_eq_true_eq]at h1
  have:=aqd hs FA[k]
  omega
end Go.Abs.bw
namespace Go.Abs.bw
open Go Go.Abs Go.Abs.Lex
theorem aqf{a b:ak Int}(hl:cm a.l):Iz a b=some (a.l==b.l):=by
 unfold Iz
 rw[Za]
 by_cases hn:a.l.length=b.l.length
 ·rw[show(!(a.l.length==b.l.length))=false by simp[hn],cond_false]
  have h:=Pp (R:=Unit) (f:=Iy a b) a.l hl (fun k x=>x != b.l.getD k 0) (fun k x hx=>by
   have aX:=(e2.1 hx).1
   have af:decide ((k:Int)<a.len)=true:=decide_eq_true (by show(k:Int)<(a.l.length:Int);omega)
   have aj:b.l[k]? =some (b.l.getD k 0):=by
    rw[tY,hX (by omega)];rfl
   simp only[Iy,af,cond_true,fP,hx,aj,cg]
   cases x != b.l.getD k 0<;>rfl)
   (by
     have af:decide ((a.l.length:Int)<a.len)=false:=decide_eq_false (by show ¬(a.l.length:Int)<(a.l.length:Int);omega)
     simp only[Iy,af,cond_false])
  rw[h]
  have key:(a.l.zipIdx.any fun p=>p.1 != b.l.getD p.2 0)=!(a.l==b.l):=by
   rw[zU,ry,nV,beq_eq_false_iff_ne]
   constructor
   ·rintro⟨⟨x,k⟩,hp,hx⟩ he
    rw[ie]at hp
    simp only at hp hx
    rw[he]at hp
    rw[tY,hp]at hx
    simp at hx
   ·intro bf
    refine QE fun jN=>bf (wg fun k=> ?_)
    rcases fX k a.l.length with hk|hk
    ·have h1:a.l[k]? =some a.l[k]:=hX hk
     have h2:b.l[k]? =some b.l[k]:=hX (by omega)
     rw[h1,h2]
     refine congrArg some (QE fun hx=>jN ⟨(a.l[k],k),ie.2 h1,?_⟩)
     simp only[tY,h2,sO,bne_iff_ne]
     exact hx
    ·rw[lb hk,lb (by omega)]
  rw[key]
  cases a.l==b.l<;>rfl
 ·rw[show(!(a.l.length==b.l.length))=true by simp[hn],cond_true]
  rw[show(a.l==b.l)=false from by rw[beq_eq_false_iff_ne];intro h;exact hn (by rw[h])]
theorem aat{α:Type}{xs:List α}{p:α->Bool}{k:Nat}{x:α}(hk:xs[k]? =some x)(hp:p x=true)(hb:∀j y,j<k->xs[j]? =some y->p y=false):xs.findIdx? p=some k:=by
 obtain⟨aX,he⟩:=e2.1 hk
 rw[List.findIdx?_eq_some_iff_getElem]
 refine⟨aX,by rw[he];exact hp,fun j hj=> ?_⟩
 have:=hb j xs[j] hj (hX (by omega))
 rw[this];simp
theorem aqg (ds:List Int):(hS ds).length<=3*ds.length:=by
 induction ds with
 |nil=>simp[hS]
 |cons d r ih=>
  have e:hS (d::r)=[44]::(jx d++hS r):=by simp[hS]
  have h:(jx d).length<=2:=by unfold jx;split<;>simp
  rw[e]
  simp only[ev,gM]
  omega
theorem aau (ds:List Int):(hU ds).length<=3*ds.length:=by
 cases ds with
 |nil=>simp[hU]
 |cons d r=>
  have h:=aqg r
  have h2:(jx d).length<=2:=by unfold jx;split<;>simp
  simp only[hU,gM,ev]
  omega
theorem aav{m:Model}(hV:ou m=some true)(aC:cm m.Operations.l)(hA:cm m.Actions.l){s:bH}{k:Nat}{a:Action}{o:cl}(ao:m.Actions.l[k]? =some a)(h0:0<=a.cl)(aW:rn a.bL.l)(hl:a.bL.l.length<=6)(hn:vW o.Name=true)
  (c4:m.Operations.l.findIdx? (fun z=>z.Name==o.Name)=some a.cl.toNat) (x3:m.Actions.l.findIdx? (fun z=>z.cl==a.cl&&z.bL.l==a.bL.l)=some k) (J8:∀z∈m.Actions.l,cm z.bL.l)
  (hw:Lex s (hv o.Name a.bL.l)) (hs:s.length<=4096):Ej m s=some ((k:Int),0):=by
 have hd:=aau a.bL.l
 have hG:(hv o.Name a.bL.l).length=(hU a.bL.l).length+3:=by simp[hv]
 have af:tt s=some (.mk (hv o.Name a.bL.l)):=by
  unfold tt
  rw[if_pos hs,aae hw (by omega),pq,if_neg (by unfold hv;simp)]
 have hlen:(ak.mk (hv o.Name a.bL.l)).len=((hU a.bL.l).length:Int)+3:=by
  show((hv o.Name a.bL.l).length:Int)=_
  rw[hG];rfl
 have kC:pU o.Name=some 1:=by
  unfold vW at hn
  rw[b8,decide_eq_true_eq,decide_eq_true_eq]at hn
  unfold pU;rw[hn.2];rfl
 have PY:bJ (((hU a.bL.l).length:Int)+3-1)=((hU a.bL.l).length+2:Nat):=by rw[iN (by omega) (by omega)];omega
 have aqh:bQ (ak.mk (hv o.Name a.bL.l)).l (((hU a.bL.l).length+2:Nat):Int)=some [41]:=by
  rw[fP]
  show(o.Name::[40]::(hU a.bL.l++[[41]]))[(hU a.bL.l).length+2]? =some [41]
  simp
 have uY:o8 (.mk (hv o.Name a.bL.l)) 2 (((hU a.bL.l).length+2:Nat):Int)=some (.mk (hU a.bL.l)):=by
  show(if(0:Int)<=2/\(2:Int)<=(((hU a.bL.l).length+2:Nat):Int)/\(((hU a.bL.l).length+2:Nat):Int)<=((hv o.Name a.bL.l).length:Int)then some (ak.mk (((hv o.Name a.bL.l).take ((((hU a.bL.l).length+2:Nat):Int)).toNat).drop (2:Int).toNat))else none)=_
  rw[if_pos ⟨by decide,by omega,by rw[hG];omega⟩]
  show some (ak.mk (((hv o.Name a.bL.l).take ((hU a.bL.l).length+2)).drop 2))=_
  unfold hv
  rw[Kj,Kj,QI,QI,List.drop_zero,List.take_left]
 have hi:=ap4 a.bL.l aW (by omega)
 have aqi:Iv m.Operations (fun z0=>Iw (.mk (hv o.Name a.bL.l)) z0)=some a.cl:=by
  unfold Iv
  have h:=Pq m.Operations aC (f:=fun z0=>Iw (.mk (hv o.Name a.bL.l)) z0) (p:=fun z=>z.Name==o.Name) (fun z _=>rfl)
  rw[c4]at h
  unfold WC
  rw[h]
  show some ((a.cl.toNat:Nat):Int)=_
  rw[Int.toNat_of_nonneg h0]
 have aqj:∀l:ak Int,l.l=a.bL.l->Ix m.Actions (fun z0=>Ei a.cl l z0)=some (k:Int):=fun l el=>by
  unfold Ix
  have h:=Pq m.Actions hA (f:=fun z0=>Ei a.cl l z0) (p:=fun z=>z.cl==a.cl&&z.bL.l==a.bL.l) (fun z aT=>by
   unfold Ei
   cases z.cl==a.cl with
   |false=>rfl
   |true=>
    rw[cond_true,aqf (J8 z aT),el]
    rfl)
  rw[x3]at h
  unfold WD
  rw[h]
  rfl
 have hx:(if a.bL.l=[]then(ak.nil:ak Int)else .mk a.bL.l).l=a.bL.l:=by
  split
  ·rename_i h;rw[h];rfl
  ·rfl
 unfold Ej
 simp only[hV,cg,cond_true,af,hlen]
 rw[show decide (((hU a.bL.l).length:Int)+3<3)=false from decide_eq_false (by omega)]
 simp only[cond_false,show bQ (ak.mk (hv o.Name a.bL.l)).l 0=some o.Name from rfl,cg,kC,show(((1:Int)) != 1)=false from rfl,show bQ (ak.mk (hv o.Name a.bL.l)).l 1=some [40]from rfl,show(([40]:List UInt8) != [40])=false from rfl,PY,aqh,
  show(([41]:List UInt8) != [41])=false from rfl,uY,hi,cond_true,aqi,aqj _ hx]
 rw[show decide (a.cl<0)=false from decide_eq_false (by omega),show decide (((k:Nat):Int)<0)=false from decide_eq_false (by omega)]
 rfl
end Go.Abs.bw
namespace Go.Abs.bw
open Go Go.Abs Go.Abs.Lex
theorem Qg{m:Model}(h:vT m=true):mu m.bC.l m.Tables.l=true/\zz m.bC.l.length m.Operations.l=true/\zA m.bC.l m.Tables.l (hQ m.bC.l m.Tables.l true).length m.Operations.l m.Actions.l=true:=by
 unfold vT at h
 simp only[b8]at h
 exact⟨h.1,h.2.2.2.2.1,h.2.2.2.2.2.1⟩
theorem aqk{ops:List cl}(h:BQ (ops.map cl.Name)=true){i:Nat}{o:cl}(ho:ops[i]? =some o):tM o.Name=true/\ops.findIdx? (fun z=>z.Name==o.Name)=some i:=by
 have h1:=E4.1 h i o.Name (by rw[jy,ho];rfl)
 unfold BP at h1
 rw[b8,nV,QR]at h1
 refine⟨h1.1,aat ho (by simp) fun j y hj hy=> ?_⟩
 cases e:y.Name==o.Name with
 |false=>rfl
 |true=>exact absurd e (h1.2 y.Name (hz (i:=j) (by rw[List.getElem?_take_of_lt hj,jy,hy];rfl)))
theorem aql{gV:List Action}(h:∀k a,gV[k]? =some a->tP gV k a=true){k:Nat}{a:Action}(ao:gV[k]? =some a):gV.findIdx? (fun z=>z.cl==a.cl&&z.bL.l==a.bL.l)=some k:=by
 refine aat ao (by simp) fun j y hj hy=> ?_
 cases e:(y.cl==a.cl&&y.bL.l==a.bL.l)with
 |false=>rfl
 |true=>
  exfalso
  rw[b8,beq_iff_eq,beq_iff_eq]at e
  have:=aaq h (k-j-1) j y a hy (by rw[show j+(k-j-1)+1=k by omega];exact ao)
  rcases this with q|⟨-,q⟩
  ·omega
  ·rw[e.2,aan]at q;cases q
theorem aaw{d:Int}(h:-9999<=d/\d<=9999):∀w∈jx d,w.length<=40:=fun w hw=>by
 unfold jx at hw
 split at hw
 ·have:=zL 3 d.natAbs (by simp;omega)
  simp only[dA,sP,or_false]at hw
  rcases hw with rfl|rfl
  ·simp
  ·omega
 ·have:=zL 3 d.toNat (by simp;omega)
  simp only[dA,sP,or_false]at hw
  subst hw;omega
theorem aqm{name:bH}{ds:List Int}(aW:rn ds)(hn:name.length<=40):∀w∈hv name ds,w.length<=40:=by
 have ht:∀r:List Int,rn r->∀w∈hS r,w.length<=40:=fun r hr w hw=>by
  unfold hS at hw
  rw[Cd]at hw
  obtain⟨d,hd,hw⟩:=hw
  rcases dA.1 hw with rfl|hw
  ·simp
  ·exact aaw (hr d hd) w hw
 intro w hw
 unfold hv at hw
 simp only[dA,jA,sP,or_false]at hw
 rcases hw with rfl|rfl|hw|rfl
 ·exact hn
 ·simp
 ·cases ds with
  |nil=>cases hw
  |cons d r=>
   simp only[hU,jA]at hw
   rcases hw with hw|hw
   ·exact aaw (aW d (by simp)) w hw
   ·exact ht r (fun x hx=>aW x (by simp[hx])) w hw
 ·simp
theorem aqn{b0:Int}(hb:0<=b0/\b0<=255):∃sep:bH,bQ (ak.mk [([]:bH),[32],[10],[35,10]]).l ((bJ b0).tmod 4)=some sep/\Sep sep/\sep.length<=2:=by
 rw[iN (by omega) (by omega),aa0 hb.1]
 have:b0%4=0\/b0%4=1\/b0%4=2\/b0%4=3:=by omega
 rcases this with h|h|h|h<;>rw[h]
 ·exact⟨_,rfl,tT,by decide⟩
 ·exact⟨_,rfl,Z8,by decide⟩
 ·exact⟨_,rfl,apQ,by decide⟩
 ·exact⟨_,rfl,apR,by decide⟩
theorem aqo{m:Model}(b:BU m)(ad:vT m=true){b0:Int}(hb:0<=b0/\b0<=255){k:Nat}(hk:k<m.Actions.l.length):Bo m b0 (k:Int)=some (.next (bJ ((k:Int)+1))):=by
 have hV:ou m=some true:=by rw[Fq b,ad]
 obtain⟨v1,v2,v3⟩:=Qg ad
 obtain⟨-,-,dJ,-⟩:=BM v1
 obtain⟨a,ao⟩:∃a,m.Actions.l[k]? =some a:=⟨_,hX hk⟩
 obtain⟨h0,o,ho,hlen,vG,-⟩:=aas (aar v3 k a ao)
 have mH:∀k a,m.Actions.l[k]? =some a->tP m.Actions.l k a=true:=fun k a h=>by
  obtain⟨-,-,-,-,-,h1⟩:=aas (aar v3 k a h)
  exact h1
 have aW:rn a.bL.l:=aqe dJ hlen vG
 have hl:a.bL.l.length<=6:=(b.act a (hz ao)).1
 unfold zz at v2
 simp only[b8]at v2
 obtain⟨lk,Gv⟩:=aqk v2.2.2 ho
 rw[apP]at lk
 have Qh:o.Name.length<=40:=(b.op o (hz ho)).1
 have aC:cm m.Operations.l:=by have:=b.ops;unfold cm;omega
 have hA:cm m.Actions.l:=by have:=b.gV;unfold cm;omega
 have J8:∀z∈m.Actions.l,cm z.bL.l:=fun z aT=>by have:=(b.act z aT).1;unfold cm;omega
 have x3:=aql mH ao
 have cZ:=aqb hV ao h0 ho aW hl Qh
 have df:=apW (name:=o.Name) (ds:=a.bL.l) lk
 have kA:=aqa aW Qh hl
 have aqp:=aav hV aC hA ao h0 aW hl lk Gv x3 J8 df (by omega)
 have kW:=aau a.bL.l
 have hG:(hv o.Name a.bL.l).length=(hU a.bL.l).length+3:=by simp[hv]
 have hW:tt (vX o.Name a.bL.l)=some (.mk (hv o.Name a.bL.l)):=by
  unfold tt
  rw[if_pos (by omega),aae df (by omega),pq,if_neg (by unfold hv;simp)]
 obtain⟨sep,s1,s2,dL⟩:=aqn hb
 have mF:=aak (sep:=sep) (B:=40) (aqm aW Qh)
 have auo:(Lib.join (hv o.Name a.bL.l) sep).length<=21*42:=cV mF (Nat.mul_le_mul (by omega) (by omega))
 have iM:strings_Join (.mk (hv o.Name a.bL.l)) sep=some (Lib.join (hv o.Name a.bL.l) sep):=by
  unfold strings_Join
  simp only[]
  rw[if_pos ⟨by unfold hv;simp,by omega,by omega⟩]
 have PT:=aav hV aC hA ao h0 aW hl lk Gv x3 J8 (apY s2 lk) (by omega)
 have af:decide ((k:Int)<m.Actions.len)=true:=decide_eq_true (by show(k:Int)<(m.Actions.l.length:Int);omega)
 have bf:(vX o.Name a.bL.l==[])=false:=by
  rw[beq_eq_false_iff_ne];unfold vX;simp
 simp only[Bo,af,cond_true,cZ,cg,aqp,hW,s1,iM,PT,bf,bne_self_eq_false,FU,cond_false]
theorem aqq{m:Model}(b:BU m)(ad:vT m=true){b0:Int}(hb:0<=b0/\b0<=255):(c0 (Bo m b0) 0:Option (cP Unit Unit))=some (.go ()):=by
 have hA:cm m.Actions.l:=by have:=b.gV;unfold cm;omega
 have h:=Pp (R:=Unit) (f:=Bo m b0) m.Actions.l hA (fun _ _=>false) (fun k x hx=>aqo b ad hb (e2.1 hx).1) (by
  have af:decide ((m.Actions.l.length:Int)<m.Actions.len)=false:=decide_eq_false (by show ¬(m.Actions.l.length:Int)<(m.Actions.l.length:Int);omega)
  simp only[Bo,af,cond_false])
 rw[h]
 have:(m.Actions.l.zipIdx.any fun _=>false)=false:=by simp
 rw[this];rfl
end Go.Abs.bw
namespace Go.Abs.bw
open Go Go.Abs Go.Abs.Lex
def lO (s:List Int)(a:Int × Int)(t:Table):Int × Int:=bif kP t then(a.1+wid s t.bP.l,a.2)else(a.1,a.2+wid s t.bP.l)
theorem aax{s:List Int}{ts:List Table}:∀(l:List Table) (k:Nat) (a p:Int × Int),kO (rf s ts) some k a l=some p->∀j t,l[j]? =some t->t.dG=bif kP t then((l.take j).foldl (lO s) a).1 else((l.take j).foldl (lO s) a).2
 |[],_,_,_,_,j,t,h=>by simp at h
 |x::r,k,a,p,h,j,t,ht=>by
  simp only[kO]at h
  have key:rf s ts k a x=.inr none\/(rf s ts k a x=.inl (lO s a x)/\x.dG=bif kP x then a.1 else a.2):=by
   unfold rf lO
   cases np s x&&!(oF ts k x.Name)with
   |false=>exact .inl rfl
   |true=>
    cases kP x with
    |true=>
     cases hc:x.dG==a.1 with
     |false=>left;simp[hc]
     |true=>right;simp at hc;simp[hc]
    |false=>
     cases hc:x.dG==a.2 with
     |false=>left;simp[hc]
     |true=>right;simp at hc;simp[hc]
  rcases key with e|⟨e,aj⟩
  ·rw[e]at h;cases h
  ·rw[e]at h
   cases j with
   |zero=>
    simp at ht
    subst ht
    exact aj
   |succ j=>
    rw[Kj,qu]
    exact aax r (k+1) _ p h j t (by simpa using ht)
theorem aqr{s:List Int}{ts:List Table}(h:mu s ts=true){j:Nat}{t:Table}(ht:ts[j]? =some t):t.dG=bif kP t then((ts.take j).foldl (lO s) (0,0)).1 else((ts.take j).foldl (lO s) (0,0)).2:=by
 unfold mu JB at h
 cases hr:kO (rf s ts) some 0 (0,0) ts with
 |none=>rw[hr]at h;simp at h
 |some p=>exact aax ts 0 (0,0) p hr j t ht
theorem Qi{s:List Int}:∀(l:List Table) (a:Int × Int),(∀t∈l,0<=wid s t.bP.l)->a.1<=(l.foldl (lO s) a).1
 |[],_,_=>zY _
 |t::r,a,h=>by
  have h1:=h t (by simp)
  have h2:=Qi r (lO s a t) fun x hx=>h x (by simp[hx])
  rw[qu]
  refine Int.le_trans ?_ h2
  unfold lO
  cases kP t with
  |true=>simp only[cond_true];omega
  |false=>simp only[cond_false];omega
theorem aay{s:List Int}:∀(l:List Table) (a:Int × Int),(∀t∈l,0<=wid s t.bP.l)->(l.foldl (lO s) a).1=a.1+((hQ s l true).length:Int)
 |[],a,_=>by simp[hQ]
 |t::r,a,h=>by
  have h1:=h t (by simp)
  rw[qu,aay r (lO s a t) fun x hx=>h x (by simp[hx])]
  unfold lO hQ
  rw[kn,gM]
  cases kP t with
  |true=>
   simp only[cond_true,BEq.rfl,xE]
   omega
  |false=>
   simp only[cond_false,show(false==true)=false from rfl,ja]
   omega
theorem aaz{s:List Int}(b:Bool):∀(l:List Table),(∀t∈l,wid s t.bP.l<=216)->(hQ s l b).length<=216*l.length
 |[],_=>by simp[hQ]
 |t::r,h=>by
  have h1:=h t (by simp)
  have h2:=aaz b r fun x hx=>h x (by simp[hx])
  unfold hQ at h2⊢
  rw[kn,gM,ev]
  cases kP t==b with
  |true=>simp only[cond_true,xE];omega
  |false=>simp only[cond_false,ja];omega
theorem aqs{s:List Int}{ts:List Table}(h:mu s ts=true):∀t∈ts,nT s true ((hQ s ts true).length:Int) t=false:=fun t ht=>by
 obtain⟨g1,g2,g3,g4⟩:=BM h
 have hw:∀t∈ts,1<=wid s t.bP.l/\wid s t.bP.l<=216:=fun t ht=>by
  have:=g4 t ht
  unfold np at this
  simp only[b8]at this
  exact E7 g3 this.2.2.1
 obtain⟨j,hj⟩:=QH ht
 have ab:=aqr h hj
 unfold nT
 cases hb:kP t with
 |false=>rfl
 |true=>
  rw[hb,cond_true]at ab
  have aX:=(e2.1 hj).1
  have e:ts=ts.take j++t::ts.drop (j+1):=by
   rw[<-(e2.1 hj).2,List.getElem_cons_drop,B7]
  have h1:=aay (s:=s) ts (0,0) fun x hx=>by have:=(hw x hx).1;omega
  have h2:(ts.foldl (lO s) (0,0)).1=((ts.drop (j+1)).foldl (lO s) (lO s ((ts.take j).foldl (lO s) (0,0)) t)).1:=by
   conv=>lhs;rw[e]
   rw[List.foldl_append,qu]
  have ar:=Qi (s:=s) (ts.drop (j+1)) (lO s ((ts.take j).foldl (lO s) (0,0)) t) fun x hx=>by have:=(hw x (B8 hx)).1;omega
  have aQ:∀a:Int × Int,(lO s a t).1=a.1+wid s t.bP.l:=fun a=>by unfold lO;rw[hb];rfl
  rw[aQ,<-ab]at ar
  have h5:=Qi (s:=s) (ts.take j) (0,0) fun x hx=>by have:=(hw x (zP hx)).1;omega
  have ft:=(hw t ht).1
  have hT:(hQ s ts true).length<=216*ts.length:=aaz _ ts fun x hx=>(hw x hx).2
  simp only at h1 h5
  rw[h1]at h2
  rw[<-h2]at ar
  rw[<-ab]at h5
  rw[iN (by omega) (by omega)]
  rw[show decide (((hQ s ts true).length:Int)-t.dG<wid s t.bP.l)=false from decide_eq_false (by omega)]
  simp
theorem aaA{m:Model}(b:BU m)(ad:vT m=true){c:Int}(hc:c<0\/m.Tables.l.findIdx? (nT m.bC.l true c)=none):Ek m c=some []:=by
 have hV:ou m=some true:=by rw[Fq b,ad]
 obtain⟨r,af,hr⟩:=Y2 m.bC m.Tables true c (by have:=b.PO;unfold cm;omega) (by have:=b.tables;unfold cm;omega) (fun t ht=>by have:=(b.aa t ht).2;unfold cm;omega)
 have:=hr.no (.inr hc)
 subst this
 unfold Ek NL
 simp only[hV,cg,cond_true,af,cond_false]
theorem aqt{m:Model}(b:BU m)(ad:vT m=true):∃x,IA m=some x/\x.l=hQ m.bC.l m.Tables.l true:=by
 have hV:ou m=some true:=by rw[Fq b,ad]
 obtain⟨x,af,aj⟩:=YR m.bC m.Tables true (by have:=b.PO;unfold cm;omega) (by have:=b.tables;unfold cm;omega) (fun t ht=>by have:=(b.aa t ht).2;unfold cm;omega)
 rw[(Qg ad).1,cond_true]at aj
 exact⟨x,by unfold IA NM;simp only[hV,cg,cond_true,af],aj⟩
theorem aaB{m:Model}(hV:ou m=some true){i:Int}(h:i<0\/(m.Actions.l.length:Int)<=i):w6 m i=some []:=by
 have dI:kg i m.Actions.len=some false:=by
  unfold kg
  rcases h with h|h
  ·rw[show decide (i>=0)=false from decide_eq_false (by omega)];rfl
  ·rw[show decide (i<m.Actions.len)=false from decide_eq_false (by show ¬i<(m.Actions.l.length:Int);omega),Bool.and_false]
 unfold w6
 simp only[hV,cg,cond_true,dI,ue]
theorem aqu (m:Model)(b0:Int)(hb:0<=b0/\b0<=255):IB m b0=some true:=by
 unfold IB Nh
 simp only[cg,cond_true,anp]
 cases dr:Fp m with
 |false=>rfl
 |true=>
  have b:=ans dr
  simp only[cond_true,Fq b,cg]
  cases ad:vT m with
  |false=>rfl
  |true=>
   have hV:ou m=some true:=by rw[Fq b,ad]
   obtain⟨x,s1,s2⟩:=aqt b ad
   have hx:x.len=((hQ m.bC.l m.Tables.l true).length:Int):=by rw[gL,s2]
   have fj:m.Tables.l.findIdx? (nT m.bC.l true ((hQ m.bC.l m.Tables.l true).length:Int))=none:=Y0 (aqs (Qg ad).1)
   simp only[hZ,cond_false,aqq b ad hb,cg,aaB hV (i:=m.Actions.len) (.inr (zY _)),aaB hV (i:=-1) (.inl (by decide)),BEq.rfl,cond_true,s1,hx,aaA b ad (.inr fj),aaA b ad (c:=-1) (.inl (by decide))]
end Go.Abs.bw
namespace Go.Abs.bw
open Go Go.Abs Go.Abs.S
def aqv:cj:=q (q (R [r 10 (m v0),r 11 (gq 1 t10),o 12 (gt t11 (c 0))]) (gg v12 k (e 0))) (b0 1 (q (q (R [r 13 (m v5),r 14 (gq 1 t13),o 15 (gt t14 (c 0))]) (gg r8 (q (q (R [r 16 (m v0),r 17 (iG 1 t16 (c 0)),r 18 (bF t17),o 19 (ne t18 (cs [44]))]) (gg afZ (q (R [o 2 (m nc),o 3 (m gI),o 4 (m gI)]) rt) k)) (R [r 20 (m v0),r 21 (.pw 1 t20 (some (c 1)) none none),o 0 (m t21)])) k)) (q (R [o 7 (m (c 1))]) (q (q (R [r 22 (m v0),r 23 (gq 1 t22),r 24 (gt t23 (c 0)),r 25 (m t24),rg 26 t25 true (m v0),rg 27 t25 true (iG 1 t26 (c 0)),rg 28 t25 true (bF t27),rg 29 t25 true (eq t28 (cs [45])),o 30 (hI t25 t29 gI)]) (gg v30 (lB [r 31 (m v0),r 32 (.pw 1 t31 (some (c 1)) none none),o 7 (m (c (-1))),o 0 (m t32)] [0,1,0,7]) k)) (q (q (R [r 33 (m v0),r 34 (gq 1 t33),r 35 (eq t34 (c 0)),r 36 (m t35),rg 37 t36 false (m v0),rg 38 t36 false (iG 1 t37 (c 0)),rg 39 t36 false (bF t38),rg 40 t36 false (fA (fn 28) [t39]),rg 41 t36 false (ne t40 (c 3)),o 42 (hI t36 h7 t41)]) (gg af6 (q (R [o 2 (m nc),o 3 (m gI),o 4 (m gI)]) rt) k)) (q (R [r 44 (m v0),r 45 (iG 1 t44 (c 0)),r 46 (bF t45),r 47 (fA (fn 72) [t46]),r 43 (m t47),r 48 (ex t43 0),r 49 (ex t43 1),o 8 (m t48),o 9 (m t49)]) (q (R [r 50 (m v6),r 51 (m t50),rg 52 t51 true (m v9),r 53 (hI t51 t52 gI),o 6 (m t53)]) (lB [r 54 (m v5),r 55 (m ka),r 56 (m r7),r 57 (.bin .mul t55 t56),r 58 (.lit 1 [z] 1 [(0,t57)] true),r 59 (ap 1 8 t54 t58),r 60 (m v0),r 61 (.pw 1 t60 (some (c 1)) none none),o 5 (m t59),o 0 (m t61)] [0,0,0,6,14,31,0,64,63,511]))))))))
def aqw:h3:=⟨64,q (R [o 2 (m nc),o 3 (m gI),o 4 (m gI)]) (q (R [o 5 (m nc)]) (q (R [o 6 (m h7)]) (q (b0 0 (.loop aqv)) (q (R [r 62 (m v5),r 63 (m v6),o 2 (m t62),o 3 (m t63),o 4 (m h7)]) rt)))),[.tmp 2,.tmp 3,.tmp 4],false⟩
end Go.Abs.bw
namespace Go.Abs
variable{aa:Nat->Option bY}
theorem aqx{α:Type}{es bytes b:Nat}{f:α->V}{s y al:ak α}{iV lj:ag}{ek:V}{m:List (Nat × cc)}{ms:cN}{H:Heap}{ae:ag->V}(cY:b<=H.length)(k:Nat)
  (hs:lG bytes s y=some al) (aA:Own H ms) (hk:ms[k]? =some m) (hr:hf b es f ek s m) (ao:ae iV=ek) (hb:ae lj=bg es f y) (hp:∀a,bs (f a)=true) (hc:∀a,bS (aE (f a))=true):
  ∃v' H1 bI m',b<=bI/\b<=H1.length/\b2 (bZ aa) ae H H.length (.append es bytes iV lj)=some (v',H1,bI)/\hf b es f v' al m'/\Own H1 (ms.set k m'):=by
 have tc:ms.set k m=ms:=by
  apply wg
  intro i
  by_cases e:k=i
  ·subst e;rw[nU (e2.1 hk).1,hk]
  ·rw[gm e]
 have hfz:dX H H.length (y.l.map f)=some (y.l.map f,H,H.length):=tj (A1 hp _)
 have yN:=Hx hc y.l
 unfold lG at hs
 by_cases hy:y.l=[]
 ·rw[if_pos hy]at hs
  cases hs
  refine⟨ek,H,H.length,m,cY,cY,?_,hr,by rw[tc];exact aA⟩
  rw[th]
  simp only[step,hb,wW]
  rw[hfz,hy]
  simp only[mT,List.isEmpty_nil,if_true,ao]
  have gu:jr b es ek (s.map f) m:=hr
  generalize vi:s.map f=k5 at gu
  cases gu with
  |nil=>rfl
  |emp=>rfl
  |row l ds h j1=>simp[aA.get k hk]
 ·rw[if_neg hy]at hs
  split at hs
  ·rename_i e4
   cases hs
   have bf:(y.l.map f).isEmpty=false:=by cases MV:y.l with
    |nil=>exact absurd MV hy
    |cons=>rfl
   have yO:(bS ((y.l.map f).flatMap aE)=false)=False:=by rw[yN];simp
   have gu:jr b es ek (s.map f) m:=hr
   generalize vi:s.map f=k5 at gu
   cases gu with
   |nil=>
    have gY:s.l=[]:=by cases s<;>simp_all [ak.map,ak.l]
    have yP:(y.l.map f).length*(bytes+1)<=2^40:=by simpa[gY]using e4
    refine⟨.cz H.length es 0 (y.l.map f).length (y.l.map f).length,H++[.row es (y.l.map f) false],H.length,[(H.length,.row es (y.l.map f) false)],cY,by simp;omega,?_,?_,aA.fill k hk⟩
    ·rw[th]
     simp only[step,hb,wW]
     rw[hfz]
     simp only[bf,hY,if_false,yO,ao,yP,if_true]
    ·simp only[gY,jB,ak.map]
     exact .row _ _ (by simpa using hy) cY
   |emp=>
    have gY:s.l=[]:=by cases s<;>simp_all [ak.map,ak.l]
    have yP:(y.l.map f).length*(bytes+1)<=2^40:=by simpa[gY]using e4
    refine⟨.cz H.length es 0 (y.l.map f).length (y.l.map f).length,H++[.row es (y.l.map f) false],H.length,[(H.length,.row es (y.l.map f) false)],cY,by simp;omega,?_,?_,aA.fill k hk⟩
    ·rw[th]
     simp only[step,hb,wW]
     rw[hfz]
     simp only[bf,hY,if_false,yO,ao,yP,if_true]
    ·simp only[gY,jB,ak.map]
     exact .row _ _ (by simpa using hy) cY
   |row l ds hd j1=>
    have gY:s.l.map f=ds:=by cases s<;>simp_all [ak.map,ak.l]
    have hlen:s.l.length=ds.length:=by rw[<-gY,oG]
    have bj:=aA.get k hk
    have aX:=wT bj
    refine⟨.cz l es 0 (ds++y.l.map f).length (ds++y.l.map f).length,H.set l (.row es (ds++y.l.map f) false),l,[(l,.row es (ds++y.l.map f) false)],j1,by simpa using cY,?_,?_,aA.put k hk⟩
    ·rw[th]
     simp only[step,hb,wW]
     rw[hfz]
     simp only[bf,hY,if_false,yO,ao,bj,gM]
     rw[if_pos ⟨trivial,trivial,trivial,trivial,trivial,by rw[hlen]at e4;simpa using e4⟩,uc (xI aX)]
     done
    ·show jr b es _ (.mk ((s.l++y.l).map f)) _
     rw[nW,gY]
     exact .row _ _ (by simp[hd]) j1
  ·cases hs
end Go.Abs
namespace Go.Abs
variable{aa:Nat->Option bY}{b:Nat}{σ:bV}{H:Heap}{Q:X->bV->Heap->Prop}
theorem aqy{α:Type}{es bytes:Nat}{f:α->V}{s y al:ak α}{d:Option (Nat × Bool)}{iV lj:ag}{ek:V}{m:List (Nat × cc)}{ms:cN}{A M R ops:List bO}{dE:List Nat}{fD c1:bV}
  (mJ:A++⟨d,.append es bytes iV lj,none⟩::(M++R)=ops) (hA:fC (bZ aa) [] A mL σ fD c1) (k:Nat)
  (hs:lG bytes s y=some al) (aA:Own H ms) (hk:ms[k]? =some m) (hr:hf b es f ek s m) (ao:bN fD c1 iV=ek) (hb:bN fD c1 lj=bg es f y) (hp:∀a,bs (f a)=true) (hc:∀a,bS (aE (f a))=true)
  (cA:∀H' v' m' mv,hf b es f v' al m'->Own H' (ms.set k m')->∃mN gS,fC (bZ aa) [] M (fV fD d v') (fW c1 d v') mN gS/\Op aa b R mN gS H' (List.replicate M.length false++mv::List.replicate A.length false) (fun aN H' wr=>vl dE ops wr A.length (A.length+1+M.length)=true/\Q .normal aN H')):
  eS aa b (.region ops (some dE)) σ H Q:=
 Wf (ms:=[]) mJ (.nil H) hA rfl fun cY=>by
  obtain⟨v',H1,bI,m',q1,aS,b1,cL,et⟩:=aqx (aa:=aa) cY k hs aA hk hr ao hb hp hc
  obtain⟨mN,gS,p1,p2⟩:=cA H1 v' m' (eG H H1 bI) cL et
  exact⟨v',H1,bI,mN,gS,q1,aS,b1,.nil H1,p1,p2⟩
end Go.Abs
