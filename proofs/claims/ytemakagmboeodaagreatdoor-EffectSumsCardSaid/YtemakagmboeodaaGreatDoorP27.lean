/- Texts of this claim, joined and written short by a program. -/
import Derived.Test.YtemakagmboeodaaGreatDoorP01
import Derived.ChangeBears
import Derived.ChangeSlices
import Derived.SizedLaws
import Derived.Test.YtemakagmboeodaaGreatDoorP18
import Derived.Test.YtemakagmboeodaaGreatDoorCards
import Derived.WalkKit
import Derived.ProofKit
import Derived.OpenShut
import Derived.ChangeStays
import Derived.Deep.DeepHandedRow
import Derived.Deep.DeepLaidRun
import Derived.Lib.LaidTab
import Derived.Test.YtemakagmboeodaaGreatDoorP26
import Derived.Test.YtemakagmboeodaaGreatDoorP19
import Derived.Test.YtemakagmboeodaaGreatDoorP20
import Derived.Deep.DeepWitnessRowRef
import Derived.Test.YtemakagmboeodaaGreatDoorP24
import Derived.Test.YtemakagmboeodaaGreatDoorP00
set_option linter.unusedVariables false
set_option linter.unusedSimpArgs false
set_option linter.unusedSectionVars false
namespace Go.Abs
open Go Go.ChangeShapes
def pR:List V->V
 |[x]=>x
 |vs=>.agg vs
theorem afF{x:V}(h:e1 x=true):aL x=[x]:=by cases x<;>simp_all [e1,aL]
theorem Tn{l:List V}(h:b7 l=true):aL (pR l)=l:=by
 match l,h with
 |[],_=>rfl
 |[x],h=>simp only[b7,xn]at h;exact afF h
 | _::_::_,_=>rfl
inductive jZ {H:Type} (P:Program):TypeId->DataW H->List V->Prop
 |bool (t:TypeId) (b:Bool) (ht:P.underlying t=some .bool):jZ P t (.lit (.bool b)) [.bool b]
 |int (t:TypeId) (k:IntKind) (n:Int) (ht:P.underlying t=some (.int k)) (hw:(Lit.int k n).wf=true):jZ P t (.lit (.int k n)) [.int k n]
 |str (t:TypeId) (s:List UInt8) (ht:P.underlying t=some .string):jZ P t (.lit (.string s)) [.str s]
 |nil (t e:TypeId) (ht:P.underlying t=some (.slice e)):jZ P t .nil [.ak]
 |slice (t e:TypeId) (elems spare:List (DataW H)) (ls:List (List V)) (ht:P.underlying t=some (.slice e)) (hl:ls.length=elems.length)
  (h:∀(i:Nat) d l,elems[i]? =some d->ls[i]? =some l->jZ P e d l):jZ P t (.slice elems spare) [.list (P.cellsOf e) (ls.map pR)]
 |struct (t:TypeId) (fs:Array Field) (parts:List (DataW H)) (ls:List (List V)) (ht:P.underlying t=some (.struct fs)) (hp:parts.length=fs.size) (hl:ls.length=fs.size)
  (h:∀(i:Nat) (f:Field) d l,fs[i]? =some f->parts[i]? =some d->ls[i]? =some l->jZ P f.type d l):jZ P t (.agg parts) ls.flatten
def oU (P:Program):Nat->TypeId->Bool
 |0,_=>false
 |n+1,t=>match P.underlying t with
  |some .bool|some (.int _)|some .string=>P.cellsOf t==1
  |some (.slice e)=>P.cellsOf t==1&&decide (0<P.cellsOf e)&&oU P n e
  |some (.struct fs)=>fs.toList.all fun f=>oU P n f.type
  | _=>false
theorem Ib{w:World}{I:Nat->Prop}:∀{vs:List V} {xs:List Value} {us:List V} {bX:List Value},cD w I vs xs->cD w I us bX->cD w I (vs++us) (xs++bX)
 | _,_,_,_,.nil,h=>h
 | _,_,_,_,.cons v x vs xs h hs,k=>.cons v x _ _ h (Ib hs k)
theorem afG{a b:List V}:b7 (a++b)=(b7 a&&b7 b):=by
 induction a with
 |nil=>simp[b7]
 |cons x a ih=>simp[b7,ih,zY]
theorem To{α:Type}{p:Nat->α->Prop}:∀n,(∀i,i<n->∃a,p i a)->∃l:List α,l.length=n/\∀i a,l[i]? =some a->p i a
 |0,_=>⟨[],rfl,fun i a h=>by simp at h⟩
 |n+1,h=>by
  obtain⟨l,hl,hp⟩:=To n (fun i hi=>h i (by omega));obtain⟨a,ha⟩:=h n (by omega);refine⟨l++[a],by simp[hl],fun i b hb=> ?_⟩;rcases fF i n with hi|hi
  ·rw[ft (by omega)]at hb;exact hp i b hb
  ·rw[sD (by omega)]at hb
   have:i-l.length=0:=by
    rcases IU (i-l.length)with h0|h0
    ·exact h0
    ·rw[k6 (by simp;omega)]at hb;cases hb
   rw[this]at hb;cases hb;have:i=n:=by omega
   rw[this];exact ha
theorem Tp{α:Type}{c:Nat}:∀{ls:List (List α)} {j:Nat} {x:α},(∀l∈ls,l.length=c)->ls.flatten[j]? =some x->∃i r l,ls[i]? =some l/\l[r]? =some x/\j=i*c+r/\r<c
 |[],j,x,_,h=>by simp at h
 |l::ls,j,x,hc,h=>by
  have hl:=hc l (by simp);rw[C9]at h;rcases fF j c with hj|hj
  ·rw[ft (by omega)]at h
   exact⟨0,j,l,rfl,h,by omega,hj⟩
  ·rw[sD (by omega)]at h
   obtain⟨i,r,eB,h1,h2,aq,bf⟩:=Tp (fun m hm=>hc m (by simp[hm])) h;exact⟨i+1,r,eB,by simpa using h1,h2,by rw[pY];omega,bf⟩
section
variable{H:Type}{enc:TypeId × Value->H}{P:Program}{W:World}{held:Bool}
def sw (W:World):Nat->Prop:=fun b=>b<W.heap.size
def Reads (P:Program)(W:World)(t:TypeId)(cs:List Value)(d:DataW H):Prop:=
 ∃vs,jZ P t d vs/\cD W (sw W) vs cs/\b7 vs=true/\vs.length=P.cellsOf t/\cs.length=P.cellsOf t
theorem Tq{a:Addr}{v:Value}(h:W.cell? a=some v):a.spot=none/\a.block<W.heap.size:=by
 unfold World.cell? at h;split at h
 ·rename_i c e f h3
  split at h
  ·cases h
  ·rename_i hs
   refine⟨by simpa using hs,?_⟩;rcases fF a.block W.heap.size with q|q
   ·exact q
   ·rw[u6 q]at h3;cases h3
 ·cases h
theorem Tr (n:Nat)(Ts:∀fuel t cs (x:DataW H × List MemPlace),t<P.types.size->oU P n t=true->DataW.trod enc P W 0 (fun _=>true) held fuel t cs=some x->Reads P W t cs x.1)(m:Nat)(cs:List Value):
  ∀(aO:List Field) (xs:List (DataW H × List MemPlace)) (off:Nat),(∀(j:Nat) (f:Field),aO[j]? =some f->f.offset=off+((aO.take j).map fun f=>P.cellsOf f.type).sum)->xs.length=aO.length->(∀f∈aO,f.type<P.types.size/\oU P n f.type=true)->
   (∀(i:Nat) (f:Field),aO[i]? =some f->DataW.trod enc P W 0 (fun _=>true) held m f.type ((cs.drop f.offset).take (P.cellsOf f.type))=xs[i]?)->
   ∃ls:List (List V),ls.length=aO.length/\(∀(i:Nat) (f:Field) (y:DataW H × List MemPlace) (l:List V),aO[i]? =some f->xs[i]? =some y->ls[i]? =some l->jZ P f.type y.1 l)/\cD W (sw W) ls.flatten ((cs.drop off).take (aO.map fun f=>P.cellsOf f.type).sum)/\b7 ls.flatten=true/\
    ls.flatten.length=(aO.map fun f=>P.cellsOf f.type).sum
 |[],xs,off,_,hl,_,_=>⟨[],rfl,fun i f y l h=>by simp at h,by simp;exact .nil,rfl,rfl⟩
 |f::aO,xs,off,Tt,hl,af,hx=>by
  match xs,hl with
  |y::xs,hl=>
   have h0:=hx 0 f rfl;have ho:=Tt 0 f rfl;simp only[List.take_zero,hP,List.sum_nil,sN]at ho;rw[ho]at h0;simp only[lN]at h0;obtain⟨vs,bq,cc,eY,hE,ma⟩:=Ts m f.type _ y (af f (by simp)).1 (af f (by simp)).2 h0
   obtain⟨ls,q1,q2,dk,fC,mG⟩:=Tr n Ts m cs aO xs (off+P.cellsOf f.type) (fun j g aT=>by
     have:=Tt (j+1) g (by simpa using aT);simp only[List.take_succ_cons,cW,List.sum_cons]at this;omega) (by simpa using hl) (fun g aT=>af g (by simp[aT])) (fun i g aT=>by simpa using hx (i+1) g (by simpa using aT))
   refine⟨vs::ls,by simp[q1],fun i g z l aT aP nG=> ?_,?_,?_,?_⟩
   ·cases i with
    |zero=>
     simp only[lN,ay]at aT aP nG;subst aT;subst aP;subst nG;exact bq
    |succ i=>
     simp only[sF]at aT aP nG;exact q2 i g z l aT aP nG
   ·rw[C9,cW,List.sum_cons,List.take_add,u9]
    exact Ib cc dk
   ·rw[C9,afG,eY,fC];rfl
   ·rw[C9,fO,hE,mG,cW,List.sum_cons]
theorem reads (iV:laidOutB P=true):∀(n fuel:Nat) (t:TypeId) (cs:List Value) (x:DataW H × List MemPlace),t<P.types.size->oU P n t=true->DataW.trod enc P W 0 (fun _=>true) held fuel t cs=some x->Reads P W t cs x.1
 |0,_,_,_,_,_,af,_=>by simp[oU]at af
 |n+1,fuel,t,cs,x,CE,af,h=>by
  unfold oU at af;split at af
  ·rename_i ht
   have hc:P.cellsOf t=1:=by simpa using af
   obtain⟨b,rfl,hx⟩:∃b,cs=[.bool b]/\x=(.lit (.bool b),[]):=by
    cases fuel with
    |zero=>simp[DataW.trod]at h
    |succ m=>
     unfold DataW.trod at h;rw[ht]at h;split at h<;>simp_all
   subst hx;exact⟨_,.bool t _ ht,.cons _ _ _ _ (.bool _) .nil,rfl,by rw[hc];rfl,by rw[hc];rfl⟩
  ·rename_i k ht
   have hc:P.cellsOf t=1:=by simpa using af
   obtain⟨m,rfl,rfl,hw⟩:=DataW.trod_int ht h;exact⟨_,.int t k m ht hw,.cons _ _ _ _ (.int k m) .nil,rfl,by rw[hc];rfl,by rw[hc];rfl⟩
  ·rename_i ht
   have hc:P.cellsOf t=1:=by simpa using af
   obtain⟨s,rfl,rfl,hw⟩:=DataW.trod_string ht h;obtain⟨⟨s⟩⟩:=s;exact⟨_,.str t _ ht,.cons _ _ _ _ (.str s) .nil,rfl,by rw[hc];rfl,by rw[hc];rfl⟩
  ·rename_i e ht
   simp only[cH,beq_iff_eq,decide_eq_true_eq]at af;obtain⟨⟨hc,mL⟩,kn⟩:=af;have dT:=kid_slice iV CE ht;rcases DataW.trod_slice ht h with⟨rfl,rfl⟩|⟨a,len,cap,elems,rest,m,-,rfl,rfl,-,lj,-,hlen,w3,-,-⟩
   ·exact⟨_,.nil t e ht,.cons _ _ _ _ .ak .nil,rfl,by rw[hc];rfl,by rw[hc];rfl⟩
   ·have each:∀i,i<len->∃q:List Value × List V,(∃y,elems[i]? =some y/\W.cells? 0 (a.add (i*P.cellsOf e)) (P.cellsOf e)=some q.1/\jZ P e y.1 q.2/\cD W (sw W) q.2 q.1/\b7 q.2=true/\q.2.length=P.cellsOf e/\q.1.length=P.cellsOf e):=fun i hi=>by
     have hb:=w3 i hi;obtain⟨y,hy⟩:∃y,elems[i]? =some y:=⟨_,gk (by omega)⟩;rw[hy,sE]at hb;obtain⟨ey,h1,h2⟩:=hb;obtain⟨vs,bq,cc,eY,hE,ma⟩:=reads iV n m e ey y dT kn h2;exact⟨(ey,vs),y,hy,h1,bq,cc,eY,hE,ma⟩
    obtain⟨jk,Tu,a8⟩:=To len each;have gg:∀q∈jk,∃i,jk[i]? =some q:=fun q h=>C0 h;refine⟨[.list (P.cellsOf e) ((jk.map (·.2)).map pR)],.slice t e (elems.map (·.1)) (rest.map (·.1)) (jk.map (·.2)) ht (by simp[Tu,hlen]) (fun i d l hd hl=> ?_),?_,rfl,by rw[hc];rfl,by rw[hc];rfl⟩
    ·rw[iM]at hd hl
     cases uZ:jk[i]? with
     |none=>rw[uZ]at hl;cases hl
     |some q=>
      obtain⟨y,hy,-,h2,-⟩:=a8 i q uZ;rw[uZ]at hl;rw[hy]at hd;cases hd;cases hl;exact h2
    ·refine .cons _ _ _ _ ?_ .nil
     cases oA:len with
     |zero=>
      have:jk=[]:=List.eq_nil_of_length_eq_zero (by omega);subst this;exact .rF _ a cap
     |succ ajk=>
      obtain⟨oV,afH⟩:∃q,jk[0]? =some q:=⟨_,gk (by omega)⟩;obtain⟨aeH,-,afI,-,-,-,-,pg⟩:=a8 0 oV afH;have Ic:=(World.cells?_some afI).2.2 0 mL;obtain⟨v0,tF⟩:∃v,oV.1[0]? =some v:=⟨_,gk (by omega)⟩;rw[tF]at Ic;obtain⟨fH,aU,afJ⟩:=a
      have gp:afJ=none:=by
       have:=(Tq Ic).1;simpa[Addr.add]using this
      subst gp
      have fp:fH<W.heap.size:=by
       have:=(Tq Ic).2;rwa [block_add,block_add]at this
      have w9:((jk.map (·.2)).map pR).length=len:=by simp[Tu]
      have key:ev W (sw W) (.list (P.cellsOf e) ((jk.map (·.2)).map pR)) (.slice (some ⟨fH,aU,none⟩) ((jk.map (·.2)).map pR).length cap):=by
       refine .list _ _ fH aU cap (jk.map (·.1)).flatten fp (fun j x hj=> ?_) (fun d hd=> ?_) ?_ (by rw[w9];exact lj)
       ·obtain⟨i,r,l,h1,h2,rfl,bf⟩:=Tp (c:=P.cellsOf e) (fun l hl=>by
         obtain⟨q,zs,rfl⟩:=dn.1 hl;obtain⟨i,hi⟩:=gg q zs;obtain⟨y,-,-,-,-,-,-,h⟩:=a8 i q hi;exact h) hj
        rw[iM]at h1;cases uZ:jk[i]? with
        |none=>rw[uZ]at h1;cases h1
        |some q=>
         rw[uZ]at h1;cases h1;obtain⟨y,-,en,-⟩:=a8 i q uZ;have:=(World.cells?_some en).2.2 r bf;rw[h2]at this
         have ae:((⟨fH,aU,none⟩:Addr).add (i*P.cellsOf e)).add r=⟨fH,aU+(i*P.cellsOf e+r),none⟩:=by
          simp only[Addr.add];split<;>split<;>simp_all<;>omega
         rw[ae]at this;exact this
       ·obtain⟨l,hl,rfl⟩:=dn.1 hd
        obtain⟨q,zs,rfl⟩:=dn.1 hl;obtain⟨i,hi⟩:=gg q zs;obtain⟨y,-,-,-,-,fe,fj,-⟩:=a8 i q hi;rw[Tn fe];exact fj
       ·have fw:∀q∈jk,cD W (sw W) q.2 q.1/\b7 q.2=true:=fun q zs=>by
         obtain⟨i,hi⟩:=gg q zs;obtain⟨y,-,-,-,bf,fe,-⟩:=a8 i q hi;exact⟨bf,fe⟩
        have:∀jk:List (List Value × List V),(∀q∈jk,cD W (sw W) q.2 q.1/\b7 q.2=true)->cD W (sw W) (((jk.map (·.2)).map pR).flatMap aL) (jk.map (·.1)).flatten:=by
         intro jk
         induction jk with
         |nil=>intro _;exact .nil
         |cons q jk ih=>
          intro h;have h0:=h q (by simp);simp only[cW,j0,C9];rw[Tn h0.2];exact Ib h0.1 (ih fun p hp=>h p (by simp[hp]))
        exact this jk fw
      rw[w9,oA]at key;exact key
  ·rename_i fs ht
   obtain⟨bM,dC,iv⟩:=kid_struct iV CE ht;obtain⟨xs,m,-,rfl,ew,iW,hx⟩:=DataW.trod_struct ht h;rw[eV]at af;obtain⟨ls,q1,q2,dk,fC,mG⟩:=Tr n (fun fuel t cs x a b c=>reads iV n fuel t cs x a b c) m cs fs.toList xs 0 (fun j f hj=>by rw[iv j f hj];omega) (by simpa using iW) (fun f Tv=>⟨bM f Tv,af f Tv⟩) (fun i f hi=>hx i f (by simpa using hi));refine⟨ls.flatten,.struct t fs (xs.map (·.1)) ls ht (by simpa using iW) (by simpa using q1) (fun i f d l oy hd hl=> ?_),?_,fC,by rw[mG,dC],ew⟩
   ·rw[iM]at hd
    cases Ie:xs[i]? with
    |none=>rw[Ie]at hd;cases hd
    |some y=>
     rw[Ie]at hd;cases hd;exact q2 i f y l (by simpa using oy) Ie hl
   ·rw[o4,CV (by rw[ew,dC];exact aI _)]at dk
    exact dk
  ·cases af
theorem zt{t:TypeId}{k:IntKind}{d:DataW H}{vs:List V}(ht:P.underlying t=some (.int k))(h:jZ P t d vs):∃n,d=.lit (.int k n)/\vs=[.int k n]/\(Lit.int k n).wf=true:=by
 cases h<;>rename_i eE<;>rw[ht]at* <;>try (first|(cases eE;done)|contradiction)
 ·rename_i hw;cases eE;exact⟨_,rfl,rfl,hw⟩
theorem Tw{t e:TypeId}{d:DataW H}{vs:List V}(ht:P.underlying t=some (.slice e))(h:jZ P t d vs):
  (d=.nil/\vs=[.ak])\/∃(elems spare:List (DataW H)) (ls:List (List V)),d=.slice elems spare/\vs=[.list (P.cellsOf e) (ls.map pR)]/\ls.length=elems.length/\∀(i:Nat) d l,elems[i]? =some d->ls[i]? =some l->jZ P e d l:=by
 cases h with
 |nil _ _ eE=>exact .inl ⟨rfl,rfl⟩
 |slice _ e' elems spare ls eE hl h=>rw[ht]at eE;cases eE;exact .inr ⟨elems,spare,ls,rfl,rfl,hl,h⟩
 |bool _ _ eE|str _ _ eE|int _ _ _ eE _|struct _ _ _ _ eE _ _ _=>rw[ht]at eE;cases eE
theorem Tx{t:TypeId}{fs:Array Field}{d:DataW H}{vs:List V}(ht:P.underlying t=some (.struct fs))(h:jZ P t d vs):
  ∃(parts:List (DataW H)) (ls:List (List V)),d=.agg parts/\vs=ls.flatten/\parts.length=fs.size/\ls.length=fs.size/\∀(i:Nat) (f:Field) d l,fs[i]? =some f->parts[i]? =some d->ls[i]? =some l->jZ P f.type d l:=by
 cases h with
 |struct _ ajl parts ls eE hp hl h=>rw[ht]at eE;cases eE;exact⟨parts,ls,rfl,rfl,hp,hl,h⟩
 |bool _ _ eE|str _ _ eE|int _ _ _ eE _|nil _ _ eE|slice _ _ _ _ _ eE _ _=>rw[ht]at eE;cases eE
theorem afK{t e:TypeId}{elems spare:List (DataW H)}(ht:P.underlying t=some (.slice e)):(elems.length+spare.length)*P.bytesOf e∈(DataW.slice elems spare).weights P t:=by simp[DataW.weights,ht]
theorem Ig (iV:laidOutB P=true){n:Nat}{t:TypeId}{v:Value}{d:DataW H}{ps:List MemPlace}(CE:t<P.types.size)(af:oU P n t=true)(jG:v.cells.toList=[v])
  (hd:DataW.Trod enc P W 0 (fun _=>true) held t v d ps):∃e7,jZ P t d [e7]/\ev W (sw W) e7 v:=by
 obtain⟨fuel,hd⟩:=hd;obtain⟨vs,bq,cc,eY,hE,ma⟩:=reads iV n fuel t _ _ CE af hd;rw[jG]at cc;cases cc with
 |cons e7 x vs xs h hs=>cases hs;exact⟨e7,bq,h⟩
end
end Go.Abs
namespace Go.Abs.cb
open Go Go.Abs Go.Proofs
set_option maxRecDepth 100000
def oD (W:World):bw:=⟨fun _=>none,fun b=>b<W.heap.size⟩
theorem afL (W:World):aQ (C fun b=>W.heap[b]?) id (oD W) [] W where
 obj l h e:=by cases e
 inj l eB h h' e:=by cases e
 cL l h e:=by cases e
 cu b hb:=⟨hb,fun l h e=>by cases e⟩
 iq l h e:=by cases e
 ej b o h:=⟨by
  rcases fF b W.heap.size with q|q
  ·exact q
  ·simp[C,u6 q]at h,h⟩
theorem zu{W w':World}{G':bw}{H':Heap}(aa:aQ (C fun b=>W.heap[b]?) id G' H' w'){b:Nat}(hb:b<W.heap.size):w'.heap[b]? =W.heap[b]? :=by
 have h:W.heap[b]? =some W.heap[b]:=by simp[hb]
 rw[(aa.ej b _ h).2,h]
theorem afM{W w':World}{G':bw}{H':Heap}(aa:aQ (C fun b=>W.heap[b]?) id G' H' w'){b off:Nat}(hb:b<W.heap.size):w'.cell? ⟨b,off,none⟩=W.cell? ⟨b,off,none⟩:=by
 unfold World.cell?; rw[zu aa hb]
theorem afN{W w':World}{G':bw}{H':Heap}(aa:aQ (C fun b=>W.heap[b]?) id G' H' w')(ho:w'.os=W.os)(hp:w'.output=W.output)(may:MemPlace->Prop):W.keptBut w' may:=by
 refine⟨ho,hp,fun i hi=> ?_⟩;rw[zu aa hi];cases h:W.heap[i]? with
 |none=>simp
 |some o=>cases o<;>simp
theorem Ty{P:Program}{w:World}{n:String}{d:DataW Unit}:∀{l:List (String × DataW Unit)} {ps:List MemPlace},DataW.LaidVars P w l ps->(n,d)∈l->
  ∃g t cs fuel p,P.globalNamed n=some g/\(P.globals[g]?).map (·.type)=some t/\w.var? P n=some cs/\DataW.trod (fun _=>()) P w 0 (fun _=>true) false fuel t cs.toList=some (d,p)
 |[],_,_,h=>by cases h
 |(m,e)::r,ps,h,hm=>by
  obtain⟨g,t,cs,fuel,p,q,h1,h2,aq,bf,fe,-⟩:=h;rcases cY.1 hm with hm|hm
  ·cases hm;exact⟨g,t,cs,fuel,p,h1,h2,aq,bf⟩
  ·exact Ty fe hm
theorem Tz{P:Program}{W:World}{name:String}{k:IntKind}{cq:List Int}{l:List (String × DataW Unit)}{g:Nat}{t e:TypeId}{n:Nat}
  (aT:P.globalNamed name=some g) (afO:(P.globals[g]?).map (·.type)=some t) (ht:P.underlying t=some (.array n e)) (he:P.underlying e=some (.int k)) (mL:P.cellsOf e=1) (afP:P.cellsOf t=n)
  (h:laidMet P l W) (hm:(name,Lib.tabData k cq)∈l):Lib.TabIs P W name k cq:=by
 obtain⟨ps,ad,-⟩:=h;obtain⟨w8,dr,cs,fuel,p,afQ,eE,afR,hd⟩:=Ty ad hm;obtain rfl:=xm (aT.symm.trans afQ);obtain rfl:=xm (afO.symm.trans eE);unfold Lib.TabIs;rw[afR,<-Lib.cells_of_tab ht he mL afP hd]
theorem TA{W w':World}{G':bw}{H':Heap}(aa:aQ (C fun b=>W.heap[b]?) id G' H' w'){name:String}{k:IntKind}{cq:List Int}(h:Lib.TabIs Tryz.prog W name k cq):Lib.TabIs Tryz.prog w' name k cq:=by
 unfold Lib.TabIs World.var? at h⊢;cases aT:Tryz.prog.globalNamed name with
 |none=>rw[aT]at h;cases h
 |some g=>
  rw[aT]at h;simp only[dM]at h⊢
  have hb:g<W.heap.size:=by
   rcases fF g W.heap.size with q|q
   ·exact q
   ·rw[u6 q]at h;cases h
  rw[zu aa hb];exact h
section
variable{W:World}{H:Type}{enc:TypeId × Value->H}
theorem TB{w':World}{T:TypeId->Prop}(K:Kids Tryz.prog T)(du:∀{t e:TypeId},T t->Tryz.prog.underlying t=some (.slice e)->0<Tryz.prog.cellsOf e){TC:Nat->Bool}:
  ∀{bc:List TypeId} {vs:List Value} {ds:List (DataW H)} {p:List MemPlace},(∀t∈bc,T t)->DataW.TrodAll enc Tryz.prog W 0 (fun _=>true) true bc vs ds p->(∀q∈p,W.sameAt w' q)->(∀q∈p,TC q.block=true)->
   DataW.TrodAll enc Tryz.prog w' 0 TC true bc vs ds p
 |[],vs,ds,p,_,h,_,_=>by
  obtain⟨rfl,rfl,rfl⟩:=ChangeShapes.trodAll_nil h;rfl
 |t::bc,vs,ds,p,hT,h,hs,hp=>by
  obtain⟨v,vs',d,ds',a,b,rfl,rfl,rfl,⟨fuel,h1⟩,h2⟩:=ChangeShapes.trodAll_cons h;refine⟨a,b,⟨fuel,DataW.trod_stays K du (fun h=>by cases h) (hT t (by simp)) h1 (fun q a8=>hs q (by simp[a8])) (fun q a8=>hp q (by simp[a8]))⟩,TB K du (fun u hu=>hT u (by simp[hu])) h2 (fun q a8=>hs q (by simp[a8])) (fun q a8=>hp q (by simp[a8])),rfl⟩
end
set_option maxRecDepth 100000 in
theorem laidOut:laidOutB Tryz.prog=true:=by kernel_rfl
theorem afS:mapsRowed Tryz.prog=true:=by kernel_rfl
theorem kids:Kids Tryz.prog (· <Tryz.prog.types.size):=kids_rows laidOut afS
theorem afT:((List.range Tryz.prog.types.size).all fun t=>match Tryz.prog.underlying t with|some (.slice e)=>decide (0<Tryz.prog.cellsOf e)| _=>true)=true:=by kernel_rfl
theorem afU{t e:TypeId}(h:t<Tryz.prog.types.size)(hu:Tryz.prog.underlying t=some (.slice e)):0<Tryz.prog.cellsOf e:=by
 have:=eV.1 afT t (List.mem_range.2 h);rw[hu]at this;simpa using this
theorem afV{W w':World}{G':bw}{H':Heap}(aa:aQ (C fun b=>W.heap[b]?) id G' H' w'){q:MemPlace}(hb:q.block<W.heap.size):W.sameAt w' q:=by
 cases q with
 |cell b off=>exact afM aa hb
 |map b=>exact zu aa hb
theorem afW{W w':World}{G':bw}{H':Heap}(aa:aQ (C fun b=>W.heap[b]?) id G' H' w'){a:Addr}(hb:a.block<W.heap.size):w'.frozen? a=W.frozen? a:=by
 unfold World.frozen?; rw[zu aa hb]
end Go.Abs.cb
namespace Go.Abs.cb
open Go Go.Abs Go.Proofs
set_option maxRecDepth 100000
theorem CF{α:Type}{l:List α}(h:l.length=2):∃a0 av,l=[a0,av]:=by
 match l,h with
 |[a0,av],_=>exact⟨a0,av,rfl⟩
section
variable{W:World}{H:Type}{enc:TypeId × Value->H}
theorem afX{d:DataW H}{l:List V}(h:jZ Tryz.prog 59 d l):∃x:Term,l=aL (jU x):=by
 obtain⟨parts,ls,-,rfl,hp,hl,hr⟩:=Tx Tryz.underlying59 h;obtain⟨p0,p1,rfl⟩:=CF hp;obtain⟨Lm,dH,rfl⟩:=CF hl;obtain⟨gX,-,rfl,-⟩:=zt Tryz.underlying3 (hr 0 _ _ _ rfl rfl rfl);obtain⟨mh,-,rfl,-⟩:=zt Tryz.underlying3 (hr 1 _ _ _ rfl rfl rfl);exact⟨⟨gX,mh⟩,rfl⟩
theorem afY{d:DataW H}{l:List V}(h:jZ Tryz.prog 35 d l):∃x:Change,l=aL (lH x):=by
 obtain⟨parts,ls,-,rfl,hp,hl,hr⟩:=Tx Tryz.underlying35 h;obtain⟨p0,p1,rfl⟩:=CF hp;obtain⟨Lm,dH,rfl⟩:=CF hl;obtain⟨gX,-,rfl,-⟩:=zt Tryz.underlying3 (hr 0 _ _ _ rfl rfl rfl);obtain⟨mh,-,rfl,-⟩:=zt Tryz.underlying3 (hr 1 _ _ _ rfl rfl rfl);exact⟨⟨gX,mh⟩,rfl⟩
end
end Go.Abs.cb
namespace Go.Abs
open Go
theorem CG{n:Int}(h1:-9223372036854775808<=n)(h2:n<=9223372036854775807):ck n=n:=wrap_small h1 (by omega)
theorem iJ{α:Type}(l:List α)(k:Nat):dx l (k:Int)=l[k]? :=by simp[dx]
end Go.Abs
set_option maxHeartbeats 2000000
namespace Go.Abs.cb
open Go Go.Abs
noncomputable section
def zv (cU:Int):Option (Bool):=
 some ((decide (cU>=(-1000000)))&&(decide (cU<=1000000)))
def pS (cU:(al Term)):(Int)->Option (hf (Int) (oJ (Unit) (Unit))):=fun i7=>(bif (decide (i7<cU.len))then((dx cU.l i7).bind fun Ih=>((zv Ih.cV).bind fun q6=>(bif q6 then some (.next (ck (i7+1)))else some (.out (.ret ())))))else some (.out (.go ())))
def CH (cU:(al Term)):Option (Bool):=
 ((c0 (pS cU) 0:Option (oJ (Unit) (Unit))).bind fun Ii=>match Ii with| .go _=>some (decide (cU.len<=100))| .ret _=>some false)
def pT (cU:(al Change)):(Int)->Option (hf (Int) (oJ (Unit) (Unit))):=fun i7=>(bif (decide (i7<cU.len))then((dx cU.l i7).bind fun Ih=>((zv Ih.Add).bind fun q6=>(bif q6 then some (.next (ck (i7+1)))else some (.out (.ret ())))))else some (.out (.go ())))
def zw (cU:(al Change)):Option (Bool):=
 ((c0 (pT cU) 0:Option (oJ (Unit) (Unit))).bind fun Ii=>match Ii with| .go _=>some (decide (cU.len<=100))| .ret _=>some false)
def zx (cU:(al Term))(fE:(al Term)):(Int)->Option (hf (Int) (oJ (Unit) (Unit))):=fun i8=>(bif (decide (i8<cU.len))then((dx cU.l i8).bind fun q6=>((dx fE.l i8).bind fun zy=>(bif ((q6.Cell==zy.Cell)&&((q6.cV==zy.cV)&&true))then some (.next (ck (i8+1)))else some (.out (.ret ())))))else some (.out (.go ())))
def zz (cU:(al Term))(fE:(al Term)):Option (Bool):=
 (bif (cU.len != fE.len)then some false else((c0 (zx cU fE) 0:Option (oJ (Unit) (Unit))).bind fun Ij=>match Ij with| .go _=>some true| .ret _=>some false))
def zA (cU:(al Term))(i21:Int)(i22:(al Term)):(Int)->Option (hf (Int) (Int)):=fun i37=>(((bif (decide (i37<i22.len))then((dx i22.l i37).bind fun TD=>((dx i22.l i37).bind fun Ik=>((dx cU.l i21).bind fun afZ=>some (decide (Ik.Cell<afZ.Cell)))))else some false):Option (Bool)).bind fun af0=>(bif af0 then some (.next (ck (i37+1)))else some (.out i37)))
def sx (cU:(al Term)):(Int × (al Term))->Option (hf (Int × (al Term)) ((al Term))):=fun⟨i21,i22⟩=>(bif (decide (i21<cU.len))then((c0 (zA cU i21 i22) 0:Option (Int)).bind fun n0=>(((bif (decide (n0<i22.len))then((dx i22.l n0).bind fun ajm=>((dx i22.l n0).bind fun af1=>((dx cU.l i21).bind fun af2=>some (af1.Cell==af2.Cell))))else some false):Option (Bool)).bind fun af3=>(bif af3 then((dx i22.l n0).bind fun ajn=>((dx i22.l n0).bind fun af4=>((dx cU.l i21).bind fun af5=>((dx i22.l n0).bind fun ajo=>((dx i22.l n0).bind fun af6=>some (.next ((ck (i21+1)),(mf i22 n0 (Term.mk af6.Cell (ck (af4.cV+af5.cV)))))))))))else((eT i22 n0 i22.len).bind fun af7=>((eT i22 n0 i22.len).bind fun Il=>((et 16 al.emp Il).bind fun sy=>((eT i22 0 n0).bind fun af8=>((eT i22 0 n0).bind fun Im=>((et 16 al.emp Im).bind fun pU=>((dx cU.l i21).bind fun af9=>((et 16 pU (al.mk [af9])).bind fun sz=>((et 16 sz sy).bind fun aga=>some (.next ((ck (i21+1)),aga))))))))))))))else some (.out i22))
def xa (u0:(al Term)):(Int × (al Term))->Option (hf (Int × (al Term)) ((al Term))):=fun⟨i151,i152⟩=>(bif (decide (i151<u0.len))then((dx u0.l i151).bind fun ajp=>((dx u0.l i151).bind fun agb=>(bif (agb.cV != 0)then((dx u0.l i151).bind fun ajq=>((dx u0.l i151).bind fun agc=>((et 16 i152 (al.mk [agc])).bind fun agd=>some (.next ((ck (i151+1)),agd)))))else some (.next ((ck (i151+1)),i152)))))else some (.out i152))
def xb (cU:(al Term)):Option ((al Term)):=
 ((c0 (sx cU) (0,.emp):Option ((al Term))).bind fun u0=>((c0 (xa u0) (0,.emp):Option ((al Term))).bind fun age=>some age))
def zB (cU:(al Change))(fE:(al Change)):(Int)->Option (hf (Int) (oJ (Unit) (Unit))):=fun i8=>(bif (decide (i8<cU.len))then((dx cU.l i8).bind fun q6=>((dx fE.l i8).bind fun zy=>(bif ((q6.Cell==zy.Cell)&&((q6.Add==zy.Add)&&true))then some (.next (ck (i8+1)))else some (.out (.ret ())))))else some (.out (.go ())))
def u1 (cU:(al Change))(fE:(al Change)):Option (Bool):=
 (bif (cU.len != fE.len)then some false else((c0 (zB cU fE) 0:Option (oJ (Unit) (Unit))).bind fun Ij=>match Ij with| .go _=>some true| .ret _=>some false))
def zC (xc:(al Change)):(Int × (al Term))->Option (hf (Int × (al Term)) ((al Term))):=fun⟨i32,i33⟩=>(bif (decide (i32<xc.len))then((dx xc.l i32).bind fun CI=>((et 16 i33 (al.mk [(Term.mk CI.Cell CI.Add)])).bind fun agf=>some (.next ((ck (i32+1)),agf))))else some (.out i33))
def zD (cU:(al (al Change))):(Int × (al Term))->Option (hf (Int × (al Term)) ((al Term))):=fun⟨i11,i12⟩=>(bif (decide (i11<cU.len))then((dx cU.l i11).bind fun xc=>((c0 (zC xc) (0,i12):Option ((al Term))).bind fun agh=>some (.next ((ck (i11+1)),agh))))else some (.out i12))
def zE (CJ:(al Term)):(Int × (al Change))->Option (hf (Int × (al Change)) ((al Change))):=fun⟨i99,i100⟩=>(bif (decide (i99<CJ.len))then((dx CJ.l i99).bind fun TE=>((et 16 i100 (al.mk [(Change.mk TE.Cell TE.cV)])).bind fun agi=>some (.next ((ck (i99+1)),agi))))else some (.out i100))
def xd (cU:(al (al Change))):Option ((al Change)):=
 ((c0 (zD cU) (0,.nil):Option ((al Term))).bind fun Io=>((qY Io).bind fun CJ=>((c0 (zE CJ) (0,.nil):Option ((al Change))).bind fun agj=>some agj)))
def zF (cU:(al Change)):(Int × (al Term))->Option (hf (Int × (al Term)) ((al Term))):=fun⟨i11,i12⟩=>(bif (decide (i11<cU.len))then((dx cU.l i11).bind fun xc=>((dx cU.l i11).bind fun Ip=>((et 16 i12 (al.mk [(Term.mk xc.Cell Ip.Add)])).bind fun agk=>some (.next ((ck (i11+1)),agk)))))else some (.out i12))
def zG (u2:(al Term)):(Int × (al Change))->Option (hf (Int × (al Change)) ((al Change))):=fun⟨i57,i58⟩=>(bif (decide (i57<u2.len))then((dx u2.l i57).bind fun agl=>((dx u2.l i57).bind fun agm=>((et 16 i58 (al.mk [(Change.mk agl.Cell agm.cV)])).bind fun agn=>some (.next ((ck (i57+1)),agn)))))else some (.out i58))
def zH (cU:(al Change)):Option ((al Change)):=
 ((c0 (zF cU) (0,.emp):Option ((al Term))).bind fun Io=>((xb Io).bind fun u2=>((c0 (zG u2) (0,.emp):Option ((al Change))).bind fun ago=>some ago)))
def xe (fE:(al Change))(CK:Term):(Int × Int)->Option (hf (Int × Int) (Int)):=fun⟨i33,i34⟩=>(bif (decide (i34<fE.len))then((dx fE.l i34).bind fun TF=>(bif (TF.Cell==CK.Cell)then some (.next ((ck (i33+(ck (CK.cV*TF.Add)))),(ck (i34+1))))else some (.next (i33,(ck (i34+1))))))else some (.out i33))
def zI (cU:Row)(fE:(al Change)):(Int × Int)->Option (hf (Int × Int) (Int)):=fun⟨i12,i13⟩=>(bif (decide (i13<cU.lI.len))then((dx cU.lI.l i13).bind fun CK=>((c0 (xe fE CK) (i12,0):Option (Int)).bind fun agp=>some (.next (agp,(ck (i13+1))))))else some (.out i12))
def CL (cU:Row)(fE:(al Change)):Option (Int):=
 ((c0 (zI cU fE) (0,0):Option (Int)).bind fun Iq=>some Iq)
def xf (cU:Row)(fE:(al Change))(i13:Int):(Int × Int)->Option (hf (Int × Int) (Int)):=fun⟨i26,i27⟩=>(bif (decide (i27<fE.len))then((dx cU.lI.l i13).bind fun agq=>((dx fE.l i27).bind fun agr=>(bif (agq.Cell==agr.Cell)then((dx cU.lI.l i13).bind fun ags=>((dx fE.l i27).bind fun agt=>some (.next ((ck (i26+(ck (ags.cV*agt.Add)))),(ck (i27+1))))))else some (.next (i26,(ck (i27+1)))))))else some (.out i26))
def zJ (cU:Row)(fE:(al Change)):(Int × Int)->Option (hf (Int × Int) (Int)):=fun⟨i12,i13⟩=>(bif (decide (i13<cU.lI.len))then((c0 (xf cU fE i13) (i12,0):Option (Int)).bind fun agu=>some (.next (agu,(ck (i13+1)))))else some (.out i12))
def CM (cU:Row)(fE:(al Change)):Option (Int):=
 ((c0 (zJ cU fE) (0,0):Option (Int)).bind fun Iq=>some Iq)
def CN (cU:(al Term))(fE:(al Change))(Ir:(al Change))(TG:Int):Option (Bool):=
 ((G9).bind fun mh=>(bif mh then((((CH cU).bind fun agv=>(bif agv then((zw fE).bind fun agw=>(bif agw then((zw Ir).bind fun agx=>some (!agx))else some true))else some true)):Option (Bool)).bind fun agy=>(bif agy then some true else((((qY cU).bind fun Ip=>((xb cU).bind fun agz=>((zz Ip agz).bind fun agA=>(bif agA then((xd (al.mk [fE,Ir])).bind fun agB=>((wO 16 fE).bind fun Is=>((et 16 Is Ir).bind fun It=>((zH It).bind fun agC=>((u1 agB agC).bind fun CI=>(bif CI then((xd (al.mk [fE])).bind fun TD=>((zH fE).bind fun agD=>((u1 TD agD).bind fun u2=>(bif u2 then((xd al.nil).bind fun Ik=>(bif (Ik.len==0)then((CL (Row.mk cU TG) fE).bind fun agE=>((CM (Row.mk cU TG) fE).bind fun agF=>some (agE==agF)))else some false))else some false))))else some false))))))else some false)))):Option (Bool)).bind fun agG=>some agG)))else some false))
end
end Go.Abs.cb
namespace Go.Abs.cb
open Go Go.Abs
def k4{α:Type}(l:List α):Prop:=l.length<4611686018427387904
theorem pV{α:Type}(x:al α):x.len=(x.l.length:Int):=rfl
theorem sA{α:Type}{hv:Nat}{x y:al α}(hb:hv+1<=1000)(h:x.l.length+y.l.length<=1000000000):∃z,et hv x y=some z/\z.l=x.l++y.l:=by
 unfold et;split
 ·rename_i e;exact⟨x,rfl,by rw[e];simp⟩
 ·have:(x.l.length+y.l.length)*(hv+1)<=2^40:=by
   have:(x.l.length+y.l.length)*(hv+1)<=1000000000*1000:=Nat.mul_le_mul h hb;omega
  rw[if_pos this];exact⟨_,rfl,rfl⟩
theorem iK{α:Type}{x:al α}{k:Nat}(h:k<x.l.length):decide ((k:Int)<x.len)=true:=by rw[pV];simp;exact h
theorem k5{α:Type}{x:al α}:decide ((x.l.length:Int)<x.len)=false:=by rw[pV];simp
theorem fV{k:Nat}(h:k<4611686018427387904):ck ((k:Int)+1)=((k+1:Nat):Int):=by rw[CG (by omega) (by omega)];rfl
theorem sB{α:Type}{l:List α}{k:Nat}{x:α}(h:l[k]? =some x):k<l.length:=(fu.1 h).1
end Go.Abs.cb
namespace Go.Abs.cb
open Go Go.Abs Go.Proofs
set_option maxRecDepth 100000
section
variable{W:World}{H:Type}{enc:TypeId × Value->H}
def CO (P:Program)(t:TypeId)(d:DataW H):Prop:=∀n∈d.weights P t,n<=reachBytes
theorem Iu{bc:List TypeId}{ds:List (DataW H)}(h:(DataW.weightsEach Tryz.prog bc ds).all (· <=reachBytes)=true){j:Nat}{t:TypeId}{d:DataW H}(ht:bc[j]? =some t)(hd:ds[j]? =some d):CO Tryz.prog t d:=fun n hn=>by
 have:=eV.1 h n (DataW.weights_mem_each ht hd n hn);simpa using this
theorem TH{t e:TypeId}{elems spare:List (DataW H)}(ht:Tryz.prog.underlying t=some (.slice e))(hb:1<=Tryz.prog.bytesOf e)(h:CO Tryz.prog t (.slice elems spare)):elems.length<4611686018427387904:=by
 have h1:=h _ (afK ht);have h2:=reachBytes_lt;have aq:elems.length*1<=(elems.length+spare.length)*Tryz.prog.bytesOf e:=Nat.mul_le_mul (by omega) hb;omega
theorem TI:∀{ls:List (List V)},(∀l∈ls,∃x:Change,l=aL (lH x))->∃xs:List Change,ls.map pR=xs.map lH/\xs.length=ls.length
 |[],_=>⟨[],rfl,rfl⟩
 |l::ls,h=>by
  obtain⟨x,rfl⟩:=h l (by simp);obtain⟨xs,h1,h2⟩:=TI (ls:=ls) fun m hm=>h m (by simp[hm]);exact⟨x::xs,by rw[cW,cW,h1];rfl,by simp[h2]⟩
theorem agH:oU Tryz.prog 12 23=true:=by kernel_rfl
theorem agI:23<Tryz.prog.types.size:=of_decide_eq_true (by kernel_rfl)
theorem agJ{b:Nat}{v:Value}(hval:Value.okWide Tryz.prog W .any b 23 v):v.cells.toList=[v]:=by
 unfold Value.okWide at hval;rw[Tryz.underlying23]at hval;simp only[Cell.okWide,Tryz.underlying23]at hval;cases v<;>first|rfl|(simp[Cell.ok,Tryz.underlying23]at hval)
theorem TJ{b:Nat}{v:Value}(hval:Value.okWide Tryz.prog W .any b 23 v){d:DataW H}{p:List MemPlace}{held:Bool}(hd:DataW.Trod enc Tryz.prog W 0 (fun _=>true) held 23 v d p)(hn:CO Tryz.prog 23 d):∃s:al Change,k4 s.l/\ev W (oD W).I (b4 2 lH s) v:=by
 obtain⟨e7,h,h2⟩:=Ig laidOut agI agH (agJ hval) hd;rcases Tw Tryz.underlying23 h with⟨rfl,ad⟩|⟨elems,spare,ls,rfl,ad,hl,hr⟩
 ·cases ad
  exact⟨.nil,by unfold k4;decide,h2⟩
 ·cases ad
  have hlen:=TH Tryz.underlying23 (of_decide_eq_true (by kernel_rfl)) hn;rw[show Tryz.prog.cellsOf 35=2 by kernel_rfl]at h2
  obtain⟨xs,aq,bf⟩:=TI (ls:=ls) fun l w9=>by
   obtain⟨i,hi⟩:=C0 w9;have nL:i<ls.length:=(fu.1 hi).1;exact afY (hr i _ l (gk (by omega)) hi)
  refine⟨.mk xs,by show xs.length<_;omega,?_⟩;rw[aq]at h2;exact h2
theorem TK:∀{ls:List (List V)},(∀l∈ls,∃x:Term,l=aL (jU x))->∃xs:List Term,ls.map pR=xs.map jU/\xs.length=ls.length
 |[],_=>⟨[],rfl,rfl⟩
 |l::ls,h=>by
  obtain⟨x,rfl⟩:=h l (by simp);obtain⟨xs,h1,h2⟩:=TK (ls:=ls) fun m hm=>h m (by simp[hm]);exact⟨x::xs,by rw[cW,cW,h1];rfl,by simp[h2]⟩
theorem agK:oU Tryz.prog 12 22=true:=by kernel_rfl
theorem agL:22<Tryz.prog.types.size:=of_decide_eq_true (by kernel_rfl)
theorem agM{b:Nat}{v:Value}(hval:Value.okWide Tryz.prog W .any b 22 v):v.cells.toList=[v]:=by
 unfold Value.okWide at hval;rw[Tryz.underlying22]at hval;simp only[Cell.okWide,Tryz.underlying22]at hval;cases v<;>first|rfl|(simp[Cell.ok,Tryz.underlying22]at hval)
theorem agN{b:Nat}{v:Value}(hval:Value.okWide Tryz.prog W .any b 22 v){d:DataW H}{p:List MemPlace}{held:Bool}(hd:DataW.Trod enc Tryz.prog W 0 (fun _=>true) held 22 v d p)(hn:CO Tryz.prog 22 d):∃s:al Term,k4 s.l/\ev W (oD W).I (b4 2 jU s) v:=by
 obtain⟨e7,h,h2⟩:=Ig laidOut agL agK (agM hval) hd;rcases Tw Tryz.underlying22 h with⟨rfl,ad⟩|⟨elems,spare,ls,rfl,ad,hl,hr⟩
 ·cases ad
  exact⟨.nil,by unfold k4;decide,h2⟩
 ·cases ad
  have hlen:=TH Tryz.underlying22 (of_decide_eq_true (by kernel_rfl)) hn;rw[show Tryz.prog.cellsOf 59=2 by kernel_rfl]at h2
  obtain⟨xs,aq,bf⟩:=TK (ls:=ls) fun l w9=>by
   obtain⟨i,hi⟩:=C0 w9;have nL:i<ls.length:=(fu.1 hi).1;exact afX (hr i _ l (gk (by omega)) hi)
  refine⟨.mk xs,by show xs.length<_;omega,?_⟩;rw[aq]at h2;exact h2
theorem agO:oU Tryz.prog 8 3=true:=by kernel_rfl
theorem agP:3<Tryz.prog.types.size:=of_decide_eq_true (by kernel_rfl)
theorem agQ{b:Nat}{v:Value}(hval:Value.okWide Tryz.prog W .any b 3 v):v.cells.toList=[v]:=by
 unfold Value.okWide at hval;rw[Tryz.underlying3]at hval;simp only[Cell.okWide,Tryz.underlying3]at hval;cases v<;>first|rfl|(simp[Cell.ok,Tryz.underlying3]at hval)
theorem open_int{b:Nat}{v:Value}(hval:Value.okWide Tryz.prog W .any b 3 v){d:DataW H}{p:List MemPlace}{held:Bool}(hd:DataW.Trod enc Tryz.prog W 0 (fun _=>true) held 3 v d p):∃n:Int,ev W (oD W).I (iF n) v:=by
 obtain⟨e7,h1,h2⟩:=Ig laidOut agP agO (agQ hval) hd;obtain⟨n,-,ad,-⟩:=zt Tryz.underlying3 h1;cases ad;exact⟨n,h2⟩
end
end Go.Abs.cb
namespace Go.Proofs.YtemakagmboeodaaGreatDoor.sums
open Go Go.Abs Go.Abs.cb Go.Proofs Go.ChangeShapes Go.WideShapes Go.ChangeAt Go.RowKit
set_option maxRecDepth 100000
theorem agR{H:Type}{enc:TypeId × Value->H}{f:Func}{s:ChangeSpec}{apart fresh handsOn again:Bool}{W W':World}{args:Array Value}{ds gs:List (DataW H)}{before:List MemPlace}{G':bw}{H':Heap}
  (hW:DataW.Whole enc Tryz.prog f.params.toList s.vars apart W args.toList ds gs before) (ad:s.vars=[]) (hT:∀t∈f.params.toList,t<Tryz.prog.types.size) (hr:f.resultTypes= #[4])
  (fx:(s.fn H (ds++gs)).results=[.lit (.bool true)]) (agS:gs=[]->(s.fn H (ds++gs)).args=ds) (uO:(s.fn H (ds++gs)).vars=[])
  (aa:aQ (C fun b=>W.heap[b]?) id G' H' W') (ho:W'.os=W.os) (hp:W'.output=W.output):s.post enc Tryz.prog f apart fresh handsOn again W args (.bool true) W':=by
 have aY:=hW.lt;have hold:∀p∈before,(fun b=>decide (b<W.heap.size)) p.block=true:=fun p hp=>by simpa using aY p hp
 have agT:=hW;obtain⟨pa,q,hA,hV,oe,aP,hn⟩:=hW;rw[ad]at hV;obtain⟨tv,rfl⟩:=trodVars_none hV;rw[lQ]at oe;subst oe
 have mA:∀sp:Nat->Bool,(∀p∈before,sp p.block=true)->DataW.TrodAll enc Tryz.prog W' 0 sp true f.params.toList args.toList (s.fn H (ds++gs)).args before:=fun sp gp=>by
  rw[agS tv];exact TB kids (fun h hu=>afU h hu) hT hA (fun q a8=>afV aa (aY q a8)) gp
 have TL:∀sp:Nat->Bool,DataW.TrodVars enc Tryz.prog W' sp s.vars (s.fn H (ds++gs)).vars []:=fun sp=>by rw[ad,uO];rfl
 have nD:∀(b:Nat) (sp:Nat->Bool) (hd:Bool),DataW.TrodAll enc Tryz.prog W' b sp hd f.resultTypes.toList ((Value.bool true).resultList f.resultTypes.size) (s.fn H (ds++gs)).results []:=fun b sp hd=>by
  rw[hr,fx];exact trodAll_cons_mk (shut_bool Tryz.underlying4 _) trodAll_mk0
 refine⟨ds,gs,before,[],before,[],agT,nD _ _ _,mA _ hold,TL _,afN aa ho hp _,fun _=> ?_⟩;refine⟨ok_one hr rfl (okWide_bool_mk Tryz.underlying4 _),_,_,([]++before)++[],⟨[]++before,[],trodAll_append (mA _ (fun _ _=>rfl)) (nD _ _ _),TL _,rfl,?_,?_⟩,?_⟩
 ·intro b off l3
  have hm:MemPlace.cell b off∈before:=by simpa using l3
  rw[afW aa (aY _ hm)];exact aP b off hm
 ·intro ha
  simpa using hn ha
 ·intro p l3 _
  simpa using l3
theorem agU{W:World}(h:laidMetH Tryz.prog Rows.effectSumsRow.laid W):Lib.TabIs Tryz.prog W "strings.asciiSpace" .u8 Lib.asciiSpaceTab:=by
 have af:(Rows.effectSumsRow.laid.filter fun x=>x.2.handleName?.isSome)=[]:=by kernel_rfl
 unfold laidMetH at h;rw[af]at h
 have hm:("strings.asciiSpace",Lib.tabData .u8 Lib.asciiSpaceTab)∈Rows.effectSumsRow.laid:=by
  have e:Rows.effectSumsRow.laid[7]? =some ("strings.asciiSpace",Lib.tabData .u8 Lib.asciiSpaceTab):=by kernel_rfl
  exact ml e
 exact Tz (g:=0) (t:=361) (e:=5) (n:=256) (by kernel_rfl) (by kernel_rfl) (by kernel_rfl) (by kernel_rfl) (by kernel_rfl) (by kernel_rfl) h hm
theorem agV{W:World}(h:laidMetH Tryz.prog Rows.effectSumsRow.laid W):Lib.TabIs Tryz.prog W "internal/strconv.uint64pow10" .u64 Lib.pow10Tab:=by
 have af:(Rows.effectSumsRow.laid.filter fun x=>x.2.handleName?.isSome)=[]:=by kernel_rfl
 unfold laidMetH at h;rw[af]at h
 have hm:("internal/strconv.uint64pow10",Lib.tabData .u64 Lib.pow10Tab)∈Rows.effectSumsRow.laid:=by
  have e:Rows.effectSumsRow.laid[2]? =some ("internal/strconv.uint64pow10",Lib.tabData .u64 Lib.pow10Tab):=by kernel_rfl
  exact ml e
 exact Tz (g:=7) (t:=432) (e:=145) (n:=20) (by kernel_rfl) (by kernel_rfl) (by kernel_rfl) (by kernel_rfl) (by kernel_rfl) (by kernel_rfl) h hm
theorem walk{W:World}{ab:Nat->Option bQ}(bx:da (C fun b=>W.heap[b]?) id (gq fun b=>W.heap[b]?)->da (C fun b=>W.heap[b]?) id ab)(eI:laidMetH Tryz.prog Rows.effectSumsRow.laid W){i:Nat}{f:gR}(hi:ab i=some (.code f)){vs:List V}{xs:List Value}(cO:cD W (oD W).I vs xs)
  (he:cp ab (.fn i [] []) vs []=some (.bool true,[],0)):
  Calls Tryz.prog i ⟨xs⟩ W fun e W'=>e=.returned (.bool true)/\∃G' H',aQ (C fun b=>W.heap[b]?) id G' H' W'/\W'.os=W.os/\W'.output=W.output:=by
 obtain⟨n,hn⟩:=p9.1 he;have hT:da (C fun b=>W.heap[b]?) id ab:=bx <| abU (fun G H w aa=>TA aa (agV eI)) fun G H w aa=>TA aa (agU eI)
 have h:=LM (C:=C fun b=>W.heap[b]?) (fid:=id) (Checked.mixed Tryz.checked) qF hT hi hn (afL W) (cD.la cO);refine sP h fun e W' hp=> ?_;obtain⟨x,rfl,G',h1,h2,aq⟩:=hp;rw[aq.j6];have cP:=h2 0 (aI _);exact⟨rfl,G',_,h1,cP.os,cP.output⟩
end Go.Proofs.YtemakagmboeodaaGreatDoor.sums
namespace Go.Proofs.YtemakagmboeodaaGreatDoor
open Go Go.Abs Go.Abs.cb Go.Proofs
set_option maxRecDepth 100000
def u3:DataW Unit->List Value
 | .agg xs=>xs.map fun x=>match x with
   | .lit (.int k n)=>.int k n
   | _=>.tuple #[]
 | _=>[]
def agW:DataW Unit->List Value
 | .agg xs=>xs.flatMap u3
 | _=>[]
def TM:DataW Unit->Value
 | .iface _ (.ptr (.agg [.lit (.string s)]))=>.string ⟨⟨s⟩⟩
 | _=>.tuple #[]
def rowsOf:DataW Unit->List Value
 | .ptr (.agg (.slice xs _::_))=>xs.flatMap u3
 | _=>[]
def more:Array Obj:= #[.cells #[TM Rows.laid_strconv_ErrRange] 398 (0,0),.cells #[TM Rows.laid_strconv_ErrSyntax] 398 (0,0),
 .cells #[.slice (some ⟨19,0,none⟩) 7 7,.slice none 0 0,.int .i64 2] 412 (0,0),.cells (rowsOf Rows.laid_unicode_White_Space).toArray 415 (0,0)]
def q7 (cs:Array Value):Obj->Obj
 | .cells _ t f=>.cells cs t f
 |o=>o
noncomputable def CP (os:Os):World:=
 {World.holding Tryz.prog os ⟨more,#[],[]⟩with heap:=(((((((((World.holding Tryz.prog os ⟨more,#[],[]⟩).heap.modify 0 (q7 (u3 Rows.laid_strings_asciiSpace).toArray)).modify 7 (q7 (u3 Rows.laid_internal_strconv_uint64pow10).toArray)).modify 3 (q7 #[.pointer (some ⟨18,0,none⟩)])).modify 2 (q7 #[.iface 396 (.pointer (some ⟨16,0,none⟩))])).modify 1 (q7 #[.iface 396 (.pointer (some ⟨17,0,none⟩))])).modify 8 (q7 (u3 Rows.laid_math_bits_deBruijn32tab).toArray)).modify 9 (q7 (u3 Rows.laid_math_bits_deBruijn64tab).toArray)).modify 5 (q7 (u3 Rows.laid_unicode_utf8_first).toArray)).modify 6 (q7 (agW Rows.laid_unicode_utf8_acceptRanges).toArray)}
theorem own:ownKnob Tryz.prog.godebug=none:=by kernel_rfl
end Go.Proofs.YtemakagmboeodaaGreatDoor
namespace Go.Abs.cb
open Go Go.Abs Go.Abs.fM
theorem oW:eJ gx where
 e7:=fun t x B ρ fs=>match t,x with
  |0,x=>.int
  |1,x=>(.aeO (aeP (i:=0) rfl))
  |2,x=>.str
  |3,x=>.int
  |4,x=>.agg (.cons .int (.cons .int .nil))
  |5,x=>.sl
  |6,x=>.agg (.cons .int (.cons .int .nil))
  |7,x=>.sl
  |8,x=>.sl
  |9,x=>.agg (.cons .sl (.cons .int .nil))
  | _+10,_=>.k
 gu:=fun t v B ρ fs w x ad h=>match t,x,h with
  |0,x,h=>uV (U:=gx) (k:=.i64) (n:=x) (v:=v) h ad
  |1,x,h=>aeQ (U:=gx) (B:=B) (c:=x) (v:=v) h ad
  |2,x,h=>aeR (U:=gx) (s:=x) (v:=v) h ad
  |3,x,h=>uV (U:=gx) (k:=.u8) (n:=x) (v:=v) h ad
  |4,x,h=>by
   obtain⟨vs,ws,rfl,hr,h⟩:=HY (U:=gx) h ad;split at h
   ·obtain⟨_,_,rfl,oV,hr⟩:=bT.inv hr;obtain⟨_,_,rfl,q1,hr⟩:=bT.inv hr;cases bT.HV hr
    obtain⟨gX,h0,h⟩:=sE.1 h;obtain⟨mh,h1,h⟩:=sE.1 h;cases h;rw[uV h0 oV,uV h1 q1];rfl
   ·cases h
  |5,x,h=>Cw (U:=gx) (t:=4) h ad
  |6,x,h=>by
   obtain⟨vs,ws,rfl,hr,h⟩:=HY (U:=gx) h ad;split at h
   ·obtain⟨_,_,rfl,oV,hr⟩:=bT.inv hr;obtain⟨_,_,rfl,q1,hr⟩:=bT.inv hr;cases bT.HV hr
    obtain⟨gX,h0,h⟩:=sE.1 h;obtain⟨mh,h1,h⟩:=sE.1 h;cases h;rw[uV h0 oV,uV h1 q1];rfl
   ·cases h
  |7,x,h=>Cw (U:=gx) (t:=6) h ad
  |8,x,h=>Cw (U:=gx) (t:=7) h ad
  |9,x,h=>by
   obtain⟨vs,ws,rfl,hr,h⟩:=HY (U:=gx) h ad;split at h
   ·obtain⟨_,_,rfl,oV,hr⟩:=bT.inv hr;obtain⟨_,_,rfl,q1,hr⟩:=bT.inv hr;cases bT.HV hr
    obtain⟨gX,h0,h⟩:=sE.1 h;obtain⟨mh,h1,h⟩:=sE.1 h;cases h;rw[Cw (U:=gx) (t:=4) h0 oV,uV h1 q1];rfl
   ·cases h
  | _+10,_,h=>by cases h
 bS:=fun t x=>match t,x with
  |0,x=>rfl
  |1,x=>rfl
  |2,x=>rfl
  |3,x=>rfl
  |4,x=>adw x
  |5,x=>BF _ _ _
  |6,x=>ady x
  |7,x=>BF _ _ _
  |8,x=>BF _ _ _
  |9,x=>adA x
  | _+10,_=>rfl
 ok:=fun t x=>match t,x with
  |0,x=>rfl
  |1,x=>rfl
  |2,x=>rfl
  |3,x=>rfl
  |4,x=>adx x
  |5,x=>HW _ _ _
  |6,x=>adz x
  |7,x=>HW _ _ _
  |8,x=>HW _ _ _
  |9,x=>adB x
  | _+10,_=>rfl
 es:=fun t x=>match t,x with
  |0,x=>rfl
  |1,x=>rfl
  |2,x=>rfl
  |3,x=>rfl
  |4,x=>rfl
  |5,x=>HX _ _ _
  |6,x=>rfl
  |7,x=>HX _ _ _
  |8,x=>HX _ _ _
  |9,x=>rfl
  | _+10,_=>rfl
 aO:=fun t x=>match t,x with
  |0,x=>fun h=>rfl
  |1,x=>fun h=>rfl
  |2,x=>fun h=>rfl
  |3,x=>fun h=>rfl
  |4,x=>fun h=>by cases h
  |5,x=>fun h=>by cases h
  |6,x=>fun h=>by cases h
  |7,x=>fun h=>by cases h
  |8,x=>fun h=>by cases h
  |9,x=>fun h=>by cases h
  | _+10,_=>fun h=>by cases h
 RF:=fun t n h=>by
  have h:G5 t=some n:=h;unfold G5 at h;split at h<;>cases h
  ·exact acL
  ·exact acM
end Go.Abs.cb
namespace Go.Abs
open Go
def di (k:Int):List (Int × Int)->Int
 |[]=>0
 |t::l=>(if t.1=k then t.2 else 0)+di k l
theorem agX{k:Int}{a b:List (Int × Int)}(h:a.Perm b):di k a=di k b:=by
 induction h with
 |nil=>rfl
 |cons x _ ih=>simp only[di,ih]
 |swap x y l=>simp only[di];omega
 |trans _ _ agY agZ=>rw[agY,agZ]
theorem Iv (k:Int):∀l:List (Int × Int),di k (l.filter fun p=>p.2 != 0)=di k l
 |[]=>rfl
 |t::l=>by
  have ih:=Iv k l;by_cases h:t.2=0
  ·have:(t.2 != 0)=false:=by simp[h]
   rw[Dc,this];simp only[di,h,ite_self,z6];exact ih
  ·have:(t.2 != 0)=true:=by simp[h]
   rw[Dc,this];simp only[di,if_true,ih]
theorem xg{k:Int}:∀{l:List (Int × Int)},k∉l.map Prod.fst->di k l=0
 |[],_=>rfl
 |t::l,h=>by
  rw[cW,cY,not_or]at h;have h1:¬t.1=k:=fun e=>h.1 e.symm;simp only[di,if_neg h1,xg h.2,Int.add_zero]
theorem TN{k:Int}:∀{es:List (Int × Int)},(es.map Prod.fst).Nodup->(uC k es).getD 0=di k es
 |[],_=>rfl
 |(j,v)::es,h=>by
  rw[cW,n4]at h;simp only[uC,di];by_cases e:k=j
  ·subst e
   rw[if_pos rfl,if_pos rfl,xg h.1];simp
  ·rw[if_neg e,if_neg fun q=>e q.symm,TN h.2]
   omega
theorem TP{k c v:Int}:∀{es:List (Int × Int)},(es.map Prod.fst).Nodup->di k (jj c v es)=if k=c then v else di k es
 |[],_=>by
  simp only[jj,di];by_cases e:k=c
  ·rw[if_pos e,if_pos e.symm];omega
  ·rw[if_neg e,if_neg fun q=>e q.symm];omega
 |(j,u)::es,h=>by
  rw[cW,n4]at h;simp only[jj];by_cases e:c=j
  ·subst e
   rw[if_pos rfl];simp only[di];by_cases ai:k=c
   ·subst ai
    rw[if_pos rfl,if_pos rfl,xg h.1];omega
   ·have bz:¬c=k:=fun q=>ai q.symm
    rw[if_neg bz,if_neg ai,if_neg bz]
  ·rw[if_neg e]
   simp only[di,TP h.2];by_cases ai:k=c
   ·subst ai
    rw[if_pos rfl,if_pos rfl,if_neg fun q=>e q.symm];omega
   ·rw[if_neg ai,if_neg ai]
theorem ag0 (l:List (Int × Int)):((e0 l).map Prod.fst).Nodup:=by
 have h:=RX (RT l) fun p=>p.2 != 0;exact((qX ((gi l).filter fun p=>p.2 != 0)).map Prod.fst).nodup_iff.2 h
theorem ag1{l:List (Int × Int)}{t:Int × Int}(h:t∈e0 l):t.2≠0:=by
 unfold e0 at h;have:=(qX _).mem_iff.1 h;rw[De]at this;simpa using this.2
theorem zK (l:List (Int × Int)):(e0 l).length<=l.length:=by
 unfold e0;rw[(qX _).length_eq];exact cA (List.length_filter_le _ _) (RW l)
theorem TQ (l:List (Int × Int)):(e0 l).Pairwise fun x y=>x.1<y.1:=by
 have h1:(e0 l).Pairwise fun x y=>pK x y=true:=G7 _;have h2:=ag0 l;rw[List.nodup_iff_pairwise_ne,C7]at h2;refine(h1.and h2).imp fun {a b} h=> ?_;have:=h.1;unfold pK at this;simp only[decide_eq_true_eq]at this;have:=h.2;omega
theorem TR{l:List (Int × Int)}(hn:(l.map Prod.fst).Nodup){t:Int × Int}(h:t∈l):di t.1 l=t.2:=by
 induction l with
 |nil=>cases h
 |cons a l ih=>
  rw[cW,n4]at hn;simp only[di];rcases cY.1 h with rfl|h
  ·rw[if_pos rfl,xg hn.1];omega
  ·have h1:¬a.1=t.1:=fun e=>hn.1 (by rw[e];exact mm h)
   rw[if_neg h1,ih hn.2 h];omega
theorem ag2:∀{a b:List (Int × Int)},(a.Pairwise fun x y=>x.1<y.1)->(b.Pairwise fun x y=>x.1<y.1)->(∀t∈a,t.2≠0)->(∀t∈b,t.2≠0)->(∀k,di k a=di k b)->a=b:=by
 intro a b ha hb Iw ag3 h
 have cI:∀{l:List (Int × Int)},(l.Pairwise fun x y=>x.1<y.1)->(l.map Prod.fst).Nodup:=fun {l} h=>by
  rw[List.nodup_iff_pairwise_ne,C7];exact h.imp fun {x y} h=>by omega
 have TS:∀{l:List (Int × Int)},(l.Pairwise fun x y=>x.1<y.1)->l.Nodup:=fun {l} h=>h.imp fun {x y} h e=>by rw[e]at h;omega
 have key:∀{a b:List (Int × Int)},(a.map Prod.fst).Nodup->(b.map Prod.fst).Nodup->(∀t∈a,t.2≠0)->(∀k,di k a=di k b)->∀t∈a,t∈b:=by
  intro a b ag4 oM Iw h t ht;have h1:=TR ag4 ht;have h2:=Iw t ht;have aq:=h t.1;by_cases hm:t.1∈b.map Prod.fst
  ·obtain⟨u,hu,e⟩:=dn.1 hm
   have bf:=TR oM hu;rw[e]at bf;have:u=t:=Prod.ext e (by omega);exact this ▸ hu
  ·have:=xg hm
   omega
 have hp:a.Perm b:=(Uj (TS ha) (TS hb)).2 fun t=>⟨key (cI ha) (cI hb) Iw h t,key (cI hb) (cI ha) ag3 (fun k=>(h k).symm) t⟩;exact List.Perm.eq_of_pairwise (le:=fun x y=>x.1<y.1) (fun x y _ _ h1 h2=>by omega) ha hb hp
end Go.Abs
namespace Go.Abs.cb
open Go Go.Abs
noncomputable section
def pos (c:Int):List Term->Nat
 |[]=>0
 |t::r=>if t.Cell<c then pos c r+1 else 0
theorem TT (c:Int):∀l:List Term,pos c l<=l.length
 |[]=>aI _
 |t::r=>by
  unfold pos;split
  ·have:=TT c r;simp;omega
  ·exact ct _
theorem ag5 (a:al Term)(i:Nat)(out:al Term){t:Term}(hi:a.l[i]? =some t)(gZ:out.l.length<=100000):∀(d k:Nat),k+d=out.l.length->c0 (zA a (i:Int) out) (k:Int)=some (((k+pos t.Cell (out.l.drop k):Nat):Int)):=by
 intro d
 induction d with
 |zero=>
  intro k hk;have hk:k=out.l.length:=by omega
  subst hk;rw[fK];simp only[zA,k5,cond_false,dM];rw[List.drop_length];rfl
 |succ d ih=>
  intro k hk;have aY:k<out.l.length:=by omega
  have aT:=gk aY;rw[fK];simp only[zA,iK aY,cond_true,iJ,aT,hi,dM];rw[xh aY];unfold pos;cases hc:decide (out.l[k].Cell<t.Cell)with
  |true=>
   rw[if_pos (of_decide_eq_true hc)];simp only[cond_true,fV (show k<4611686018427387904 by omega)];rw[ih (k+1) (by omega)];congr 2;omega
  |false=>
   rw[if_neg (of_decide_eq_false hc)];rfl
theorem ag6 (a:al Term)(i:Nat)(out:al Term){t:Term}(hi:a.l[i]? =some t)(gZ:out.l.length<=100000):c0 (zA a (i:Int) out) 0=some ((pos t.Cell out.l:Nat):Int):=by
 have:=ag5 a i out hi gZ out.l.length 0 (by omega);rw[dK,o4]at this;exact this
def ins (t:Term):List Term->List Term
 |[]=>[t]
 |x::r=>if x.Cell<t.Cell then x::ins t r else if x.Cell=t.Cell then⟨x.Cell,ck (x.cV+t.cV)⟩::r else t::x::r
theorem Ix (t:Term):∀l:List Term,ins t l=match l[pos t.Cell l]? with
  |some x=>if x.Cell=t.Cell then l.set (pos t.Cell l) ⟨x.Cell,ck (x.cV+t.cV)⟩else l.take (pos t.Cell l)++t::l.drop (pos t.Cell l)
  |none=>l++[t]
 |[]=>rfl
 |x::r=>by
  unfold ins pos;by_cases h:x.Cell<t.Cell
  ·rw[if_pos h,if_pos h,Ix t r,sF]
   cases hx:r[pos t.Cell r]? with
   |none=>rfl
   |some y=>
    simp only;split<;>rfl
  ·rw[if_neg h,if_neg h]
   rfl
end
end Go.Abs.cb
namespace Go.Abs.cb
open Go Go.Abs
noncomputable section
theorem ag7{α:Type}(x:al α)(i:Nat)(e:α):(mf x (i:Int) e).l=x.l.set i e:=by cases x<;>rfl
theorem TU{α:Type}{x:al α}{a c:Nat}(h1:a<=c)(h2:c<=x.l.length):∃z,eT x (a:Int) (c:Int)=some z/\z.l=(x.l.take c).drop a:=by
 cases x with
 |nil=>
  have h2:c<=0:=h2;exact⟨.nil,by unfold eT;exact if_pos ⟨by omega,by omega⟩,by simp[al.l]⟩
 |emp=>
  have h2:c<=0:=h2;exact⟨.emp,by unfold eT;exact if_pos ⟨by omega,by omega⟩,by simp[al.l]⟩
 |mk l=>
  have h2:c<=l.length:=h2;exact⟨.mk ((l.take c).drop a),by unfold eT;exact if_pos ⟨by omega,by omega,by omega⟩,rfl⟩
theorem ag8 (a:al Term)(i:Nat)(out:al Term){t:Term}(hi:a.l[i]? =some t)(hn:i<100000)(gZ:out.l.length<=50000):∃z,sx a ((i:Int),out)=some (.next (((i+1:Nat):Int),z))/\z.l=ins t out.l:=by
 have hp:=TT t.Cell out.l;have gV:=ag6 a i out hi (by omega);have lq:=fV (show i<4611686018427387904 by omega)
 have key:(∀x:Term,out.l[pos t.Cell out.l]? =some x->x.Cell≠t.Cell)->(∃z:al Term,((eT out ((pos t.Cell out.l:Nat):Int) out.len).bind fun af7=>((eT out ((pos t.Cell out.l:Nat):Int) out.len).bind fun Il=>((et 16 al.emp Il).bind fun sy=>((eT out 0 ((pos t.Cell out.l:Nat):Int)).bind fun af8=>((eT out 0 ((pos t.Cell out.l:Nat):Int)).bind fun Im=>((et 16 al.emp Im).bind fun pU=>((et 16 pU (al.mk [t])).bind fun sz=>(et 16 sz sy))))))))=some z/\z.l=ins t out.l):=by
  intro hm;obtain⟨s,ae,ai⟩:=TU (x:=out) (a:=pos t.Cell out.l) (c:=out.l.length) hp (aI _);obtain⟨u,f1,f2⟩:=TU (x:=out) (a:=0) (c:=pos t.Cell out.l) (ct _) hp;have ae:eT out ((pos t.Cell out.l:Nat):Int) out.len=some s:=ae;have f1:eT out 0 ((pos t.Cell out.l:Nat):Int)=some u:=f1;rw[List.take_length]at ai;rw[o4]at f2;have dH:s.l.length<=50000:=by rw[ai,xj];omega
  have rH:u.l.length<=50000:=by rw[f2,sI];omega
  obtain⟨sy,g1,g2⟩:=sA (hv:=16) (x:=(al.emp:al Term)) (y:=s) (by omega) (by show 0+_<=_;omega);obtain⟨pU,h1,h2⟩:=sA (hv:=16) (x:=(al.emp:al Term)) (y:=u) (by omega) (by show 0+_<=_;omega);have g2:sy.l=s.l:=g2;have h2:pU.l=u.l:=h2;obtain⟨sz,bM,dC⟩:=sA (hv:=16) (x:=pU) (y:=al.mk [t]) (by omega) (by rw[h2];show _+1<=_;omega);have dC:sz.l=u.l++[t]:=by rw[dC,h2];rfl
  obtain⟨z,m1,m2⟩:=sA (hv:=16) (x:=sz) (y:=sy) (by omega) (by rw[dC,g2,fO];show _+1+_<=_;omega);refine⟨z,by simp only[ae,f1,g1,h1,bM,m1,dM],?_⟩;rw[m2,dC,g2,ai,f2,Ix,jl];cases hx:out.l[pos t.Cell out.l]? with
  |none=>
   have:out.l.length<=pos t.Cell out.l:=List.getElem?_eq_none_iff.1 hx;rw[CV this,CW this];rfl
  |some x=>
   simp only;rw[if_neg (hm x hx)];rfl
 have aY:decide ((i:Int)<a.len)=true:=iK (sB hi);cases hx:out.l[pos t.Cell out.l]? with
 |none=>
  have hge:out.l.length<=pos t.Cell out.l:=List.getElem?_eq_none_iff.1 hx;have hd:decide (((pos t.Cell out.l:Nat):Int)<out.len)=false:=by rw[pV];simp;exact hge
  obtain⟨z,dI,z2⟩:=key (fun x q=>by rw[hx]at q;cases q);refine⟨z,?_,z2⟩;simp only[sx,aY,cond_true,gV,dM,hd,cond_false,iJ,hi,lq];revert dI;cases eT out ((pos t.Cell out.l:Nat):Int) out.len with
  |none=>intro dI;cases dI
  |some s=>
   simp only[dM];cases et 16 al.emp s with
   |none=>intro dI;cases dI
   |some sy=>
    simp only[dM];cases eT out 0 ((pos t.Cell out.l:Nat):Int)with
    |none=>intro dI;cases dI
    |some u=>
     simp only[dM];cases et 16 al.emp u with
     |none=>intro dI;cases dI
     |some pU=>
      simp only[dM];cases et 16 pU (al.mk [t])with
      |none=>intro dI;cases dI
      |some sz=>
       simp only[dM];intro dI;rw[dI];rfl
 |some x=>
  have hd:decide (((pos t.Cell out.l:Nat):Int)<out.len)=true:=iK (sB hx);cases he:(x.Cell==t.Cell)with
  |true=>
   refine⟨mf out ((pos t.Cell out.l:Nat):Int) (Term.mk x.Cell (ck (x.cV+t.cV))),?_,?_⟩
   ·simp only[sx,aY,cond_true,gV,dM,hd,iJ,hi,hx,he,lq]
   ·rw[ag7,Ix,hx]
    simp only;rw[if_pos (eq_of_beq he)]
  |false=>
   obtain⟨z,dI,z2⟩:=key (fun y q=>by rw[hx]at q;cases q;intro q2;rw[q2]at he;simp at he);refine⟨z,?_,z2⟩;simp only[sx,aY,cond_true,gV,dM,hd,iJ,hi,hx,he,cond_false,lq];revert dI;cases eT out ((pos t.Cell out.l:Nat):Int) out.len with
   |none=>intro dI;cases dI
   |some s=>
    simp only[dM];cases et 16 al.emp s with
    |none=>intro dI;cases dI
    |some sy=>
     simp only[dM];cases eT out 0 ((pos t.Cell out.l:Nat):Int)with
     |none=>intro dI;cases dI
     |some u=>
      simp only[dM];cases et 16 al.emp u with
      |none=>intro dI;cases dI
      |some pU=>
       simp only[dM];cases et 16 pU (al.mk [t])with
       |none=>intro dI;cases dI
       |some sz=>
        simp only[dM];intro dI;rw[dI];rfl
end
end Go.Abs.cb
namespace Go.Abs.cb
open Go Go.Abs
noncomputable section
def n1 (es:List Term)(l:List Term):List Term:=l.foldl (fun e t=>ins t e) es
theorem Iy (t:Term):∀l:List Term,(ins t l).length<=l.length+1
 |[]=>aI _
 |x::r=>by
  unfold ins;split
  ·have:=Iy t r;simp;omega
  ·split<;>simp
theorem TV:∀(l es:List Term),(n1 es l).length<=es.length+l.length
 |[],es=>aI _
 |t::l,es=>by
  have h1:=TV l (ins t es);have h2:=Iy t es;show(n1 (ins t es) l).length<=_;rw[iN];omega
theorem ag9 (a:al Term)(ha:a.l.length<=20000):∀(d k:Nat) (out:al Term),k+d=a.l.length->out.l.length<=20000+k->∃z,c0 (sx a) ((k:Int),out)=some z/\z.l=n1 out.l (a.l.drop k):=by
 intro d
 induction d with
 |zero=>
  intro k out hk ho;have hk:k=a.l.length:=by omega
  subst hk;exact⟨out,by rw[fK];simp only[sx,k5,cond_false],by rw[List.drop_length];rfl⟩
 |succ d ih=>
  intro k out hk ho;have aY:k<a.l.length:=by omega
  obtain⟨y,ae,ai⟩:=ag8 a k out (gk aY) (by omega) (by omega);have aq:=Iy a.l[k] out.l;obtain⟨z,f1,f2⟩:=ih (k+1) y (by omega) (by rw[ai];omega);refine⟨z,by rw[fK,ae];exact f1,?_⟩;rw[f2,ai,xh aY];rfl
theorem aha (o:al Term)(ho:o.l.length<=50000):∀(d k:Nat) (out:al Term),k+d=o.l.length->out.l.length<=k->∃z,c0 (xa o) ((k:Int),out)=some z/\z.l=out.l++(o.l.drop k).filter fun t=>t.cV != 0:=by
 intro d
 induction d with
 |zero=>
  intro k out hk h;have hk:k=o.l.length:=by omega
  subst hk;exact⟨out,by rw[fK];simp only[xa,k5,cond_false],by simp⟩
 |succ d ih=>
  intro k out hk h;have aY:k<o.l.length:=by omega
  have aT:=gk aY;have hn:=fV (show k<4611686018427387904 by omega);rw[xh aY,Dc];cases af:(o.l[k].cV != 0)with
  |true=>
   obtain⟨s,s1,s2⟩:=sA (hv:=16) (x:=out) (y:=al.mk [o.l[k]]) (by omega) (by show _+1<=_;omega);have s2:s.l=out.l++[o.l[k]]:=s2;obtain⟨z,f1,f2⟩:=ih (k+1) s (by omega) (by rw[s2,fO];show _+1<=_;omega);refine⟨z,?_,?_⟩
   ·rw[fK]
    simp only[xa,iK aY,cond_true,iJ,aT,dM,af,s1,hn];exact f1
   ·rw[f2,s2,if_pos rfl,jl];rfl
  |false=>
   obtain⟨z,f1,f2⟩:=ih (k+1) out (by omega) (by omega);refine⟨z,?_,?_⟩
   ·rw[fK]
    simp only[xa,iK aY,cond_true,iJ,aT,dM,af,cond_false,hn];exact f1
   ·rw[f2,if_neg (by simp)]
theorem ahb (a:al Term)(ha:a.l.length<=20000):∃z,xb a=some z/\z.l=(n1 [] a.l).filter fun t=>t.cV != 0:=by
 obtain⟨o,ae,ai⟩:=ag9 a ha a.l.length 0 .emp (by omega) (by show 0<=_;omega);have ae:c0 (sx a) (0,.emp)=some o:=ae;rw[o4]at ai;have ai:o.l=n1 [] a.l:=ai;have hl:=TV a.l [];obtain⟨z,f1,f2⟩:=aha o (by rw[ai];simp at hl;omega) o.l.length 0 .emp (by omega) (aI _);have f1:c0 (xa o) (0,.emp)=some z:=f1;refine⟨z,by unfold xb;rw[ae,dM,f1,dM],?_⟩;rw[f2,o4,ai];rfl
def gj (t:Term):Int × Int:=(t.Cell,t.cV)
theorem TW{t y:Term}:∀{l:List Term},y∈ins t l->y.Cell=t.Cell\/∃x∈l,y.Cell=x.Cell
 |[],h=>by
  rw[show ins t []=[t]from rfl,oZ]at h;exact .inl (by rw[h])
 |x::r,h=>by
  unfold ins at h;split at h
  ·rcases cY.1 h with rfl|h
   ·exact .inr ⟨_,by simp,rfl⟩
   ·rcases TW h with q|⟨z,aP,q⟩
    ·exact .inl q
    ·exact .inr ⟨z,by simp[aP],q⟩
  ·split at h
   ·rcases cY.1 h with rfl|h
    ·exact .inr ⟨x,by simp,rfl⟩
    ·exact .inr ⟨y,by simp[h],rfl⟩
   ·rcases cY.1 h with rfl|h
    ·exact .inl rfl
    ·exact .inr ⟨y,h,rfl⟩
theorem TX (t:Term):∀{l:List Term},(l.Pairwise fun x y=>x.Cell<y.Cell)->(ins t l).Pairwise fun x y=>x.Cell<y.Cell
 |[],_=>by rw[show ins t []=[t]from rfl];simp
 |x::r,h=>by
  have h:=o0.1 h;unfold ins;split
  ·rename_i aY
   refine o0.2 ⟨fun y hy=> ?_,TX t h.2⟩;rcases TW hy with q|⟨z,aP,q⟩
   ·rw[q];exact aY
   ·rw[q];exact h.1 z aP
  ·split
   ·exact o0.2 ⟨h.1,h.2⟩
   ·rename_i h1 h2
    refine o0.2 ⟨fun y hy=> ?_,o0.2 h⟩;rcases cY.1 hy with rfl|hy
    ·omega
    ·have:=h.1 y hy;omega
end
end Go.Abs.cb
namespace Go.Abs.cb
open Go Go.Abs
noncomputable section
theorem zL (n:Int):∃k:Int,ck n=n-18446744073709551616*k/\ -9223372036854775808<=ck n/\ck n<=9223372036854775807:=by
 have e:IntKind.i64.signed=true:=rfl;have ae:(2:Int)^IntKind.i64.bits=18446744073709551616:=rfl;have ai:(2:Int)^(IntKind.i64.bits-1)=9223372036854775808:=rfl;by_cases h:n%18446744073709551616>=9223372036854775808
 ·have:ck n=n%18446744073709551616-18446744073709551616:=by
   unfold ck IntKind.wrap;simp only[e,ae,ai,Df,decide_eq_true_eq];rw[if_pos h]
  exact⟨n/18446744073709551616+1,by omega,by omega,by omega⟩
 ·have:ck n=n%18446744073709551616:=by
   unfold ck IntKind.wrap;simp only[e,ae,ai,Df,decide_eq_true_eq];rw[if_neg h]
  exact⟨n/18446744073709551616,by omega,by omega,by omega⟩
theorem TY (n:Int):ck (ck n)=ck n:=by
 obtain⟨bM,h1,h2,aq⟩:=zL n;obtain⟨dC,bf,fe,fj⟩:=zL (ck n);omega
theorem zM (a b:Int):ck (ck a+b)=ck (a+b):=by
 obtain⟨bM,h1,h2,aq⟩:=zL a;obtain⟨dC,bf,fe,fj⟩:=zL (ck a+b);obtain⟨iv,A0,tI,jr⟩:=zL (a+b);omega
theorem TZ (a b:Int):ck (a+ck b)=ck (a+b):=by rw[Int.add_comm,zM,Int.add_comm]
def Fix (l:List (Int × Int)):Prop:=∀p∈l,ck p.2=p.2
theorem Iz{k:Int}:∀{l:List (Int × Int)},(l.Pairwise fun x y=>x.1<y.1)->Fix l->ck (di k l)=di k l
 |[],_,_=>by rw[show di k []=0 from rfl];exact CG (by omega) (by omega)
 |p::l,h,af=>by
  have h:=o0.1 h;have hp:=af p (by simp);have ih:=Iz (k:=k) h.2 fun q a8=>af q (by simp[a8]);simp only[di];by_cases e:p.1=k
  ·have h0:di k l=0:=xg fun hm=>by
    obtain⟨q,a8,ai⟩:=dn.1 hm;have:=h.1 q a8;omega
   rw[if_pos e,h0,Int.add_zero];exact hp
  ·rw[if_neg e,z6];exact ih
theorem T0 (k:Int)(t:Term):∀l:List Term,ck (di k ((ins t l).map gj))=ck (di k (l.map gj)+if t.Cell=k then t.cV else 0)
 |[]=>by
  show ck ((if t.Cell=k then t.cV else 0)+0)=ck (0+_);rw[Int.add_zero,z6]
 |x::r=>by
  have hx:di k ((x::r).map gj)=(if x.Cell=k then x.cV else 0)+di k (r.map gj):=rfl;unfold ins;split
  ·have h1:di k ((x::ins t r).map gj)=(if x.Cell=k then x.cV else 0)+di k ((ins t r).map gj):=rfl
   rw[h1,hx,<-TZ,T0 k t r,TZ,Int.add_assoc]
  ·split
   ·rename_i h1 h2
    have aq:di k (((⟨x.Cell,ck (x.cV+t.cV)⟩:Term)::r).map gj)=(if x.Cell=k then ck (x.cV+t.cV)else 0)+di k (r.map gj):=rfl;rw[aq,hx];by_cases e:x.Cell=k
    ·rw[if_pos e,if_pos e,if_pos (h2 ▸ e),zM]
     congr 1;omega
    ·rw[if_neg e,if_neg e,if_neg (h2 ▸ e),Int.add_zero]
   ·have h1:di k ((t::x::r).map gj)=(if t.Cell=k then t.cV else 0)+di k ((x::r).map gj):=rfl
    rw[h1,Int.add_comm]
theorem T1 (k:Int):∀(l es:List Term),ck (di k ((n1 es l).map gj))=ck (di k (es.map gj)+di k (l.map gj))
 |[],es=>by
  show ck (di k (es.map gj))=ck (_+0);rw[Int.add_zero]
 |t::l,es=>by
  have h1:=T1 k l (ins t es);have h2:di k ((t::l).map gj)=(if t.Cell=k then t.cV else 0)+di k (l.map gj):=rfl;rw[show n1 es (t::l)=n1 (ins t es) l from rfl,h1,<-zM,T0,zM,h2,Int.add_assoc]
theorem T2:∀(l es:List Term),(es.Pairwise fun x y=>x.Cell<y.Cell)->(n1 es l).Pairwise fun x y=>x.Cell<y.Cell
 |[],_,h=>h
 |t::l,es,h=>T2 l (ins t es) (TX t h)
theorem T3{t:Term}(ht:ck t.cV=t.cV):∀{l:List Term},(∀x∈l,ck x.cV=x.cV)->∀x∈ins t l,ck x.cV=x.cV
 |[],_,x,h=>by
  rw[show ins t []=[t]from rfl,oZ]at h;rw[h];exact ht
 |y::r,hl,x,h=>by
  unfold ins at h;split at h
  ·rcases cY.1 h with rfl|h
   ·exact hl _ (by simp)
   ·exact T3 ht (fun z aP=>hl z (by simp[aP])) x h
  ·split at h
   ·rcases cY.1 h with rfl|h
    ·exact TY _
    ·exact hl x (by simp[h])
   ·rcases cY.1 h with rfl|h
    ·exact ht
    ·exact hl x h
theorem T4:∀{l es:List Term},(∀x∈l,ck x.cV=x.cV)->(∀x∈es,ck x.cV=x.cV)->∀x∈n1 es l,ck x.cV=x.cV
 |[],_,_,h=>h
 |t::l,es,hl,h=>T4 (l:=l) (es:=ins t es) (fun x hx=>hl x (by simp[hx])) (T3 (hl t (by simp)) h)
end
end Go.Abs.cb
