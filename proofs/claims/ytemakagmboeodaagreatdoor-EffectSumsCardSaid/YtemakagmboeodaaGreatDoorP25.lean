/- Texts of this claim, joined and written short by a program. -/
import Derived.Test.YtemakagmboeodaaGreatDoorP09
import Derived.Test.YtemakagmboeodaaGreatDoorP24
import Derived.WalkKit
import Derived.Test.YtemakagmboeodaaGreatDoorP19
import Derived.Test.YtemakagmboeodaaGreatDoorP10
import Derived.Test.YtemakagmboeodaaGreatDoorP00
set_option linter.unusedVariables false
set_option linter.unusedSimpArgs false
set_option linter.unusedSectionVars false
set_option maxRecDepth 100000
namespace Go.Abs.cb
open Go Go.Abs Go.Proofs Go.Sort
section
variable{g:Nat->Option Obj}
set_option maxHeartbeats 1000000 in
theorem ae2 (x y:Int × Int)(W:World):Calls Tryz.prog 21 #[.agg #[.int .i64 x.1,.int .i64 x.2],.agg #[.int .i64 y.1,.int .i64 y.2]] W fun e w'=>e=.returned (.int .i64 (Lib.compareInt x.1 y.1))/\∃q os',w'=grow (W.drewN q) os':=by
 have H6:=fun W'=>AnyG.cmp_Compare_int Tryz.aeV x.1 y.1 W';change ∀W',Calls Tryz.prog 22 _ _ _ at H6;generalize Lib.compareInt x.1 y.1=r at H6⊢
 go_enter Tryz.func21,Tryz.ntmps21
 go_wp2_with (go_at_call 22;refine(H6 _).mono ?_;rintro e w' ⟨rfl,rfl⟩)
 go_ret
 exact⟨rfl,0,_,by rw[alloc_eq_grow,alloc_eq_grow,grow_grow];rfl⟩
theorem H7 (x y:Int × Int):ltOf (fun x y:Int × Int=>Lib.compareInt x.1 y.1) x y=decide (x.1<y.1):=by
 unfold ltOf Lib.compareInt;by_cases h1:x.1<y.1
 ·simp[h1]
 ·by_cases h2:y.1<x.1<;>simp[h1,h2]
theorem ae3:SWO (ltOf fun x y:Int × Int=>Lib.compareInt x.1 y.1) where
 irrefl x:=by rw[H7];simp
 trans x y z h1 h2:=by rw[H7]at *; simp at *; omega
 ntrans x y z h1 h2:=by rw[H7]at *; simp at *; omega
theorem ae4:v8 (C g) id 20 (q4 21):=
 aeZ (C:=C g) (fid:=id) (enters_of Tryz.func20 (by kernel_rfl) rfl) (fun fv w=>AnyF.slices_SortFunc_none Tryz.S8 none 0 fv w) fun cL cap d w hH hblk du=>
  AnyQ.slices_SortFunc Tryz.S8 2 Tryz.isAgg59 Tryz.sizeOf59 gO (fun _=>rfl) (fun x v ad=>by simp[gO]at ad;rcases ad with rfl|rfl<;>rfl) (fun x y=>Lib.compareInt x.1 y.1) ae3 21 #[] cL 0 cap d w (enters_of Tryz.func21 (by kernel_rfl) rfl) (fun _ _ _ _ x y=>ae2 x y _) hH hblk du
end
end Go.Abs.cb
namespace Go.Abs
open Go
variable{C:Ctx}{fid:Nat->Nat}{w w':World}{G G':bw}{H H':Heap}
theorem ae5 (cr:C.P.follows .mixedOrders=true)(bu:eh C fid){ab:Nat->Option bQ}(hT:da C fid ab):gh C fid (cp ab):=
 ⟨GF ab,fun aa af ha he=>by
  obtain⟨n,hn⟩:=p9.1 he;exact(wj cr bu hT n).run aa af ha hn⟩
section
variable{vars:List Nat}{N:Nat}
structure H8 (C:Ctx) (fid:Nat->Nat) (vars:List Nat) (N base li l r jb b3:Nat) (st:au) (G:bw) (w:World) (seen:Array Nat) (es:Array MapEntry) (d:List V) (bA:List (V × V)) (s:au) (az:bw) (av:Act) (aG:World):Prop where
 rel:dj C fid vars N az s av aG
 bD:fh st {s with low:=min st.low l}
 len:li<s.H.length
 ext:∀m,m<=min st.low l->Ext G w az aG m st.H.length
 marks:jw C az aG base av.defers
 hi:∃h,az.β li=some h/\h.b=r
 hm:∃h,az.β l=some h/\h.b=jb
 gone:s.H[li]? =some .gone
 mp:s.H[l]? =some (.map bA)
 iter:aG.heap[r]? =some (.mapIter (some jb) b3 seen b3)
 map:aG.heap[jb]? =some (.map es b3)
 hand:∀p∈es.toList.zip bA,p.1.born∈seen->p.2.1∈d
variable{base li l r jb b3:Nat}{st:au}{seen:Array Nat}{es:Array MapEntry}{d:List V}{bA:List (V × V)}{s ao:au}{az a7:bw}{av a2:Act}{aG bs:World}
theorem H8.on (h:H8 C fid vars N base li l r jb b3 st G w seen es d bA s az av aG)(nG:l<li)(aa:dj C fid vars N a7 ao a2 bs)(cP:∀m,m<=ao.low->Ext az aG a7 bs m s.H.length)(jI:li<ao.low)(cy:Fr s.H s.H.length ao.H ao.low)(dv:ao.ro=s.ro)
  (hd:jw C a7 bs base a2.defers):H8 C fid vars N base li l r jb b3 st G w seen es d bA ao a7 a2 bs:=by
 obtain⟨h1,ae,q1⟩:=h.hi;obtain⟨h2,ai,q2⟩:=h.hm;have g1:=FL h.rel.rel ae h.gone;have g2:=A8 h.rel.rel ai h.mp;have qA:=cP _ (aI _);have hB:=h.bD.1.len;refine⟨aa,⟨⟨cA h.bD.1.len cy.len,ig _ _,fun x hx=> ?_⟩,dv.trans h.bD.2⟩,mX h.len cy.len,fun m hm=> ?_,hd,?_,?_,?_,?_,?_,?_,h.hand⟩
 ·have dV:x<min st.low l:=hx
  exact(cy.same x (by omega)).trans (h.bD.1.same x hx)
 ·exact(h.ext m hm).trans ((cP m (by omega)).le (aI _) hB)
 ·obtain⟨h',e',q'⟩:=wo qA ae g1.1;exact⟨h',e',q'.trans q1⟩
 ·obtain⟨h',e',q'⟩:=wo qA ai g2.1;exact⟨h',e',q'.trans q2⟩
 ·rw[cy.same li jI];exact h.gone
 ·rw[cy.same l (by omega)];exact h.mp
 ·have:=wm qA h.rel.rel ae jI
  rw[q1]at this;rw[this];exact h.iter
 ·have:=wm qA h.rel.rel ai (by omega)
  rw[q2]at this;rw[this];exact h.map
end
end Go.Abs
namespace Go.Abs
open Go
variable{C:Ctx}{fid:Nat->Nat}{w w':World}{G G':bw}{H H':Heap}
structure ae6 where
 b1:bP
 c:ah
 ae7:List bl
 m:ah
 k:ah
 bI:Nat
structure ajj (C:Ctx) (vars:List Nat) (N:Nat) (body:Code) (D:ae6):Prop where
 ok:∃(Te:Code) (x id:Nat) (ops:Array Oper) (os:List Oper) (gG:Oper) (m k:Operand) (t ek x0 u:TypeId),
  body=.seq Te (.cond (.tmp x) (.region id ops false) .skip)/\C.code vars N Te=some D.b1/\C.bF vars (.tmp x)=some D.c/\ops.toList=os++[gG]/\c7 (C.oper vars N ops) os=some D.ae7/\
  gG.op=.call {callee:=.builtin .delete,args:= #[m,k],argTypes:= #[t,u]}/\gG.dst=none/\gG.guard=none/\C.bF vars m=some D.m/\C.bF vars k=some D.k/\C.P.underlying t=some (.map ek x0)/\C.iQ ek=some D.bI
section
variable{vars:List Nat}{N n:Nat}{ab:Nat->Option bQ}
theorem ae8{c:bP}{st:au}{r:X × au}(h:dt ab c st=some r):∃n,Abs.exec (cp ab) n c st=some r:=by
 obtain⟨n,hn⟩:=e3.1 h;exact⟨n,oc (Aj n) (aI _) c st r hn⟩
end
end Go.Abs
namespace Go.Abs
open Go
variable{C:Ctx}{fid:Nat->Nat}{w w':World}{G G':bw}{H H':Heap}
variable{vars:List Nat}{N:Nat}{ab:Nat->Option bQ}
theorem dP.dt (cr:C.P.follows .mixedOrders=true)(bu:eh C fid)(bh:gh C fid (cp ab)){c:Code}{ac:bP}(hc:C.code vars N c=some ac){st aV:au}{x:X}(he:Abs.dt ab ac st=some (x,aV)):
  dP C fid vars N c st (fun y s=>y=x/\s=aV):=by
 obtain⟨n,hn⟩:=ae8 he;exact dP.exec (n:=n) cr bu bh hc hn
theorem dP.block{id:Nat}{c:Code}{st:au}{Out:X->au->Prop}(h:dP C fid vars N c st (fun x s=>Out (wJ id x) s)):dP C fid vars N (.block id c) st Out:=fun G a w ro base Q aa dv dX hb c9=>by
 refine wpIn_block (h G a w ro base _ aa dv dX hb fun x s az av aG ho af F=> ?_);have:=c9 _ _ az av aG ho af F;cases x with
 |normal=>exact this
 |ret=>exact this
 |exit j=>
  simp only[wJ]at this;cases hb:Nat.beq j id with
  |true=>
   rw[hb]at this;have e:=dm hb;subst e;simp only[vT,Exit.inBlock,if_true];exact this
  |false=>
   rw[hb]at this;have e:¬j=id:=fun e=>by rw[e,sO]at hb;cases hb
   simp only[vT,Exit.inBlock,e,if_false];exact this
theorem dP.loop{c:Code}{st:au}{Out:X->au->Prop}(I:Nat->au->Prop)(k:Nat)(h0:I k st)(h:∀k s,I k s->dP C fid vars N c s (fun x ao=>(x=.normal/\∃j,k=j+1/\I j ao)\/(x≠ .normal/\Out x ao))):dP C fid vars N (.loop c) st Out:=fun G a w ro base Q aa dv dX hb c9=>by
 refine Fm (fun k av aG=>∃j s az,k=j+1/\I j s/\fh st s/\Fin C fid vars N base st G w s az av aG) ?_ (j:=k+1) ⟨k,st,G,rfl,h0,.refl _,.refl aa dX⟩;rintro _ av aG ⟨k,s,az,rfl,ch,af,F⟩;refine⟨k,rfl,?_⟩;refine h k s ch az av aG ro base _ F.rel (by rw[af.2];exact dv.ext (F.ext 0 (ct _))) F.marks (cA hb (F.ext 0 (ct _)).size) fun x s2 a7 a2 bs ho ud nE=> ?_;rcases ho with⟨rfl,j,hj,ae9⟩|⟨hx,ho⟩
 ·exact⟨j,s2,a7,hj,ae9,af.trans ud,F.trans nE af ud⟩
 ·have:=c9 x s2 a7 a2 bs ho (af.trans ud) (F.trans nE af ud)
  cases x with
  |normal=>exact absurd rfl hx
  |exit id=>exact this
  |ret=>exact this
end Go.Abs
namespace Go.Abs
open Go
variable{C:Ctx}{fid:Nat->Nat}{G:bw}{w:World}{ab:Nat->Option bQ}{vars:List Nat}{N:Nat}
def Cz (ab:Nat->Option bQ):List bP->au->au->Prop
 |[],st,aV=>aV=st
 |c::r,st,aV=>∃s,dt ab c st=some (.normal,s)/\Cz ab r s aV
theorem dP.Tf (cr:C.P.follows .mixedOrders=true)(bu:eh C fid)(bh:gh C fid (cp ab)){d:Code}{Out:X->au->Prop}:∀{cs:List Code} {qD:List bP},c7 (C.code vars N) cs=some qD->∀{st aV:au},Cz ab qD st aV->
  dP C fid vars N d aV Out->dP C fid vars N (Bd cs d) st Out
 |[],qD,hm,st,aV,he,h=>by
  simp only[c7,ay]at hm;subst hm;have he:aV=st:=he;subst he;exact h
 |c::cs,qD,hm,st,aV,he,h=>by
  simp only[c7]at hm;split at hm
  ·rename_i a ha
   split at hm
   ·rename_i aC has
    cases hm;obtain⟨s,h1,h2⟩:=he;exact dP.seq (dP.dt cr bu bh ha h1) (fun ao hs=>by rw[hs.2];exact dP.Tf cr bu bh has h2 h) fun x ao hx hs=>absurd hs.1 hx
   ·cases hm
  ·cases hm
theorem iD.afa (cr:C.P.follows .mixedOrders=true)(bu:eh C fid)(bh:gh C fid (cp ab)){n fU:Nat}{fn:Func}{B:iD}(af:C.P.funcs[fU]? =some fn)(cw:uf C fn B){args:List V}{v:V}(hlen:args.length<=fn.ntmps)
  {jd st:au} {wr:List Bool} (afb:Cz ab B.pre {aH:=[],ax:=fo 0 args,H:=[],low:=0} jd) (hex:cX (cp ab) B.R.t0 {jd with aH:=[]} []=some (st,wr))
  {l:Nat} {bA:List (V × V)} (qB:B.R.src.ag st.aH st.ax=.map l) (px:st.H[l]? =some (.map bA)) (Inv:List Nat->au->Prop) (Out:au->Prop)
  (ua:Inv [] (jO B.R.it st)) (r3:∀d s,Inv d s->cJ s.ax B.R.it=.ptr st.H.length 0)
  (nJ:∀d s,Inv d s->∀i e5,i∉d->bA[i]? =some e5->∃ao,B.R.round (cp ab) n e5.1 e5.2 s=some ao/\st.H.length<ao.low/\Inv (d++[i]) ao)
  (gY:∀d s,Inv d s->d.Nodup->(∀i,i∈d↔i<bA.length)->∃ao,B.R.fin (cp ab) s=some ao/\st.H.length<ao.low/\Out ao)
  (F4:∀ao,Out ao->∃x s2 vs,dt ab B.post {ao with low:=min st.low st.H.length}=some (x,s2)/\F2 x=true/\hY s2.ax s2.H B.mb=some vs/\finish false [] (gn vs) s2.H s2.low=some (v,[],0))
  {xs:List Value} (aa:aQ C fid G [] w) (ad:aW fid G w args xs):Calls C.P fU ⟨xs⟩ w (fun e w'=>∃x,e=.returned x/\iY C fid G [] w v [] 0 x w'):=by
 obtain⟨cs,wA,wB,hb,r4,F3,afc,nD,-⟩:=cw.ok;refine Mf bu af hb nD (fresh:=false) hlen ?_ aa ad;refine dP.Tf cr bu bh r4 afb ?_;refine dP.seq (dP.range (n:=n) cr bu bh (Md F3) hex qB px Inv Out ua r3 nJ gY) (fun s hs=> ?_) fun x s hx hs=>absurd hs.1 hx;obtain⟨-,ao,qE,rfl⟩:=hs;obtain⟨x,s2,vs,h1,h2,aq,bf⟩:=F4 ao qE;refine(dP.dt cr bu bh afc h1).mono fun y kU hy=> ?_;obtain⟨rfl,rfl⟩:=hy;refine⟨?_,vs,aq,bf⟩;cases y with
 |normal=>exact .inl rfl
 |ret=>exact .inr rfl
 |exit i=>cases h2
end Go.Abs
namespace Go.Abs
open Go
section
open Go.Abs.S
def zq:bP:=q (R [r 14 (yM 2 v10 v12),r 15 (ls 2 t14),o 5 (.alloc [z,z]),n (st 2 v5 t15)]) (R [r 16 (m v3),r 17 (je 0 v5),r 18 (dH t17),r 19 (.lookup 0 (.int .i64 0) t16 t18 false),r 20 (je 1 v5),r 21 (dH t20),r 22 (dd t19 t21),n (.mZ 0 t16 t18 t22)])
def CA:bP:=q (R [r 31 (m yL),o 32 (ne t31 (c 0))]) (yN v32 (R [r 33 (m v6),r 34 (m Mt),r 35 (m yL),r 36 (.build [z,z] [(0,1,t34),(1,1,t35)]),r 37 (.lit 2 [z,z] 1 [(0,t36)] true),r 38 (ap 2 16 t33 t37),o 6 (m t38)]) k)
def CB (F K:Nat):bP:=q (R [r 39 (m v6),r 40 (.call true (fn F) [t39,(fn K)])]) (q (R [r 41 (m v6),o 2 (m t41)]) rt)
def nY (F K:Nat):iD:=⟨[R [o 2 (m wC)],R [r 9 (.mkMap),o 3 (m t9)],q (R [o 10 (m v0),o 11 (Bk 1 v10),o 12 (m (c 0))]) (eS 0 (.loop (uh 13 11 12 23 1 0 zq))),R [o 6 (m wC)]],⟨[r 24 (m v3)],t24,25,(26,false),[o 27 (ex t26 0)],Mv,3,(28,false),[r 29 (ex t28 0),r 30 (ex t28 1),o 7 (m t29),o 8 (m t30)],CA⟩,CB F K,[.tmp 2]⟩
end
def kh (l:List (Int × Int)):V:=if l.isEmpty then .ak else .list 2 (l.map e8)
def jX (es:List (Int × Int)):List (V × V):=es.map fun p=>(iF p.1,iF p.2)
theorem Tg (k:Int):∀es:List (Int × Int),iP 0 (.int .i64 k) (jX es)=some ((uC k es).map iF)
 |[]=>rfl
 |(j,v)::es=>by
  have ih:=Tg k es;simp only[jX,cW,iP,gS,uC,iF,if_true]at ih⊢;by_cases h:k=j
  ·simp[h]
  ·have hb:(k==j)=false:=by simpa using h
   rw[hb];simp only[h,if_false];exact ih
theorem H9 (k v:Int):∀es:List (Int × Int),kH 0 (.int .i64 k) (.int .i64 v) (jX es)=jX (jj k v es)
 |[]=>rfl
 |(j,u)::es=>by
  have ih:=H9 k v es;simp only[jX,cW,kH,gS,jj,iF,if_true]at ih⊢;by_cases h:k=j
  ·subst h;simp
  ·have hb:(k==j)=false:=by simpa using h
   rw[hb];simp only[h,if_false,ih];simp
variable{ab:Nat->Option bQ}
theorem zr (T:Heap)(x:bd):(T++[x])[T.length]? =some x:=by simp
theorem CC (T:Heap)(x y:bd):(T++[x]).set T.length y=T++[y]:=by simp
theorem afd{call:cj}{ag:ah->V}{H:Heap}{low es:Nat}(x i:ah):bK call ag H low (.indexAddr es x i)=step ag H low (.indexAddr es x i):=rfl
theorem afe{call:cj}{ag:ah->V}{H:Heap}{low k:Nat}(x:ah):bK call ag H low (.len k x)=step ag H low (.len k x):=rfl
theorem aff{call:cj}{ag:ah->V}{H:Heap}{low:Nat}(cq:List V)(ps:List (Nat × Nat × ah)):bK call ag H low (.build cq ps)=step ag H low (.build cq ps):=rfl
attribute [local simp] kI od qa s5 vj Dp s6 cX hU Ml F5 yJ Bf Bh qG Mp F7 Be Mm Mn F6 Bg F8 Mr kx Bi afd afe aff Mo ah.ag cJ Bj au.put gl Aa z8 k8 eL hR ea bS cB p5 na p6 kF setCells aL e1 b7 Nat.min_self S.R S.q S.k S.rt S.yN S.eS S.e S.r S.o S.n S.rg S.m S.dH S.ls S.je S.eq S.ne S.lt S.gt S.dd S.no S.Zi S.st S.pt S.Bk S.yM S.ex S.c S.cs S.Lh S.Zh S.z S.fn S.oi S.ap S.wC
set_option maxHeartbeats 1000000 in
theorem afg{es l:List (Int × Int)}{T:Heap}{aH ax:Env}{ro:Option Nat}{j:Nat}{x:Int × Int}(hj:l[j]? =some x)(uY:cJ ax 10=.list 2 (l.map e8))(su:cJ ax 12=.int .i64 j)(aq:cJ ax 3=.map 0):
  dt ab zq ⟨aH,ax,.map (jX es)::T,0,ro⟩=some (.normal,⟨[],dq ax 5 (.ptr (T.length+1) 0),.map (jX (k3 es x))::(T++[.cells [.int .i64 x.1,.int .i64 x.2]]),0,ro⟩):=by
 obtain⟨a,b⟩:=x;have af:=Tg a es;cases aT:uC a es with
 |none=>
  rw[aT]at af;simp[zq,uY,su,aq,step,hj,e8,af,H9,k3,aT,zr,CC]
 |some u=>
  rw[aT]at af;simp[zq,uY,su,aq,step,hj,e8,af,H9,k3,aT,zr,CC]
def Th (x:al (Int × Int))(j:Nat)(st:au):Prop:=
 ∃T ax,st=⟨st.aH,ax,.map (jX (gi (x.l.take j)))::T,0,none⟩/\cJ ax 10=b4 2 e8 x/\cJ ax 11=.int .i64 x.l.length/\cJ ax 12=.int .i64 j/\cJ ax 3=.map 0
def Ti (x:al (Int × Int))(y:X)(st:au):Prop:=
 y=.exit 0/\∃T ax,st=⟨[],ax,.map (jX (gi x.l))::T,0,none⟩/\cJ ax 3=.map 0
theorem afh (x:al (Int × Int))(hx:x.l.length<4611686018427387904){st:au}(ch:Th x 0 st):∃y aV,dt ab (.loop (uh 13 11 12 23 1 0 zq)) st=some (y,aV)/\Ti x y aV:=by
 refine Zd (ab:=ab) (I:=Th x) (Q:=Ti x) hx (by decide) (by decide) ?_ ?_ ?_ x.l.length 0 st (by omega) ch
 ·rintro j st ⟨T,ax,h,uY,CD,su,aq⟩
  rw[h];exact⟨su,CD,ct _⟩
 ·rintro j st hj ⟨T,ax,h,uY,CD,su,aq⟩
  obtain⟨l,rfl⟩:∃l,x=.mk l:=by
   cases x with
   |nil=>simp[al.l]at hj
   |emp=>simp[al.l]at hj
   |mk l=>exact⟨l,rfl⟩
  have hj:j<l.length:=hj;have hl:l[j]? =some l[j]:=gk hj;have hr:=afg (ab:=ab) (es:=gi (l.take j)) (T:=T) (aH:=[]) (ax:=dq ax 13 (.bool true)) (ro:=none) hl (by simpa[b4]using uY) (by simpa using su) (by simpa using aq);refine⟨.normal,⟨[],dq (dq ax 13 (.bool true)) 5 (.ptr (T.length+1) 0),.map (jX (k3 (gi (l.take j)) l[j]))::(T++[.cells [.int .i64 l[j].1,.int .i64 l[j].2]]),0,none⟩,?_,?_⟩
  ·rw[h];exact hr
  ·rw[if_pos (.inl rfl)]
   have e:gi (l.take (j+1))=k3 (gi (l.take j)) l[j]:=by
    unfold gi;rw[List.take_succ_eq_append_getElem hj,List.foldl_append];rfl
   refine⟨by simpa using su,ct _,T++[.cells [.int .i64 l[j].1,.int .i64 l[j].2]],dq (dq (dq ax 13 (.bool true)) 5 (.ptr (T.length+1) 0)) 12 (.int .i64 ((j+1:Nat):Int)),?_,by simpa using uY,by simpa using CD,by simp,by simpa using aq⟩;show _=au.mk [] _ (.map (jX (gi (l.take (j+1))))::_) 0 none;rw[e]
 ·rintro st ⟨T,ax,h,uY,CD,su,aq⟩
  rw[h];refine⟨rfl,T,dq ax 13 (.bool false),?_,by simpa using aq⟩;rw[List.take_length]
theorem afi{F K:Nat}(x:al (Int × Int))(hx:x.l.length<4611686018427387904):
  ∃ax T,Cz ab (nY F K).pre {aH:=[],ax:=fo 0 [b4 2 e8 x],H:=[],low:=0} ⟨[],ax,.map (jX (gi x.l))::T,0,none⟩/\cJ ax 3=.map 0/\cJ ax 6=.ak:=by
 have wk:dt ab (S.R [S.o 2 (S.m S.wC)]) {aH:=[],ax:=fo 0 [b4 2 e8 x],H:=[],low:=0}=some (.normal,⟨[],dq (fo 0 [b4 2 e8 x]) 2 .ak,[],0,none⟩):=by
  simp
 have vu:dt ab (S.R [S.r 9 (.mkMap),S.o 3 (S.m S.t9)]) ⟨[],dq (fo 0 [b4 2 e8 x]) 2 .ak,[],0,none⟩=some (.normal,⟨[],dq (dq (fo 0 [b4 2 e8 x]) 2 .ak) 3 (.map 0),[.map []],0,none⟩):=by
  simp
 have afj:dt ab (S.R [S.o 10 (S.m S.v0),S.o 11 (S.Bk 1 S.v10),S.o 12 (S.m (S.c 0))]) ⟨[],dq (dq (fo 0 [b4 2 e8 x]) 2 .ak) 3 (.map 0),[.map []],0,none⟩=
   some (.normal,⟨[],dq (dq (dq (dq (dq (fo 0 [b4 2 e8 x]) 2 .ak) 3 (.map 0)) 10 (b4 2 e8 x)) 11 (.int .i64 x.l.length)) 12 (.int .i64 0),[.map []],0,none⟩):=by
  cases x<;>simp[step,b4,fo,al.l]
 obtain⟨y,aV,h1,rfl,T,ax,rfl,aq⟩:=afh (ab:=ab) x hx (st:=⟨[],dq (dq (dq (dq (dq (fo 0 [b4 2 e8 x]) 2 .ak) 3 (.map 0)) 10 (b4 2 e8 x)) 11 (.int .i64 x.l.length)) 12 (.int .i64 0),[.map []],0,none⟩)
  ⟨[],_,rfl,by simp,by simp,by simp,by simp⟩
 refine⟨dq ax 6 .ak,T,⟨_,wk,_,vu,⟨[],ax,.map (jX (gi x.l))::T,0,none⟩,?_,_,?_,rfl⟩,by simpa using aq,by simp⟩
 ·show dt ab (.seq (S.R _) (.block 0 _)) _=_
  rw[kI,afj];simp only[];rw[s6,h1];simp
 ·simp
def q5 (p:Nat)(row:List (Int × Int))(s:au):Prop:=
 cJ s.ax 25=.ptr p 0/\s.ro=none/\∃B:Heap,B.length=p+1/\((row=[]/\s.H=B/\cJ s.ax 6=.ak)\/(row≠[]/\s.H=B++[.row 2 (row.map e8) false]/\cJ s.ax 6=.aN B.length 2 0 row.length row.length))
theorem q5.lt{p:Nat}{row:List (Int × Int)}{s:au}(h:q5 p row s):p<s.H.length:=by
 obtain⟨-,-,B,cw,h⟩:=h;rcases h with⟨-,h,-⟩|⟨-,h,-⟩
 ·rw[h];omega
 ·rw[h,fO];omega
set_option maxHeartbeats 1000000 in
theorem afk{F K n p:Nat}{call:cj}{a b:Int}{row:List (Int × Int)}{s:au}(h:q5 p row s)(hn:row.length<1073741824):
  ∃ao,(nY F K).R.round call n (.int .i64 a) (.int .i64 b) s=some ao/\p<ao.low/\q5 p (if b=0 then row else row++[(a,b)]) ao:=by
 have aY:=h.lt;obtain⟨aH,ax,H,low,ro⟩:=s;obtain⟨nZ,dv,B,cw,h⟩:=h;simp only at nZ dv h aY;subst dv;by_cases hb:b=0
 ·subst hb
  refine⟨_,by simp[e4.round,e4.step,nY,CA,exec,au.eu,nZ,de];rfl,by simpa using aY,by simpa using nZ,rfl,B,cw,?_⟩;rw[if_pos rfl];simpa using h
 ·have eN:(b==0)=false:=by simpa using hb
  rcases h with⟨rfl,rfl,fj⟩|⟨bb,rfl,fj⟩
  ·refine⟨_,by simp[e4.round,e4.step,nY,CA,exec,au.eu,nZ,de,hb,eN,bne,step,o6,lT,elems,jo,fj];rfl,by simp;omega,by simpa using nZ,rfl,H,cw,.inr ⟨by simp[hb],by simp[hb,e8],by simp[hb]⟩⟩
  ·have afl:(row.length+1)*17<=1099511627776:=by omega
   refine⟨_,by simp[e4.round,e4.step,nY,CA,exec,au.eu,nZ,de,hb,eN,bne,step,o6,lT,elems,jo,fj,zr,CC,afl];rfl,by simp;omega,by simpa using nZ,rfl,B,cw,.inr ⟨by simp[hb],by simp[hb,e8],by simp[hb]⟩⟩
theorem afm{F K p:Nat}{call:cj}{row:List (Int × Int)}{s:au}(h:q5 p row s):∃ao,(nY F K).R.fin call s=some ao/\p<ao.low/\q5 p row ao:=by
 have aY:=h.lt;obtain⟨aH,ax,H,low,ro⟩:=s;obtain⟨nZ,dv,B,cw,h⟩:=h;simp only at nZ dv h aY;subst dv;refine⟨_,by simp[e4.fin,e4.step,nY];rfl,by simpa using aY,by simpa using nZ,rfl,B,cw,?_⟩;simpa using h
theorem Tj:∀ps:List (Int × Int),cB (ps.map e8)=true
 |[]=>rfl
 |p::ps=>by
  have:=Tj ps;rw[cW];simp[e8,this]
set_option maxHeartbeats 1000000 in
theorem afn{F K p:Nat}{row:List (Int × Int)}{s:au}(cy:ab F=some (.lW (q4 K)))(h:q5 p row s)(hnd:(row.map Prod.fst).Nodup)(hl:row.length<=1099511627776):
  ∃y s2 vs,dt ab (CB F K) {s with low:=0}=some (y,s2)/\F2 y=true/\hY s2.ax s2.H [.tmp 2]=some vs/\finish false [] (gn vs) s2.H s2.low=some (kh (jV row),[],0):=by
 obtain⟨aH,ax,H,low,ro⟩:=s;obtain⟨nZ,dv,B,cw,h⟩:=h;simp only at nZ dv h;subst dv;rcases h with⟨rfl,rfl,fj⟩|⟨bb,rfl,fj⟩
 ·refine⟨_,_,_,by simp[CB,fj,pd,cy,o9,q4,rm,sW];exact⟨rfl,rfl⟩,rfl,by simp[hY,nd];rfl,?_⟩
  simp[gn,finish,kh,jV,old]
 ·have oe:=H3 row
  refine⟨_,_,_,by simp[CB,fj,pd,cy,o9,q4,rm,sW,zr,CC,oe,hl,hnd];exact⟨rfl,rfl⟩,rfl,by simp[hY,nd];rfl,?_⟩
  have afo:(jV row).isEmpty=false:=by
   have:=G8 row;cases h:jV row with
   |nil=>rw[h]at this;cases row with
    |nil=>exact absurd rfl bb
    |cons a r=>simp at this
   |cons a r=>rfl
  simp[gn,finish,zr,G8,Tj,kh,afo,old];exact CV (by rw[eA,G8];exact aI _)
theorem Tk{α:Type}:∀es:List α,(List.range es.length).filterMap (fun i=>es[i]?)=es
 |[]=>rfl
 |a::es=>by
  have ih:=Tk es;rw[iN,List.range_succ_eq_map,zQ];simp only[lN,List.filterMap_map,Function.comp_def,sF,Nat.succ_eq_add_one];rw[ih]
theorem afp (es:List (Int × Int))(i:Nat):(jX es)[i]? =(es[i]?).map fun p=>(V.int .i64 p.1,V.int .i64 p.2):=by
 unfold jX;rw[iM]
def rowOf (es:List (Int × Int))(d:List Nat):List (Int × Int):=(d.filterMap fun i=>es[i]?).filter fun p=>p.2 != 0
theorem afq{es:List (Int × Int)}{d:List Nat}{i:Nat}{a b:Int}(h:es[i]? =some (a,b)):rowOf es (d++[i])=if b=0 then rowOf es d else rowOf es d++[(a,b)]:=by
 unfold rowOf;rw[List.filterMap_append,List.filter_append];by_cases hb:b=0<;>simp[h,hb]
theorem afr{es:List (Int × Int)}{d:List Nat}(hd:d.Nodup)(hm:∀i,i∈d↔i<es.length):(rowOf es d).Perm (es.filter fun p=>p.2 != 0):=by
 have hp:d.Perm (List.range es.length):=(Uj hd List.nodup_range).2 fun i=>by rw[hm,List.mem_range]
 have:=(hp.filterMap fun i=>es[i]?).filter fun p=>p.2 != 0;rw[Tk]at this;exact this
theorem afs{n:Nat}{d:List Nat}(hd:d.Nodup)(h:∀i∈d,i<n):d.length<=n:=by
 have hp:(d++(List.range n).filter fun i=>!d.contains i).Perm (List.range n):=by
  refine(Uj ?_ List.nodup_range).2 fun i=> ?_
  ·rw[ra]
   refine⟨hd,List.nodup_range.sublist List.filter_sublist,fun a ha b hb e=> ?_⟩;subst e;simp[ha]at hb
  ·rw[hN,De,List.mem_range]
   constructor
   ·rintro(hi|⟨hi,-⟩)
    ·exact h i hi
    ·exact hi
   ·intro hi
    by_cases hm:i∈d
    ·exact .inl hm
    ·exact .inr ⟨hi,by simp[hm]⟩
 have:=hp.length_eq;rw[fO,List.length_range]at this;omega
def sv:List V->Option V
 |[.ak]=>some .ak
 |[.emp]=>some .ak
 |[.list 2 ds]=>match ss ds with
  |some ps=>if ps.length<1073741824 then some (kh (e0 ps))else none
  |none=>none
 | _=>none
theorem aft{args:List V}{v:V}(h:sv args=some v):∃x:al (Int × Int),args=[b4 2 e8 x]/\x.l.length<1073741824/\v=kh (e0 x.l):=by
 unfold sv at h;split at h
 ·cases h;exact⟨.nil,rfl,by decide,by show V.ak=kh (e0 []);simp[e0,gi,jV,kh]⟩
 ·cases h;exact⟨.emp,rfl,by decide,by show V.ak=kh (e0 []);simp[e0,gi,jV,kh]⟩
 ·split at h
  ·rename_i ps hp
   split at h
   ·rename_i hl
    cases h;exact⟨.mk ps,by rw[H2 hp];rfl,hl,rfl⟩
   ·cases h
  ·cases h
 ·cases h
theorem afu (l:List (Int × Int)):bS (kh l)=true:=by
 unfold kh;split<;>rfl
variable{C:Ctx}{fid:Nat->Nat}
theorem afv (cr:C.P.follows .mixedOrders=true)(bu:eh C fid)(hT:da C fid ab){F K fU:Nat}{fn:Func}(af:C.P.funcs[fU]? =some fn)(cw:uf C fn (nY F K))(cy:ab F=some (.lW (q4 K)))(h1:1<=fn.ntmps):lv C fid fU sv:=by
 intro G H w args v xs aa dW gp;obtain⟨cs,wA,wB,hb,-,-,-,-,qz⟩:=cw.ok;rw[wi af hb qz];obtain⟨x,rfl,hx,rfl⟩:=aft gp;obtain⟨ax,T,r4,aq,fj⟩:=afi (ab:=ab) (F:=F) (K:=K) x (by omega);have dT:=RW x.l;have hnd:=RT x.l
 have hc:=iD.afa (n:=0) cr bu (ae5 cr bu hT) af cw (args:=[b4 2 e8 x]) (v:=kh (e0 x.l)) h1 r4 (st:=⟨[(24,.map 0)],ax,.map (jX (gi x.l))::T,0,none⟩) (wr:=[false]) (by simp[nY,aq,ec])
  (l:=0) (bA:=jX (gi x.l)) rfl rfl (fun d s=>q5 (T.length+1) (rowOf (gi x.l) d) s/\d.Nodup/\∀i∈d,i<(gi x.l).length) (fun s=>∃row,q5 (T.length+1) row s/\row.Perm ((gi x.l).filter fun p=>p.2 != 0))
  ⟨⟨by simp[jO,nY],rfl,.map (jX (gi x.l))::T++[.gone],by simp,.inl ⟨rfl,rfl,by simpa[jO,nY]using fj⟩⟩,zZ,fun i hi=>by cases hi⟩
  (fun d s h=>h.1.1)
  (fun d s h i e5 hi mH=>by
    rw[afp]at mH;cases hp:(gi x.l)[i]? with
    |none=>rw[hp]at mH;cases mH
    |some p=>
     obtain⟨a,b⟩:=p;rw[hp]at mH;cases mH
     have hlen:(rowOf (gi x.l) d).length<1073741824:=by
      have h1:(rowOf (gi x.l) d).length<=d.length:=cA (List.length_filter_le _ _) (List.length_filterMap_le _ _);have h2:=afs h.2.1 h.2.2;omega
     obtain⟨ao,ae,ai,bz⟩:=afk (F:=F) (K:=K) (n:=0) (call:=cp ab) (a:=a) (b:=b) h.1 hlen;refine⟨ao,ae,by simpa using ai,?_,?_,?_⟩
     ·rw[afq hp];exact bz
     ·rw[ra]
      exact⟨h.2.1,by simp,fun j hj k hk=>by rw[oZ]at hk;subst hk;exact fun e=>hi (e ▸ hj)⟩
     ·intro j hj
      rcases hN.1 hj with hj|hj
      ·exact h.2.2 j hj
      ·rw[oZ]at hj;subst hj;exact(fu.1 hp).1)
  (fun d s h hd hm=>by
    obtain⟨ao,ae,ai,bz⟩:=afm (F:=F) (K:=K) (call:=cp ab) h.1;refine⟨ao,ae,by simpa using ai,_,bz,afr hd fun i=> ?_⟩;rw[hm];unfold jX;rw[eA])
  (fun ao ⟨row,h,hp⟩=>by
    have qq:=RX hnd fun p=>p.2 != 0;have afw:(row.map Prod.fst).Nodup:=(hp.map Prod.fst).nodup_iff.2 qq;have e:jV row=e0 x.l:=RP qq ((qX row).trans hp) (G7 row);rw[<-e]
    have hl:row.length<=1099511627776:=by
     rw[hp.length_eq];have:=List.length_filter_le (fun p:Int × Int=>p.2 != 0) (gi x.l);omega
    exact afn cy h afw hl)
  aa.apart (cD.la dW)
 exact sP hc fun e w'=>fun⟨y,ae,ai⟩=>⟨y,ae,ai.beside aa (afu _)⟩
end Go.Abs
