/- Texts of this claim, joined and written short by a program. -/
import Derived.Test.YtdiodnpdllkbaaaGreatDoorP01
import Derived.Test.YtdiodnpdllkbaaaGreatDoorP07
import Derived.RangeFuncRecord
import Derived.OrdersIn
import Derived.Test.YtdiodnpdllkbaaaGreatDoorP00
set_option linter.unusedVariables false
set_option linter.unusedSimpArgs false
set_option linter.unusedSectionVars false
namespace Go.Abs
open Go
structure Fr (H:Heap) (low:Nat) (H':Heap) (low':Nat):Prop where
 len:H.length<=H'.length
 low:low'<=low
 same:∀l,l<low'->H'[l]? =H[l]?
variable{H H' H1 H2:Heap}{low low' bI c5:Nat}{ae:ag->V}{v v':V}
theorem Fr.refl (H:Heap)(low:Nat):Fr H low H low:=⟨aK _,aK _,fun _ _=>rfl⟩
theorem Fr.trans (h:Fr H low H1 bI)(k:Fr H1 bI H2 c5):Fr H low H2 c5:=
 ⟨cV h.len k.len,cV k.low h.low,fun l hl=>(k.same l hl).trans (h.same l (qs hl k.low))⟩
theorem Fr.push (hl:low<=H.length)(o:cc):Fr H low (H++[o]) low:=
 ⟨by simp,aK _,fun l h=>by rw[gE (by omega)]⟩
theorem Fr.set (l:Nat)(o:cc):Fr H low (H.set l o) (min low l):=
 ⟨by simp,jU _ _,fun x h=>by rw[gm (by omega)]⟩
theorem Fr.lift (h:Fr H bI H' c5)(low:Nat):Fr H low H' (min low c5):=
 ⟨h.len,jU _ _,fun l hl=>h.same l (by omega)⟩
theorem Fr.eq (h:Fr H low H' low')(hl:H.length<=low')(he:H'.length=H.length):H'=H:=by
 apply wg
 intro l
 rcases fX l low' with q|q
 ·exact h.same l q
 ·rw[lb (by omega),lb (by omega)]
theorem Lv (h:Fr H low H' low')(hm:eG H H' low'=false):H'=H:=by
 simp only[eG,B9,decide_eq_false_iff_not,bne_eq_false_iff_eq]at hm
 exact h.eq (by omega) hm.2
structure Sp (f:Heap->Nat->V->Option (V × Heap × Nat)):Prop where
 ok:∀{H H':Heap} {low low':Nat} {v v':V},f H low v=some (v',H',low')->Fr H low H' low'/\H'.length=H.length
theorem Lw{f:Heap->Nat->V->Option (V × Heap × Nat)}(ab:Sp f):∀{vs vs':List V} {H H':Heap} {low low':Nat},kq f H low vs=some (vs',H',low')->Fr H low H' low'/\H'.length=H.length
 |[],_,_,_,_,_,he=>by
  simp only[kq,az,bt]at he
  obtain⟨-,rfl,rfl⟩:=he
  exact⟨.refl _ _,rfl⟩
 |v::r,_,_,_,_,_,he=>by
  simp only[kq]at he
  split at he
  ·rename_i h1
   split at he
   ·rename_i h2
    simp only[az,bt]at he
    obtain⟨-,rfl,rfl⟩:=he
    have a:=ab.ok h1
    have b:=Lw ab h2
    exact⟨a.1.trans b.1,b.2.trans a.2⟩
   ·cases he
  ·cases he
theorem Lx:∀(n:Nat),Sp (dF n)
 |0=>by
  refine⟨fun {H H' low low' v v'} he=> ?_⟩
  simp only[dF]at he
  split at he
  ·simp only[az,bt]at he
   obtain⟨-,rfl,rfl⟩:=he
   exact⟨.refl _ _,rfl⟩
  ·cases he
 |n+1=>by
  refine⟨fun {H H' low low' v v'} he=> ?_⟩
  have ih:=fun {vs vs' H H' low low'}=>Lw (Lx n) (vs:=vs) (vs':=vs') (H:=H) (H':=H') (low:=low) (low':=low')
  simp only[dF]at he
  split at he
  ·simp only[az,bt]at he
   obtain⟨-,rfl,rfl⟩:=he
   exact⟨.refl _ _,rfl⟩
  ·split at he
   ·split at he
    ·rename_i h
     simp only[az,bt]at he
     obtain⟨-,rfl,rfl⟩:=he
     exact ih h
    ·cases he
   ·split at he
    ·rename_i h
     simp only[az,bt]at he
     obtain⟨-,rfl,rfl⟩:=he
     exact ih h
    ·cases he
   ·split at he
    ·split at he
     ·split at he
      ·simp only[az,bt]at he
       obtain⟨-,rfl,rfl⟩:=he
       split
       ·exact⟨.refl _ _,rfl⟩
       ·exact⟨.set _ _,by simp⟩
      ·split at he
       ·rename_i h
        split at he
        ·split at he
         ·simp only[az,bt]at he
          obtain⟨-,rfl,rfl⟩:=he
          have:=ih h
          exact⟨this.1.trans (.set _ _),by simp[this.2]⟩
         ·cases he
        ·cases he
       ·cases he
     ·cases he
    ·cases he
   ·simp only[az,bt]at he
    obtain⟨-,rfl,rfl⟩:=he
    exact⟨.refl _ _,rfl⟩
theorem AA (he:eP H low v=some (v',H',low')):Fr H low H' low'/\H'.length=H.length:=(Lx 16).ok he
theorem Gx:∀{vs vs':List V} {H H':Heap} {low low':Nat},dX H low vs=some (vs',H',low')->Fr H low H' low'/\H'.length=H.length
 |[],_,_,_,_,_,he=>by
  simp only[dX,az,bt]at he
  obtain⟨-,rfl,rfl⟩:=he
  exact⟨.refl _ _,rfl⟩
 |v::r,_,_,_,_,_,he=>by
  simp only[dX]at he
  split at he
  ·rename_i h1
   split at he
   ·rename_i h2
    simp only[az,bt]at he
    obtain⟨-,rfl,rfl⟩:=he
    have a:=AA h1
    have b:=Gx h2
    exact⟨a.1.trans b.1,b.2.trans a.2⟩
   ·cases he
  ·cases he
theorem adt{n:Nat}{a x:V}{l:Nat}(he:hD H n a x=some (H',l)):∃o,H'=H.set l o:=by
 unfold hD at he
 repeat' split at he
 all_goals first
  |(simp only[az,bt]at he;obtain⟨rfl,rfl⟩:=he;exact⟨_,rfl⟩)
  |cases he
set_option maxHeartbeats 1000000 in
theorem adu{op:cH}(hl:low<=H.length)(he:step ae H low op=some (v,H',low')):Fr H low H' low':=by
 cases op with
 |alloc z=>
  simp only[step,az,bt]at he
  obtain⟨-,rfl,rfl⟩:=he
  exact .push hl _
 |box x=>
  simp only[step]at he
  split at he
  ·simp only[az,bt]at he
   obtain⟨-,rfl,rfl⟩:=he
   exact .push hl _
  ·cases he
 |build z parts=>
  simp only[step]at he
  obtain⟨cs,-,he⟩:=ct.1 he
  simp only[bt]at he
  obtain⟨-,rfl,rfl⟩:=he
  exact .refl _ _
 |lit es z len parts jc=>
  simp only[step]at he
  split at he
  ·rename_i h
   have ab:=Gx h
   have nu:low'<=low':=aK _
   split at he
   ·split at he
    ·split at he
     ·simp only[az,bt]at he
      obtain⟨-,rfl,rfl⟩:=he
      exact ab.1
     ·cases he
    ·split at he
     ·simp only[az,bt]at he
      obtain⟨-,rfl,rfl⟩:=he
      exact ab.1
     ·simp only[az,bt]at he
      obtain⟨-,rfl,rfl⟩:=he
      exact ab.1.trans (.push (by have:=ab.1.low;have:=ab.1.len;omega) _)
   ·cases he
  ·cases he
 |store n a x=>
  simp only[step]at he
  obtain⟨⟨H1,l⟩,h,he⟩:=ct.1 he
  simp only[bt]at he
  obtain⟨-,rfl,rfl⟩:=he
  obtain⟨o,rfl⟩:=adt h
  exact .set _ _
 |zZ t x=>
  simp only[step]at he
  split at he
  ·rename_i h
   simp only[az,bt]at he
   obtain⟨-,rfl,rfl⟩:=he
   exact(AA h).1
  ·cases he
 |mkMap=>
  simp only[step,az,bt]at he
  obtain⟨-,rfl,rfl⟩:=he
  exact .push hl _
 |mkSlice es z bytes l c=>
  simp only[step]at he
  repeat' split at he
  all_goals first
   |(simp only[az,bt]at he;obtain⟨-,rfl,rfl⟩:=he;first|exact .refl _ _|exact .push hl _)
   |cases he
 |px kind m k x=>
  simp only[step]at he
  split at he
  ·rename_i h
   have ab:=(AA h).1
   repeat' split at he
   all_goals first
    |(simp only[az,bt]at he;obtain⟨-,rfl,rfl⟩:=he;exact ab.trans (.set _ _))
    |cases he
  ·cases he
 |append es bytes a b=>
  simp only[step]at he
  split at he
  ·split at he
   ·rename_i h
    have ab:=(Gx h).1
    have hle:∀x,x<=low->x<=H.length:=fun x hx=>cV hx hl
    repeat' split at he
    all_goals first
     |(simp only[az,bt]at he;obtain⟨-,rfl,rfl⟩:=he
       first
        |exact ab
        |exact ab.trans (.push (by have:=ab.low;have:=ab.len;omega) _)
        |exact ab.trans (.set _ _))
     |cases he
   ·cases he
  ·cases he
 |xK kind m k=>
  simp only[step]at he
  repeat' split at he
  all_goals first
   |(simp only[az,bt]at he;obtain⟨-,rfl,rfl⟩:=he;first|exact .refl _ _|exact .set _ _)
   |cases he
 |Cj a b=>
  simp only[step]at he
  repeat' split at he
  all_goals first
   |(simp only[az,bt]at he;obtain⟨-,rfl,rfl⟩:=he;first|exact .refl _ _|exact .push hl _|exact .set _ _)
   |cases he
 |copy es a b=>
  simp only[step]at he
  repeat' split at he
  all_goals first
   |(simp only[az,bt]at he;obtain⟨-,rfl,rfl⟩:=he;first|exact .refl _ _|exact .set _ _)
   |cases he
 |call raw f args=>simp[step]at he
 |fail=>simp[step]at he
 | _=>
   simp only[step]at he
   repeat' split at he
   all_goals first
    |(cases he;done)
    |(cases he;exact .refl _ _)
    |(simp only[az,bt]at he;obtain⟨-,rfl,rfl⟩:=he;exact .refl _ _)
    |(obtain⟨_,-,he⟩:=ct.1 he;simp only[bt]at he;obtain⟨-,rfl,rfl⟩:=he;exact .refl _ _)
theorem Sq{op:cH}(ht:fw op=false)(he:step ae H low op=some (v,H',low')):H'=H/\low'=low/\∀H2 c5,step ae H2 c5 op=some (v,H2,c5):=by
 cases op<;>first
  |(simp[fw]at ht;done)
  |skip
 all_goals
  simp only[step]at he⊢
  repeat' split at he
  all_goals first
   |(cases he;done)
   |(simp only[az,bt]at he;obtain⟨rfl,rfl,rfl⟩:=he;simp_all;done)
   |(obtain⟨x,hx,he⟩:=ct.1 he;simp only[bt]at he;obtain⟨rfl,rfl,rfl⟩:=he;simp_all;done)
theorem CQ{ae gP:ag->V}{d:Nat}{x:Option ag}(h:∀y∈x.toList,ae y=gP y):eF ae d x=eF gP d x:=by
 cases x with
 |none=>rfl
 |some y=>simp[eF,h y (by simp)]
theorem adv{ae gP:ag->V}{op:cH}(h:∀x∈op.operands,ae x=gP x):step ae H low op=step gP H low op:=by
 cases op with
 |build z parts=>
  have:(parts.map fun p=>(p.1,p.2.1,ae p.2.2))=parts.map fun p=>(p.1,p.2.1,gP p.2.2):=pn fun p hp=>by rw[h _ (by simp only[cH.operands,ey];exact⟨p,hp,rfl⟩)]
  simp only[step,this]
 |lit es z len parts jc=>
  have:(parts.map fun p=>ae p.2)=parts.map fun p=>gP p.2:=pn fun p hp=>h _ (by simp only[cH.operands,ey];exact⟨p,hp,rfl⟩)
  simp only[step,this]
 |sS i a b=>
  have h1:a.map ae=a.map gP:=pn fun p hp=>h _ (by simp[cH.operands,hp])
  have h2:b.map ae=b.map gP:=pn fun p hp=>h _ (by simp[cH.operands,hp])
  simp only[step,h1,h2]
 |oI x lo hi=>
  have h0:=h x (by simp[cH.operands])
  have h1:∀d,eF ae d lo=eF gP d lo:=fun d=>CQ fun y hy=>h y (by simp only[cH.operands,dA,jA];exact .inr (.inl hy))
  have h2:∀d,eF ae d hi=eF gP d hi:=fun d=>CQ fun y hy=>h y (by simp only[cH.operands,dA,jA];exact .inr (.inr hy))
  simp only[step,h0,h1,h2]
 |pw es x lo hi mx=>
  have h0:=h x (by simp[cH.operands])
  have h1:∀d,eF ae d lo=eF gP d lo:=fun d=>CQ fun y hy=>h y (by simp only[cH.operands,dA,jA];exact .inr (.inl (.inl hy)))
  have h2:∀d,eF ae d hi=eF gP d hi:=fun d=>CQ fun y hy=>h y (by simp only[cH.operands,dA,jA];exact .inr (.inl (.inr hy)))
  have ar:∀d,eF ae d mx=eF gP d mx:=fun d=>CQ fun y hy=>h y (by simp only[cH.operands,dA,jA];exact .inr (.inr hy))
  cases mx with
  |none=>simp only[step,h0,h1,h2,ar]
  |some m=>
   have aQ:=h m (by simp[cH.operands])
   simp only[step,h0,h1,h2,ar,aQ]
 |call raw f args=>rfl
 |fail=>rfl
 |alloc z=>rfl
 |mkMap=>rfl
 | _=>simp only[step];simp only[cH.operands,dA,sP,or_false,forall_eq_or_imp,forall_eq]at h;simp only[h]
theorem ya{call:cU}{op:cH}(h:∀raw f args,op≠ .call raw f args):b2 call ae H low op=step ae H low op:=by
 cases op<;>first|rfl|exact absurd rfl (h _ _ _)
theorem adw{call:cU}{ae gP:ag->V}{op:cH}(h:∀x∈op.operands,ae x=gP x):b2 call ae H low op=b2 call gP H low op:=by
 cases op with
 |call raw f args=>
  have h0:=h f (by simp[cH.operands])
  have h1:args.map ae=args.map gP:=pn fun p hp=>h _ (by simp[cH.operands,hp])
  cases raw<;>simp only[b2,h0,h1]
 | _=>rw[ya (by simp),ya (by simp)];exact adv h
def l3 (call:cU):Prop:=∀(f:V) (args:List V) (H:Heap) (v:V) (H':Heap) (low':Nat),call f args H=some (v,H',low')->Fr H H.length H' low'
theorem yb{call:cU}{op:cH}(hc:l3 call)(hl:low<=H.length)(he:b2 call ae H low op=some (v,H',low')):Fr H low H' low':=by
 cases op with
 |call raw f args=>
  cases raw
  ·simp only[b2]at he
   split at he
   ·rename_i vs H1 bI h1
    have ab:=Gx h1
    split at he
    ·rename_i u H2 l h2
     have hk:=hc _ _ _ _ _ _ h2
     split at he
     ·cases he;exact .refl _ _
     ·cases he;exact ab.1.trans (hk.lift _)
    ·cases he
   ·cases he
  ·simp only[b2]at he
   split at he
   ·rename_i u H2 l h2
    cases he
    exact(hc _ _ _ _ _ _ h2).lift _
   ·cases he
 | _=>rw[ya (by simp)]at he;exact adu hl he
theorem j5 (st:aq)(d:Option (Nat × Bool))(v:V):(st.put d v).H=st.H/\(st.put d v).low=st.low/\(st.put d v).ro=st.ro:=by
 rcases d with _|⟨t,b⟩
 ·exact⟨rfl,rfl,rfl⟩
 ·cases b<;>exact⟨rfl,rfl,rfl⟩
def gb (st aF:aq):Prop:=Fr st.H st.low aF.H aF.low/\aF.ro=st.ro
theorem gb.refl (st:aq):gb st st:=⟨.refl _ _,rfl⟩
theorem gb.trans{a b c:aq}(h:gb a b)(k:gb b c):gb a c:=⟨h.1.trans k.1,k.2.trans h.2⟩
theorem gb.bound{a b:aq}(h:gb a b)(hl:a.low<=a.H.length):b.low<=b.H.length:=by
 have:=h.1.low;have:=h.1.len;omega
theorem oa{call:cU}(hc:l3 call):∀(ops:List bO) (st aF:aq) (wr e6:List Bool),st.low<=st.H.length->cQ call ops st wr=some (aF,e6)->gb st aF
 |[],st,aF,wr,e6,_,he=>by
  simp only[cQ,az,bt]at he
  obtain⟨rfl,-⟩:=he;exact .refl _
 |o::r,st,aF,wr,e6,hl,he=>by
  simp only[cQ]at he
  split at he
  ·split at he
   ·rename_i v H' low' h
    have ab:=yb hc (aK _) h
    have hp:=j5 {st with H:=H',low:=min st.low low'} o.dst v
    have h1:gb st ({st with H:=H',low:=min st.low low'}.put o.dst v):=⟨by rw[hp.1,hp.2.1];exact ab.lift _,hp.2.2⟩
    exact h1.trans (oa hc r _ _ _ _ (h1.bound hl) he)
   ·cases he
  ·have hp:=j5 st o.dst (.aU [])
   have h1:gb st (st.put o.dst (.aU [])):=⟨by rw[hp.1,hp.2.1];exact .refl _ _,hp.2.2⟩
   exact h1.trans (oa hc r _ _ _ _ (h1.bound hl) he)
  ·cases he
theorem Sr{f:aq->Option (X × aq)}(ab:∀st x aF,st.low<=st.H.length->f st=some (x,aF)->gb st aF):∀(n:Nat) (st:aq) (x:X) (aF:aq),st.low<=st.H.length->iter f n st=some (x,aF)->gb st aF
 |0,_,_,_,_,he=>by cases he
 |n+1,st,x,aF,hl,he=>by
  simp only[iter]at he
  split at he
  ·rename_i b4 h1
   have a:=ab _ _ _ hl h1
   exact a.trans (Sr ab n _ _ _ (a.bound hl) he)
  ·exact ab _ _ _ hl he
theorem l4{call:cU}(hc:l3 call)(n:Nat):∀(c:cj) (st:aq) (x:X) (aF:aq),st.low<=st.H.length->exec call n c st=some (x,aF)->gb st aF
 | .skip,st,x,aF,hl,he=>by simp only[exec,az,bt]at he;obtain⟨-,rfl⟩:=he;exact .refl _
 | .region ops dO,st,x,aF,hl,he=>by
   simp only[exec,aq.fp]at he
   split at he
   ·rename_i b4 wr h1
    have a:gb {st with aG:=[]} b4:=oa hc _ _ _ _ _ hl h1
    have a7:gb st b4:=a
    repeat' split at he
    all_goals first
     |(cases he;exact a7)
     |cases he
   ·cases he
 | .xL ops ok f,st,x,aF,hl,he=>by
   simp only[exec,aq.fp]at he
   split at he
   ·rename_i b4 wr h1
    have a:gb {st with aG:=[]} b4:=oa hc _ _ _ _ _ hl h1
    have a7:gb st b4:=a
    split at he
    ·cases he;exact a7
    ·cases he
   ·cases he
 | .seq a b,st,x,aF,hl,he=>by
   simp only[exec,aq.fp]at he
   split at he
   ·rename_i b4 h1
    have k:=l4 hc n a _ _ _ hl h1
    exact k.trans (l4 hc n b _ _ _ (k.bound hl) he)
   ·exact l4 hc n a _ _ _ hl he
 | .cond c t e,st,x,aF,hl,he=>by
   simp only[exec,aq.fp]at he
   split at he
   ·exact l4 hc n t _ _ _ hl he
   ·exact l4 hc n e _ _ _ hl he
   ·cases he
 | .block id c,st,x,aF,hl,he=>by
   simp only[exec,aq.fp]at he
   split at he
   ·rename_i b4 h1
    have k:=l4 hc n c _ _ _ hl h1
    split at he<;>(cases he;exact k)
   ·exact l4 hc n c _ _ _ hl he
 | .loop c,st,x,aF,hl,he=>by
   simp only[exec,aq.fp]at he
   exact Sr (fun st x aF h1 h2=>l4 hc n c st x aF h1 h2) n _ _ _ hl he
 | .rangeFunc f ps a b,st,x,aF,hl,he=>by
   simp only[exec,aq.fp]at he
   split at he
   ·cases he
   ·split at he
    ·rename_i u H1 bI h1
     have k:=hc _ _ _ _ _ _ h1
     split at he
     ·split at he
      ·cases he
      ·cases he
       refine⟨⟨?_,jU _ _,fun l h=> ?_⟩,rfl⟩
       ·have:=k.len;simp at this⊢; omega
       ·simp only at h⊢
        rw[gm (by omega),k.same l (by omega),gE (by omega)]
     ·cases he
    ·cases he
 | .exit id,st,x,aF,hl,he=>by simp only[exec,az,bt]at he;obtain⟨-,rfl⟩:=he;exact .refl _
 | .ret,st,x,aF,hl,he=>by simp only[exec,az,bt]at he;obtain⟨-,rfl⟩:=he;exact .refl _
 | .fail,st,x,aF,hl,he=>by simp[exec]at he
theorem Gy{fresh:Bool}{H0:Heap}(h:Fr H0 H0.length H low)(he:finish fresh H0 v H low=some (v',H',low')):Fr H0 H0.length H' low':=by
 unfold finish at he
 split at he
 ·split at he
  ·split at he
   ·cases he;exact .push (aK _) _
   ·split at he
    ·cases he;exact h
    ·cases he
  ·cases he
 ·split at he
  ·rename_i h1
   split at he
   ·cases he;exact .refl _ _
   ·cases he;exact h.trans (AA h1).1
  ·cases he
theorem adx{ex:cj->aq->Option (X × aq)}(hx:∀c st x aF,st.low<=st.H.length->ex c st=some (x,aF)->gb st aF){f:h3}{args:List V}
  (he:fZ ex f args H=some (v,H',low')):Fr H H.length H' low':=by
 unfold fZ at he
 split at he
 ·split at he
  ·rename_i st h1
   have k:=(hx _ _ _ _ (aK _) h1).1
   split at he
   ·exact Gy k he
   ·exact Gy k he
   ·cases he
  ·rename_i st h1
   have k:=(hx _ _ _ _ (aK _) h1).1
   split at he
   ·exact Gy k he
   ·exact Gy k he
   ·cases he
  ·cases he
 ·cases he
theorem ady{ex:cj->aq->Option (X × aq)}(hx:∀c st x aF,st.low<=st.H.length->ex c st=some (x,aF)->gb st aF){l:Nat}{args:List V}
  (he:nZ ex l args H=some (v,H',low')):Fr H H.length H' low':=by
 unfold nZ at he
 split at he
 ·split at he
  ·split at he
   ·rename_i st h1
    have k:=(hx _ _ _ _ (aK _) h1).1
    split at he
    ·split at he
     ·rename_i x fU h2
      have ee:=(hx _ _ _ _ (by have q:=k.low;have q':=k.len;simp only[zT]at q q'⊢; omega) h2).1
      split at he
      ·cases he
       exact(k.trans (.set _ _)).trans (ee.trans (.set _ _))
      ·cases he
     ·cases he
    ·cases he
   ·cases he
  ·cases he
 ·cases he
theorem Gz (aa:Nat->Option bY):∀(n:Nat),l3 (cu aa n)
 |0=>fun f args H v H' low' he=>by simp[cu]at he
 |n+1=>fun f args H v H' low' he=>by
  have hx:=fun c st x aF (h1:st.low<=st.H.length) h2=>l4 (Gz aa n) n c st x aF h1 h2
  simp only[cu,qy]at he
  split at he
  ·split at he
   ·exact adx hx he
   ·split at he
    ·obtain⟨u,-,he⟩:=ct.1 he
     cases he;exact .refl _ _
    ·cases he
   ·cases he
  ·exact ady hx he
  ·cases he
end Go.Abs
namespace Go.Abs
open Go
variable{C:Ctx}{fid:Nat->Nat}{w w':World}{G G':bX}{H H':Heap}
def en (ro:Option Nat):Fence:={fn:=fun _=>True,depth:=none,alive:=false,round:=ro}
def ll (C:Ctx)(fid:Nat->Nat)(G:bX)(H:Heap)(w:World)(v:V)(H':Heap)(low':Nat)(x:Value)(w':World):Prop:=
 ∃G',aZ C fid G' H' w'/\(∀m,m<=low'->Ext G w G' w' m H.length)/\a8 fid G' w' v x
def rQ (P:Program)(R:Value->World->Prop):Result Next->Prop
 | .ok (.value x) w'=>R x w'
 | .ok .skip w'=>R undef w'
 | .ok (.enter f args) w'=>Calls P f args w' (fun e hF=>∃x,e=.returned x/\R x hF)
 | .ok (.row row args) w'=>Rows P row args w' R
 | .ok (.round l f tmps aO c2) w'=>RoundIn Fence.wide 0 P l f tmps aO c2 w' (fun e hF=>∃x,e=.returned x/\R x hF)
 | _=>False
theorem rQ.mono{P:Program}{R nA:Value->World->Prop}(h:∀x w,R x w->nA x w):∀{r:Result Next},rQ P R r->rQ P nA r
 | .ok (.value x) w',k=>h _ _ k
 | .ok .skip w',k=>h _ _ k
 | .ok (.enter f args) w',k=>Ci k fun e hF=>fun⟨x,af,aj⟩=>⟨x,af,h _ _ aj⟩
 | .ok (.row row args) w',k=>Rows.mono k h
 | .ok (.round l f tmps aO c2) w',k=>RoundIn.mono k fun e hF=>fun⟨x,af,aj⟩=>⟨x,af,h _ _ aj⟩
 | .ok (.defer _) _,k| .ok .recover _,k| .ok (.spawn _) _,k| .ok (.comm ..) _,k| .ok .numGoroutine _,k| .ok .collect _,k| .ok (.watch _) _,k| .ok (.newcoro ..) _,k| .ok (.coroswitch ..) _,k
 | .ok (.sleep _) _,k| .ok (.timer _) _,k| .ok (.alone ..) _,k| .ok (.callThen ..) _,k| .ok (.stack ..) _,k| .halt ..,k=>k.elim
theorem Ly{P:Program}{R:Value->World->Prop}{ro:Option Nat}{o:Oper}{a:Act}{next:Act->World->Prop}{Q:Exit->Act->World->Prop}(hn:∀x w,R x w->next (a.put o.dst x) w):
  ∀{r:Result Next},rQ P R r->o.uponIn (en ro) 0 P a next Q r
 | .ok (.value x) w',k=>hn _ _ k
 | .ok .skip w',k=>hn _ _ k
 | .ok (.enter f args) w',k=>by
   have cq:CallsIn Fence.wide 0 P f args w' fun
    | .returned v,hF=>next (a.put o.dst v) hF
    | .panicked chain,hF=>Q (.panic chain) a hF
    | .outgrown,_=>LetsOut Q:=callsIn_wide.2 (Ci k fun e hF=>by rintro⟨x,rfl,aj⟩;exact hn _ _ aj)
   exact⟨fun h=>by simp[en]at h,cq⟩
 | .ok (.row row args) w',k=>by
   refine⟨fun h=>by simp[en]at h,fun c cs _=> ?_⟩
   obtain⟨v,bG,h1,h2⟩:=k c cs
   exact⟨v,bG,hn _ _ h1,(stepsIn_wide.2 h2:StepsIn (Machine.fenced P Fence.wide) P _ _)⟩
 | .ok (.round l f tmps aO c2) w',k=>by
   have cq:RoundIn Fence.wide 0 P l f tmps aO c2 w' fun
    | .returned v,hF=>next (a.put o.dst v) hF
    | .panicked chain,hF=>Q (.panic chain) a hF
    | .outgrown,_=>LetsOut Q:=RoundIn.mono k fun e hF=>by rintro⟨x,rfl,aj⟩;exact hn _ _ aj
   exact⟨fun h=>by simp[en]at h,cq⟩
 | .ok (.defer _) _,k| .ok .recover _,k| .ok (.spawn _) _,k| .ok (.comm ..) _,k| .ok .numGoroutine _,k| .ok .collect _,k| .ok (.watch _) _,k| .ok (.newcoro ..) _,k| .ok (.coroswitch ..) _,k
 | .ok (.sleep _) _,k| .ok (.timer _) _,k| .ok (.alone ..) _,k| .ok (.callThen ..) _,k| .ok (.stack ..) _,k| .halt ..,k=>k.elim
structure gH (C:Ctx) (fid:Nat->Nat) (call:cU):Prop where
 bM:l3 call
 run:∀{G:bX} {H:Heap} {w:World} {f:V} {args:List V} {v:V} {H':Heap} {low':Nat} {Lz:Value} {xs:List Value},aZ C fid G H w->a8 fid G w f Lz->aY fid G w args xs->
  call f args H=some (v,H',low')->∃d,(Deferred.ofValue Lz ⟨xs⟩).run C.P w=.ok d w/\rQ C.P (ll C fid G H w v H' low') ((invoke d.target d.args).run C.P w)/\
   (wm f=true->bW args=false->∃g aO,(invoke d.target d.args).run C.P w=.ok (.enter g aO) w)
theorem aZ.restore (U:aZ C fid G H w)(hs:w.heap.size<=w'.heap.size)(hk:∀b,b<w.heap.size->w'.heap[b]? =w.heap[b]?):aZ C fid G H w' where
 obj l h e:=by
  obtain⟨o,ho,hr⟩:=U.obj l h e
  exact⟨o,ho,hr.mono (.refl _) (fun b hb=>⟨hb,hk b (U.cX b hb).1⟩) (hk _ (U.blk l h e))⟩
 inj:=U.inj
 blk l h e:=qs (U.blk l h e) hs
 cX b hb:=⟨qs (U.cX b hb).1 hs,(U.cX b hb).2⟩
 ku:=U.ku
 e9 b o bj:=⟨(U.e9 b o bj).1,by rw[hk b (U.cX b (U.e9 b o bj).1).1];exact(U.e9 b o bj).2⟩
theorem Ext.restore (hs:w.heap.size<=w'.heap.size)(hk:∀b,b<w.heap.size->w'.heap[b]? =w.heap[b]?)(h1:w'.os=w.os)(ar:w'.output=w.output)(m n:Nat):Ext G w G w' m n:=
 ⟨hs,h1,ar,fun b hb _=>hk b hb,.refl _,fun _ h hb=>.inl ⟨h,hb,.inl rfl⟩,fun _ h=>h,fun _ h=>.inl h⟩
theorem Ext.Ss{m n:Nat}(U:aZ C fid G H w)(h:Ext G w G' w' m n)(hm:H.length<=m):∀b,b<w.heap.size->w'.heap[b]? =w.heap[b]? :=fun b hb=>
 h.dQ b hb fun l x e _=>.inr (qs (U.lt e) hm)
theorem St{o:Oper}{ρ:Operand->Value}{f:Operand}{args:Array Operand}{ts:Array TypeId}(ho:o.op=.call {callee:=.value f,args,argTypes:=ts}){P:Program}{w:World}{d:Deferred}
  (hd:(Deferred.ofValue (ρ f) (args.map ρ)).run P w=.ok d w):(execOp ρ o).run P w=(invoke d.target d.args).run P w:=by
 unfold execOp
 simp only[ho,resolve,Sem.run_bind,hd,Result.andThen]
section
variable{vars:List Nat}{ae:ag->V}{ρ:Operand->Value}{low low':Nat}{v:V}{o:Oper}{call:cU}
theorem LA (bu:eZ C fid)(a6:gH C fid call)(U:aZ C fid G H w)(aL:fh C fid vars G w ae ρ)(jZ:low<=H.length)
  (he:b2 call ae H low (C.op vars o.pos o.op)=some (v,H',low')):rQ C.P (ll C fid G H w v H' low') ((execOp ρ o).run C.P w):=by
 have adz:(∀raw f args,C.op vars o.pos o.op≠ .call raw f args)->rQ C.P (ll C fid G H w v H' low') ((execOp ρ o).run C.P w):=fun bf=>by
  rw[ya bf]at he
  obtain⟨x,aH,ay,hr,h1,h2,ar,-,-⟩:=ads bu U aL jZ he
  rcases hr with hr|⟨hr,rfl⟩
  ·rw[hr];exact⟨ay,h1,h2,ar⟩
  ·rw[hr];exact⟨ay,h1,h2,ar⟩
 by_cases bf:∃raw f args,C.op vars o.pos o.op=.call raw f args
 ·obtain⟨raw,lS,LB,c4⟩:=bf
  have cw:C.cI vars o.pos o.op=some (.call raw lS LB):=by
   unfold Ctx.op at c4
   cases h:C.cI vars o.pos o.op with
   |none=>rw[h]at c4;cases c4
   |some a=>rw[h]at c4;simp only[sO]at c4;rw[c4]
  obtain⟨f,args,ts,ho,ab,wF⟩:∃f args ts,o.op=.call {callee:=.value f,args,argTypes:=ts}/\C.b3 vars f=some lS/\dH (C.b3 vars) args.toList=some LB:=by
   cases ho:o.op with
   |call c=>
    rw[ho]at cw
    obtain⟨callee,args,dK⟩:=c
    cases callee with
    |value f=>
     simp only[Ctx.cI]at cw
     split at cw
     ·rename_i h1 h2
      simp only[az,cH.call.injEq]at cw
      obtain⟨-,rfl,rfl⟩:=cw
      exact⟨f,args,dK,rfl,h1,h2⟩
     ·cases cw
    |builtin b=>
     exfalso
     simp only[Ctx.cI]at cw
     unfold Ctx.builtin at cw
     repeat' split at cw
     all_goals first
      |(cases cw;done)
      |(simp only[az,reduceCtorEq]at cw;done)
      |(obtain⟨_,_,h⟩:=ct.1 cw;cases h;done)
    |invoke r n=>simp[Ctx.cI]at cw
   |binOp a b c d e=>
    exfalso
    rw[ho]at cw
    simp only[Ctx.cI,Ctx.xO]at cw
    repeat' split at cw
    all_goals first
     |(cases cw;done)
     |(obtain⟨_,_,h⟩:=ct.1 cw;cases h;done)
   |makeFunc g a b=>
    exfalso
    rw[ho]at cw
    cases g with
    |func f=>
     simp only[Ctx.cI]at cw
     split at cw<;>simp at cw
    | _=>simp[Ctx.cI]at cw
   |makeMap t r=>
    exfalso
    rw[ho]at cw
    cases r<;>simp[Ctx.cI]at cw
   | _=>
     exfalso
     rw[ho]at cw
     simp only[Ctx.cI]at cw
     repeat' split at cw
     all_goals first
      |(cases cw;done)
      |(obtain⟨_,_,h⟩:=ct.1 cw;cases h;done)
  have yc:=aL f lS ab
  have n7:aY fid G w (LB.map ae) (args.map ρ).toList:=by rw[Array.toList_map];exact Gg aL wF
  rw[c4]at he
  have rR:(⟨(args.map ρ).toList⟩:Array Value)=args.map ρ:=rfl
  cases raw with
  |true=>
   simp only[b2]at he
   split at he
   ·rename_i u H2 l h1
    cases he
    obtain⟨d,hd,hn,-⟩:=a6.run U yc n7 h1
    rw[rR]at hd
    rw[St ho hd]
    refine hn.mono fun x bG hp=> ?_
    obtain⟨bl,p1,p2,p3⟩:=hp
    exact⟨bl,p1,fun m hm=>p2 m (by omega),p3⟩
   ·cases he
  |false=>
   simp only[b2]at he
   split at he
   ·rename_i vs H1 bI aT
    obtain⟨ay,dt,qJ⟩:=KV U n7 aT
    have LC:=yc.ext U (dt.ext 0 (by omega))
    split at he
    ·rename_i u H2 l h1
     obtain⟨d,hd,hn,-⟩:=a6.run dt.rel LC qJ h1
     rw[rR]at hd
     rw[St ho hd]
     refine hn.mono fun x bG hp=> ?_
     obtain⟨bl,p1,p2,p3⟩:=hp
     split at he
     ·rename_i hc
      cases he
      have du:=p2 H1.length hc.2
      have hk:=du.Ss dt.rel (aK _)
      exact⟨G,U.restore du.size hk,fun m _=>.restore du.size hk du.os du.output m _,p3.flat hc.1⟩
     ·cases he
      exact⟨bl,p1,fun m hm=>(dt.ext m (by omega)).trans ((p2 m (by omega)).le (aK _) (Nat.le_of_eq dt.len.symm)),p3⟩
    ·cases he
   ·cases he
 ·exact adz fun raw f args h=>bf ⟨raw,f,args,h⟩
end
end Go.Abs
namespace Go.Abs
open Go
variable{C:Ctx}{fid:Nat->Nat}{w w':World}{G G':bX}{H H':Heap}
def dC (vars:List Nat)(st:aq)(t:Nat):V:=if vars.contains t then bk st.av t else bk st.aG t
theorem Su (e:Env)(t eY:Nat)(v:V):bk (ec e t v) eY=if eY=t then v else bk e eY:=by
 induction e with
 |nil=>
  by_cases h:eY=t
  ·subst h;simp[ec,bk]
  ·simp[ec,bk,h,kp h]
 |cons p r ih=>
  obtain⟨k,u⟩:=p
  simp only[ec]
  split
  ·rename_i hk
   subst hk
   by_cases h:eY=k
   ·subst h;simp[bk]
   ·simp[bk,h,kp h]
  ·rename_i hk
   simp only[bk]
   split
   ·rename_i h
    rw[if_neg (by omega)]
   ·exact ih
theorem CR (vars:List Nat)(st:aq)(d:Nat)(v:V)(t:Nat):dC vars (st.put (some (d,vars.contains d)) v) t=if t=d then v else dC vars st t:=by
 unfold dC
 cases hd:vars.contains d
 ·simp only[aq.put]
  by_cases h:t=d
  ·subst h;rw[if_neg (by rw[hd];exact Bool.false_ne_true),if_pos rfl];simp[bk]
  ·rw[if_neg h]
   simp only[bk,if_neg (kp h)]
 ·simp only[aq.put,Su]
  by_cases h:t=d
  ·subst h;simp only[hd,if_true]
  ·simp only[if_neg h]
theorem LD (a:Act)(d:Nat)(x:Value)(t:Nat)(hd:d<a.tmps.size):(a.put (some d) x).tmps.getD t undef=if t=d then x else a.tmps.getD t undef:=by
 simp only[Act.put]
 by_cases h:t=d
 ·subst h;simp[Array.getD,hd]
 ·rw[if_neg h]
  simp only[v8,QC (kp h)]
theorem wG (a:Act)(d:Option Tmp)(x:Value):(a.put d x).tmps.size=a.tmps.size:=by cases d<;>simp[Act.put]
theorem put_defers (a:Act)(d:Option Tmp)(x:Value):(a.put d x).defers=a.defers:=by cases d<;>simp[Act.put]
structure s7 (C:Ctx) (vars:List Nat) (N:Nat) (ops:Array Oper) (o:Oper) (aV:bO):Prop where
 op:aV.op=C.op vars o.pos o.op
 dst:(o.dst=none/\aV.dst=none)\/∃d,d<N/\o.dst=some d/\aV.dst=some (d,vars.contains d)
 guard:Ctx.guard vars ops o.guard=some aV.guard
theorem AB{vars:List Nat}{N:Nat}{ops:Array Oper}{o:Oper}{aV:bO}(h:C.oper vars N ops o=some aV):s7 C vars N ops o aV:=by
 unfold Ctx.oper at h
 split at h
 ·rename_i g bj
  split at h
  ·rename_i hd
   cases h
   exact⟨rfl,.inl ⟨hd,rfl⟩,bj⟩
  ·rename_i d hd
   split at h
   ·rename_i aX
    cases h
    exact⟨rfl,.inr ⟨d,aX,hd,rfl⟩,bj⟩
   ·cases h
 ·cases h
def l5 (call:cU)(aV:bO)(S ln:aq)(aR:Bool):Prop:=
 (e3 S.aG S.av aV.guard=some true/\∃v H' low',b2 call (ag.ae S.aG S.av) S.H S.H.length aV.op=some (v,H',low')/\
   ln=({S with H:=H',low:=min S.low low'}:aq).put aV.dst v/\aR=eG S.H H' low')\/
 (e3 S.aG S.av aV.guard=some false/\ln=S.put aV.dst (.aU [])/\aR=false)
theorem uN{call:cU}:∀(bz:List bO) (st aF:aq) (wr e6:List Bool),cQ call bz st wr=some (aF,e6)->
  ∃(S:Nat->aq) (aR:Nat->Bool),S 0=st/\S bz.length=aF/\e6=wr.reverse++(List.range bz.length).map aR/\∀i aV,bz[i]? =some aV->l5 call aV (S i) (S (i+1)) (aR i)
 |[],st,aF,wr,e6,he=>by
  simp only[cQ,az,bt]at he
  obtain⟨rfl,rfl⟩:=he
  exact⟨fun _=>st,fun _=>false,rfl,rfl,by simp,fun i aV h=>by simp at h⟩
 |o::r,st,aF,wr,e6,he=>by
  have key:∀(b4:aq) (b:Bool),l5 call o st b4 b->cQ call r b4 (b::wr)=some (aF,e6)->∃(S:Nat->aq) (aR:Nat->Bool),S 0=st/\S (o::r).length=aF/\
    e6=wr.reverse++(List.range (o::r).length).map aR/\∀i aV,(o::r)[i]? =some aV->l5 call aV (S i) (S (i+1)) (aR i):=fun b4 b hs h=>by
   obtain⟨S,aR,h0,h1,h2,ar⟩:=uN r _ _ _ _ h
   refine⟨fun i=>match i with|0=>st|i+1=>S i,fun i=>match i with|0=>b|i+1=>aR i,rfl,by simpa using h1,?_,fun i aV hi=> ?_⟩
   ·rw[h2,ev,List.range_succ_eq_map,eo,rB,List.reverse_cons,mS]
    rfl
   ·cases i with
    |zero=>
     simp only[rr,az]at hi
     subst hi
     simpa[h0]using hs
    |succ i=>exact ar i aV (by simpa using hi)
  simp only[cQ]at he
  split at he
  ·rename_i hw
   split at he
   ·rename_i v H1 bI h1
    exact key _ _ (.inl ⟨hw,v,H1,bI,h1,rfl,rfl⟩) he
   ·cases he
  ·rename_i hw
   exact key _ _ (.inr ⟨hw,rfl,rfl⟩) he
  ·cases he
mutual
theorem uO:∀a b:V,dP a b=true->a=b
 | .bool a,.bool b,h=>by simp only[dP,beq_iff_eq]at h;rw[h]
 | .int k n,.int bp m,h=>by simp only[dP,b8,decide_eq_true_eq]at h;rw[h.1,h.2]
 | .str s,.str al,h=>by simp only[dP,decide_eq_true_eq]at h;rw[h]
 | .cp,.cp,_=>rfl
 | .emp,.emp,_=>rfl
 | .jb,.jb,_=>rfl
 | .iw,.iw,_=>rfl
 | .jV,.jV,_=>rfl
 | .ig,.ig,_=>rfl
 | .undef,.undef,_=>rfl
 | .list e ds,.list e' ds',h=>by simp only[dP,b8,decide_eq_true_eq]at h;rw[h.1,s8 _ _ h.2]
 | .agg a,.agg b,h=>by simp only[dP]at h;rw[s8 _ _ h]
 | .aU a,.aU b,h=>by simp only[dP]at h;rw[s8 _ _ h]
 | .ptr l o,.ptr fo o',h=>by simp only[dP,b8,decide_eq_true_eq]at h;rw[h.1,h.2]
 | .gF a b c d e,.gF a7 eL c' d' e',h=>by simp only[dP,b8,decide_eq_true_eq]at h;rw[h.1,h.2.1,h.2.2.1,h.2.2.2.1,h.2.2.2.2]
 | .dn vs f,.dn vs' lR,h=>by simp only[dP,b8,decide_eq_true_eq]at h;rw[s8 _ _ h.1,h.2]
 | .cz a b c d e,.cz a7 eL c' d' e',h=>by simp only[dP,b8,decide_eq_true_eq]at h;rw[h.1,h.2.1,h.2.2.1,h.2.2.2.1,h.2.2.2.2]
 | .map l,.map fo,h=>by simp only[dP,decide_eq_true_eq]at h;rw[h]
 | .yield l,.yield fo,h=>by simp only[dP,decide_eq_true_eq]at h;rw[h]
 | .fn i a b,.fn z1 a7 eL,h=>by simp only[dP,b8,decide_eq_true_eq]at h;rw[h.1,s8 _ _ h.2.1,s8 _ _ h.2.2]
 | .iface t v,.iface eY v',h=>by simp only[dP,b8,decide_eq_true_eq]at h;rw[h.1,uO _ _ h.2]
theorem s8:∀a b:List V,mV a b=true->a=b
 |[],[],_=>rfl
 |a::r,b::s,h=>by simp only[mV,b8]at h;rw[uO _ _ h.1,s8 _ _ h.2]
end
theorem GA{call:cU}:∀(bz:List bO) (S:Nat->aq) (aR:Nat->Bool) (cf:List aq),(∀(i:Nat) aV,bz[i]? =some aV->l5 call aV (S i) (S (i+1)) (aR i))->fx call bz (S 0)=some cf->
  ∀k,k<=bz.length->cf[k]? =some (S k)
 |[],S,aR,cf,hs,ht,k,hk=>by
  simp only[fx,az]at ht
  subst ht
  have:k=0:=by simpa using hk
  subst this;rfl
 |o::r,S,aR,cf,hs,ht,k,hk=>by
  have h0:=hs 0 o rfl
  have adA:∀rS,fx call r (S 1)=some rS->∀k,k<=r.length->rS[k]? =some (S (k+1)):=fun rS h=>GA r (fun i=>S (i+1)) (fun i=>aR (i+1)) rS (fun i aV hi=>hs (i+1) aV (by simpa using hi)) h
  simp only[fx]at ht
  have fin:∀LF,LF=S 1->(fx call r LF).map (S 0:: ·)=some cf->cf[k]? =some (S k):=fun LF e h=>by
   subst e
   obtain⟨x,hx,rfl⟩:=ct.1 h
   cases k with
   |zero=>rfl
   |succ k=>simpa using adA x hx k (by simpa using hk)
  rcases h0 with⟨hw,v,H1,bI,h1,e,-⟩|⟨hw,e,-⟩
  ·rw[hw]at ht
   simp only[h1]at ht
   exact fin _ e.symm ht
  ·rw[hw]at ht
   simp only at ht
   exact fin _ e.symm ht
theorem l5.bM{call:cU}(hc:l3 call){aV:bO}{S ln:aq}{aR:Bool}(h:l5 call aV S ln aR):gb S ln:=by
 rcases h with⟨-,v,H1,bI,h1,rfl,-⟩|⟨-,rfl,-⟩
 ·have hp:=j5 {S with H:=H1,low:=min S.low bI} aV.dst v
  exact⟨by rw[hp.1,hp.2.1];exact(yb hc (aK _) h1).lift _,hp.2.2⟩
 ·have hp:=j5 S aV.dst (.aU [])
  exact⟨by rw[hp.1,hp.2.1];exact .refl _ _,hp.2.2⟩
theorem l5.still{call:cU}(hc:l3 call){aV:bO}{S ln:aq}{aR:Bool}(h:l5 call aV S ln aR)(ab:aR=false):ln.H=S.H:=by
 rcases h with⟨-,v,H1,bI,h1,rfl,h2⟩|⟨-,rfl,-⟩
 ·have hp:=j5 {S with H:=H1,low:=min S.low bI} aV.dst v
  rw[hp.1];exact Lv (yb hc (aK _) h1) (h2.symm.trans ab)
 ·exact(j5 S aV.dst (.aU [])).1
theorem l5.fw{call:cU}{aV:bO}{S ln:aq}{aR:Bool}(h:l5 call aV S ln aR)(ab:aR=true):fw aV.op=true:=by
 rcases h with⟨-,v,H1,bI,h1,rfl,h2⟩|⟨-,rfl,h2⟩
 ·cases ht:Abs.fw aV.op with
  |true=>rfl
  |false=>
   exfalso
   have bf:∀raw f args,aV.op≠ .call raw f args:=fun raw f args e=>by rw[e]at ht;simp[Abs.fw]at ht
   rw[ya bf]at h1
   obtain⟨rfl,rfl,-⟩:=Sq ht h1
   rw[ab]at h2
   simp[eG]at h2
 ·rw[h2]at ab;cases ab
theorem l5.look{call:cU}{vars:List Nat}{N:Nat}{ops:Array Oper}{o:Oper}{aV:bO}{S ln:aq}{aR:Bool}(h:l5 call aV S ln aR)(fK:s7 C vars N ops o aV){t:Nat}(ht:o.dst≠some t):
  dC vars ln t=dC vars S t:=by
 have key:∀(st:aq) (v:V),dC vars (st.put aV.dst v) t=dC vars st t:=fun st v=>by
  rcases fK.dst with⟨-,h2⟩|⟨d,-,h1,h2⟩
  ·rw[h2];rfl
  ·rw[h2,CR,if_neg (fun e=>ht (by rw[h1,e]))]
 rcases h with⟨-,v,H1,bI,h1,rfl,-⟩|⟨-,rfl,-⟩
 ·rw[key];rfl
 ·rw[key]
def GC (T:Nat->Prop):ag->Prop
 | .tmp t| .var t=>T t
 | _=>True
theorem adB{vars:List Nat}{ops:Array Oper}{o:Oper}{gw:Option (ag × Bool)}(bj:Ctx.guard vars ops o.guard=some gw){S:aq}{a:Act}{b:Bool}
  (hs:∀j want d,o.guard=some (j,want)->(ops[j]?).bind (·.dst)=some d->a8 fid G w (dC vars S d) (a.tmps.getD d undef)) (hw:e3 S.aG S.av gw=some b):
  Region.wanted o (yielded ops a.tmps)=b:=by
 unfold Region.wanted
 cases yd:o.guard with
 |none=>
  rw[yd]at bj
  simp only[Ctx.guard,az]at bj
  subst bj
  simp only[e3,az]at hw
  exact hw
 |some p=>
  obtain⟨j,want⟩:=p
  rw[yd]at bj
  simp only[Ctx.guard]at bj
  split at bj
  ·rename_i d hd
   simp only[az]at bj
   subst bj
   have ad:=hs j want d yd hd
   have AD:((if vars.contains d then ag.var d else ag.tmp d).ae S.aG S.av)=dC vars S d:=by
    unfold dC;split<;>rfl
   simp only[e3,AD]at hw
   have hy:yielded ops a.tmps j=match a.tmps.getD d undef with| .bool c=>some c| _=>none:=by
    unfold yielded
    rw[hd]
    simp only[cg,v8]
    cases a.tmps[d]? with
    |none=>rfl
    |some x=>cases x<;>rfl
   dsimp only
   rw[hy]
   split at hw
   ·rename_i c hc
    rw[hc]at ad
    rw[ad.kz]
    simp only[az]at hw
    rw[<-hw]
    cases c<;>cases want<;>rfl
   ·rename_i hc
    rw[hc]at ad
    obtain⟨vals,hx,hr⟩:=ad.KP
    rw[hx]
    simp only[az]at hw
    rw[<-hw]
    rfl
   ·cases hw
  ·cases bj
theorem ye{vars:List Nat}{N:Nat}{ops:Array Oper}{o:Oper}{aV:bO}{S ln:aq}{aR:Bool}{call:cU}{j:Nat}{Hc:Heap}{a:Act}{T:Nat->Prop}{K:Act->World->Prop}
  {Q:Exit->Act->World->Prop} {ro:Option Nat} (bu:eZ C fid) (a6:gH C fid call) (ho:ops[j]? =some o) (fK:s7 C vars N ops o aV) (cd:l5 call aV S ln aR)
  (U:aZ C fid G Hc w) (e5:fw aV.op=true->Hc=S.H\/(aR=false/\(e3 S.aG S.av aV.guard=some true->∀v H1 bI,b2 call (ag.ae S.aG S.av) S.H S.H.length aV.op=some (v,H1,bI)->∃H2 c5,b2 call (ag.ae S.aG S.av) Hc Hc.length aV.op=some (v,H2,c5)/\eG Hc H2 c5=false))) (jZ:S.low<=Hc.length)
  (qL:∀t,T t->a8 fid G w (dC vars S t) (a.tmps.getD t undef))
  (hT:∀x∈aV.op.operands,GC T x) (adC:∀k want d,o.guard=some (k,want)->(ops[k]?).bind (·.dst)=some d->T d) (dJ:a.tmps.size=N)
  (kC:∀x w' G',aZ C fid G' (if aR then ln.H else Hc) w'->(∀m,m<=ln.low->Ext G w G' w' m Hc.length)->(∀t,o.dst=some t->a8 fid G' w' (dC vars ln t) x)->K (a.put o.dst x) w'):
  wpOpIn (en ro) 0 C.P ops Q j K a w:=by
 have Sv:∀b,e3 S.aG S.av aV.guard=some b->Region.wanted o (yielded ops a.tmps)=b:=fun b hb=>
  adB (fid:=fid) (G:=G) (w:=w) fK.guard (S:=S) (a:=a) (fun k want d h1 h2=>qL d (adC k want d h1 h2)) hb
 have l6:∀(st:aq) (v:V) (t:Nat),o.dst=some t->dC vars (st.put aV.dst v) t=v:=fun st v t ht=>by
  rcases fK.dst with⟨h1,-⟩|⟨d,-,h1,h2⟩
  ·rw[h1]at ht;cases ht
  ·rw[h1]at ht;cases ht
   rw[h2,CR,if_pos rfl]
 unfold wpOpIn
 rw[ho]
 rcases cd with⟨hw,v,H1,bI,h1,rfl,kA⟩|⟨hw,rfl,kA⟩
 ·simp only[Sv _ hw,if_true]
  refine⟨fun _ _=>trivial,?_⟩
  let gP:ag->V:=fun cv=>open Classical in if cv∈aV.op.operands then ag.ae S.aG S.av cv else .undef
  have LG:∀H low,b2 call (ag.ae S.aG S.av) H low aV.op=b2 call gP H low aV.op:=fun H low=>adw fun x hx=>by simp[gP,hx]
  have aL:fh C fid vars G w gP a.eval:=fun x cv hx=>by
   by_cases hin:cv∈aV.op.operands
   ·have uP:=hT cv hin
    simp only[gP,hin,if_true]
    cases x with
    |tmp t=>
     simp only[Ctx.b3,az]at hx
     have LH:T t:=by rw[<-hx]at uP;split at uP<;>exact uP
     have:=qL t LH
     have e:cv.ae S.aG S.av=dC vars S t:=by rw[<-hx];unfold dC;split<;>rfl
     rw[e];exact this
    |const u=>
     simp only[Ctx.b3]at hx
     obtain⟨Sw,kU,rfl⟩:=ct.1 hx
     rcases Cw (I:=G.I) (w:=w) u kU with rfl|hp
     ·exact .undef _
     ·exact .p _ _ hp
    |func f=>exact KW bu hx
    |global g=>simp[Ctx.b3]at hx
   ·simp only[gP,hin,if_false];exact .undef _
  have adD:o.semAt (en ro).round a.eval=execOp a.eval o:=Oper.semAt_eq _ _ _ fun c hc=>by
   rw[fK.op,hc]at h1
   simp[Ctx.op,Ctx.cI,b2,step]at h1
  rw[adD]
  have fL:=j5 {S with H:=H1,low:=min S.low bI} aV.dst v
  by_cases ht:fw aV.op=true
  ·rcases e5 ht with e|⟨adE,eA⟩
   case inr=>
    obtain⟨H2,c5,h2,LI⟩:=eA hw v H1 bI h1
    have adF:=yb a6.bM (aK _) h2
    have GD:=Lv adF LI
    have yf:Hc.length<=c5:=by
     unfold eG at LI
     simp only[B9,decide_eq_false_iff_not]at LI
     omega
    rw[GD]at h2
    rw[LG,fK.op]at h2
    refine Ly (R:=ll C fid G Hc w v Hc c5) (fun x bG hp=> ?_) (LA bu a6 U aL (aK _) h2)
    obtain⟨bl,p1,p2,p3⟩:=hp
    refine kC x bG bl (by rw[adE];exact p1) (fun m hm=>p2 m ?_) (fun t ht=>by rw[l6 _ _ _ ht];exact p3)
    rw[fL.2.1]at hm
    have:m<=S.low:=cV hm (jU _ _)
    omega
   subst e
   rw[LG,fK.op]at h1
   refine Ly (R:=ll C fid G S.H w v H1 bI) (fun x bG hp=> ?_) (LA bu a6 U aL (aK _) h1)
   obtain⟨bl,p1,p2,p3⟩:=hp
   refine kC x bG bl ?_ (fun m hm=>p2 m (by rw[fL.2.1]at hm;exact cV hm (qt _ _))) (fun t ht=>by rw[l6 _ _ _ ht];exact p3)
   rw[fL.1]
   cases aR with
   |true=>exact p1
   |false=>
    have:=Lv (yb a6.bM (aK _) h1) kA.symm
    rw[this]at p1
    exact p1
  ·have eC:fw aV.op=false:=by simpa using ht
   have bf:∀raw f args,aV.op≠ .call raw f args:=fun raw f args e=>by rw[e]at eC;simp[fw]at eC
   have Sx:=h1
   rw[ya bf]at Sx
   obtain⟨rfl,rfl,eA⟩:=Sq eC Sx
   have adG:aR=false:=by rw[kA];simp[eG]
   have h2:=eA Hc Hc.length
   rw[<-ya (call:=call) bf,LG,fK.op]at h2
   refine Ly (R:=ll C fid G Hc w v Hc Hc.length) (fun x bG hp=> ?_) (LA bu a6 U aL (aK _) h2)
   obtain⟨bl,p1,p2,p3⟩:=hp
   refine kC x bG bl (by rw[adG];exact p1) (fun m hm=>p2 m ?_) (fun t ht=>by rw[l6 _ _ _ ht];exact p3)
   rw[fL.2.1]at hm
   have:m<=S.low:=cV hm (jU _ _)
   omega
 ·have:=Sv _ hw
  dsimp only
  rw[if_neg (by rw[this];simp)]
  refine⟨fun _ _=>trivial,?_⟩
  refine kC undef w G ?_ (fun m _=>.refl _ _ _ _) (fun t ht=> ?_)
  ·rw[kA];exact U
  ·rw[l6 _ _ _ ht];exact .aU [] [] .nil
end Go.Abs
