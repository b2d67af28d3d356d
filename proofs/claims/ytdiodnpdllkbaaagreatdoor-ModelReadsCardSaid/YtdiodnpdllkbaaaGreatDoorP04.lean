/- Texts of this claim, joined and written short by a program. -/
import Derived.Test.YtdiodnpdllkbaaaGreatDoorP03
import Derived.Laws.CopyRow
import Derived.ChangeKeysEq
import Derived.DefersIn
import Derived.WalkLawsBesides
import Derived.Test.YtdiodnpdllkbaaaGreatDoorP00
set_option linter.unusedVariables false
set_option linter.unusedSimpArgs false
set_option linter.unusedSectionVars false
namespace Go.Abs
open Go
variable{C:Ctx}{fid:Nat->Nat}{w w':World}{G G':bX}{H:Heap}
def Gd (P:Program)(d:Deferred):Prop:=
 ∃fv cap f args,d.target=.fn fv cap/\∀w,(invoke d.target d.args).run P w=.ok (.enter f args) w/\
  CallsDIn Fence.wide 0 P f args .returning w fun e u' w'=>(∃v,e=.returned v)/\u'=.returning/\w'=w
structure eZ (C:Ctx) (fid:Nat->Nat):Prop where
 f:∀f i,C.FZ f=some i->i=f
 ab4:∀i,i∈C.Aa->∀caps:Array Value,Gd C.P {target:=.fn (.func i) caps,args:= #[]}
mutual
theorem Cw{I:Nat->Prop}:∀(x:Value) {v:V},mC x=some v->v=.undef\/fz w I v x
 | .bool b,v,h=>by simp only[mC,az]at h;subst h;exact .inr (.bool b)
 | .int k n,v,h=>by simp only[mC,az]at h;subst h;exact .inr (.int k n)
 | .string ⟨⟨s⟩⟩,v,h=>by simp only[mC,az]at h;subst h;exact .inr (.str s)
 | .pointer none,v,h=>by simp only[mC,az]at h;subst h;exact .inr .jb
 | .slice none 0 0,v,h=>by simp only[mC,az]at h;subst h;exact .inr .cp
 | .map none,v,h=>by simp only[mC,az]at h;subst h;exact .inr .iw
 | .nilFunc,v,h=>by simp only[mC,az]at h;subst h;exact .inr .jV
 | .nilIface,v,h=>by simp only[mC,az]at h;subst h;exact .inr .ig
 | .agg ⟨vs⟩,v,h=>by
   simp only[mC,ct]at h
   obtain⟨us,hu,rfl⟩:=h
   exact .inr (.agg us vs (Ge vs hu))
 | .tuple ⟨[]⟩,v,h=>by simp only[mC,az]at h;subst h;exact .inl rfl
 | .tuple ⟨_::_⟩,v,h=>by simp[mC]at h
 | .slice none (n+1) _,v,h=>by simp[mC]at h
 | .slice none 0 (n+1),v,h=>by simp[mC]at h
 | .pointer (some _),v,h| .slice (some _) _ _,v,h| .map (some _),v,h| .float ..,v,h| .complex ..,v,h| .chan ..,v,h| .func ..,v,h| .iface ..,v,h=>by simp[mC]at h
theorem Ge{I:Nat->Prop}:∀(xs:List Value) {vs:List V},z8 xs=some vs->c7 w I vs xs
 |[],vs,h=>by simp only[z8,az]at h;subst h;exact .nil
 |x::r,vs,h=>by
  simp only[z8]at h
  split at h
  ·rename_i v ad
   split at h
   ·cases h
   ·simp only[ct]at h
    obtain⟨us,hu,rfl⟩:=h
    exact .cons v x us r ((Cw x ad).resolve_left (by rintro rfl;simp_all [ui])) (Ge r hu)
  ·cases h
end
def fh (C:Ctx)(fid:Nat->Nat)(vars:List Nat)(G:bX)(w:World)(ae:ag->V)(ρ:Operand->Value):Prop:=
 ∀x cv,C.b3 vars x=some cv->a8 fid G w (ae cv) (ρ x)
def dj (C:Ctx)(fid:Nat->Nat)(G:bX)(H:Heap)(w:World)(ab5:Nat)(r:Result Next)(v:V)(H':Heap)(low':Nat):Prop:=
 ∃x w' G',(r=.ok (.value x) w'\/(r=.ok .skip w'/\x=undef))/\aZ C fid G' H' w'/\(∀m,m<=low'->Ext G w G' w' m H.length)/\a8 fid G' w' v x/\low'<=ab5/\H.length<=H'.length
theorem dj.same (U:aZ C fid G H w){low:Nat}{r:Result Next}{v:V}{x:Value}(hr:r=.ok (.value x) w)(ad:a8 fid G w v x):dj C fid G H w low r v H low:=
 ⟨x,w,G,.inl hr,U,fun _ _=>.refl _ _ _ _,ad,aK _,aK _⟩
theorem dj.alloc (U:aZ C fid G H w){low:Nat}{r:Result Next}{v:V}{x:Value}{o:cc}{aP:Obj}(tag ff:Nat)(hr:r=.ok (.value x) (w.alloc aP))
  (ho:jg C fid ⟨ck G.β H.length ⟨w.heap.size,tag,ff,false⟩,G.I⟩ (w.alloc aP) ⟨w.heap.size,tag,ff,false⟩ o)
  (ad:a8 fid ⟨ck G.β H.length ⟨w.heap.size,tag,ff,false⟩,G.I⟩ (w.alloc aP) v x):dj C fid G H w low r v (H++[o]) low:=
 ⟨x,_,_,.inl hr,U.push o aP tag ff ho,fun m _=>.push U aP tag ff m,ad,aK _,by simp⟩
theorem dj.Aj{low bI:Nat}{ay:bX}{H1:Heap}(f:lh C fid G H w low ay H1 bI){r:Result Next}{v:V}{H':Heap}{low':Nat}(h:dj C fid ay H1 w bI r v H' low'):
  dj C fid G H w low r v H' low':=by
 obtain⟨x,w',G',hr,U,he,ad,hl,hn⟩:=h
 refine⟨x,w',G',hr,U,fun m hm=>(f.ext m (cV hm hl)).trans ((he m hm).le (aK _) (Nat.le_of_eq f.len.symm)),ad,cV hl f.low,by have:=f.len;omega⟩
section ops
variable{vars:List Nat}{ae:ag->V}{ρ:Operand->Value}{low low':Nat}{v:V}{H':Heap}{pos:String}{c8:cH}{o:Oper}
theorem KW (bu:eZ C fid){f:FuncId}{cv:ag}(h:C.b3 vars (.func f)=some cv){aG av:Env}:a8 fid G w (cv.ae aG av) (.func (.func f) #[] #[]):=by
 simp only[Ctx.b3,ct]at h
 obtain⟨i,hi,rfl⟩:=h
 have e:=bu.f f i hi
 subst e
 exact a8.fn (fid:=fid) (G:=G) (w:=w) i [] [] [] [] .nil .nil
theorem a8.kz{x:Value}{b:Bool}(h:a8 fid G w (.bool b) x):x=.bool b:=by
 cases h with|p _ _ h=>cases h;rfl
theorem a8.jE{x:Value}{k:IntKind}{n:Int}(h:a8 fid G w (.int k n) x):x=.int k n:=by
 cases h with|p _ _ h=>cases h;rfl
theorem a8.oS{x:Value}{s:List UInt8}(h:a8 fid G w (.str s) x):x=.string ⟨⟨s⟩⟩:=by
 cases h with|p _ _ h=>cases h;rfl
theorem a8.n4{x:Value}{l o:Nat}(h:a8 fid G w (.ptr l o) x):∃h,G.β l=some h/\h.tag=0/\x=.pointer (some ⟨h.b,o,none⟩):=by
 cases h with
 |p _ _ h=>cases h
 |ptr _ _ h hb ht=>exact⟨h,hb,ht,rfl⟩
theorem a8.mapInv{x:Value}{l:Nat}(h:a8 fid G w (.map l) x):∃h,G.β l=some h/\h.tag=0/\x=.map (some h.b):=by
 cases h with
 |p _ _ h=>cases h
 |map _ h hb ht=>exact⟨h,hb,ht,rfl⟩
theorem a8.Cx{x:Value}{l es i f tag:Nat}(h:a8 fid G w (.gF l es i f tag) x):
  ∃h a,G.β l=some h/\tag<=h.tag/\(h.tag=tag->a=⟨h.b,i*es+f,none⟩)/\x=.pointer (some a):=by
 cases h with
 |p _ _ h=>cases h
 |gF _ _ _ _ _ h a hb hle ao=>exact⟨h,a,hb,hle,ao,rfl⟩
theorem a8.KX{x:Value}{vs:List V}{f:Nat}(h:a8 fid G w (.dn vs f) x):
  ∃b o vals,G.I b/\iz w b o vals/\c7 w G.I vs vals/\x=.pointer (some ⟨b,o+f,none⟩):=by
 cases h with
 |p _ _ h=>cases h
 |dn _ _ b o vals aW hc hr=>exact⟨b,o,vals,aW,hc,hr,rfl⟩
theorem a8.pA{x:Value}{l es off len tag:Nat}(h:a8 fid G w (.cz l es off len tag) x):
  ∃h a n cap,G.β l=some h/\tag<=h.tag/\(h.tag=tag->a=⟨h.b,off*es,none⟩/\n=len/\(off+cap)*es<=h.ff/\len<=cap)/\x=.slice (some a) n cap:=by
 cases h with
 |p _ _ h=>cases h
 |cz _ _ _ _ _ h a n cap hb hle ao=>exact⟨h,a,n,cap,hb,hle,ao,rfl⟩
theorem a8.Ak{x:Value}{i:Nat}{fs cs:List V}(h:a8 fid G w (.fn i fs cs) x):
  ∃xs cR,aY fid G w fs xs/\aY fid G w cs cR/\x=.func (.func i) ⟨xs⟩ ⟨cR⟩:=by
 cases h with
 |p _ _ h=>cases h with|fn _ _ _ xs cR ab hc=>exact⟨xs,cR,c7.oP ab,c7.oP hc,rfl⟩
 |fn _ _ _ xs cR ab hc=>exact⟨xs,cR,ab,hc,rfl⟩
theorem a8.ab6{x:Value}{l:Nat}(h:a8 fid G w (.yield l) x):∃h,G.β l=some h/\h.tag=0/\x=.func (.yield h.b) #[] #[]:=by
 cases h with
 |p _ _ h=>cases h
 |yield _ h hb ht=>exact⟨h,hb,ht,rfl⟩
theorem aY.fY{cs:List V}{xs:List Value}(h:aY fid G w cs xs){o:Nat}{sh:Option Nat}{u:V}(hr:Abs.fY cs o sh=some u):
  match sh with
  |none=>∃x,xs[o]? =some x/\a8 fid G w u x
  |some n=>o+n<=xs.length/\a8 fid G w u (.agg ⟨(xs.drop o).take n⟩):=by
 cases sh with
 |none=>exact h.get hr
 |some n=>
  simp only[Abs.fY]at hr
  split at hr
  ·rename_i hle
   simp only[az]at hr
   subst hr
   exact⟨by rw[h.length];exact hle,.agg _ _ ((h.drop o).take n)⟩
  ·cases hr
theorem RL{t:TypeId}{sh:Option Nat}(h:C.shapeOf t=some sh):
  (∃n,sh=some n/\(∀w,(isAgg t).run C.P w=.ok true w)/\∀w,(Go.sizeOf t).run C.P w=.ok n w)\/(sh=none/\∀w,(isAgg t).run C.P w=.ok false w):=by
 unfold Ctx.shapeOf at h
 have key:∀d,C.P.underlying t=some d->∀w,(isAgg t).run C.P w=.ok (match d with| .struct _| .array _ _=>true| _=>false) w:=by
  intro d hd w
  unfold isAgg
  rw[Sem.run_bind,run_underlying hd]
  cases d<;>rfl
 have kV:∀n,C.sizeOf t=some n->∀w,(Go.sizeOf t).run C.P w=.ok n w:=by
  intro n hn w
  simp only[Ctx.sizeOf,ct]at hn
  obtain⟨i,hi,rfl⟩:=hn
  unfold Go.sizeOf
  rw[Sem.run_bind,run_typeInfo (P:=C.P) w hi];rfl
 cases hd:C.P.underlying t with
 |none=>rw[hd]at h;cases h
 |some d=>
  rw[hd]at h
  have hk:=key d hd
  cases d<;>simp only[az,ct]at h<;>
   first
    |exact .inr ⟨h.symm,hk⟩
    |(obtain⟨n,hn,rfl⟩:=h;exact .inl ⟨n,rfl,hk,kV n hn⟩)
theorem KY{t:TypeId}{sh:Option Nat}(h:C.shapeOf t=some sh){b o:Nat}{cs:List V}{vals:List Value}{f:Nat}(hc:iz w b o vals)(ad:aY fid G w cs vals){u:V}
  (hr:Abs.fY cs f sh=some u):∃x,(loadVar t ⟨b,o+f,none⟩).run C.P w=.ok x w/\a8 fid G w u x:=by
 have hk:=ad.fY hr
 rcases RL h with⟨n,rfl,ao,hs⟩|⟨rfl,ao⟩
 ·obtain⟨hle,hu⟩:=hk
  refine⟨_,?_,hu⟩
  have fS:∀(j:Nat) (x:Value),((vals.drop f).take n)[j]? =some x->w.cell? (Addr.add ⟨b,o+f,none⟩ j)=some x:=by
   intro j x hx
   rw[Addr.add_lit]
   rw[QL]at hx
   split at hx
   ·rw[QK]at hx;rw[pr];exact hc _ _ hx
   ·cases hx
  have hl:=run_loadCells_list (P:=C.P) w ⟨b,o+f,none⟩ _ fS
  have hlen:((vals.drop f).take n).length=n:=by simp;omega
  rw[hlen]at hl
  unfold loadVar
  simp only[Sem.run_bind,ao,hs,Result.andThen_ok,if_true,hl,Sem.run_pure]
 ·obtain⟨x,hx,hu⟩:=hk
  refine⟨x,?_,hu⟩
  unfold loadVar
  simp only[Sem.run_bind,ao,Result.andThen_ok,hY,if_false,run_load,hc f x hx]
theorem RM (U:aZ C fid G H w){t:TypeId}{sh:Option Nat}(h:C.shapeOf t=some sh){a u:V}{x:Value}(ao:a8 fid G w a x)(he:gN H sh a=some u):
  ∃y,(Instr.loadAt t x).run C.P w=.ok y w/\a8 fid G w u y:=by
 unfold gN at he
 split at he
 ·rename_i l o
  obtain⟨h0,hb,ht,rfl⟩:=ao.n4
  split at he
  ·rename_i vs hl
   obtain⟨aP,ho,hr⟩:=U.obj l h0 hb
   rw[hl]at ho;cases ho
   obtain⟨-,-,c,e,hc,ad⟩:=hr
   obtain⟨y,hy,hu⟩:=KY (o:=0) h (iz.xU (vals:=c.toList) (rest:=[]) hc (by simp)) ad he
   rw[eO]at hy
   exact⟨y,by simp only[Instr.loadAt,Instr.sureAddr,Sem.run_bind,Sem.run_pure,Result.andThen_ok,hy],hu⟩
  ·cases he
 ·rename_i l es i f tag
  obtain⟨h0,dc,hb,hle,jF,rfl⟩:=ao.Cx
  split at he
  ·rename_i bD ds dt hl
   split at he
   ·rename_i hc
    obtain⟨rfl,fR⟩:=hc
    obtain⟨aP,ho,hr⟩:=U.obj l h0 hb
    rw[hl]at ho;cases ho
    obtain⟨ht,-,-,-,hu,c,e,vals,rest,hc,fS,ad,fg⟩:=hr
    obtain⟨d,hd,Cy⟩:=dZ.1 he
    have kW:(aE d).length=bD:=hu d (hz hd)
    have ab7:aY fid G w (aE d) ((vals.drop (i*bD)).take bD):=by
     have h1:(ds.drop i).flatMap aE=(ds.flatMap aE).drop (i*bD):=xT hu i
     have h2:ds.drop i=d::ds.drop (i+1):=by
      obtain⟨hi,rfl⟩:=e2.1 hd
      exact wc hi
     have ar:=(fg.drop (i*bD)).take bD
     rw[<-h1,h2,kn,List.take_append,kW,Nat.sub_self,List.take_zero,rz,B5 (by omega)]at ar
     exact ar
    have fT:iz w h0.b (i*bD) ((vals.drop (i*bD)).take bD):=by
     have:=((iz.xU hc ad).drop (i*bD)).take bD
     rwa [eO]at this
    obtain⟨y,hy,ab8⟩:=KY h fT ab7 Cy
    rw[jF (ht.trans fR)]
    exact⟨y,by simp only[Instr.loadAt,Instr.sureAddr,Sem.run_bind,Sem.run_pure,Result.andThen_ok,hy],ab8⟩
   ·cases he
  ·cases he
 ·rename_i vs f
  obtain⟨b,o,vals,aW,hc,hr,rfl⟩:=ao.KX
  obtain⟨y,hy,hu⟩:=KY h hc (c7.oP (fid:=fid) hr) he
  exact⟨y,by simp only[Instr.loadAt,Instr.sureAddr,Sem.run_bind,Sem.run_pure,Result.andThen_ok,hy],hu⟩
 ·cases he
theorem RN{c:V}{x:Value}(h:a8 fid G w c x)(hc:ed c=true):x.oneCell'=true:=by
 cases h with
 |p _ _ h=>cases h<;>first|rfl|simp[ed]at hc
 |agg=>simp[ed]at hc
 |aU=>simp[ed]at hc
 |undef=>simp[ed]at hc
 | _=>rfl
theorem Gf:∀{cs:List V} {xs:List Value},aY fid G w cs xs->bS cs=true->∀x∈xs,x.oneCell'=true
 | _,_,.nil,_,x,hx=>by simp at hx
 | _,_,.cons v y vs cR h hs,hc,x,hx=>by
   simp only[bS,b8]at hc
   rcases dA.1 hx with rfl|hx
   ·exact RN h hc.1
   ·exact Gf hs hc.2 x hx
theorem Al{v:V}{y:Value}(h:a8 fid G w v y)(hc:bS (aE v)=true):aY fid G w (aE v) y.cells.toList/\∀c∈y.cells.toList,c.oneCell'=true:=by
 by_cases ad:∃vs,v=.agg vs
 ·obtain⟨vs,rfl⟩:=ad
  obtain⟨vals,rfl,hr⟩:=h.Ct
  exact⟨hr,Gf hr hc⟩
 ·have e:aE v=[v]:=by
   cases v<;>first|rfl|(exfalso;exact ad ⟨_,rfl⟩)
  rw[e]at hc⊢
  have h1:y.oneCell'=true:=RN h (by simpa[bS]using hc)
  have e':y.cells= #[y]:=by cases y<;>first|rfl|simp[Value.oneCell']at h1
  rw[e']
  exact⟨.cons _ _ _ _ h .nil,fun c hc=>by simp at hc;subst hc;exact h1⟩
theorem Cz:∀{cR:List V} {dd:List Value} {cs:List V} {xs:List Value} (o:Nat),aY fid G w cs xs->aY fid G w cR dd->o+cR.length<=cs.length->
  aY fid G w (setCells cs o cR) (xs.take o++dd++xs.drop (o+dd.length))
 | _,_,cs,xs,o,h,.nil,_=>by simpa[setCells]using h
 | _,_,cs,xs,o,h,.cons y z cR dd hy hs,hl=>by
   have hlen:=h.length
   simp only[ev]at hl
   have ih:=Cz (o+1) (h.set o hy) hs (by simp;omega)
   simp only[setCells]
   have e:=list_seg_step xs o z dd (by have:=hs.length;omega)
   rw[<-ev (a:=z)]at e
   rw[<-e];exact ih
theorem RO:∀(cR cs:List V) (o:Nat),(setCells cs o cR).length=cs.length
 |[],cs,o=>rfl
 |y::cR,cs,o=>by rw[setCells,RO cR];simp
theorem setRow_other{g b:Nat}(hb:b≠g)(c:Array Value):(w.setRow g c).heap[b]? =w.heap[b]? :=by
 unfold World.setRow
 simp only[Array.getElem?_modify]
 rw[if_neg (by omega)]
theorem setRow_size (g:Nat)(c:Array Value):(w.setRow g c).heap.size=w.heap.size:=by
 unfold World.setRow;simp
theorem ab9 (U:aZ C fid G H w){l:Nat}{h:Home}{vs cR:List V}(hb:G.β l=some h)(hl:H[l]? =some (.cells vs)){o:Nat}{dd:List Value}(hy:aY fid G w cR dd)
  (lW:o+cR.length<=vs.length) {c:Array Value} {e:TypeId} (hc:w.heap[h.b]? =some (.cells c e (0,0))):
  ∃G',aZ C fid G' (H.set l (.cells (setCells vs o cR))) (w.setRow h.b (c.toList.take o++dd++c.toList.drop (o+dd.length)).toArray)/\
   Ext G w G' (w.setRow h.b (c.toList.take o++dd++c.toList.drop (o+dd.length)).toArray) l H.length:=by
 obtain⟨aP,ho,hr⟩:=U.obj l h hb
 rw[hl]at ho;cases ho
 obtain⟨ht,ab,c',e',ux,ad⟩:=hr
 rw[hc]at ux;cases ux
 refine⟨⟨ck G.β l h,G.I⟩,?_,?_⟩
 ·refine aZ.write U hb ab rfl ab (aK _) id rfl (setRow_size _ _) (fun b bf=>setRow_other bf _) _ ?_
  refine⟨ht,ab,_,e,setRow_heap w h.b c _ e _ hc,?_⟩
  have hx:Ext G w ⟨ck G.β l h,G.I⟩ (w.setRow h.b (c.toList.take o++dd++c.toList.drop (o+dd.length)).toArray) l H.length:=
   Ext.write U hb ab rfl (aK _) id rfl (setRow_size _ _) (fun b bf=>setRow_other bf _) rfl rfl
  exact((Cz o ad hy lW).ext U hx)
 ·exact Ext.write U hb ab rfl (aK _) id rfl (setRow_size _ _) (fun b bf=>setRow_other bf _) rfl rfl
theorem RP:∀(xs a b:List V) (o:Nat),o+xs.length<=a.length->setCells (a++b) o xs=setCells a o xs++b
 |[],_,_,_,_=>rfl
 |x::xs,a,b,o,h=>by
  simp only[ev]at h
  rw[setCells,setCells,QF _ _ (by omega),RP xs _ b (o+1) (by simp;omega)]
theorem RQ:∀(xs a b:List V) (o:Nat),setCells (a++b) (a.length+o) xs=a++setCells b o xs
 |[],_,_,_=>rfl
 |x::xs,a,b,o=>by
  rw[setCells,setCells,List.set_append_right _ _ (by omega),aa2,pr,RQ xs a]
theorem KZ{es:Nat}{d':V}{f:Nat}{xs:List V}:∀{ds:List V} {i:Nat} {d:V},(∀d∈ds,(aE d).length=es)->ds[i]? =some d->f+xs.length<=es->aE d'=setCells (aE d) f xs->
  (ds.set i d').flatMap aE=setCells (ds.flatMap aE) (i*es+f) xs
 |[],i,d,_,h,_,_=>by simp at h
 |a::ds,0,d,hu,h,ab,he=>by
  simp at h;subst h
  have:=hu a (by simp)
  rw[List.set_cons_zero,kn,kn,he,Nat.zero_mul,eO,RP _ _ _ _ (by omega)]
 |a::ds,i+1,d,hu,h,ab,he=>by
  have h1:=hu a (by simp)
  have ih:=KZ (fun x hx=>hu x (by simp[hx])) (i:=i) (d:=d) (ds:=ds) (by simpa using h) ab he
  rw[List.set_cons_succ,kn,kn,ih,Cg,Nat.add_comm (i*es) es,pr,<-h1,RQ]
theorem aca{d d':V}{f:Nat}{xs:List V}(h:wi d f xs=some d')(hp:lQ xs=true):aE d'=setCells (aE d) f xs/\f+xs.length<=(aE d).length:=by
 unfold wi at h
 split at h
 ·split at h
  ·simp only[az]at h;subst h
   rename_i hle
   exact⟨rfl,hle⟩
  ·cases h
 ·rename_i bf
  have e:aE d=[d]:=by cases d<;>first|rfl|(exfalso;exact bf _ rfl)
  split at h
  ·rename_i x
   simp only[az]at h;subst h
   rw[e]
   refine⟨?_,by simp⟩
   simp only[lQ,xH]at hp
   cases x<;>first|rfl|simp[plainCell]at hp
  ·cases h
theorem K0:∀{xs:List V},lQ xs=true->bS xs=true
 |[],_=>rfl
 |x::xs,h=>by
  simp only[lQ,b8]at h
  simp only[bS,b8]
  exact⟨by cases x<;>simp_all [plainCell,ed],K0 h.2⟩
theorem RR (U:aZ C fid G H w){l es:Nat}{ds ds':List V}{h:Home}(hb:G.β l=some h)(hl:H[l]? =some (.row es ds false))(hn:ds'.length=ds.length)
  (nw:∀d∈ds',(aE d).length=es) {o:Nat} {cR:List V} {dd:List Value} (hy:aY fid G w cR dd) (lW:o+cR.length<=ds.length*es)
  (xX:∀vals,aY fid G w (ds.flatMap aE) vals->aY fid G w (ds'.flatMap aE) (vals.take o++dd++vals.drop (o+dd.length))) {c:Array Value} {e:TypeId} (hc:w.heap[h.b]? =some (.cells c e (0,0))):
  ∃G',aZ C fid G' (H.set l (.row es ds' false)) (w.setRow h.b (c.toList.take o++dd++c.toList.drop (o+dd.length)).toArray)/\
   Ext G w G' (w.setRow h.b (c.toList.take o++dd++c.toList.drop (o+dd.length)).toArray) l H.length:=by
 obtain⟨aP,ho,hr⟩:=U.obj l h hb
 rw[hl]at ho;cases ho
 obtain⟨ht,lV,ab,fa,hu,c',e',vals,rest,ux,fS,ad,fg⟩:=hr
 rw[hc]at ux;cases ux
 have hx:Ext G w ⟨ck G.β l h,G.I⟩ (w.setRow h.b (c.toList.take o++dd++c.toList.drop (o+dd.length)).toArray) l H.length:=
  Ext.write U hb ab rfl (aK _) id rfl (setRow_size _ _) (fun b bf=>setRow_other bf _) rfl rfl
 have kA:=nv hu
 have lX:=fg.length
 have Am:=hy.length
 refine⟨_,?_,hx⟩
 refine aZ.write U hb ab rfl ab (aK _) id rfl (setRow_size _ _) (fun b bf=>setRow_other bf _) _ ?_
 refine⟨by rw[ht,hn],by omega,ab,fa,nw,_,e,vals.take o++dd++vals.drop (o+dd.length),rest,setRow_heap w h.b c _ e _ hc,?_,?_,?_⟩
 ·rw[fS]
  simp only[zR,gM,sM,sN,hB]
  have:c.size=vals.length+rest.length:=by rw[<-hB,ad,gM]
  omega
 ·rw[QJ,ad,List.take_append_of_le_length (by omega),List.drop_append_of_le_length (by omega),mS _ _ rest]
 ·exact(xX vals fg).ext U hx
theorem acb (U:aZ C fid G H w){t:TypeId}{n:Nat}(hs:C.sizeOf t=some n){a u:V}{x y:Value}(ao:a8 fid G w a x)(hu:a8 fid G w u y){l:Nat}(he:hD H n a u=some (H',l)):
  ∃w' G',(Instr.storeAt t x y).run C.P w=.ok () w'/\aZ C fid G' H' w'/\Ext G w G' w' l H.length/\l<H.length/\H'.length=H.length:=by
 have dJ:∀w,(Go.sizeOf t).run C.P w=.ok n w:=by
  intro w
  simp only[Ctx.sizeOf,ct]at hs
  obtain⟨i,hi,rfl⟩:=hs
  unfold Go.sizeOf
  rw[Sem.run_bind,run_typeInfo (P:=C.P) w hi];rfl
 have cr:∀(b o:Nat) (c:Array Value) (e:TypeId),w.heap[b]? =some (.cells c e (0,0))->(aE u).length=n->bS (aE u)=true->o+n<=c.size->x=.pointer (some ⟨b,o,none⟩)->
   (Instr.storeAt t x y).run C.P w=.ok () (w.setRow b (c.toList.take o++y.cells.toList++c.toList.drop (o+y.cells.toList.length)).toArray):=by
  intro b o c e hc hlen bx hle hx
  obtain⟨h1,h2⟩:=Al hu bx
  have hl:=h1.length
  subst hx
  have acd:y.cells.size=n:=by rw[<-hB,hl,hlen]
  simp only[Instr.storeAt,Instr.sureAddr,storeVar,Sem.run_bind,Sem.run_pure,Result.andThen_ok,dJ,acd,ne_eq,not_true,if_false]
  have:=run_storeCells_at C.P b o e y.cells.toList 0 c w hc (by omega) h2
  simpa using this
 unfold hD at he
 split at he
 ·rename_i fo o
  obtain⟨h0,hb,ht,rfl⟩:=ao.n4
  split at he
  ·rename_i vs hl
   split at he
   ·rename_i hc
    obtain⟨hlen,hle,bx⟩:=hc
    simp only[az,bt]at he
    obtain⟨rfl,rfl⟩:=he
    obtain⟨aP,ho,hr⟩:=U.obj fo h0 hb
    rw[hl]at ho;cases ho
    obtain⟨-,-,c,e,hc,ad⟩:=hr
    have lX:=ad.length
    obtain⟨h1,h2⟩:=Al hu bx
    obtain⟨G',bA,b9⟩:=ab9 U hb hl h1 (by rw[hlen];exact hle) hc
    exact⟨_,G',cr h0.b o c e hc hlen bx (by rw[<-hB];omega) rfl,bA,b9,U.lt hb,by simp⟩
   ·cases he
  ·cases he
 ·rename_i fo es i f tag
  obtain⟨h0,dc,hb,rH,jF,rfl⟩:=ao.Cx
  split at he
  ·rename_i bD ds hl
   split at he
   ·rename_i hc
    obtain⟨rfl,fR,hlen,jG⟩:=hc
    split at he
    ·rename_i d hd
     split at he
     ·rename_i d' ace
      simp only[az,bt]at he
      obtain⟨rfl,rfl⟩:=he
      obtain⟨aP,ho,hr⟩:=U.obj fo h0 hb
      rw[hl]at ho;cases ho
      obtain⟨ht,lV,ab,fa,mW,c,e,vals,rest,hc,fS,ad,fg⟩:=hr
      obtain⟨p1,p2⟩:=aca ace jG
      have kW:(aE d).length=bD:=mW d (hz hd)
      have bx:=K0 jG
      obtain⟨h1,h2⟩:=Al hu bx
      have hi:i<ds.length:=by
       obtain⟨hi,-⟩:=e2.1 hd;exact hi
      have hmul:i*bD+bD<=ds.length*bD:=by
       have:(i+1)*bD<=ds.length*bD:=Ki _ hi
       rw[Cg]at this;exact this
      have acf:(aE d').length=bD:=by rw[p1,RO,kW]
      have kA:=nv mW
      have lX:=fg.length
      have qB:c.size=vals.length+rest.length:=by rw[<-hB,ad,gM]
      obtain⟨G',bA,b9⟩:=RR U hb hl (ds':=ds.set i d') (by simp)
       (fun a ao=>by rcases List.mem_or_eq_of_mem_set ao with q|rfl;exact mW a q;exact acf) (o:=i*bD+f) h1 (by omega) (fun vals ad=>by rw[KZ mW hd (by omega) p1];exact Cz _ ad h1 (by omega)) hc
      refine⟨_,G',cr h0.b (i*bD+f) c e hc hlen bx (by omega) ?_,bA,b9,U.lt hb,by simp⟩
      rw[jF (ht.trans fR)]
     ·cases he
    ·cases he
   ·cases he
  ·cases he
 ·cases he
end ops
end Go.Abs
namespace Go.Abs
open Go
variable{C:Ctx}{fid:Nat->Nat}{w w':World}{G G':bX}{H:Heap}
variable{vars:List Nat}{ae:ag->V}{ρ:Operand->Value}{low low':Nat}{v:V}{H':Heap}{pos:String}{c8:cH}{o:Oper}
theorem RS (U:aZ C fid G H w)(aL:fh C fid vars G w ae ρ){x:Operand}(ho:o.op=.move x\/o.op=.assign x)(hc:C.cI vars pos o.op=some c8)(he:step ae H low c8=some (v,H',low')):
  dj C fid G H w low ((execOp ρ o).run C.P w) v H' low':=by
 have ux:(C.b3 vars x).map cH.mv=some c8:=by rcases ho with ho|ho<;>(rw[ho]at hc;exact hc)
 obtain⟨cv,hx,rfl⟩:=ct.1 ux
 simp only[step,az,bt]at he
 obtain⟨rfl,rfl,rfl⟩:=he
 exact .same U (x:=ρ x) (by unfold execOp;rcases ho with ho|ho<;>rw[ho]<;>rfl) (aL x cv hx)
theorem acg (U:aZ C fid G H w)(aL:fh C fid vars G w ae ρ){c a b:Operand}(ho:o.op=.pick c a b)(hc:C.cI vars pos o.op=some c8)(he:step ae H low c8=some (v,H',low')):
  dj C fid G H w low ((execOp ρ o).run C.P w) v H' low':=by
 rw[ho]at hc
 simp only[Ctx.cI]at hc
 split at hc
 ·rename_i c' a7 eL h1 h2 ar
  simp only[az]at hc;subst hc
  simp only[step]at he
  obtain⟨t,ht,he⟩:=ct.1 he
  simp only[bt]at he
  obtain⟨rfl,rfl,rfl⟩:=he
  have kU:ae c'=.bool t:=by
   unfold kR at ht
   split at ht
   ·simp only[az]at ht;subst ht;assumption
   ·cases ht
  have:=aL c c' h1
  rw[kU]at this
  have hb:=this.kz
  refine .same U (x:=if t then ρ a else ρ b) (by unfold execOp;rw[ho];simp only[hb,asBool,Sem.run_bind,Sem.run_pure,Result.andThen_ok]) ?_
  cases t
  ·exact aL b eL ar
  ·exact aL a a7 h2
 ·cases hc
theorem ach (U:aZ C fid G H w)(aL:fh C fid vars G w ae ρ){x:Operand}(ho:o.op=.nilCheck x)(hc:C.cI vars pos o.op=some c8)(he:step ae H low c8=some (v,H',low')):
  dj C fid G H w low ((execOp ρ o).run C.P w) v H' low':=by
 rw[ho]at hc
 obtain⟨cv,hx,rfl⟩:=ct.1 hc
 have ad:=aL x cv hx
 simp only[step]at he
 split at he
 ·rename_i l o' e
  simp only[az,bt]at he
  obtain⟨rfl,rfl,rfl⟩:=he
  rw[e]at ad
  obtain⟨h0,hb,ht,dW⟩:=ad.n4
  exact .same U (x:=ρ x) (by unfold execOp;rw[ho];simp only[dW];rfl) ad
 ·rename_i l es i f tag e
  simp only[az,bt]at he
  obtain⟨rfl,rfl,rfl⟩:=he
  rw[e]at ad
  obtain⟨h0,a,hb,hle,ao,dW⟩:=ad.Cx
  exact .same U (x:=ρ x) (by unfold execOp;rw[ho];simp only[dW];rfl) ad
 ·rename_i vs f e
  simp only[az,bt]at he
  obtain⟨rfl,rfl,rfl⟩:=he
  rw[e]at ad
  obtain⟨b,o',vals,aW,hc,hr,dW⟩:=ad.KX
  exact .same U (x:=ρ x) (by unfold execOp;rw[ho];simp only[dW];rfl) ad
 ·rename_i i a b e
  simp only[az,bt]at he
  obtain⟨rfl,rfl,rfl⟩:=he
  rw[e]at ad
  obtain⟨xs,cR,ab,hc,dW⟩:=ad.Ak
  exact .same U (x:=ρ x) (by unfold execOp;rw[ho];simp only[dW];rfl) ad
 ·cases he
theorem aci (U:aZ C fid G H w)(aL:fh C fid vars G w ae ρ){op:UnOp}{t:TypeId}{x:Operand}(ho:o.op=.unOp op t x)(hc:C.cI vars pos o.op=some c8)(he:step ae H low c8=some (v,H',low')):
  dj C fid G H w low ((execOp ρ o).run C.P w) v H' low':=by
 rw[ho]at hc
 obtain⟨cv,hx,rfl⟩:=ct.1 hc
 have ad:=aL x cv hx
 simp only[step]at he
 obtain⟨u,hu,he⟩:=ct.1 he
 simp only[bt]at he
 obtain⟨rfl,rfl,rfl⟩:=he
 unfold kS at hu
 split at hu
 ·rename_i k n e
  simp only[az]at hu;subst hu
  rw[e]at ad
  exact .same U (x:=.int k (k.wrap (0-n))) (by unfold execOp;rw[ho];simp only[ad.jE,Op.unary,Op.intArith,Sem.run_bind,Sem.run_pure,Result.andThen_ok]) (.p _ _ (.int _ _))
 ·rename_i b e
  simp only[az]at hu;subst hu
  rw[e]at ad
  exact .same U (x:=.bool !b) (by unfold execOp;rw[ho];simp only[ad.kz,Op.unary,Sem.run_bind,Sem.run_pure,Result.andThen_ok]) (.p _ _ (.bool _))
 ·cases hu
theorem acj (U:aZ C fid G H w)(aL:fh C fid vars G w ae ρ){s d:TypeId}{x:Operand}(ho:o.op=.convert s d x)(hnb:∀x,c8≠ .uf x)(hc:C.cI vars pos o.op=some c8)(he:step ae H low c8=some (v,H',low')):
  dj C fid G H w low ((execOp ρ o).run C.P w) v H' low':=by
 rw[ho]at hc
 simp only[Ctx.cI]at hc
 split at hc
 ·rename_i k0 k cv h1 h2 ar
  simp only[az]at hc;subst hc
  have ad:=aL x cv ar
  simp only[step]at he
  split at he
  ·rename_i bp n e
   simp only[az,bt]at he
   obtain⟨rfl,rfl,rfl⟩:=he
   rw[e]at ad
   exact .same U (x:=.int k (k.wrap n)) (by unfold execOp;rw[ho];simp only[ad.jE,convert,Sem.run_bind,run_underlying h1,run_underlying h2,Result.andThen_ok,Conv.intToInt,Sem.run_pure]) (.p _ _ (.int _ _))
  ·cases he
 ·split at hc
  ·simp only[az]at hc;exact absurd hc.symm (hnb _)
  ·cases hc
 ·cases hc
theorem ack (U:aZ C fid G H w)(aL:fh C fid vars G w ae ρ){t:TypeId}{x:Operand}(ho:o.op=.makeInterface t x)(hc:C.cI vars pos o.op=some c8)(he:step ae H low c8=some (v,H',low')):
  dj C fid G H w low ((execOp ρ o).run C.P w) v H' low':=by
 rw[ho]at hc
 simp only[Ctx.cI]at hc
 split at hc
 ·cases hc
 ·rename_i d cv bf h1 h2
  simp only[az]at hc;subst hc
  have ad:=aL x cv h2
  simp only[step]at he
  split at he
  ·rename_i v1 H1 bI ab
   simp only[az,bt]at he
   obtain⟨rfl,rfl,rfl⟩:=he
   obtain⟨ay,f1,cq⟩:=Gc U ad ab
   refine dj.Aj f1 (dj.same f1.rel (x:=.iface t (ρ x)) ?_ (.iface _ _ _ cq))
   unfold execOp;rw[ho]
   simp only[Instr.makeInterface,Sem.run_bind,run_underlying h1,Result.andThen_ok]
   cases d<;>first|rfl|(exfalso;exact bf _ h1)
  ·cases he
 ·cases hc
theorem Gg (aL:fh C fid vars G w ae ρ):∀{xs:List Operand} {K1:List ag},dH (C.b3 vars) xs=some K1->aY fid G w (K1.map ae) (xs.map ρ)
 |[],_,h=>by simp only[dH,az]at h;subst h;exact .nil
 |x::xs,_,h=>by
  simp only[dH]at h
  split at h
  ·rename_i cv hx
   split at h
   ·rename_i K1 eQ
    simp only[az]at h;subst h
    exact .cons _ _ _ _ (aL x cv hx) (Gg aL eQ)
   ·cases h
  ·cases h
theorem acm (bu:eZ C fid)(U:aZ C fid G H w)(aL:fh C fid vars G w ae ρ){f:Fn}{a b:Array Operand}(ho:o.op=.makeFunc f a b)(hc:C.cI vars pos o.op=some c8)(he:step ae H low c8=some (v,H',low')):
  dj C fid G H w low ((execOp ρ o).run C.P w) v H' low':=by
 rw[ho]at hc
 cases f with
 |func f=>
  simp only[Ctx.cI]at hc
  split at hc
  ·rename_i i a7 eL h1 h2 ar
   simp only[az]at hc;subst hc
   simp only[step,az,bt]at he
   obtain⟨rfl,rfl,rfl⟩:=he
   refine .same U (x:=.func (.func f) (a.map ρ) (b.map ρ)) (by unfold execOp;rw[ho];rfl) ?_
   have e:=bu.f f i h1
   subst e
   have:=a8.fn (fid:=fid) i _ _ _ _ (Gg aL h2) (Gg aL ar)
   have af:a.map ρ=⟨a.toList.map ρ⟩:=by rw[<-Array.toList_map]
   have aj:b.map ρ=⟨b.toList.map ρ⟩:=by rw[<-Array.toList_map]
   rw[af,aj];exact this
  ·cases hc
 | _=>simp[Ctx.cI]at hc
theorem acn (U:aZ C fid G H w)(aL:fh C fid vars G w ae ρ){x:Operand}{i:Nat}(ho:o.op=.extract x i)(hc:C.cI vars pos o.op=some c8)(he:step ae H low c8=some (v,H',low')):
  dj C fid G H w low ((execOp ρ o).run C.P w) v H' low':=by
 rw[ho]at hc
 obtain⟨cv,hx,rfl⟩:=ct.1 hc
 have ad:=aL x cv hx
 simp only[step]at he
 split at he
 ·rename_i vs e
  obtain⟨u,hu,he⟩:=ct.1 he
  simp only[bt]at he
  obtain⟨rfl,rfl,rfl⟩:=he
  rw[e]at ad
  obtain⟨vals,dW,hr⟩:=ad.KP
  obtain⟨y,hy,fg⟩:=hr.get hu
  exact .same U (x:=y) (by unfold execOp;rw[ho];simp only[dW,Instr.extract,tZ,hy,Sem.run_bind,Sem.run_pure,Result.andThen_ok]) fg
 ·cases he
theorem aco (U:aZ C fid G H w)(aL:fh C fid vars G w ae ρ){s:TypeId}{x:Operand}{f:Nat}(ho:o.op=.field s x f)(hc:C.cI vars pos o.op=some c8)(he:step ae H low c8=some (v,H',low')):
  dj C fid G H w low ((execOp ρ o).run C.P w) v H' low':=by
 rw[ho]at hc
 simp only[Ctx.cI]at hc
 split at hc
 ·rename_i fs cv h1 h2
  split at hc
  ·rename_i aR ar
   obtain⟨sh,aQ,rfl⟩:=ct.1 hc
   have ad:=aL x cv h2
   simp only[step]at he
   split at he
   ·rename_i vs e
    obtain⟨u,hu,he⟩:=ct.1 he
    simp only[bt]at he
    obtain⟨rfl,rfl,rfl⟩:=he
    rw[e]at ad
    obtain⟨vals,dW,hr⟩:=ad.Ct
    have hk:=hr.fY hu
    rcases RL aQ with⟨n,rfl,ao,hs⟩|⟨rfl,ao⟩
    ·refine .same U (x:=.agg ⟨(vals.drop aR.offset).take n⟩) ?_ hk.2
     unfold execOp;rw[ho]
     simp only[dW,Instr.field,Sem.run_bind,run_underlying h1,Result.andThen_ok,ar,asAgg,Sem.run_pure,part,ao,hs,if_true]
     congr 3
     apply Array.ext'
     simp
    ·obtain⟨y,hy,fg⟩:=hk
     refine .same U (x:=y) ?_ fg
     unfold execOp;rw[ho]
     simp only[dW,Instr.field,Sem.run_bind,run_underlying h1,Result.andThen_ok,ar,asAgg,Sem.run_pure,part,ao,hY,if_false,tZ,hy]
   ·cases he
  ·cases hc
 ·cases hc
theorem acp (U:aZ C fid G H w)(aL:fh C fid vars G w ae ρ){s:TypeId}{x:Operand}{f:Nat}(ho:o.op=.fieldAddr s x f)(hc:C.cI vars pos o.op=some c8)(he:step ae H low c8=some (v,H',low')):
  dj C fid G H w low ((execOp ρ o).run C.P w) v H' low':=by
 rw[ho]at hc
 simp only[Ctx.cI]at hc
 split at hc
 ·rename_i fs cv h1 h2
  split at hc
  ·rename_i aR ar
   split at hc
   ·rename_i n aQ
    split at hc
    ·cases hc
    ·rename_i hn
     simp only[az]at hc;subst hc
     have ad:=aL x cv h2
     have cr:∀a,ρ x=.pointer (some a)->(execOp ρ o).run C.P w=.ok (.value (.pointer (some (a.add aR.offset)))) w:=by
      intro a ao
      simp only[Ctx.sizeOf,ct]at aQ
      obtain⟨i,hi,rfl⟩:=aQ
      unfold execOp;rw[ho]
      simp only[ao,Instr.fieldAt,Sem.run_bind,run_underlying h1,Result.andThen_ok,ar,Instr.sureAddr,Sem.run_pure,fieldPlace,sizeOf,run_typeInfo (P:=C.P) w hi,hn,if_false]
     simp only[step]at he
     split at he
     ·rename_i l o' e
      simp only[az,bt]at he
      obtain⟨rfl,rfl,rfl⟩:=he
      rw[e]at ad
      obtain⟨h0,hb,ht,dW⟩:=ad.n4
      refine .same U (cr _ dW) ?_
      rw[Addr.add_lit];exact .ptr l _ h0 hb ht
     ·rename_i l es i lR tag e
      simp only[az,bt]at he
      obtain⟨rfl,rfl,rfl⟩:=he
      rw[e]at ad
      obtain⟨h0,a,hb,hle,ao,dW⟩:=ad.Cx
      refine .same U (cr _ dW) (.gF l es i _ tag h0 _ hb hle (fun ht=> ?_))
      rw[ao ht,Addr.add_lit,pr]
     ·rename_i vs lR e
      simp only[az,bt]at he
      obtain⟨rfl,rfl,rfl⟩:=he
      rw[e]at ad
      obtain⟨b,o',vals,aW,hc,hr,dW⟩:=ad.KX
      refine .same U (cr _ dW) ?_
      rw[Addr.add_lit,pr]
      exact .dn vs _ b o' vals aW hc hr
     ·cases he
   ·cases hc
  ·cases hc
 ·cases hc
theorem acq (U:aZ C fid G H w)(aL:fh C fid vars G w ae ρ){t:TypeId}{a:Operand}(ho:o.op=.load t a)(hc:C.cI vars pos o.op=some c8)(he:step ae H low c8=some (v,H',low')):
  dj C fid G H w low ((execOp ρ o).run C.P w) v H' low':=by
 rw[ho]at hc
 simp only[Ctx.cI]at hc
 split at hc
 ·rename_i sh cv h1 h2
  simp only[az]at hc;subst hc
  simp only[step]at he
  obtain⟨u,hu,he⟩:=ct.1 he
  simp only[bt]at he
  obtain⟨rfl,rfl,rfl⟩:=he
  obtain⟨y,hy,fg⟩:=RM U h1 (aL a cv h2) hu
  exact .same U (x:=y) (by unfold execOp;rw[ho];simp only[Sem.run_bind,hy,Result.andThen_ok,Sem.run_pure]) fg
 ·cases hc
theorem acr (U:aZ C fid G H w)(aL:fh C fid vars G w ae ρ){t:TypeId}{a x:Operand}(ho:o.op=.store t a x)(hc:C.cI vars pos o.op=some c8)(jZ:low<=H.length)(he:step ae H low c8=some (v,H',low')):
  dj C fid G H w low ((execOp ρ o).run C.P w) v H' low':=by
 rw[ho]at hc
 simp only[Ctx.cI]at hc
 split at hc
 ·rename_i n cv ij h1 h2 ar
  simp only[az]at hc;subst hc
  simp only[step]at he
  obtain⟨⟨H1,l⟩,hu,he⟩:=ct.1 he
  simp only[bt]at he
  obtain⟨rfl,rfl,rfl⟩:=he
  obtain⟨aH,ay,cr,bA,af,hl,hlen⟩:=acb U h1 (aL a cv h2) (aL x ij ar) hu
  exact⟨undef,aH,ay,.inr ⟨by unfold execOp;rw[ho];simp only[Sem.run_bind,cr,Result.andThen_ok,Sem.run_pure],rfl⟩,bA,fun m hm=>af.le (cV hm (qt _ _)) (aK _),.undef _,jU _ _,Nat.le_of_eq hlen.symm⟩
 ·cases hc
theorem acs (U:aZ C fid G H w){t:TypeId}(ho:o.op=.alloc t)(hc:C.cI vars pos o.op=some c8)(he:step ae H low c8=some (v,H',low')):
  dj C fid G H w low ((execOp ρ o).run C.P w) v H' low':=by
 rw[ho]at hc
 obtain⟨z,aT,rfl⟩:=ct.1 hc
 simp only[step,az,bt]at he
 obtain⟨rfl,rfl,rfl⟩:=he
 unfold Ctx.zeroCells at aT
 split at aT
 ·rename_i i hi
  split at aT
  ·rename_i cE An
   split at aT
   ·rename_i vs cS
    split at aT
    ·simp only[az]at aT;subst aT
     refine .alloc U 0 0 (x:=.pointer (some ⟨w.heap.size,0,none⟩)) (aP:=.cells cE.cells t) ?_ ⟨rfl,rfl,cE.cells,t,oQ _ _,?_⟩ (.ptr _ _ ⟨w.heap.size,0,0,false⟩ (de _ _ _) rfl)
     ·unfold execOp;rw[ho]
      simp only[Instr.alloc,zeroValue,Sem.run_bind,run_typeInfo (P:=C.P) w hi,Result.andThen_ok,An,Sem.run_pure,newVar,newRow,run_newObj,World.alloc_eq]
     ·exact c7.oP (Ge _ cS)
    ·cases aT
   ·cases aT
  ·cases aT
 ·cases aT
theorem acu (U:aZ C fid G H w)(aL:fh C fid vars G w ae ρ){t:TypeId}{x:Operand}(ho:o.op=.box t x)(hc:C.cI vars pos o.op=some c8)(he:step ae H low c8=some (v,H',low')):
  dj C fid G H w low ((execOp ρ o).run C.P w) v H' low':=by
 rw[ho]at hc
 obtain⟨cv,hx,rfl⟩:=ct.1 hc
 simp only[step]at he
 split at he
 ·rename_i bx
  simp only[az,bt]at he
  obtain⟨rfl,rfl,rfl⟩:=he
  have ad:=aL x cv hx
  refine .alloc U 0 0 (x:=.pointer (some ⟨w.heap.size,0,none⟩)) (aP:=.cells (ρ x).cells t) ?_ ⟨rfl,rfl,(ρ x).cells,t,oQ _ _,?_⟩ (.ptr _ _ ⟨w.heap.size,0,0,false⟩ (de _ _ _) rfl)
  ·unfold execOp;rw[ho]
   simp only[Instr.box,Sem.run_bind,Sem.run_pure,Result.andThen_ok,newVar,newRow,run_newObj,World.alloc_eq]
  ·exact(Al ad bx).1.ext U (Ext.push U _ 0 0 0)
 ·cases he
theorem acv (U:aZ C fid G H w){t:TypeId}{r:Option Operand}(ho:o.op=.makeMap t r)(hc:C.cI vars pos o.op=some c8)(he:step ae H low c8=some (v,H',low')):
  dj C fid G H w low ((execOp ρ o).run C.P w) v H' low':=by
 rw[ho]at hc
 cases r with
 |some _=>simp[Ctx.cI]at hc
 |none=>
  simp only[Ctx.cI,az]at hc;subst hc
  simp only[step,az,bt]at he
  obtain⟨rfl,rfl,rfl⟩:=he
  refine .alloc U 0 0 (x:=.map (some w.heap.size)) (aP:=.map #[] 0) ?_ ⟨rfl,rfl,#[],0,oQ _ _,.nil,.nil,⟨fun x hx=>by simp at hx,by simp⟩⟩ (.map _ ⟨w.heap.size,0,0,false⟩ (de _ _ _) rfl)
  unfold execOp;rw[ho]
  simp only[Instr.makeMap,Sem.run_bind,Sem.run_pure,Result.andThen_ok,run_newObj,World.alloc_eq,xF]
theorem K2{u:V}{n:Nat}(h:kr u=some n):∃k m,u=.int k m/\0<=m/\m.toNat=n:=by
 unfold kr at h
 split at h
 ·split at h
  ·simp only[az]at h
   exact⟨_,_,rfl,by assumption,h⟩
  ·cases h
 ·cases h
theorem acw (U:aZ C fid G H w)(aL:fh C fid vars G w ae ρ){t:TypeId}{x i:Operand}(ho:o.op=.index t x i)(hc:C.cI vars pos o.op=some c8)(he:step ae H low c8=some (v,H',low')):
  dj C fid G H w low ((execOp ρ o).run C.P w) v H' low':=by
 rw[ho]at hc
 simp only[Ctx.cI]at hc
 split at hc
 ·rename_i cv ij h1 h2 ar
  simp only[az]at hc;subst hc
  simp only[step]at he
  split at he
  ·rename_i s n af aj
   obtain⟨c,uy,he⟩:=ct.1 he
   simp only[bt]at he
   obtain⟨rfl,rfl,rfl⟩:=he
   obtain⟨k,m,bT,hm,hn⟩:=K2 aj
   have hx:=aL x cv h2
   have hi:=aL i ij ar
   rw[af]at hx;rw[bT]at hi
   refine .same U (x:=.int .u8 c.toNat) ?_ (.p _ _ (.int _ _))
   unfold execOp;rw[ho]
   have qC:(⟨⟨s⟩⟩:ByteArray)[m.toNat]? =some c:=by
    rw[hn]
    obtain⟨aX,bc⟩:=e2.1 uy
    have:n<(⟨⟨s⟩⟩:ByteArray).size:=aX
    rw[getElem?_pos (c:=(⟨⟨s⟩⟩:ByteArray)) (i:=n) (h:=this)]
    congr 1
   simp only[hx.oS,hi.jE,Instr.index,asIntOf,Sem.run_bind,Sem.run_pure,Result.andThen_ok,run_underlying h1,hm,if_true,qC]
  ·cases he
 ·cases hc
end Go.Abs
