/- Texts of this claim, joined and written short by a program. -/
import Derived.Test.YtjgngmpmjbkbpaaGreatDoorP28
import Derived.Test.YtjgngmpmjbkbpaaGreatDoorP26
import Derived.Test.YtjgngmpmjbkbpaaGreatDoorP00
set_option linter.unusedVariables false
set_option linter.unusedSimpArgs false
set_option linter.unusedSectionVars false
namespace Go.Abs.gB
open Go Go.Abs
inductive kY where
 | v (t : Nat)
 | f (dQ : List Nat) (rt : Nat)
 deriving DecidableEq
section
variable (J : hP)
def dk : List Nat -> Type
 | [] => Unit
 | a :: r => match r with
   | [] => J.ay a
   | _ :: _ => J.ay a × dk r
def ah9 : kY -> Type
 | .v t => J.ay t
 | .f dQ rt => dk J dQ -> Option (J.ay rt)
def kZ : List kY -> Type
 | [] => Unit
 | a :: r => ah9 J a × kZ r
def yw : List (List Nat) -> Type
 | [] => Unit
 | a :: r => match r with
   | [] => dk J a
   | _ :: _ => bK (dk J a) (yw r)
structure bR where
 id : Nat
 caps : List Nat
 args : List kY
 res : List Nat
 fn : dk J caps -> kZ J args -> Option (dk J res)
structure D5 where
 dQ : List Nat
 rt : Nat
 f : dk J dQ -> Option (J.ay rt)
structure pG where
 T : List (bR J)
 fv : List (D5 J)
 ty : List (Nat × Nat)
 asT : List (Nat × Nat × Nat)
end
section
variable {J : hP} {A : Type} [aV A]
def wh {a : Nat} : (r : List Nat) -> J.ay a -> dk J r -> dk J (a :: r)
 | [], x, _ => x
 | _ :: _, x, y => (x, y)
def nY {a : Nat} : (r : List Nat) -> dk J (a :: r) -> J.ay a
 | [], x => x
 | _ :: _, x => x.1
def wi {a : Nat} : (r : List Nat) -> dk J (a :: r) -> dk J r
 | [], _ => ()
 | _ :: _, x => x.2
def Ie : (dQ : List Nat) -> dk J dQ -> kZ J (dQ.map kY.v)
 | [], _ => ()
 | _ :: r, x => (nY r x, Ie r (wi r x))
def qE (B : List Bool) : (ts : List Nat) -> List (aN J.ay) -> Option (dk J ts)
 | [], [] => some ()
 | t :: ts, v :: vs => match J.iH t v B with
   | none => none
   | some x => match qE B ts vs with
     | none => none
     | some l => some (wh ts x l)
 | _, _ => none
def Np (m : List (Nat × cP J)) : aN J.ay -> Option (aN J.ay)
 | .ptr o 0 => match bI m o with
   | some (.cells _ [c]) => match c with
     | .agg _ => none
     | c => match qD c with
       | some _ => some c
       | none => none
   | some (.cells _ cs) => some (.agg cs)
   | _ => none
 | _ => none
def D6 : List (aN J.ay) -> List Nat -> Bool
 | [], _ => true
 | .ptr o _ :: r, l => match mem o l with
   | true => false
   | false => D6 r (o :: l)
 | _ :: _, _ => false
def AU : List kY -> Bool
 | [] => true
 | .v _ :: r => AU r
 | .f .. :: _ => false
def D7 (m : List (Nat × cP J)) : List (aN J.ay) -> Option (List (aN J.ay))
 | [] => some []
 | v :: r => match Np m v with
   | none => none
   | some c => match D7 m r with
     | none => none
     | some l => some (c :: l)
def wj : List (bR J) -> Nat -> Option (bR J)
 | [], _ => none
 | e :: r, i => match Nat.beq e.id i with
   | true => some e
   | false => wj r i
def Nq (cr : pG J) (s : bH J) (dQ : List Nat) (rt : Nat) : aN J.ay -> Option (dk J dQ -> Option (J.ay rt))
 | .fv j => match nth cr.fv j with
   | none => none
   | some f => if h : f.dQ = dQ /\ f.rt = rt then some fun z => h.2 ▸ f.f (h.1 ▸ z) else none
 | .fn i cs => match wj cr.T i with
   | none => none
   | some e => match D7 s.mem cs, D6 cs [] with
     | some vs, true => match qE s.aL e.caps vs with
       | none => none
       | some c => if h : e.args = dQ.map kY.v /\ e.res = [rt] then some fun z => (congrArg (fun l => Option (dk J l)) h.2).mp (e.fn c (h.1 ▸ Ie dQ z)) else none
     | _, _ => none
 | _ => none
def yx (cr : pG J) (s : bH J) : (aY : List kY) -> List (aN J.ay) -> Option (kZ J aY)
 | [], [] => some ()
 | .v t :: aY, v :: vs => match J.iH t v s.aL with
   | none => none
   | some x => match yx cr s aY vs with
     | none => none
     | some l => some (x, l)
 | .f dQ rt :: aY, v :: vs => match Nq cr s dQ rt v with
   | none => none
   | some x => match yx cr s aY vs with
     | none => none
     | some l => some (x, l)
 | _, _ => none
def elems : (ts : List Nat) -> dk J ts -> bH J -> (List (aN J.ay) -> bH J -> A) -> A
 | [], _, s, k => k [] s
 | t :: ts, x, s, k => elem t (nY ts x) s fun v s => elems ts (wi ts x) s fun vs s => k (v :: vs) s
def Nr (ts : List Nat) (x : dk J ts) (s : bH J) (k : aN J.ay -> bH J -> A) : A := elems ts x s fun vs s => match vs with
 | [v] => k v s
 | vs => k (.ba vs) s
def Ig (cr : pG J) (s : bH J) (f : aN J.ay) (aY : List (aN J.ay)) (k : aN J.ay -> bH J -> A) : A := match f with
 | .fv j => match nth cr.fv j with
   | none => aV.bad
   | some f => match qE s.aL f.dQ aY with
     | none => aV.bad
     | some a => aV.db (f.f a) fun r => elem f.rt r s k
 | .fn i cs => match wj cr.T i with
   | none => aV.bad
   | some e => match D7 s.mem cs, D6 cs [], (match cs with | [] => true | _ => AU e.args) with
     | some vs, true, true => match qE s.aL e.caps vs with
       | none => aV.bad
       | some c => match yx cr s e.args aY with
         | none => aV.bad
         | some a => aV.db (e.fn c a) fun r => Nr e.res r s k
     | _, _, _ => aV.bad
 | _ => aV.bad
def k1 (o : Nat) (b : cP J) : List (Nat × cP J) -> List (Nat × cP J)
 | [] => []
 | (k, c) :: r => match Nat.beq k o with
   | true => (k, b) :: r
   | false => (k, c) :: k1 o b r
def marks (o f : Nat) : Nat -> List (Nat × Nat) -> List (Nat × Nat)
 | 0, l => l
 | n + 1, l => (o, f + n) :: marks o f n l
def ke (s : bH J) (b : cP J) : bH J := { s with mem := (s.aF, b) :: s.mem, aF := s.aF + 1 }
def AV (o : Nat) : List (Nat × cP J) -> List (Nat × cP J)
 | [] => []
 | (k, c) :: r => match Nat.beq k o with
   | true => r
   | false => (k, c) :: AV o r
def l6 (o n : Nat) (b : cP J) : List (Nat × cP J) -> List (Nat × cP J)
 | [] => []
 | (k, c) :: r => match Nat.beq k o with
   | true => (n, b) :: r
   | false => (k, c) :: l6 o n b r
def uP (f : List (Nat × cP J) -> aN J.ay -> Option (aN J.ay × List (Nat × cP J))) : List (Nat × cP J) -> List (aN J.ay) -> Option (List (aN J.ay) × List (Nat × cP J))
 | m, [] => some ([], m)
 | m, v :: r => match f m v with
   | none => none
   | some (v', m) => match uP f m r with
     | none => none
     | some (l, m) => some (v' :: l, m)
def rA : Nat -> List (Nat × cP J) -> aN J.ay -> Option (aN J.ay × List (Nat × cP J))
 | 0, _, _ => none
 | n + 1, m, v => match v with
   | .row o => match bI m o with
     | some (.row t x) => some (.sl t x, AV o m)
     | _ => none
   | .agg vs => match uP (rA n) m vs with
     | some (l, m) => some (.agg l, m)
     | none => none
   | .ba vs => match uP (rA n) m vs with
     | some (l, m) => some (.ba l, m)
     | none => none
   | .int k i => some (.int k i, m)
   | .cj b => some (.cj b, m)
   | .bo i b => some (.bo i b, m)
   | .str b => some (.str b, m)
   | .sl t x => some (.sl t x, m)
   | .k v => match bO v with
     | true => some (.k v, m)
     | false => none
   | _ => none
mutual
def aia : aN J.ay -> Bool
 | .row _ => true
 | .agg vs => Ih vs
 | .ba vs => Ih vs
 | _ => false
def Ih : List (aN J.ay) -> Bool
 | [] => false
 | v :: r => match aia v with
   | true => true
   | false => Ih r
end
def D8 : List Nat -> Bool
 | [] => true
 | t :: r => match J.a8 t with
   | true => D8 r
   | false => false
def Ns (cr : pG J) (s : bH J) (f : aN J.ay) (aY : List (aN J.ay)) (k : aN J.ay -> bH J -> A) : A := match f with
 | .fn i [] => match wj cr.T i, uP (rA 16) s.mem aY with
   | some e, some (vq, _) => match qE s.aL e.caps [], yx cr s e.args vq, AU e.args with
     | some c, some a, true => aV.db (e.fn c a) fun r => Nr e.res r s fun v s => match D8 (J := J) e.res with
       | true => k v s
       | false => match v with
         | .sl _ x => aV.br s.aL.length x.isNil (k (.k .c0) s) aV.bad
         | _ => aV.bad
     | _, _, _ => aV.bad
   | _, _ => aV.bad
 | _ => aV.bad
def gone (m' : List (Nat × cP J)) : List (Nat × cP J) -> List (Nat × Nat)
 | [] => []
 | (o, _) :: r => match bI m' o with
   | some _ => gone m' r
   | none => (o, 0) :: gone m' r
def atv (m' : List (Nat × cP J)) : List (Nat × cP J) -> Bool
 | [] => true
 | (o, aT) :: r => match aT with
   | .cells .. => match bI m' o with
     | some _ => atv m' r
     | none => false
   | _ => atv m' r
def atL (cr : pG J) (s : bH J) (f : aN J.ay) (aY : List (aN J.ay)) (k : aN J.ay -> bH J -> A) : A := match f with
 | .fn i [] => match wj cr.T i, uP (rA 16) s.mem aY with
   | some e, some (vq, m') => match qE s.aL e.caps [], yx cr s e.args vq, AU e.args, atv m' s.mem with
     | some c, some a, true, true => aV.db (e.fn c a) fun r => Nr e.res r s fun v ar => k v { ar with mem := m', cZ := gone m' s.mem ++ ar.cZ }
     | _, _, _, _ => aV.bad
   | _, _ => aV.bad
 | _ => aV.bad
def wk : aN J.ay -> Option (aN J.ay)
 | .k .c0 => some (.k .c0)
 | .k .emp => some (.k .emp)
 | .sl _ .nil => some (.k .c0)
 | .sl _ .emp => some (.k .emp)
 | _ => none
def AW (s : bH J) (es bytes t : Nat) (x : ak (J.ay t)) (o : Option Nat) (y : aN J.ay) (k : aN J.ay -> bH J -> Bool -> A) : A := match Nat.beq (J.es t) es, eW t y with
 | true, some y => aV.db (rv bytes x y) fun z => match o with
   | some o => k (.row s.aF) { s with mem := l6 o s.aF (.row t z) s.mem, aF := s.aF + 1, cZ := (o, 0) :: s.cZ } true
   | none => k (.row s.aF) (ke s (.row t z)) true
 | _, _ => aV.bad
def Nt : aj -> aj -> Bool
 | .tmp a, .tmp b => Nat.beq a b
 | .var a, .var b => Nat.beq a b
 | .const (.int _ a), .const (.int _ b) => decide (a = b)
 | _, _ => false
def Nu : aN J.ay -> Bool
 | .int .. | .cj _ | .bo .. | .str _ | .sl .. | .ptr .. | .fn .. => true
 | .k v => plainCell v
 | _ => false
def Ii : List (aN J.ay) -> Bool
 | [] => true
 | v :: r => match Nu v with
   | true => Ii r
   | false => false
def Nv (w : aN J.ay) (f : Nat) (vs : List (aN J.ay)) : Option (aN J.ay) := match w with
 | .agg cs => match Nat.ble (f + vs.length) cs.length with
   | true => some (.agg (sQ cs f vs))
   | false => none
 | .kd | .row _ | .fv _ | .k _ | .im .. => none
 | _ => match f, vs with
   | 0, [x] => some x
   | _, _ => none
def Jv (m : List (Nat × cP J)) (o : Nat) : Bool := match bI m o with
 | some (.row ..) => true
 | _ => false
def atM (m : List (Nat × cP J)) : aN J.ay -> Option (List (aN J.ay))
 | .row o => match Jv m o with
   | true => some [.row o]
   | false => none
 | v => qD v
def atC (m : List (Nat × cP J)) : List (aN J.ay) -> Bool
 | [] => true
 | v :: r => match (match v with | .row o => Jv m o | v => Nl v) with
   | true => atC m r
   | false => false
def atN (az : l5 J) (s : bH J) (len : Nat) (parts : List (Nat × aj)) (mG : Bool) : Option (Nat × aj) := match len, parts, mG with
 | 1, [(0, x)], true => match ag az s x with
   | some (.row o) => some (o, x)
   | _ => none
 | _, _, _ => none
def oper (cr : pG J) (az : l5 J) (s : bH J) (d : Option (Nat × Bool)) (k : aN J.ay -> bH J -> Bool -> A) : cH -> A
 | .alloc z => k (.ptr s.aF 0) (ke s (.cells true (AQ z))) true
 | .box x => match ag az s x with
   | none => aV.bad
   | some v => match qD v with
     | none => aV.bad
     | some cs => match AR cs with
       | true => k (.ptr s.aF 0) (ke s (.cells true cs)) true
       | false => aV.bad
 | .store n x y => match ag az s x, ag az s y with
   | some (.ptr o f), some v => match bI s.mem o, atM s.mem v with
     | some (.cells true cs), some vs => match Nat.beq vs.length n, Nat.ble (f + n) cs.length, atC s.mem vs with
       | true, true, true => k (.k .undef) { s with mem := k1 o (.cells true (sQ cs f vs)) s.mem, cZ := marks o f vs.length s.cZ } true
       | _, _, _ => aV.bad
     | _, _ => aV.bad
   | some (.im o i f), some v => match bI s.mem o, qD v with
     | some (.row t a), some vs => match Nat.beq vs.length n, Ii vs with
       | true, true => aV.db (aR a.l i) fun e => elem t e s fun w s => match Nv w f vs with
         | none => aV.bad
         | some w => match J.iH t w s.aL with
           | none => aV.bad
           | some e' => k (.k .undef) { s with mem := k1 o (.row t (nR a i e')) s.mem, cZ := (o, 0) :: s.cZ } true
       | _, _ => aV.bad
     | _, _ => aV.bad
   | _, _ => aV.bad
 | .append es bytes a b => match ag az s a, ag az s b with
   | some (.row o), some y => match bI s.mem o with
     | some (.row t x) => AW s es bytes t x (some o) y k
     | _ => aV.bad
   | some x, some (.sl t y) => match wk x with
     | some (.k .c0) => AW s es bytes t .nil none (.sl t y) k
     | some (.k .emp) => AW s es bytes t .emp none (.sl t y) k
     | _ => aV.bad
   | _, _ => aV.bad
 | .mkSlice es z bytes l c => match d with
   | some (q, _) => match bI cr.ty q, Nt l c, ag az s l with
     | some t, true, some (.int _ n) => match Nat.beq (J.es t) es, J.iH t (VB z) [] with
       | true, some e => aV.db (vZ bytes e n) fun x => k (.row s.aF) (ke s (.row t x)) true
       | _, _ => aV.bad
     | _, _, _ => aV.bad
   | none => aV.bad
 | .mkMap => match d with
   | some (q, _) => match bI cr.ty q with
     | some c => match J.mp c with
       | some p => k (.row s.aF) (ke s (.mp p.1 p.2 [])) true
       | none => aV.bad
     | none => aV.bad
   | none => aV.bad
 | .o2 kind x i y => match ag az s x, ag az s i, ag az s y with
   | some (.row o), some v, some w => match bI s.mem o with
     | some (.mp eh jd m) => match J.iH eh v s.aL, J.iH jd w s.aL, kindOf (J := J) eh kind with
       | some x, some y, true => k (.k .undef) { s with mem := k1 o (.mp eh jd (ah8 eh jd m x y)) s.mem, cZ := (o, 0) :: s.cZ } true
       | _, _, _ => aV.bad
     | _ => aV.bad
   | _, _, _ => aV.bad
 | .call false f aY => match ag az s f, yv az s aY with
   | some f, some aY => match Ih aY with
     | true => match (match d with | some (q, _) => bI cr.ty q | none => none) with
       | some _ => atL cr s f aY fun v s => k v s true
       | none => Ns cr s f aY fun v s => k v s false
     | false => Ig cr s f aY fun v s => k v s false
   | _, _ => aV.bad
 | .call true f aY => match ag az s f, yv az s aY with
   | some (.fn i []), some [v] => match bI cr.asT i with
     | some p => match eW p.1 v with
       | some x => aV.db (asR p.2 x) fun z => k (.row s.aF) (ke s (.row p.1 z)) true
       | none => aV.bad
     | none => aV.bad
   | _, _ => aV.bad
 | .lit es z len parts mG => match atN az s len parts mG with
   | some (o, _) => match d with
     | some (q, _) => match bI cr.ty q, bI s.mem o with
       | some t, some (.row e5 x) => match J.iH t (.sl e5 x) s.aL, Nat.beq (J.es t) es with
         | some e, true => k (.sl t (.mk [e])) { s with mem := AV o s.mem, cZ := (o, 0) :: s.cZ } true
         | _, _ => aV.bad
       | _, _ => aV.bad
     | none => aV.bad
   | none => Ic az s (match d with | some (t, _) => bI cr.ty t | none => none) (fun v s => k v s false) (.lit es z len parts mG)
 | op => Ic az s (match d with | some (t, _) => bI cr.ty t | none => none) (fun v s => k v s false) op
def put (az : l5 J) (s : bH J) (v : aN J.ay) : Option (Nat × Bool) -> (l5 J × bH J)
 | none => (az, s)
 | some (t, false) => ((t, v) :: az, s)
 | some (t, true) => (az, { s with vs := (t, v) :: s.vs, dA := t :: s.dA })
def so (cr : pG J) : List b3 -> l5 J -> bH J -> List Bool -> (bH J -> List Bool -> A) -> A
 | [], az, s, wr, k => k s wr.reverse
 | o :: r, az, s, wr, k =>
   let go := fun s => oper cr az s o.dst (fun v s m => match put az s v o.dst with | (az, s) => so cr r az s (m :: wr) k) o.op
   let skip := fun s => match put az s (.ba []) o.dst with | (az, s) => so cr r az s (false :: wr) k
   match o.guard with
   | none => go s
   | some (x, w) => match ag az s x with
     | none => aV.bad
     | some v => match v with
       | .ba [] => skip s
       | v => match w with
         | true => split s v go skip
         | false => split s v skip go
def Nw (cr : pG J) (az : l5 J) (s : bH J) (d : Option (Nat × Bool)) (k : aN J.ay -> bH J -> A) : cH -> A
 | .call false f aY => match ag az s f, yv az s aY with
   | some f, some aY => Ig cr s f aY k
   | _, _ => aV.bad
 | op => Ic az s (match d with | some (t, _) => bI cr.ty t | none => none) k op
def wm (cr : pG J) : List b3 -> l5 J -> bH J -> (l5 J -> bH J -> A) -> A
 | [], az, s, k => k az s
 | o :: r, az, s, k =>
   let fin := fun v s => match put az s v o.dst with | (az, s) => wm cr r az s k
   let go := fun s => Nw cr az s o.dst fin o.op
   match o.guard with
   | none => go s
   | some (x, w) => match ag az s x with
     | none => aV.bad
     | some v => match v with
       | .ba [] => fin (.ba []) s
       | v => match w with
         | true => split s v go (fin (.ba []))
         | false => split s v (fin (.ba [])) go
inductive Loc where
 | s (t : Nat)
 | m (o j : Nat)
inductive aib (J : hP) where
 | p (t : Nat)
 | c (v : aN J.ay)
 | r (t : Nat)
 | d
abbrev ni (J : hP) := List (Loc × aib J)
def hQ : ni J -> List Nat
 | [] => []
 | (_, .p t) :: r => t :: hQ r
 | (_, .c _) :: r => hQ r
 | (_, .r t) :: r => t :: hQ r
 | (_, .d) :: r => hQ r
def at_ (s : bH J) : Loc -> Option (aN J.ay)
 | .s t => bI s.vs t
 | .m o j => match bI s.mem o with
   | some (.cells _ cs) => nth cs j
   | _ => none
mutual
def same : aN J.ay -> aN J.ay -> Bool
 | .cj a, .cj b => match a, b with
   | true, true => true
   | false, false => true
   | _, _ => false
 | .bo i n, .bo j m => match Nat.beq i j, n, m with
   | true, true, true => true
   | true, false, false => true
   | _, _, _ => false
 | .int k a, .int bs b => match decide (k = bs) with
   | true => decide (a = b)
   | false => false
 | .k v, .k w => dN v w
 | .ptr o f, .ptr o' k7 => match Nat.beq o o' with
   | true => Nat.beq f k7
   | false => false
 | .fv j, .fv tT => Nat.beq j tT
 | .fn i cs, .fn w5 cs' => match Nat.beq i w5 with
   | true => yy cs cs'
   | false => false
 | .agg cs, .agg cs' => yy cs cs'
 | .str a, .str b => decide (a = b)
 | _, _ => false
def yy : List (aN J.ay) -> List (aN J.ay) -> Bool
 | [], [] => true
 | a :: r, b :: s => match same a b with
   | true => yy r s
   | false => false
 | _, _ => false
end
mutual
def wf (n m : Nat) : aN J.ay -> Bool
 | .bo i _ => Nat.blt i n
 | .ptr o _ => Nat.blt o m
 | .row o => Nat.blt o m
 | .im o _ _ => Nat.blt o m
 | .agg vs => yz n m vs
 | .ba vs => yz n m vs
 | .dB vs _ => yz n m vs
 | .fn _ cs => yz n m cs
 | _ => true
def yz (n m : Nat) : List (aN J.ay) -> Bool
 | [] => true
 | v :: r => match wf n m v with
   | true => yz n m r
   | false => false
end
def pH (o j : Nat) : List (Nat × Nat) -> Bool
 | [] => false
 | (a, b) :: r => match Nat.beq a o, Nat.beq b j with
   | true, true => true
   | _, _ => pH o j r
def Nx (c eh jd : Nat) (x : List (J.ay eh × J.ay jd)) : Option (J.ay c) := match h : J.mp c with
 | none => none
 | some p => if e : p = (eh, jd) then some ((J.Vz c (eh, jd) (h.trans (congrArg some e))).symm ▸ x) else none
def Ij (c : Nat) (v : aN J.ay) : Option (J.ay c) := match J.mp c with
 | some _ => none
 | none => J.iH c v []
def rowAt (c : Nat) (x : J.ay c) : Option (cP J) := match h : J.mp c with
 | some p => some (.mp p.1 p.2 (J.Vz c p h ▸ x))
 | none => match J.lD c x 0 with
   | .sl t y => some (.row t y)
   | _ => none
def nj (n m : Nat) (M : List (Nat × Nat)) (s : bH J) (u : List Nat) : (sh : ni J) -> Option (dk J (hQ sh))
 | [] => some ()
 | (l, .p t) :: r => match at_ s l with
   | none => none
   | some v => match J.iH t v s.aL with
     | none => none
     | some x => match nj n m M s u r with
       | none => none
       | some y => some (wh (hQ r) x y)
 | (l, .c v) :: r => match at_ s l with
   | none => none
   | some w => match same w v, wf n m v with
     | true, true => nj n m M s u r
     | _, _ => none
 | (_, .d) :: r => nj n m M s u r
 | (l, .r c) :: r => match at_ s l with
   | none => none
   | some v => match v with
     | .row o => match bI s.mem o, mem o u, (match Nat.ble m o with | true => true | false => pH o 0 M) with
       | some (.row t x), false, true => match Ij c (.sl t x) with
         | none => none
         | some x => match nj n m M s (o :: u) r with
           | none => none
           | some y => some (wh (hQ r) x y)
       | some (.mp eh jd x), false, true => match Nx c eh jd x with
         | none => none
         | some x => match nj n m M s (o :: u) r with
           | none => none
           | some y => some (wh (hQ r) x y)
       | _, _, _ => none
     | v => match wk v with
       | none => none
       | some v => match Ij c v with
         | none => none
         | some x => match nj n m M s u r with
           | none => none
           | some y => some (wh (hQ r) x y)
def jR (s : bH J) (l : Loc) (v : aN J.ay) : bH J := match l with
 | .s t => { s with vs := (t, v) :: s.vs }
 | .m o j => match bI s.mem o with
   | some (.cells w cs) => { s with mem := k1 o (.cells w (cs.set j v)) s.mem }
   | _ => s
def pI : (sh : ni J) -> dk J (hQ sh) -> bH J -> bH J
 | [], _, s => s
 | (l, .p t) :: r, x, s => pI r (wi (hQ r) x) (jR { s with aL := s.aL ++ J.we t (nY (hQ r) x) } l (J.lD t (nY (hQ r) x) s.aL.length))
 | (l, .c v) :: r, x, s => pI r x (jR s l v)
 | (_, .d) :: r, x, s => pI r x s
 | (l, .r c) :: r, x, s => pI r (wi (hQ r) x) (match rowAt c (nY (hQ r) x) with
   | some aT => jR (ke s aT) l (.row s.aF)
   | none => s)
def hf : ni J -> List (Nat × Nat)
 | [] => []
 | (.m o j, _) :: r => (o, j) :: hf r
 | _ :: r => hf r
def qF (o : Nat) (M : List (Nat × Nat)) : Nat -> List (aN J.ay) -> List (aN J.ay)
 | _, [] => []
 | j, c :: r => (match pH o j M with
   | true => .kd
   | false => c) :: qF o M (j + 1) r
def pJ (M : List (Nat × Nat)) : List (Nat × cP J) -> List (Nat × cP J)
 | [] => []
 | (o, b) :: r => match b with
   | .cells w cs => (o, .cells w (qF o M 0 cs)) :: pJ M r
   | b => match pH o 0 M with
     | true => pJ M r
     | false => (o, b) :: pJ M r
def blank (W : List Nat) (M : List (Nat × Nat)) (s : bH J) : bH J := { s with vs := (W.map fun t => (t, .kd)) ++ s.vs, mem := pJ M s.mem }
def fq : ni J -> List Nat
 | [] => []
 | (.s t, _) :: r => t :: fq r
 | _ :: r => fq r
def enter (W : List Nat) (M : List (Nat × Nat)) (sh : ni J) (x : dk J (hQ sh)) (s : bH J) : bH J :=
 { pI sh x (blank (fq sh ++ W) (M ++ hf sh) s) with ea := [], dA := fq sh ++ (W ++ s.dA), cZ := M ++ (hf sh ++ s.cZ) }
def D9 (W : List Nat) : List Nat -> Bool
 | [] => true
 | t :: r => match mem t W with
   | true => D9 W r
   | false => false
def Ea (n : Nat) (M : List (Nat × Nat)) : List (Nat × Nat) -> Bool
 | [] => true
 | (o, c) :: r => match Nat.ble n o with
   | true => Ea n M r
   | false => match pH o c M with
     | true => Ea n M r
     | false => false
def AX (n m : Nat) (W : List Nat) (M : List (Nat × Nat)) (sh : ni J) (s : bH J) : Option (dk J (hQ sh)) := match D9 W s.dA with
 | false => none
 | true => match Ea m (M ++ hf sh) s.cZ with
   | true => nj n m (M ++ hf sh) s [] sh
   | false => none
abbrev AY (J : hP) := List (X × ni J)
def yA : AY J -> List (List Nat)
 | [] => []
 | (_, sh) :: r => hQ sh :: yA r
def Ik : X -> X -> Bool
 | .normal, .normal => true
 | .ret, .ret => true
 | .exit i, .exit j => Nat.beq i j
 | _, _ => false
def yB (n m : Nat) (W : List Nat) (M : List (Nat × Nat)) (x : X) (s : bH J) : (os : AY J) -> Option (yw J (yA os))
 | [] => none
 | (x', sh) :: r => match r with
   | [] => match Ik x x' with
     | true => AX n m W M sh s
     | false => none
   | q :: r => match Ik x x' with
     | true => match AX n m W M sh s with
       | some y => some (bK.go y)
       | none => none
     | false => match yB n m W M x s (q :: r) with
       | some y => some (bK.ret y)
       | none => none
def leave (W : List Nat) (M : List (Nat × Nat)) (s : bH J) (k : X -> bH J -> A) : (os : AY J) -> yw J (yA os) -> A
 | [], _ => aV.bad
 | (x, sh) :: r, o => match r, o with
   | [], o => k x (enter W M sh o s)
   | q :: r, o => match o with
     | .go y => k x (enter W M sh y s)
     | .ret y => leave W M s k (q :: r) y
inductive l7 (J : hP) where
 | o
 | lt
 | md (n m : Nat)
 | two (a b : l7 J)
 | pc (os : AY J) (a b : l7 J)
 | pu (sl : List Nat) (b : l7 J)
 | dj (hd : ni J) (os : AY J) (a : l7 J)
 | pl (a b : l7 J)
def l7.l : l7 J -> l7 J
 | .two a _ => a
 | _ => .o
def l7.r : l7 J -> l7 J
 | .two _ b => b
 | _ => .o
def nZ : List b3 -> List Nat
 | [] => []
 | o :: r => match o.dst with
   | some (t, true) => t :: nZ r
   | _ => nZ r
def aic (t : Nat) (l : List Nat) : List Nat := match mem t l with
 | true => l
 | false => t :: l
def Il : List Nat -> List Nat -> List Nat
 | [], l => l
 | t :: r, l => Il r (aic t l)
def je : cm -> List Nat
 | .region ops _ => Il (nZ ops) []
 | .w4 ops _ _ => nZ ops
 | .seq a b => Il (je a) (je b)
 | .cond _ a b => Il (je a) (je b)
 | .block _ a => je a
 | .loop a => je a
 | _ => []
inductive uQ where
 | lit (b : Bool)
 | nm (i : Nat) (neg : Bool) (b : Bool)
 | tm (b : Bool)
def uQ.val : uQ -> Bool
 | .lit b => b
 | .nm _ _ b => b
 | .tm b => b
def Eb (c : Bool) (x y : uQ) : uQ := match x, y with
 | .nm i n a, .nm j m b => match Nat.beq i j, n, m with
   | true, true, true => .nm i n (bif c then a else b)
   | true, false, false => .nm i n (bif c then a else b)
   | _, _, _ => .tm (bif c then a else b)
 | .lit true, .lit true => .lit true
 | .lit false, .lit false => .lit false
 | .lit true, .lit false => .tm c
 | x, .lit false => .tm (c && x.val)
 | .lit true, y => .tm (c || y.val)
 | x, y => .tm (bif c then x.val else y.val)
inductive VC (J : hP) where
 | v (v : aN J.ay)
 | b (b : uQ)
 | bad
def mx (l : Loc) : nX (bH J) -> VC J
 | .bad => .bad
 | .leaf s => match at_ s l with
   | none => .bad
   | some v => match v with
     | .cj b => .b (.lit b)
     | .bo i n => match wg s (.bo i n) with
       | some b => .b (.nm i n b)
       | none => .bad
     | v => .v v
 | .br _ c t e => match mx l t, mx l e with
   | .b x, .b y => .b (Eb c x y)
   | .v (.int k a), .v (.int bs b) => match decide (k = bs) with
     | true => .v (.int k (bif c then a else b))
     | false => .bad
   | .v (.str a), .v (.str b) => .v (.str (bif c then a else b))
   | .v v, .v w => match same v w with
     | true => .v w
     | false => .bad
   | _, _ => .bad
def sT (n m : Nat) (p : nX (bH J)) : List Nat -> bH J -> (bH J -> A) -> A
 | [], s, k => k s
 | t :: r, s, k => match mx (.s t) p with
   | .v v => match wf n m v with
     | true => sT n m p r { s with vs := (t, v) :: s.vs } k
     | false => aV.bad
   | .b x => match x with
     | .lit b => sT n m p r { s with vs := (t, .cj b) :: s.vs } k
     | .nm i neg b => match Nat.blt i n with
       | true => sT n m p r { s with vs := (t, .bo i neg) :: s.vs } k
       | false => sT n m p r { s with vs := (t, .bo s.aL.length false) :: s.vs, aL := s.aL ++ [b] } k
     | .tm b => sT n m p r { s with vs := (t, .bo s.aL.length false) :: s.vs, aL := s.aL ++ [b] } k
   | .bad => aV.bad
def AZ (W : List Nat) : nX (bH J) -> Bool
 | .bad => false
 | .leaf s => match D9 W s.dA, s.cZ with
   | true, [] => true
   | _, _ => false
 | .br _ _ t e => match AZ W t with
   | true => AZ W e
   | false => false
def fresh (s : bH J) : bH J := { s with ea := [], dA := [], cZ := [] }
def Im (fY : Option (List Nat)) (ops : List b3) (wr : List Bool) (a : A) : A := match fY with
 | none => a
 | some fY => match p7 fY ops wr with
   | true => a
   | false => aV.bad
def Io (n : Nat) : List (Nat × cP J) -> Bool
 | [] => true
 | e :: r => match Nat.ble n e.1 with
   | true => Io n r
   | false => false
def Ny (fY : List Nat) (ops : List b3) (wr : List Bool) (n : Nat) (m : List (Nat × cP J)) (a : A) : A := match vp fY ops wr, Io n m with
 | true, true => a
 | _, _ => aV.bad
def aua (cr : pG J) (fY : List Nat) (ops hd : List b3) (o : b3) (M R : List b3) (k : bH J -> A) (az : l5 J) (s : bH J) : A := match o with
 | ⟨d, .call true f aY, none⟩ => match ag az s f, yv az s aY with
   | some (.fn i []), some [v] => match bI cr.asT i with
     | some p => match eW p.1 v with
       | some x => aV.db (asR p.2 x) fun z => match put az { s with aF := s.aF + 1 } (.row s.aF) d with
         | (az, s1) => wm cr M az s1 fun az s2 => so cr R az { s2 with mem := (s.aF, .row p.1 z) :: s2.mem } (List.replicate M.length false ++ true :: List.replicate hd.length false) fun ar wr => match atb fY ops wr hd.length (hd.length + 1 + M.length) with
           | true => k ar
           | false => aV.bad
       | none => aV.bad
     | none => aV.bad
   | _, _ => aV.bad
 | _ => aV.bad
def atO (cr : pG J) (fY : List Nat) (ops : List b3) (n m : Nat) (s : bH J) (k : bH J -> A) : A := match ops.drop n with
 | [] => aV.bad
 | o :: r => wm cr (ops.take n) [] s (aua cr fY ops (ops.take n) o (r.take m) (r.drop m) k)
def VD (W : List Nat) (s : bH J) (sl : List Nat) (p : nX (bH J)) (k : bH J -> A) : A := match AZ W p with
 | true => sT s.aL.length s.aF p sl { blank W [] s with dA := sl ++ (W ++ s.dA) } k
 | false => aV.bad
noncomputable def Jn (f : l7 J -> {A : Type} -> [aV A] -> bH J -> (X -> bH J -> A) -> A) (W : List Nat) (hd : ni J) (os : AY J) (x : l7 J) (s : bH J) (k : X -> bH J -> A) : A := match nj s.aL.length s.aF (hf hd) s [] hd with
 | none => aV.bad
 | some sU => aV.db (bU (fun st => f x (A := Option (cM (dk J (hQ hd)) (yw J (yA os)))) (fresh (enter W [] hd st s)) fun x ar => match x with
   | .normal => match AX s.aL.length s.aF W [] hd ar with
     | some y => some (.next y)
     | none => none
   | x => match yB s.aL.length s.aF (fq hd ++ W) (hf hd) x ar os with
     | some y => some (.out y)
     | none => none) sU) fun o =>
  leave (fq hd ++ W) (hf hd) s k os o
noncomputable def kx (cr : pG J) : cm -> l7 J -> {A : Type} -> [aV A] -> bH J -> (X -> bH J -> A) -> A
 | .skip, _, _, _, s, k => k .normal s
 | .ret, _, _, _, s, k => k .ret s
 | .exit i, _, _, _, s, k => k (.exit i) s
 | .region ops fY, an, _, _, s, k => match an, fY with
   | .lt, some fY => wm cr (ops.take (jX ops)) [] s fun az s => so cr (ops.drop (jX ops)) az { s with mem := [] } (List.replicate (jX ops) false) fun ar wr => Ny fY ops wr s.aF ar.mem (k .normal { ar with mem := ar.mem ++ s.mem })
   | .md n m, some fY => atO cr fY ops n m s fun s => k .normal s
   | _, fY => so cr ops [] s [] fun s wr => Im fY ops wr (k .normal s)
 | .seq a b, an, _, _, s, k => match an with
   | .pc os x y => aV.db (kx cr a x (A := Option (yw J (yA os))) (fresh s) fun x ar => yB s.aL.length s.aF (je a) [] x ar os) fun o =>
     leave (je a) [] s (fun x ar => match x with
      | .normal => kx cr b y ar k
      | x => k x ar) os o
   | .pu sl y => match a with
     | .region ops fY => VD (nZ ops) s sl (so cr ops [] { s with dA := [], cZ := [] } [] fun s wr => Im fY ops wr (nX.leaf s)) fun ar => kx cr b y ar k
     | _ => aV.bad
   | an => kx cr a an.l s fun x s => match x with
     | .normal => kx cr b an.r s k
     | x => k x s
 | .cond c a b, an, _, _, s, k => match ag [] s c with
   | none => aV.bad
   | some v => split s v (fun s => kx cr a an.l s k) (fun s => kx cr b an.r s k)
 | .block id a, an, _, _, s, k => kx cr a an s fun x s => k (Ai id x) s
 | .loop a, an, _, _, s, k => match an with
   | .dj hd os x => Jn (fun an {_ : Type} [aV _] s k => kx cr a an s k) (je a) hd os x s k
   | .pl x (.dj hd os y) => kx cr a x s fun e ar => match e with
     | .normal => Jn (fun an {_ : Type} [aV _] s k => kx cr a an s k) (je a) hd os y ar k
     | e => k e ar
   | _ => aV.bad
 | _, _, _, _, _, _ => aV.bad
def yC : (aY : List kY) -> kZ J aY -> Nat -> bH J -> List (D5 J) -> bH J × List (D5 J)
 | [], _, _, s, f => (s, f)
 | .v t :: r, x, j, s, f => yC r x.2 (j + 1) { s with vs := (j, J.lD t x.1 s.aL.length) :: s.vs, aL := s.aL ++ J.we t x.1 } f
 | .f dQ rt :: r, x, j, s, f => yC r x.2 (j + 1) { s with vs := (j, .fv f.length) :: s.vs } (f ++ [⟨dQ, rt, x.1⟩])
def Ip : (cs : List Nat) -> dk J cs -> Nat -> bH J -> Option (bH J)
 | [], _, _, s => some s
 | t :: r, x, j, s => match qD (J.lD t (nY r x) s.aL.length) with
   | none => none
   | some cs => Ip r (wi r x) (j + 1) { s with vs := (j, .ptr s.aF 0) :: s.vs, mem := s.mem ++ [(s.aF, .cells false cs)], aF := s.aF + 1, aL := s.aL ++ J.we t (nY r x) }
def Ec (s : bH J) : List lN -> Option (List (aN J.ay))
 | [] => some []
 | r :: rs => match (match r with
     | .tmp t => bI s.vs t
     | .cell a sh => match bI s.vs a with
       | some (.ptr o f) => match bI s.mem o with
         | some (.cells _ cs) => cut cs f sh
         | _ => none
       | _ => none) with
  | none => none
  | some v => match Ec s rs with
    | none => none
    | some l => some (v :: l)
def Nz (s : bH J) (res : List Nat) (vs : List (aN J.ay)) : Option (dk J res) := match vs with
 | [v] => match rA 16 s.mem v with
   | some (v, _) => qE s.aL res [v]
   | none => none
 | vs => match uP (rA 15) s.mem vs with
   | some (vs, _) => qE s.aL res vs
   | none => none
def sU : bH J := ⟨[], [], 0, [], [], [], []⟩
noncomputable def Ed (T : List (bR J)) (ty : List (Nat × Nat)) (asT : List (Nat × Nat × Nat)) (f : iw) (an : l7 J) (caps : List Nat) (args : List kY) (res : List Nat) (c : dk J caps) (a : kZ J args) : Option (dk J res) :=
 match yC args a 0 sU [] with
 | (s, fv) => match Ip caps c args.length s with
   | none => none
   | some s => kx ⟨T, fv, ty, asT⟩ f.body an s fun x s => match x with
     | .exit _ => none
     | _ => match Ec s f.results with
       | some vs => Nz s res vs
       | none => none
def gV {ay : Nat -> Type} (k : IntKind) : aN ay -> Option Int
 | .int bs n => match decide (bs = k) with
   | true => some n
   | false => none
 | _ => none
def Iq {ay : Nat -> Type} (B : List Bool) : aN ay -> Option Bool
 | .cj b => some b
 | .bo i neg => match nth B i with
   | some c => match neg with
     | false => some c
     | true => some (!c)
   | none => none
 | _ => none
def Ee {ay : Nat -> Type} : aN ay -> Option bQ
 | .str s => some s
 | _ => none
def nk {ay : Nat -> Type} {R : Type} (f : List (aN ay) -> Option R) : aN ay -> Option R
 | .agg vs => f vs
 | _ => none
end
end Go.Abs.gB
namespace Go.Abs.U
open Go Go.Abs Go.Abs.gB
def qG : Nat -> Type
 | 0 => Int
 | 1 => Bool
 | 2 => bQ
 | 3 => Int
 | 4 => fN
 | 5 => (ak fN)
 | 6 => (ak Int)
 | 7 => Range
 | 8 => Table
 | 9 => (ak Table)
 | 10 => (ak bQ)
 | 11 => Term
 | 12 => (ak Term)
 | 13 => Row
 | 14 => Constraint
 | 15 => (ak Constraint)
 | 16 => cG
 | 17 => (ak cG)
 | 18 => Change
 | 19 => (ak Change)
 | 20 => (ak Row)
 | 21 => jt
 | 22 => (ak jt)
 | 23 => dM
 | 24 => Action
 | 25 => (ak Action)
 | 26 => Model
 | 27 => (ak Bool)
 | 28 => (ak Range)
 | 29 => dJ
 | 30 => (ak (ak Int))
 | 31 => pk
 | 32 => (ak pk)
 | 100 => List (bQ × Bool)
 | _ => Unit
def aid : Nat -> Nat
 | 4 => 3
 | 7 => 2
 | 8 => 6
 | 11 => 2
 | 13 => 2
 | 14 => 6
 | 16 => 3
 | 18 => 2
 | 21 => 3
 | 23 => 3
 | 24 => 5
 | 26 => 7
 | 29 => 8
 | 31 => 2
 | _ => 1
def VE : (t : Nat) -> qG t -> V
 | 0, x => aI x
 | 1, x => V.bool x
 | 2, x => V.str x
 | 3, x => (V.int .u8) x
 | 4, x => iF x
 | 5, x => (bP 3 iF) x
 | 6, x => (bP 1 aI) x
 | 7, x => pA x
 | 8, x => kU x
 | 9, x => (bP 6 kU) x
 | 10, x => (bP 1 V.str) x
 | 11, x => sL x
 | 12, x => (bP 2 sL) x
 | 13, x => sM x
 | 14, x => rD x
 | 15, x => (bP 6 rD) x
 | 16, x => rE x
 | 17, x => (bP 3 rE) x
 | 18, x => sN x
 | 19, x => (bP 2 sN) x
 | 20, x => (bP 2 sM) x
 | 21, x => sO x
 | 22, x => (bP 3 sO) x
 | 23, x => Ar x
 | 24, x => rF x
 | 25, x => (bP 5 rF) x
 | 26, x => uF x
 | 27, x => (bP 1 V.bool) x
 | 28, x => (bP 2 pA) x
 | 29, x => C0 x
 | 30, x => (bP 1 (bP 1 aI)) x
 | 31, x => Dx x
 | 32, x => (bP 2 Dx) x
 | _, _ => .c0
def aie : (t : Nat) -> qG t -> Nat -> aN qG
 | 0, x, n => .int .i64 x
 | 1, x, n => .bo n false
 | 2, x, n => .str x
 | 3, x, n => .int .u8 x
 | 4, x, n => .agg [.int .i64 x.Table, .int .i64 x.fi, .int .i64 x.bS]
 | 5, x, n => .sl 4 x
 | 6, x, n => .sl 0 x
 | 7, x, n => .agg [.int .i64 x.eN, .int .i64 x.eO]
 | 8, x, n => .agg [.str x.Name, .int .i64 x.Kind, .sl 0 x.aX, .int .i64 x.Range.eN, .int .i64 x.Range.eO, .int .i64 x.c2]
 | 9, x, n => .sl 8 x
 | 10, x, n => .sl 2 x
 | 11, x, n => .agg [.int .i64 x.Cell, .int .i64 x.js]
 | 12, x, n => .sl 11 x
 | 13, x, n => .agg [.sl 11 x.cY, .int .i64 x.l1]
 | 14, x, n => .agg [.int .i64 x.Kind, .int .i64 x.mq, .sl 11 x.Row.cY, .int .i64 x.Row.l1, .int .i64 x.c2, .int .i64 x.qz]
 | 15, x, n => .sl 14 x
 | 16, x, n => .agg [.str x.Name, .bo n false, .sl 0 x.aO]
 | 17, x, n => .sl 16 x
 | 18, x, n => .agg [.int .i64 x.Cell, .int .i64 x.Add]
 | 19, x, n => .sl 18 x
 | 20, x, n => .sl 13 x
 | 21, x, n => .agg [.int .i64 x.Kind, .int .i64 x.Cell, .int .i64 x.Value]
 | 22, x, n => .sl 21 x
 | 23, x, n => .agg [.sl 18 x.Delta, .sl 13 x.fC, .sl 21 x.er]
 | 24, x, n => .agg [.int .i64 x.cG, .sl 0 x.dz, .sl 18 x.dM.Delta, .sl 13 x.dM.fC, .sl 21 x.dM.er]
 | 25, x, n => .sl 24 x
 | 26, x, n => .agg [.sl 0 x.aO, .sl 8 x.Tables, .sl 2 x.dR, .sl 14 x.c8, .sl 16 x.Operations, .sl 24 x.Actions, .sl 4 x.bn]
 | 27, x, n => .sl 1 x
 | 28, x, n => .sl 7 x
 | 29, x, n => .agg [.sl 0 x.Model.aO, .sl 8 x.Model.Tables, .sl 2 x.Model.dR, .sl 14 x.Model.c8, .sl 16 x.Model.Operations, .sl 24 x.Model.Actions, .sl 4 x.Model.bn, .sl 7 x.strict]
 | 30, x, n => .sl 6 x
 | 31, x, n => .agg [.int .i64 x.Kind, .int .i64 x.Index]
 | 32, x, n => .sl 31 x
 | _, _, _ => .k .c0
def aif : (t : Nat) -> qG t -> List Bool
 | 1, x => [x]
 | 16, x => [x.Ordered]
 | _, _ => []
def aih : (t : Nat) -> aN qG -> List Bool -> Option (qG t)
 | 0, v, B => gV .i64 v
 | 1, v, B => Iq B v
 | 2, v, B => Ee v
 | 3, v, B => gV .u8 v
 | 4, v, B => nk (fun vs => match vs with
   | [e3, dL, e7] => (gV .i64 e3).bind fun b8 => (gV .i64 dL).bind fun bu => (gV .i64 e7).bind fun cq => some ⟨b8, bu, cq⟩
   | _ => none) v
 | 5, v, B => eW 4 v
 | 6, v, B => eW 0 v
 | 7, v, B => nk (fun vs => match vs with
   | [e3, dL] => (gV .i64 e3).bind fun b8 => (gV .i64 dL).bind fun bu => some ⟨b8, bu⟩
   | _ => none) v
 | 8, v, B => nk (fun vs => match vs with
   | [e3, dL, e7, gE, jG, iX] => (Ee e3).bind fun b8 => (gV .i64 dL).bind fun bu => (eW 0 e7).bind fun cq => (gV .i64 gE).bind fun dd => (gV .i64 jG).bind fun kc => (gV .i64 iX).bind fun eM => some ⟨b8, bu, cq, ⟨dd, kc⟩, eM⟩
   | _ => none) v
 | 9, v, B => eW 8 v
 | 10, v, B => eW 2 v
 | 11, v, B => nk (fun vs => match vs with
   | [e3, dL] => (gV .i64 e3).bind fun b8 => (gV .i64 dL).bind fun bu => some ⟨b8, bu⟩
   | _ => none) v
 | 12, v, B => eW 11 v
 | 13, v, B => nk (fun vs => match vs with
   | [e3, dL] => (eW 11 e3).bind fun b8 => (gV .i64 dL).bind fun bu => some ⟨b8, bu⟩
   | _ => none) v
 | 14, v, B => nk (fun vs => match vs with
   | [e3, dL, e7, gE, jG, iX] => (gV .i64 e3).bind fun b8 => (gV .i64 dL).bind fun bu => (eW 11 e7).bind fun cq => (gV .i64 gE).bind fun dd => (gV .i64 jG).bind fun kc => (gV .i64 iX).bind fun eM => some ⟨b8, bu, ⟨cq, dd⟩, kc, eM⟩
   | _ => none) v
 | 15, v, B => eW 14 v
 | 16, v, B => nk (fun vs => match vs with
   | [e3, dL, e7] => (Ee e3).bind fun b8 => (Iq B dL).bind fun bu => (eW 0 e7).bind fun cq => some ⟨b8, bu, cq⟩
   | _ => none) v
 | 17, v, B => eW 16 v
 | 18, v, B => nk (fun vs => match vs with
   | [e3, dL] => (gV .i64 e3).bind fun b8 => (gV .i64 dL).bind fun bu => some ⟨b8, bu⟩
   | _ => none) v
 | 19, v, B => eW 18 v
 | 20, v, B => eW 13 v
 | 21, v, B => nk (fun vs => match vs with
   | [e3, dL, e7] => (gV .i64 e3).bind fun b8 => (gV .i64 dL).bind fun bu => (gV .i64 e7).bind fun cq => some ⟨b8, bu, cq⟩
   | _ => none) v
 | 22, v, B => eW 21 v
 | 23, v, B => nk (fun vs => match vs with
   | [e3, dL, e7] => (eW 18 e3).bind fun b8 => (eW 13 dL).bind fun bu => (eW 21 e7).bind fun cq => some ⟨b8, bu, cq⟩
   | _ => none) v
 | 24, v, B => nk (fun vs => match vs with
   | [e3, dL, e7, gE, jG] => (gV .i64 e3).bind fun b8 => (eW 0 dL).bind fun bu => (eW 18 e7).bind fun cq => (eW 13 gE).bind fun dd => (eW 21 jG).bind fun kc => some ⟨b8, bu, ⟨cq, dd, kc⟩⟩
   | _ => none) v
 | 25, v, B => eW 24 v
 | 26, v, B => nk (fun vs => match vs with
   | [e3, dL, e7, gE, jG, iX, Ef] => (eW 0 e3).bind fun b8 => (eW 8 dL).bind fun bu => (eW 2 e7).bind fun cq => (eW 14 gE).bind fun dd => (eW 16 jG).bind fun kc => (eW 24 iX).bind fun eM => (eW 4 Ef).bind fun nV => some ⟨b8, bu, cq, dd, kc, eM, nV⟩
   | _ => none) v
 | 27, v, B => eW 1 v
 | 28, v, B => eW 7 v
 | 29, v, B => nk (fun vs => match vs with
   | [e3, dL, e7, gE, jG, iX, Ef, aii] => (eW 0 e3).bind fun b8 => (eW 8 dL).bind fun bu => (eW 2 e7).bind fun cq => (eW 14 gE).bind fun dd => (eW 16 jG).bind fun kc => (eW 24 iX).bind fun eM => (eW 4 Ef).bind fun nV => (eW 7 aii).bind fun Av => some ⟨⟨b8, bu, cq, dd, kc, eM, nV⟩, Av⟩
   | _ => none) v
 | 30, v, B => eW 6 v
 | 31, v, B => nk (fun vs => match vs with
   | [e3, dL] => (gV .i64 e3).bind fun b8 => (gV .i64 dL).bind fun bu => some ⟨b8, bu⟩
   | _ => none) v
 | 32, v, B => eW 31 v
 | _, _, _ => none
def aij (t : Nat) : Bool := match t with
 | 0 => true
 | 1 => true
 | 2 => true
 | 3 => true
 | _ => false
def NA : Nat -> Option Nat
 | 0 => some 0
 | 2 => some 1
 | _ => none
def aik : (t : Nat) -> qG t -> qG t -> Bool
 | 0, a, c => @BEq.beq Int _ a c
 | 2, a, c => @BEq.beq bQ _ a c
 | _, _, _ => false
def NB : Nat -> Option (Nat × Nat)
 | 100 => some (2, 1)
 | _ => none
theorem ail (c : Nat) (p : Nat × Nat) (h : NB c = some p) : qG c = List (qG p.1 × qG p.2) := by
 unfold NB at h
 split at h <;> cases h <;> rfl
abbrev bh : hP := ⟨qG, aid, VE, aie, aif, aih, aij, NA, aik, NB, ail⟩
end Go.Abs.U
