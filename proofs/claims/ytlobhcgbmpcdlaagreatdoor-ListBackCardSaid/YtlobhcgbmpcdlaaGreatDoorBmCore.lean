import GoSem.Core.Code
import GoSem.Core.Program
namespace Go.Bm
set_option linter.unusedVariables false
inductive CT where
 | unit | int (k : IntKind) | bool | str | list (e : CT) | prod (a b : CT) | sum (a b : CT)
 deriving DecidableEq, Repr
@[reducible] def CT.denote : CT → Type
 | .unit => Unit
 | .int _ => Int
 | .bool => Bool
 | .str => List UInt8
 | .list e => List e.denote
 | .prod a b => a.denote × b.denote
 | .sum a b => a.denote ⊕ b.denote
def CT.zero : (t : CT) → t.denote
 | .unit => ()
 | .int _ => (0 : Int)
 | .bool => false
 | .str => ([] : List UInt8)
 | .list e => ([] : List e.denote)
 | .prod a b => (a.zero, b.zero)
 | .sum a b => .inl a.zero
def CT.size : CT → Nat
 | .unit => 0
 | .prod _ b => 1 + b.size
 | _ => 1
inductive Leaf where
 | undef
 | int (k : IntKind) (x : Int)
 | bool (b : Bool)
 | str (s : List UInt8)
 | list (e : CT) (l : List e.denote)
 | clist (e : CT) (l : List e.denote)
 | nils
 | ptr (id off : Nat)
 | eptr (id i off : Nat)
 | vptr (e : CT) (x : e.denote) (off : Nat)
 | sl (id : Nat) (r : Option (Nat × Nat))
 | fn (f : Nat) (first cap : List (Option Nat))
 | ifp (t id off : Nat)
 | ifi (t : Nat) (k : IntKind) (x : Int)
 | mp (id : Nat)
 | nilp
 | nilf
 | nili
 | nilm
 | anyb
inductive SVal where
 | one (l : Leaf)
 | agg (cs : List Leaf)
 | skip
 | tup (ps : List (List Leaf × Bool))
inductive SObj where
 | box (cs : List Leaf)
 | cells (cs : List Leaf)
 | arr (e : CT) (l : List e.denote)
 | frz (e : CT) (l : List e.denote)
 | map (k v : CT) (agg : Bool) (l : List (k.denote × v.denote))
 | rows (e : CT) (l : List (List e.denote)) (g : Option Nat)
 | mrows (k e : CT) (l : List (k.denote × List e.denote)) (g : Option Nat)
 | zip (e : CT) (pre : List e.denote) (cs : List Leaf) (post : List e.denote)
 | dead
structure St where
 env : List (Nat × SVal)
 heap : List (Nat × SObj)
 next : Nat
 hold : List Nat := []
def look {α : Type} : List (Nat × α) → Nat → Option α
 | [], _ => none
 | (k, v) :: r, n => bif Nat.beq k n then some v else look r n
def has : List Nat → Nat → Bool
 | [], _ => false
 | k :: r, n => bif Nat.beq k n then true else has r n
def St.held (s : St) (id : Nat) : Bool := has s.hold id
def St.set (s : St) (dst : Option Nat) (v : SVal) : St :=
 match dst with
 | some d => { s with env := (d, v) :: s.env }
 | none => s
def St.put (s : St) (id : Nat) (o : SObj) : St := { s with heap := (id, o) :: s.heap }
def St.new (s : St) (o : SObj) : St := { s with heap := (s.next, o) :: s.heap, next := s.next + 1 }
inductive TD where
 | leaf (z : Leaf)
 | struct (fs : List (Nat × Nat × Bool)) (zs : List Leaf)
 | slice (e : CT) (n : Nat)
 | arr (e : CT) (n : Nat) (agg : Bool) (zs : List Leaf)
 | map (k v : CT) (agg : Bool)
 deriving Inhabited
instance : Inhabited Leaf := ⟨.undef⟩
def Leaf.def : Leaf → Bool
 | .undef => false
 | _ => true
def sub {α : Type} (l : List α) (r : Option (Nat × Nat)) : List α :=
 match r with
 | none => l
 | some (off, len) => (l.drop off).take len
def pack1 (t : CT) (v : Leaf) (s : St) : Option (t.denote × St) :=
 match t, v with
 | .int k, .int k' x => if k = k' then some (x, s) else none
 | .bool, .bool b => some (b, s)
 | .str, .str x => some (x, s)
 | .list e, .list e' l => if h : e' = e then some ((h ▸ l : List e.denote), s) else none
 | .list e, .clist e' l => if h : e' = e then some ((h ▸ l : List e.denote), s) else none
 | .list e, .nils => some (([] : List e.denote), s)
 | .list e, .sl id r => match look s.heap id with
   | some (.arr e' l) => if h : e' = e then (bif s.held id then none else some (sub (h ▸ l : List e.denote) r, s.put id (.frz e' l))) else none
   | some (.frz e' l) => if h : e' = e then some (sub (h ▸ l : List e.denote) r, s) else none
   | _ => none
 | _, _ => none
def packL : (t : CT) → List Leaf → St → Option (t.denote × St)
 | .prod a b, v :: vs, s => match pack1 a v s with
   | some (x, s') => match packL b vs s' with
     | some (y, s'') => some ((x, y), s'')
     | none => none
   | none => none
 | .unit, [], s => some ((), s)
 | .int k, [v], s => pack1 (.int k) v s
 | .bool, [v], s => pack1 .bool v s
 | .str, [v], s => pack1 .str v s
 | .list e, [v], s => pack1 (.list e) v s
 | _, _, _ => none
def unpack1 : (t : CT) → t.denote → Leaf
 | .int k, x => .int k x
 | .bool, b => .bool b
 | .str, s => .str s
 | .list e, l => .list e l
 | _, _ => .undef
def unpackL : (t : CT) → t.denote → List Leaf
 | .prod a b, x => unpack1 a x.1 :: unpackL b x.2
 | .unit, _ => []
 | .int k, x => [.int k x]
 | .bool, b => [.bool b]
 | .str, s => [.str s]
 | .list e, l => [.list e l]
 | .sum _ _, _ => []
def packRows (e : CT) : List (List Leaf) → St → Option (List e.denote × St)
 | [], s => some ([], s)
 | r :: rs, s => match packL e r s with
   | some (x, s') => match packRows e rs s' with
     | some (y, s'') => some (x :: y, s'')
     | none => none
   | none => none
def nth {α : Type} : List α → Nat → Option α
 | [], _ => none
 | x :: _, 0 => some x
 | _ :: r, n + 1 => nth r n
def prods : List CT → CT
 | [] => .unit
 | [a] => a
 | a :: b :: r => .prod a (prods (b :: r))
structure Dyn where
 t : CT
 x : t.denote
def toD : (ts : List CT) → List Dyn → Option (prods ts).denote
 | [], [] => some ()
 | [a], [d] => if h : d.t = a then some (h ▸ d.x) else none
 | a :: b :: r, d :: ds => if h : d.t = a then match toD (b :: r) ds with
    | some y => some (h ▸ d.x, y)
    | none => none
   else none
 | _, _ => none
def fromD : (ts : List CT) → (prods ts).denote → List Dyn
 | [], _ => []
 | [a], x => [⟨a, x⟩]
 | a :: b :: r, x => ⟨a, x.1⟩ :: fromD (b :: r) x.2
inductive LT where
 | pl (t : CT)
 | cl (e : CT)
 | ptr (k off : Nat)
 | eptr (k off : Nat)
 | sl (k : Nat)
 | slp (k off n : Nat)
 | nils
 | fn (f : Nat) (first cap : List (Option Nat))
 | ifp (t k off : Nat)
 | ifi (t : Nat) (j : IntKind)
 | mp (k : Nat)
 | nilp
 | nilf
 | nili
 | nilm
 | undef
inductive ObT where
 | box (ls : List LT)
 | cells (ls : List LT)
 | arr (e : CT)
 | map (k v : CT) (agg : Bool)
 | rows (e : CT)
 | mrows (k e : CT)
 | zip (e : CT) (ls : List LT)
 | gone
inductive SlT where
 | one (l : LT)
 | agg (ls : List LT)
structure Tm where
 objs : List (Bool × ObT)
 slots : List SlT
def LT.plain : LT → Option CT
 | .pl t => some t
 | _ => none
def LT.cts : LT → List CT
 | .pl t => [t]
 | .ifi _ j => [.int j]
 | .cl e => [.list e]
 | .eptr _ _ => [.int .i64]
 | _ => []
def ltCts : List LT → List CT
 | [] => []
 | l :: r => l.cts ++ ltCts r
def ObT.cts : ObT → List CT
 | .box ls => ltCts ls
 | .cells ls => ltCts ls
 | .arr e => [.list e]
 | .map k v _ => [.list (.prod k v)]
 | .rows e => [.list (.list e)]
 | .mrows k e => [.list (.prod k (.list e))]
 | .zip e ls => .list e :: (ltCts ls ++ [.list e])
 | .gone => []
def obCts : List (Bool × ObT) → List CT
 | [] => []
 | o :: r => o.2.cts ++ obCts r
def SlT.cts : SlT → List CT
 | .one l => l.cts
 | .agg ls => ltCts ls
def slCts : List SlT → List CT
 | [] => []
 | l :: r => l.cts ++ slCts r
def Tm.cts (T : Tm) : List CT := obCts T.objs ++ slCts T.slots
def Tm.ct (T : Tm) : CT := prods T.cts
def instL : LT → List Dyn → List Leaf × List Dyn
 | .pl _, d :: r => (unpackL d.t d.x, r)
 | .ifi t _, ⟨.int j, x⟩ :: r => ([.ifi t j x], r)
 | .cl _, ⟨.list e, l⟩ :: r => ([.clist e l], r)
 | .ptr k off, r => ([.ptr k off], r)
 | .eptr k off, ⟨.int _, x⟩ :: r => ([.eptr k x.toNat off], r)
 | .sl k, r => ([.sl k none], r)
 | .slp k off n, r => ([.sl k (some (off, n))], r)
 | .nils, r => ([.nils], r)
 | .fn f a b, r => ([.fn f a b], r)
 | .ifp t k off, r => ([.ifp t k off], r)
 | .mp k, r => ([.mp k], r)
 | .nilp, r => ([.nilp], r)
 | .nilf, r => ([.nilf], r)
 | .nili, r => ([.nili], r)
 | .nilm, r => ([.nilm], r)
 | _, r => ([.undef], r)
def instLs : List LT → List Dyn → List Leaf × List Dyn
 | [], ds => ([], ds)
 | l :: r, ds => ((instL l ds).1 ++ (instLs r (instL l ds).2).1, (instLs r (instL l ds).2).2)
def zipUp (e : CT) (l : List e.denote) : List Leaf × List Dyn → SObj × List Dyn
 | (cs, ⟨.list e', m⟩ :: r) => if h : e' = e then (.zip e l cs (h ▸ m : List e.denote), r) else (.dead, r)
 | (_, r) => (.dead, r)
def instOb : ObT → List Dyn → SObj × List Dyn
 | .box ls, ds => (.box (instLs ls ds).1, (instLs ls ds).2)
 | .cells ls, ds => (.cells (instLs ls ds).1, (instLs ls ds).2)
 | .arr _, ⟨.list e, l⟩ :: r => (.arr e l, r)
 | .map _ _ a, ⟨.list (.prod k v), l⟩ :: r => (.map k v a l, r)
 | .rows _, ⟨.list (.list e), l⟩ :: r => (.rows e l none, r)
 | .mrows _ _, ⟨.list (.prod k (.list e)), l⟩ :: r => (.mrows k e l none, r)
 | .zip _ ls, ⟨.list e, l⟩ :: r => zipUp e l (instLs ls r)
 | _, r => (.dead, r)
def instObs : Nat → List (Bool × ObT) → List Dyn → List (Nat × SObj) × List Dyn
 | _, [], ds => ([], ds)
 | k, o :: r, ds => ((k, (instOb o.2 ds).1) :: (instObs (k + 1) r (instOb o.2 ds).2).1, (instObs (k + 1) r (instOb o.2 ds).2).2)
def headL : List Leaf → Leaf
 | [x] => x
 | _ => .undef
def instSl : SlT → List Dyn → SVal × List Dyn
 | .one l, ds => (.one (headL (instL l ds).1), (instL l ds).2)
 | .agg ls, ds => (.agg (instLs ls ds).1, (instLs ls ds).2)
def instSls : List SlT → List Dyn → List SVal × List Dyn
 | [], ds => ([], ds)
 | l :: r, ds => ((instSl l ds).1 :: (instSls r (instSl l ds).2).1, (instSls r (instSl l ds).2).2)
def Tm.heap (T : Tm) (ds : List Dyn) : List (Nat × SObj) := (instObs 0 T.objs ds).1
def Tm.vals (T : Tm) (ds : List Dyn) : List SVal := (instSls T.slots (instObs 0 T.objs ds).2).1
abbrev Rho := List (Option Nat)
def Rho.at (ρ : Rho) (k : Nat) : Option Nat := match nth ρ k with
 | some x => x
 | none => none
def Rho.bind (ρ : Rho) (k id : Nat) : Rho := match ρ, k with
 | [], 0 => [some id]
 | [], k + 1 => none :: Rho.bind [] k id
 | x :: r, 0 => match x with
   | some y => some y :: r
   | none => some id :: r
 | x :: r, k + 1 => x :: Rho.bind r k id
def ext1 (hp : List (Nat × SObj)) (t : CT) (v : Leaf) : Option t.denote :=
 match t, v with
 | .int k, .int k' x => if k = k' then some x else none
 | .bool, .bool b => some b
 | .str, .str x => some x
 | .list e, .list e' l => if h : e' = e then some (h ▸ l : List e.denote) else none
 | .list e, .clist e' l => if h : e' = e then some (h ▸ l : List e.denote) else none
 | .list e, .nils => some ([] : List e.denote)
 | .list e, .sl id r => match look hp id with
   | some (.frz e' l) => if h : e' = e then some (sub (h ▸ l : List e.denote) r) else none
   | _ => none
 | _, _ => none
def extP (hp : List (Nat × SObj)) : (t : CT) → List Leaf → Option t.denote
 | .prod a b, v :: vs => match ext1 hp a v with
   | some x => match extP hp b vs with
     | some y => some (x, y)
     | none => none
   | none => none
 | .unit, [] => some ()
 | .int k, [v] => ext1 hp (.int k) v
 | .bool, [v] => ext1 hp .bool v
 | .str, [v] => ext1 hp .str v
 | .list e, [v] => ext1 hp (.list e) v
 | _, _ => none
def eqId (ρ : Rho) (k id : Nat) : Bool := match ρ.at k with
 | some j => Nat.beq j id
 | none => false
def eqIds (ρ : Rho) : List (Option Nat) → List (Option Nat) → Bool
 | [], [] => true
 | none :: r, none :: s => eqIds ρ r s
 | some k :: r, some id :: s => eqId ρ k id && eqIds ρ r s
 | _, _ => false
def extL (ρ : Rho) : LT → Leaf → Option (List Dyn)
 | .ptr k off, .ptr id off' => bif eqId ρ k id && Nat.beq off off' then some [] else none
 | .eptr k off, .eptr id i off' => bif eqId ρ k id && Nat.beq off off' then some [⟨.int .i64, (i : Int)⟩] else none
 | .sl k, .sl id none => bif eqId ρ k id then some [] else none
 | .slp k off n, .sl id (some r) => bif eqId ρ k id && (Nat.beq r.1 off && Nat.beq r.2 n) then some [] else none
 | .nils, .nils => some []
 | .fn f a b, .fn f' a' b' => bif Nat.beq f f' && (eqIds ρ a a' && eqIds ρ b b') then some [] else none
 | .ifp t k off, .ifp t' id off' => bif Nat.beq t t' && (eqId ρ k id && Nat.beq off off') then some [] else none
 | .ifi t j, .ifi t' j' x => if j' = j then (bif Nat.beq t t' then some [⟨.int j', x⟩] else none) else none
 | .cl e, .clist e' l => if e' = e then some [⟨.list e', l⟩] else none
 | .mp k, .mp id => bif eqId ρ k id then some [] else none
 | .nilp, .nilp => some []
 | .nilf, .nilf => some []
 | .nili, .nili => some []
 | .nilm, .nilm => some []
 | .undef, _ => some []
 | _, _ => none
def extLs (ρ : Rho) (hp : List (Nat × SObj)) : List LT → List Leaf → Option (List Dyn)
 | [], [] => some []
 | [], _ :: _ => none
 | l :: r, ls => match l.plain with
   | some t => match extP hp t (ls.take t.size), extLs ρ hp r (ls.drop t.size) with
     | some x, some ds => some (⟨t, x⟩ :: ds)
     | _, _ => none
   | none => match ls with
     | [] => none
     | v :: vs => match extL ρ l v, extLs ρ hp r vs with
       | some d, some ds => some (d ++ ds)
       | _, _ => none
def extOb (ρ : Rho) (hp : List (Nat × SObj)) (k : Nat) (o : ObT) : Option (List Dyn) :=
 match o with
 | .gone => some []
 | o => match ρ.at k with
   | some id => match o, look hp id with
     | .box ls, some (.box cs) => extLs ρ hp ls cs
     | .cells ls, some (.cells cs) => extLs ρ hp ls cs
     | .arr e, some (.arr e' l) => if e' = e then some [⟨.list e', l⟩] else none
     | .map k v a, some (.map k' v' a' l) => if k' = k ∧ v' = v ∧ a' = a then some [⟨.list (.prod k' v'), l⟩] else none
     | .rows e, some (.rows e' l none) => if e' = e then some [⟨.list (.list e'), l⟩] else none
     | .mrows k e, some (.mrows k' e' l none) => if k' = k ∧ e' = e then some [⟨.list (.prod k' (.list e')), l⟩] else none
     | .zip e ls, some (.zip e' pre cs post) => if e' = e then (match extLs ρ hp ls cs with
       | some ds => some (⟨.list e', pre⟩ :: (ds ++ [⟨.list e', post⟩]))
       | none => none) else none
     | _, _ => none
   | none => none
def extObs (ρ : Rho) (hp : List (Nat × SObj)) : Nat → List (Bool × ObT) → Option (List Dyn)
 | _, [] => some []
 | k, o :: r => match extOb ρ hp k o.2, extObs ρ hp (k + 1) r with
   | some d, some ds => some (d ++ ds)
   | _, _ => none
def extSl (ρ : Rho) (hp : List (Nat × SObj)) : SlT → SVal → Option (List Dyn)
 | .one l, .one v => extLs ρ hp [l] [v]
 | .agg ls, .agg vs => extLs ρ hp ls vs
 | .one .undef, _ => some []
 | _, _ => none
def extSls (ρ : Rho) (hp : List (Nat × SObj)) : List SlT → List SVal → Option (List Dyn)
 | [], [] => some []
 | l :: r, v :: vs => match extSl ρ hp l v, extSls ρ hp r vs with
   | some d, some ds => some (d ++ ds)
   | _, _ => none
 | _, _ => none
structure PS where
 s : St
 ρ : Rho
 g : List Nat := []
 n : Nat := 0
 f : List Nat := []
def bindIds (ρ : Rho) : List (Option Nat) → List (Option Nat) → Rho
 | some k :: r, some id :: s => bindIds (ρ.bind k id) r s
 | none :: r, _ :: s => bindIds ρ r s
 | _, _ => ρ
def prepL (objs : List (Bool × ObT)) : LT → Leaf → PS → Leaf × PS
 | .ptr k off, .ptr id off', p => (.ptr id off', { p with ρ := p.ρ.bind k id })
 | .eptr k off, .eptr id i off', p => (.eptr id i off', { p with ρ := p.ρ.bind k id })
 | .sl k, .sl id none, p => (.sl id none, { p with ρ := p.ρ.bind k id })
 | .sl k, .sl id (some r), p => match p.ρ.at k, look p.s.heap id with
   | none, some (.arr e l) => bif p.s.held id || !Nat.blt 0 e.size then (.sl id (some r), p)
     else (.sl p.s.next none, { p with s := (p.s.put id .dead).new (.arr e (sub l (some r))), ρ := p.ρ.bind k p.s.next, n := p.n + 1 })
   | _, _ => (.sl id (some r), p)
 | .sl k, .nils, p => match p.ρ.at k with
   | some id => bif has p.g id then (.sl id none, p) else (.nils, p)
   | none => match nth objs k with
     | some (_, .arr e) => (.sl p.s.next none, { p with s := p.s.new (.arr e []), ρ := p.ρ.bind k p.s.next, g := p.s.next :: p.g, n := p.n + 1 })
     | _ => (.nils, p)
 | .fn f a b, .fn f' a' b', p => (.fn f' a' b', { p with ρ := bindIds (bindIds p.ρ a a') b b' })
 | .ifp t k off, .ifp t' id off', p => (.ifp t' id off', { p with ρ := p.ρ.bind k id })
 | .mp k, .mp id, p => (.mp id, { p with ρ := p.ρ.bind k id })
 | .slp k _ _, .sl id r, p => (.sl id r, { p with ρ := p.ρ.bind k id })
 | _, v, p => (v, p)
def slIds : List Leaf → List Nat
 | [] => []
 | l :: r => match l with
   | .sl id _ => id :: slIds r
   | _ => slIds r
def prepLs (objs : List (Bool × ObT)) : List LT → List Leaf → PS → List Leaf × PS
 | [], vs, p => (vs, p)
 | l :: r, ls, p => match l.plain with
   | some t => (ls.take t.size ++ (prepLs objs r (ls.drop t.size) { p with f := slIds (ls.take t.size) ++ p.f }).1, (prepLs objs r (ls.drop t.size) { p with f := slIds (ls.take t.size) ++ p.f }).2)
   | none => match ls with
     | [] => ([], p)
     | v :: vs => ((prepL objs l v p).1 :: (prepLs objs r vs (prepL objs l v p).2).1, (prepLs objs r vs (prepL objs l v p).2).2)
def prepSl (objs : List (Bool × ObT)) : SlT → SVal → PS → SVal × PS
 | .one l, .one v, p => match (prepLs objs [l] [v] p).1 with
   | [v'] => (.one v', (prepLs objs [l] [v] p).2)
   | _ => (.one v, p)
 | .agg ls, .agg vs, p => (.agg (prepLs objs ls vs p).1, (prepLs objs ls vs p).2)
 | _, v, p => (v, p)
def prepSls (objs : List (Bool × ObT)) : List SlT → List SVal → PS → List SVal × PS
 | l :: r, v :: vs, p => ((prepSl objs l v p).1 :: (prepSls objs r vs (prepSl objs l v p).2).1, (prepSls objs r vs (prepSl objs l v p).2).2)
 | _, vs, p => (vs, p)
def prepOb (objs : List (Bool × ObT)) (id : Nat) (mk : List Leaf → SObj) (ls : List LT) (cs : List Leaf) (p : PS) : PS :=
 bif Nat.beq (prepLs objs ls cs p).2.n p.n || p.s.held id then (prepLs objs ls cs p).2
 else { (prepLs objs ls cs p).2 with s := (prepLs objs ls cs p).2.s.put id (mk (prepLs objs ls cs p).1) }
def prepObs (objs : List (Bool × ObT)) : Nat → List (Bool × ObT) → PS → PS
 | _, [], p => p
 | k, o :: r, p => match p.ρ.at k with
   | some id => match o.2, look p.s.heap id with
     | .box ls, some (.box cs) => prepObs objs (k + 1) r (prepOb objs id .box ls cs p)
     | .cells ls, some (.cells cs) => prepObs objs (k + 1) r (prepOb objs id .cells ls cs p)
     | .map _ _ _, some (.mrows _ _ _ _) => prepObs objs (k + 1) r { p with f := id :: p.f }
     | .arr _, some (.zip _ _ _ _) => prepObs objs (k + 1) r { p with f := id :: p.f }
     | .zip _ ls, some (.zip e pre cs post) => prepObs objs (k + 1) r (prepOb objs id (fun cs => .zip e pre cs post) ls cs p)
     | _, _ => prepObs objs (k + 1) r p
   | none => prepObs objs (k + 1) r p
def unzip (id : Nat) (e : CT) (pre : List e.denote) (cs : List Leaf) (post : List e.denote) (s : St) : St :=
 match packL e cs s with
 | some (y, s') => match look s'.heap id with
   | some (.zip _ _ _ _) => s'.put id (.arr e (pre ++ y :: post))
   | _ => s'
 | none => s
def frzs : List Nat → St → St
 | [], s => s
 | id :: r, s => match look s.heap id with
   | some (.arr e l) => bif s.held id then frzs r s else frzs r (s.put id (.frz e l))
   | some (.rows e l none) => bif s.held id then frzs r s else frzs r (s.put id (.frz (.list e) l))
   | some (.mrows k e l none) => bif s.held id then frzs r s else frzs r (s.put id (.map k (.list e) false l))
   | some (.zip e pre cs post) => bif s.held id then frzs r s else frzs r (unzip id e pre cs post s)
   | _ => frzs r s
def rhoIds : Rho → List Nat
 | [] => []
 | some id :: r => id :: rhoIds r
 | none :: r => rhoIds r
def nodupB : List Nat → Bool
 | [] => true
 | x :: r => !has r x && nodupB r
def freeB (s : St) : List Nat → Bool
 | [] => true
 | x :: r => !s.held x && freeB s r
structure Packed0 where
 ds : List Dyn
 ρ : Rho
 s : St
def packT (T : Tm) (ρ0 : Rho) (vs : List SVal) (s : St) : Option Packed0 :=
 match prepSls T.objs T.slots vs { s := s, ρ := ρ0 } with
 | (vs', p0) => match prepObs T.objs 0 T.objs p0 with
   | p => match frzs p.f p.s with
     | s1 => match extObs p.ρ s1.heap 0 T.objs, extSls p.ρ s1.heap T.slots vs' with
       | some a, some b => bif nodupB (rhoIds p.ρ) && (freeB s1 (rhoIds p.ρ) && Nat.ble p.ρ.length T.objs.length) then some ⟨a ++ b, p.ρ, s1⟩ else none
       | _, _ => none
def packD (T : Tm) (ρ0 : Rho) (vs : List SVal) (s : St) : Option (T.ct.denote × Rho × St) :=
 match packT T ρ0 vs s with
 | some p => match toD T.cts p.ds with
   | some d => some (d, p.ρ, p.s)
   | none => none
 | none => none
def noGone : List (Bool × ObT) → Bool
 | [] => true
 | (_, .gone) :: _ => false
 | _ :: r => noGone r
def packIn (T : Tm) (vs : List SVal) (s : St) : Option (T.ct.denote × Rho × St) :=
 bif noGone T.objs then packD T [] vs s else none
def renId (f : Nat → Nat) : Option Nat → Option Nat
 | some k => some (f k)
 | none => none
def renIds (f : Nat → Nat) : List (Option Nat) → List (Option Nat)
 | [] => []
 | x :: r => renId f x :: renIds f r
def renL (f : Nat → Nat) : Leaf → Leaf
 | .ptr id off => .ptr (f id) off
 | .eptr id i off => .eptr (f id) i off
 | .sl id r => .sl (f id) r
 | .fn g a b => .fn g (renIds f a) (renIds f b)
 | .ifp t id off => .ifp t (f id) off
 | .mp id => .mp (f id)
 | l => l
def renLs (f : Nat → Nat) : List Leaf → List Leaf
 | [] => []
 | l :: r => renL f l :: renLs f r
def renO (f : Nat → Nat) : SObj → SObj
 | .box ls => .box (renLs f ls)
 | .cells ls => .cells (renLs f ls)
 | .zip e pre ls post => .zip e pre (renLs f ls) post
 | o => o
def renV (f : Nat → Nat) : SVal → SVal
 | .one l => .one (renL f l)
 | .agg ls => .agg (renLs f ls)
 | v => v
def renVs (f : Nat → Nat) : List SVal → List SVal
 | [] => []
 | v :: r => renV f v :: renVs f r
def renH (f : Nat → Nat) : List (Nat × SObj) → List (Nat × SObj)
 | [] => []
 | (k, o) :: r => (f k, renO f o) :: renH f r
def deads : List Nat → List (Nat × SObj)
 | [] => []
 | id :: r => (id, .dead) :: deads r
def backId (objs : List (Bool × ObT)) (ρ : Rho) (next : Nat) (k : Nat) : Nat := match nth objs k with
 | some (true, _) => match ρ.at k with
   | some id => id
   | none => next + k
 | _ => next + k
def backSt (T : Tm) (ρ : Rho) (T' : Tm) (ds : List Dyn) (s : St) : St :=
 { s with heap := renH (backId T.objs ρ s.next) (T'.heap ds) ++ (deads (rhoIds ρ) ++ s.heap), next := s.next + T'.objs.length }
def backVals (T : Tm) (ρ : Rho) (T' : Tm) (ds : List Dyn) (s : St) : List SVal := renVs (backId T.objs ρ s.next) (T'.vals ds)
def stayRho : Nat → List (Bool × ObT) → Rho
 | _, [] => []
 | k, (true, _) :: r => some k :: stayRho (k + 1) r
 | k, (false, _) :: r => none :: stayRho (k + 1) r
def ofConst : Value → Option Leaf
 | .bool b => some (.bool b)
 | .int k n => some (.int k n)
 | .string s => some (.str s.data.toList)
 | .slice none 0 0 => some .nils
 | .pointer none => some .nilp
 | .nilFunc => some .nilf
 | .nilIface => some .nili
 | .map none => some .nilm
 | _ => none
def ofConsts : List Value → Option (List Leaf)
 | [] => some []
 | v :: r => match ofConst v, ofConsts r with
   | some x, some y => some (x :: y)
   | _, _ => none
def ofValue : Value → Option SVal
 | .agg cs => (ofConsts cs.toList).map .agg
 | v => (ofConst v).map .one
def evalO (env : List (Nat × SVal)) : Operand → Option SVal
 | .tmp t => look env t
 | .const v => ofValue v
 | .func f => some (.one (.fn f [] []))
 | _ => none
def most : Nat := 274877906944
end Go.Bm
