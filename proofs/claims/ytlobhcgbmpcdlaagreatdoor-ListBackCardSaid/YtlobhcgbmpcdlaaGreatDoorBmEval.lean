import Derived.Test.YtlobhcgbmpcdlaaGreatDoorBmCore
import GoSem.Core.View
namespace Go.Bm
set_option linter.unusedVariables false
inductive Ex where
 | norm | out (id : Nat) | ret
 deriving DecidableEq
def sums : List CT → CT
 | [] => .unit
 | [a] => a
 | a :: b :: r => .sum a (sums (b :: r))
structure Blk where
 slots : List Nat
 ins : Tm
 keep : List Nat
 exits : List (Ex × List Nat × Tm)
def outsT (l : List Tm) : CT := sums (l.map Tm.ct)
def exitsT (l : List (Ex × List Nat × Tm)) : CT := sums (l.map fun x => x.2.2.ct)
inductive OrdT where
 | done
 | take (i : Nat) (t : OrdT)
 | only (i : Nat) (t : OrdT)
 | alt (i : Nat) (t r : OrdT)
structure Cx where
 tab : Nat → Option TD
 eqt : Nat → Bool
 keys : Nat → List Nat
 lend : Nat → Bool
 mkr : Nat → Bool
 mt : Nat → String → Option (Nat × Option (Nat × Nat))
 gp : World → (Nat → Prop) → Prop
 gv : Nat → Option Dyn
 kin : Nat → Tm
 kouts : Nat → List Tm
 bk : Nat → Blk
 rf : (φ : Nat) → (kin φ).ct.denote → Option (outsT (kouts φ)).denote
 rb : (κ : Nat) → (bk κ).ins.ct.denote → Option (exitsT (bk κ).exits).denote
structure Hn where
 lk : Nat → Option Nat
 tk : Nat → Option Nat
 dk : Nat → Option (List Nat × OrdT)
 al : Nat → Option Nat
def inb (i : Int) (n : Nat) : Bool := match i with
 | .ofNat k => Nat.blt k n
 | .negSucc _ => false
def inb' (i : Int) (n : Nat) : Bool := match i with
 | .ofNat k => Nat.ble k n
 | .negSucc _ => false
def setNth {α : Type} : List α → Nat → α → List α
 | [], _, _ => []
 | _ :: r, 0, y => y :: r
 | x :: r, n + 1, y => x :: setNth r n y
def setMany : List Leaf → Nat → List Leaf → List Leaf
 | l, _, [] => l
 | l, off, v :: vs => setMany (setNth l off v) (off + 1) vs
def lookAll {α : Type} (env : List (Nat × α)) : List Nat → Option (List α)
 | [] => some []
 | n :: r => match look env n, lookAll env r with
   | some x, some y => some (x :: y)
   | _, _ => none
def evalAll (env : List (Nat × SVal)) : List Operand → Option (List SVal)
 | [] => some []
 | n :: r => match evalO env n, evalAll env r with
   | some x, some y => some (x :: y)
   | _, _ => none
def SVal.leaves : SVal → Option (List Leaf)
 | .one l => some [l]
 | .agg cs => some cs
 | .tup _ => none
 | .skip => none
def SVal.isAgg : SVal → Bool
 | .agg _ => true
 | _ => false
def TD.size : TD → Nat
 | .leaf _ => 1
 | .struct _ zs => zs.length
 | .slice _ _ => 1
 | .arr _ _ _ zs => zs.length
 | .map _ _ _ => 1
def TD.agg : TD → Bool
 | .struct _ _ => true
 | .arr _ _ _ _ => true
 | _ => false
def TD.zeros : TD → List Leaf
 | .leaf z => [z]
 | .struct _ zs => zs
 | .slice _ _ => [.nils]
 | .arr _ _ _ zs => zs
 | .map _ _ _ => [.nilm]
def asVal (agg : Bool) (cs : List Leaf) : Option SVal :=
 match agg, cs with
 | true, cs => some (.agg cs)
 | false, [v] => some (.one v)
 | false, _ => none
def rowOf : Option SObj → Option (Nat × Nat)
 | some (.arr e l) => some (e.size, l.length)
 | some (.frz e l) => some (e.size, l.length)
 | some (.cells cs) => some (1, cs.length)
 | some (.rows _ l _) => some (1, l.length)
 | some (.zip e l _ m) => some (e.size, l.length + (1 + m.length))
 | _ => none
def CT.sz : CT → Nat
 | .unit => 1
 | e => e.size
def lenOf (td : TD) (s : St) (v : Leaf) : Option Nat :=
 match td, v with
 | .leaf (.str _), .str x => some x.length
 | .slice _ _, .list _ l => some l.length
 | .slice _ _, .clist _ l => some l.length
 | .slice _ _, .nils => some 0
 | .slice e _, .sl id none => match rowOf (look s.heap id) with
   | some (sz, n) => bif Nat.beq sz e.sz then some n else none
   | none => none
 | .slice e _, .sl id (some (_, n)) => match rowOf (look s.heap id) with
   | some (sz, _) => bif Nat.beq sz e.sz then some n else none
   | none => none
 | _, _ => none
def lenMpK (td : TD) (s : St) (v : Leaf) : Option Nat := none
def eqLeaf : Leaf → Leaf → Option Bool
 | .int k x, .int k' y => if k = k' then some (x == y) else none
 | .bool x, .bool y => some (x == y)
 | .str x, .str y => some (x == y)
 | _, _ => none
def eqLeaves : List Leaf → List Leaf → Option Bool
 | [], [] => some true
 | [x], [y] => eqLeaf x y
 | x :: xs, y :: ys => match eqLeaf x y, eqLeaves xs ys with
   | some a, some b => some (a && b)
   | _, _ => none
 | _, _ => none
def likes : List Leaf → List Leaf → Bool
 | [], [] => true
 | .int k _ :: r, .int k' _ :: s => decide (k' = k) && likes r s
 | .bool _ :: r, .bool _ :: s => likes r s
 | .str _ :: r, .str _ :: s => likes r s
 | _, _ => false
variable {R : Type}
def andI (j : IntKind) (a b : Int) : Int := j.wrap ((BitVec.ofInt j.bits a &&& BitVec.ofInt j.bits b).toNat : Nat)
def orI (j : IntKind) (a b : Int) : Int := j.wrap ((BitVec.ofInt j.bits a ||| BitVec.ofInt j.bits b).toNat : Nat)
def xorI (j : IntKind) (a b : Int) : Int := j.wrap ((BitVec.ofInt j.bits a ^^^ BitVec.ofInt j.bits b).toNat : Nat)
def shlI (j : IntKind) (a b : Int) : Int := j.wrap (a * 2 ^ (min b.toNat j.bits))
def shrI (j : IntKind) (a b : Int) : Int := a.fdiv (2 ^ (min b.toNat j.bits))
def ltB : List UInt8 → List UInt8 → Bool
 | _, [] => false
 | [], _ :: _ => true
 | a :: x, b :: y => decide (a < b) || (a == b && ltB x y)
def binK (eqt : Bool) (td : Option TD) (op : BinOp) (x y : SVal) (k : SVal → Option R) : Option R :=
 match x, y with
 | .one (.int j a), .one (.int j' b) =>
   if j = j' then
    match op with
    | .add => k (.one (.int j (j.wrap (a + b))))
    | .sub => k (.one (.int j (j.wrap (a - b))))
    | .mul => k (.one (.int j (j.wrap (a * b))))
    | .quo => bif b == 0 then none else k (.one (.int j (j.wrap (a.tdiv b))))
    | .rem => bif b == 0 then none else k (.one (.int j (a.tmod b)))
    | .eql => k (.one (.bool (a == b)))
    | .neq => k (.one (.bool (a != b)))
    | .lss => k (.one (.bool (decide (a < b))))
    | .leq => k (.one (.bool (decide (a ≤ b))))
    | .gtr => k (.one (.bool (decide (a > b))))
    | .geq => k (.one (.bool (decide (a ≥ b))))
    | .and => k (.one (.int j (andI j a b)))
    | .or => k (.one (.int j (orI j a b)))
    | .xor => k (.one (.int j (xorI j a b)))
    | .shl => bif decide (b < 0) then none else k (.one (.int j (shlI j a b)))
    | .shr => bif decide (b < 0) then none else k (.one (.int j (shrI j a b)))
    | _ => none
   else match op with
    | .shl => bif decide (b < 0) then none else k (.one (.int j (shlI j a b)))
    | .shr => bif decide (b < 0) then none else k (.one (.int j (shrI j a b)))
    | _ => none
 | .one (.bool a), .one (.bool b) =>
   match op, td with
   | .eql, some (.leaf (.bool _)) => k (.one (.bool (a == b)))
   | .neq, some (.leaf (.bool _)) => k (.one (.bool (!(a == b))))
   | _, _ => none
 | .one (.str a), .one (.str b) =>
   match op with
   | .eql => k (.one (.bool (a == b)))
   | .neq => k (.one (.bool (!(a == b))))
   | .add => bif Nat.ble (a.length + b.length) most then k (.one (.str (a ++ b))) else none
   | .lss => k (.one (.bool (ltB a b)))
   | .leq => k (.one (.bool (ltB a b || a == b)))
   | .gtr => k (.one (.bool (!(ltB a b || a == b))))
   | .geq => k (.one (.bool (!(ltB a b))))
   | _ => none
 | .one (.list _ l), .one .nils =>
   match op, td with
   | .eql, some (.slice _ _) => bif l.isEmpty then k (.one .anyb) else k (.one (.bool false))
   | .neq, some (.slice _ _) => bif l.isEmpty then k (.one .anyb) else k (.one (.bool true))
   | _, _ => none
 | .agg a, .agg b =>
   match td with
   | some (.struct _ zs) => bif eqt && likes zs a then (match op, eqLeaves a b with
     | .eql, some t => k (.one (.bool t))
     | .neq, some t => k (.one (.bool (!t)))
     | _, _ => none) else none
   | _ => none
 | _, _ => none
def unK (op : UnOp) (x : SVal) (k : SVal → Option R) : Option R :=
 match op, x with
 | .neg, .one (.int j a) => k (.one (.int j (j.wrap (0 - a))))
 | .not, .one (.bool b) => k (.one (.bool (!b)))
 | _, _ => none
def boundK (lo hi : Option SVal) (len : Nat) (k : Nat → Nat → Option R) : Option R :=
 match lo, hi with
 | none, none => k 0 len
 | none, some (.one (.int _ h)) => bif inb' h len then k 0 h.toNat else none
 | some (.one (.int _ l)), none => bif inb' l len then k l.toNat len else none
 | some (.one (.int _ l)), some (.one (.int _ h)) => bif inb' h len then (bif inb' l h.toNat then k l.toNat h.toNat else none) else none
 | _, _ => none
def splitN : Nat → Nat → (Nat → Option R) → Option R
 | 0, i, k => bif Nat.beq i 0 then k 0 else none
 | n + 1, i, k => bif Nat.beq i (n + 1) then k (n + 1) else splitN n i k
def cellsN (s : St) (id n h : Nat) (k : Nat → Option R) : Option R :=
 match look s.heap id with
 | some (.cells _) => splitN n h k
 | _ => k h
def sliceK (td : TD) (s : St) (x : SVal) (lo hi : Option SVal) (k : SVal → Option R) : Option R :=
 match td, x with
 | .leaf (.str _), .one (.str a) => boundK lo hi a.length fun l h => k (.one (.str (sub a (some (l, h - l)))))
 | .slice e _, .one (.list e' a) => bif Nat.beq e'.size e.sz then boundK lo hi a.length fun l h => k (.one (.list e' (sub a (some (l, h - l))))) else none
 | .slice _ _, .one .nils => boundK lo hi 0 fun _ _ => k (.one .nils)
 | .slice e _, .one (.sl id none) => match rowOf (look s.heap id) with
   | some (sz, n) => bif Nat.beq sz e.sz then boundK lo hi n fun l h => cellsN s id n h fun h' => k (.one (.sl id (some (l, h' - l)))) else none
   | none => none
 | .slice e _, .one (.sl id (some (off, n))) => match rowOf (look s.heap id) with
   | some (sz, _) => bif Nat.beq sz e.sz then boundK lo hi n fun l h => k (.one (.sl id (some (off + l, h - l)))) else none
   | none => none
 | _, _ => none
def slice3K (td : TD) (x hi mx : SVal) (k : SVal → Option R) : Option R :=
 match td, x, hi, mx with
 | .slice e _, .one (.list e' a), .one (.int _ h), .one (.int _ m) => bif Nat.beq e'.size e.sz && ((h == ((a.length : Nat) : Int)) && (m == ((a.length : Nat) : Int))) then k (.one (.clist e' a)) else none
 | _, _, _, _ => none
def gOp (gv : Nat → Option Dyn) : Operand → Option SVal
 | .global g => match gv g with
   | some d => some (.one (.vptr d.t d.x 0))
   | none => none
 | _ => none
def ints : (t : CT) → List Leaf → Option t.denote
 | .int k, [.int k' x] => if k' = k then some x else none
 | .str, [.str x] => some x
 | .prod .str b, .str x :: r => match ints b r with
   | some y => some (x, y)
   | none => none
 | .prod (.int k) b, .int k' x :: r => if k' = k then (match ints b r with
   | some y => some (x, y)
   | none => none) else none
 | _, _ => none
def intRows (e : CT) : List (List Leaf) → Option (List e.denote)
 | [] => some []
 | r :: rs => match ints e r, intRows e rs with
   | some x, some y => some (x :: y)
   | _, _ => none
def chunks (n : Nat) : (count : Nat) → List Leaf → List (List Leaf)
 | 0, _ => []
 | k + 1, l => l.take n :: chunks n k (l.drop n)
def arrK (e : CT) (n : Nat) (agg : Bool) (cs : List Leaf) (j : Int) (k : SVal → Option R) : Option R :=
 match intRows e (chunks e.size n cs) with
 | some l => bif inb j n then (nth l j.toNat).bind fun x => match asVal agg (unpackL e x) with
    | some v => k v
    | none => none
   else none
 | none => none
def cutK (td : TD) (cs : List Leaf) (off : Nat) (k : SVal → Option R) : Option R :=
 bif Nat.ble (off + td.size) cs.length then
  match asVal td.agg ((cs.drop off).take td.size) with
  | some v => k v
  | none => none
 else none
def loadK (s : St) (td : TD) (a : SVal) (k : SVal → Option R) : Option R :=
 match a with
 | .one (.ptr id off) => match look s.heap id with
   | some (.box cs) => cutK td cs off k
   | some (.cells cs) => cutK td cs off k
   | _ => none
 | .one (.vptr e x off) => cutK td (unpackL e x) off k
 | .one (.eptr id i off) => match look s.heap id with
   | some (.arr e l) => (nth l i).bind fun x => cutK td (unpackL e x) off k
   | some (.frz e l) => (nth l i).bind fun x => cutK td (unpackL e x) off k
   | some (.zip _ l cs _) => bif Nat.beq i l.length then cutK td cs off k else none
   | _ => none
 | _ => none
def setK (id i : Nat) (e : CT) (y : e.denote) (s : St) (k : St → Option R) : Option R :=
 match look s.heap id with
 | some (.arr e' l) => if h : e' = e then (bif s.held id then none else k (s.put id (.arr e (setNth (h ▸ l : List e.denote) i y)))) else none
 | _ => none
def zipB (s : St) (n : Nat) (vs : List Leaf) : Bool := match vs with
 | [.sl id none] => (match look s.heap id with
   | some (.arr _ _) => !s.held id
   | _ => false) && !Nat.beq n 1
 | _ => false
def storeA (s : St) (td : TD) (id i off : Nat) (e : CT) (l : List e.denote) (vs : List Leaf) (k : St → Option R) : Option R :=
 bif Nat.beq vs.length td.size && (Nat.ble (off + vs.length) e.size && vs.all Leaf.def) then
   (bif Nat.beq off 0 && Nat.beq vs.length e.size then
     match packL e vs s with
     | some (y, s') => bif Nat.blt i l.length then setK id i e y s' k else none
     | none => none
   else (nth l i).bind fun x => match packL e (setMany (unpackL e x) off vs) s with
    | some (y, s') => setK id i e y s' k
    | none => none)
  else none
def storeK (s : St) (td : TD) (a v : SVal) (k : St → Option R) : Option R :=
 match a, v.leaves with
 | .one (.ptr id off), some vs => match look s.heap id with
   | some (.box cs) => bif Nat.beq vs.length td.size && (Nat.ble (off + vs.length) cs.length && (vs.all Leaf.def && !s.held id)) then k (s.put id (.box (setMany cs off vs))) else none
   | _ => none
 | .one (.eptr id i off), some vs => match look s.heap id with
   | some (.zip e l cs m) => bif Nat.beq i l.length && (Nat.beq vs.length td.size && (Nat.ble (off + vs.length) cs.length && (vs.all Leaf.def && !s.held id))) then k (s.put id (.zip e l (setMany cs off vs) m)) else none
   | some (.arr e l) => bif zipB s e.size vs then
      (bif Nat.beq vs.length td.size && (Nat.ble (off + vs.length) e.size && (vs.all Leaf.def && !s.held id)) then
        (nth l i).bind fun x => k (s.put id (.zip e (l.take i) (setMany (unpackL e x) off vs) (l.drop (i + 1))))
      else none)
     else storeA s td id i off e l vs k
   | _ => none
 | _, _ => none
def rowPtr (s : St) (id i : Nat) : Leaf :=
 match look s.heap id with
 | some (.cells _) => .ptr id i
 | _ => .eptr id i 0
def ptrK (s : St) (id i : Nat) (k : SVal → Option R) : Option R :=
 match look s.heap id with
 | some (.cells cs) => splitN (cs.length - 1) i fun i' => k (.one (.ptr id i'))
 | _ => k (.one (.eptr id i 0))
def indexAddrK (td : TD) (s : St) (x : SVal) (i : SVal) (k : SVal → Option R) : Option R :=
 match td, x, i with
 | .slice e' _, .one (.list e l), .one (.int _ j) => bif Nat.beq e.size e'.sz && inb j l.length then (nth l j.toNat).bind fun x => k (.one (.vptr e x 0)) else none
 | .slice e' _, .one (.clist e l), .one (.int _ j) => bif Nat.beq e.size e'.sz && inb j l.length then (nth l j.toNat).bind fun x => k (.one (.vptr e x 0)) else none
 | .slice e' _, .one (.sl id none), .one (.int _ j) =>
   match rowOf (look s.heap id) with
   | some (sz, n) => bif Nat.beq sz e'.sz && inb j n then ptrK s id j.toNat k else none
   | none => none
 | .slice e' _, .one (.sl id (some (off, n))), .one (.int _ j) =>
   match rowOf (look s.heap id) with
   | some (sz, _) => bif Nat.beq sz e'.sz && inb j n then ptrK s id (off + j.toNat) k else none
   | none => none
 | _, _, _ => none
def srcK (e : CT) (s : St) : SVal → Option (List e.denote)
 | .one .nils => some []
 | .one (.list e' l) => if h : e' = e then some (h ▸ l : List e.denote) else none
 | .one (.clist e' l) => if h : e' = e then some (h ▸ l : List e.denote) else none
 | .one (.sl id r) => match look s.heap id with
   | some (.arr e' l) => if h : e' = e then some (sub (h ▸ l : List e.denote) r) else none
   | some (.frz e' l) => if h : e' = e then some (sub (h ▸ l : List e.denote) r) else none
   | _ => none
 | _ => none
def appendK (e : CT) (s : St) (x y : SVal) (k : SVal → St → Option R) : Option R :=
 match srcK e s y with
 | some b => match x with
   | .one .nils => bif Nat.ble b.length most then k (.one (.sl s.next none)) (s.new (.arr e b)) else none
   | .one (.clist e' l) => if h : e' = e then bif Nat.ble (l.length + b.length) most && Nat.blt 0 b.length then k (.one (.sl s.next none)) (s.new (.arr e ((h ▸ l : List e.denote) ++ b))) else none else none
   | .one (.sl id r) => match look s.heap id with
     | some (.arr e' l) => if h : e' = e then
        bif Nat.ble ((sub l r).length + b.length) most && ((r.isNone || Nat.blt 0 b.length) && !s.held id) then
         k (.one (.sl s.next none)) ((s.put id .dead).new (.arr e (sub (h ▸ l : List e.denote) r ++ b)))
        else none
       else none
     | _ => none
   | _ => none
 | none => none
def spliceK (s : St) (id : Nat) (e : CT) (r : Option (Nat × Nat)) (xs : List e.denote) (k : St → Option R) : Option R := none
def partLen (s : St) (id : Nat) : Option (Nat × Nat) → Nat
 | some (_, n) => n
 | none => match rowOf (look s.heap id) with
   | some (_, n) => n
   | none => 0
def fillK (env : List (Nat × SVal)) (place : Nat → Option (Nat × Nat)) : List Leaf → List (Nat × Operand) → Option (List Leaf)
 | cs, [] => some cs
 | cs, (i, o) :: r => match place i, evalO env o with
   | some (off, size), some v => match v.leaves with
     | some vs => bif Nat.beq vs.length size && Nat.ble (off + size) cs.length && (vs.all Leaf.def || v.isAgg) then fillK env place (setMany cs off vs) r else none
     | none => none
   | _, _ => none
def repeatL : Nat → List Leaf → List Leaf
 | 0, _ => []
 | n + 1, zs => zs ++ repeatL n zs
def zero1 : CT → Leaf
 | .int k => .int k 0
 | .bool => .bool false
 | .str => .str []
 | .list _ => .nils
 | _ => .undef
def CT.leaf : CT → Bool
 | .int _ | .bool | .str | .list _ => true
 | _ => false
def CT.wf : CT → Bool
 | .prod a b => a.leaf && b.wf
 | .sum _ _ => false
 | .unit => false
 | _ => true
def zerosOf : CT → List Leaf
 | .prod a b => zero1 a :: zerosOf b
 | .unit => []
 | .sum _ _ => []
 | t => [zero1 t]
def madeS : Bool → (e : CT) → Nat → SObj
 | true, .list e, n => .rows e (List.replicate n []) none
 | _, e, n => .arr e (List.replicate n e.zero)
def madeM : Bool → (k v : CT) → Bool → SObj
 | true, k, .list e, false => .mrows k e [] none
 | _, k, v, agg => .map k v agg []
def partOf : SVal → Option (List Leaf × Bool)
 | .one v => some ([v], false)
 | .agg cs => some (cs, true)
 | .tup _ => none
 | .skip => none
def partsOf : List SVal → Option (List (List Leaf × Bool))
 | [] => some []
 | v :: vs => match partOf v, partsOf vs with
   | some p, some ps => some (p :: ps)
   | _, _ => none
def resultVal (vs : List SVal) : Option SVal :=
 match vs with
 | [v] => some v
 | vs => match partsOf vs with
   | some ps => some (.tup ps)
   | none => none
def leaveF (T : Tm) (ρ : Rho) (s : St) : (l : List Tm) → (outsT l).denote → (SVal → St → Option R) → Option R
 | [], _, _ => none
 | [T'], y, k => match resultVal (backVals T ρ T' (fromD T'.cts y) s) with
   | some v => k v (backSt T ρ T' (fromD T'.cts y) s)
   | none => none
 | T' :: b :: r, y, k => match y with
   | .inl a => match resultVal (backVals T ρ T' (fromD T'.cts a) s) with
     | some v => k v (backSt T ρ T' (fromD T'.cts a) s)
     | none => none
   | .inr c => leaveF T ρ s (b :: r) c k
def Leaf.flat : Leaf → Bool
 | .int _ _ => true
 | .bool _ => true
 | .str _ => true
 | _ => false
def SVal.flat : SVal → Bool
 | .one l => l.flat
 | .agg ls => ls.all Leaf.flat
 | _ => false
def leaveN (s : St) : (l : List Tm) → (outsT l).denote → (SVal → St → Option R) → Option R
 | [], _, _ => none
 | [T'], y, k => bif T'.objs.isEmpty && (T'.vals (fromD T'.cts y)).all SVal.flat then (match resultVal (T'.vals (fromD T'.cts y)) with
   | some v => k v s
   | none => none) else none
 | T' :: b :: r, y, k => match y with
   | .inl a => bif T'.objs.isEmpty && (T'.vals (fromD T'.cts a)).all SVal.flat then (match resultVal (T'.vals (fromD T'.cts a)) with
     | some v => k v s
     | none => none) else none
   | .inr c => leaveN s (b :: r) c k
def callTry (cx : Cx) (args : List SVal) (s : St) (k : SVal → St → Option R) : List Nat → Option R
 | [] => none
 | φ :: r => match packIn (cx.kin φ) args s with
   | some (d, ρ, s1) => (cx.rf φ d).bind fun y => bif cx.lend φ then (bif (cx.kin φ).objs.isEmpty then leaveN s (cx.kouts φ) y k else none) else leaveF (cx.kin φ) ρ s1 (cx.kouts φ) y k
   | none => callTry cx args s k r
def idLeaf : Option Nat → Leaf
 | some id => .ptr id 0
 | none => .nilp
def idVals : List (Option Nat) → List SVal
 | [] => []
 | x :: r => .one (idLeaf x) :: idVals r
def callK (cx : Cx) (v : SVal) (args : List SVal) (s : St) (k : SVal → St → Option R) : Option R :=
 match v with
 | .one (.fn f a b) => callTry cx (idVals a ++ (args ++ idVals b)) s k (cx.keys f)
 | _ => none
def maxK (k : SVal → Option R) : IntKind → Int → List SVal → Option R
 | j, a, [] => k (.one (.int j a))
 | j, a, .one (.int _ b) :: r => maxK k j (if b > a then b else a) r
 | _, _, _ => none
def minK (k : SVal → Option R) : IntKind → Int → List SVal → Option R
 | j, a, [] => k (.one (.int j a))
 | j, a, .one (.int _ b) :: r => minK k j (if b < a then b else a) r
 | _, _, _ => none
def extractK (x : SVal) (i : Nat) (k : SVal → Option R) : Option R :=
 match x with
 | .tup ps => match nth ps i with
   | some (cs, agg) => match asVal agg cs with
     | some v => k v
     | none => none
   | none => none
 | _ => none
def fieldAddrK (td : TD) (x : SVal) (f : Nat) (k : SVal → Option R) : Option R :=
 match td with
 | .struct fs _ => match nth fs f, x with
   | some (o, _, _), .one (.ptr id off) => k (.one (.ptr id (off + o)))
   | some (o, _, _), .one (.eptr id i off) => k (.one (.eptr id i (off + o)))
   | some (o, _, _), .one (.vptr e x off) => k (.one (.vptr e x (off + o)))
   | _, _ => none
 | _ => none
def fieldK (td : TD) (x : SVal) (f : Nat) (k : SVal → Option R) : Option R :=
 match td with
 | .struct fs _ => match nth fs f, x with
   | some (o, n, agg), .agg cs => match asVal agg ((cs.drop o).take n) with
     | some v => k v
     | none => none
   | _, _ => none
 | _ => none
def leafIds : List SVal → Option (List (Option Nat))
 | [] => some []
 | .one (.ptr id 0) :: r => match leafIds r with
   | some l => some (some id :: l)
   | none => none
 | .one .nilp :: r => match leafIds r with
   | some l => some (none :: l)
   | none => none
 | _ => none
def deleteK (td : TD) (s : St) (x i : SVal) (k : St → Option R) : Option R := none
def takeK (s : St) (id : Nat) (o : SObj) (e : CT) (row : List e.denote) (k : SVal → St → Option R) : Option R :=
 bif !s.held id && Nat.blt 0 e.size then k (.one (.sl s.next none)) ((s.put id o).new (.arr e row)) else none
def loadS (s : St) (td : TD) (a : SVal) (k : SVal → St → Option R) : Option R := loadK s td a fun r => k r s
def storeS (s : St) (td : TD) (a v : SVal) (k : St → Option R) : Option R := storeK s td a v k
def lookupS (td : TD) (s : St) (x i : SVal) (ok : Bool) (k : SVal → St → Option R) : Option R := none
def updateS (td : TD) (s : St) (x i y : SVal) (k : St → Option R) : Option R := none
def invokeK (cx : Cx) (name : String) (v : SVal) (args : List SVal) (s : St) (k : SVal → St → Option R) : Option R := none
def convK (tab : Nat → Option TD) (td dd : TD) (same : Bool) (s : St) (v : SVal) (k : SVal → St → Option R) : Option R := none
def stepK (cx : Cx) (o : Oper) (s : St) (k : St → Option R) : Option R :=
 match o.op with
 | .move x | .assign x => match evalO s.env x with
   | some v => k (s.set o.dst v)
   | none => none
 | .pick c a b => match evalO s.env c with
   | some (.one (.bool t)) => bif t then (match evalO s.env a with
      | some v => k (s.set o.dst v)
      | none => none) else (match evalO s.env b with
      | some v => k (s.set o.dst v)
      | none => none)
   | _ => none
 | .alloc t => match cx.tab t with
   | some td => k ((s.new (.box td.zeros)).set o.dst (.one (.ptr s.next 0)))
   | none => none
 | .box t x => match cx.tab t, evalO s.env x with
   | some td, some v => match v.leaves with
     | some vs => bif Nat.beq vs.length td.size && (vs.all Leaf.def || v.isAgg) then k ((s.new (.box vs)).set o.dst (.one (.ptr s.next 0))) else none
     | none => none
   | _, _ => none
 | .build t ps => match cx.tab t with
   | some (.struct fs zs) => match fillK s.env (fun i => (nth fs i).map fun x => (x.1, x.2.1)) zs ps.toList with
     | some cs => k (s.set o.dst (.agg cs))
     | none => none
   | some (.arr e n _ zs) => match fillK s.env (fun i => some (i * e.size, e.size)) zs ps.toList with
     | some cs => k (s.set o.dst (.agg cs))
     | none => none
   | _ => none
 | .buildSlice t n ps => match cx.tab t with
   | some (.slice .unit _) => bif Nat.ble n 16777216 then match fillK s.env (fun i => some (i, 1)) (repeatL n [.undef]) ps.toList with
     | some cs => k ((s.new (.cells cs)).set o.dst (.one (.sl s.next none)))
     | none => none
     else none
   | some (.slice e _) => bif Nat.ble (n * e.size) 16777216 then match fillK s.env (fun i => some (i * e.size, e.size)) (repeatL n (zerosOf e)) ps.toList with
     | some cs => match packRows e (chunks e.size n cs) s with
       | some (l, s') => k ((s'.new (.arr e l)).set o.dst (.one (.sl s'.next none)))
       | none => none
     | none => none
     else none
   | _ => none
 | .load t a => match gOp cx.gv a with
   | some u => match cx.tab t with
     | some td => loadK s td u fun r => k (s.set o.dst r)
     | none => none
   | none => match cx.tab t, evalO s.env a with
     | some td, some v => loadS s td v fun r s' => k (s'.set o.dst r)
     | _, _ => none
 | .store t a x => match cx.tab t, evalO s.env a, evalO s.env x with
   | some td, some v, some y => storeS s td v y fun s' => k (s'.set o.dst (.one .undef))
   | _, _, _ => none
 | .nilCheck x => match evalO s.env x with
   | some (.one (.ptr id off)) => k (s.set o.dst (.one (.ptr id off)))
   | some (.one (.eptr id i off)) => k (s.set o.dst (.one (.eptr id i off)))
   | some (.one (.vptr e x off)) => k (s.set o.dst (.one (.vptr e x off)))
   | _ => none
 | .binOp op t x y _ => match evalO s.env x, evalO s.env y with
   | some a, some b => binK (cx.eqt t) (cx.tab t) op a b fun r => k (s.set o.dst r)
   | _, _ => none
 | .unOp op _ x => match evalO s.env x with
   | some a => unK op a fun r => k (s.set o.dst r)
   | none => none
 | .convert t d x => match cx.tab t, cx.tab d, evalO s.env x with
   | some _, some (.leaf (.int j _)), some (.one (.int _ a)) => k (s.set o.dst (.one (.int j (j.wrap a))))
   | some _, some (.leaf (.str _)), some (.one (.str a)) => k (s.set o.dst (.one (.str a)))
   | some td, some dd, some v => convK cx.tab td dd (Nat.beq t d) s v fun r s' => k (s'.set o.dst r)
   | _, _, _ => none
 | .makeSlice t l c => match cx.tab t, evalO s.env l, evalO s.env c with
   | some (.slice e _), some (.one (.int _ n)), some (.one (.int _ m)) =>
     bif Nat.blt 0 e.size && inb' m most then (bif inb' n m.toNat then k ((s.new (madeS (cx.mkr t) e n.toNat)).set o.dst (.one (.sl s.next none))) else none) else none
   | _, _, _ => none
 | .slice t x lo hi none => match evalO s.env x, (match lo with | none => some none | some l => (evalO s.env l).map some), (match hi with | none => some none | some h => (evalO s.env h).map some) with
   | some v, some l, some h => match cx.tab t with
     | some td => sliceK td s v l h fun r => k (s.set o.dst r)
     | none => none
   | _, _, _ => none
 | .slice t x none (some hi) (some mx) => match evalO s.env x, evalO s.env hi, evalO s.env mx, cx.tab t with
   | some v, some h, some m, some td => slice3K td v h m fun r => k (s.set o.dst r)
   | _, _, _, _ => none
 | .fieldAddr t x f => match cx.tab t, evalO s.env x with
   | some td, some v => fieldAddrK td v f fun r => k (s.set o.dst r)
   | _, _ => none
 | .field t x f => match cx.tab t, evalO s.env x with
   | some td, some v => fieldK td v f fun r => k (s.set o.dst r)
   | _, _ => none
 | .indexAddr t x i => match cx.tab t, evalO s.env x, evalO s.env i with
   | some td, some v, some j => indexAddrK td s v j fun r => k (s.set o.dst r)
   | _, _, _ => none
 | .index t x i => match cx.tab t, evalO s.env x, evalO s.env i with
   | some (.leaf (.str _)), some (.one (.str a)), some (.one (.int _ j)) => bif inb j a.length then (nth a j.toNat).bind fun b => k (s.set o.dst (.one (.int .u8 b.toNat))) else none
   | some (.arr e n agg _), some (.agg cs), some (.one (.int _ j)) => arrK e n agg cs j fun r => k (s.set o.dst r)
   | _, _, _ => none
 | .extract x i => match evalO s.env x with
   | some v => extractK v i fun r => k (s.set o.dst r)
   | none => none
 | .makeMap t none => match cx.tab t with
   | some (.map kt vt agg) => k ((s.new (madeM (cx.mkr t) kt vt agg)).set o.dst (.one (.mp s.next)))
   | _ => none
 | .lookup t x i ok => match cx.tab t, evalO s.env x, evalO s.env i with
   | some td, some v, some j => lookupS td s v j ok fun r s' => k (s'.set o.dst r)
   | _, _, _ => none
 | .mapUpdate t x i y | .insert t x i y => match cx.tab t, evalO s.env x, evalO s.env i, evalO s.env y with
   | some td, some v, some j, some u => updateS td s v j u fun s' => k (s'.set o.dst (.one .undef))
   | _, _, _, _ => none
 | .makeFunc (.func f) a b => match (evalAll s.env a.toList).bind leafIds, (evalAll s.env b.toList).bind leafIds with
   | some x, some y => k (s.set o.dst (.one (.fn f x y)))
   | _, _ => none
 | .call c => match c.callee with
   | .builtin .len => match c.args.toList, c.argTypes.toList with
     | [x], t :: _ => match cx.tab t, evalO s.env x with
       | some td, some (.one v) => match lenMpK td s v with
         | some n => k (s.set o.dst (.one (.int .i64 n)))
         | none => match lenOf td s v with
           | some n => k (s.set o.dst (.one (.int .i64 n)))
           | none => none
       | _, _ => none
     | _, _ => none
   | .builtin .append => match c.args.toList, c.argTypes.toList with
     | [x, y], [t, t'] => bif Nat.beq t t' then match cx.tab t, evalO s.env x, evalO s.env y with
       | some (.slice e _), some v, some u => bif Nat.blt 0 e.size then appendK e s v u fun r s' => k (s'.set o.dst r) else none
       | _, _, _ => none
       else none
     | _, _ => none
   | .builtin .clear => match c.args.toList, c.argTypes.toList with
     | [x], [t] => match cx.tab t, evalO s.env x with
       | some (.slice (.int kd) _), some (.one (.sl id p)) => spliceK s id (.int kd) p (List.replicate (partLen s id p) (0 : Int)) fun s' => k (s'.set o.dst (.one .undef))
       | _, _ => none
     | _, _ => none
   | .builtin .delete => match c.args.toList, c.argTypes.toList with
     | [x, y], t :: _ => match cx.tab t, evalO s.env x, evalO s.env y with
       | some td, some v, some u => deleteK td s v u fun s' => k (s'.set o.dst (.one .undef))
       | _, _, _ => none
     | _, _ => none
   | .builtin .copy => match c.args.toList, c.argTypes.toList with
     | [x, y], t :: _ => match cx.tab t, evalO s.env x, evalO s.env y with
       | some (.slice e _), some (.one (.sl id p)), some u => bif Nat.blt 0 e.size then (match srcK e s u with
         | some b => spliceK s id e p (b.take (partLen s id p)) fun s' => k (s'.set o.dst (.one (.int .i64 (min b.length (partLen s id p) : Nat))))
         | none => none) else none
       | _, _, _ => none
     | _, _ => none
   | .builtin .max => match evalAll s.env c.args.toList with
     | some (.one (.int j a) :: vs) => maxK (fun r => k (s.set o.dst r)) j a vs
     | _ => none
   | .builtin .min => match evalAll s.env c.args.toList with
     | some (.one (.int j a) :: vs) => minK (fun r => k (s.set o.dst r)) j a vs
     | _ => none
   | .value f => match evalO s.env f, evalAll s.env c.args.toList with
     | some v, some vs => callK cx v vs s fun r s' => k (s'.set o.dst r)
     | _, _ => none
   | .invoke x name => match evalO s.env x, evalAll s.env c.args.toList with
     | some v, some vs => invokeK cx name v vs s fun r s' => k (s'.set o.dst r)
     | _, _ => none
   | _ => none
 | .makeInterface t x => match cx.tab t, evalO s.env x with
   | some (.leaf (.int j _)), some (.one (.int j' n)) => k (s.set o.dst (.one (.ifi t j' n)))
   | some (.leaf .nilp), some (.one (.ptr id off)) => k (s.set o.dst (.one (.ifp t id off)))
   | _, _ => none
 | .typeAssert x _ t false => match cx.tab t, evalO s.env x with
   | some (.leaf (.int j _)), some (.one (.ifi t' j' n)) => bif Nat.beq t' t then k (s.set o.dst (.one (.int j' n))) else none
   | _, _ => none
 | _ => none
def guardK (b want : Bool) (d : Nat) (dst : Option Nat) (s : St) (yes no : St → Option R) : Option R :=
 match b, want with
 | true, true => yes (s.set (some d) (.one (.bool true)))
 | false, false => yes (s.set (some d) (.one (.bool false)))
 | true, false => no ((s.set (some d) (.one (.bool true))).set dst .skip)
 | false, true => no ((s.set (some d) (.one (.bool false))).set dst .skip)
def evOps (cx : Cx) (all : List Oper) : List Oper → St → (St → Option R) → Option R
 | [], s, k => k s
 | o :: r, s, k => match o.guard with
   | none => stepK cx o s fun s' => evOps cx all r s' k
   | some (j, want) => match (nth all j).bind (·.dst) with
     | some d => match look s.env d with
       | some (.one (.bool b)) => bif b
          then guardK true want d o.dst s (fun s => stepK cx o s fun s' => evOps cx all r s' k) (fun s => evOps cx all r s k)
          else guardK false want d o.dst s (fun s => stepK cx o s fun s' => evOps cx all r s' k) (fun s => evOps cx all r s k)
       | some .skip => evOps cx all r (s.set o.dst .skip) k
       | _ => none
     | none => none
def evOp1 (cx : Cx) (all : List Oper) (o : Oper) (s : St) (k : St → Option R) : Option R := match o.guard with
 | none => stepK cx o s k
 | some (j, want) => match (nth all j).bind (·.dst) with
   | some d => match look s.env d with
     | some (.one (.bool b)) => bif b then guardK true want d o.dst s (fun s => stepK cx o s k) k else guardK false want d o.dst s (fun s => stepK cx o s k) k
     | some .skip => k (s.set o.dst .skip)
     | _ => none
   | none => none
def stableOp (o : Oper) (s : St) : Bool := match o.op with
 | .move _ | .assign _ | .pick _ _ _ | .binOp _ _ _ _ _ | .unOp _ _ _ | .field _ _ _ | .fieldAddr _ _ _ | .extract _ _ | .nilCheck _ | .index _ _ _ | .indexAddr _ _ _ | .build _ _ => true
 | .slice _ _ _ _ none => true
 | .convert _ _ x => match evalO s.env x with
   | some (.one (.int _ _)) => true
   | _ => false
 | .makeFunc (.func _) _ _ => true
 | .load _ a => match evalO s.env a with
   | some (.one (.ptr id _)) => s.held id
   | some (.one (.eptr id _ _)) => s.held id || (match look s.heap id with
     | some (.frz _ _) => true
     | _ => false)
   | some (.one (.vptr _ _ _)) => true
   | _ => false
 | .lookup _ a _ _ => match evalO s.env a with
   | some (.one (.mp id)) => s.held id
   | _ => false
 | .call c => match c.callee with
   | .builtin .len => match c.args.toList with
     | [x] => match evalO s.env x with
       | some (.one (.mp _)) => false
       | _ => true
     | _ => true
   | .builtin .max | .builtin .min => true
   | _ => false
 | _ => false
def stepT (cx : Cx) (o : Oper) (s : St) (k : St → Option R) : Option R := bif stableOp o s then stepK cx o s k else none
def evOpT (cx : Cx) (all : List Oper) (o : Oper) (s : St) (k : St → Option R) : Option R := match o.guard with
 | none => stepT cx o s k
 | some (j, want) => match (nth all j).bind (·.dst) with
   | some d => match look s.env d with
     | some (.one (.bool b)) => bif b then guardK true want d o.dst s (fun s => stepT cx o s k) k else guardK false want d o.dst s (fun s => stepT cx o s k) k
     | some .skip => k (s.set o.dst .skip)
     | _ => none
   | none => none
noncomputable def agree (x y : Option R) : Option R := by classical exact if x = y then x else none
theorem agree_some {x y : Option R} {r : R} (h : agree x y = some r) : x = some r ∧ y = some r := by
 unfold agree at h
 split at h
 · rename_i e; exact ⟨h, e ▸ h⟩
 · cases h
theorem agree_self (x : Option R) : agree x x = x := by unfold agree; rw [if_pos rfl]
noncomputable def agN : Nat → Option R → Option R
 | 0, x => x
 | n + 1, x => agree x (agN n x)
theorem agN_eq : ∀ (n : Nat) (x : Option R), agN n x = x
 | 0, _ => rfl
 | n + 1, x => by rw [agN, agN_eq n x, agree_self]
def keysOf : List (Nat × SObj) → List Nat
 | [] => []
 | (id, _) :: r => id :: keysOf r
def rowsFree (s : St) : Bool := (keysOf s.heap).all fun id => match look s.heap id with
 | some (.rows _ _ _) => !s.held id
 | some (.mrows _ _ _ _) => !s.held id
 | _ => true
noncomputable def evOrd (cx : Cx) (all : List Oper) : OrdT → St → (St → Option R) → Option R
 | .done, s, k => k s
 | .take i t, s, k => match nth all i with
   | some o => evOpT cx all o s (fun s' => evOrd cx all t s' k)
   | none => none
 | .only i t, s, k => match nth all i with
   | some o => bif rowsFree s then evOp1 cx all o s (fun s' => evOrd cx all t s' k) else none
   | none => none
 | .alt i t r, s, k => match nth all i with
   | some o => bif rowsFree s then agree (evOp1 cx all o s (fun s' => evOrd cx all t s' k)) (evOrd cx all r s k) else none
   | none => none
def optId : List (Option Nat) → List Nat
 | [] => []
 | some id :: r => id :: optId r
 | none :: r => optId r
def leafObjs : Leaf → List Nat
 | .ptr id _ | .eptr id _ _ | .sl id _ | .ifp _ id _ | .mp id => [id]
 | .fn _ a b => optId a ++ optId b
 | _ => []
def leavesObjs : List Leaf → List Nat
 | [] => []
 | l :: r => leafObjs l ++ leavesObjs r
def svalObjs : SVal → List Nat
 | .one l => leafObjs l
 | .agg ls => leavesObjs ls
 | _ => []
def objObjs : Option SObj → List Nat
 | some (.box ls) => leavesObjs ls
 | some (.cells ls) => leavesObjs ls
 | some (.zip _ _ ls _) => leavesObjs ls
 | _ => []
def slotObjs (env : List (Nat × SVal)) : List Nat → List Nat
 | [] => []
 | t :: r => (match look env t with
   | some v => svalObjs v
   | none => []) ++ slotObjs env r
def reach (hp : List (Nat × SObj)) : Nat → List Nat → List Nat
 | 0, l => l
 | n + 1, l => l ++ reach hp n (l.flatMap fun id => objObjs (look hp id))
def without (x : List Nat) : List Nat → List Nat
 | [] => []
 | id :: r => bif has x id then without x r else id :: without x r
def holdAll (slots : List Nat) (s : St) : St := { s with hold := without (reach s.heap 3 (slotObjs s.env slots)) (keysOf s.heap) }
noncomputable def evDraw (cx : Cx) (slots : List Nat) (t : OrdT) (ops : List Oper) (s : St) (k : St → Option R) : Option R :=
 evOrd cx ops t (holdAll slots s) fun s' => k { s' with hold := [] }
def inSt (slots : List Nat) (T : Tm) (ds : List Dyn) : St := { env := slots.zip (T.vals ds), heap := T.heap ds, next := T.objs.length, hold := [] }
def keepEnv (env : List (Nat × SVal)) : List Nat → List (Nat × SVal)
 | [] => []
 | t :: r => match look env t with
   | some v => (t, v) :: keepEnv env r
   | none => keepEnv env r
def afterSt (T : Tm) (ρ : Rho) (keep slots : List Nat) (T' : Tm) (ds : List Dyn) (s : St) : St :=
 { backSt T ρ T' ds s with env := slots.zip (backVals T ρ T' ds s) ++ keepEnv s.env keep }
def leaveBlk (T : Tm) (ρ : Rho) (keep : List Nat) (s : St) : (l : List (Ex × List Nat × Tm)) → (exitsT l).denote → (Ex → St → Option R) → Option R
 | [], _, _ => none
 | [(e, slots, T')], y, k => k e (afterSt T ρ keep slots T' (fromD T'.cts y) s)
 | (e, slots, T') :: b :: r, y, k => match y with
   | .inl a => k e (afterSt T ρ keep slots T' (fromD T'.cts a) s)
   | .inr c => leaveBlk T ρ keep s (b :: r) c k
def enterBlk (cx : Cx) (κ : Nat) (s : St) (k : Ex → St → Option R) : Option R :=
 match lookAll s.env (cx.bk κ).slots with
 | some vs => match packIn (cx.bk κ).ins vs s with
   | some (d, ρ, s1) => (cx.rb κ d).bind fun y => leaveBlk (cx.bk κ).ins ρ (cx.bk κ).keep s1 (cx.bk κ).exits y k
   | none => none
 | none => none
def firstRegion : Code → Option Nat
 | .region id _ _ => some id
 | .seq a b => firstRegion a
 | .block _ c => firstRegion c
 | .loop c => firstRegion c
 | _ => none
def loopU (body : St → (Ex → St → Option R) → Option R) : Nat → St → (Ex → St → Option R) → Option R
 | 0, _, _ => none
 | n + 1, s, k => body s fun e s' => match e with
   | .norm => loopU body n s' k
   | .out id => k (.out id) s'
   | .ret => k .ret s'
noncomputable def ev (cx : Cx) (H : Hn) : Code → St → (Ex → St → Option R) → Option R
 | .skip, s, k => k .norm s
 | .region _ ops false, s, k => evOps cx ops.toList ops.toList s (k .norm)
 | .region id ops true, s, k => match H.dk id with
   | some (slots, t) => evDraw cx slots t ops.toList s (k .norm)
   | none => none
 | .seq a b, s, k => ev cx H a s fun e s' => match e with
   | .norm => match (firstRegion b).bind H.tk with
     | some κ => enterBlk cx κ s' k
     | none => ev cx H b s' k
   | .out id => k (.out id) s'
   | .ret => k .ret s'
 | .cond c a b, s, k => match evalO s.env c with
   | some (.one (.bool t)) => bif t then ev cx H a s k else ev cx H b s k
   | some (.one .anyb) => agree (ev cx H a s k) (ev cx H b s k)
   | _ => none
 | .block id c, s, k => match H.lk id with
   | some κ => enterBlk cx κ s k
   | none => ev cx H c s fun e s' => match e with
     | .out id' => bif Nat.beq id' id then k .norm s' else k (.out id') s'
     | .norm => k .norm s'
     | .ret => k .ret s'
 | .loop c, s, k => loopU (ev cx H c) 16 s k
 | .exit id, s, k => k (.out id) s
 | .ret, s, k => k .ret s
 | _, _, _ => none
def packExit (ρ0 : Rho) : (l : List (Ex × List Nat × Tm)) → Ex → St → Option (exitsT l).denote
 | [], _, _ => none
 | [(e, slots, T)], e', s => if e = e' then
     match lookAll s.env slots with
     | some vs => match packD T ρ0 vs s with
       | some (d, _, _) => some d
       | none => none
     | none => none
   else none
 | (e, slots, T) :: b :: r, e', s => match (if e = e' then
     match lookAll s.env slots with
     | some vs => packD T ρ0 vs s
     | none => none
   else none) with
   | some (d, _, _) => some (.inl d)
   | none => match packExit ρ0 (b :: r) e' s with
     | some d => some (.inr d)
     | none => none
inductive BCode where
 | loop (id : Nat) (body : Code)
 | tail (c : Code)
noncomputable def evBlk (cx : Cx) (H : Hn) (κ : Nat) (c : BCode) (d : (cx.bk κ).ins.ct.denote) : Option (exitsT (cx.bk κ).exits).denote :=
 match c with
 | .tail c => ev cx H c (inSt (cx.bk κ).slots (cx.bk κ).ins (fromD (cx.bk κ).ins.cts d)) fun e s => packExit (stayRho 0 (cx.bk κ).ins.objs) (cx.bk κ).exits e s
 | .loop id c => ev cx H c (inSt (cx.bk κ).slots (cx.bk κ).ins (fromD (cx.bk κ).ins.cts d)) fun e s => match e with
   | .norm => match lookAll s.env (cx.bk κ).slots with
     | some vs => match packD (cx.bk κ).ins (stayRho 0 (cx.bk κ).ins.objs) vs s with
       | some (d, _, _) => cx.rb κ d
       | none => match H.al κ with
         | some κ2 => enterBlk cx κ2 s fun e' s' => packExit (stayRho 0 (cx.bk κ).ins.objs) (cx.bk κ).exits e' s'
         | none => none
     | none => none
   | .out id' => bif Nat.beq id' id then packExit (stayRho 0 (cx.bk κ).ins.objs) (cx.bk κ).exits .norm s else packExit (stayRho 0 (cx.bk κ).ins.objs) (cx.bk κ).exits (.out id') s
   | .ret => packExit (stayRho 0 (cx.bk κ).ins.objs) (cx.bk κ).exits .ret s
def resultOf (cx : Cx) (s : St) : ResultVar → Option SVal
 | .tmp t => look s.env t
 | .cell a t => match cx.tab t, look s.env a with
   | some td, some v => loadK s td v some
   | _, _ => none
def resultsOf (cx : Cx) (s : St) : List ResultVar → Option (List SVal)
 | [] => some []
 | r :: rs => match resultOf cx s r, resultsOf cx s rs with
   | some x, some y => some (x :: y)
   | _, _ => none
def packOut (ρ0 : Rho) : (l : List Tm) → List SVal → St → Option (outsT l).denote
 | [], _, _ => none
 | [T], vs, s => match packD T ρ0 vs s with
   | some (d, _, _) => some d
   | none => none
 | T :: b :: r, vs, s => match packD T ρ0 vs s with
   | some (d, _, _) => some (.inl d)
   | none => match packOut ρ0 (b :: r) vs s with
     | some d => some (.inr d)
     | none => none
noncomputable def evFn (cx : Cx) (H : Hn) (φ : Nat) (c : Code) (rs : List ResultVar) (d : (cx.kin φ).ct.denote) : Option (outsT (cx.kouts φ)).denote :=
 ev cx H c (inSt (List.range (cx.kin φ).slots.length) (cx.kin φ) (fromD (cx.kin φ).cts d)) fun e s =>
  match e with
  | .out _ => none
  | _ => match resultsOf cx s rs with
    | some vs => packOut (stayRho 0 (cx.kin φ).objs) (cx.kouts φ) vs s
    | none => none
end Go.Bm
