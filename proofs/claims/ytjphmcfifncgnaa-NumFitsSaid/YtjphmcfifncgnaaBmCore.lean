/-
  OUR OWN: a small interpreter over plain data for the code of a loaded program: its definitions. What it says of the model is proved in the texts behind it. Nothing here is trusted.
-/
import GoSem.Core.Code
import GoSem.Core.Program
namespace Go.Bm
set_option linter.unusedVariables false

/-- What one cell of plain data holds; 'prod': a row of cells, the head first. -/
inductive CT where
  | unit | int (k : IntKind) | bool | str | list (e : CT) | prod (a b : CT) | sum (a b : CT)
  deriving DecidableEq, Repr

@[reducible] def CT.denote : CT → Type
  | .unit => Unit
  | .int _ => Int
  | .bool => Bool
  | .str => List UInt8
  | .list e => List e.denote
  | .prod a b => a.denote × b.denote
  | .sum a b => a.denote ⊕ b.denote

def CT.zero : (t : CT) → t.denote
  | .unit => ()
  | .int _ => (0 : Int)
  | .bool => false
  | .str => ([] : List UInt8)
  | .list e => ([] : List e.denote)
  | .prod a b => (a.zero, b.zero)
  | .sum a b => .inl a.zero

/-- How many cells. -/
def CT.size : CT → Nat
  | .unit => 0
  | .prod _ b => 1 + b.size
  | _ => 1

/-- What a slot or a cell holds, as plain data. -/
inductive Leaf where
  | undef
  | int (k : IntKind) (x : Int)
  | bool (b : Bool)
  | str (s : List UInt8)
  | list (e : CT) (l : List e.denote)
  | nils
  | ptr (id off : Nat)
  | eptr (id i off : Nat)
  | vptr (e : CT) (x : e.denote) (off : Nat)
  | sl (id : Nat) (r : Option (Nat × Nat))   -- a slice of an object's row: all of it, or from where and how many

inductive SVal where
  | one (l : Leaf)
  | agg (cs : List Leaf)
  | skip                                 -- a guarded operation that was not done
  | tup (ps : List (List Leaf × Bool))   -- the parts of several results: cells, and is it an aggregate

inductive SObj where
  | box (cs : List Leaf)      -- a variable
  | cells (cs : List Leaf)    -- a slice's row of what is no plain data
  | arr (e : CT) (l : List e.denote)
  | frz (e : CT) (l : List e.denote)
  | dead

structure St where
  env : List (Nat × SVal)
  heap : List (Nat × SObj)
  next : Nat

def look {α : Type} : List (Nat × α) → Nat → Option α
  | [], _ => none
  | (k, v) :: r, n => bif Nat.beq k n then some v else look r n

def St.set (s : St) (dst : Option Nat) (v : SVal) : St :=
  match dst with
  | some d => { s with env := (d, v) :: s.env }
  | none => s
def St.put (s : St) (id : Nat) (o : SObj) : St := { s with heap := (id, o) :: s.heap }
def St.new (s : St) (o : SObj) : St := { s with heap := (s.next, o) :: s.heap, next := s.next + 1 }

/-- What is said of a type by its number. -/
inductive TD where
  | leaf (z : Leaf)                                          -- one cell, no struct, no array: its zero
  | struct (fs : List (Nat × Nat × Bool)) (zs : List Leaf)   -- of each field: where, how many cells, is it an aggregate; the zeros
  | slice (e : CT) (n : Nat)                                 -- a slice's own type: its element's layout; its element's number
  deriving Inhabited

instance : Inhabited Leaf := ⟨.undef⟩
def Leaf.def : Leaf → Bool
  | .undef => false
  | _ => true

/-- A part of a list. -/
def sub {α : Type} (l : List α) (r : Option (Nat × Nat)) : List α :=
  match r with
  | none => l
  | some (off, len) => (l.drop off).take len

/-- A cell's plain datum, if it is of that kind. What was owned is owned no more: it can no longer be turned. -/
def pack1 (t : CT) (v : Leaf) (s : St) : Option (t.denote × St) :=
  match t, v with
  | .int k, .int k' x => if k = k' then some (x, s) else none
  | .bool, .bool b => some (b, s)
  | .str, .str x => some (x, s)
  | .list e, .list e' l => if h : e' = e then some ((h ▸ l : List e.denote), s) else none
  | .list e, .nils => some (([] : List e.denote), s)
  | .list e, .sl id r => match look s.heap id with
    | some (.arr e' l) => if h : e' = e then some (sub (h ▸ l : List e.denote) r, s.put id (.frz e' l)) else none
    | some (.frz e' l) => if h : e' = e then some (sub (h ▸ l : List e.denote) r, s) else none
    | _ => none
  | _, _ => none

def packL : (t : CT) → List Leaf → St → Option (t.denote × St)
  | .prod a b, v :: vs, s => match pack1 a v s with
    | some (x, s') => match packL b vs s' with
      | some (y, s'') => some ((x, y), s'')
      | none => none
    | none => none
  | .unit, [], s => some ((), s)
  | .int k, [v], s => pack1 (.int k) v s
  | .bool, [v], s => pack1 .bool v s
  | .str, [v], s => pack1 .str v s
  | .list e, [v], s => pack1 (.list e) v s
  | _, _, _ => none

def unpack1 : (t : CT) → t.denote → Leaf
  | .int k, x => .int k x
  | .bool, b => .bool b
  | .str, s => .str s
  | .list e, l => .list e l
  | _, _ => .undef

def unpackL : (t : CT) → t.denote → List Leaf
  | .prod a b, x => unpack1 a x.1 :: unpackL b x.2
  | .unit, _ => []
  | .int k, x => [.int k x]
  | .bool, b => [.bool b]
  | .str, s => [.str s]
  | .list e, l => [.list e l]
  | .sum _ _, _ => []

/-- Rows of cells as plain data. -/
def packRows (e : CT) : List (List Leaf) → St → Option (List e.denote × St)
  | [], s => some ([], s)
  | r :: rs, s => match packL e r s with
    | some (x, s') => match packRows e rs s' with
      | some (y, s'') => some (x :: y, s'')
      | none => none
    | none => none

/-- The shape of a cell of a struct in memory, of a slot: plain; a slice that is owned. -/
inductive Cell where
  | pl (t : CT)
  | own (e : CT)
def Cell.ct : Cell → CT
  | .pl t => t
  | .own e => .list e

/-- The shape of a slot: one cell; a struct's value; a pointer to a struct of the call's own (it is handed over, and back); the same as what an earlier slot of the list holds. -/
inductive Sh where
  | c (x : Cell)
  | agg (t : CT)
  | ptr (cs : List Cell)
  | same (j : Nat)

def prods : List CT → CT
  | [] => .unit
  | [a] => a
  | a :: b :: r => .prod a (prods (b :: r))

def consD (a : CT) (l : List CT) (x : a.denote) (y : (prods l).denote) : (prods (a :: l)).denote :=
  match l, y with
  | [], _ => x
  | _ :: _, y => (x, y)
def headD (a : CT) (l : List CT) (d : (prods (a :: l)).denote) : a.denote :=
  match l, d with
  | [], d => d
  | _ :: _, d => d.1
def tailD (a : CT) (l : List CT) (d : (prods (a :: l)).denote) : (prods l).denote :=
  match l, d with
  | [], _ => ()
  | _ :: _, d => d.2

def cellCts (l : List Cell) : List CT := l.map Cell.ct

def Sh.ct : Sh → CT
  | .c x => x.ct
  | .agg t => t
  | .ptr cs => prods (cellCts cs)
  | .same _ => .unit

def shCts (l : List Sh) : List CT := l.map Sh.ct

def packOwn (e : CT) (v : Leaf) (s : St) : Option (List e.denote × St) :=
  match v with
  | .nils => some ([], s)
  | .sl id none => match look s.heap id with
    | some (.arr e' l) => if h : e' = e then some ((h ▸ l : List e.denote), s.put id .dead) else none
    | _ => none
  | _ => none

def packCell (x : Cell) (v : Leaf) (s : St) : Option (x.ct.denote × St) :=
  match x with
  | .pl t => pack1 t v s
  | .own e => packOwn e v s

def packCells : (xs : List Cell) → List Leaf → St → Option ((prods (cellCts xs)).denote × St)
  | [], [], s => some ((), s)
  | x :: r, v :: vs, s => match packCell x v s with
    | some (d, s') => match packCells r vs s' with
      | some (ds, s'') => some (consD x.ct (cellCts r) d ds, s'')
      | none => none
    | none => none
  | _, _, _ => none

/-- One slot, handed over; beside it the number of the struct that is handed over with it. -/
def packSh (x : Sh) (v : SVal) (s : St) : Option (x.ct.denote × St × List Nat) :=
  match x with
  | .c x => match v with
    | .one v => match packCell x v s with
      | some (d, s') => some (d, s', [])
      | none => none
    | _ => none
  | .agg t => match v with
    | .agg cs => match packL t cs s with
      | some (d, s') => some (d, s', [])
      | none => none
    | _ => none
  | .ptr xs => match v with
    | .one (.ptr id 0) => match look s.heap id with
      | some (.box cs) => match packCells xs cs (s.put id .dead) with
        | some (d, s') => some (d, s', [id])
        | none => none
      | _ => none
    | _ => none
  | .same _ => some ((), s, [])

def nth {α : Type} : List α → Nat → Option α
  | [], _ => none
  | x :: _, 0 => some x
  | _ :: r, n + 1 => nth r n

/-- Slots, handed over. -/
def packShs : (xs : List Sh) → List SVal → St → Option ((prods (shCts xs)).denote × St × List Nat)
  | [], [], s => some ((), s, [])
  | x :: r, v :: vs, s => match packSh x v s with
    | some (d, s', is) => match packShs r vs s' with
      | some (ds, s'', js) => some (consD x.ct (shCts r) d ds, s'', is ++ js)
      | none => none
    | none => none
  | _, _, _ => none

/-- Do two slots hold the same slice, or the same pointer, of an object that is there? -/
def sameSl (s : St) : Option SVal → SVal → Bool
  | some (.one (.sl i none)), .one (.sl j none) => Nat.beq i j && (match look s.heap i with
    | some (.arr _ _) => true
    | _ => false)
  | some (.one (.ptr i p)), .one (.ptr j q) => Nat.beq i j && Nat.beq p q
  | _, _ => false

def sameK (s : St) (all : List SVal) : List Sh → List SVal → Bool
  | .same j :: r, v :: vs => sameSl s (nth all j) v && sameK s all r vs
  | _ :: r, _ :: vs => sameK s all r vs
  | [], [] => true
  | _, _ => false

def packAll (xs : List Sh) (vs : List SVal) (s : St) : Option ((prods (shCts xs)).denote × St × List Nat) :=
  bif sameK s vs xs vs then packShs xs vs s else none

def unpackCell : (x : Cell) → x.ct.denote → St → Leaf × St
  | .pl t, d, s => (unpack1 t d, s)
  | .own e, l, s => (.sl s.next none, s.new (.arr e l))

def unpackCells : (xs : List Cell) → (prods (cellCts xs)).denote → St → List Leaf × St
  | [], _, s => ([], s)
  | x :: r, d, s => ((unpackCell x (headD x.ct (cellCts r) d) s).1 :: (unpackCells r (tailD x.ct (cellCts r) d) (unpackCell x (headD x.ct (cellCts r) d) s).2).1,
      (unpackCells r (tailD x.ct (cellCts r) d) (unpackCell x (headD x.ct (cellCts r) d) s).2).2)

/-- One slot, taken up. 'done': the values that stand already, the first first. -/
def unpackSh (done : List SVal) (x : Sh) (d : x.ct.denote) (s : St) : SVal × St :=
  match x, d with
  | .c x, d => (.one (unpackCell x d s).1, (unpackCell x d s).2)
  | .agg t, d => (.agg (unpackL t d), s)
  | .ptr xs, d => (.one (.ptr (unpackCells xs d s).2.next 0), (unpackCells xs d s).2.new (.box (unpackCells xs d s).1))
  | .same j, _ => ((nth done j).getD (.one .undef), s)

/-- Slots, taken up. -/
def unpackShs : (xs : List Sh) → (done : List SVal) → (prods (shCts xs)).denote → St → List SVal × St
  | [], done, _, s => (done, s)
  | x :: r, done, d, s => unpackShs r (done ++ [(unpackSh done x (headD x.ct (shCts r) d) s).1]) (tailD x.ct (shCts r) d) (unpackSh done x (headD x.ct (shCts r) d) s).2

def ofConst : Value → Option Leaf
  | .bool b => some (.bool b)
  | .int k n => some (.int k n)
  | .string s => some (.str s.data.toList)
  | .slice none 0 0 => some .nils
  | _ => none

def ofConsts : List Value → Option (List Leaf)
  | [] => some []
  | v :: r => match ofConst v, ofConsts r with
    | some x, some y => some (x :: y)
    | _, _ => none

def ofValue : Value → Option SVal
  | .agg cs => (ofConsts cs.toList).map .agg
  | v => (ofConst v).map .one

def evalO (env : List (Nat × SVal)) : Operand → Option SVal
  | .tmp t => look env t
  | .const v => ofValue v
  | _ => none

/-- The largest length of what is made. -/
def most : Nat := 274877906944

end Go.Bm
