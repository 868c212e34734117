/-
  OUR OWN: expressions as lists of nodes, in plain terms.
-/
import Derived.Test.YtoippcahbninnaaGreatDoorBmPl
namespace Go.Bm
set_option linter.unusedVariables false
set_option linter.unusedSimpArgs false

/-- A node: operator, three operands, a number, a name. -/
abbrev Nd : Type := Int × Int × Int × Int × Int × List UInt8

instance decNd : DecidableEq Nd := @instDecidableEqProd Int (Int × Int × Int × Int × List UInt8) inferInstance inferInstance
instance decNds : DecidableEq (List Nd) := @instDecidableEqList Nd decNd

def kids (n : Nd) : List Int :=
  if n.1 = 26 then [n.2.1, n.2.2.1, n.2.2.2.1] else
  if n.1 = 28 ∧ n.2.2.1 ≠ -1 then [n.2.2.1, n.2.1] else
  if n.1 = 27 ∧ n.2.1 = -1 then [] else
  if 6 ≤ n.1 ∧ n.1 ≤ 20 then [n.2.1, n.2.2.1] else
  if n.1 = 4 ∨ n.1 = 5 ∨ (21 ≤ n.1 ∧ n.1 ≤ 28) then [n.2.1] else []

def aim (n : Nd) : List Int → Nd
  | [] => n
  | [a] => (n.1, a, n.2.2)
  | [a, b] => if n.1 = 28 then (n.1, b, a, n.2.2.2) else (n.1, a, b, n.2.2.2)
  | a :: b :: c :: _ => (n.1, a, b, c, n.2.2.2.2)

def mostN (op : Int) : Int := if op = 1 then 2147483647 else if op = 2 then 1 else if op = 25 then 1000 else 0

/-- May a node be, wherever it is? -/
def nodeB (n : Nd) : Bool := decide (1 ≤ n.1 ∧ n.1 ≤ 28 ∧ n = aim (n.1, -1, -1, -1, n.2.2.2.2) (kids n) ∧ 0 ≤ n.2.2.2.2.1 ∧ n.2.2.2.2.1 ≤ mostN n.1 ∧ (n.2.2.2.2.2 ≠ [] ↔ (n.1 = 3 ∨ n.1 = 27)))

def shift (by_ : Int) (x : Int) : Int := if 0 ≤ x then IntKind.i64.wrap (x + by_) else x
def mv (by_ : Int) (n : Nd) : Nd := (n.1, shift by_ n.2.1, shift by_ n.2.2.1, shift by_ n.2.2.2.1, n.2.2.2.2)

/-- Where a thing first is among some. -/
def place {α : Type} [DecidableEq α] (x : α) : List α → Nat → Option Nat
  | [], _ => none
  | y :: r, i => if x = y then some i else place x r (i + 1)

theorem kids_len (n : Nd) : (kids n).length ≤ 3 := by
  unfold kids; repeat' split
  all_goals simp

end Go.Bm
