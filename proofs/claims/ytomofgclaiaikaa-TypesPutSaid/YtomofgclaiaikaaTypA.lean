/-
  OUR OWN: what the functions of package types come to, in plain Lean: the type of a node; of an expression.
-/
import Derived.Test.YtomofgclaiaikaaTreeI
namespace Go.Proofs.Ytomofgclaiaikaa.R
open Go Go.Bm Go.Proofs
set_option linter.unusedVariables false
set_option linter.unusedSimpArgs false
set_option maxRecDepth 4000

abbrev Pm : Type := List UInt8 × Int
abbrev It : Type := Int × List UInt8 × Int × List Nd × List Nd × List (List Nd)
abbrev Un : Type := Bool × List UInt8 × List (List UInt8 × Int) × List UInt8 × Int × List (List UInt8 × Int) × List (List UInt8 × List Nd) × List It

/-- Where the first one is that is so. -/
def findI {α : Type} (p : α → Bool) : List α → Nat → Option Nat
  | [], _ => none
  | x :: r, i => bif p x then some i else findI p r (i + 1)
def findX {α : Type} (p : α → Bool) : List α → Option α
  | [] => none
  | x :: r => bif p x then some x else findX p r

theorem findI_spec {α : Type} (p : α → Bool) : ∀ (l pre : List α), match findI p l pre.length with
    | some i => pre.length ≤ i ∧ i < pre.length + l.length ∧ ∃ x, nth (pre ++ l) i = some x ∧ findX p l = some x
    | none => findX p l = none
  | [], pre => rfl
  | x :: l, pre => by
    have ih := findI_spec p l (pre ++ [x])
    rw [show (pre ++ [x]).length = pre.length + 1 by simp, List.append_assoc, List.singleton_append] at ih
    rw [findI, findX]
    cases p x
    · simp only [cond_false]
      cases hf : findI p l (pre.length + 1) with
      | none => rw [hf] at ih; exact ih
      | some i =>
        rw [hf] at ih
        obtain ⟨h1, h2, y, h3, h4⟩ := ih
        exact ⟨by omega, by simp; omega, y, h3, h4⟩
    · simp only [cond_true]
      exact ⟨Nat.le_refl _, by simp, x, by rw [nth_getElem?]; simp, rfl⟩

def isP (s : List UInt8) (p : Pm) : Bool := p.1 == s
def isU (s : List UInt8) (u : Un) : Bool := bif u.2.1 == s then !u.1 else false

theorem IndexP_loop (n : Nd) : ∀ (suf pre : List Pm), pre.length + suf.length ≤ 1000000 →
    k54 T.rb n (pre ++ suf) ((pre ++ suf).length : Nat) (pre.length : Nat) = some (match findI (isP n.2.2.2.2.2) suf pre.length with
      | some i => .inl (n, ((i : Nat) : Int))
      | none => .inr n)
  | [], pre, h => ob54 (by
    simp only [b54, lt_end, lt_self, List.append_nil, cond_false]; rfl)
  | x :: suf, pre, h => ob54 (by
    simp only [List.length_cons] at h
    have ih := IndexP_loop n suf (pre ++ [x]) (by simp; omega)
    simp only [List.append_assoc, List.singleton_append] at ih
    rw [show (pre ++ [x]).length = pre.length + 1 by simp] at ih
    have h1 : c57 T.rf n x = some (n, isP n.2.2.2.2.2 x) := or57 rfl
    simp only [b54, lt_mid, inb_mid, nth_mid, cond_true, Option.bind_some, h1, wr_succ (show pre.length < 4611686018427387904 by omega), ih, findI]
    cases isP n.2.2.2.2.2 x <;> rfl)
theorem IndexP_eq {n : Nd} {l : List Pm} (h : l.length ≤ 1000000) : c56 T.rf n l = some (n, match findI (isP n.2.2.2.2.2) l 0 with
      | some i => ((i : Nat) : Int)
      | none => -1) := or56 (by
  have := IndexP_loop n l [] (by simpa using h)
  simp only [List.nil_append, List.length_nil] at this
  rw [show ((0 : Nat) : Int) = (0 : Int) from rfl] at this
  simp only [r56, this, Option.bind_some]
  cases findI (isP n.2.2.2.2.2) l 0 <;> rfl)

theorem IndexU_loop (n : Nd) : ∀ (suf pre : List Un), pre.length + suf.length ≤ 1000000 →
    k55 T.rb n (pre ++ suf) ((pre ++ suf).length : Nat) (pre.length : Nat) = some (match findI (isU n.2.2.2.2.2) suf pre.length with
      | some i => .inl (n, ((i : Nat) : Int))
      | none => .inr n)
  | [], pre, h => ob55 (by
    simp only [b55, lt_end, lt_self, List.append_nil, cond_false]; rfl)
  | x :: suf, pre, h => ob55 (by
    simp only [List.length_cons] at h
    have ih := IndexU_loop n suf (pre ++ [x]) (by simp; omega)
    simp only [List.append_assoc, List.singleton_append] at ih
    rw [show (pre ++ [x]).length = pre.length + 1 by simp] at ih
    have h1 : c59 T.rf n x = some (n, isU n.2.2.2.2.2 x) := or59 (by
      simp only [r59, isU]
      cases x.2.1 == n.2.2.2.2.2 <;> rfl)
    simp only [b55, lt_mid, inb_mid, nth_mid, cond_true, Option.bind_some, h1, wr_succ (show pre.length < 4611686018427387904 by omega), ih, findI]
    cases isU n.2.2.2.2.2 x <;> rfl)
theorem IndexU_eq {n : Nd} {l : List Un} (h : l.length ≤ 1000000) : c58 T.rf n l = some (n, match findI (isU n.2.2.2.2.2) l 0 with
      | some i => ((i : Nat) : Int)
      | none => -1) := or58 (by
  have := IndexU_loop n l [] (by simpa using h)
  simp only [List.nil_append, List.length_nil] at this
  rw [show ((0 : Nat) : Int) = (0 : Int) from rfl] at this
  simp only [r58, this, Option.bind_some]
  cases findI (isU n.2.2.2.2.2) l 0 <;> rfl)

/-! ### Turned round -/
theorem setNth_mid {α : Type} (a : List α) (x : α) (r : List α) (y : α) : setNth (a ++ x :: r) a.length y = a ++ y :: r := by
  rw [setNth_set, List.set_append_right _ _ (Nat.le_refl _), Nat.sub_self, List.set_cons_zero]

theorem Reverse_loop : ∀ (m : Nat) (M A B : List Int), M.length = m → A.length + M.length + B.length ≤ 1000000 →
    k61 T.rb (A ++ (M ++ B)) (A.length : Nat) ((A.length : Int) + M.length - 1) = some (A ++ (M.reverse ++ B))
  | 0, [], A, B, hm, h => ob61 (by
    simp only [b61, List.length_nil]
    rw [df (by omega), cond_false]; rfl)
  | 1, [x], A, B, hm, h => ob61 (by
    simp only [b61, List.length_cons, List.length_nil]
    rw [df (by omega), cond_false]; rfl)
  | m + 2, M, A, B, hm, h => by
    obtain ⟨x, M1, rfl⟩ : ∃ x M1, M = x :: M1 := by cases M with
      | nil => simp at hm
      | cons x M1 => exact ⟨x, M1, rfl⟩
    have hM1 : M1 ≠ [] := by rintro rfl; simp at hm
    obtain ⟨M2, y, rfl⟩ : ∃ M2 y, M1 = M2 ++ [y] := ⟨M1.dropLast, M1.getLast hM1, (List.dropLast_concat_getLast hM1).symm⟩
    simp only [List.length_cons, List.length_append, List.length_nil] at hm h
    have ih := Reverse_loop m M2 (A ++ [y]) (x :: B) (by omega) (by simp; omega)
    refine ob61 ?_
    have e0 : A ++ (x :: (M2 ++ [y]) ++ B) = A ++ x :: (M2 ++ y :: B) := by simp
    have hlen : (A ++ x :: (M2 ++ y :: B)).length = A.length + M2.length + B.length + 2 := by simp; omega
    have ej : (A.length : Int) + ((x :: (M2 ++ [y])).length : Nat) - 1 = ((A.length + M2.length + 1 : Nat) : Int) := by simp; omega
    have n1 : nth (A ++ x :: (M2 ++ y :: B)) (A.length + M2.length + 1) = some y := by
      rw [nth_getElem?, List.getElem?_append_right (by omega), show A.length + M2.length + 1 - A.length = M2.length + 1 by omega, List.getElem?_cons_succ]; simp
    have n2 : nth (A ++ x :: (M2 ++ y :: B)) A.length = some x := by rw [nth_getElem?]; simp
    have s1 : setNth (A ++ x :: (M2 ++ y :: B)) A.length y = A ++ y :: (M2 ++ y :: B) := setNth_mid _ _ _ _
    have s2 : setNth (A ++ y :: (M2 ++ y :: B)) (A.length + M2.length + 1) x = (A ++ [y]) ++ (M2 ++ x :: B) := by
      have := setNth_mid (A ++ y :: M2) y B x
      rw [show (A ++ y :: M2).length = A.length + M2.length + 1 by simp; omega] at this
      rw [show A ++ y :: (M2 ++ y :: B) = (A ++ y :: M2) ++ y :: B by simp, this]; simp
    have hl2 : (A ++ y :: (M2 ++ y :: B)).length = A.length + M2.length + B.length + 2 := by simp; omega
    rw [e0, ej]
    simp only [b61, Int.toNat_natCast, n1, n2, s1, s2, hlen, hl2, inb_nat, Option.bind_some]
    rw [dt (by omega), cond_true, dt (by omega), cond_true, dt (by omega), cond_true, cond_true, blt_t (by omega), cond_true, cond_true, blt_t (by omega), cond_true, wr_succ (by omega), wr_pred (by omega)]
    rw [show (A ++ [y]).length = A.length + 1 by simp] at ih
    rw [show ((A.length + M2.length + 1 : Nat) : Int) - 1 = ((A.length + 1 : Nat) : Int) + (M2.length : Nat) - 1 by omega, ih]
    simp
theorem Reverse_eq {l : List Int} (h : l.length ≤ 1000000) : c61 T.rf l = some l.reverse := or61 (by
  have := Reverse_loop l.length l [] [] rfl (by simpa using h)
  simp only [List.nil_append, List.append_nil, List.length_nil] at this
  simp only [r61]
  rw [wr (by omega), show ((l.length : Nat) : Int) - 1 = ((0 : Nat) : Int) + (l.length : Nat) - 1 by omega, show (0 : Int) = ((0 : Nat) : Int) from rfl, this]; rfl)

/-! ### A call's arguments -/
/-- Their types, the last one first. -/
def argsR (e : List Nd) (acc : List Int) : Nat → Int → List Int
  | 0, _ => []
  | f + 1, at_ => if at_ < 0 then [] else match nth e at_.toNat with
    | some n => acc.getD n.2.1.toNat 0 :: argsR e acc f n.2.2.1
    | none => []
/-- The list of arguments is one. -/
def Chain (e : List Nd) (m : Nat) : Nat → Int → Prop
  | 0, at_ => at_ < 0
  | f + 1, at_ => at_ < 0 ∨ (at_ < m ∧ ∃ n, nth e at_.toNat = some n ∧ 0 ≤ n.2.1 ∧ n.2.1 < m ∧ n.2.2.1 < at_ ∧ Chain e m f n.2.2.1)

theorem argsR_len {e : List Nd} {acc : List Int} : ∀ (f : Nat) (at_ : Int), (argsR e acc f at_).length ≤ f
  | 0, _ => by simp [argsR]
  | f + 1, at_ => by
    rw [argsR]
    split
    · simp
    · split
      · rename_i n _
        have := argsR_len (e := e) (acc := acc) f n.2.2.1
        simp; omega
      · simp

theorem acc_get {acc : List Int} {k : Int} (h : 0 ≤ k) (h2 : k < acc.length) : nth acc k.toNat = some (acc.getD k.toNat 0) := by
  rw [nth_getElem?, List.getD_eq_getElem?_getD, List.getElem?_eq_getElem (by omega)]; rfl
theorem nth_lt {α : Type} {l : List α} {i : Nat} {x : α} (h : nth l i = some x) : i < l.length := by
  rw [nth_getElem?] at h; exact (List.getElem?_eq_some_iff.1 h).1

theorem targs_loop {e : List Nd} (acc : List Int) (he : e.length ≤ 1000000) : ∀ (f : Nat) (at_ : Int) (out : List Int), Chain e acc.length f at_ → out.length + f ≤ 1000000 →
    k57 T.rb acc out e at_ = some (acc, out ++ argsR e acc f at_)
  | 0, at_, out, h, ho => ob57 (by
    have h : at_ < 0 := h
    simp only [b57, df (show ¬ at_ ≥ 0 by omega), cond_false, argsR, List.append_nil])
  | f + 1, at_, out, h, ho => ob57 (by
    by_cases h0 : at_ < 0
    · simp only [b57, df (show ¬ at_ ≥ 0 by omega), cond_false, argsR, if_pos h0, List.append_nil]
    rcases h with h | ⟨h1, n, h2, h3, h4, h5, h6⟩
    · exact absurd h h0
    have hl := nth_lt h2
    have ih := targs_loop acc he f n.2.2.1 (out ++ [acc.getD n.2.1.toNat 0]) h6 (by simp; omega)
    simp only [b57, dt (show at_ ≥ 0 by omega), cond_true, inb_t (show 0 ≤ at_ by omega) (show at_ < e.length by omega), h2, Option.bind_some, inb_t h3 h4, acc_get h3 h4, ble_most (show out.length + 1 ≤ 274877906944 by omega), Bool.and_true, ih, argsR, if_neg h0, List.append_assoc, List.singleton_append])

theorem targs_eq {e : List Nd} {acc : List Int} {n : Nd} {f : Nat} (he : e.length ≤ 1000000) (h : Chain e acc.length f n.2.1) (hf : f ≤ 100000) : c60 T.rf acc e n = some (acc, (argsR e acc f n.2.1).reverse) := or60 (by
  have h1 := targs_loop acc he f n.2.1 [] h (by simp; omega)
  have h2 := argsR_len (e := e) (acc := acc) f n.2.1
  simp only [r60, h1, Option.bind_some, List.nil_append, Reverse_eq (show (argsR e acc f n.2.1).length ≤ 1000000 by omega)])

/-! ### A node's type -/
theorem sub_norm' (x : List Nd) : subE x ((x.length : Int) - 1) = norm x := rfl
def shapesL : List (Int × Int) := [(0, 0), (0, 2), (0, 1), (0, 0), (1, 1), (2, 2), (1, 1), (1, 1), (1, 1), (1, 1), (0, 1), (0, 1), (2, 1), (2, 1), (2, 2), (2, 2), (2, 2), (2, 2), (2, 2), (0, 0), (1, 1), (0, 0), (1, 1), (1, 1), (1, 1), (1, 1)]
def shapeOf (op : Int) : Int × Int := shapesL.getD op.toNat (0, 0)
/-- The operands' types, one by one; the last one's. -/
def operT (takes : Int) : List Int → Bool → Int → Option Int
  | [], _, is => some is
  | x :: r, first, is => if takes ≠ 0 ∧ x ≠ takes then none else if first = false ∧ x ≠ is then none else operT takes r false x
def sameT : List Pm → List Int → Bool
  | [], _ => true
  | p :: r, x :: s => p.2 == x && sameT r s
  | _ :: _, [] => false
def callT (units : List Un) (name : List UInt8) (al : List Int) : Int × Int := match findX (isU name) units with
  | none => (0, 14)
  | some u => if u.2.2.1.length ≠ al.length then (0, 14) else if sameT u.2.2.1 al = true then (u.2.2.2.2.1, 0) else (0, 10)
def nodeT (streams : List Pm) (units : List Un) (op : Int) (name : List UInt8) (ts : List Int) (al : List Int) : Int × Int :=
  if op = 28 then (0, 0) else
  if op = 3 then (match findX (isP name) streams with
    | none => (0, 8)
    | some p => (p.2, 0)) else
  if op = 27 then callT units name al else
  if op = 26 then (if ts.getD 0 0 ≠ 1 then (0, 10) else if ts.getD 1 0 ≠ ts.getD 2 0 then (0, 10) else (ts.getD 1 0, 0)) else
  match operT (shapeOf op).1 ts true 0 with
  | none => (0, 10)
  | some is => (if (shapeOf op).2 ≠ 0 then (shapeOf op).2 else is, 0)
def nodeL (streams : List Pm) (units : List Un) (e : List Nd) (acc : List Int) (n : Nd) : Int × Int :=
  nodeT streams units n.1 n.2.2.2.2.2 ((kids n).map fun k => acc.getD k.toNat 0) (argsR e acc (acc.length + 1) n.2.1).reverse

theorem params_loop (al : List Int) : ∀ (suf pre : List Pm) (s p : List Int), al = p ++ s → p.length = pre.length → suf.length = s.length → pre.length + suf.length ≤ 1000000 →
    k62 T.rb al (pre ++ suf) ((pre ++ suf).length : Nat) (pre.length : Nat) = some (bif sameT suf s then .inr al else .inl (al, 0, 10))
  | [], pre, s, p, h, hp, hs, hl => ob62 (by
    simp only [b62, lt_end, lt_self, List.append_nil, cond_false]; rfl)
  | x :: suf, pre, [], p, h, hp, hs, hl => by simp at hs
  | x :: suf, pre, y :: s, p, h, hp, hs, hl => ob62 (by
    simp only [List.length_cons] at hl hs
    have ih := params_loop al suf (pre ++ [x]) s (p ++ [y]) (by rw [h]; simp) (by simp [hp]) (by omega) (by simp; omega)
    simp only [List.append_assoc, List.singleton_append] at ih
    have h1 : inb (pre.length : Nat) al.length = true := inb_t (by omega) (by rw [h]; simp; omega)
    have h2 : nth al ((pre.length : Nat) : Int).toNat = some y := by rw [Int.toNat_natCast, h, ← hp, nth_getElem?]; simp
    simp only [b62, lt_mid, inb_mid, nth_mid, cond_true, Option.bind_some, next_mid pre x (by omega), h1, h2, ih, sameT]
    by_cases hxy : x.2 = y
    · rw [nbt hxy, bt hxy, cond_false, Bool.true_and]
    · rw [nbf hxy, bf hxy, cond_true, Bool.false_and]; rfl)

theorem shapes_eq : c62 T.rf = some (0, 0, 0, 2, 0, 1, 0, 0, 1, 1, 2, 2, 1, 1, 1, 1, 1, 1, 1, 1, 0, 1, 0, 1, 2, 1, 2, 1, 2, 2, 2, 2, 2, 2, 2, 2, 2, 2, 0, 0, 1, 1, 0, 0, 1, 1, 1, 1, 1, 1, 1, 1) := or62 rfl

def operOut (acc : List Int) (s : Int × Int) (ks : List Int) : Option Int → (List Int × (Int × Int) × List Int × Int × Int) ⊕ (List Int × (Int × Int) × List Int × Int)
  | none => .inl (acc, s, ks, 0, 10)
  | some is => .inr (acc, s, ks, is)

theorem oper_loop (acc : List Int) (s : Int × Int) : ∀ (suf pre : List Int) (is : Int), (∀ k ∈ suf, 0 ≤ k ∧ k < acc.length) → pre.length + suf.length ≤ 1000 →
    k64 T.rb acc s (pre ++ suf) is ((pre ++ suf).length : Nat) (pre.length : Nat) = some (operOut acc s (pre ++ suf) (operT s.1 (suf.map fun k => acc.getD k.toNat 0) (decide (pre.length = 0)) is))
  | [], pre, is, h, hl => ob64 (by
    simp only [b64, lt_end, lt_self, List.append_nil, cond_false]; rfl)
  | k :: suf, pre, is, h, hl => ob64 (by
    simp only [List.length_cons] at hl
    obtain ⟨h1, h2⟩ := h k List.mem_cons_self
    have ih := oper_loop acc s suf (pre ++ [k]) (acc.getD k.toNat 0) (fun q hq => h q (List.mem_cons_of_mem _ hq)) (by simp; omega)
    simp only [List.append_assoc, List.singleton_append] at ih
    rw [df (show ¬ (pre ++ [k]).length = 0 by simp)] at ih
    simp only [b64, lt_mid, inb_mid, nth_mid, cond_true, Option.bind_some, next_mid pre k (by omega), inb_t h1 h2, acc_get h1 h2, ih, List.map_cons, operT]
    by_cases hs : s.1 = 0
    · rw [nbt hs, cond_false, if_neg (by intro hh; exact hh.1 hs)]
      by_cases hp : pre.length = 0
      · rw [df (by omega), cond_false, dt hp, if_neg (by intro hh; cases hh.1)]
      · rw [dt (by omega), cond_true, df hp]
        by_cases he : acc.getD k.toNat 0 = is
        · rw [nbt he, cond_false, if_neg (by intro hh; exact hh.2 he)]
        · rw [nbf he, cond_true, if_pos ⟨rfl, he⟩]; rfl
    · rw [nbf hs, cond_true]
      by_cases ht : acc.getD k.toNat 0 = s.1
      · rw [nbt ht, cond_false, if_neg (by intro hh; exact hh.2 ht)]
        by_cases hp : pre.length = 0
        · rw [df (by omega), cond_false, dt hp, if_neg (by intro hh; cases hh.1)]
        · rw [dt (by omega), cond_true, df hp]
          by_cases he : acc.getD k.toNat 0 = is
          · rw [nbt he, cond_false, if_neg (by intro hh; exact hh.2 he)]
          · rw [nbf he, cond_true, if_pos ⟨rfl, he⟩]; rfl
      · rw [nbf ht, cond_true, if_pos ⟨hs, ht⟩]; rfl)

theorem oper_tail {acc : List Int} {n : Nd} {s : Int × Int} (h : ∀ k ∈ kids n, 0 ≤ k ∧ k < acc.length) : k63 T.rb acc n s 0 = some (acc, n, s, match operT s.1 ((kids n).map fun k => acc.getD k.toNat 0) true 0 with
    | none => (0, 10)
    | some is => (if s.2 ≠ 0 then s.2 else is, 0)) := ob63 (by
  have h3 := kids_len n
  have h0 := oper_loop acc s (kids n) [] 0 h (by simp; omega)
  simp only [List.nil_append, List.length_nil] at h0
  rw [show ((0 : Nat) : Int) = (0 : Int) from rfl] at h0
  simp only [decide_true] at h0
  simp only [b63, kids_eq, Option.bind_some, h0]
  cases operT s.1 ((kids n).map fun k => acc.getD k.toNat 0) true 0 with
  | none => rfl
  | some is =>
    simp only [operOut, Option.bind_some]
    by_cases hs : s.2 = 0
    · rw [nbt hs, cond_false, if_neg (by intro hh; exact hh hs)]
    · rw [nbf hs, cond_true, if_pos hs])

/-- A node whose operands are ahead. -/
structure NodeOk (e : List Nd) (m : Nat) (n : Nd) : Prop where
  op : 1 ≤ n.1 ∧ n.1 ≤ 28
  kids : ∀ k ∈ kids n, 0 ≤ k ∧ k < m
  chain : n.1 = 27 → Chain e m (m + 1) n.2.1

theorem node_eq {streams : List Pm} {units : List Un} {e : List Nd} {acc : List Int} {n : Nd} (hst : streams.length ≤ 1000000) (hun : units.length ≤ 1000000) (hin : ∀ u ∈ units, u.2.2.1.length ≤ 1000000) (he : e.length ≤ 5001) (ha : acc.length ≤ 5001) (hn : NodeOk e acc.length n) :
    c55 T.rf (streams, units) acc e n = some ((streams, units), acc, nodeL streams units e acc n) := or55 (by
  obtain ⟨⟨ho1, ho2⟩, hk, hc⟩ := hn
  simp only [r55, nodeL, nodeT]
  by_cases h28 : n.1 = 28
  · rw [bt h28, cond_true, if_pos h28]
  rw [bf h28, cond_false, if_neg h28]
  by_cases h3 : n.1 = 3
  · rw [bt h3, cond_true, if_pos h3, IndexP_eq hst, Option.bind_some]
    have hf := findI_spec (isP n.2.2.2.2.2) streams []
    rw [List.length_nil, List.nil_append] at hf
    cases hi : findI (isP n.2.2.2.2.2) streams 0 with
    | none => rw [hi] at hf; simp only [hf]; rfl
    | some i =>
      rw [hi] at hf
      obtain ⟨_, h2, x, h4, h5⟩ := hf
      simp only [h5, df (show ¬ ((i : Nat) : Int) < 0 by omega), cond_false, inb_nat, dt (show i < streams.length by omega), cond_true, Int.toNat_natCast, h4, Option.bind_some]
  rw [bf h3, cond_false, if_neg h3]
  by_cases h27 : n.1 = 27
  · rw [bt h27, cond_true, if_pos h27, IndexU_eq hun, Option.bind_some]
    simp only [targs_eq (show e.length ≤ 1000000 by omega) (hc h27) (by omega), Option.bind_some, callT]
    have hf := findI_spec (isU n.2.2.2.2.2) units []
    rw [List.length_nil, List.nil_append] at hf
    cases hi : findI (isU n.2.2.2.2.2) units 0 with
    | none => rw [hi] at hf; simp only [hf]; rfl
    | some i =>
      rw [hi] at hf
      obtain ⟨_, h2, u, h4, h5⟩ := hf
      have hu : u ∈ units := by rw [nth_getElem?] at h4; exact List.mem_of_getElem? h4
      simp only [h5, df (show ¬ ((i : Nat) : Int) < 0 by omega), cond_false, inb_nat, dt (show i < units.length by omega), cond_true, Int.toNat_natCast, h4, Option.bind_some]
      by_cases hl : u.2.2.1.length = (argsR e acc (acc.length + 1) n.2.1).reverse.length
      · have h6 := params_loop (argsR e acc (acc.length + 1) n.2.1).reverse u.2.2.1 [] (argsR e acc (acc.length + 1) n.2.1).reverse [] rfl rfl hl (by have := hin u hu; simpa using this)
        simp only [List.nil_append, List.length_nil] at h6
        rw [show ((0 : Nat) : Int) = (0 : Int) from rfl] at h6
        rw [nbt (by rw [hl]), cond_false, if_neg (by intro hh; exact hh hl), h6]
        cases sameT u.2.2.1 (argsR e acc (acc.length + 1) n.2.1).reverse <;> rfl
      · rw [nbf (by intro hh; exact hl (by omega)), cond_true, if_pos hl]
  rw [bf h27, cond_false, if_neg h27]
  by_cases h26 : n.1 = 26
  · have hkk : kids n = [n.2.1, n.2.2.1, n.2.2.2.1] := by unfold kids; rw [if_pos h26]
    obtain ⟨a1, a2⟩ := hk n.2.1 (by rw [hkk]; simp)
    obtain ⟨b1, b2⟩ := hk n.2.2.1 (by rw [hkk]; simp)
    obtain ⟨c1, c2⟩ := hk n.2.2.2.1 (by rw [hkk]; simp)
    rw [bt h26, cond_true, if_pos h26, hkk]
    simp only [inb_t a1 a2, inb_t b1 b2, inb_t c1 c2, acc_get a1 a2, acc_get b1 b2, acc_get c1 c2, cond_true, Option.bind_some, List.map_cons, List.map_nil, List.getD_cons_zero, List.getD_cons_succ]
    by_cases hA : acc.getD n.2.1.toNat 0 = 1
    · rw [nbt hA, cond_false, if_neg (by intro hh; exact hh hA)]
      by_cases hB : acc.getD n.2.2.1.toNat 0 = acc.getD n.2.2.2.1.toNat 0
      · rw [nbt hB, cond_false, if_neg (by intro hh; exact hh hB)]
      · rw [nbf hB, cond_true, if_pos hB]
    · rw [nbf hA, cond_true, if_pos hA]
  rw [bf h26, cond_false, if_neg h26, shapes_eq, Option.bind_some, inb_t (show 0 ≤ n.1 by omega) (show n.1 < (26 : Nat) by omega), cond_true]
  show (nth shapesL n.1.toNat).bind _ = _
  rw [nth_getElem?, show shapesL[n.1.toNat]? = some (shapeOf n.1) by
    rw [shapeOf, List.getD_eq_getElem?_getD, List.getElem?_eq_getElem (show n.1.toNat < shapesL.length by show n.1.toNat < 26; omega)]; rfl, Option.bind_some, oper_tail hk, Option.bind_some])

/-! ### An expression's type -/
def typL (streams : List Pm) (units : List Un) (e : List Nd) : List Nd → List Int → (Int × Int) ⊕ List Int
  | [], acc => .inr acc
  | n :: r, acc => if (nodeL streams units e acc n).2 ≠ 0 then .inl (0, (nodeL streams units e acc n).2) else typL streams units e r (acc ++ [(nodeL streams units e acc n).1])
def ofTy (e : List Nd) (streams : List Pm) (units : List Un) : Int × Int := if mayB e = true then (match typL streams units (norm e) (norm e) [] with
  | .inl x => x
  | .inr l => (l.getLastD 0, 0)) else (0, 1)

theorem argB_28 {e : List Nd} {n : Nd} {a : Nat} {k : Int} (h : argB e n a k = true) (h2 : n.1 = 27 ∨ (n.1 = 28 ∧ n.2.2.1 ≠ -1 ∧ a = 0)) : opAt e k.toNat = 28 := by
  unfold argB at h
  have h3 := eq_of_beq h
  rcases h2 with h2 | ⟨h2, h4, h5⟩
  · rw [dt h2, Bool.true_or] at h3; exact of_decide_eq_true h3
  · rw [dt h2, dt h4, dt h5] at h3
    simp only [Bool.and_self, Bool.or_true] at h3
    exact of_decide_eq_true h3

theorem topAt_nth {e : List Nd} {k : Nat} (hk : k < e.length) : ∃ n, nth e k = some n ∧ opAt e k = n.1 := by
  refine ⟨e[k], nth_t hk, ?_⟩
  rw [opAt, List.getD_eq_getElem?_getD, List.getElem?_eq_getElem hk]; rfl

theorem chain_of {e : List Nd} (hM : MayP e) (m : Nat) : ∀ (f : Nat) (at_ : Int), at_ < f → at_ < m → (at_ < 0 ∨ (at_ < e.length ∧ opAt e at_.toNat = 28)) → Chain e m f at_
  | 0, at_, hf, hm, h => by show at_ < 0; omega
  | f + 1, at_, hf, hm, h => by
    rcases h with h | ⟨h1, h2⟩
    · exact .inl h
    by_cases h0 : at_ < 0
    · exact .inl h0
    obtain ⟨n, hn, ho⟩ := topAt_nth (e := e) (k := at_.toNat) (by omega)
    rw [h2] at ho
    have hal := hM.ahead _ n hn
    have hargs := hM.args _ n hn
    refine .inr ⟨hm, n, hn, ?_⟩
    by_cases hb : n.2.2.1 = -1
    · have hk : kids n = [n.2.1] := by
        unfold kids; rw [if_neg (by omega), if_neg (fun hh => hh.2 hb), if_neg (by omega), if_neg (by omega), if_pos (by omega)]
      have := hal n.2.1 (by rw [hk]; simp)
      refine ⟨this.1, by omega, by omega, chain_of hM m f n.2.2.1 (by omega) (by omega) (.inl (by omega))⟩
    · have hk : kids n = [n.2.2.1, n.2.1] := by
        unfold kids; rw [if_neg (by omega), if_pos ⟨by omega, hb⟩]
      have hA := hal n.2.1 (by rw [hk]; simp)
      have hB := hal n.2.2.1 (by rw [hk]; simp)
      rw [hk, argsB, Bool.and_eq_true] at hargs
      have h28 := argB_28 hargs.1 (.inr ⟨by omega, hb, rfl⟩)
      exact ⟨hA.1, by omega, by omega, chain_of hM m f n.2.2.1 (by omega) (by omega) (.inr ⟨by omega, h28⟩)⟩

theorem nodeOk_of {e : List Nd} (hM : MayP e) {i : Nat} {n : Nd} (hn : nth e i = some n) : NodeOk e i n := by
  have hil := nth_lt hn
  have hal := hM.ahead i n hn
  have hno := hM.node i n hn
  have hno2 := of_decide_eq_true hno
  refine ⟨⟨hno2.1, hno2.2.1⟩, hal, fun h27 => ?_⟩
  by_cases ha : n.2.1 = -1
  · exact .inl (by omega)
  · have hk : kids n = [n.2.1] := by
      unfold kids; rw [if_neg (by omega), if_neg (by omega), if_neg (fun hh => ha hh.2), if_neg (by omega), if_pos (by omega)]
    have hA := hal n.2.1 (by rw [hk]; simp)
    have hargs := hM.args i n hn
    rw [hk, argsB, Bool.and_eq_true] at hargs
    have h28 := argB_28 hargs.1 (.inl h27)
    exact chain_of hM i (i + 1) n.2.1 (by omega) (by omega) (.inr ⟨by omega, h28⟩)

structure EnvOk (streams : List Pm) (units : List Un) : Prop where
  st : streams.length ≤ 1000000
  un : units.length ≤ 1000000
  ins : ∀ u ∈ units, u.2.2.1.length ≤ 1000000

def typOut (streams : List Pm) (units : List Un) : (Int × Int) ⊕ List Int → ((List Pm × List Un) × Int × Int) ⊕ ((List Pm × List Un) × List Int)
  | .inl x => .inl ((streams, units), x)
  | .inr l => .inr ((streams, units), l)

theorem Of_loop {streams : List Pm} {units : List Un} (hE : EnvOk streams units) {e : List Nd} (hM : MayP e) : ∀ (suf pre : List Nd) (acc : List Int), e = pre ++ suf → acc.length = pre.length →
    k66 T.rb (streams, units) acc e e (e.length : Nat) (pre.length : Nat) = some (typOut streams units (typL streams units e suf acc))
  | [], pre, acc, h, ha => ob66 (by
    rw [h, List.append_nil]
    simp only [b66, lt_self, cond_false]; rfl)
  | n :: suf, pre, acc, h, ha => ob66 (by
    have hl := hM.len
    have hn : nth e pre.length = some n := by rw [h, nth_getElem?]; simp
    have hil := nth_lt hn
    have ih := fun y => Of_loop hE hM suf (pre ++ [n]) (acc ++ [y]) (by rw [h]; simp) (by simp [ha])
    have hno := nodeOk_of hM hn
    rw [← ha] at hno
    simp only [b66, dt (show ((pre.length : Nat) : Int) < ((e.length : Nat) : Int) by omega), cond_true, inb_nat, dt hil, Int.toNat_natCast, hn, Option.bind_some, node_eq hE.st hE.un hE.ins (show e.length ≤ 5001 by omega) (show acc.length ≤ 5001 by omega) hno, ble_most (show acc.length + 1 ≤ 274877906944 by omega), Bool.and_true, next_mid pre n (by omega), ih, typL]
    by_cases hz : (nodeL streams units e acc n).2 = 0
    · rw [nbt hz, cond_false, if_neg (by intro hh; exact hh hz)]
    · rw [nbf hz, cond_true, if_pos hz]; rfl)

theorem typL_len {streams : List Pm} {units : List Un} {e : List Nd} : ∀ (l : List Nd) (acc out : List Int), typL streams units e l acc = .inr out → out.length = acc.length + l.length
  | [], acc, out, h => by cases h; simp
  | n :: r, acc, out, h => by
    rw [typL] at h
    split at h
    · cases h
    · have := typL_len r _ _ h; simp at this ⊢; omega

theorem OfTy_eq {e : List Nd} {streams : List Pm} {units : List Un} (hE : EnvOk streams units) (h : e.length ≤ 1000000) : c44 T.rf e streams units = some (ofTy e streams units) := or44 (by
  simp only [r44, May_eq h, Option.bind_some, ofTy]
  cases hm : mayB e
  · rw [if_neg (by decide)]; rfl
  have hM := may_P hm
  have hl := hM.len
  have hpos := List.length_pos_iff.2 hM.ne
  obtain ⟨m1, m2, _, _⟩ := norm_may hm
  have hMn := may_P m1
  rw [if_pos rfl, Bool.not_true, cond_false, wr (by omega), Sub_eq h, Option.bind_some, sub_norm']
  have h0 := Of_loop hE hMn (norm e) [] [] rfl rfl
  rw [show (((([] : List Nd).length : Nat)) : Int) = 0 from rfl] at h0
  rw [h0, Option.bind_some]
  cases hL : typL streams units (norm e) (norm e) [] with
  | inl x => rfl
  | inr l =>
    have hll := typL_len _ _ _ hL
    simp only [List.length_nil, Nat.zero_add] at hll
    simp only [typOut]
    rw [last_i (by intro hh; rw [hh] at hll; simp at hll; omega) (by omega), inb_nat, dt (by omega), cond_true, Int.toNat_natCast, nth_t (by omega), Option.bind_some]
    have hg : l.getLastD 0 = l[l.length - 1]'(by omega) := by
      rw [List.getLastD_eq_getLast?, List.getLast?_eq_getElem?, List.getElem?_eq_getElem (by omega)]; rfl
    rw [hg])

end Go.Proofs.Ytomofgclaiaikaa.R
