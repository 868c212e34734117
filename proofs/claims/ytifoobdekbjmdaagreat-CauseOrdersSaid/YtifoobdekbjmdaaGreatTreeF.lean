/-
  OUR OWN: what the functions of package tree and of its document come to, in plain Lean: lists of texts and numbers; an expression's names.
-/
import Derived.Test.YtifoobdekbjmdaaGreatTreeE
namespace Go.Proofs.YtifoobdekbjmdaaGreat.R
open Go Go.Bm Go.Proofs
set_option linter.unusedVariables false
set_option linter.unusedSimpArgs false
set_option maxRecDepth 4000

theorem Texts_loop : ∀ (s t p q : List (List UInt8)), p.length = q.length → s.length = t.length → p.length + s.length < 4611686018427387904 →
    k131 T.rb (p ++ s) (q ++ t) (p.length : Nat) = some (if s = t then .inr () else .inl false)
  | [], t, p, q, h1, h2, h3 => ob131 (by
    have : t = [] := List.eq_nil_of_length_eq_zero (by simpa using h2.symm)
    subst this
    simp only [b131, lt_end, lt_self, List.append_nil, cond_false, if_true])
  | x :: s, [], p, q, h1, h2, h3 => by simp at h2
  | x :: s, y :: t, p, q, h1, h2, h3 => ob131 (by
    simp only [List.length_cons] at h2 h3
    have ih := Texts_loop s t (p ++ [x]) (q ++ [y]) (by simp [h1]) (by omega) (by simp; omega)
    simp only [List.append_assoc, List.singleton_append] at ih
    have e1 : inb ((p.length : Nat) : Int) (q ++ y :: t).length = true := by rw [h1]; exact inb_mid q y t
    have e2 : nth (q ++ y :: t) ((p.length : Nat) : Int).toNat = some y := by rw [h1]; exact nth_mid q y t
    simp only [b131, lt_mid, inb_mid, nth_mid, e1, e2, cond_true, Option.bind_some, next_mid p x (by omega), ih]
    by_cases hxy : x = y
    · subst hxy
      rw [beq_self_eq_true, Bool.not_true, cond_false]
      by_cases hst : s = t
      · rw [if_pos hst, if_pos (by rw [hst])]
      · rw [if_neg hst, if_neg (by intro h; injection h with _ h; exact hst h)]
    · rw [beq_eq_false_iff_ne.2 hxy, Bool.not_false, cond_true, if_neg (by intro h; injection h with h _; exact hxy h)])

theorem Texts_eq {a b : List (List UInt8)} (ha : a.length < 4611686018427387904) : c91 T.rf a b = some (decide (a = b)) := or91 (by
  simp only [r91]
  by_cases h : a.length = b.length
  · have := Texts_loop a b [] [] rfl h (by simpa using ha)
    simp only [List.nil_append, List.length_nil] at this
    rw [nbt (by rw [h]), cond_false, show (0 : Int) = ((0 : Nat) : Int) from rfl, this]
    by_cases e : a = b
    · rw [if_pos e, dt e]; rfl
    · rw [if_neg e, df e]; rfl
  · rw [nbf (by omega), cond_true, df (fun e => h (by rw [e]))])

/-- The names of the streams among some nodes, each once. -/
def varsL : List Nd → List (List UInt8) → List (List UInt8)
  | [], l => l
  | n :: r, l => if n.1 = 3 ∧ n.2.2.2.2.2 ∉ l then varsL r (l ++ [n.2.2.2.2.2]) else varsL r l

theorem varsL_len : ∀ (e : List Nd) (l : List (List UInt8)), (varsL e l).length ≤ l.length + e.length
  | [], l => by simp [varsL]
  | n :: r, l => by
    rw [varsL]
    split
    · have := varsL_len r (l ++ [n.2.2.2.2.2]); simp at this ⊢; omega
    · have := varsL_len r l; simp; omega

theorem seen_get (l : List (List UInt8)) (x : List UInt8) : assocGet (CT.eqK .str) false (l.map fun s => (s, true)) x = decide (x ∈ l) := by
  have : assoc (CT.eqK .str) (l.map fun s => (s, true)) x = if x ∈ l then some true else none := by
    induction l with
    | nil => rfl
    | cons y l ih =>
      simp only [List.map_cons, assoc, ih]
      by_cases e : x = y
      · subst e
        have : CT.eqK .str x x = true := beq_self_eq_true x
        rw [this]; simp
      · have : CT.eqK .str x y = false := beq_eq_false_iff_ne.2 e
        rw [this]; simp [e]
  unfold assocGet
  rw [this]
  by_cases h : x ∈ l <;> simp [h]
theorem seen_set : ∀ (l : List (List UInt8)) (x : List UInt8), x ∉ l → assocSet (CT.eqK .str) (l.map fun s => (s, true)) x true = (l ++ [x]).map fun s => (s, true)
  | [], x, _ => rfl
  | y :: l, x, h => by
    simp only [List.mem_cons, not_or] at h
    have : CT.eqK .str x y = false := beq_eq_false_iff_ne.2 h.1
    simp only [List.map_cons, assocSet, this, cond_false, seen_set l x h.2, List.cons_append]

theorem pred_i {α : Type} {l : List α} (h : l.length ≤ 1000000) : IntKind.i64.wrap ((l.length : Int) - 1) = (l.length : Int) - 1 := wr (by omega)

/-- An expression, in order. -/
def norm (e : List Nd) : List Nd := subE e ((e.length : Int) - 1)
def vars (e : List Nd) : List (List UInt8) := varsL (norm e) []

theorem Norm_eq {e : List Nd} (h : e.length ≤ 1000000) : c95 T.rf e = some (norm e) := or95 (by
  simp only [r95, pred_i h, refSub_eq h, Option.bind_some]; rfl)

theorem Ints_loop : ∀ (s p : List Int), p.length + s.length < 4611686018427387904 →
    k132 T.rb (p ++ s) (p ++ s) (p.length : Nat) = some (.inr ())
  | [], p, h => ob132 (by simp only [b132, lt_end, lt_self, List.append_nil, cond_false])
  | x :: s, p, h => ob132 (by
    simp only [List.length_cons] at h
    have ih := Ints_loop s (p ++ [x]) (by simp; omega)
    simp only [List.append_assoc, List.singleton_append] at ih
    simp only [b132, lt_mid, inb_mid, nth_mid, cond_true, Option.bind_some, nbt (show x = x from rfl), cond_false, next_mid p x (by omega), ih])
theorem Ints_self {a : List Int} (h : a.length < 4611686018427387904) : c92 T.rf a a = some true := or92 (by
  have := Ints_loop a [] (by simpa using h)
  simp only [List.nil_append, List.length_nil] at this
  rw [show ((0 : Nat) : Int) = (0 : Int) from rfl] at this
  simp only [r92, nbt rfl, cond_false, this]; rfl)

end Go.Proofs.YtifoobdekbjmdaaGreat.R
