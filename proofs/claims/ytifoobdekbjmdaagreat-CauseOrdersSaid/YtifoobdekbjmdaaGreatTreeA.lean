/-
  OUR OWN: what the functions of package tree and of its document come to, in plain Lean: nodes, and lists of them.
-/
import Derived.Test.YtifoobdekbjmdaaGreatResRun
import Derived.Test.YtifoobdekbjmdaaGreatBmTree
namespace Go.Proofs.YtifoobdekbjmdaaGreat.R
open Go Go.Bm Go.Proofs
set_option linter.unusedVariables false
set_option linter.unusedSimpArgs false
set_option maxRecDepth 4000

theorem kids_eq (n : Nd) : c49 T.rf n = some (kids n) := or49 (by
  obtain ⟨op, a, b, c, k, nm⟩ := n
  by_cases h1 : op = 26
  · subst h1; rfl
  by_cases h2 : op = 28
  · subst h2
    by_cases hb : b = -1
    · subst hb; rfl
    · simp [r49, kids, hb, nbf hb]
  by_cases h3 : op = 27
  · subst h3
    by_cases ha : a = -1
    · subst ha; rfl
    · simp [r49, kids, ha, nbf ha, bf ha]
  by_cases h4 : op = 4
  · subst h4; rfl
  by_cases h5 : op = 5
  · subst h5; rfl
  simp only [r49, kids, bf h1, bf h2, bf h3, bf h4, bf h5, cond_false, if_neg h1, if_neg (show ¬ (op = 28 ∧ b ≠ -1) from fun h => h2 h.1), if_neg (show ¬ (op = 27 ∧ a = -1) from fun h => h3 h.1)]
  by_cases h6 : 6 ≤ op
  · by_cases h7 : op ≤ 20
    · simp [h6, h7]
    · by_cases h8 : op ≤ 25
      · simp only [dt h6, df h7, cond_true, cond_false, dt (show op ≥ 21 by omega), dt (show op ≤ 28 by omega), if_neg (show ¬ (6 ≤ op ∧ op ≤ 20) by omega), if_pos (show op = 4 ∨ op = 5 ∨ (21 ≤ op ∧ op ≤ 28) by omega)]
      · simp only [dt h6, df h7, cond_true, cond_false, dt (show op ≥ 21 by omega), df (show ¬ op ≤ 28 by omega), if_neg (show ¬ (6 ≤ op ∧ op ≤ 20) by omega), if_neg (show ¬ (op = 4 ∨ op = 5 ∨ (21 ≤ op ∧ op ≤ 28)) by omega)]
  · simp only [df (show ¬ op ≥ 6 by omega), cond_false, df (show ¬ op ≥ 21 by omega), if_neg (show ¬ (6 ≤ op ∧ op ≤ 20) by omega), if_neg (show ¬ (op = 4 ∨ op = 5 ∨ (21 ≤ op ∧ op ≤ 28)) by omega)])
theorem refKids_eq (n : Nd) : c29 T.rf n = some (kids n) := or29 (by
  obtain ⟨op, a, b, c, k, nm⟩ := n
  by_cases h1 : op = 26
  · subst h1; rfl
  by_cases h2 : op = 28
  · subst h2
    by_cases hb : b = -1
    · subst hb; rfl
    · simp [r29, kids, hb, nbf hb]
  by_cases h3 : op = 27
  · subst h3
    by_cases ha : a = -1
    · subst ha; rfl
    · simp [r29, kids, ha, nbf ha, bf ha]
  by_cases h4 : op = 4
  · subst h4; rfl
  by_cases h5 : op = 5
  · subst h5; rfl
  simp only [r29, kids, bf h1, bf h2, bf h3, bf h4, bf h5, cond_false, if_neg h1, if_neg (show ¬ (op = 28 ∧ b ≠ -1) from fun h => h2 h.1), if_neg (show ¬ (op = 27 ∧ a = -1) from fun h => h3 h.1)]
  by_cases h6 : 6 ≤ op
  · by_cases h7 : op ≤ 20
    · simp [h6, h7, bf (show op ≠ 21 by omega), bf (show op ≠ 22 by omega), bf (show op ≠ 23 by omega), bf (show op ≠ 24 by omega), bf (show op ≠ 25 by omega)]
    · by_cases h8 : op ≤ 25
      · have : op = 21 ∨ op = 22 ∨ op = 23 ∨ op = 24 ∨ op = 25 := by omega
        rcases this with rfl | rfl | rfl | rfl | rfl <;> rfl
      · simp only [dt h6, df h7, bf (show op ≠ 21 by omega), bf (show op ≠ 22 by omega), bf (show op ≠ 23 by omega), bf (show op ≠ 24 by omega), bf (show op ≠ 25 by omega), cond_true, cond_false, if_neg (show ¬ (6 ≤ op ∧ op ≤ 20) by omega), if_neg (show ¬ (op = 4 ∨ op = 5 ∨ (21 ≤ op ∧ op ≤ 28)) by omega)]
  · simp only [df (show ¬ op ≥ 6 by omega), bf (show op ≠ 21 by omega), bf (show op ≠ 22 by omega), bf (show op ≠ 23 by omega), bf (show op ≠ 24 by omega), bf (show op ≠ 25 by omega), cond_false, if_neg (show ¬ (6 ≤ op ∧ op ≤ 20) by omega), if_neg (show ¬ (op = 4 ∨ op = 5 ∨ (21 ≤ op ∧ op ≤ 28)) by omega)])

theorem with_eq (n : Nd) (l : List Int) : c50 T.rf n l = some (aim n l) := or50 (by
  match l with
  | [] => simp [r50, aim]
  | [a] => simp [r50, aim, nth, inb_nat, show inb 0 1 = true from rfl]
  | [a, b] =>
    by_cases h : n.1 = 28
    · simp [r50, aim, nth, h, show inb 0 2 = true from rfl, show inb 1 2 = true from rfl]
    · have e := bf h
      simp [r50, aim, nth, h, e, show inb 0 2 = true from rfl, show inb 1 2 = true from rfl]
  | a :: b :: c :: r =>
    have h0 : inb 0 (a :: b :: c :: r).length = true := inb_t (by omega) (by simp; omega)
    have h1 : inb 1 (a :: b :: c :: r).length = true := inb_t (by omega) (by simp; omega)
    have h2 : inb 2 (a :: b :: c :: r).length = true := inb_t (by omega) (by simp; omega)
    have g0 : decide ((0 : Int) < ((a :: b :: c :: r).length : Nat)) = true := dt (by simp; omega)
    have g1 : decide ((1 : Int) < ((a :: b :: c :: r).length : Nat)) = true := dt (by simp; omega)
    have g2 : decide ((2 : Int) < ((a :: b :: c :: r).length : Nat)) = true := dt (by simp; omega)
    have g : ((((a :: b :: c :: r).length : Nat) : Int) == 2) = false := bf (by simp; omega)
    simp only [r50, aim, h0, h1, h2, g0, g1, g2, g, cond_true, cond_false, nth, Option.bind_some]
    cases (n.1 == 28) <;> rfl)
theorem aim_eq (n : Nd) (l : List Int) : c32 T.rf n l = some (aim n l) := or32 (by
  match l with
  | [] => simp [r32, aim]
  | [a] => simp [r32, aim, nth, inb_nat, show inb 0 1 = true from rfl]
  | [a, b] =>
    by_cases h : n.1 = 28
    · simp [r32, aim, nth, h, show inb 0 2 = true from rfl, show inb 1 2 = true from rfl]
    · have e := bf h
      simp [r32, aim, nth, h, e, show inb 0 2 = true from rfl, show inb 1 2 = true from rfl]
  | a :: b :: c :: r =>
    have h0 : inb 0 (a :: b :: c :: r).length = true := inb_t (by omega) (by simp; omega)
    have h1 : inb 1 (a :: b :: c :: r).length = true := inb_t (by omega) (by simp; omega)
    have h2 : inb 2 (a :: b :: c :: r).length = true := inb_t (by omega) (by simp; omega)
    have g0 : decide ((((a :: b :: c :: r).length : Nat) : Int) > 0) = true := dt (by simp; omega)
    have g1 : decide ((((a :: b :: c :: r).length : Nat) : Int) > 1) = true := dt (by simp; omega)
    have g2 : decide ((((a :: b :: c :: r).length : Nat) : Int) > 2) = true := dt (by simp; omega)
    have g : ((((a :: b :: c :: r).length : Nat) : Int) == 2) = false := bf (by simp; omega)
    simp only [r32, aim, h0, h1, h2, g0, g1, g2, g, cond_true, cond_false, nth, Option.bind_some]
    cases (n.1 == 28) <;> rfl)

theorem isNode_eq (n : Nd) : c48 T.rf n = some (nodeB n) := or48 (by
  have hk6 : ∀ m : Nd, ∀ k : Int, k44 T.rb n m k = some (n, m, decide (1 ≤ n.1 ∧ n.1 ≤ 28 ∧ n = m ∧ 0 ≤ n.2.2.2.2.1 ∧ n.2.2.2.2.1 ≤ k ∧ (n.2.2.2.2.2 ≠ [] ↔ (n.1 = 3 ∨ n.1 = 27)))) := fun m k => ob44 (by
    obtain ⟨p1, p2, p3, p4, p5, p6⟩ := n
    obtain ⟨q1, q2, q3, q4, q5, q6⟩ := m
    have hX : ∀ X : Prop, ∀ _ : Decidable X, ¬ X → some ((p1, p2, p3, p4, p5, p6), (q1, q2, q3, q4, q5, q6), false) = some ((p1, p2, p3, p4, p5, p6), (q1, q2, q3, q4, q5, q6), decide X) := fun X _ h => by rw [df h]
    have e : ∀ c : Bool, ((!(p6 == ([] : List UInt8))) == c) = decide (p6 ≠ [] ↔ c = true) := fun c => by cases p6 <;> cases c <;> simp
    simp only [b44, cond_eq_ite, decide_eq_true_eq, beq_iff_eq, Bool.and_eq_true, e]
    repeat' split
    all_goals first
      | (refine hX _ _ ?_; simp only [Prod.mk.injEq]; omega)
      | (refine hX _ _ ?_; simp only [Prod.mk.injEq]; rintro ⟨_, _, hh, _⟩; contradiction)
      | (simp only [Option.some.injEq, Prod.mk.injEq, true_and, decide_eq_decide]; constructor
         · intro h; exact ⟨by omega, by omega, by assumption, by omega, by omega, by rw [h]; first | omega | simp [*]⟩
         · rintro ⟨_, _, _, _, _, h⟩; rw [h]; first | omega | simp [*]))
  have hk5 : ∀ k : Int, k43 T.rb n k = some (n, decide (1 ≤ n.1 ∧ n.1 ≤ 28 ∧ n = aim (n.1, -1, -1, -1, n.2.2.2.2) (kids n) ∧ 0 ≤ n.2.2.2.2.1 ∧ n.2.2.2.2.1 ≤ k ∧ (n.2.2.2.2.2 ≠ [] ↔ (n.1 = 3 ∨ n.1 = 27)))) := fun k => ob43 (by
    simp only [b43, kids_eq, with_eq, hk6, Option.bind_some])
  simp only [r48, hk5, Option.bind_some, nodeB, mostN]
  by_cases h1 : n.1 = 1
  · simp [h1]
  by_cases h2 : n.1 = 2
  · simp [h2]
  by_cases h3 : n.1 = 25
  · simp [h3]
  simp only [bf h1, bf h2, bf h3, cond_false, if_neg h1, if_neg h2, if_neg h3])

end Go.Proofs.YtifoobdekbjmdaaGreat.R
