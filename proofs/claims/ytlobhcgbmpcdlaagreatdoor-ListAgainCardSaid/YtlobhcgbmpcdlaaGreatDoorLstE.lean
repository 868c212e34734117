import Derived.Test.YtlobhcgbmpcdlaaGreatDoorLstD
namespace Go.Proofs.YtlobhcgbmpcdlaaGreatDoor.R
open Go Go.Bm Go.Proofs
set_option linter.unusedVariables false
set_option linter.unusedSimpArgs false
set_option maxRecDepth 4000
def K (l : List Str) : Str := l.flatMap fun s => s ++ [32]
theorem c6C (l : List Str) : (txt l).length ≤ (J l).length := by unfold txt; rw [List.length_drop]; omega
theorem N3 {s : Str} (h : u9 s = true) : s.length ≤ 40 := by
 unfold u9 at h
 simp only [Bool.and_eq_true, decide_eq_true_eq] at h
 exact h.2.1
theorem c2c (t : Int) : (tyX t).length ≤ 4 := by unfold tyX; split <;> simp
theorem c0f {p : Pm} (h : H9 p = true) : (J (wPm p)).length ≤ 49 := by
 rw [H9, Bool.and_eq_true] at h
 have h1 := N3 h.1
 have h2 := c2c p.2
 rw [wPm, J_c, J_c, J_c, J_n]; simp only [List.length_cons, List.length_nil]; omega
theorem c0h {α : Type} {f : α → List Str} (s : Str) (B : Nat) : ∀ l : List α, (∀ x ∈ l, (J (f x)).length ≤ B) → (J (a2E s (l.map f))).length ≤ l.length * (B + s.length + 1) ∧ (J (C7 s (l.map f))).length ≤ l.length * (B + s.length + 1)
 | [], _ => by simp [a2E, C7, J]
 | x :: r, h => by
   have hx := h x (by simp)
   have ih := c0h s B r fun y hy => h y (List.mem_cons_of_mem _ hy)
   have hmul : (r.length + 1) * (B + s.length + 1) = r.length * (B + s.length + 1) + (B + s.length + 1) := Nat.succ_mul _ _
   simp only [List.map_cons, a2E, C7, J_c, J_a, List.length_cons, hmul]
   omega
theorem c2f {q : Eqn} (h : V8 q = true) : (J (wEq q)).length ≤ 300100 ∧ (J (wEq q)).length ≤ 60 * q.2.length + 60 := by
 obtain ⟨h1, h2⟩ := eqF h
 have := N3 h1
 have h3 := (ef h2).j
 have h4 := (ef h2).sz
 rw [wEq]; simp only [J_c, J_a, J_n, List.length_cons, List.length_nil]; omega
theorem b4J {l : List Pm} (h : ∀ p ∈ l, H9 p = true) : (J (C7 [59] (l.map wPm))).length ≤ l.length * 51 := by
 have := (c0h (f := wPm) [59] 49 l fun p hp => c0f (h p hp)).2
 simpa using this
theorem a0V (s : Str) (x y : List Str) (r : List (List Str)) : C7 s (x :: y :: r) = x ++ s :: C7 s (y :: r) := rfl
theorem a2D (s : Str) (x : List Str) : C7 s [x] = x := by simp [C7, a2E]
end Go.Proofs.YtlobhcgbmpcdlaaGreatDoor.R
