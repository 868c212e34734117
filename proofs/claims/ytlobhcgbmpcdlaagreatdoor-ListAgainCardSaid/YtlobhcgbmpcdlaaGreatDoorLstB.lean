import Derived.Test.YtlobhcgbmpcdlaaGreatDoorLstA
namespace Go.Proofs.YtlobhcgbmpcdlaaGreatDoor.R
open Go Go.Bm Go.Proofs
set_option linter.unusedVariables false
set_option linter.unusedSimpArgs false
set_option maxRecDepth 4000
section
variable {α : Type}
end
def a4K (q : Eqn) : Eqn := (q.1, norm q.2)
def P6 (x : Itm) : Itm := (x.1, x.2.1, x.2.2.1, norm x.2.2.2.1, norm x.2.2.2.2.1, x.2.2.2.2.2.map norm)
def T9 (u : Unt) : Unt := (u.1, u.2.1, u.2.2.1, u.2.2.2.1, u.2.2.2.2.1, u.2.2.2.2.2.1, u.2.2.2.2.2.2.1.map a4K, u.2.2.2.2.2.2.2.map P6)
def b4k (p : Prg) : Prg := (p.1.map T9, p.2)
theorem a4B {α : Type} {N : Nat} (pre : List α) (x : α) (suf : List α) (h : N = (pre ++ x :: suf).length) : decide (((pre.length : Nat) : Int) < ((N : Nat) : Int)) = true := by subst h; exact s4 pre x suf
theorem b1e {α : Type} {N : Nat} (pre : List α) (h : N = (pre ++ []).length) : decide (((pre.length : Nat) : Int) < ((N : Nat) : Int)) = false := by subst h; exact E4 pre
theorem c1q {n m : Nat} {x : Itm} (h : SzI n m x) : SzI n (max m 5001) (P6 x) :=
 ⟨Nat.le_trans a4H (by omega), Nat.le_trans a4H (by omega), by show (x.2.2.2.2.2.map norm).length ≤ n; rw [List.length_map]; exact h.c, fun y hy => by
  obtain ⟨z, _, rfl⟩ := List.mem_map.1 (show y ∈ x.2.2.2.2.2.map norm from hy)
  exact Nat.le_trans a4H (by omega)⟩
theorem c1s {n m : Nat} {u : Unt} (h : SzU n m u) : SzU n (max m 5001) (T9 u) :=
 ⟨h.i, h.v, by show (u.2.2.2.2.2.2.1.map a4K).length ≤ n; rw [List.length_map]; exact h.q, by show (u.2.2.2.2.2.2.2.map P6).length ≤ n; rw [List.length_map]; exact h.x,
  fun q hq => by
   obtain ⟨z, _, rfl⟩ := List.mem_map.1 (show q ∈ u.2.2.2.2.2.2.1.map a4K from hq)
   exact Nat.le_trans a4H (by omega),
  fun x hx => by
   obtain ⟨z, hz, rfl⟩ := List.mem_map.1 (show x ∈ u.2.2.2.2.2.2.2.map P6 from hx)
   exact c1q (h.xe z hz)⟩
theorem c1r {n m : Nat} {p : Prg} (h : SzP n m p) : SzP n (max m 5001) (b4k p) :=
 ⟨by show (p.1.map T9).length ≤ n; rw [List.length_map]; exact h.c, fun u hu => by
  obtain ⟨z, hz, rfl⟩ := List.mem_map.1 (show u ∈ p.1.map T9 from hu)
  exact c1s (h.u z hz)⟩
end Go.Proofs.YtlobhcgbmpcdlaaGreatDoor.R
