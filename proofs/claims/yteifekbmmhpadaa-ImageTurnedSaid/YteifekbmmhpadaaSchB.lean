/-
  OUR OWN: numbers in a heap, the least one first.
-/
import Derived.Test.YteifekbmmhpadaaResRun
import Derived.Test.YteifekbmmhpadaaBmPl
namespace Go.Proofs.Yteifekbmmhpadaa.R
open Go Go.Bm Go.Proofs
set_option linter.unusedVariables false
set_option linter.unusedSimpArgs false
set_option maxRecDepth 4000

def at0 (l : List Int) (i : Nat) : Int := l.getD i 0
theorem nth_at {l : List Int} {i : Nat} (h : i < l.length) : nth l i = some (at0 l i) := by
  rw [nth_t h, at0, List.getD_eq_getElem?_getD, List.getElem?_eq_getElem h]; rfl
theorem at_get {l : List Int} {i : Nat} (h : i < l.length) : at0 l i = l[i] := by
  rw [at0, List.getD_eq_getElem?_getD, List.getElem?_eq_getElem h]; rfl
theorem at_set {l : List Int} {i j : Nat} (y : Int) (h : i < l.length) : at0 (l.set i y) j = if j = i then y else at0 l j := by
  simp only [at0, List.getD_eq_getElem?_getD, List.getElem?_set]
  by_cases e : i = j
  · subst e; rw [if_pos rfl, if_pos h, if_pos rfl]; rfl
  · rw [if_neg e, if_neg (fun x => e x.symm)]
theorem at_app {l : List Int} {x : Int} {i : Nat} : at0 (l ++ [x]) i = if i < l.length then at0 l i else if i = l.length then x else 0 := by
  simp only [at0, List.getD_eq_getElem?_getD]
  by_cases h : i < l.length
  · rw [if_pos h, List.getElem?_append_left h]
  · rw [if_neg h, List.getElem?_append_right (by omega)]
    by_cases e : i = l.length
    · subst e; simp
    · rw [if_neg e]
      rw [List.getElem?_eq_none (by simp; omega)]; rfl
theorem at_take {l : List Int} {n i : Nat} (h : i < n) : at0 (l.take n) i = at0 l i := by
  simp only [at0, List.getD_eq_getElem?_getD, List.getElem?_take, if_pos h]

/-- Two numbers in each other's places. -/
def swp (l : List Int) (i j : Nat) : List Int := (l.set i (at0 l j)).set j (at0 l i)
theorem swp_len (l : List Int) (i j : Nat) : (swp l i j).length = l.length := by simp [swp]
theorem at_swp {l : List Int} {i j k : Nat} (hi : i < l.length) (hj : j < l.length) : at0 (swp l i j) k = if k = j then at0 l i else if k = i then at0 l j else at0 l k := by
  rw [swp, at_set _ (by simpa using hj), at_set _ hi]
theorem swp_perm {l : List Int} {i j : Nat} (hi : i < l.length) (hj : j < l.length) : (swp l i j).Perm l := by
  rw [swp, at_get hi, at_get hj]; exact List.set_set_perm hi hj

def HeapN (l : List Int) (n : Nat) : Prop := ∀ i, 0 < i → i < n → at0 l ((i - 1) / 2) ≤ at0 l i
def HeapP (l : List Int) : Prop := HeapN l l.length
def UpH (l : List Int) (j : Nat) : Prop :=
  (∀ i, 0 < i → i < l.length → i ≠ j → at0 l ((i - 1) / 2) ≤ at0 l i) ∧ (∀ i, 0 < i → i < l.length → (i - 1) / 2 = j → 0 < j → at0 l ((j - 1) / 2) ≤ at0 l i)
def DownH (l : List Int) (n i : Nat) : Prop :=
  (∀ j, 0 < j → j < n → (j - 1) / 2 ≠ i → at0 l ((j - 1) / 2) ≤ at0 l j) ∧ (∀ j, 0 < j → j < n → (j - 1) / 2 = i → 0 < i → at0 l ((i - 1) / 2) ≤ at0 l j)

theorem heap_least {l : List Int} {n : Nat} (h : HeapN l n) : ∀ (m i : Nat), i ≤ m → i < n → at0 l 0 ≤ at0 l i
  | m, 0, _, _ => Int.le_refl _
  | 0, i + 1, h1, _ => by omega
  | m + 1, i + 1, h1, h2 => by
    have := h (i + 1) (by omega) h2
    have h3 := heap_least h m ((i + 1 - 1) / 2) (by omega) (by omega)
    omega

theorem up_step {l : List Int} {j : Nat} (hj : 0 < j) (hjl : j < l.length) (h : UpH l j) (hlt : at0 l j < at0 l ((j - 1) / 2)) : UpH (swp l ((j - 1) / 2) j) ((j - 1) / 2) := by
  have hp : (j - 1) / 2 < l.length := by omega
  refine ⟨fun i h0 hi hne => ?_, fun i h0 hi he h1 => ?_⟩
  · rw [swp_len] at hi
    have a := h.1 i h0 hi
    have b := h.2 i h0 hi
    rw [at_swp hp hjl, at_swp hp hjl]
    by_cases e1 : i = j
    · subst e1
      rw [if_neg (show ¬ ((i - 1) / 2 = i) by omega), if_pos rfl, if_pos rfl]; omega
    · have a := a e1
      rw [if_neg e1, if_neg hne]
      by_cases e2 : (i - 1) / 2 = j
      · rw [if_pos e2]; exact b e2 hj
      · rw [if_neg e2]
        by_cases e3 : (i - 1) / 2 = (j - 1) / 2
        · rw [if_pos e3]; rw [e3] at a; omega
        · rw [if_neg e3]; exact a
  · rw [swp_len] at hi
    have hpp := h.1 ((j - 1) / 2) h1 hp (by omega)
    rw [at_swp hp hjl, at_swp hp hjl, if_neg (show ¬ (((j - 1) / 2 - 1) / 2 = j) by omega), if_neg (show ¬ (((j - 1) / 2 - 1) / 2 = (j - 1) / 2) by omega)]
    by_cases e1 : i = j
    · rw [if_pos e1]; exact hpp
    · have a := h.1 i h0 hi e1
      rw [if_neg e1, if_neg (show ¬ (i = (j - 1) / 2) by omega)]
      rw [he] at a; omega

theorem down_step {l : List Int} {n i j : Nat} (hn : n ≤ l.length) (hj : j < n) (hji : 0 < j ∧ (j - 1) / 2 = i) (h : DownH l n i) (hlt : at0 l j < at0 l i) (hmin : ∀ k, 0 < k → k < n → (k - 1) / 2 = i → at0 l j ≤ at0 l k) : DownH (swp l i j) n j := by
  have hi : i < l.length := by omega
  have hjl : j < l.length := by omega
  refine ⟨fun k h0 hk hne => ?_, fun k h0 hk he h1 => ?_⟩
  · have a := h.1 k h0 hk
    have b := h.2 k h0 hk
    rw [at_swp hi hjl, at_swp hi hjl, if_neg hne]
    by_cases e1 : (k - 1) / 2 = i
    · rw [if_pos e1]
      by_cases e2 : k = j
      · rw [if_pos e2]; omega
      · rw [if_neg e2, if_neg (show ¬ (k = i) by omega)]; exact hmin k h0 hk e1
    · have a := a e1
      rw [if_neg e1]
      by_cases e2 : k = j
      · omega
      · rw [if_neg e2]
        by_cases e3 : k = i
        · subst e3
          rw [if_pos rfl]
          exact h.2 j hji.1 hj hji.2 h0
        · rw [if_neg e3]; exact a
  · have a := h.1 k h0 hk (by omega)
    rw [at_swp hi hjl, at_swp hi hjl, hji.2, if_neg (show ¬ (i = j) by omega), if_pos rfl, if_neg (show ¬ (k = j) by omega), if_neg (show ¬ (k = i) by omega)]
    rw [he] at a; exact a

theorem half {j : Nat} (h : 0 < j) (h2 : j ≤ 1000000) : IntKind.i64.wrap (Int.tdiv (IntKind.i64.wrap ((j : Int) - 1)) 2) = (((j - 1) / 2 : Nat) : Int) := by
  rw [wr (x := (j : Int) - 1) (by omega), show (j : Int) - 1 = ((j - 1 : Nat) : Int) by omega, show Int.tdiv ((j - 1 : Nat) : Int) 2 = (((j - 1) / 2 : Nat) : Int) from by rw [Int.tdiv_eq_ediv_of_nonneg (by omega)]; omega]
  exact wr (by omega)

end Go.Proofs.Yteifekbmmhpadaa.R
