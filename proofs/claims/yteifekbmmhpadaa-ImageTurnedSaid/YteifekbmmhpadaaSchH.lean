/-
  OUR OWN: rows of what a function tells; heaps of the numbers of which something is so.
-/
import Derived.Test.YteifekbmmhpadaaSchB
import Derived.Test.YteifekbmmhpadaaCauG
namespace Go.Proofs.Yteifekbmmhpadaa.R
open Go Go.Bm Go.Proofs
set_option linter.unusedVariables false
set_option linter.unusedSimpArgs false
set_option maxRecDepth 4000

/-- A row of what a function tells. -/
def rowF {α : Type} (n : Nat) (f : Nat → α) : List α := (List.range n).map f
section
variable {α : Type}
theorem rowF_len (n : Nat) (f : Nat → α) : (rowF n f).length = n := by simp [rowF]
theorem rowF_get {n i : Nat} (f : Nat → α) (h : i < n) : nth (rowF n f) i = some (f i) := by
  rw [nth_getElem?, rowF, List.getElem?_map, List.getElem?_range h]; rfl
theorem rowF_congr {n : Nat} {f g : Nat → α} (h : ∀ i, i < n → f i = g i) : rowF n f = rowF n g := List.map_congr_left fun i hi => h i (List.mem_range.1 hi)
theorem rowF_set {n i : Nat} (f : Nat → α) (y : α) : setNth (rowF n f) i y = rowF n (fun j => if j = i then y else f j) := by
  rw [setNth_set]
  refine List.ext_getElem? fun k => ?_
  rw [List.getElem?_set, rowF, rowF, List.getElem?_map, List.getElem?_map, List.length_map, List.length_range]
  by_cases e : i = k
  · subst e
    rw [if_pos rfl]
    by_cases h : i < n
    · rw [if_pos h, List.getElem?_range h]; simp
    · rw [if_neg h, List.getElem?_eq_none (by simp; omega)]; rfl
  · rw [if_neg e]
    by_cases h : k < n
    · rw [List.getElem?_range h]; simp [Ne.symm e]
    · rw [List.getElem?_eq_none (by simp; omega)]; rfl
theorem rowF_rep (n : Nat) (x : α) : List.replicate n x = rowF n fun _ => x := by
  refine List.ext_getElem? fun k => ?_
  rw [rowF, List.getElem?_map, List.getElem?_replicate]
  by_cases h : k < n
  · rw [if_pos h, List.getElem?_range h]; rfl
  · rw [if_neg h, List.getElem?_eq_none (by simp; omega)]; rfl
end
theorem ints_len (l : List Nat) : (ints l).length = l.length := by simp [ints]
theorem ints_app (l m : List Nat) : ints (l ++ m) = ints l ++ ints m := by simp [ints]
theorem ints_cons (k : Nat) (l : List Nat) : ints (k :: l) = (k : Int) :: ints l := rfl

/-- A heap of the numbers of which something is so. -/
def HeapOf (h : List Int) (S : Nat → Prop) : Prop := HeapP h ∧ h.Nodup ∧ ∀ x, x ∈ h ↔ ∃ j : Nat, x = (j : Int) ∧ S j
theorem heapOf_congr {h : List Int} {S S' : Nat → Prop} (H : HeapOf h S) (e : ∀ j, S j ↔ S' j) : HeapOf h S' :=
  ⟨H.1, H.2.1, fun x => (H.2.2 x).trans ⟨fun ⟨j, a, b⟩ => ⟨j, a, (e j).1 b⟩, fun ⟨j, a, b⟩ => ⟨j, a, (e j).2 b⟩⟩⟩
theorem heapOf_nil {S : Nat → Prop} (h : ∀ j, ¬ S j) : HeapOf [] S := ⟨fun i _ hi => absurd hi (by simp), List.nodup_nil, fun x => ⟨fun a => absurd a (by simp), fun ⟨j, _, b⟩ => absurd b (h j)⟩⟩
theorem heapOf_len {h : List Int} {S : Nat → Prop} {n : Nat} (H : HeapOf h S) (hS : ∀ j, S j → j < n) : h.length ≤ n := by
  have := sub_len (m := ints (List.range n)) H.2.1 (fun x hx => by
    obtain ⟨j, rfl, hj⟩ := (H.2.2 x).1 hx
    exact List.mem_map.2 ⟨j, List.mem_range.2 (hS j hj), rfl⟩)
  rw [ints_len, List.length_range] at this; exact this
end Go.Proofs.Yteifekbmmhpadaa.R
