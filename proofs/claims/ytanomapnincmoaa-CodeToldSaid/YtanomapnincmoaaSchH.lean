/-
  OUR OWN: rows of what a function tells; heaps of the numbers of which something is so.
-/
import Derived.Test.YtanomapnincmoaaSchB
import Derived.Test.YtanomapnincmoaaCauG
namespace Go.Proofs.Ytanomapnincmoaa.R
open Go Go.Bm Go.Proofs
set_option linter.unusedVariables false
set_option linter.unusedSimpArgs false
set_option maxRecDepth 4000

/-- A row of what a function tells. -/
def rowF {α : Type} (n : Nat) (f : Nat → α) : List α := (List.range n).map f
section
variable {α : Type}
theorem rowF_len (n : Nat) (f : Nat → α) : (rowF n f).length = n := by simp [rowF]
theorem rowF_get {n i : Nat} (f : Nat → α) (h : i < n) : nth (rowF n f) i = some (f i) := by
  rw [nth_getElem?, rowF, List.getElem?_map, List.getElem?_range h]; rfl
theorem rowF_congr {n : Nat} {f g : Nat → α} (h : ∀ i, i < n → f i = g i) : rowF n f = rowF n g := List.map_congr_left fun i hi => h i (List.mem_range.1 hi)
theorem rowF_set {n i : Nat} (f : Nat → α) (y : α) : setNth (rowF n f) i y = rowF n (fun j => if j = i then y else f j) := by
  rw [setNth_set]
  refine List.ext_getElem? fun k => ?_
  rw [List.getElem?_set, rowF, rowF, List.getElem?_map, List.getElem?_map, List.length_map, List.length_range]
  by_cases e : i = k
  · subst e
    rw [if_pos rfl]
    by_cases h : i < n
    · rw [if_pos h, List.getElem?_range h]; simp
    · rw [if_neg h, List.getElem?_eq_none (by simp; omega)]; rfl
  · rw [if_neg e]
    by_cases h : k < n
    · rw [List.getElem?_range h]; simp [Ne.symm e]
    · rw [List.getElem?_eq_none (by simp; omega)]; rfl
theorem rowF_rep (n : Nat) (x : α) : List.replicate n x = rowF n fun _ => x := by
  refine List.ext_getElem? fun k => ?_
  rw [rowF, List.getElem?_map, List.getElem?_replicate]
  by_cases h : k < n
  · rw [if_pos h, List.getElem?_range h]; rfl
  · rw [if_neg h, List.getElem?_eq_none (by simp; omega)]; rfl
end
theorem ints_len (l : List Nat) : (ints l).length = l.length := by simp [ints]
theorem ints_app (l m : List Nat) : ints (l ++ m) = ints l ++ ints m := by simp [ints]
theorem ints_cons (k : Nat) (l : List Nat) : ints (k :: l) = (k : Int) :: ints l := rfl

/-- A heap of the numbers of which something is so. -/
def HeapOf (h : List Int) (S : Nat → Prop) : Prop := HeapP h ∧ h.Nodup ∧ ∀ x, x ∈ h ↔ ∃ j : Nat, x = (j : Int) ∧ S j
theorem heapOf_congr {h : List Int} {S S' : Nat → Prop} (H : HeapOf h S) (e : ∀ j, S j ↔ S' j) : HeapOf h S' :=
  ⟨H.1, H.2.1, fun x => (H.2.2 x).trans ⟨fun ⟨j, a, b⟩ => ⟨j, a, (e j).1 b⟩, fun ⟨j, a, b⟩ => ⟨j, a, (e j).2 b⟩⟩⟩
theorem heapOf_nil {S : Nat → Prop} (h : ∀ j, ¬ S j) : HeapOf [] S := ⟨fun i _ hi => absurd hi (by simp), List.nodup_nil, fun x => ⟨fun a => absurd a (by simp), fun ⟨j, _, b⟩ => absurd b (h j)⟩⟩
theorem heapOf_len {h : List Int} {S : Nat → Prop} {n : Nat} (H : HeapOf h S) (hS : ∀ j, S j → j < n) : h.length ≤ n := by
  have := sub_len (m := ints (List.range n)) H.2.1 (fun x hx => by
    obtain ⟨j, rfl, hj⟩ := (H.2.2 x).1 hx
    exact List.mem_map.2 ⟨j, List.mem_range.2 (hS j hj), rfl⟩)
  rw [ints_len, List.length_range] at this; exact this
theorem heapOf_push {h : List Int} {S : Nat → Prop} {k : Nat} (H : HeapOf h S) (hk : ¬ S k) (hl : h.length < 1000000) : ∃ h', c28 T.rf h (k : Nat) = some h' ∧ HeapOf h' (fun j => S j ∨ j = k) := by
  obtain ⟨h', h1, h2, h3⟩ := push_spec (k : Int) H.1 hl
  refine ⟨h', h1, h2, h3.nodup_iff.2 (List.nodup_cons.2 ⟨fun x => ?_, H.2.1⟩), fun x => ?_⟩
  · obtain ⟨j, e, hj⟩ := (H.2.2 _).1 x
    exact hk ((Int.ofNat_inj.1 e) ▸ hj)
  · rw [h3.mem_iff, List.mem_cons, H.2.2]
    constructor
    · rintro (e | ⟨j, e, hj⟩)
      · exact ⟨k, e, Or.inr rfl⟩
      · exact ⟨j, e, Or.inl hj⟩
    · rintro ⟨j, e, hj | hj⟩
      · exact Or.inr ⟨j, e, hj⟩
      · exact Or.inl (hj ▸ e)
theorem heapOf_pop {h : List Int} {S : Nat → Prop} (H : HeapOf h S) (h0 : h ≠ []) (hl : h.length < 1000000) : ∃ h' i, c34 T.rf h = some (h', ((i : Nat) : Int)) ∧ S i ∧ (∀ j, S j → i ≤ j) ∧ HeapOf h' (fun j => S j ∧ j ≠ i) := by
  obtain ⟨h', h1, h2, h3, h4⟩ := pop_spec H.1 h0 hl
  have hm : at0 h 0 ∈ h := h3.mem_iff.2 List.mem_cons_self
  obtain ⟨i, hi, hs⟩ := (H.2.2 _).1 hm
  have hn := h3.nodup_iff.1 H.2.1
  rw [List.nodup_cons] at hn
  refine ⟨h', i, by rw [← hi]; exact h1, hs, fun j hj => ?_, h2, hn.2, fun x => ?_⟩
  · have := h4 _ ((H.2.2 _).2 ⟨j, rfl, hj⟩)
    omega
  · have hx := h3.mem_iff (a := x)
    rw [H.2.2, List.mem_cons] at hx
    constructor
    · intro hxm
      obtain ⟨j, e, hj⟩ := hx.2 (Or.inr hxm)
      exact ⟨j, e, hj, fun e2 => hn.1 (by rw [hi, ← e2, ← e]; exact hxm)⟩
    · rintro ⟨j, e, hj, hne⟩
      rcases hx.1 ⟨j, e, hj⟩ with e2 | e2
      · exact absurd (Int.ofNat_inj.1 (by rw [← e, e2, hi])) hne
      · exact e2

end Go.Proofs.Ytanomapnincmoaa.R
