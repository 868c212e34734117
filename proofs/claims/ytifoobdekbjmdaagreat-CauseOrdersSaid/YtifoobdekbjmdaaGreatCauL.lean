/-
  OUR OWN: the laws of the order of equations (without the document's answer) come to true.
-/
import Derived.Test.YtifoobdekbjmdaaGreatCauX
import Derived.Test.YtifoobdekbjmdaaGreatResOk
namespace Go.Proofs.YtifoobdekbjmdaaGreat.R
open Go Go.Bm Go.Proofs
set_option linter.unusedVariables false
set_option linter.unusedSimpArgs false
set_option maxRecDepth 4000

theorem live_eq : c1 T.rf = some true := live_run

def fewQ (q : Eqn) : Bool := decide (q.2.length ≤ 100) && decide (q.1.length ≤ 100)
def fewB (l : List Eqn) : Bool := decide (l.length ≤ 40) && l.all fewQ
theorem fewE_loop : ∀ (suf pre : List Eqn), pre.length + suf.length ≤ 1000000 → k149 T.rb (pre ++ suf) (pre.length : Nat) = some (if suf.all fewQ = true then .inr () else .inl false)
  | [], pre, h => ob149 (by simp only [b149, lt_end, lt_self, List.append_nil, cond_false]; rfl)
  | q :: suf, pre, h => ob149 (by
    simp only [List.length_cons] at h
    have ih := fewE_loop suf (pre ++ [q]) (by simp; omega)
    simp only [List.append_assoc, List.singleton_append] at ih
    simp only [b149, lt_mid, inb_mid, nth_mid, cond_true, Option.bind_some, next_mid pre q (by omega), ih]
    rw [List.all_cons]
    by_cases h1 : q.2.length ≤ 100
    · rw [df (show ¬ ((q.2.length : Nat) : Int) > 100 by omega), cond_false]
      by_cases h2 : q.1.length ≤ 100
      · rw [df (show ¬ ((q.1.length : Nat) : Int) > 100 by omega), cond_false, show fewQ q = true from by rw [fewQ, dt h1, dt h2]; rfl, Bool.true_and]
      · rw [dt (show ((q.1.length : Nat) : Int) > 100 by omega), cond_true, show fewQ q = false from by rw [fewQ, df h2, Bool.and_false], Bool.false_and]; rfl
    · rw [dt (show ((q.2.length : Nat) : Int) > 100 by omega), cond_true, show fewQ q = false from by rw [fewQ, df h1]; rfl, Bool.false_and]; rfl)
theorem fewE_eq (l : List Eqn) : c105 T.rf l = some (fewB l) := or105 (by
  simp only [r105]
  by_cases h : l.length ≤ 40
  · have hl := fewE_loop l [] (by simp; omega)
    rw [List.nil_append, List.length_nil, show ((0 : Nat) : Int) = (0 : Int) from rfl] at hl
    rw [df (by omega), cond_false, hl, Option.bind_some, fewB, dt h, Bool.true_and]
    cases l.all fewQ <;> rfl
  · rw [dt (by omega), cond_true, fewB, df h]; rfl)
theorem few_P {l : List Eqn} (h : fewB l = true) : l.length ≤ 40 ∧ ∀ q ∈ l, q.2.length ≤ 100 := by
  rw [fewB, Bool.and_eq_true, decide_eq_true_iff, List.all_eq_true] at h
  refine ⟨h.1, fun q hq => ?_⟩
  have := h.2 q hq
  rw [fewQ, Bool.and_eq_true, decide_eq_true_iff] at this
  exact this.1

/-! Turned. -/
theorem eqAt_mem {l : List Eqn} {i : Nat} (h : i < l.length) : eqAt l i ∈ l := by
  rw [eqAt, List.getD_eq_getElem?_getD, List.getElem?_eq_getElem h]; exact List.getElem_mem h
theorem eqAt_turned {l : List Eqn} {i : Nat} (h : i < l.length) : eqAt l.reverse i = eqAt l (l.length - 1 - i) := by
  rw [eqAt, eqAt, List.getD_eq_getElem?_getD, List.getD_eq_getElem?_getD, List.getElem?_reverse h]
theorem eqAt_take {l : List Eqn} {m i : Nat} (h : i < m) : eqAt (l.take m) i = eqAt l i := by
  rw [eqAt, eqAt, List.getD_eq_getElem?_getD, List.getD_eq_getElem?_getD, List.getElem?_take, if_pos h]

noncomputable def D0 (p q : Eqn) : Bool := decide (q.1 ∈ needs p.2)
theorem DL_congr {l l' : List Eqn} {i j i' j' : Nat} (hi : eqAt l' i' = eqAt l i) (hj : eqAt l' j' = eqAt l j) : DL l' i' j' = DL l i j := by
  show D0 (eqAt l' i') (eqAt l' j') = D0 (eqAt l i) (eqAt l j)
  rw [hi, hj]

/-! Free. -/
/-! Later. -/
theorem addV_more {l l' : List (List UInt8)} (x : List UInt8) (h : ∀ y ∈ l, y ∈ l') : (addV l' x).length + l.length ≤ (addV l x).length + l'.length ∧ ∀ y ∈ addV l x, y ∈ addV l' x := by
  unfold addV
  by_cases h1 : x ∈ l
  · rw [if_pos h1, if_pos (h x h1)]; exact ⟨by omega, h⟩
  · rw [if_neg h1]
    by_cases h2 : x ∈ l'
    · rw [if_pos h2]
      refine ⟨by simp; omega, fun y hy => ?_⟩
      rcases List.mem_append.1 hy with a | a
      · exact h y a
      · rw [List.mem_singleton.1 a]; exact h2
    · rw [if_neg h2]
      refine ⟨by simp; omega, fun y hy => ?_⟩
      rcases List.mem_append.1 hy with a | a
      · exact List.mem_append_left _ (h y a)
      · exact List.mem_append_right _ a
mutual
theorem nowT_more : ∀ (t : Tr) (l l' : List (List UInt8)), (∀ y ∈ l, y ∈ l') → (nowT t l').length + l.length ≤ (nowT t l).length + l'.length ∧ ∀ y ∈ nowT t l, y ∈ nowT t l'
  | .mk b ks, l, l', h => by
    have h2 := nowTs_more ks l l' h
    rw [nowT, nowT]
    by_cases h1 : b.1 = 21 ∨ b.1 = 24
    · rw [if_pos h1, if_pos h1]; exact ⟨by omega, h⟩
    · rw [if_neg h1, if_neg h1]
      by_cases h3 : b.1 = 3
      · rw [if_pos h3, if_pos h3]; exact addV_more _ h
      · rw [if_neg h3, if_neg h3]; exact h2
theorem nowTs_more : ∀ (ts : List Tr) (l l' : List (List UInt8)), (∀ y ∈ l, y ∈ l') → (nowTs ts l').length + l.length ≤ (nowTs ts l).length + l'.length ∧ ∀ y ∈ nowTs ts l, y ∈ nowTs ts l'
  | [], l, l', h => by rw [nowTs, nowTs]; exact ⟨by omega, h⟩
  | t :: r, l, l', h => by
    have h1 := nowT_more t l l' h
    have h2 := nowTs_more r _ _ h1.2
    rw [nowTs, nowTs]; exact ⟨by omega, h2.2⟩
end
mutual
theorem nowT_ext : ∀ (t : Tr) (l : List (List UInt8)), ∃ m, nowT t l = l ++ m
  | .mk b ks, l => by
    obtain ⟨m, h2⟩ := nowTs_ext ks l
    rw [nowT]
    split
    · exact ⟨[], by simp⟩
    · split
      · unfold addV; split
        · exact ⟨[], by simp⟩
        · exact ⟨_, rfl⟩
      · exact ⟨m, h2⟩
theorem nowTs_ext : ∀ (ts : List Tr) (l : List (List UInt8)), ∃ m, nowTs ts l = l ++ m
  | [], l => ⟨[], by simp [nowTs]⟩
  | t :: r, l => by
    obtain ⟨m, h1⟩ := nowT_ext t l
    obtain ⟨m2, h2⟩ := nowTs_ext r (nowT t l)
    exact ⟨m ++ m2, by rw [nowTs, h2, h1, List.append_assoc]⟩
end

/-! Behind. -/
/-- The place at which each one stands. -/
def posF (A : List Nat) (k : Nat) : Int := if k ∈ A then ((A.idxOf k : Nat) : Int) + 1 else 0
theorem posF_snoc {A : List Nat} {x : Nat} (hx : x ∉ A) (k : Nat) : posF (A ++ [x]) k = if k = x then ((A.length : Nat) : Int) + 1 else posF A k := by
  unfold posF
  rw [List.idxOf_append]
  by_cases e : k = x
  · subst e
    rw [if_pos rfl, if_pos (by simp), if_neg hx]; simp
  · rw [if_neg e]
    by_cases h : k ∈ A
    · rw [if_pos (by simp [h]), if_pos h, if_pos h]
    · rw [if_neg (by simp [h, e]), if_neg h]
end Go.Proofs.YtifoobdekbjmdaaGreat.R
