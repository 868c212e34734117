/-
  OUR OWN: the law TreeJoins comes to true.
-/
import Derived.Test.YtcmdngadpplodaaTreeB
import Derived.Test.YtcmdngadpplodaaResOk
namespace Go.Proofs.Ytcmdngadpplodaa.R
open Go Go.Bm Go.Proofs
set_option linter.unusedVariables false
set_option linter.unusedSimpArgs false
set_option maxRecDepth 4000

theorem live_eq : c2 T.rf = some true := live_run

theorem Joins_loop0 : ∀ (suf pre out : List (List Nd)), out.length + suf.length ≤ 1000 → pre.length + suf.length ≤ 1000 →
    (∃ b, k49 T.rb out (pre ++ suf) (pre.length : Nat) = some (.inl b) ∧ b = true) ∨
    (k49 T.rb out (pre ++ suf) (pre.length : Nat) = some (.inr (out ++ suf)) ∧ ∀ p ∈ suf, p.length ≤ 100)
  | [], pre, out, h, h2 => .inr ⟨ob49 (by
      simp only [b49, lt_end, lt_self, List.append_nil, cond_false]), fun _ h => by cases h⟩
  | p :: suf, pre, out, h, h2 => by
    simp only [List.length_cons] at h h2
    by_cases hp : p.length ≤ 100
    · have ih := Joins_loop0 suf (pre ++ [p]) (out ++ [p]) (by simp; omega) (by simp; omega)
      simp only [List.append_assoc, List.singleton_append] at ih
      have step : ∀ r, k49 T.rb (out ++ [p]) (pre ++ p :: suf) ((pre ++ [p]).length : Nat) = some r → k49 T.rb out (pre ++ p :: suf) (pre.length : Nat) = some r := fun r hr => ob49 (by
        simp only [b49, lt_mid, inb_mid, nth_mid, cond_true, Option.bind_some, few_eq, dt (show ((p.length : Nat) : Int) ≤ 100 by omega), Bool.not_true, cond_false, Copy_eq (show p.length ≤ 274877906944 by omega), ble_most (show out.length + 1 ≤ 274877906944 by omega), Bool.and_true, next_mid pre p (by omega)]
        exact hr)
      rcases ih with ⟨b, h1, h3⟩ | ⟨h1, h3⟩
      · exact .inl ⟨b, step _ h1, h3⟩
      · refine .inr ⟨step _ h1, fun q hq => ?_⟩
        rcases List.mem_cons.1 hq with rfl | hq
        · exact hp
        · exact h3 q hq
    · refine .inl ⟨true, ob49 ?_, rfl⟩
      simp only [b49, lt_mid, inb_mid, nth_mid, cond_true, Option.bind_some, few_eq, df (show ¬ ((p.length : Nat) : Int) ≤ 100 by omega), Bool.not_false, live_eq]

theorem Joins_loop2 : ∀ (suf pre : List (List Nd)), pre.length + suf.length ≤ 1000 → (∀ p ∈ suf, p.length ≤ 100) →
    k50 T.rb (pre ++ suf) (pre ++ suf) (pre.length : Nat) = some (.inr ())
  | [], pre, h, h2 => ob50 (by
      simp only [b50, lt_end, lt_self, List.append_nil, cond_false])
  | p :: suf, pre, h, h2 => ob50 (by
    simp only [List.length_cons] at h
    have ih := Joins_loop2 suf (pre ++ [p]) (by simp; omega) (fun q hq => h2 q (List.mem_cons_of_mem _ hq))
    simp only [List.append_assoc, List.singleton_append] at ih
    have hp := h2 p (List.mem_cons_self)
    simp only [b50, lt_mid, inb_mid, nth_mid, cond_true, Option.bind_some, Same_eq (show p.length < 4611686018427387904 by omega) (show p.length < 4611686018427387904 by omega), decide_true, Bool.not_true, cond_false, next_mid pre p (by omega)]
    exact ih)

theorem total_le : ∀ (ps : List (List Nd)), (∀ p ∈ ps, p.length ≤ 100) → total ps ≤ 101 * ps.length
  | [], _ => by simp [total]
  | p :: r, h => by
    have := total_le r (fun q hq => h q (List.mem_cons_of_mem _ hq))
    have hp := h p (List.mem_cons_self)
    simp only [total, List.length_cons]; omega

theorem join_len {op n : Int} {nm : List UInt8} {ps : List (List Nd)} : (join op n nm ps).length ≤ total ps + 1 := by
  unfold join
  split
  · simp
  split
  · simp
  split
  · simp
  · rename_i o ks l hj
    have := joinL_len op ps _ _ _ _ _ _ hj
    simp only [List.length_append, List.length_nil, List.length_singleton] at this ⊢; omega

theorem TreeJoins_eq (n : Nd) (ps : List (List Nd)) : c36 T.rf n ps = some true := or36 (by
  simp only [r36, live_eq, Option.bind_some]
  by_cases hl : ps.length ≤ 20
  · rw [df (by omega), cond_false]
    have h0 := Joins_loop0 ps [] [] (by simp; omega) (by simp; omega)
    simp only [List.nil_append, List.length_nil] at h0
    rw [show (0 : Int) = ((0 : Nat) : Int) from rfl]
    rcases h0 with ⟨b, h1, rfl⟩ | ⟨h1, h2⟩
    · rw [h1]; rfl
    · have ht := total_le ps h2
      have h3 := Joins_loop2 ps [] (by simp; omega) h2
      simp only [List.nil_append, List.length_nil] at h3
      have hj : ∀ op n nm, (join op n nm ps).length < 4611686018427387904 := fun op n nm => by
        have := join_len (op := op) (n := n) (nm := nm) (ps := ps)
        omega
      rw [h1, Option.bind_some]
      simp only [Join_eq (show total ps < 274877906944 by omega) (show ps.length < 274877906944 by omega), h3, refJoin_eq (show total ps < 274877906944 by omega) (show ps.length < 274877906944 by omega), Option.bind_some, Same_eq (hj _ _ _) (hj _ _ _), decide_true, cond_true]
  · rw [dt (by omega), cond_true])

theorem lawTreeJoins : LawOk T 36 := fun d _ => ⟨true, TreeJoins_eq d.1 d.2, rfl, rfl, rfl⟩

end Go.Proofs.Ytcmdngadpplodaa.R
