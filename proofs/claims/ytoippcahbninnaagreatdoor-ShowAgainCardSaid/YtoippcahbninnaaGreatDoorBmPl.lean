/-
  OUR OWN: the plain words that a walked function is written in: laws.
-/
import Derived.Test.YtoippcahbninnaaGreatDoorBmRun
import Derived.IntWalk
namespace Go.Bm
set_option linter.unusedVariables false
set_option linter.unusedSimpArgs false

theorem wr {x : Int} (h : -9223372036854775808 ≤ x ∧ x ≤ 9223372036854775807) : IntKind.i64.wrap x = x := IntWalk.i64_in x h
theorem wr_succ {i : Nat} (h : i < 4611686018427387904) : IntKind.i64.wrap ((i : Int) + 1) = ((i + 1 : Nat) : Int) := by rw [wr (by omega)]; omega
theorem wr_pred {i : Nat} (h : i < 4611686018427387904) : IntKind.i64.wrap ((i : Int) - 1) = (i : Int) - 1 := wr (by omega)
theorem inb_nat (i n : Nat) : inb (i : Int) n = decide (i < n) := by
  cases h : inb (i : Int) n
  · have : ¬ (inb (i : Int) n = true) := by rw [h]; decide
    rw [inb_iff] at this
    exact (decide_eq_false (by omega)).symm
  · rw [inb_iff] at h; exact (decide_eq_true (by omega)).symm
theorem inb'_nat (i n : Nat) : inb' (i : Int) n = decide (i ≤ n) := by
  cases h : inb' (i : Int) n
  · have : ¬ (inb' (i : Int) n = true) := by rw [h]; decide
    rw [inb'_iff] at this
    exact (decide_eq_false (by omega)).symm
  · rw [inb'_iff] at h; exact (decide_eq_true (by omega)).symm
theorem inb_t {x : Int} {n : Nat} (h : 0 ≤ x) (h2 : x < n) : inb x n = true := inb_iff.2 ⟨h, h2⟩
theorem inb'_t {x : Int} {n : Nat} (h : 0 ≤ x) (h2 : x ≤ n) : inb' x n = true := inb'_iff.2 ⟨h, h2⟩
theorem ble_t {a b : Nat} (h : a ≤ b) : Nat.ble a b = true := Nat.ble_eq_true_of_le h
theorem blt_t {a b : Nat} (h : a < b) : Nat.blt a b = true := by rw [Nat.blt_eq]; exact h
theorem ble_most {a : Nat} (h : a ≤ 274877906944) : Nat.ble a most = true := ble_t h
theorem dt {p : Prop} [Decidable p] (h : p) : decide p = true := decide_eq_true h
theorem df {p : Prop} [Decidable p] (h : ¬ p) : decide p = false := decide_eq_false h
theorem bt {a b : Int} (h : a = b) : (a == b) = true := beq_iff_eq.2 h
theorem bf {a b : Int} (h : a ≠ b) : (a == b) = false := beq_eq_false_iff_ne.2 h
theorem nbt {a b : Int} (h : a = b) : (a != b) = false := by rw [bne, bt h]; rfl
theorem nbf {a b : Int} (h : a ≠ b) : (a != b) = true := by rw [bne, bf h]; rfl
theorem setNth_set {α : Type} : ∀ (l : List α) (i : Nat) (y : α), setNth l i y = l.set i y
  | [], _, _ => rfl
  | _ :: _, 0, _ => rfl
  | x :: l, i + 1, y => by simp [setNth, setNth_set l i y]
theorem sub_zero {α : Type} (l : List α) (n : Nat) : sub l (some (0, n)) = l.take n := rfl

section
variable {α : Type}
theorem nth_t {l : List α} {i : Nat} (h : i < l.length) : nth l i = some l[i] := by rw [nth_getElem?]; exact List.getElem?_eq_getElem h
theorem nth_mid (pre : List α) (x : α) (suf : List α) : nth (pre ++ x :: suf) (pre.length : Int).toNat = some x := by
  rw [nth_getElem?, Int.toNat_natCast]; simp
theorem inb_mid (pre : List α) (x : α) (suf : List α) : inb (pre.length : Int) (pre ++ x :: suf).length = true := by rw [inb_nat]; exact dt (by simp)
theorem lt_mid (pre : List α) (x : α) (suf : List α) : decide ((pre.length : Int) < ((pre ++ x :: suf).length : Nat)) = true := dt (by simp; omega)
theorem lt_end (pre : List α) : decide ((pre.length : Int) < ((pre ++ []).length : Nat)) = false := df (by simp)
theorem lt_self (n : Nat) : decide ((n : Int) < (n : Int)) = false := df (by omega)
theorem next_mid (pre : List α) (x : α) (h : pre.length < 4611686018427387904) : IntKind.i64.wrap ((pre.length : Int) + 1) = ((pre ++ [x]).length : Nat) := by rw [wr_succ h]; simp
end

/-- The last one's number. -/
theorem last_i {α : Type} {l : List α} (h : l ≠ []) (h2 : l.length < 4611686018427387904) : IntKind.i64.wrap ((l.length : Int) - 1) = ((l.length - 1 : Nat) : Int) := by
  have : 0 < l.length := List.length_pos_iff.2 h
  rw [wr (by omega)]; omega

end Go.Bm
