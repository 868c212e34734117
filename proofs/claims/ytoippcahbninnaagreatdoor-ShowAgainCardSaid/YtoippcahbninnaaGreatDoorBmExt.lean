/-
  OUR OWN: functions of other texts (the library's, or walked by hand): what they come to; what a call of one is worth.
-/
import Derived.Test.YtoippcahbninnaaGreatDoorBmRun
import Derived.Lib.ItoaNum
import Derived.Lib.LaidTab
namespace Go.Bm
set_option linter.unusedVariables false
set_option linter.unusedSimpArgs false

/-- A byte of a name. -/
def partB (c : UInt8) : Bool := (Nat.ble 97 c.toNat && Nat.ble c.toNat 122) || Nat.beq c.toNat 95 || (Nat.ble 48 c.toNat && Nat.ble c.toNat 57)
/-- What a text begins with, as long as it is bytes of a name. -/
def rowX : List UInt8 → List UInt8
  | [] => []
  | c :: r => bif partB c then c :: rowX r else []

/-- Tokens' texts, one blank between any two. -/
def joinR : List (Int × List UInt8 × Int) → List UInt8
  | [] => []
  | x :: r => 32 :: (x.2.1 ++ joinR r)
def joinX : List (Int × List UInt8 × Int) → List UInt8
  | [] => []
  | x :: r => x.2.1 ++ joinR r

/-- A number's digits. -/
def digX : Nat → Nat → List UInt8 → List UInt8
  | 0, _, l => l
  | k + 1, n, l => bif Nat.blt n 10 then UInt8.ofNat (48 + n) :: l else digX k (n / 10) (UInt8.ofNat (48 + n % 10) :: l)
def fits64 (n : Int) : Bool := decide (-9223372036854775808 ≤ n) && decide (n ≤ 9223372036854775807)
def itoaX (n : Int) : List UInt8 := match n with
  | .ofNat k => digX 20 k []
  | .negSucc k => 45 :: digX 20 (k + 1) []

theorem digX_dec : ∀ (k n : Nat) (l : List UInt8), n < 10 ^ (k + 1) → digX (k + 1) n l = Lib.decDigits n ++ l := by
  have one : ∀ (k n : Nat) (l : List UInt8), n < 10 → digX (k + 1) n l = Lib.decDigits n ++ l := fun k n l hn => by
    unfold digX
    rw [Lib.decDigits]
    have : Nat.blt n 10 = true := by rw [Nat.blt_eq]; exact hn
    rw [this, dif_pos hn]; rfl
  intro k
  induction k with
  | zero => intro n l h; exact one 0 n l (by simpa using h)
  | succ k ih =>
    intro n l h
    by_cases hn : n < 10
    · exact one _ n l hn
    · have : Nat.blt n 10 = false := by
        cases hb : Nat.blt n 10 with
        | false => rfl
        | true => rw [Nat.blt_eq] at hb; exact absurd hb hn
      rw [digX, Lib.decDigits, this, dif_neg hn, cond_false, ih (n / 10) _ (by rw [Nat.pow_succ] at h; omega)]
      simp
theorem itoaX_eq {n : Int} (h0 : -9223372036854775808 ≤ n) (h1 : n ≤ 9223372036854775807) : itoaX n = Lib.itoa n := by
  cases n with
  | ofNat k =>
    have h2 : ¬ ((Int.ofNat k : Int) < 0) := by simp
    rw [Lib.itoa, if_neg h2]
    show digX 20 k [] = _
    rw [digX_dec 19 k [] (by have : k ≤ 9223372036854775807 := by { have := h1; simp at this; omega }; omega)]
    simp
  | negSucc k =>
    have h2 : (Int.negSucc k : Int) < 0 := Int.negSucc_lt_zero k
    rw [Lib.itoa, if_pos h2]
    show 45 :: digX 20 (k + 1) [] = _
    rw [digX_dec 19 (k + 1) [] (by have : (k : Int) + 1 ≤ 9223372036854775808 := by { have := h0; rw [Int.negSucc_eq] at this; omega }; omega)]
    simp

/-- The words of the language. -/
def wordsX : List (List UInt8) := [[97, 110, 100], [97, 115, 115, 117, 109, 101], [98, 111, 111, 108], [99, 111, 110, 116, 114, 97, 99, 116], [100, 105, 118], [101, 108, 115, 101], [101, 110, 100], [101, 110, 115, 117, 114, 101], [102, 97, 108, 108, 98, 97, 99, 107], [102, 97, 108, 115, 101], [103, 104, 111, 115, 116], [103, 117, 97, 114, 97, 110, 116, 101, 101], [104, 105, 115, 116], [105, 102], [105, 109, 112, 111, 114, 116], [105, 110, 116], [108, 101, 116], [109, 97, 105, 110], [109, 111, 100], [109, 111, 100, 101], [110, 111, 100, 101], [110, 111, 116], [111, 110, 99, 101], [111, 114], [112, 114, 101], [112, 114, 101, 118], [114, 101, 113, 117, 105, 114, 101], [114, 101, 116, 117, 114, 110, 115], [115, 105, 110, 99, 101], [116, 101, 108], [116, 104, 101, 110], [116, 114, 117, 101], [118, 97, 114], [119, 105, 116, 104, 105, 110], [120, 111, 114]]

/-- What is so of the package's variables: the words; the library's table of powers. -/
def pkgG (P : Program) (g0 g1 : Nat) (w : World) (Φ : Nat → Prop) : Prop :=
  GvR (look [(g0, (⟨.list .str, wordsX⟩ : Dyn))]) w Φ ∧ Φ g1 ∧ P.globalNamed "internal/strconv.uint64pow10" = some g1 ∧ Lib.TabIs P w "internal/strconv.uint64pow10" .u64 Lib.pow10Tab

theorem GvR.mono {gv : Nat → Option Dyn} {w w' : World} {Φ Φ' : Nat → Prop} (h1 : ∀ b, Φ b → w'.heap[b]? = w.heap[b]?) (h2 : ∀ b, Φ b → Φ' b) (h : GvR gv w Φ) : GvR gv w' Φ' := fun g d hg => by
  obtain ⟨k1, us, k2, k3⟩ := h g d hg
  exact ⟨h2 g k1, us, cellsAt_of_heap (h1 g k1) _ _ k2, VC_mono h1 h2 _ _ _ k3⟩

theorem pkgG_mono (P : Program) (g0 g1 : Nat) : GpMono (pkgG P g0 g1) := fun w w' Φ Φ' h1 h2 ⟨k1, k2, k3, k4⟩ => by
  refine ⟨k1.mono h1 h2, h2 _ k2, k3, ?_⟩
  unfold Lib.TabIs World.var? at *
  rw [k3] at k4 ⊢
  simp only [Option.bind_some] at *
  rw [h1 g1 k2]
  exact k4

section
variable {w w' : World} {Φ : Nat → Prop} {γ : Loc}

/-- A call that has only laid new blocks, and gives plain values out. -/
theorem ext_done {T T' : Tm} {ds ds' : List Dyn} {vs rs : List Value} (ho : T.objs = []) (ho' : T'.objs = []) (hi : InstR w Φ T ds vs γ) (hs : RowKit.Below w.heap.size w w') (hv : SVRs w' Φ (fun _ => none) [] (instSls T'.slots ds').1 rs) :
    InstR w' Φ T' ds' rs (fun _ => none) ∧ PostR w Φ γ T ds w' Φ (fun _ => none) T' ds' := by
  have h1 : T'.heap ds' = [] := by simp [Tm.heap, ho', instObs]
  have h2 : T'.vals ds' = (instSls T'.slots ds').1 := by simp [Tm.vals, ho', instObs]
  have hsame : Same w (OwnH w γ (T.heap ds)) w' := ⟨hs.os, hs.tape, hs.output, hs.size, fun b hb _ => hs.block b hb⟩
  refine ⟨⟨by rw [h1, h2]; exact hv, ?_⟩, hsame, fun b hb => ?_, fun b h => h, fun b h => .inl h, fun k hk => ?_⟩
  · rw [h1]
    exact ⟨fun _ _ h => (by cases h), fun _ _ h => (by cases h), fun _ _ h => (by cases h), fun _ _ _ _ _ _ _ h => (by cases h), fun _ _ _ h => (by cases h), fun b h => Nat.lt_of_lt_of_le (hi.hp.flt b h) hs.size, fun _ _ _ h => (by cases h), fun _ _ _ _ _ h => (by cases h)⟩
  · rcases hb with ⟨id, ob, p, h, _⟩ | ⟨id, ob, h, _⟩ <;> (rw [h1] at h; cases h)
  · obtain ⟨o, h⟩ := hk
    rw [ho] at h; cases h
end
end Go.Bm
