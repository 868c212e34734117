import Derived.Test.YtadonikkibahnaaGreatSchX
import Derived.Test.YtadonikkibahnaaGreatBack
open Option (bind_some)
namespace Go.Proofs.YtadonikkibahnaaGreat.R
open Go Go.Bm Go.Proofs
set_option linter.unusedVariables false
set_option linter.unusedSimpArgs false
set_option maxRecDepth 4000
theorem live_eq : c2 T.rf = some true := live_run
theorem own_loop (n : Nt) (hl : n.1.length ≤ 100000) (r i_ : List Int) : ∀ (suf pre : List Od), n.1 = pre ++ suf → k483 T.rb n r i_ pre (pre.length : Nat) = some (n, r, i_, n.1)
 | [], pre, he => ob483 (by
   rw [List.append_nil] at he
   simp only [b483, he, lt_self, cond_false])
 | x :: suf, pre, he => ob483 (by
   have hll : n.1.length = pre.length + (suf.length + 1) := by rw [he]; simp
   have ih := own_loop n hl r i_ suf (pre ++ [x]) (by simp [he])
   have hlt : decide (((pre.length : Nat) : Int) < ((n.1.length : Nat) : Int)) = true := dt (by omega)
   have hin : inb ((pre.length : Nat) : Int) n.1.length = true := inb_t (by omega) (by omega)
   have hnt : nth n.1 ((pre.length : Nat) : Int).toNat = some x := by rw [he]; exact nth_mid pre x suf
   simp only [b483, hlt, hin, hnt, cond_true, bind_some, ble_most (show pre.length + 1 ≤ 274877906944 by omega), Bool.and_true, next_mid pre x (by omega)]
   exact ih)
theorem Own_eq {n : Nt} (hl : n.1.length ≤ 100000) : c127 T.rf n = some n := or127 (by
 have h := own_loop n hl n.2.1 n.2.2 n.1 [] rfl
 rw [List.length_nil, show ((0 : Nat) : Int) = (0 : Int) from rfl] at h
 simp only [r127, h, bind_some])
def smallN (n : Nt) : Bool := decide (n.1.length ≤ 300) && (decide (n.2.1.length ≤ 60) && decide (n.2.2.length ≤ 60))
theorem SmallN_eq (n : Nt) : c126 T.rf n = some (smallN n) := or126 (by
 simp only [r126]
 unfold smallN
 by_cases h1 : n.1.length ≤ 300
 · rw [dt (by omega), cond_true, dt h1, Bool.true_and]
   by_cases h2 : n.2.1.length ≤ 60
   · rw [dt (by omega), cond_true, dt h2, Bool.true_and]
     by_cases h3 : n.2.2.length ≤ 60
     · rw [dt (by omega), dt h3]
     · rw [df (by omega), df h3]
   · rw [df (by omega), cond_false, df h2]; rfl
 · rw [df (by omega), cond_false, df h1]; rfl)
theorem small_N {n : Nt} (h : smallN n = true) : n.1.length ≤ 300 ∧ n.2.1.length ≤ 60 ∧ n.2.2.length ≤ 60 := by
 rw [smallN, Bool.and_eq_true, Bool.and_eq_true] at h
 exact ⟨of_decide_eq_true h.1, of_decide_eq_true h.2.1, of_decide_eq_true h.2.2⟩
theorem NormChecks_eq (n : Nt) : c125 T.rf n = some true := or125 (by
 simp only [r125, live_eq, bind_some, SmallN_eq]
 cases hs : smallN n
 · rfl
 obtain ⟨h1, h2, h3⟩ := small_N hs
 rw [Bool.not_true, cond_false, Own_eq (by omega), bind_some, CheckN_eq (by omega) (by omega), bind_some, refChk_eq (by omega) (by omega), bind_some, bt rfl, cond_true])
theorem lawNormChecks : LawOk T 125 := fun d _ => ⟨true, NormChecks_eq d, rfl, rfl, rfl⟩
end Go.Proofs.YtadonikkibahnaaGreat.R
