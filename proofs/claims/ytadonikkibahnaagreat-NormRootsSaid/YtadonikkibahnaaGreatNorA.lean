import Derived.Test.YtadonikkibahnaaGreatSchX
import Derived.Test.YtadonikkibahnaaGreatBack
open Option (bind_some)
namespace Go.Proofs.YtadonikkibahnaaGreat.R
open Go Go.Bm Go.Proofs
set_option linter.unusedVariables false
set_option linter.unusedSimpArgs false
set_option maxRecDepth 4000
theorem live_eq : c2 T.rf = some true := live_run
theorem own_loop (n : Nt) (hl : n.1.length ≤ 100000) (r i_ : List Int) : ∀ (suf pre : List Od), n.1 = pre ++ suf → k483 T.rb n r i_ pre (pre.length : Nat) = some (n, r, i_, n.1)
 | [], pre, he => ob483 (by
   rw [List.append_nil] at he
   simp only [b483, he, lt_self, cond_false])
 | x :: suf, pre, he => ob483 (by
   have hll : n.1.length = pre.length + (suf.length + 1) := by rw [he]; simp
   have ih := own_loop n hl r i_ suf (pre ++ [x]) (by simp [he])
   have hlt : decide (((pre.length : Nat) : Int) < ((n.1.length : Nat) : Int)) = true := dt (by omega)
   have hin : inb ((pre.length : Nat) : Int) n.1.length = true := inb_t (by omega) (by omega)
   have hnt : nth n.1 ((pre.length : Nat) : Int).toNat = some x := by rw [he]; exact nth_mid pre x suf
   simp only [b483, hlt, hin, hnt, cond_true, bind_some, ble_most (show pre.length + 1 ≤ 274877906944 by omega), Bool.and_true, next_mid pre x (by omega)]
   exact ih)
theorem Own_eq {n : Nt} (hl : n.1.length ≤ 100000) : c127 T.rf n = some n := or127 (by
 have h := own_loop n hl n.2.1 n.2.2 n.1 [] rfl
 rw [List.length_nil, show ((0 : Nat) : Int) = (0 : Int) from rfl] at h
 simp only [r127, h, bind_some])
def smallN (n : Nt) : Bool := decide (n.1.length ≤ 300) && (decide (n.2.1.length ≤ 60) && decide (n.2.2.length ≤ 60))
theorem SmallN_eq (n : Nt) : c126 T.rf n = some (smallN n) := or126 (by
 simp only [r126]
 unfold smallN
 by_cases h1 : n.1.length ≤ 300
 · rw [dt (by omega), cond_true, dt h1, Bool.true_and]
   by_cases h2 : n.2.1.length ≤ 60
   · rw [dt (by omega), cond_true, dt h2, Bool.true_and]
     by_cases h3 : n.2.2.length ≤ 60
     · rw [dt (by omega), dt h3]
     · rw [df (by omega), df h3]
   · rw [df (by omega), cond_false, df h2]; rfl
 · rw [df (by omega), cond_false, df h1]; rfl)
theorem small_N {n : Nt} (h : smallN n = true) : n.1.length ≤ 300 ∧ n.2.1.length ≤ 60 ∧ n.2.2.length ≤ 60 := by
 rw [smallN, Bool.and_eq_true, Bool.and_eq_true] at h
 exact ⟨of_decide_eq_true h.1, of_decide_eq_true h.2.1, of_decide_eq_true h.2.2⟩
def opsOk (n : Nt) : Bool := n.1.all (mayO n)
def chkO (n : Nt) : Int := if opsOk n = true then (if (greedy (DN n) n.1.length n.1.length []).length < n.1.length then 12 else 0) else 1
theorem chk_roots (n : Nt) (r : List Int) : chkN (n.1, r, n.2.2) = if r.all (inN n.1.length) = true then chkO n else 1 := by
 unfold chkN mayN chkO opsOk
 show (if (n.1.all (mayO n) && r.all (inN n.1.length)) = true then (if (greedy (DN n) n.1.length n.1.length []).length < n.1.length then (12 : Int) else 0) else 1) = _
 cases n.1.all (mayO n) <;> cases r.all (inN n.1.length) <;> rfl
theorem chk_self (n : Nt) : chkN n = if n.2.1.all (inN n.1.length) = true then chkO n else 1 := chk_roots n n.2.1
theorem NormRoots_eq (n : Nt) (k : Int) : c139 T.rf n k = some true := or139 (by
 simp only [r139, live_eq, bind_some, SmallN_eq]
 cases hs : smallN n
 · rfl
 obtain ⟨h1, h2, h3⟩ := small_N hs
 have hb : ∀ m : Nat, m ≤ 300 → Nat.ble m most = true := fun m hm => ble_most (by omega)
 rw [Bool.not_true, cond_false, Own_eq (by omega), bind_some, CheckN_eq (by omega) (by omega), bind_some, hb _ (by omega), cond_true, hb _ (by omega), Bool.and_true, cond_true]
 rw [CheckN_eq (n := (n.1, n.2.1 ++ [k], n.2.2)) (by simpa using (by omega)) (by simp; omega), bind_some, CheckN_eq (n := (n.1, [], n.2.2)) (by simpa using (by omega)) (by simp), bind_some]
 rw [chk_roots n (n.2.1 ++ [k]), chk_roots n [], chk_self n, List.all_append, List.all_cons, List.all_nil, Bool.and_true, if_pos (show true = true from rfl)]
 have hc : chkO n = 0 ∨ chkO n = 1 ∨ chkO n = 12 := by
  unfold chkO; repeat' split
  all_goals simp
 have hin : inN n.1.length k = decide (0 ≤ k ∧ k < n.1.length) := rfl
 by_cases a : k < 0
 · rw [dt a, cond_true, hin, df (by omega), Bool.and_false]
   cases n.2.1.all (inN n.1.length)
   · rfl
   · rcases hc with h | h | h <;> rw [h] <;> rfl
 rw [df a, cond_false]
 by_cases b : k ≥ n.1.length
 · rw [dt b, cond_true, hin, df (by omega), Bool.and_false]
   cases n.2.1.all (inN n.1.length)
   · rfl
   · rcases hc with h | h | h <;> rw [h] <;> rfl
 · rw [df b, cond_false, hin, dt (by omega), Bool.and_true]
   cases n.2.1.all (inN n.1.length)
   · rfl
   · rcases hc with h | h | h <;> rw [h] <;> rfl)
theorem lawNormRoots : LawOk T 139 := fun d _ => ⟨true, NormRoots_eq d.1 d.2, rfl, rfl, rfl⟩
end Go.Proofs.YtadonikkibahnaaGreat.R
