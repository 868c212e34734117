import Derived.Test.YtadonikkibahnaaGreatBmF
import Derived.Test.YtadonikkibahnaaGreatResRun
section
namespace Go.Proofs.YtadonikkibahnaaGreat.R
open Go Go.Bm Go.Proofs
set_option linter.unusedVariables false
set_option linter.unusedSimpArgs false
set_option maxRecDepth 4000
theorem filter_one {α : Type} [DecidableEq α] {x : α} (p : α → Bool) : ∀ {l : List α}, l.Nodup → x ∈ l → (l.filter (fun y => p y && !(decide (y = x)))).length + (if p x = true then 1 else 0) = (l.filter p).length
 | [], _, h => by simp at h
 | a :: r, hn, h => by
   rw [List.nodup_cons] at hn
   by_cases e : a = x
   · subst e
     have hr : r.filter (fun y => p y && !(decide (y = a))) = r.filter p := List.filter_congr fun y hy => by
      rw [decide_eq_false (fun e : y = a => hn.1 (e ▸ hy))]; simp
     rw [List.filter_cons_of_neg (by simp), hr]
     by_cases hp : p a = true
     · rw [if_pos hp, List.filter_cons_of_pos hp]; rfl
     · rw [if_neg hp, List.filter_cons_of_neg hp]; rfl
   · have ih := filter_one p hn.2 (show x ∈ r from (List.mem_cons.1 h).resolve_left (Ne.symm e))
     by_cases hp : p a = true
     · rw [List.filter_cons_of_pos (by simp [hp, e]), List.filter_cons_of_pos hp, List.length_cons, List.length_cons]; omega
     · rw [List.filter_cons_of_neg (by simp [hp]), List.filter_cons_of_neg hp]; exact ih
theorem sub_len {α : Type} [DecidableEq α] : ∀ {l m : List α}, l.Nodup → (∀ x ∈ l, x ∈ m) → l.length ≤ m.length
 | [], _, _, _ => Nat.zero_le _
 | x :: r, m, hn, h => by
   rw [List.nodup_cons] at hn
   have h1 := sub_len (m := m.filter fun y => !(decide (y = x))) hn.2 (fun y hy => by
    rw [List.mem_filter]
    exact ⟨h y (List.mem_cons_of_mem _ hy), by rw [decide_eq_false (fun e : y = x => hn.1 (e ▸ hy))]; rfl⟩)
   have h2 : (m.filter fun y => !(decide (y = x))).length < m.length := by
    refine Nat.lt_of_le_of_ne (List.length_filter_le _ _) (fun e => ?_)
    have := List.length_filter_eq_length_iff.1 e x (h x List.mem_cons_self)
    simp at this
   rw [List.length_cons]; omega
def ints (l : List Nat) : List Int := l.map fun k => ((k : Nat) : Int)
section
variable (D : Nat → Nat → Bool) (n : Nat)
def waitsN (T : List Nat) (i : Nat) : Nat := ((List.range n).filter fun j => D i j && !(decide (j ∈ T))).length
def rdy (T : List Nat) (i : Nat) : Bool := !(decide (i ∈ T)) && decide (waitsN D n T i = 0)
def nextO (T : List Nat) : Option Nat := (List.range n).find? (rdy D n T)
def greedy : Nat → List Nat → List Nat
 | 0, T => T
 | f + 1, T => match nextO D n T with
   | none => T
   | some i => greedy f (T ++ [i])
inductive Val : List Nat → Prop where
 | nil : Val []
 | snoc {T : List Nat} {i : Nat} : Val T → i < n → rdy D n T i = true → Val (T ++ [i])
end
variable {D : Nat → Nat → Bool} {n : Nat}
theorem waitsN_zero {T : List Nat} {i : Nat} : waitsN D n T i = 0 ↔ ∀ j, j < n → D i j = true → j ∈ T := by
 rw [waitsN, List.length_eq_zero_iff, List.filter_eq_nil_iff]
 constructor
 · intro h j hj hd
   have := h j (List.mem_range.2 hj)
   rw [hd] at this
   simpa using this
 · intro h j hj
   by_cases hd : D i j = true
   · simp [h j (List.mem_range.1 hj) hd]
   · simp [hd]
theorem rdy_iff {T : List Nat} {i : Nat} : rdy D n T i = true ↔ i ∉ T ∧ ∀ j, j < n → D i j = true → j ∈ T := by
 rw [rdy, Bool.and_eq_true, decide_eq_true_iff, waitsN_zero]; simp
theorem val_lt {T : List Nat} (h : Val D n T) : ∀ x ∈ T, x < n := by
 induction h with
 | nil => intro x hx; simp at hx
 | snoc h hi hr ih =>
   intro x hx
   rcases List.mem_append.1 hx with h1 | h1
   · exact ih x h1
   · rw [List.mem_singleton.1 h1]; exact hi
theorem val_nodup {T : List Nat} (h : Val D n T) : T.Nodup := by
 induction h with
 | nil => exact List.nodup_nil
 | snoc h hi hr ih =>
   rw [List.nodup_append]
   exact ⟨ih, by simp, fun a ha b hb e => (rdy_iff.1 hr).1 (by rw [List.mem_singleton.1 hb] at e; exact e ▸ ha)⟩
theorem val_all {T : List Nat} (h : Val D n T) (hl : n ≤ T.length) (j : Nat) (hj : j < n) : j ∈ T := by
 refine Classical.byContradiction fun hn => ?_
 have := sub_len (l := j :: T) (m := List.range n) (List.nodup_cons.2 ⟨hn, val_nodup h⟩) (fun x hx => by
  rcases List.mem_cons.1 hx with e | e
  · rw [e]; exact List.mem_range.2 hj
  · exact List.mem_range.2 (val_lt h x e))
 rw [List.length_cons, List.length_range] at this; omega
theorem val_behind {T : List Nat} (h : Val D n T) : ∀ (A B : List Nat) (i : Nat), T = A ++ i :: B → ∀ j, j < n → D i j = true → j ∈ A := by
 induction h with
 | nil => intro A B i e; simp at e
 | snoc h hi hr ih =>
   intro A B i e j hj hd
   rcases List.eq_nil_or_concat B with hB | ⟨B', b, hB⟩
   · subst hB
     obtain ⟨e1, e2⟩ := List.append_inj' e rfl
     simp only [List.cons.injEq, and_true] at e2
     subst e1; subst e2
     exact (rdy_iff.1 hr).2 j hj hd
   · subst hB
     rw [List.concat_eq_append, ← List.cons_append, ← List.append_assoc] at e
     obtain ⟨e1, e2⟩ := List.append_inj' e rfl
     exact ih A B' i e1 j hj hd
theorem next_spec {T : List Nat} {i : Nat} : nextO D n T = some i ↔ rdy D n T i = true ∧ i < n ∧ ∀ j, j < i → rdy D n T j = false := by
 rw [nextO, List.find?_range_eq_some, List.mem_range]
 simp
theorem next_none {T : List Nat} : nextO D n T = none ↔ ∀ j, j < n → rdy D n T j = false := by
 rw [nextO, List.find?_eq_none]
 simp [List.mem_range]
theorem next_full {T : List Nat} (h : Val D n T) (hl : n ≤ T.length) : nextO D n T = none := next_none.2 fun j hj => by
 rw [rdy, decide_eq_true (val_all h hl j hj)]; rfl
theorem greedy_val : ∀ (f : Nat) (T : List Nat), Val D n T → Val D n (greedy D n f T)
 | 0, T, h => h
 | f + 1, T, h => by
   rw [greedy]
   cases he : nextO D n T with
   | none => exact h
   | some i =>
     have := next_spec.1 he
     exact greedy_val f _ (Val.snoc h this.2.1 this.1)
theorem greedy_stuck : ∀ (f : Nat) (T : List Nat), Val D n T → n ≤ T.length + f → nextO D n (greedy D n f T) = none
 | 0, T, h, hl => by rw [greedy]; exact next_full h (by omega)
 | f + 1, T, h, hl => by
   rw [greedy]
   cases he : nextO D n T with
   | none => exact he
   | some i =>
     have := next_spec.1 he
     exact greedy_stuck f _ (Val.snoc h this.2.1 this.1) (by simp; omega)
theorem greedy_max {T : List Nat} (h : Val D n T) : ∀ x ∈ T, x ∈ greedy D n n [] := by
 have hs := next_none.1 (greedy_stuck n [] (Val.nil (D := D) (n := n)) (by simp))
 induction h with
 | nil => intro x hx; simp at hx
 | snoc h hi hr ih =>
   intro x hx
   rcases List.mem_append.1 hx with h1 | h1
   · exact ih x h1
   · rw [List.mem_singleton.1 h1]
     refine Classical.byContradiction fun hn => ?_
     have h2 := hs _ hi
     rw [rdy_iff.2 ⟨hn, fun j hj hd => ih j ((rdy_iff.1 hr).2 j hj hd)⟩] at h2
     exact absurd h2 (by decide)
theorem ordO_of {T : List Nat} (h : Val D n T) (hl : n ≤ T.length) : ¬ ((greedy D n n []).length < n) := by
 have := sub_len (l := List.range n) (m := greedy D n n []) List.nodup_range (fun x hx => greedy_max h x (val_all h hl x (List.mem_range.1 hx)))
 rw [List.length_range] at this; omega
end Go.Proofs.YtadonikkibahnaaGreat.R
end
section
open Option (bind_some)
open List (length_append length_cons length_nil)
namespace Go.Proofs.YtadonikkibahnaaGreat.R
open Go Go.Bm Go.Proofs
set_option linter.unusedVariables false
set_option linter.unusedSimpArgs false
set_option maxRecDepth 4000
abbrev Od : Type := Int × Int × Int × Int × Int
abbrev Nt : Type := List Od × List Int × List Int
def kidsN (op : Int) : Int :=
 if op = 3 ∨ op = 1 ∨ op = 2 then 0 else if op = 21 then 1 else if op = 19 then 2 else if op = 4 ∨ op = 5 then 1 else if 6 ≤ op ∧ op ≤ 18 then 2 else if op = 26 then 3 else -1
def flds (x : Od) : List Int := [x.2.1, x.2.2.1, x.2.2.2.1]
def manyN (x : Od) : Nat := (kidsN x.1).toNat
def usedN (x : Od) : List Int := (flds x).take (manyN x)
def restN (x : Od) : List Int := (flds x).drop (manyN x)
def inN (m : Nat) (k : Int) : Bool := decide (0 ≤ k ∧ k < m)
def plainN (n : Nt) (x : Od) : Bool :=
 if x.1 = 3 then decide (0 ≤ x.2.2.2.2 ∧ x.2.2.2.2 < n.2.2.length) else if x.1 = 1 then decide (-2147483648 ≤ x.2.2.2.2 ∧ x.2.2.2.2 ≤ 2147483647) else if x.1 = 2 then decide (x.2.2.2.2 = 0 ∨ x.2.2.2.2 = 1) else decide (x.2.2.2.2 = 0)
def mayO (n : Nt) (x : Od) : Bool := decide (0 ≤ kidsN x.1) && ((usedN x).all (inN n.1.length) && ((restN x).all (fun k => decide (k = -1)) && plainN n x))
def mayN (n : Nt) : Bool := n.1.all (mayO n) && n.2.1.all (inN n.1.length)
def opsN (x : Od) : List Int := if x.1 = 21 then [] else usedN x
theorem kidsN_le (op : Int) : -1 ≤ kidsN op ∧ kidsN op ≤ 3 := by
 unfold kidsN; repeat' split
 all_goals omega
theorem manyN_le (x : Od) : manyN x ≤ 3 := by have := kidsN_le x.1; unfold manyN; omega
theorem numOperands_eq (op : Int) : c89 T.rf op = some (if op = 4 ∨ op = 5 then 1 else if 6 ≤ op ∧ op ≤ 18 then 2 else if op = 26 then 3 else -1) := or89 (by
 simp only [r89]
 by_cases h4 : op = 4
 · subst h4; rfl
 by_cases h5 : op = 5
 · subst h5; rfl
 rw [bf h4, cond_false, bf h5, cond_false, if_neg (by omega)]
 by_cases h6 : 6 ≤ op
 · rw [dt h6, cond_true]
   by_cases h18 : op ≤ 18
   · rw [dt h18, cond_true, if_pos ⟨h6, h18⟩]
   · rw [df h18, cond_false, if_neg (by omega)]
     by_cases h26 : op = 26
     · rw [bt h26, if_pos h26]; rfl
     · rw [bf h26, if_neg h26]; rfl
 · rw [df h6, cond_false, if_neg (by omega)]
   by_cases h26 : op = 26
   · omega
   · rw [bf h26, if_neg h26]; rfl)
theorem operands_eq (op : Int) : c88 T.rf op = some (kidsN op) := or88 (by
 simp only [r88, numOperands_eq, bind_some]
 unfold kidsN
 by_cases h3 : op = 3
 · subst h3; rfl
 by_cases h1 : op = 1
 · subst h1; rfl
 by_cases h2 : op = 2
 · subst h2; rfl
 by_cases h21 : op = 21
 · subst h21; rfl
 by_cases h19 : op = 19
 · subst h19; rfl
 simp only [bf h3, bf h1, bf h2, bf h21, bf h19, cond_false, if_neg h21, if_neg h19, if_neg (show ¬ (op = 3 ∨ op = 1 ∨ op = 2) by omega)])
theorem fields_eq (x : Od) : c87 T.rf x = some (usedN x, restN x) := or87 (by
 have hk := kidsN_le x.1
 have hm : (if 0 > kidsN x.1 then 0 else kidsN x.1) = ((manyN x : Nat) : Int) := by unfold manyN; split <;> omega
 have h3 := manyN_le x
 simp only [r87, operands_eq, bind_some, hm, Int.toNat_natCast, Nat.sub_zero, sub_zero]
 rw [inb'_nat, dt h3, cond_true, cond_true]
 have : sub [x.2.1, x.2.2.1, x.2.2.2.1] (some (manyN x, 3 - manyN x)) = restN x := by
  show ((flds x).drop (manyN x)).take (3 - manyN x) = _
  rw [List.take_of_length_le (by simp [flds])]; rfl
 rw [this]; rfl)
def ixO {α : Type} : (α × Int) ⊕ α → α × Int
 | .inl j => j
 | .inr m => (m, -1)
def ixP {α : Type} (n : α) (b : Bool) : (α × Int) ⊕ α → Prop
 | .inl j => j.1 = n ∧ 0 ≤ j.2 ∧ b = false
 | .inr m => m = n ∧ b = true
theorem ixP_fin {α : Type} {n : α} {b : Bool} {z : (α × Int) ⊕ α} (h : ixP n b z) : ((ixO z).1, decide ((ixO z).2 ≥ 0)) = (n, !b) := by
 cases z with
 | inl j => obtain ⟨h1, h2, h3⟩ := h; rw [h3]; show (j.1, decide (j.2 ≥ 0)) = _; rw [h1, dt h2]; rfl
 | inr m => obtain ⟨h1, h2⟩ := h; rw [h1, h2]; rfl
theorem i32_in {x : Int} : ((IntKind.i64.wrap (IntKind.i32.wrap x)) == x) = decide (-2147483648 ≤ x ∧ x ≤ 2147483647) := by
 have hr : -2147483648 ≤ IntKind.i32.wrap x ∧ IntKind.i32.wrap x ≤ 2147483647 := by
  rw [IntKind.wrap_i32]; omega
 rw [wr (by omega)]
 by_cases h : -2147483648 ≤ x ∧ x ≤ 2147483647
 · rw [dt h]
   exact bt (IntWalk.i32_in x h)
 · rw [df h]
   exact bf (fun e => h (e ▸ hr))
theorem fits_eq (x : Int) : c94 T.rf x = some (decide (-2147483648 ≤ x ∧ x ≤ 2147483647)) := or94 (by
 simp only [r94, i32_in])
theorem may1_eq (n : Nt) (k : Int) : c90 T.rf n k = some (n, inN n.1.length k) := or90 (by
 simp only [r90]
 unfold inN
 by_cases h : 0 ≤ k
 · rw [dt h, cond_true]; congr 2; by_cases h2 : k < n.1.length
   · rw [dt h2, dt ⟨h, h2⟩]
   · rw [df h2, df (fun a => h2 a.2)]
 · rw [df h, cond_false, df (fun a => h a.1)])
theorem may_loop (n : Nt) : ∀ (suf pre : List Int), pre.length + suf.length ≤ 1000000 →
  k374 T.rb n (pre ++ suf) ((pre ++ suf).length : Nat) (pre.length : Nat) = some (if suf.all (inN n.1.length) = true then .inr n else .inl (n, false))
 | [], pre, h => ob374 (by simp only [b374, lt_end, lt_self, List.append_nil, cond_false]; rfl)
 | k :: suf, pre, h => ob374 (by
   simp only [length_cons] at h
   have ih := may_loop n suf (pre ++ [k]) (by simp; omega)
   simp only [List.append_assoc, List.singleton_append] at ih
   simp only [b374, lt_mid, inb_mid, nth_mid, cond_true, bind_some, may1_eq, next_mid pre k (by omega), ih]
   rw [List.all_cons]
   cases inN n.1.length k <;> rfl)
theorem rest_loop : ∀ (suf pre : List Int), pre.length + suf.length ≤ 1000000 →
  k375 T.rb (pre ++ suf) ((pre ++ suf).length : Nat) (pre.length : Nat) = some (if suf.all (fun k => decide (k = -1)) = true then .inr () else .inl ((pre.length + (suf.findIdx fun k => decide (k ≠ -1)) : Nat) : Int))
 | [], pre, h => ob375 (by simp only [b375, lt_end, lt_self, List.append_nil, cond_false]; rfl)
 | k :: suf, pre, h => ob375 (by
   simp only [length_cons] at h
   have ih := rest_loop suf (pre ++ [k]) (by simp; omega)
   simp only [List.append_assoc, List.singleton_append] at ih
   have h2 : c93 T.rf k = some (k != -1) := or93 rfl
   simp only [b375, lt_mid, inb_mid, nth_mid, cond_true, bind_some, h2, next_mid pre k (by omega), ih]
   rw [List.all_cons, List.findIdx_cons]
   by_cases e : k = -1
   · rw [nbt e, cond_false, dt e, Bool.true_and, length_append, List.length_singleton, df (by simpa using e), cond_false, show pre.length + 1 + (suf.findIdx fun k => decide (k ≠ -1)) = pre.length + ((suf.findIdx fun k => decide (k ≠ -1)) + 1) by omega]
   · rw [nbf e, cond_true, df e, Bool.false_and, if_neg (by decide), dt (show k ≠ -1 from e), cond_true, Nat.add_zero])
theorem rest_eq {l : List Int} (h : l.length ≤ 1000000) : c91 T.rf l = some (!l.all fun k => decide (k = -1)) := or91 (by
 have h0 := rest_loop l [] (by simpa using h)
 rw [List.nil_append, length_nil, show ((0 : Nat) : Int) = (0 : Int) from rfl] at h0
 have hI : c92 T.rf l = some (if (l.all fun k => decide (k = -1)) = true then -1 else ((0 + (l.findIdx fun k => decide (k ≠ -1)) : Nat) : Int)) := or92 (by
  simp only [r92, h0, bind_some]
  cases (l.all fun k => decide (k = -1)) <;> rfl)
 simp only [r91, hI, bind_some]
 cases hl : l.all fun k => decide (k = -1)
 · rw [if_neg (by decide), dt (by omega)]; rfl
 · rw [if_pos rfl]; rfl)
theorem mayO_eq (n : Nt) (x : Od) : c86 T.rf n x = some (mayO n x) := or86 (by
 have hu : (usedN x).length ≤ 3 := by simp [usedN, flds]; omega
 have hr : (restN x).length ≤ 3 := by simp [restN, flds]
 have h0 := may_loop n (usedN x) [] (by simp; omega)
 rw [List.nil_append, length_nil, show ((0 : Nat) : Int) = (0 : Int) from rfl] at h0
 simp only [r86, fields_eq, bind_some, h0, operands_eq, rest_eq (l := restN x) (by omega), fits_eq]
 unfold mayO
 cases h1 : (usedN x).all (inN n.1.length)
 · rw [if_neg (by decide), Bool.false_and, Bool.and_false]
 rw [if_pos rfl, Bool.true_and]
 by_cases h2 : 0 ≤ kidsN x.1
 case neg => rw [df h2, Bool.false_and]; show (bif decide (kidsN x.1 < 0) then _ else _) = _; rw [dt (by omega), cond_true]
 rw [dt h2, Bool.true_and]
 show (bif decide (kidsN x.1 < 0) then _ else _) = _
 rw [df (by omega), cond_false]
 cases h3 : (restN x).all fun k => decide (k = -1)
 · rfl
 rw [Bool.not_true, cond_false, Bool.true_and]
 unfold plainN
 by_cases a3 : x.1 = 3
 · rw [bt a3, cond_true, if_pos a3]
   by_cases b : 0 ≤ x.2.2.2.2
   · rw [dt b, cond_true]; congr 1; by_cases c : x.2.2.2.2 < n.2.2.length
     · rw [dt c, dt ⟨b, c⟩]
     · rw [df c, df (fun a => c a.2)]
   · rw [df b, cond_false, df (fun a => b a.1)]
 rw [bf a3, cond_false, if_neg a3]
 by_cases a1 : x.1 = 1
 · rw [bt a1, cond_true, if_pos a1]
 rw [bf a1, cond_false, if_neg a1]
 by_cases a2 : x.1 = 2
 · rw [bt a2, cond_true, if_pos a2]
   by_cases b : x.2.2.2.2 = 0
   · rw [bt b, cond_true, dt (Or.inl b)]
   · rw [bf b, cond_false]; congr 1; by_cases c : x.2.2.2.2 = 1
     · rw [bt c, dt (Or.inr c)]
     · rw [bf c, df (fun a => a.elim b c)]
 rw [bf a2, cond_false, if_neg a2]
 congr 1)
theorem ops_loop (n : Nt) : ∀ (suf pre : List Od), pre.length + suf.length ≤ 1000000 →
  ∃ z, k373 T.rb n (pre ++ suf) ((pre ++ suf).length : Nat) (pre.length : Nat) = some z ∧ ixP n (suf.all (mayO n)) z
 | [], pre, h => ⟨.inr n, ob373 (by simp only [b373, lt_end, lt_self, List.append_nil, cond_false]), rfl, rfl⟩
 | x :: suf, pre, h => by
   simp only [length_cons] at h
   obtain ⟨z, ih, hz⟩ := ops_loop n suf (pre ++ [x]) (by simp; omega)
   simp only [List.append_assoc, List.singleton_append] at ih
   have h1 : c85 T.rf n x = some (n, !mayO n x) := or85 (by simp only [r85, mayO_eq, bind_some])
   cases hx : mayO n x
   · refine ⟨.inl (n, (pre.length : Nat)), ob373 ?_, rfl, by omega, by rw [List.all_cons, hx]; rfl⟩
     simp only [b373, lt_mid, inb_mid, nth_mid, cond_true, bind_some, h1, hx, Bool.not_false]
   · refine ⟨z, ob373 ?_, ?_⟩
     · simp only [b373, lt_mid, inb_mid, nth_mid, cond_true, bind_some, h1, hx, Bool.not_true, cond_false, next_mid pre x (by omega)]
       exact ih
     · rw [List.all_cons, hx, Bool.true_and]; exact hz
theorem opsC_eq (n : Nt) {l : List Od} (h : l.length ≤ 1000000) : c83 T.rf n l = some (n, !l.all (mayO n)) := or83 (by
 obtain ⟨z, h0, hz⟩ := ops_loop n l [] (by simpa using h)
 rw [List.nil_append, length_nil, show ((0 : Nat) : Int) = (0 : Int) from rfl] at h0
 have hI : c84 T.rf n l = some (ixO z) := or84 (by
  simp only [r84, h0, bind_some]
  cases z <;> rfl)
 simp only [r83, hI, bind_some, ixP_fin hz])
theorem roots_loop (n : Nt) : ∀ (suf pre : List Int), pre.length + suf.length ≤ 1000000 →
  ∃ z, k376 T.rb n (pre ++ suf) ((pre ++ suf).length : Nat) (pre.length : Nat) = some z ∧ ixP n (suf.all (inN n.1.length)) z
 | [], pre, h => ⟨.inr n, ob376 (by simp only [b376, lt_end, lt_self, List.append_nil, cond_false]), rfl, rfl⟩
 | x :: suf, pre, h => by
   simp only [length_cons] at h
   obtain ⟨z, ih, hz⟩ := roots_loop n suf (pre ++ [x]) (by simp; omega)
   simp only [List.append_assoc, List.singleton_append] at ih
   have h1 : c97 T.rf n x = some (n, !inN n.1.length x) := or97 (by
    simp only [r97]
    unfold inN
    by_cases a : x < 0
    · rw [dt a, cond_true, df (by omega)]; rfl
    · rw [df a, cond_false]
      by_cases b : x < n.1.length
      · rw [df (by omega), dt (by omega)]; rfl
      · rw [dt (by omega), df (by omega)]; rfl)
   cases hx : inN n.1.length x
   · refine ⟨.inl (n, (pre.length : Nat)), ob376 ?_, rfl, by omega, by rw [List.all_cons, hx]; rfl⟩
     simp only [b376, lt_mid, inb_mid, nth_mid, cond_true, bind_some, h1, hx, Bool.not_false]
   · refine ⟨z, ob376 ?_, ?_⟩
     · simp only [b376, lt_mid, inb_mid, nth_mid, cond_true, bind_some, h1, hx, Bool.not_true, cond_false, next_mid pre x (by omega)]
       exact ih
     · rw [List.all_cons, hx, Bool.true_and]; exact hz
theorem rootsC_eq (n : Nt) {l : List Int} (h : l.length ≤ 1000000) : c95 T.rf n l = some (n, !l.all (inN n.1.length)) := or95 (by
 obtain ⟨z, h0, hz⟩ := roots_loop n l [] (by simpa using h)
 rw [List.nil_append, length_nil, show ((0 : Nat) : Int) = (0 : Int) from rfl] at h0
 have hI : c96 T.rf n l = some (ixO z) := or96 (by
  simp only [r96, h0, bind_some]
  cases z <;> rfl)
 simp only [r95, hI, bind_some, ixP_fin hz])
def at0 (l : List Int) (i : Nat) : Int := l.getD i 0
def rowF {α : Type} (n : Nat) (f : Nat → α) : List α := (List.range n).map f
section
variable {α : Type}
theorem rowF_len (n : Nat) (f : Nat → α) : (rowF n f).length = n := by simp [rowF]
theorem rowF_get {n i : Nat} (f : Nat → α) (h : i < n) : nth (rowF n f) i = some (f i) := by
 rw [nth_getElem?, rowF, List.getElem?_map, List.getElem?_range h]; rfl
theorem rowF_set {n i : Nat} (f : Nat → α) (y : α) : setNth (rowF n f) i y = rowF n (fun j => if j = i then y else f j) := by
 rw [setNth_set]
 refine List.ext_getElem? fun k => ?_
 rw [List.getElem?_set, rowF, rowF, List.getElem?_map, List.getElem?_map, List.length_map, List.length_range]
 by_cases e : i = k
 · subst e
   rw [if_pos rfl]
   by_cases h : i < n
   · rw [if_pos h, List.getElem?_range h]; simp
   · rw [if_neg h, List.getElem?_eq_none (by simp; omega)]; rfl
 · rw [if_neg e]
   by_cases h : k < n
   · rw [List.getElem?_range h]; simp [Ne.symm e]
   · rw [List.getElem?_eq_none (by simp; omega)]; rfl
theorem rowF_rep (n : Nat) (x : α) : List.replicate n x = rowF n fun _ => x := by
 refine List.ext_getElem? fun k => ?_
 rw [rowF, List.getElem?_map, List.getElem?_replicate]
 by_cases h : k < n
 · rw [if_pos h, List.getElem?_range h]; rfl
 · rw [if_neg h, List.getElem?_eq_none (by simp; omega)]; rfl
end
theorem ints_len (l : List Nat) : (ints l).length = l.length := by simp [ints]
theorem ints_app (l m : List Nat) : ints (l ++ m) = ints l ++ ints m := by simp [ints]
theorem ints_cons (k : Nat) (l : List Nat) : ints (k :: l) = (k : Int) :: ints l := rfl
def opAtN (n : Nt) (i : Nat) : Od := n.1.getD i (0, 0, 0, 0, 0)
def LN (n : Nt) (i : Nat) : List Nat := (opsN (opAtN n i)).map Int.toNat
def DN (n : Nt) (i j : Nat) : Bool := decide (j ∈ LN n i)
theorem opAtN_nth {n : Nt} {i : Nat} (h : i < n.1.length) : nth n.1 i = some (opAtN n i) := by
 rw [nth_t h, opAtN, List.getD_eq_getElem?_getD, List.getElem?_eq_getElem h]; rfl
theorem opAtN_mem {n : Nt} {i : Nat} (h : i < n.1.length) : opAtN n i ∈ n.1 := by
 rw [opAtN, List.getD_eq_getElem?_getD, List.getElem?_eq_getElem h]; exact List.getElem_mem h
theorem opsN_len (x : Od) : (opsN x).length ≤ 3 := by
 unfold opsN usedN flds; split
 · simp
 · rw [List.length_take]; simp; omega
structure NetP (n : Nt) : Prop where
 kids : ∀ i, i < n.1.length → 0 ≤ kidsN (opAtN n i).1
 ops : ∀ i, i < n.1.length → ∀ k ∈ opsN (opAtN n i), 0 ≤ k ∧ k < n.1.length
 root : ∀ k ∈ n.2.1, 0 ≤ k ∧ k < n.1.length
theorem may_N {n : Nt} (h : mayN n = true) : NetP n := by
 rw [mayN, Bool.and_eq_true, List.all_eq_true, List.all_eq_true] at h
 refine ⟨fun i hi => ?_, fun i hi k hk => ?_, fun k hk => of_decide_eq_true (h.2 k hk)⟩
 · have := h.1 _ (opAtN_mem hi)
   rw [mayO, Bool.and_eq_true] at this
   exact of_decide_eq_true this.1
 · have := h.1 _ (opAtN_mem hi)
   rw [mayO, Bool.and_eq_true, Bool.and_eq_true, List.all_eq_true] at this
   unfold opsN at hk
   split at hk
   · simp at hk
   · exact of_decide_eq_true (this.2.1 k hk)
theorem ints_LN {n : Nt} (hN : NetP n) {i : Nat} (hi : i < n.1.length) : ints (LN n i) = opsN (opAtN n i) := by
 rw [ints, LN, List.map_map]
 conv => rhs; rw [← List.map_id (opsN (opAtN n i))]
 refine List.map_congr_left fun k hk => ?_
 have := (hN.ops i hi k hk).1
 show ((k.toNat : Nat) : Int) = k
 omega
theorem LN_lt {n : Nt} (hN : NetP n) {i : Nat} (hi : i < n.1.length) : ∀ j ∈ LN n i, j < n.1.length := fun j hj => by
 obtain ⟨k, hk, rfl⟩ := List.mem_map.1 hj
 have := hN.ops i hi k hk
 omega
theorem LN_len (n : Nt) (i : Nat) : (LN n i).length ≤ 3 := by rw [LN, List.length_map]; exact opsN_len _
inductive Reach (n : Nt) : Nat → Nat → Prop where
 | refl (x : Nat) : Reach n x x
 | step {x y z : Nat} : Reach n x y → y < n.1.length → z < n.1.length → DN n y z = true → Reach n x z
def Cyc (n : Nt) : Prop := ∃ x k, x < n.1.length ∧ k < n.1.length ∧ Reach n x k ∧ DN n k x = true
theorem val_idx {D : Nat → Nat → Bool} {n : Nat} {V : List Nat} (hV : Val D n V) (hl : n ≤ V.length) {i j : Nat} (hi : i < n) (hj : j < n) (hd : D i j = true) : V.idxOf j < V.idxOf i := by
 have hiV := val_all hV hl i hi
 obtain ⟨A, B, e⟩ := List.append_of_mem hiV
 have hjA := val_behind hV A B i e j hj hd
 have hnd := val_nodup hV
 have hiA : i ∉ A := fun hA => by
  rw [e, List.nodup_append] at hnd
  exact hnd.2.2 i hA i List.mem_cons_self rfl
 rw [e, List.idxOf_append, List.idxOf_append, if_pos hjA, if_neg hiA, List.idxOf_cons_self]
 have := List.idxOf_lt_length_of_mem hjA
 omega
theorem cyc_no {n : Nt} (h : Cyc n) : (greedy (DN n) n.1.length n.1.length []).length < n.1.length := by
 refine Classical.byContradiction fun hl => ?_
 have hv := greedy_val n.1.length [] (Val.nil (D := DN n) (n := n.1.length))
 obtain ⟨x, k, hx, hk, hr, hd⟩ := h
 have h1 : ∀ y, Reach n x y → (greedy (DN n) n.1.length n.1.length []).idxOf y ≤ (greedy (DN n) n.1.length n.1.length []).idxOf x := fun y hy => by
  induction hy with
  | refl => exact Nat.le_refl _
  | step _ hy1 hz hdz ih =>
    have := val_idx hv (by omega) hy1 hz hdz
    omega
 have h2 := val_idx hv (by omega) hk hx hd
 have := h1 k hr
 omega
theorem push_loop (N : Nat) (st : Nat → Int) : ∀ (suf pre : List Nat) (S : List Int), (∀ k ∈ suf, k < N) → pre.length + suf.length ≤ 1000 → S.length + suf.length ≤ 10000000 →
  k384 T.rb (rowF N st) S (ints pre ++ ints suf) ((ints pre ++ ints suf).length : Nat) ((ints pre).length : Nat)
   = some (if (suf.any fun k => st k == 1) = true then .inl (rowF N st, true) else .inr (rowF N st, S ++ ints (suf.filter fun k => st k == 0)))
 | [], pre, S, hs, h, h2 => ob384 (by
   rw [show ints [] = [] from rfl]
   simp only [b384, lt_end, lt_self, List.append_nil, cond_false]
   rw [List.any_nil, if_neg (by decide), List.filter_nil, show ints [] = [] from rfl, List.append_nil])
 | k :: suf, pre, S, hs, h, h2 => ob384 (by
   have hk := hs k List.mem_cons_self
   simp only [length_cons] at h h2
   have e1 : ints (pre ++ [k]) ++ ints suf = ints pre ++ (k : Int) :: ints suf := by rw [ints_app]; simp [ints]
   have e3 : ints pre ++ [(k : Int)] = ints (pre ++ [k]) := by rw [ints_app]; rfl
   have ih := fun S' h' => push_loop N st suf (pre ++ [k]) S' (fun x hx => hs x (List.mem_cons_of_mem _ hx)) (by simp; omega) h'
   rw [e1] at ih
   have hpl : (ints pre).length < 4611686018427387904 := by rw [ints_len]; omega
   rw [ints_cons]
   simp only [b384, lt_mid, inb_mid, nth_mid, cond_true, bind_some]
   simp only [inb_nat, rowF_len, dt hk, cond_true, Int.toNat_natCast, rowF_get st hk, bind_some, next_mid (ints pre) (k : Int) hpl, e3]
   rw [List.any_cons]
   cases h1 : (st k == 1)
   · rw [Bool.false_or, cond_false]
     cases h0 : (st k == 0)
     · rw [cond_false, List.filter_cons_of_neg (by simp [h0])]
       exact ih S (by omega)
     · rw [cond_true, ble_most (by omega), Bool.and_true, cond_true, List.filter_cons_of_pos (by simp [h0]), ints_cons]
       have := ih (S ++ [(k : Int)]) (by simp; omega)
       rw [List.append_assoc] at this
       exact this
   · rw [Bool.true_or, cond_true]; rfl)
structure GoInv (n : Nt) (st : Nat → Int) (S V : List Nat) : Prop where
 lt : ∀ x ∈ S, x < n.1.length
 val : Val (DN n) n.1.length V
 three : ∀ k, k < n.1.length → st k = 0 ∨ st k = 1 ∨ st k = 2
 done : ∀ k, k < n.1.length → (st k = 2 ↔ k ∈ V)
 opn : ∀ k, k < n.1.length → st k = 1 → k ∈ S
 above : ∀ A x B, S = A ++ x :: B → st x = 1 → ∀ j, j < n.1.length → DN n x j = true → j ∈ V ∨ j ∈ B
 path : ∀ A x B, S = A ++ x :: B → st x = 1 → x ∉ B → ∀ y ∈ B, Reach n x y
def freshC (N : Nat) (st : Nat → Int) : Nat := ((List.range N).filter fun i => st i == 0).length
def setSt (st : Nat → Int) (k : Nat) (v : Int) : Nat → Int := fun j => if j = k then v else st j
theorem setSt_same (st : Nat → Int) (k : Nat) (v : Int) : setSt st k v k = v := if_pos rfl
theorem setSt_other {st : Nat → Int} {k j : Nat} (v : Int) (h : j ≠ k) : setSt st k v j = st j := if_neg h
theorem setSt_row {N : Nat} (st : Nat → Int) (k : Nat) (v : Int) : setNth (rowF N st) k v = rowF N (setSt st k v) := rowF_set st v
theorem fresh_open {N : Nat} {st : Nat → Int} {k : Nat} (hk : k < N) (h : st k = 0) : freshC N (setSt st k 1) + 1 = freshC N st := by
 have h1 := filter_one (x := k) (fun i => st i == 0) (List.nodup_range (n := N)) (List.mem_range.2 hk)
 rw [if_pos (bt h)] at h1
 rw [freshC, freshC, ← h1]
 congr 2
 refine List.filter_congr fun j _ => ?_
 by_cases e : j = k
 · subst e; rw [setSt_same]; simp
 · rw [setSt_other _ e]; simp [e]
theorem fresh_done {N : Nat} {st : Nat → Int} {k : Nat} (h : st k ≠ 0) : freshC N (setSt st k 2) = freshC N st := by
 rw [freshC, freshC]
 congr 1
 refine List.filter_congr fun j _ => ?_
 by_cases e : j = k
 · subst e; rw [setSt_same]; simp [h]
 · rw [setSt_other _ e]
theorem last_split {x : Nat} : ∀ {S : List Nat}, x ∈ S → ∃ A B, S = A ++ x :: B ∧ x ∉ B
 | y :: r, h => by
   by_cases hr : x ∈ r
   · obtain ⟨A, B, e, hB⟩ := last_split hr
     exact ⟨y :: A, B, by rw [e]; rfl, hB⟩
   · exact ⟨[], r, by rw [(List.mem_cons.1 h).resolve_right hr]; rfl, hr⟩
theorem snoc_split {S' A B : List Nat} {k x : Nat} (h : S' ++ [k] = A ++ x :: B) : (B = [] ∧ A = S' ∧ x = k) ∨ ∃ B', B = B' ++ [k] ∧ S' = A ++ x :: B' := by
 rcases List.eq_nil_or_concat B with hB | ⟨B', b, hB⟩
 · subst hB
   obtain ⟨e1, e2⟩ := List.append_inj' h rfl
   simp only [List.cons.injEq, and_true] at e2
   exact Or.inl ⟨rfl, e1.symm, e2.symm⟩
 · subst hB
   rw [List.concat_eq_append, ← List.cons_append, ← List.append_assoc] at h
   obtain ⟨e1, e2⟩ := List.append_inj' h rfl
   simp only [List.cons.injEq, and_true] at e2
   exact Or.inr ⟨B', by rw [List.concat_eq_append, e2], e1⟩
theorem inv_pop2 {n : Nt} {st : Nat → Int} {S V : List Nat} {k : Nat} (I : GoInv n st (S ++ [k]) V) (h : st k = 2) : GoInv n st S V := by
 have hk := I.lt k (by simp)
 refine ⟨fun x hx => I.lt x (List.mem_append_left _ hx), I.val, I.three, I.done, fun j hj hs => ?_, fun A x B e hx j hj hd => ?_, fun A x B e hx hB y hy => ?_⟩
 · rcases List.mem_append.1 (I.opn j hj hs) with a | a
   · exact a
   · rw [List.mem_singleton.1 a, h] at hs; exact absurd hs (by decide)
 · rcases I.above A x (B ++ [k]) (by rw [e]; simp) hx j hj hd with a | a
   · exact Or.inl a
   · rcases List.mem_append.1 a with a | a
     · exact Or.inr a
     · rw [List.mem_singleton.1 a]; exact Or.inl ((I.done k hk).1 h)
 · refine I.path A x (B ++ [k]) (by rw [e]; simp) hx (fun a => ?_) y (List.mem_append_left _ hy)
   rcases List.mem_append.1 a with a | a
   · exact hB a
   · rw [List.mem_singleton.1 a, h] at hx; exact absurd hx (by decide)
theorem inv_close {n : Nt} {st : Nat → Int} {S V : List Nat} {k : Nat} (I : GoInv n st (S ++ [k]) V) (h : st k = 1) : GoInv n (setSt st k 2) S (V ++ [k]) := by
 have hk := I.lt k (by simp)
 have hkV : k ∉ V := fun a => by rw [(I.done k hk).2 a] at h; exact absurd h (by decide)
 have hr : rdy (DN n) n.1.length V k = true := rdy_iff.2 ⟨hkV, fun j hj hd => by
  rcases I.above S k [] rfl h j hj hd with a | a
  · exact a
  · simp at a⟩
 have hne : ∀ x, setSt st k 2 x = 1 → x ≠ k ∧ st x = 1 := fun x hx => by
  by_cases e : x = k
  · rw [e, setSt_same] at hx; exact absurd hx (by decide)
  · rw [setSt_other _ e] at hx; exact ⟨e, hx⟩
 refine ⟨fun x hx => I.lt x (List.mem_append_left _ hx), Val.snoc I.val hk hr, fun j hj => ?_, fun j hj => ?_, fun j hj hs => ?_, fun A x B e hx j hj hd => ?_, fun A x B e hx hB y hy => ?_⟩
 · by_cases e : j = k
   · rw [e, setSt_same]; exact Or.inr (Or.inr rfl)
   · rw [setSt_other _ e]; exact I.three j hj
 · by_cases e : j = k
   · rw [e, setSt_same]; simp
   · rw [setSt_other _ e, I.done j hj]; simp [e]
 · obtain ⟨e, hs⟩ := hne j hs
   rcases List.mem_append.1 (I.opn j hj hs) with a | a
   · exact a
   · exact absurd (List.mem_singleton.1 a) e
 · obtain ⟨_, hx⟩ := hne x hx
   rcases I.above A x (B ++ [k]) (by rw [e]; simp) hx j hj hd with a | a
   · exact Or.inl (List.mem_append_left _ a)
   · rcases List.mem_append.1 a with a | a
     · exact Or.inr a
     · exact Or.inl (List.mem_append_right _ a)
 · obtain ⟨hxk, hx⟩ := hne x hx
   refine I.path A x (B ++ [k]) (by rw [e]; simp) hx (fun a => ?_) y (List.mem_append_left _ hy)
   rcases List.mem_append.1 a with a | a
   · exact hB a
   · exact hxk (List.mem_singleton.1 a)
theorem inv_open {n : Nt} (hN : NetP n) {st : Nat → Int} {S V : List Nat} {k : Nat} (I : GoInv n st (S ++ [k]) V) (h : st k = 0) (hno : (LN n k).any (fun j => setSt st k 1 j == 1) = false) :
  GoInv n (setSt st k 1) (S ++ [k] ++ (LN n k).filter fun j => setSt st k 1 j == 0) V := by
 have hk := I.lt k (by simp)
 have hP : ∀ j ∈ (LN n k).filter (fun j => setSt st k 1 j == 0), j < n.1.length ∧ setSt st k 1 j = 0 ∧ DN n k j = true := fun j hj => by
  obtain ⟨a, b⟩ := List.mem_filter.1 hj
  exact ⟨LN_lt hN hk j a, by simpa using b, dt a⟩
 generalize hPe : (LN n k).filter (fun j => setSt st k 1 j == 0) = P at hP
 have h3 : ∀ j, j < n.1.length → setSt st k 1 j = 0 ∨ setSt st k 1 j = 1 ∨ setSt st k 1 j = 2 := fun j hj => by
  by_cases e : j = k
  · rw [e, setSt_same]; exact Or.inr (Or.inl rfl)
  · rw [setSt_other _ e]; exact I.three j hj
 have hdone : ∀ j, j < n.1.length → (setSt st k 1 j = 2 ↔ j ∈ V) := fun j hj => by
  by_cases e : j = k
  · subst e
    rw [setSt_same, ← I.done j hj, h]; exact ⟨fun a => absurd a (by decide), fun a => absurd a (by decide)⟩
  · rw [setSt_other _ e]; exact I.done j hj
 have split : ∀ A x B, S ++ [k] ++ P = A ++ x :: B → setSt st k 1 x = 1 → ∃ B0, B = B0 ++ P ∧ S ++ [k] = A ++ x :: B0 := fun A x B e hx => by
  rcases List.append_eq_append_iff.1 e with ⟨cs, e1, e2⟩ | ⟨bs, e1, e2⟩
  · exfalso
    have hxP : x ∈ P := by rw [e2]; simp
    rw [(hP x hxP).2.1] at hx; exact absurd hx (by decide)
  · cases bs with
    | nil =>
      exfalso
      rw [List.nil_append] at e2
      have hxP : x ∈ P := by rw [← e2]; simp
      rw [(hP x hxP).2.1] at hx; exact absurd hx (by decide)
    | cons b bs =>
      rw [List.cons_append] at e2
      obtain ⟨rfl, rfl⟩ := List.cons.inj e2
      exact ⟨bs, rfl, e1⟩
 refine ⟨fun x hx => ?_, I.val, h3, hdone, fun j hj hs => ?_, fun A x B e hx j hj hd => ?_, fun A x B e hx hB y hy => ?_⟩
 · rcases List.mem_append.1 hx with a | a
   · exact I.lt x a
   · exact (hP x a).1
 · by_cases e : j = k
   · subst e; simp
   · rw [setSt_other _ e] at hs; exact List.mem_append_left _ (I.opn j hj hs)
 · obtain ⟨B0, rfl, e0⟩ := split A x B e hx
   by_cases exk : x = k
   · subst exk
     rcases h3 j hj with a | a | a
     · refine Or.inr (List.mem_append_right _ ?_)
       rw [← hPe]
       exact List.mem_filter.2 ⟨of_decide_eq_true hd, bt a⟩
     · exfalso
       have := List.any_eq_false.1 hno j (of_decide_eq_true hd)
       rw [a] at this; exact this rfl
     · exact Or.inl ((hdone j hj).1 a)
   · rw [setSt_other _ exk] at hx
     rcases I.above A x B0 e0 hx j hj hd with a | a
     · exact Or.inl a
     · exact Or.inr (List.mem_append_left _ a)
 · obtain ⟨B0, rfl, e0⟩ := split A x B e hx
   rcases snoc_split e0 with ⟨hB0, _, exk⟩ | ⟨B', hB', e1⟩
   · rw [hB0, List.nil_append] at hy
     rw [exk]
     exact Reach.step (Reach.refl k) hk (hP y hy).1 (hP y hy).2.2
   · have hxk : x ≠ k := fun exk => hB (by rw [hB', exk]; simp)
     rw [setSt_other _ hxk] at hx
     have hB0 : x ∉ B0 := fun a => hB (List.mem_append_left _ a)
     have hrk := I.path A x B0 e0 hx hB0 k (by rw [hB']; simp)
     rcases List.mem_append.1 hy with a | a
     · exact I.path A x B0 e0 hx hB0 y a
     · exact Reach.step hrk hk (hP y a).1 (hP y a).2.2
theorem inv_cyc {n : Nt} (hN : NetP n) {st : Nat → Int} {S V : List Nat} {k : Nat} (I : GoInv n st (S ++ [k]) V) (hyes : (LN n k).any (fun j => setSt st k 1 j == 1) = true) : Cyc n := by
 have hk := I.lt k (by simp)
 obtain ⟨j, hj, hs⟩ := List.any_eq_true.1 hyes
 have hs : setSt st k 1 j = 1 := by simpa using hs
 have hjl := LN_lt hN hk j hj
 by_cases e : j = k
 · subst e; exact ⟨j, j, hjl, hjl, Reach.refl j, dt hj⟩
 · rw [setSt_other _ e] at hs
   obtain ⟨A, B, e1, hB⟩ := last_split (I.opn j hjl hs)
   refine ⟨j, k, hjl, hk, ?_, dt hj⟩
   rcases snoc_split e1 with ⟨_, _, exk⟩ | ⟨B', hB', _⟩
   · exact absurd exk e
   · exact I.path A j B e1 hs hB k (by rw [hB']; simp)
def GoOut (n : Nt) (S V : List Nat) : (Nt × List Int × Bool) ⊕ (Nt × List Int) → Prop
 | .inl u => u.2.2 = true ∧ Cyc n
 | .inr w => w.1 = n ∧ ∃ st' V', w.2 = rowF n.1.length st' ∧ GoInv n st' [] V' ∧ (∀ x ∈ V, x ∈ V') ∧ (∀ x ∈ S, x ∈ V') ∧ ∀ j, j < n.1.length → st' j ≠ 1
theorem go_loop {n : Nt} (hN : NetP n) (hl : n.1.length ≤ 100000) : ∀ (m : Nat) (st : Nat → Int) (S V : List Nat), 4 * freshC n.1.length st + S.length ≤ m → m ≤ 1000000 → GoInv n st S V →
  ∃ z, k383 T.rb n (rowF n.1.length st) (ints S) = some z ∧ GoOut n S V z := by
 intro m
 induction m with
 | zero =>
   intro st S V hm hm2 I
   have hS : S = [] := List.eq_nil_of_length_eq_zero (by omega)
   subst hS
   refine ⟨.inr (n, rowF n.1.length st), ob383 ?_, rfl, st, V, rfl, I, fun x hx => hx, fun x hx => by simp at hx, fun j hj hs => by have := I.opn j hj hs; simp at this⟩
   rw [show ints [] = [] from rfl]
   simp only [b383]
   rfl
 | succ m ih =>
   intro st S V hm hm2 I
   rcases List.eq_nil_or_concat S with hS | ⟨S', k, hS⟩
   · subst hS
     refine ⟨.inr (n, rowF n.1.length st), ob383 ?_, rfl, st, V, rfl, I, fun x hx => hx, fun x hx => by simp at hx, fun j hj hs => by have := I.opn j hj hs; simp at this⟩
     rw [show ints [] = [] from rfl]
     simp only [b383]
     rfl
   · rw [List.concat_eq_append] at hS
     subst hS
     have hk := I.lt k (by simp)
     rw [length_append, List.length_singleton] at hm
     have e0 : ints (S' ++ [k]) = ints S' ++ [(k : Int)] := by rw [ints_app]; rfl
     have hlen : (((ints S' ++ [(k : Int)]).length : Nat) : Int) > 0 := by rw [length_append, List.length_singleton]; omega
     have hpr : IntKind.i64.wrap ((((ints S' ++ [(k : Int)]).length : Nat) : Int) - 1) = (((ints S').length : Nat) : Int) := by
      rw [length_append, List.length_singleton, ints_len, wr (by omega)]; omega
     have htop : nth (ints S' ++ [(k : Int)]) ((((ints S').length : Nat) : Int)).toNat = some (k : Int) := nth_mid (ints S') (k : Int) []
     have htopi : inb (((ints S').length : Nat) : Int) (ints S' ++ [(k : Int)]).length = true := inb_mid (ints S') (k : Int) []
     have htopb : inb' (((ints S').length : Nat) : Int) (ints S' ++ [(k : Int)]).length = true := inb'_t (by omega) (by simp; omega)
     have hcut : (ints S' ++ [(k : Int)]).take (ints S').length = ints S' := by simp
     have hst : nth (rowF n.1.length st) k = some (st k) := rowF_get st hk
     have more : ∀ {st1 S1 V1}, 4 * freshC n.1.length st1 + S1.length ≤ m → GoInv n st1 S1 V1 → (∀ x ∈ V, x ∈ V1) → (∀ x ∈ S' ++ [k], x ∈ S1 ∨ x ∈ V1) →
       (∀ y, k383 T.rb n (rowF n.1.length st1) (ints S1) = some y → b383 T.rf T.rb n (rowF n.1.length st) (ints S' ++ [(k : Int)]) = some y) →
       ∃ z, k383 T.rb n (rowF n.1.length st) (ints (S' ++ [k])) = some z ∧ GoOut n (S' ++ [k]) V z := by
      intro st1 S1 V1 h1 I1 h2 h3 h4
      obtain ⟨z, hz, ho⟩ := ih st1 S1 V1 h1 (by omega) I1
      refine ⟨z, ob383 (by rw [e0]; exact h4 z hz), ?_⟩
      cases z with
      | inl u => exact ho
      | inr w =>
        obtain ⟨a, st', V', b, c, d, e, f⟩ := ho
        exact ⟨a, st', V', b, c, fun x hx => d x (h2 x hx), fun x hx => (h3 x hx).elim (e x) (d x), f⟩
     by_cases h0 : st k = 0
     · by_cases hp : (opAtN n k).1 = 21
       ·
        have hL : LN n k = [] := by rw [LN, opsN, if_pos hp]; rfl
        have I1 := inv_open hN I h0 (by rw [hL]; rfl)
        rw [hL, List.filter_nil, List.append_nil] at I1
        have hf := fresh_open hk h0
        refine more (st1 := setSt st k 1) (S1 := S' ++ [k]) (V1 := V) (by rw [length_append, List.length_singleton]; omega) I1 (fun x hx => hx) (fun x hx => Or.inl hx) (fun y hy => ?_)
        rw [e0] at hy
        simp only [b383, dt hlen, cond_true, hpr, htopi, htop, bind_some]
        simp only [inb_nat, rowF_len, dt hk, cond_true, Int.toNat_natCast, hst, bind_some, nbt h0, cond_false, blt_t hk, opAtN_nth hk, bt hp, setSt_row]
        exact hy
       · have hL : opsN (opAtN n k) = usedN (opAtN n k) := by rw [opsN, if_neg hp]
         have hLi := ints_LN hN hk
         rw [hL] at hLi
         have hLl := LN_len n k
         have hpush := push_loop n.1.length (setSt st k 1) (LN n k) [] (ints S' ++ [(k : Int)]) (LN_lt hN hk) (by simp only [length_nil]; omega) (by simp [ints_len]; omega)
         rw [show ints [] = [] from rfl, List.nil_append, length_nil, show ((0 : Nat) : Int) = (0 : Int) from rfl, hLi] at hpush
         have hhead : ∀ y, (k384 T.rb (rowF n.1.length (setSt st k 1)) (ints S' ++ [(k : Int)]) (usedN (opAtN n k)) (((usedN (opAtN n k)).length : Nat) : Int) 0).bind (fun z6 => match z6 with
           | .inl u7 => some (.inl (n, u7))
           | .inr w8 => k383 T.rb n w8.1 w8.2) = some y → b383 T.rf T.rb n (rowF n.1.length st) (ints S' ++ [(k : Int)]) = some y := fun y hy => by
          simp only [b383, dt hlen, cond_true, hpr, htopi, htop, bind_some]
          simp only [inb_nat, rowF_len, dt hk, cond_true, Int.toNat_natCast, hst, bind_some, nbt h0, cond_false, blt_t hk, opAtN_nth hk, bf hp, fields_eq, setSt_row]
          exact hy
         cases hany : (LN n k).any fun j => setSt st k 1 j == 1
         · rw [hany, if_neg (by decide)] at hpush
           have I1 := inv_open hN I h0 hany
           have hf := fresh_open hk h0
           have hfl := List.length_filter_le (fun j => setSt st k 1 j == 0) (LN n k)
           refine more (st1 := setSt st k 1) (S1 := S' ++ [k] ++ (LN n k).filter fun j => setSt st k 1 j == 0) (V1 := V) (by simp only [length_append, List.length_singleton]; omega) I1 (fun x hx => hx) (fun x hx => Or.inl (List.mem_append_left _ hx)) (fun y hy => hhead y ?_)
           rw [hpush, bind_some]
           rw [ints_app, e0] at hy
           exact hy
         · rw [hany, if_pos rfl] at hpush
           exact ⟨.inl (n, rowF n.1.length (setSt st k 1), true), ob383 (by rw [e0]; exact hhead _ (by rw [hpush, bind_some])), rfl, inv_cyc hN I hany⟩
     · have hstep : ∀ y, k383 T.rb n (rowF n.1.length (setSt st k 2)) (ints S') = some y → b383 T.rf T.rb n (rowF n.1.length st) (ints S' ++ [(k : Int)]) = some y := fun y hy => by
        simp only [b383, dt hlen, cond_true, hpr, htopi, htop, htopb, bind_some]
        simp only [inb_nat, rowF_len, dt hk, cond_true, Int.toNat_natCast, hst, bind_some, nbf h0, blt_t hk, setSt_row, Nat.sub_zero, sub_zero, hcut]
        exact hy
       have hf := fresh_done (N := n.1.length) h0
       rcases I.three k hk with a | a | a
       · exact absurd a h0
       · exact more (st1 := setSt st k 2) (S1 := S') (V1 := V ++ [k]) (by omega) (inv_close I a) (fun x hx => List.mem_append_left _ hx) (fun x hx => (List.mem_append.1 hx).elim Or.inl (fun b => Or.inr (List.mem_append_right _ b))) hstep
       · have hsame : setSt st k 2 = st := funext fun j => by
          by_cases e : j = k
          · rw [e, setSt_same, a]
          · exact setSt_other _ e
         exact more (st1 := setSt st k 2) (S1 := S') (V1 := V) (by omega) (by rw [hsame]; exact inv_pop2 I a) (fun x hx => hx) (fun x hx => (List.mem_append.1 hx).elim Or.inl (fun b => Or.inr (by rw [List.mem_singleton.1 b]; exact (I.done k hk).1 a))) hstep
def AllOut (n : Nt) : (Nt × List Int × Bool) ⊕ (Nt × List Int) → Prop
 | .inl u => u.2.2 = true ∧ Cyc n
 | .inr w => ∃ V, Val (DN n) n.1.length V ∧ ∀ j, j < n.1.length → j ∈ V
theorem go_all {n : Nt} (hN : NetP n) (hl : n.1.length ≤ 100000) : ∀ (m i : Nat) (st : Nat → Int) (V : List Nat), i + m = n.1.length → GoInv n st [] V → (∀ j, j < i → j ∈ V) →
  ∃ z, k382 T.rb n (rowF n.1.length st) (n.1.length : Nat) (i : Nat) = some z ∧ AllOut n z
 | 0, i, st, V, hm, I, hV => ⟨.inr (n, rowF n.1.length st), ob382 (by
    simp only [b382]
    rw [df (by omega), cond_false]), V, I.val, fun j hj => hV j (by omega)⟩
 | m + 1, i, st, V, hm, I, hV => by
   have hi : i < n.1.length := by omega
   have noopen : ∀ x, x < n.1.length → st x ≠ 1 := fun x hx hs => by have := I.opn x hx hs; simp at this
   have I1 : GoInv n st [i] V := ⟨fun x hx => by rw [List.mem_singleton.1 hx]; exact hi, I.val, I.three, I.done, fun j hj hs => absurd hs (noopen j hj), fun A x B e hx => by
    have hxi : x ∈ [i] := by rw [e]; simp
    rw [List.mem_singleton.1 hxi] at hx
    exact absurd hx (noopen i hi), fun A x B e hx => by
    have hxi : x ∈ [i] := by rw [e]; simp
    rw [List.mem_singleton.1 hxi] at hx
    exact absurd hx (noopen i hi)⟩
   have hfr : freshC n.1.length st ≤ n.1.length := by have := List.length_filter_le (fun i => st i == 0) (List.range n.1.length); rw [List.length_range] at this; exact this
   obtain ⟨z, hz, ho⟩ := go_loop hN hl (4 * freshC n.1.length st + 1) st [i] V (Nat.le_refl _) (by omega) I1
   rw [show ints [i] = [((i : Nat) : Int)] from rfl] at hz
   cases z with
   | inl u =>
     refine ⟨.inl u, ob382 ?_, ho⟩
     simp only [b382]
     rw [dt (by omega), cond_true, hz, bind_some]
   | inr w =>
     obtain ⟨a, st', V', b, c, d, e, f⟩ := ho
     obtain ⟨z2, hz2, ho2⟩ := go_all hN hl m (i + 1) st' V' (by omega) c (fun j hj => by
      by_cases h : j = i
      · rw [h]; exact e i (by simp)
      · exact d j (hV j (by omega)))
     refine ⟨z2, ob382 ?_, ho2⟩
     simp only [b382]
     rw [dt (by omega), cond_true, hz, bind_some]
     show k382 T.rb w.1 w.2 _ _ = _
     rw [a, b, wr_succ (by omega)]
     exact hz2
theorem goes_eq {n : Nt} (hN : NetP n) (hl : n.1.length ≤ 100000) : c98 T.rf n = some (decide ((greedy (DN n) n.1.length n.1.length []).length < n.1.length)) := or98 (by
 obtain ⟨z, hz, ho⟩ := go_all hN hl n.1.length 0 (fun _ => 0) [] (by omega) ⟨fun x hx => by simp at hx, Val.nil, fun k _ => Or.inl rfl, fun k _ => ⟨fun a => absurd a (by decide), fun a => by simp at a⟩, fun k _ a => absurd a (by decide), fun A x B e => by simp at e, fun A x B e => by simp at e⟩ (fun j hj => by omega)
 rw [← rowF_rep, show ((0 : Nat) : Int) = (0 : Int) from rfl] at hz
 have hm : inb' ((n.1.length : Nat) : Int) most = true := inb'_t (by omega) (by rw [show most = 274877906944 from rfl]; omega)
 have hm2 : inb' ((n.1.length : Nat) : Int) n.1.length = true := inb'_t (by omega) (by omega)
 simp only [r98, hm, hm2, cond_true, hz, bind_some]
 cases z with
 | inl u => rw [dt (cyc_no ho.2)]; exact congrArg some ho.1
 | inr w =>
   obtain ⟨V, hv, ha⟩ := ho
   have hlen : n.1.length ≤ V.length := by
    have := sub_len (l := List.range n.1.length) (m := V) List.nodup_range (fun x hx => ha x (List.mem_range.1 hx))
    rwa [List.length_range] at this
   rw [df (ordO_of hv hlen)])
def chkN (n : Nt) : Int := if mayN n = true then (if (greedy (DN n) n.1.length n.1.length []).length < n.1.length then 12 else 0) else 1
theorem CheckN_eq {n : Nt} (h1 : n.1.length ≤ 100000) (h2 : n.2.1.length ≤ 1000000) : c82 T.rf n = some (chkN n) := or82 (by
 simp only [r82, df (show ¬ ((n.1.length : Nat) : Int) > 100000 by omega), cond_false, opsC_eq n (l := n.1) (by omega), bind_some, rootsC_eq n (l := n.2.1) h2]
 unfold chkN
 cases hm : mayN n
 · rw [if_neg (by decide)]
   unfold mayN at hm
   cases ha : n.1.all (mayO n)
   · rfl
   · rw [ha, Bool.true_and] at hm
     rw [hm]; rfl
 · have hm' := hm
   unfold mayN at hm
   rw [Bool.and_eq_true] at hm
   rw [hm.1, hm.2, goes_eq (may_N hm') h1, bind_some, if_pos rfl]
   by_cases hg : (greedy (DN n) n.1.length n.1.length []).length < n.1.length
   · rw [dt hg, if_pos hg]; rfl
   · rw [df hg, if_neg hg]; rfl)
section
variable {n : Nt} {V : List Nat}
end
end Go.Proofs.YtadonikkibahnaaGreat.R
end
