/-
  OUR OWN: whether code may be: the loops; the laws CodeChecks, CodeFewer.
-/
import Derived.Test.YteifekbmmhpadaaCodA
import Derived.Test.YteifekbmmhpadaaSchH
import Derived.Test.YteifekbmmhpadaaResOk
namespace Go.Proofs.Yteifekbmmhpadaa.R
open Go Go.Bm Go.Proofs
set_option linter.unusedVariables false
set_option linter.unusedSimpArgs false
set_option maxRecDepth 4000

theorem restC_eq {x : Ic} (h : 0 ≤ rdN x.1) : c30 T.rf x (rdN x.1) = some (restI x) := or30 (by
  have hrl := rdN_le x.1
  obtain ⟨op, d, a, b, e, m⟩ := x
  simp only [r30, restI]
  generalize hrd : rdN op = rd at *
  simp only [eqn, bne]
  repeat' refine opt_bif (fun _ => ?_) (fun _ => ?_)
  all_goals
    refine congrArg some ?_
    simp only [Bool.and_eq_true, Bool.and_eq_false_iff, Bool.not_eq_true', Bool.not_eq_false', decide_eq_true_eq, decide_eq_false_iff_not, ge_iff_le, Int.not_le, Bool.and_true, Bool.true_and] at *
    first
      | (refine (decide_eq_false ?_).symm; intro hh; omega)
      | (refine (decide_eq_true ?_).symm; omega)
      | (refine decide_eq_decide.2 ?_; constructor <;> intro hh <;> omega))
theorem numberC_eq (c : Cd) (x : Ic) : c31 T.rf c x = some (numI c x) := or31 (by
  obtain ⟨op, d, a, b, e, m⟩ := x
  simp only [r31, numI, refFits_eq, Option.bind_some, eqn]
  repeat' refine opt_bif (fun _ => ?_) (fun _ => ?_)
  all_goals
    refine congrArg some ?_
    simp only [decide_eq_true_eq, decide_eq_false_iff_not, ge_iff_le, Int.not_le] at *
    first
      | (refine (decide_eq_false ?_).symm; intro hh; omega)
      | (refine (decide_eq_true ?_).symm; omega)
      | (refine decide_eq_decide.2 ?_; constructor <;> intro hh <;> omega))

/-! What is written, and what is stored. -/
def stepC (c : Cd) (x : Ic) (s : List Int × List Int) : Option (List Int × List Int) :=
  if okI c x = true ∧ (rdL x).all (fun k => decide (k ∈ s.1)) = true then
    (if x.1 = 30 then (if x.2.2.2.2.2 ∈ s.2 then none else some (s.1, x.2.2.2.2.2 :: s.2))
     else if x.2.1 < 0 ∨ c.2.1 ≤ x.2.1 ∨ (x.1 = 21 ∧ s.2 ≠ []) then none else some (x.2.1 :: s.1, s.2))
  else none
def runC (c : Cd) : List Ic → List Int × List Int → Option (List Int × List Int)
  | [], s => some s
  | x :: r, s => match stepC c x s with
    | none => none
    | some s' => runC c r s'
def bigC (c : Cd) : Bool := decide (c.2.1 < 0 ∨ 100000 < c.2.1 ∨ c.2.2.1 < 0 ∨ 100000 < c.2.2.1 ∨ 200000 < c.1.length)
def chkC (c : Cd) : Int := if bigC c = true then 1 else match runC c c.1 ([], []) with
  | none => 1
  | some s => if c.2.2.2.1.all (fun k => decide (k ∈ s.1)) = true then 0 else 1

theorem get_setI {V : Type} (d : V) (x : Int) (v : V) (y : Int) : ∀ m : List (Int × V), assocGet (CT.eqK (.int .i64)) d (assocSet (CT.eqK (.int .i64)) m x v) y = if y = x then v else assocGet (CT.eqK (.int .i64)) d m y
  | [] => by
    simp only [assocSet, assocGet, assoc]
    by_cases e : y = x
    · rw [if_pos e, show CT.eqK (.int .i64) y x = true from beq_iff_eq.2 e]; rfl
    · rw [if_neg e, show CT.eqK (.int .i64) y x = false from beq_eq_false_iff_ne.2 e]; rfl
  | p :: r => by
    have ih := get_setI d x v y r
    simp only [assocSet]
    by_cases e : x = p.1
    · rw [show CT.eqK (.int .i64) x p.1 = true from beq_iff_eq.2 e, cond_true]
      simp only [assocGet, assoc]
      by_cases e2 : y = x
      · rw [if_pos e2, show CT.eqK (.int .i64) y x = true from beq_iff_eq.2 e2]; rfl
      · rw [if_neg e2, show CT.eqK (.int .i64) y x = false from beq_eq_false_iff_ne.2 e2, show CT.eqK (.int .i64) y p.1 = false from beq_eq_false_iff_ne.2 (e ▸ e2)]; rfl
    · rw [show CT.eqK (.int .i64) x p.1 = false from beq_eq_false_iff_ne.2 e, cond_false]
      simp only [assocGet, assoc] at ih ⊢
      by_cases e2 : y = p.1
      · rw [show CT.eqK (.int .i64) y p.1 = true from beq_iff_eq.2 e2, if_neg (fun e3 : y = x => e (e3.symm.trans e2))]
        rfl
      · rw [show CT.eqK (.int .i64) y p.1 = false from beq_eq_false_iff_ne.2 e2, cond_false, cond_false]; exact ih
/-- A map that tells which numbers are there. -/
def InM (m : List (Int × Bool)) (s : List Int) : Prop := ∀ k, assocGet (CT.eqK (.int .i64)) false m k = decide (k ∈ s)
theorem inM_nil : InM [] [] := fun k => by simp [assocGet, assoc]
theorem inM_set {m : List (Int × Bool)} {s : List Int} (h : InM m s) (x : Int) : InM (assocSet (CT.eqK (.int .i64)) m x true) (x :: s) := fun k => by
  rw [get_setI, h k]
  by_cases e : k = x
  · rw [if_pos e]; simp [e]
  · rw [if_neg e]; simp [e]
theorem set_ne (m : List (Int × Bool)) (x : Int) : 0 < (assocSet (CT.eqK (.int .i64)) m x true).length := by
  cases m with
  | nil => simp [assocSet]
  | cons p r =>
    simp only [assocSet]
    cases CT.eqK (.int .i64) x p.1 <;> simp

/-! The program's loops. -/
theorem crd_loop {m : List (Int × Bool)} {s : List Int} (hm : InM m s) : ∀ (suf pre : List Int), pre.length + suf.length ≤ 1000 →
    k1 T.rb (pre ++ suf) m ((pre ++ suf).length : Nat) (pre.length : Nat) = some (if suf.all (fun k => decide (k ∈ s)) = true then .inr (pre ++ suf, m) else .inl (pre ++ suf, m, 1))
  | [], pre, h => ob1 (by simp only [b1, lt_end, lt_self, List.append_nil, cond_false]; rfl)
  | k :: suf, pre, h => ob1 (by
    simp only [List.length_cons] at h
    have ih := crd_loop hm suf (pre ++ [k]) (by simp; omega)
    simp only [List.append_assoc, List.singleton_append] at ih
    simp only [b1, lt_mid, inb_mid, nth_mid, cond_true, Option.bind_some, hm k, next_mid pre k (by omega), ih]
    rw [List.all_cons]
    cases decide (k ∈ s) <;> rfl)
theorem crd_tail {m : List (Int × Bool)} {s : List Int} (hm : InM m s) {l : List Int} (hl : l.length ≤ 1000) : k1 T.rb l m ((l.length : Nat) : Int) 0 = some (if l.all (fun k => decide (k ∈ s)) = true then .inr (l, m) else .inl (l, m, 1)) := by
  have h0 := crd_loop hm l [] (by simpa using hl)
  rw [List.nil_append, List.length_nil, show ((0 : Nat) : Int) = (0 : Int) from rfl] at h0
  exact h0
theorem stepC_none {c : Cd} {x : Ic} {s : List Int × List Int} (h : ¬ (okI c x = true ∧ (rdL x).all (fun k => decide (k ∈ s.1)) = true)) : stepC c x s = none := by rw [stepC, if_neg h]
def outC (c : Cd) (z : (Cd × List (Int × Bool) × List (Int × Bool) × Int) ⊕ (Cd × List (Int × Bool) × List (Int × Bool))) : Option (List Int × List Int) → Prop
  | none => ∃ u, z = .inl u ∧ u.2.2.2 = 1
  | some s => ∃ ms mw, z = .inr (c, ms, mw) ∧ InM mw s.1 ∧ InM ms s.2
theorem chk_loop {c : Cd} (hs : 0 ≤ c.2.2.1 ∧ c.2.2.1 ≤ 1000000) (hi : c.2.2.2.2.length ≤ 1000000) : ∀ (suf pre : List Ic) (ms mw : List (Int × Bool)) (s : List Int × List Int), pre.length + suf.length ≤ 1000000 → InM mw s.1 → InM ms s.2 → (ms.length = 0 ↔ s.2 = []) →
    ∃ z, k0 T.rb c ms mw (pre ++ suf) ((pre ++ suf).length : Nat) (pre.length : Nat) = some z ∧ outC c z (runC c suf s)
  | [], pre, ms, mw, s, hl, h1, h2, h3 => ⟨.inr (c, ms, mw), ob0 (by simp only [b0, lt_end, lt_self, List.append_nil, cond_false]), ms, mw, rfl, h1, h2⟩
  | x :: suf, pre, ms, mw, s, hl, h1, h2, h3 => by
    simp only [List.length_cons] at hl
    rw [runC]
    have hpl := isPlain_eq hs hi x
    cases hok : okI c x
    · refine ⟨.inl (c, ms, mw, 1), ob0 ?_, by rw [stepC_none (fun h => by rw [hok] at h; exact absurd h.1 (by decide))]; exact ⟨_, rfl, rfl⟩⟩
      simp only [b0, lt_mid, inb_mid, nth_mid, cond_true, Option.bind_some, hpl, hok, Bool.not_false]
    · have hrd : 0 ≤ rdN x.1 := by
        rw [okI, Bool.and_eq_true] at hok
        exact of_decide_eq_true hok.1
      have hrle := rdN_le x.1
      have hrL := rdL_len hrd
      have hcut : sub [x.2.2.1, x.2.2.2.1, x.2.2.2.2.1] (some (0, (rdN x.1).toNat - 0)) = rdL x := by rw [Nat.sub_zero]; rfl
      have hti := crd_tail h1 (l := rdL x) (by omega)
      have hlen : ((((rdN x.1).toNat - 0 : Nat)) : Int) = (((rdL x).length : Nat) : Int) := by omega
      have head : ∀ {y}, (match (if (rdL x).all (fun k => decide (k ∈ s.1)) = true then (.inr (rdL x, mw) : (List Int × List (Int × Bool) × Int) ⊕ (List Int × List (Int × Bool))) else .inl (rdL x, mw, 1)) with
          | .inl u5 => some (.inl (c, ms, u5.2))
          | .inr w6 =>
            bif x.1 == 30 then
              bif assocGet (CT.eqK (.int .i64)) false ms x.2.2.2.2.2 then some (.inl (c, ms, w6.2, 1))
              else k0 T.rb c (assocSet (CT.eqK (.int .i64)) ms x.2.2.2.2.2 true) w6.2 (pre ++ x :: suf) ((pre ++ x :: suf).length : Nat) (((pre ++ [x]).length : Nat) : Int)
            else bif decide (x.2.1 < 0) then some (.inl (c, ms, w6.2, 1))
            else bif decide (x.2.1 ≥ c.2.1) then some (.inl (c, ms, w6.2, 1))
            else bif x.1 == 21 then
              bif decide (((ms.length : Nat) : Int) > 0) then some (.inl (c, ms, w6.2, 1))
              else k0 T.rb c ms (assocSet (CT.eqK (.int .i64)) w6.2 x.2.1 true) (pre ++ x :: suf) ((pre ++ x :: suf).length : Nat) (((pre ++ [x]).length : Nat) : Int)
            else k0 T.rb c ms (assocSet (CT.eqK (.int .i64)) w6.2 x.2.1 true) (pre ++ x :: suf) ((pre ++ x :: suf).length : Nat) (((pre ++ [x]).length : Nat) : Int)) = some y →
          k0 T.rb c ms mw (pre ++ x :: suf) ((pre ++ x :: suf).length : Nat) (pre.length : Nat) = some y := fun {y} hy => ob0 (by
        simp only [b0, lt_mid, inb_mid, nth_mid, cond_true, Option.bind_some, hpl, hok, Bool.not_true, cond_false, creads_eq, inb'_t (x := rdN x.1) (n := 3) hrd (by omega), hcut, hlen, hti, next_mid pre x (by omega)]
        exact hy)
      cases hall : (rdL x).all fun k => decide (k ∈ s.1)
      · refine ⟨.inl (c, ms, mw, 1), head (by rw [hall]; rfl), by rw [stepC_none (fun h => by rw [hall] at h; exact absurd h.2 (by decide))]; exact ⟨_, rfl, rfl⟩⟩
      · rw [hall, if_pos rfl] at head
        have hst : stepC c x s = (if x.1 = 30 then (if x.2.2.2.2.2 ∈ s.2 then none else some (s.1, x.2.2.2.2.2 :: s.2))
     else if x.2.1 < 0 ∨ c.2.1 ≤ x.2.1 ∨ (x.1 = 21 ∧ s.2 ≠ []) then none else some (x.2.1 :: s.1, s.2)) := by rw [stepC, if_pos ⟨hok, hall⟩]
        rw [hst]
        by_cases h30 : x.1 = 30
        · rw [if_pos h30]
          by_cases hin : x.2.2.2.2.2 ∈ s.2
          · rw [if_pos hin]
            exact ⟨_, head (by rw [bt h30, h2 x.2.2.2.2.2, dt hin]; rfl), _, rfl, rfl⟩
          · rw [if_neg hin]
            obtain ⟨z, hz, ho⟩ := chk_loop hs hi suf (pre ++ [x]) (assocSet (CT.eqK (.int .i64)) ms x.2.2.2.2.2 true) mw (s.1, x.2.2.2.2.2 :: s.2) (by simp; omega) h1 (inM_set h2 _) ⟨fun h => absurd h (by have := set_ne ms x.2.2.2.2.2; omega), fun h => absurd h (by simp)⟩
            simp only [List.append_assoc, List.singleton_append] at hz
            exact ⟨z, head (by rw [bt h30, h2 x.2.2.2.2.2, df hin]; exact hz), ho⟩
        · rw [if_neg h30]
          have go : ¬ (x.2.1 < 0 ∨ c.2.1 ≤ x.2.1 ∨ (x.1 = 21 ∧ s.2 ≠ [])) → ∃ z, k0 T.rb c ms (assocSet (CT.eqK (.int .i64)) mw x.2.1 true) (pre ++ x :: suf) ((pre ++ x :: suf).length : Nat) (((pre ++ [x]).length : Nat) : Int) = some z ∧ outC c z (runC c suf (x.2.1 :: s.1, s.2)) := fun _ => by
            obtain ⟨z, hz, ho⟩ := chk_loop hs hi suf (pre ++ [x]) ms (assocSet (CT.eqK (.int .i64)) mw x.2.1 true) (x.2.1 :: s.1, s.2) (by simp; omega) (inM_set h1 _) h2 h3
            simp only [List.append_assoc, List.singleton_append] at hz
            exact ⟨z, hz, ho⟩
          by_cases hd : x.2.1 < 0
          · rw [if_pos (Or.inl hd)]
            exact ⟨_, head (by rw [bf h30, dt hd]; rfl), _, rfl, rfl⟩
          by_cases hr : c.2.1 ≤ x.2.1
          · rw [if_pos (Or.inr (Or.inl hr))]
            exact ⟨_, head (by rw [bf h30, df hd, dt (show x.2.1 ≥ c.2.1 from hr)]; rfl), _, rfl, rfl⟩
          by_cases h21 : x.1 = 21
          · by_cases he : s.2 = []
            · obtain ⟨z, hz, ho⟩ := go (by intro h; rcases h with h | h | h; exact hd h; exact hr h; exact h.2 he)
              rw [if_neg (by intro h; rcases h with h | h | h; exact hd h; exact hr h; exact h.2 he)]
              have := h3.2 he
              exact ⟨z, head (by rw [bf h30, df hd, df (show ¬ x.2.1 ≥ c.2.1 from hr), bt h21, df (show ¬ ((ms.length : Nat) : Int) > 0 by omega)]; exact hz), ho⟩
            · rw [if_pos (Or.inr (Or.inr ⟨h21, he⟩))]
              have hml : ms.length ≠ 0 := fun h => he (h3.1 h)
              exact ⟨_, head (by rw [bf h30, df hd, df (show ¬ x.2.1 ≥ c.2.1 from hr), bt h21, dt (show ((ms.length : Nat) : Int) > 0 by omega)]; rfl), _, rfl, rfl⟩
          · have hn : ¬ (x.2.1 < 0 ∨ c.2.1 ≤ x.2.1 ∨ (x.1 = 21 ∧ s.2 ≠ [])) := by
              intro h; rcases h with h | h | h
              · exact hd h
              · exact hr h
              · exact h21 h.1
            obtain ⟨z, hz, ho⟩ := go hn
            rw [if_neg hn]
            exact ⟨z, head (by rw [bf h30, df hd, df (show ¬ x.2.1 ≥ c.2.1 from hr), bf h21]; exact hz), ho⟩
theorem outs_loop {m : List (Int × Bool)} {s : List Int} (hm : InM m s) : ∀ (suf pre : List Int), pre.length + suf.length ≤ 1000000 →
    ∃ z, k2 T.rb m (pre ++ suf) ((pre ++ suf).length : Nat) (pre.length : Nat) = some z ∧ ixP m (suf.all fun k => decide (k ∈ s)) z
  | [], pre, h => ⟨.inr m, ob2 (by simp only [b2, lt_end, lt_self, List.append_nil, cond_false]), rfl, rfl⟩
  | x :: suf, pre, h => by
    simp only [List.length_cons] at h
    obtain ⟨z, ih, hz⟩ := outs_loop hm suf (pre ++ [x]) (by simp; omega)
    simp only [List.append_assoc, List.singleton_append] at ih
    have h1 : c11 T.rf m x = some (m, !(decide (x ∈ s))) := or11 (by simp only [r11, hm x])
    cases hx : decide (x ∈ s)
    · refine ⟨.inl (m, (pre.length : Nat)), ob2 ?_, rfl, by omega, by rw [List.all_cons, hx]; rfl⟩
      simp only [b2, lt_mid, inb_mid, nth_mid, cond_true, Option.bind_some, h1, hx, Bool.not_false]
    · refine ⟨z, ob2 ?_, ?_⟩
      · simp only [b2, lt_mid, inb_mid, nth_mid, cond_true, Option.bind_some, h1, hx, Bool.not_true, cond_false, next_mid pre x (by omega)]
        exact ih
      · rw [List.all_cons, hx, Bool.true_and]; exact hz
theorem outsC_eq {m : List (Int × Bool)} {s : List Int} (hm : InM m s) {l : List Int} (h : l.length ≤ 1000000) : c9 T.rf m l = some (m, !l.all fun k => decide (k ∈ s)) := or9 (by
  obtain ⟨z, h0, hz⟩ := outs_loop hm l [] (by simpa using h)
  rw [List.nil_append, List.length_nil, show ((0 : Nat) : Int) = (0 : Int) from rfl] at h0
  have hI : c10 T.rf m l = some (ixO z) := or10 (by
    simp only [r10, h0, Option.bind_some]
    cases z <;> rfl)
  simp only [r9, hI, Option.bind_some, ixP_fin hz])
theorem CheckC_eq {c : Cd} (ho : c.2.2.2.1.length ≤ 1000000) (hi : c.2.2.2.2.length ≤ 1000000) : c4 T.rf c = some (chkC c) := or4 (by
  simp only [r4]
  unfold chkC bigC
  by_cases a1 : c.2.1 < 0
  · rw [dt a1, cond_true, if_pos (dt (Or.inl a1))]
  rw [df a1, cond_false]
  by_cases a2 : 100000 < c.2.1
  · rw [dt (show c.2.1 > 100000 from a2), cond_true, if_pos (dt (Or.inr (Or.inl a2)))]
  rw [df (show ¬ c.2.1 > 100000 from a2), cond_false]
  by_cases a3 : c.2.2.1 < 0
  · rw [dt a3, cond_true, if_pos (dt (Or.inr (Or.inr (Or.inl a3))))]
  rw [df a3, cond_false]
  by_cases a4 : 100000 < c.2.2.1
  · rw [dt (show c.2.2.1 > 100000 from a4), cond_true, if_pos (dt (Or.inr (Or.inr (Or.inr (Or.inl a4)))))]
  rw [df (show ¬ c.2.2.1 > 100000 from a4), cond_false]
  by_cases a5 : 200000 < c.1.length
  · rw [dt (show ((c.1.length : Nat) : Int) > 200000 by omega), cond_true, if_pos (dt (Or.inr (Or.inr (Or.inr (Or.inr a5)))))]
  rw [df (show ¬ ((c.1.length : Nat) : Int) > 200000 by omega), cond_false, if_neg (by intro h; have := of_decide_eq_true h; omega)]
  obtain ⟨z, h0, hz⟩ := chk_loop (c := c) (by omega) hi c.1 [] [] [] ([], []) (by simp; omega) inM_nil inM_nil (by simp)
  rw [List.nil_append, List.length_nil, show ((0 : Nat) : Int) = (0 : Int) from rfl] at h0
  rw [h0, Option.bind_some]
  cases hrun : runC c c.1 ([], []) with
  | none =>
    rw [hrun] at hz
    obtain ⟨u, rfl, hu⟩ := hz
    exact congrArg some hu
  | some s =>
    rw [hrun] at hz
    obtain ⟨ms, mw, rfl, g1, g2⟩ := hz
    simp only [outsC_eq g1 ho, Option.bind_some]
    cases c.2.2.2.1.all fun k => decide (k ∈ s.1) <;> rfl)

end Go.Proofs.Yteifekbmmhpadaa.R
