import Derived.Test.YtlobhcgbmpcdlaaGreatDoorTreX
import Derived.Test.YtlobhcgbmpcdlaaGreatDoorBmF
open Option (bind_some)
open List (length_append length_cons length_nil)
open Bool (and_eq_true)
section
namespace Go.Proofs.YtlobhcgbmpcdlaaGreatDoor.R
open Go Go.Bm Go.Proofs
set_option linter.unusedVariables false
set_option linter.unusedSimpArgs false
set_option maxRecDepth 4000
def V4 (s : List UInt8) : Bool := decide (s ∈ B3)
theorem b5t : ∀ s : List UInt8, ltB s s = false
 | [] => rfl
 | a :: s => by
   have : ¬ a < a := by simp
   simp only [ltB, df this, b5t s, Bool.and_false, Bool.or_false]
theorem a5E : ∀ {a b c : List UInt8}, ltB a b = true → ltB b c = true → ltB a c = true
 | a, [], c, h, _ => by
   have : ltB a [] = false := by cases a <;> rfl
   rw [this] at h; cases h
 | a, y :: b, [], _, h => by cases h
 | [], y :: b, z :: c, _, _ => rfl
 | x :: a, y :: b, z :: c, h, k => by
   simp only [ltB, Bool.or_eq_true, and_eq_true, decide_eq_true_eq, beq_iff_eq] at *
   rcases h with h | ⟨rfl, h⟩
   · rcases k with k | ⟨rfl, k⟩
     · exact .inl (UInt8.lt_trans h k)
     · exact .inl h
   · rcases k with k | ⟨rfl, k⟩
     · exact .inl k
     · exact .inr ⟨rfl, a5E h k⟩
theorem a1t : ∀ i, i < 35 → ∀ m, m < 35 → i < m → ltB (B3.getD i []) (B3.getD m []) = true := by decide +kernel
theorem K8 : B3.length = 35 := by decide +kernel
theorem b0G {m : Nat} (h : m < 35) : nth B3 m = some (B3.getD m []) := by
 rw [nth_getElem?, List.getD_eq_getElem?_getD, List.getElem?_eq_getElem (by rw [K8]; exact h)]; rfl
theorem b7R (a b : List UInt8) : c73 T.rf a b = some (ltB a b) := d5U (by
 have h : ∀ x : List UInt8, c74 T.rf x = some false := fun x => d5V (by simp [r74])
 simp only [r73, h, bind_some, cond_false])
theorem c0N {i j : Nat} (h : i + j ≤ 100) : IntKind.i64.wrap (b1z IntKind.u64 (IntKind.u64.wrap (IntKind.i64.wrap ((i : Int) + (j : Int)))) 1) = (((i + j) / 2 : Nat) : Int) := by
 have h0 : IntKind.i64.wrap ((i : Int) + (j : Int)) = (i : Int) + (j : Int) := wr (by omega)
 have h1 : IntKind.u64.wrap ((i : Int) + (j : Int)) = (i : Int) + (j : Int) := IntWalk.u64_in _ (by omega)
 rw [h0, h1]
 have h2 : b1z IntKind.u64 ((i : Int) + (j : Int)) 1 = (((i + j) / 2 : Nat) : Int) := by
  unfold b1z
  have : (min (1 : Int).toNat IntKind.u64.bits) = 1 := by decide
  rw [this]
  have : (2 : Int) ^ 1 = 2 := by decide
  rw [this, Int.fdiv_eq_ediv_of_nonneg _ (by omega)]
  omega
 rw [h2, wr (by omega)]
theorem b3d (s : List UInt8) : ∀ (f i j : Nat), j - i ≤ f → i ≤ j → j ≤ 35 → (∀ k, k < i → ltB (B3.getD k []) s = true) → (∀ k, j ≤ k → k < 35 → ltB (B3.getD k []) s = false) →
  ∃ m : Nat, m ≤ 35 ∧ k71 T.rb B3 s (i : Nat) (j : Nat) = some (m : Int) ∧ (∀ k, k < m → ltB (B3.getD k []) s = true) ∧ (∀ k, m ≤ k → k < 35 → ltB (B3.getD k []) s = false) := by
 intro f
 induction f with
 | zero =>
   intro i j h1 h2 h3 h4 h5
   have : i = j := by omega
   subst this
   exact ⟨i, h3, c1j (by simp only [b71, D7, cond_false]), h4, h5⟩
 | succ f ih =>
   intro i j h1 h2 h3 h4 h5
   by_cases hij : i < j
   case neg =>
    have : i = j := by omega
    subst this
    exact ⟨i, h3, c1j (by simp only [b71, D7, cond_false]), h4, h5⟩
   have hm : (i + j) / 2 < 35 := by omega
   have step : b71 T.rf T.rb B3 s (i : Nat) (j : Nat) = bif ltB (B3.getD ((i + j) / 2) []) s then k71 T.rb B3 s (((i + j) / 2 + 1 : Nat) : Int) (j : Nat) else k71 T.rb B3 s (i : Nat) (((i + j) / 2 : Nat) : Int) := by
    have e1 : decide (((i : Nat) : Int) < ((j : Nat) : Int)) = true := dt (by omega)
    have e2 : inb ((((i + j) / 2 : Nat)) : Int) B3.length = true := D2 (by omega) (by rw [K8]; omega)
    simp only [b71, e1, cond_true, c0N (show i + j ≤ 100 by omega), e2, Int.toNat_natCast, b0G hm, bind_some, b7R, C6 (show (i + j) / 2 < 4611686018427387904 by omega)]
   cases hc : ltB (B3.getD ((i + j) / 2) []) s with
   | true =>
     obtain ⟨m, k1, k2, k3, k4⟩ := ih ((i + j) / 2 + 1) j (by omega) (by omega) h3 (fun k hk => by
      rcases Nat.lt_or_ge k ((i + j) / 2) with g | g
      · by_cases hki : k < i
        · exact h4 k hki
        · cases hck : ltB (B3.getD k []) s with
          | true => rfl
          | false =>
            exact absurd hck (by
             have hs := a1t k (by omega) ((i + j) / 2) hm g
             intro hck
             exact absurd (a5E hs hc) (by rw [hck]; decide))
      · have : k = (i + j) / 2 := by omega
        subst this; exact hc) h5
     exact ⟨m, k1, c1j (by rw [step, hc, cond_true]; exact k2), k3, k4⟩
   | false =>
     obtain ⟨m, k1, k2, k3, k4⟩ := ih i ((i + j) / 2) (by omega) (by omega) (by omega) h4 (fun k hk hk2 => by
      rcases Nat.lt_or_ge ((i + j) / 2) k with g | g
      · cases hck : ltB (B3.getD k []) s with
        | false => rfl
        | true =>
          have hs := a1t ((i + j) / 2) hm k hk2 g
          exact absurd (a5E hs hck) (by rw [hc]; decide)
      · have : k = (i + j) / 2 := by omega
        subst this; exact hc)
     exact ⟨m, k1, c1j (by rw [step, hc, cond_false]; exact k2), k3, k4⟩
theorem b6u (s : List UInt8) : c71 T.rf s = some (V4 s) := d5T (by
 have hn : ∀ x : List UInt8, c75 T.rf x = some false := fun x => d5W (by simp [r75])
 obtain ⟨m, h1, h2, h3, h4⟩ := b3d s 35 0 35 (by omega) (by omega) (by omega) (fun k hk => by omega) (fun k h1 h2 => by omega)
 have h2' : k71 T.rb B3 s 0 (((B3.length : Nat) : Int)) = some (m : Int) := by rw [K8]; exact h2
 have hb : ∃ x, c72 T.rf B3 s = some (x, V4 s) := by
  have key : V4 s = decide (m < 35 ∧ B3.getD m [] = s) := by
   unfold V4
   apply decide_eq_decide.2
   constructor
   · intro hs
     obtain ⟨k, hk⟩ := List.mem_iff_getElem?.1 hs
     have hk35 : k < 35 := by have := (List.getElem?_eq_some_iff.1 hk).1; rwa [K8] at this
     have hks : B3.getD k [] = s := by rw [List.getD_eq_getElem?_getD, hk]; rfl
     have : m = k := by
      rcases Nat.lt_trichotomy m k with g | g | g
      · have a1 := a1t m (by omega) k hk35 g
        rw [hks, h4 m (Nat.le_refl _) (by omega)] at a1; cases a1
      · exact g
      · have a1 := h3 k g
        rw [hks, b5t] at a1; cases a1
     subst this
     exact ⟨hk35, hks⟩
   · rintro ⟨g1, g2⟩
     rw [← g2, List.getD_eq_getElem?_getD, List.getElem?_eq_getElem (by rw [K8]; exact g1)]
     exact List.getElem_mem _
  by_cases hm : m < 35
  · have e1 : decide (((m : Nat) : Int) < ((B3.length : Nat) : Int)) = true := dt (by rw [K8]; omega)
    have e2 : inb ((m : Nat) : Int) B3.length = true := D2 (by omega) (by rw [K8]; omega)
    refine ⟨m, d2J ?_⟩
    rw [key]
    simp only [r72, h2', bind_some, e1, cond_true, e2, Int.toNat_natCast, b0G hm, hn, cond_false]
    cases hc : B3.getD m [] == s with
    | true => rw [dt ⟨hm, eq_of_beq hc⟩]; rfl
    | false => rw [df (fun g => by rw [g.2, beq_self_eq_true] at hc; cases hc)]; rfl
  · have e1 : decide (((m : Nat) : Int) < ((B3.length : Nat) : Int)) = false := df (by rw [K8]; omega)
    refine ⟨m, d2J ?_⟩
    rw [key, df (fun g => hm g.1)]
    simp only [r72, h2', bind_some, e1, cond_false]
 obtain ⟨x, hx⟩ := hb
 simp only [r71, hx, bind_some])
theorem a2s (s : List UInt8) : ∀ (suf pre : List (List UInt8)), pre.length + suf.length ≤ 100 →
  ∃ z, k9 T.rb (pre ++ suf) s (pre.length : Nat) = some z ∧ ((s ∈ suf ∧ ∃ u, z = .inl (u, true)) ∨ (s ∉ suf ∧ ∃ u, z = .inr u))
 | [], pre, h => ⟨.inr pre, ob9 (by simp only [b9, E4, D7, List.append_nil, cond_false]), .inr ⟨by simp, _, rfl⟩⟩
 | x :: suf, pre, h => by
   simp only [length_cons] at h
   obtain ⟨z, h1, h2⟩ := a2s s suf (pre ++ [x]) (by simp; omega)
   simp only [List.append_assoc, List.singleton_append] at h1
   by_cases hx : x = s
   · exact ⟨_, ob9 (by
      simp only [b9, s4, m5, m6, cond_true, bind_some, beq_iff_eq.2 hx]
      rfl), .inl ⟨by simp [hx], _, rfl⟩⟩
   · refine ⟨z, ob9 (by
      simp only [b9, s4, m5, m6, cond_true, bind_some, beq_eq_false_iff_ne.2 hx, cond_false, s3 pre x (by omega)]
      exact h1), ?_⟩
     rcases h2 with ⟨g1, g2⟩ | ⟨g1, g2⟩
     · exact .inl ⟨List.mem_cons_of_mem _ g1, g2⟩
     · exact .inr ⟨by simp only [List.mem_cons, not_or]; exact ⟨fun e => hx e.symm, g1⟩, g2⟩
theorem b2W : c11 T.rf = some B3 := d5x rfl
theorem a4O (s : List UInt8) : c10 T.rf s = some (V4 s) := d5w (by
 obtain ⟨z, h1, h2⟩ := a2s s B3 [] (by rw [K8]; decide)
 simp only [List.nil_append, length_nil] at h1
 rw [show ((0 : Nat) : Int) = (0 : Int) from rfl] at h1
 simp only [r10, b2W, bind_some, h1, V4]
 rcases h2 with ⟨g, u, rfl⟩ | ⟨g, u, rfl⟩
 · rw [dt g]
 · rw [df g])
def a1H (c : UInt8) : Bool := decide (97 ≤ c.toNat ∧ c.toNat ≤ 122) || decide (c.toNat = 95)
def I6 (c : UInt8) : Bool := decide (48 ≤ c.toNat ∧ c.toNat ≤ 57)
theorem a2j (c : UInt8) : G7 c = (a1H c || I6 c) := by
 unfold G7 a1H I6
 rw [Bool.eq_iff_iff]
 simp only [Bool.or_eq_true, and_eq_true, decide_eq_true_eq, Nat.ble_eq, Nat.beq_eq]
theorem c1b {c : UInt8} (h : G7 c = true) : a1H c = !(I6 c) := by
 rw [a2j] at h
 unfold a1H I6 at *
 rw [Bool.eq_iff_iff]
 simp only [Bool.or_eq_true, decide_eq_true_eq, Bool.not_eq_true', decide_eq_false_iff_not] at *
 omega
theorem b2X : ∀ s : List UInt8, (a2v s == s) = s.all G7
 | [] => rfl
 | c :: s => by
   cases h : G7 c with
   | true =>
     simp only [a2v, h, cond_true, List.all_cons, Bool.true_and]
     rw [← b2X s]
     show (c == c && a2v s == s) = _
     rw [beq_self_eq_true, Bool.true_and]
   | false =>
     simp only [a2v, h, cond_false, List.all_cons, Bool.false_and]
     rfl
def u9 (s : List UInt8) : Bool := decide (s ≠ []) && (decide (s.length ≤ 40) && (s.all G7 && (a1H (s.headD 0) && !(V4 s))))
theorem c6y (s : List UInt8) : c69 T.rf s = some (a2v s) := d5R rfl
theorem b3N (c : UInt8) : c70 T.rf (((c.toNat : Nat) : Int)) = some (I6 c) := d5S (by
 unfold I6
 by_cases h1 : 48 ≤ c.toNat
 · by_cases h2 : c.toNat ≤ 57
   · simp only [r70, dt (show ((c.toNat : Nat) : Int) ≥ 48 by omega), dt (show ((c.toNat : Nat) : Int) ≤ 57 by omega), dt (show 48 ≤ c.toNat ∧ c.toNat ≤ 57 from ⟨h1, h2⟩), cond_true]
   · simp only [r70, dt (show ((c.toNat : Nat) : Int) ≥ 48 by omega), df (show ¬ ((c.toNat : Nat) : Int) ≤ 57 by omega), df (show ¬ (48 ≤ c.toNat ∧ c.toNat ≤ 57) from fun h => h2 h.2), cond_true]
 · simp only [r70, df (show ¬ ((c.toNat : Nat) : Int) ≥ 48 by omega), df (show ¬ (48 ≤ c.toNat ∧ c.toNat ≤ 57) from fun h => h1 h.1), cond_false])
theorem X2 (s : List UInt8) : c68 T.rf s = some (u9 s) := d5Q (by
 unfold u9
 cases s with
 | nil => rfl
 | cons c r =>
   have e1 : ((c :: r) == ([] : List UInt8)) = false := rfl
   have e2 : IntKind.i32.wrap (((c.toNat : Nat) : Int)) = ((c.toNat : Nat) : Int) := IntWalk.i32_in _ (by have := c.toNat_lt; omega)
   have e3 : inb 0 (c :: r).length = true := D2 (by omega) (by simp only [length_cons]; omega)
   have e4 : nth (c :: r) 0 = some c := rfl
   simp only [r68, e1, Bool.not_false, cond_true, c6y, bind_some, b2X, e3, e4, e2, b3N, b6u, dt (show (c :: r) ≠ [] by simp), Bool.true_and, List.headD_cons]
   by_cases hl : (c :: r).length ≤ 40
   case neg => rw [df (by omega), df hl]; rfl
   rw [dt (by omega), dt hl, cond_true, Bool.true_and]
   cases ha : (c :: r).all G7 with
   | false => rfl
   | true =>
     have hc : G7 c = true := by simp only [List.all_cons, and_eq_true] at ha; exact ha.1
     rw [cond_true, c1b hc, Bool.true_and]
     cases I6 c <;> rfl)
theorem W6 (c : UInt8) : c8 T.rf (((c.toNat : Nat) : Int)) = some (a1H c) := or8 (by
 unfold a1H
 have hb : ((((c.toNat : Nat) : Int)) == 95) = decide (c.toNat = 95) := by
  by_cases h : c.toNat = 95
  · rw [bt (by omega), dt h]
  · rw [bf (by omega), df h]
 by_cases h1 : 97 ≤ c.toNat
 · by_cases h2 : c.toNat ≤ 122
   · simp only [r8, dt (show ((c.toNat : Nat) : Int) ≥ 97 by omega), dt (show ((c.toNat : Nat) : Int) ≤ 122 by omega), dt (show 97 ≤ c.toNat ∧ c.toNat ≤ 122 from ⟨h1, h2⟩), cond_true, Bool.true_or]
   · simp only [r8, dt (show ((c.toNat : Nat) : Int) ≥ 97 by omega), df (show ¬ ((c.toNat : Nat) : Int) ≤ 122 by omega), df (show ¬ (97 ≤ c.toNat ∧ c.toNat ≤ 122) from fun h => h2 h.2), cond_true, cond_false, hb, Bool.false_or]
 · simp only [r8, df (show ¬ ((c.toNat : Nat) : Int) ≥ 97 by omega), df (show ¬ (97 ≤ c.toNat ∧ c.toNat ≤ 122) from fun h => h1 h.1), cond_false, hb, Bool.false_or])
theorem a0j (c : UInt8) : c6 T.rf (((c.toNat : Nat) : Int)) = some (I6 c) := or6 (by
 unfold I6
 by_cases h1 : 48 ≤ c.toNat
 · by_cases h2 : c.toNat ≤ 57
   · simp only [r6, dt (show ((c.toNat : Nat) : Int) ≥ 48 by omega), dt (show ((c.toNat : Nat) : Int) ≤ 57 by omega), dt (show 48 ≤ c.toNat ∧ c.toNat ≤ 57 from ⟨h1, h2⟩), cond_true]
   · simp only [r6, dt (show ((c.toNat : Nat) : Int) ≥ 48 by omega), df (show ¬ ((c.toNat : Nat) : Int) ≤ 57 by omega), df (show ¬ (48 ≤ c.toNat ∧ c.toNat ≤ 57) from fun h => h2 h.2), cond_true]
 · simp only [r6, df (show ¬ ((c.toNat : Nat) : Int) ≥ 48 by omega), df (show ¬ (48 ≤ c.toNat ∧ c.toNat ≤ 57) from fun h => h1 h.1), cond_false])
theorem a2r : ∀ (suf pre : List UInt8), pre.length + suf.length ≤ 100 →
  k10 T.rb (pre ++ suf) (pre.length : Nat) = some (if suf.all G7 = true then .inr () else .inl false)
 | [], pre, h => d1H (by simp only [b10, E4, D7, List.append_nil, cond_false, List.all_nil, if_true])
 | x :: suf, pre, h => d1H (by
   simp only [length_cons] at h
   have ih := a2r suf (pre ++ [x]) (by simp; omega)
   simp only [List.append_assoc, List.singleton_append] at ih
   simp only [b10, s4, m5, m6, cond_true, bind_some, W6, a0j, s3 pre x (by omega), ih, List.all_cons, a2j]
   cases a1H x <;> cases I6 x <;> simp)
theorem b1x (s : List UInt8) : c12 T.rf s = some (u9 s) := d5y (by
 unfold u9
 cases s with
 | nil => rfl
 | cons c r =>
   have e1 : ((c :: r) == ([] : List UInt8)) = false := rfl
   have e3 : inb 0 (c :: r).length = true := D2 (by omega) (by simp only [length_cons]; omega)
   have e4 : nth (c :: r) 0 = some c := rfl
   by_cases hl : (c :: r).length ≤ 40
   case neg =>
    simp only [r12, e1, cond_false, dt (show (((c :: r).length : Nat) : Int) > 40 by omega), cond_true, df hl, Bool.false_and, Bool.and_false]
   have hloop := a2r (c :: r) [] (by simp only [length_nil]; omega)
   simp only [List.nil_append, length_nil] at hloop
   rw [show ((0 : Nat) : Int) = (0 : Int) from rfl] at hloop
   simp only [r12, e1, cond_false, df (show ¬ (((c :: r).length : Nat) : Int) > 40 by omega), e3, cond_true, e4, bind_some, W6, a4O, hloop, dt hl, dt (show (c :: r) ≠ [] by simp), Bool.true_and, List.headD_cons]
   cases a1H c <;> cases V4 (c :: r) <;> cases (c :: r).all G7 <;> rfl)
def a4J : List (List UInt8 × Int) := [([], -1), ([], 10), ([], 10), ([], 10), ([110, 111, 116], 9), ([45], 9), ([97, 110, 100], 5), ([111, 114], 4), ([120, 111, 114], 4), ([61, 62], 2), ([61], 6), ([60, 62], 6), ([60], 6), ([60, 61], 6), ([43], 7), ([45], 7), ([42], 8), ([100, 105, 118], 8), ([109, 111, 100], 8), ([45, 62], 1), ([115, 105, 110, 99, 101], 3), ([112, 114, 101], 9), ([111, 110, 99, 101], 9), ([104, 105, 115, 116], 9), ([112, 114, 101, 118], 9), ([119, 105, 116, 104, 105, 110], 9), ([105, 102], 0), ([], 10)]
def O7 (op : Int) : List UInt8 × Int := if 0 ≤ op ∧ op < 28 then a4J.getD op.toNat ([], -1) else ([], -1)
theorem of_eq (op : Int) : c0F T.rf op = some (O7 op) := d2o (by
 unfold O7
 by_cases h1 : op < 0
 · simp only [b6P, dt h1, cond_true, if_neg (show ¬ (0 ≤ op ∧ op < 28) by omega)]
 by_cases h2 : op ≥ 28
 · simp only [b6P, df h1, dt h2, cond_true, cond_false, if_neg (show ¬ (0 ≤ op ∧ op < 28) by omega)]
 have e : inb op 28 = true := D2 (by omega) (by omega)
 have marks_eq := d2p rfl
 simp only [b6P, df h1, df h2, cond_false, marks_eq, bind_some, e, cond_true, if_pos (show 0 ≤ op ∧ op < 28 by omega)]
 have hk : op.toNat < 28 := by omega
 have : nth a4J op.toNat = some (a4J.getD op.toNat ([], -1)) := by
  rw [nth_getElem?, List.getD_eq_getElem?_getD, List.getElem?_eq_getElem (show op.toNat < a4J.length from hk)]; rfl
 show (nth a4J op.toNat).bind _ = _
 rw [this]; rfl)
theorem b8H (op : Int) : c4Z T.rf op = some (O7 op).2 := d2v (by simp only [c1L, of_eq, bind_some])
inductive Shp (e : List Nd) (i : Nat) : Tr → Prop
 | leaf {op a b c nn : Int} {nm : List UInt8} (h : op = 1 ∨ op = 2 ∨ op = 3) (hn : nth e i = some (op, a, b, c, nn, nm)) (hN : 0 ≤ nn ∧ nn ≤ F2 op) (hs : nm ≠ [] ↔ op = 3) : Shp e i (.mk (op, -1, -1, -1, nn, nm) [])
 | call0 {b c nn : Int} {nm : List UInt8} (hn : nth e i = some (27, -1, b, c, nn, nm)) (hN : nn = 0) (hs : nm ≠ []) : Shp e i (.mk (27, -1, -1, -1, nn, nm) [])
 | call1 {b c nn : Int} {nm : List UInt8} {j : Nat} {t : Tr} (hn : nth e i = some (27, (j : Int), b, c, nn, nm)) (hN : nn = 0) (hs : nm ≠ []) (hj : j < i) (ht : Emb e j t) (hv : Valid t) (ho : t.op = 28) : Shp e i (.mk (27, -1, -1, -1, nn, nm) [t])
 | arg1 {c nn : Int} {nm : List UInt8} {j : Nat} {t : Tr} (hn : nth e i = some (28, (j : Int), -1, c, nn, nm)) (hN : nn = 0) (hs : nm = []) (hj : j < i) (ht : Emb e j t) (hv : Valid t) (ho : t.op ≠ 28) : Shp e i (.mk (28, -1, -1, -1, nn, nm) [t])
 | arg2 {c nn : Int} {nm : List UInt8} {j k : Nat} {t u : Tr} (hn : nth e i = some (28, (k : Int), (j : Int), c, nn, nm)) (hN : nn = 0) (hs : nm = []) (hj : j < i) (ht : Emb e j t) (hv : Valid t) (ho : t.op = 28) (hk : k < i) (hu : Emb e k u) (hvu : Valid u) (hou : u.op ≠ 28) : Shp e i (.mk (28, -1, -1, -1, nn, nm) [t, u])
 | ite {nn : Int} {nm : List UInt8} {j k l : Nat} {t u v : Tr} (hn : nth e i = some (26, (j : Int), (k : Int), (l : Int), nn, nm)) (hN : nn = 0) (hs : nm = []) (hj : j < i) (ht : Emb e j t) (hv : Valid t) (ho : t.op ≠ 28) (hk : k < i) (hu : Emb e k u) (hvu : Valid u) (hou : u.op ≠ 28) (hl : l < i) (hw : Emb e l v) (hvw : Valid v) (how : v.op ≠ 28) : Shp e i (.mk (26, -1, -1, -1, nn, nm) [t, u, v])
 | un {op b c nn : Int} {nm : List UInt8} {j : Nat} {t : Tr} (h : op = 4 ∨ op = 5 ∨ op = 21 ∨ op = 22 ∨ op = 23 ∨ op = 24 ∨ op = 25) (hn : nth e i = some (op, (j : Int), b, c, nn, nm)) (hN : 0 ≤ nn ∧ nn ≤ F2 op) (hs : nm = []) (hj : j < i) (ht : Emb e j t) (hv : Valid t) (ho : t.op ≠ 28) : Shp e i (.mk (op, -1, -1, -1, nn, nm) [t])
 | bin {op c nn : Int} {nm : List UInt8} {j k : Nat} {t u : Tr} (h : 6 ≤ op ∧ op ≤ 20) (hn : nth e i = some (op, (j : Int), (k : Int), c, nn, nm)) (hN : nn = 0) (hs : nm = []) (hj : j < i) (ht : Emb e j t) (hv : Valid t) (ho : t.op ≠ 28) (hk : k < i) (hu : Emb e k u) (hvu : Valid u) (hou : u.op ≠ 28) : Shp e i (.mk (op, -1, -1, -1, nn, nm) [t, u])
theorem b7V {e : List Nd} {i : Nat} {ks : List Tr} (h : L8 e i [] ks) : ks = [] := by
 cases ks with
 | nil => rfl
 | cons => exact h.elim
theorem b4V {e : List Nd} {i : Nat} {x : Int} {ks : List Tr} (h : L8 e i [x] ks) : ∃ (j : Nat) (t : Tr), x = (j : Int) ∧ ks = [t] ∧ j < i ∧ Emb e j t := by
 cases ks with
 | nil => exact h.elim
 | cons t r =>
   obtain ⟨h1, h2, h3, h4⟩ := h
   have := b7V h4; subst this
   exact ⟨x.toNat, t, by omega, rfl, by omega, h3⟩
theorem b7W {e : List Nd} {i : Nat} {x y : Int} {ks : List Tr} (h : L8 e i [x, y] ks) : ∃ (j : Nat) (t : Tr) (k : Nat) (u : Tr), x = (j : Int) ∧ y = (k : Int) ∧ ks = [t, u] ∧ j < i ∧ Emb e j t ∧ k < i ∧ Emb e k u := by
 cases ks with
 | nil => exact h.elim
 | cons t r =>
   obtain ⟨h1, h2, h3, h4⟩ := h
   obtain ⟨k, u, e1, e2, e3, e4⟩ := b4V h4
   subst e2
   exact ⟨x.toNat, t, k, u, by omega, e1, rfl, by omega, h3, e3, e4⟩
theorem c8l {e : List Nd} {i : Nat} {x y z : Int} {ks : List Tr} (h : L8 e i [x, y, z] ks) : ∃ (j : Nat) (t : Tr) (k : Nat) (u : Tr) (l : Nat) (v : Tr), x = (j : Int) ∧ y = (k : Int) ∧ z = (l : Int) ∧ ks = [t, u, v] ∧ j < i ∧ Emb e j t ∧ k < i ∧ Emb e k u ∧ l < i ∧ Emb e l v := by
 cases ks with
 | nil => exact h.elim
 | cons t r =>
   obtain ⟨h1, h2, h3, h4⟩ := h
   obtain ⟨k, u, l, v, e1, e2, e3, e4, e5, e6, e7⟩ := b7W h4
   subst e3
   exact ⟨x.toNat, t, k, u, l, v, by omega, e1, e2, rfl, by omega, h3, e4, e5, e6, e7⟩
theorem shape {e : List Nd} {i : Nat} : ∀ {t : Tr}, Emb e i t → Valid t → Shp e i t
 | .mk b ks, ⟨n, h1, h2, h3, h4⟩, ⟨v1, v2, v3, v4, v5, v6⟩ => by
   obtain ⟨op, a, b', c, nn, nm⟩ := n
   have hb : b = (op, -1, -1, -1, nn, nm) := h2
   subst hb
   simp only at v4
   obtain ⟨r1, r2, r3, r4, r5⟩ := v4
   by_cases c1 : op = 1 ∨ op = 2 ∨ op = 3
   · have hk : kids (op, a, b', c, nn, nm) = [] := by rcases c1 with rfl | rfl | rfl <;> rfl
     rw [hk] at h4
     have := b7V h4; subst this
     exact .leaf c1 h1 ⟨r3, r4⟩ (by rw [r5]; omega)
   have m0 : op ≠ 25 → nn = 0 := fun h => by
    have : F2 op = 0 := by unfold F2; rw [if_neg (by omega), if_neg (by omega), if_neg h]
    omega
   by_cases c2 : op = 27
   · subst c2
     have hs : nm ≠ [] := r5.2 (.inr rfl)
     by_cases ha : a = -1
     · subst ha
       have hk : kids (27, -1, b', c, nn, nm) = [] := rfl
       rw [hk] at h4
       have := b7V h4; subst this
       exact .call0 h1 (m0 (by decide)) hs
     · have hk : kids (27, a, b', c, nn, nm) = [a] := by simp [kids, ha]
       rw [hk] at h4
       obtain ⟨j, t, rfl, rfl, k1, k2⟩ := b4V h4
       refine .call1 h1 (m0 (by decide)) hs k1 k2 v6.1 ?_
       simp [K9, a5h] at v5
       exact v5
   have hs0 : nm = [] := by
    cases nm with
    | nil => rfl
    | cons x r => have := r5.1 (by simp); omega
   by_cases c3 : op = 28
   · subst c3
     by_cases hb : b' = -1
     · subst hb
       have hk : kids (28, a, -1, c, nn, nm) = [a] := by simp [kids]
       rw [hk] at h4
       obtain ⟨j, t, rfl, rfl, k1, k2⟩ := b4V h4
       refine .arg1 h1 (m0 (by decide)) hs0 k1 k2 v6.1 ?_
       simp [K9, a5h] at v5
       exact v5
     · have hk : kids (28, a, b', c, nn, nm) = [b', a] := by simp [kids, hb]
       rw [hk] at h4
       obtain ⟨j, t, k, u, rfl, rfl, rfl, k1, k2, k3, k4⟩ := b7W h4
       simp [K9, a5h] at v5
       exact .arg2 h1 (m0 (by decide)) hs0 k1 k2 v6.1 v5.1 k3 k4 v6.2.1 v5.2
   have hno : ∀ (x : Int) (m a : Nat), a5h (op, -1, -1, -1, nn, nm) m a x = true → x ≠ 28 := by
    intro x m a h
    simp only [a5h, df c2, df c3, Bool.false_and, Bool.or_false] at h
    intro hx
    rw [dt hx] at h; cases h
   by_cases c4 : op = 26
   · subst c4
     have hk : kids (26, a, b', c, nn, nm) = [a, b', c] := by simp [kids]
     rw [hk] at h4
     obtain ⟨j, t, k, u, l, v, rfl, rfl, rfl, rfl, k1, k2, k3, k4, k5, k6⟩ := c8l h4
     simp only [K9, and_eq_true] at v5
     exact .ite h1 (m0 (by decide)) hs0 k1 k2 v6.1 (hno _ _ _ v5.1) k3 k4 v6.2.1 (hno _ _ _ v5.2.1) k5 k6 v6.2.2.1 (hno _ _ _ v5.2.2.1)
   by_cases c5 : 6 ≤ op ∧ op ≤ 20
   · have hk : kids (op, a, b', c, nn, nm) = [a, b'] := by
      simp only [kids]; rw [if_neg c4, if_neg (fun h => c3 h.1), if_neg (fun h => c2 h.1), if_pos c5]
     rw [hk] at h4
     obtain ⟨j, t, k, u, rfl, rfl, rfl, k1, k2, k3, k4⟩ := b7W h4
     simp only [K9, and_eq_true] at v5
     exact .bin c5 h1 (m0 (by omega)) hs0 k1 k2 v6.1 (hno _ _ _ v5.1) k3 k4 v6.2.1 (hno _ _ _ v5.2.1)
   have c6 : op = 4 ∨ op = 5 ∨ op = 21 ∨ op = 22 ∨ op = 23 ∨ op = 24 ∨ op = 25 := by omega
   have hk : kids (op, a, b', c, nn, nm) = [a] := by
    simp only [kids]; rw [if_neg c4, if_neg (fun h => c3 h.1), if_neg (fun h => c2 h.1), if_neg c5, if_pos (by omega)]
   rw [hk] at h4
   obtain ⟨j, t, rfl, rfl, k1, k2⟩ := b4V h4
   simp only [K9, and_eq_true] at v5
   exact .un c6 h1 ⟨r3, r4⟩ hs0 k1 k2 v6.1 (hno _ _ _ v5.1)
abbrev Str : Type := List UInt8
def n8 (asked : Int) (x : Int × List Str) : List Str := if (O7 x.1).2 ≥ asked then x.2 else [40] :: (x.2 ++ [[41]])
def lvX (op : Int) : Int := (O7 op).2
def opX (op : Int) : Str := (O7 op).1
def a3r (op : Int) : Int := if lvX op ≤ 2 then lvX op + 1 else if lvX op = 6 then 7 else lvX op
def a0w (op : Int) : Int := if lvX op ≤ 2 then lvX op else lvX op + 1
def a3l (n : Int) : Str := if n = 1 then [116, 114, 117, 101] else [102, 97, 108, 115, 101]
def b9Q (b : Nd) (l : List (Int × List Str)) : List Str :=
 if b.1 = 1 then [J9 b.2.2.2.2.1] else
 if b.1 = 2 then [a3l b.2.2.2.2.1] else
 if b.1 = 3 then [b.2.2.2.2.2] else
 if b.1 = 27 then b.2.2.2.2.2 :: [40] :: (match l with
  | [x] => x.2 ++ [[41]]
  | _ => [[41]]) else
 match l with
 | [x] => if b.1 = 28 then x.2 else if b.1 = 25 then opX 25 :: J9 b.2.2.2.2.1 :: n8 9 x else opX b.1 :: n8 9 x
 | [x, y] => if b.1 = 28 then x.2 ++ [44] :: y.2 else n8 (a3r b.1) x ++ opX b.1 :: n8 (a0w b.1) y
 | [x, y, z] => opX 26 :: (x.2 ++ [116, 104, 101, 110] :: (y.2 ++ [101, 108, 115, 101] :: z.2))
 | _ => []
mutual
def j8 : Tr → List Str
 | .mk b ks => b9Q b (b5F ks)
def b5F : List Tr → List (Int × List Str)
 | [] => []
 | t :: r => (t.op, j8 t) :: b5F r
end
theorem R4 (a : Int) (x : Int × List Str) : x.2.length ≤ (n8 a x).length ∧ (n8 a x).length ≤ x.2.length + 2 := by
 unfold n8; split
 · omega
 · simp only [length_cons, length_append, length_nil]; omega
theorem P1 (b : Nd) (t : Tr) : (Tr.mk b [t]).size = t.size + 1 := by simp [Tr.size, l7]
theorem Q1 (b : Nd) (t u : Tr) : (Tr.mk b [t, u]).size = t.size + u.size + 1 := by simp [Tr.size, l7]
theorem b0x (b : Nd) (t u v : Tr) : (Tr.mk b [t, u, v]).size = t.size + u.size + v.size + 1 := by simp [Tr.size, l7]; omega
theorem a3C (b : Nd) : (Tr.mk b []).size = 1 := by simp [Tr.size, l7]
theorem X8 {op nn : Int} {nm : Str} (h : op = 1 ∨ op = 2 ∨ op = 3) : j8 (.mk (op, -1, -1, -1, nn, nm) []) = [if op = 1 then J9 nn else if op = 2 then a3l nn else nm] := by
 rcases h with rfl | rfl | rfl <;> rfl
theorem R9 {nn : Int} {nm : Str} : j8 (.mk (27, -1, -1, -1, nn, nm) []) = [nm, [40], [41]] := rfl
theorem S0 {nn : Int} {nm : Str} {t : Tr} : j8 (.mk (27, -1, -1, -1, nn, nm) [t]) = nm :: [40] :: (j8 t ++ [[41]]) := rfl
theorem X6 {nn : Int} {nm : Str} {t : Tr} : j8 (.mk (28, -1, -1, -1, nn, nm) [t]) = j8 t := rfl
theorem X7 {nn : Int} {nm : Str} {t u : Tr} : j8 (.mk (28, -1, -1, -1, nn, nm) [t, u]) = j8 t ++ [44] :: j8 u := rfl
theorem a0T {nn : Int} {nm : Str} {t u v : Tr} : j8 (.mk (26, -1, -1, -1, nn, nm) [t, u, v]) = opX 26 :: (j8 t ++ [116, 104, 101, 110] :: (j8 u ++ [101, 108, 115, 101] :: j8 v)) := rfl
theorem a3b {op nn : Int} {nm : Str} {t : Tr} (h : op = 4 ∨ op = 5 ∨ op = 21 ∨ op = 22 ∨ op = 23 ∨ op = 24 ∨ op = 25) : j8 (.mk (op, -1, -1, -1, nn, nm) [t]) = opX op :: ((if op = 25 then [J9 nn] else []) ++ n8 9 (t.op, j8 t)) := by
 rcases h with rfl | rfl | rfl | rfl | rfl | rfl | rfl <;> rfl
theorem a0S {op nn : Int} {nm : Str} {t u : Tr} (h : 6 ≤ op ∧ op ≤ 20) : j8 (.mk (op, -1, -1, -1, nn, nm) [t, u]) = n8 (a3r op) (t.op, j8 t) ++ opX op :: n8 (a0w op) (u.op, j8 u) := by
 have h1 : op ≠ 1 := by omega
 have h2 : op ≠ 2 := by omega
 have h3 : op ≠ 3 := by omega
 have h27 : op ≠ 27 := by omega
 have h28 : op ≠ 28 := by omega
 show b9Q (op, -1, -1, -1, nn, nm) [(t.op, j8 t), (u.op, j8 u)] = _
 simp only [b9Q, if_neg h1, if_neg h2, if_neg h3, if_neg h27, if_neg h28]
theorem D0 {e : List Nd} : ∀ (m : Nat) (t : Tr) (i : Nat), t.size ≤ m → Emb e i t → Valid t → 1 ≤ (j8 t).length ∧ (j8 t).length + 2 ≤ 5 * t.size := by
 intro m
 induction m with
 | zero => intro t i h; have := t.size_pos; omega
 | succ m ih =>
   intro t i hm ht hv
   cases shape ht hv with
   | leaf h => rw [X8 h, a3C]; simp
   | call0 => rw [R9, a3C]; simp
   | call1 hn hN hs hj ht1 hv1 ho =>
     rw [P1] at hm ⊢
     have := ih _ _ (by omega) ht1 hv1
     rw [S0]; simp; omega
   | arg1 hn hN hs hj ht1 hv1 ho =>
     rw [P1] at hm ⊢
     have := ih _ _ (by omega) ht1 hv1
     rw [X6]; omega
   | arg2 hn hN hs hj ht1 hv1 ho hk hu hvu hou =>
     rw [Q1] at hm ⊢
     have := ih _ _ (by omega) ht1 hv1
     have := ih _ _ (by omega) hu hvu
     rw [X7]; simp; omega
   | ite hn hN hs hj ht1 hv1 ho hk hu hvu hou hl hw hvw how =>
     rw [b0x] at hm ⊢
     have := ih _ _ (by omega) ht1 hv1
     have := ih _ _ (by omega) hu hvu
     have := ih _ _ (by omega) hw hvw
     rw [a0T]; simp; omega
   | un h hn hN hs hj ht1 hv1 ho =>
     rename_i op b c nn nm j t1
     rw [P1] at hm ⊢
     have := ih _ _ (by omega) ht1 hv1
     have hp := R4 9 (t1.op, j8 t1)
     rw [a3b h]; simp only [length_cons, length_append]
     split <;> simp at * <;> omega
   | bin h hn hN hs hj ht1 hv1 ho hk hu hvu hou =>
     rename_i op c nn nm j k t1 u1
     rw [Q1] at hm ⊢
     have := ih _ _ (by omega) ht1 hv1
     have := ih _ _ (by omega) hu hvu
     have hp := R4 (a3r op) (t1.op, j8 t1)
     have hq := R4 (a0w op) (u1.op, j8 u1)
     rw [a0S h]; simp only [length_cons, length_append]
     simp at *; omega
def mkT (s : Str) : Int × Str × Int := (0, s, 0)
theorem b2U (e : List Nd) : ∀ (suf pre : List Str) (out : List (Int × Str × Int)), out.length + suf.length ≤ 2000000 → pre.length + suf.length ≤ 2000000 →
  k99 T.rb e out (pre ++ suf) (((pre ++ suf).length : Nat) : Int) (pre.length : Nat) = some (e, out ++ suf.map mkT)
 | [], pre, out, h, h2 => d1V (by simp only [b99, E4, D7, List.append_nil, cond_false, List.map_nil])
 | x :: suf, pre, out, h, h2 => d1V (by
   simp only [length_cons] at h h2
   have ih := b2U e suf (pre ++ [x]) (out ++ [mkT x]) (by simp; omega) (by simp; omega)
   simp only [List.append_assoc, List.singleton_append] at ih
   simp only [b99, s4, m5, m6, cond_true, bind_some, m8 (show out.length + 1 ≤ 274877906944 by omega), Bool.and_true, s3 pre x (by omega)]
   exact ih)
theorem put_eq (e : List Nd) (out : List (Int × Str × Int)) (ds : List Str) (h : out.length + ds.length ≤ 2000000) : a0b T.rf e out ds = some (e, out ++ ds.map mkT) := d2r (by
 have := b2U e ds [] out h (by simp; omega)
 simp only [List.nil_append, length_nil] at this
 rw [show ((0 : Nat) : Int) = (0 : Int) from rfl] at this
 simp only [c1I, this, bind_some])
theorem b8c (b : Bool) : c4X T.rf b = some (if b = true then [116, 114, 117, 101] else [102, 97, 108, 115, 101]) := d2s (by
 have h : c4Y T.rf b = some (if b = true then [116, 114, 117, 101] else [102, 97, 108, 115, 101]) := d2t (by cases b <;> rfl)
 simp only [c1J, h, bind_some])
theorem b5i {n : Int} (h : 0 ≤ n ∧ n ≤ 2147483647) : c0G T.rf n = some (J9 n) := d2q (by
 have : a5v n = true := by unfold a5v; rw [dt (by omega), dt (by omega)]; rfl
 simp only [c1H, this, cond_true])
theorem b8P {op : Int} (h : 6 ≤ op ∧ op ≤ 20) : 1 ≤ lvX op ∧ lvX op ≤ 8 := by
 have : op = 6 ∨ op = 7 ∨ op = 8 ∨ op = 9 ∨ op = 10 ∨ op = 11 ∨ op = 12 ∨ op = 13 ∨ op = 14 ∨ op = 15 ∨ op = 16 ∨ op = 17 ∨ op = 18 ∨ op = 19 ∨ op = 20 := by omega
 rcases this with rfl | rfl | rfl | rfl | rfl | rfl | rfl | rfl | rfl | rfl | rfl | rfl | rfl | rfl | rfl <;> decide
theorem c3N {op : Int} (h : op = 4 ∨ op = 5 ∨ op = 21 ∨ op = 22 ∨ op = 23 ∨ op = 24 ∨ op = 25) : lvX op = 9 := by
 rcases h with rfl | rfl | rfl | rfl | rfl | rfl | rfl <;> rfl
theorem Z6 (op : Int) : F2 op ≤ 2147483647 := by unfold F2; repeat' split
                                                 all_goals omega
theorem b1q {e : List Nd} {j : Nat} {n : Nd} {ts : List Str} {m : Nat} (hn : nth e j = some n) (asked : Int) (out : List (Int × Str × Int))
  (hw : ∀ out' : List (Int × Str × Int), out'.length ≤ out.length + 1 → a7q T.rf e out' (j : Nat) = some (e, out' ++ ts.map mkT)) (hlen : out.length + ts.length + 2 ≤ 2000000) :
  a1O T.rf e out (j : Nat) asked = some (e, out ++ (n8 asked (n.1, ts)).map mkT) := d2u (by
 have hj : j < e.length := by rw [nth_getElem?] at hn; exact (List.getElem?_eq_some_iff.1 hn).1
 have e1 : inb ((j : Nat) : Int) e.length = true := D2 (by omega) (by omega)
 simp only [c1K, e1, cond_true, Int.toNat_natCast, hn, bind_some, b8H, n8]
 by_cases hl : (O7 n.1).2 ≥ asked
 · rw [dt hl, if_pos hl, cond_true, hw out (by omega)]; rfl
 · rw [df hl, if_neg hl, cond_false, put_eq e out _ (by simp; omega), bind_some, hw _ (by simp), bind_some, put_eq e _ _ (by simp; omega), bind_some]
   simp [mkT])
theorem b6S {e : List Nd} : ∀ (m : Nat) (t : Tr) (i : Nat) (out : List (Int × Str × Int)), t.size ≤ m → Emb e i t → Valid t → out.length + 5 * t.size ≤ 1000000 →
  (t.op ≠ 28 → a7q T.rf e out (i : Nat) = some (e, out ++ (j8 t).map mkT)) ∧ (t.op = 28 → c0H T.rf e out (i : Nat) = some (e, out ++ (j8 t).map mkT)) := by
 intro m
 induction m with
 | zero => intro t i out h; have := t.size_pos; omega
 | succ m ih =>
   intro t i out hm ht hv hN
   have hi : i < e.length := a7x ht
   have e1 : inb ((i : Nat) : Int) e.length = true := D2 (by omega) (by omega)
   cases shape ht hv with
   | leaf h hn hNN hs =>
     rename_i op a b c nn nm
     rw [a3C] at hN
     refine ⟨fun _ => b0o ?_, fun h28 => by have h28 : op = 28 := h28; omega⟩
     have hm2 := Z6 op
     rw [X8 h]
     rcases h with rfl | rfl | rfl
     · simp only [a5L, e1, cond_true, Int.toNat_natCast, hn, bind_some, of_eq, show ((1 : Int) == 1) = true from rfl, b5i (n := nn) (by omega), put_eq e out _ (show out.length + [J9 nn].length ≤ 2000000 by simp; omega)]
       rfl
     · have hb : (if (nn == 1) = true then ([116, 114, 117, 101] : Str) else [102, 97, 108, 115, 101]) = a3l nn := by
        unfold a3l
        by_cases h1 : nn = 1
        · rw [if_pos (bt h1), if_pos h1]
        · rw [if_neg (by rw [bf h1]; decide), if_neg h1]
       simp only [a5L, e1, cond_true, cond_false, Int.toNat_natCast, hn, bind_some, of_eq, show ((2 : Int) == 1) = false from rfl, show ((2 : Int) == 2) = true from rfl, b8c, hb, put_eq e out _ (show out.length + [a3l nn].length ≤ 2000000 by simp; omega)]
       rfl
     · simp only [a5L, e1, cond_true, cond_false, Int.toNat_natCast, hn, bind_some, of_eq, show ((3 : Int) == 1) = false from rfl, show ((3 : Int) == 2) = false from rfl, show ((3 : Int) == 3) = true from rfl, put_eq e out _ (show out.length + [nm].length ≤ 2000000 by simp; omega)]
       rfl
   | call0 hn hNN hs =>
     rename_i b c nn nm
     rw [a3C] at hN
     refine ⟨fun _ => b0o ?_, fun h28 => by cases h28⟩
     rw [R9]
     simp only [a5L, e1, cond_true, cond_false, Int.toNat_natCast, hn, bind_some, of_eq, show ((27 : Int) == 1) = false from rfl, show ((27 : Int) == 2) = false from rfl, show ((27 : Int) == 3) = false from rfl, show ((27 : Int) == 27) = true from rfl, show decide ((-1 : Int) ≥ 0) = false from rfl, put_eq e out _ (show out.length + [nm, [40]].length ≤ 2000000 by simp; omega),
      put_eq e (out ++ [nm, [40]].map mkT) _ (show (out ++ [nm, [40]].map mkT).length + [([41] : Str)].length ≤ 2000000 by simp; omega)]
     simp
   | call1 hn hNN hs hj ht1 hv1 ho =>
     rename_i b c nn nm j t1
     rw [P1] at hN hm
     refine ⟨fun _ => b0o ?_, fun h28 => by cases h28⟩
     have hl := (D0 t1.size t1 j (Nat.le_refl _) ht1 hv1).2
     have w := (ih t1 j (out ++ [nm, [40]].map mkT) (by omega) ht1 hv1 (by simp; omega)).2 ho
     rw [S0]
     simp only [a5L, e1, cond_true, cond_false, Int.toNat_natCast, hn, bind_some, of_eq, show ((27 : Int) == 1) = false from rfl, show ((27 : Int) == 2) = false from rfl, show ((27 : Int) == 3) = false from rfl, show ((27 : Int) == 27) = true from rfl, dt (show ((j : Nat) : Int) ≥ 0 by omega), put_eq e out _ (show out.length + [nm, [40]].length ≤ 2000000 by simp; omega), w,
      put_eq e (out ++ [nm, [40]].map mkT ++ (j8 t1).map mkT) _ (show (out ++ [nm, [40]].map mkT ++ (j8 t1).map mkT).length + [([41] : Str)].length ≤ 2000000 by simp; omega)]
     simp
   | arg1 hn hNN hs hj ht1 hv1 ho =>
     rename_i c nn nm j t1
     rw [P1] at hN hm
     refine ⟨fun h28 => absurd rfl h28, fun _ => c3Z ?_⟩
     have w := (ih t1 j out (by omega) ht1 hv1 (by omega)).1 ho
     rw [X6]
     simp only [b9w, e1, cond_true, cond_false, Int.toNat_natCast, hn, bind_some, show decide ((-1 : Int) ≥ 0) = false from rfl, w]
   | arg2 hn hNN hs hj ht1 hv1 ho hk hu hvu hou =>
     rename_i c nn nm j k t1 u1
     rw [Q1] at hN hm
     refine ⟨fun h28 => absurd rfl h28, fun _ => c3Z ?_⟩
     have hl := (D0 t1.size t1 j (Nat.le_refl _) ht1 hv1).2
     have w := (ih t1 j out (by omega) ht1 hv1 (by omega)).2 ho
     have w2 := (ih u1 k (out ++ (j8 t1).map mkT ++ [[44]].map mkT) (by omega) hu hvu (by simp; omega)).1 hou
     rw [X7]
     simp only [b9w, e1, cond_true, cond_false, Int.toNat_natCast, hn, bind_some, dt (show ((j : Nat) : Int) ≥ 0 by omega), w, put_eq e (out ++ (j8 t1).map mkT) _ (show (out ++ (j8 t1).map mkT).length + [([44] : Str)].length ≤ 2000000 by simp; omega), w2]
     simp
   | ite hn hNN hs hj ht1 hv1 ho hk hu hvu hou hl hw hvw how =>
     rename_i nn nm j k l t1 u1 v1
     rw [b0x] at hN hm
     refine ⟨fun _ => b0o ?_, fun h28 => by cases h28⟩
     have hl1 := (D0 t1.size t1 j (Nat.le_refl _) ht1 hv1).2
     have hl2 := (D0 u1.size u1 k (Nat.le_refl _) hu hvu).2
     have hl3 := (D0 v1.size v1 l (Nat.le_refl _) hw hvw).2
     have w1 := (ih t1 j (out ++ [opX 26].map mkT) (by omega) ht1 hv1 (by simp; omega)).1 ho
     have w2 := (ih u1 k (out ++ [opX 26].map mkT ++ (j8 t1).map mkT ++ [[116, 104, 101, 110]].map mkT) (by omega) hu hvu (by simp; omega)).1 hou
     have w3 := (ih v1 l (out ++ [opX 26].map mkT ++ (j8 t1).map mkT ++ [[116, 104, 101, 110]].map mkT ++ (j8 u1).map mkT ++ [[101, 108, 115, 101]].map mkT) (by omega) hw hvw (by simp; omega)).1 how
     rw [a0T]
     simp only [a5L, e1, cond_true, cond_false, Int.toNat_natCast, hn, bind_some, of_eq, show ((26 : Int) == 1) = false from rfl, show ((26 : Int) == 2) = false from rfl, show ((26 : Int) == 3) = false from rfl, show ((26 : Int) == 27) = false from rfl, show ((26 : Int) == 26) = true from rfl, show (O7 26).1 = opX 26 from rfl,
      put_eq e out _ (show out.length + [opX 26].length ≤ 2000000 by simp; omega), w1, put_eq e (out ++ [opX 26].map mkT ++ (j8 t1).map mkT) _ (show (out ++ [opX 26].map mkT ++ (j8 t1).map mkT).length + [([116, 104, 101, 110] : Str)].length ≤ 2000000 by simp; omega), w2,
      put_eq e (out ++ [opX 26].map mkT ++ (j8 t1).map mkT ++ [[116, 104, 101, 110]].map mkT ++ (j8 u1).map mkT) _ (show (out ++ [opX 26].map mkT ++ (j8 t1).map mkT ++ [[116, 104, 101, 110]].map mkT ++ (j8 u1).map mkT).length + [([101, 108, 115, 101] : Str)].length ≤ 2000000 by simp; omega), w3]
     simp
   | un h hn hNN hs hj ht1 hv1 ho =>
     rename_i op b c nn nm j t1
     rw [P1] at hN hm
     refine ⟨fun _ => b0o ?_, fun h28 => by have h28 : op = 28 := h28; omega⟩
     have hl := (D0 t1.size t1 j (Nat.le_refl _) ht1 hv1).2
     have hm2 := Z6 op
     obtain ⟨n1, hn1, ho1⟩ : ∃ n1, nth e j = some n1 ∧ n1.1 = t1.op := by
      have hjl := a7x ht1
      refine ⟨e[j], by rw [nth_getElem?]; exact List.getElem?_eq_getElem hjl, ?_⟩
      have := a5q ht1
      rw [← this]; exact (a6T (by rw [nth_getElem?]; exact List.getElem?_eq_getElem hjl)).symm
     have hlv : (O7 op).2 = 9 := c3N h
     have P : ∀ out' : List (Int × Str × Int), out'.length ≤ out.length + 2 → a1O T.rf e out' (j : Nat) 9 = some (e, out' ++ (n8 9 (t1.op, j8 t1)).map mkT) := fun out' ho' => by
      rw [← ho1]
      exact b1q (m := 0) hn1 9 out' (fun o2 h2 => (ih t1 j o2 (by omega) ht1 hv1 (by omega)).1 ho) (by omega)
     rw [a3b h]
     by_cases h25 : op = 25
     · subst h25
       simp only [a5L, e1, cond_true, cond_false, Int.toNat_natCast, hn, bind_some, of_eq, show ((25 : Int) == 1) = false from rfl, show ((25 : Int) == 2) = false from rfl, show ((25 : Int) == 3) = false from rfl, show ((25 : Int) == 27) = false from rfl, show ((25 : Int) == 26) = false from rfl, show ((O7 25).2 == 9) = true from rfl, show ((25 : Int) == 25) = true from rfl, show (O7 25).1 = opX 25 from rfl,
        put_eq e out _ (show out.length + [opX 25].length ≤ 2000000 by simp; omega), b5i (n := nn) (by omega), put_eq e (out ++ [opX 25].map mkT) _ (show (out ++ [opX 25].map mkT).length + [J9 nn].length ≤ 2000000 by simp; omega), P (out ++ [opX 25].map mkT ++ [J9 nn].map mkT) (by simp)]
       simp
     · simp only [a5L, e1, cond_true, cond_false, Int.toNat_natCast, hn, bind_some, of_eq, bf (show op ≠ 1 by omega), bf (show op ≠ 2 by omega), bf (show op ≠ 3 by omega), bf (show op ≠ 27 by omega), bf (show op ≠ 26 by omega), bt hlv, bf h25, show (O7 op).1 = opX op from rfl,
        put_eq e out _ (show out.length + [opX op].length ≤ 2000000 by simp; omega), P (out ++ [opX op].map mkT) (by simp), if_neg h25]
       simp
   | bin h hn hNN hs hj ht1 hv1 ho hk hu hvu hou =>
     rename_i op c nn nm j k t1 u1
     rw [Q1] at hN hm
     refine ⟨fun _ => b0o ?_, fun h28 => by have h28 : op = 28 := h28; omega⟩
     have hl1 := (D0 t1.size t1 j (Nat.le_refl _) ht1 hv1).2
     have hl2 := (D0 u1.size u1 k (Nat.le_refl _) hu hvu).2
     obtain ⟨n1, hn1, ho1⟩ : ∃ n1, nth e j = some n1 ∧ n1.1 = t1.op := by
      have hjl := a7x ht1
      refine ⟨e[j], by rw [nth_getElem?]; exact List.getElem?_eq_getElem hjl, ?_⟩
      have := a5q ht1
      rw [← this]; exact (a6T (by rw [nth_getElem?]; exact List.getElem?_eq_getElem hjl)).symm
     obtain ⟨n2, hn2, ho2⟩ : ∃ n2, nth e k = some n2 ∧ n2.1 = u1.op := by
      have hjl := a7x hu
      refine ⟨e[k], by rw [nth_getElem?]; exact List.getElem?_eq_getElem hjl, ?_⟩
      have := a5q hu
      rw [← this]; exact (a6T (by rw [nth_getElem?]; exact List.getElem?_eq_getElem hjl)).symm
     obtain ⟨lv1, lv2⟩ := b8P h
     have P : ∀ (asked : Int), a1O T.rf e out (j : Nat) asked = some (e, out ++ (n8 asked (t1.op, j8 t1)).map mkT) := fun asked => by
      rw [← ho1]
      exact b1q (m := 0) hn1 asked out (fun o2 h2 => (ih t1 j o2 (by omega) ht1 hv1 (by omega)).1 ho) (by omega)
     have hpl : ∀ a, (n8 a (t1.op, j8 t1)).length ≤ (j8 t1).length + 2 := fun a => (R4 a (t1.op, j8 t1)).2
     have Pu : ∀ (a : Int), a0b T.rf e (out ++ (n8 a (t1.op, j8 t1)).map mkT) [opX op] = some (e, out ++ (n8 a (t1.op, j8 t1)).map mkT ++ [opX op].map mkT) := fun a => put_eq e _ _ (by have := hpl a; simp; omega)
     have Q : ∀ (a asked : Int), a1O T.rf e (out ++ (n8 a (t1.op, j8 t1)).map mkT ++ [opX op].map mkT) (k : Nat) asked = some (e, out ++ (n8 a (t1.op, j8 t1)).map mkT ++ [opX op].map mkT ++ (n8 asked (u1.op, j8 u1)).map mkT) := fun a asked => by
      have := hpl a
      rw [← ho2]
      exact b1q (m := 0) hn2 asked _ (fun o2 h2 => (ih u1 k o2 (by omega) hu hvu (by simp at h2; omega)).1 hou) (by simp; omega)
     rw [a0S h]
     have hlx : (O7 op).2 = lvX op := rfl
     have hw : IntKind.i64.wrap (lvX op + 1) = lvX op + 1 := wr (by omega)
     have base : a5L T.rf T.rb e out (i : Nat) = (a1O T.rf e out (j : Nat) (a3r op)).bind fun y => (a0b T.rf y.1 y.2 [opX op]).bind fun z => a1O T.rf z.1 z.2 (k : Nat) (a0w op) := by
      simp only [a5L, e1, cond_true, cond_false, Int.toNat_natCast, hn, bind_some, of_eq, bf (show op ≠ 1 by omega), bf (show op ≠ 2 by omega), bf (show op ≠ 3 by omega), bf (show op ≠ 27 by omega), bf (show op ≠ 26 by omega), hlx, bf (show lvX op ≠ 9 by omega), hw, show (O7 op).1 = opX op from rfl, a3r, a0w, Option.bind_fun_some]
      by_cases h2 : lvX op ≤ 2
      · simp only [dt h2, cond_true, bf (show lvX op ≠ 6 by omega), cond_false, if_pos h2]
      · simp only [df h2, cond_false, if_neg h2]
        by_cases h6 : lvX op = 6
        · simp only [bt h6, cond_true, if_pos h6, h6]; rfl
        · simp only [bf h6, cond_false, if_neg h6]
     rw [base, P, bind_some, Pu, bind_some, Q]
     simp
def E8 (n : Nd) : Bool := (n.2.2.2.2.2 == ([] : Str)) || u9 n.2.2.2.2.2
mutual
def o5 : Tr → Bool
 | .mk b ks => E8 b && j7 ks
def j7 : List Tr → Bool
 | [] => true
 | t :: r => o5 t && j7 r
end
theorem a8S (n : Nd) : c4P T.rf n = some (!(E8 n)) := d1Y (by
 simp only [c1w, X2, bind_some, E8]
 cases (n.2.2.2.2.2 == ([] : Str)) <;> rfl)
theorem b2t (e : List Nd) : ∀ (suf pre : List Nd), e = pre ++ suf → e.length ≤ 1000000 →
  ∃ z, k88 T.rb e ((e.length : Nat) : Int) (pre.length : Nat) = some z ∧ ((suf.all E8 = true ∧ z = .inr ()) ∨ (suf.all E8 = false ∧ ∃ j : Nat, z = .inl (j : Int)))
 | [], pre, h, hl => ⟨.inr (), c5M (by
    subst h
    simp only [b88, E4, cond_false]), .inl ⟨rfl, rfl⟩⟩
 | x :: suf, pre, h, hl => by
   obtain ⟨z, h1, h2⟩ := b2t e suf (pre ++ [x]) (by rw [h]; simp) hl
   have hpl : pre.length < 4611686018427387904 := by rw [h] at hl; simp at hl; omega
   cases hx : E8 x with
   | false =>
     refine ⟨.inl (pre.length : Nat), c5M ?_, .inr ⟨by simp [hx], _, rfl⟩⟩
     subst h
     simp only [b88, s4, m5, m6, cond_true, bind_some, a8S, hx, Bool.not_false]
   | true =>
     refine ⟨z, c5M ?_, by simpa [hx] using h2⟩
     subst h
     simp only [b88, s4, m5, m6, cond_true, cond_false, bind_some, a8S, hx, Bool.not_true, s3 pre x hpl]
     exact h1
theorem contains_eq {e : List Nd} (h : e.length ≤ 1000000) : c4O T.rf e = some (!(e.all E8)) := d1X (by
 obtain ⟨z, h1, h2⟩ := b2t e e [] rfl h
 simp only [length_nil] at h1
 rw [show ((0 : Nat) : Int) = (0 : Int) from rfl] at h1
 rcases h2 with ⟨g, rfl⟩ | ⟨g, j, rfl⟩
 · have : c0A T.rf e = some (-1) := c3W (by simp only [b9p, h1, bind_some])
   simp only [b9o, this, bind_some, g]; rfl
 · have : c0A T.rf e = some (j : Int) := c3W (by simp only [b9p, h1, bind_some])
   simp only [b9o, this, bind_some, g, dt (show (j : Int) ≥ 0 by omega)]; rfl)
def D3 (e : List Nd) : Bool := M1 e && e.all E8
theorem a4D {e : List Nd} (h : e.length ≤ 1000000) : c91 T.rf e = some (D3 e) := d6j (by
 simp only [r91, c4r h, contains_eq h, bind_some, D3]
 cases M1 e <;> cases e.all E8 <;> rfl)
mutual
theorem a9H {e : List Nd} (ha : e.all E8 = true) : ∀ (t : Tr) (i : Nat), Emb e i t → o5 t = true
 | .mk b ks, i, ⟨n, h1, h2, h3, h4⟩ => by
   have hn : E8 n = true := List.all_eq_true.1 ha n (by rw [nth_getElem?] at h1; exact List.mem_of_getElem? h1)
   rw [o5, a7y ha ks i _ h4, h2]
   exact by rw [show E8 (blank n) = E8 n from rfl, hn]; rfl
theorem a7y {e : List Nd} (ha : e.all E8 = true) : ∀ (ts : List Tr) (i : Nat) (l : List Int), L8 e i l ts → j7 ts = true
 | [], _, _, _ => rfl
 | t :: ts, i, k :: l, ⟨_, _, h3, h4⟩ => by rw [j7, a9H ha t _ h3, a7y ha ts i l h4]; rfl
 | t :: ts, i, [], h => h.elim
end
theorem b2g {e : List Nd} {i : Nat} : ∀ {l : List Int} {ts : List Tr} {k : Int}, L8 e i l ts → k ∈ l → ∃ u, u ∈ ts ∧ Emb e k.toNat u
 | [], _, _, _, h => by cases h
 | x :: l, [], _, h, _ => h.elim
 | x :: l, t :: ts, k, ⟨_, _, h3, h4⟩, h => by
   rcases List.mem_cons.1 h with h | h
   · subst h; exact ⟨t, by simp, h3⟩
   · obtain ⟨u, g1, g2⟩ := b2g h4 h
     exact ⟨u, List.mem_cons_of_mem _ g1, g2⟩
theorem a8r : ∀ {ts : List Tr} {u : Tr}, u ∈ ts → o5 u = false → j7 ts = false
 | t :: ts, u, h, hu => by
   rw [j7]
   rcases List.mem_cons.1 h with h | h
   · subst h; rw [hu]; rfl
   · rw [a8r h hu, Bool.and_false]
theorem a3Q {e : List Nd} {t : Tr} (h : M1 e = true) (ht : Emb e (e.length - 1) t) : e.all E8 = o5 t := by
 cases ha : e.all E8 with
 | true => exact (a9H ha t _ ht).symm
 | false =>
   obtain ⟨n, hn, hbad⟩ := List.all_eq_false.1 ha
   obtain ⟨j, hj⟩ := List.mem_iff_getElem?.1 hn
   have hjl : j < e.length := (List.getElem?_eq_some_iff.1 hj).1
   have key := b8T h (fun j => ∀ u, Emb e j u → o5 u = false) (fun i n k h1 h2 h3 u hu => by
    obtain ⟨b, ks⟩ := u
    obtain ⟨n', g1, g2, g3, g4⟩ := hu
    rw [h1] at g1; cases g1
    obtain ⟨v, w1, w2⟩ := b2g g4 h2
    rw [o5, a8r w1 (h3 v w2), Bool.and_false]) (e.length - 1 - j) j (by omega) hjl (fun u hu => by
    obtain ⟨b, ks⟩ := u
    obtain ⟨n', g1, g2, g3, g4⟩ := hu
    rw [nth_getElem?, hj] at g1; cases g1
    rw [o5, g2, show E8 (blank n) = E8 n from rfl]
    have : E8 n = false := by simpa using hbad
    rw [this]; rfl)
   exact (key t ht).symm
theorem a7w : ∀ (k n : Nat) (l : List UInt8), (a5p k n l).length ≤ k + l.length
 | 0, _, l => by simp [a5p]
 | k + 1, n, l => by
   unfold a5p
   cases Nat.blt n 10 with
   | true => simp; omega
   | false => rw [cond_false]; have := a7w k (n / 10) (UInt8.ofNat (48 + n % 10) :: l); simp only [length_cons] at this; omega
theorem X3 (n : Int) : (J9 n).length ≤ 40 := by
 unfold J9
 split
 · have := a7w 20 ‹Nat› []; simp at this; omega
 · rename_i k; have := a7w 20 (k + 1) []; simp at this; simp; omega
theorem a1m (op : Int) : (opX op).length ≤ 40 := by
 unfold opX O7
 split
 · rename_i h
   have : ∀ k, k < 28 → (a4J.getD k ([], -1)).1.length ≤ 40 := by decide +kernel
   exact this _ (by omega)
 · simp
theorem a9y (n : Int) : (a3l n).length ≤ 40 := by unfold a3l; split <;> simp
theorem a2R {n : Nd} (h : E8 n = true) : n.2.2.2.2.2.length ≤ 40 := by
 unfold E8 at h
 rw [Bool.or_eq_true] at h
 rcases h with h | h
 · rw [eq_of_beq h]; simp
 · simp only [u9, and_eq_true, decide_eq_true_eq] at h
   exact h.2.1
def Small (l : List Str) : Prop := ∀ s ∈ l, List.length s ≤ 40
theorem Small.part {a : Int} {x : Int × List Str} (h : Small x.2) : Small (n8 a x) := by
 unfold n8; split
 · exact h
 · intro s hs
   simp only [List.mem_cons, List.mem_append, List.not_mem_nil, or_false] at hs
   rcases hs with rfl | hs | rfl
   · simp
   · exact h s hs
   · simp
theorem b4G {b : Nd} (hb : E8 b = true) {l : List (Int × List Str)} (hl : ∀ x ∈ l, Small x.2) : Small (b9Q b l) := by
 have hnm := a2R hb
 unfold b9Q
 split
 · intro s hs; simp at hs; subst hs; exact X3 _
 split
 · intro s hs; simp at hs; subst hs; exact a9y _
 split
 · intro s hs; simp at hs; subst hs; exact hnm
 split
 · split
   · rename_i x
     intro s hs
     simp only [List.mem_cons, List.mem_append, List.not_mem_nil, or_false] at hs
     rcases hs with rfl | rfl | hs | rfl
     · exact hnm
     · simp
     · exact hl x (by simp) s hs
     · simp
   · intro s hs
     simp only [List.mem_cons, List.not_mem_nil, or_false] at hs
     rcases hs with rfl | rfl | rfl
     · exact hnm
     · simp
     · simp
 split
 · rename_i x
   have hx := hl x (by simp)
   split
   · exact hx
   split
   · intro s hs
     simp only [List.mem_cons] at hs
     rcases hs with rfl | rfl | hs
     · exact a1m _
     · exact X3 _
     · exact Small.part hx s hs
   · intro s hs
     simp only [List.mem_cons] at hs
     rcases hs with rfl | hs
     · exact a1m _
     · exact Small.part hx s hs
 · rename_i x y
   have hx := hl x (by simp)
   have hy := hl y (by simp)
   split
   · intro s hs
     simp only [List.mem_cons, List.mem_append] at hs
     rcases hs with hs | rfl | hs
     · exact hx s hs
     · simp
     · exact hy s hs
   · intro s hs
     simp only [List.mem_cons, List.mem_append] at hs
     rcases hs with hs | rfl | hs
     · exact Small.part hx s hs
     · exact a1m _
     · exact Small.part hy s hs
 · rename_i x y z
   have hx := hl x (by simp)
   have hy := hl y (by simp)
   have hz := hl z (by simp)
   intro s hs
   simp only [List.mem_cons, List.mem_append] at hs
   rcases hs with rfl | hs | rfl | hs | rfl | hs
   · exact a1m _
   · exact hx s hs
   · simp
   · exact hy s hs
   · simp
   · exact hz s hs
 · intro s hs; cases hs
mutual
theorem a8V : ∀ (t : Tr), o5 t = true → Small (j8 t)
 | .mk b ks, h => by
   rw [o5, and_eq_true] at h
   rw [j8]
   exact b4G h.1 (a6C ks h.2)
theorem a6C : ∀ (ts : List Tr), j7 ts = true → ∀ x ∈ b5F ts, Small x.2
 | [], _, x, hx => by cases hx
 | t :: ts, h, x, hx => by
   rw [j7, and_eq_true] at h
   rw [b5F, List.mem_cons] at hx
   rcases hx with rfl | hx
   · exact a8V t h.1
   · exact a6C ts h.2 x hx
end
def J (l : List Str) : Str := l.flatMap fun s => 32 :: s
theorem b5j : ∀ l : List Str, T3 (l.map mkT) = J l
 | [] => rfl
 | x :: l => by rw [List.map_cons, T3, b5j l]; simp [J, mkT]
def txt (l : List Str) : Str := (J l).drop 1
theorem b6y : ∀ l : List Str, C1 (l.map mkT) = txt l
 | [] => rfl
 | x :: l => by rw [List.map_cons, C1, b5j]; simp [txt, J, mkT]
theorem c6F {l : List Str} (h : Small l) : (J l).length ≤ 41 * l.length := by
 induction l with
 | nil => simp [J]
 | cons x l ih =>
   have h1 := h x (by simp)
   have := ih fun s hs => h s (List.mem_cons_of_mem _ hs)
   simp only [J, List.flatMap_cons, length_append, length_cons] at this ⊢
   omega
theorem c2b {l : List Str} (h : Small l) : (txt l).length ≤ 41 * l.length := by
 have := c6F h
 unfold txt
 rw [List.length_drop]; omega
theorem b5T {e : List Nd} {t : Tr} (h : M1 e = true) (ht : Emb e (e.length - 1) t) (hv : Valid t) (hs : t.size ≤ 5000) (hop : t.op ≠ 28) (hl : e.length ≤ 1000000) :
  c0E T.rf e = some (if o5 t = true then txt (j8 t) else []) := d2n (by
 have hpos := List.length_pos_iff.2 (b0j h).ne
 simp only [c1G, a4D hl, bind_some, D3, h, Bool.true_and, a3Q h ht]
 cases hn : o5 t with
 | false => rfl
 | true =>
   have w := (b6S t.size t (e.length - 1) [] (Nat.le_refl _) ht hv (by simp; omega)).1 hop
   have hlen := (D0 t.size t _ (Nat.le_refl _) ht hv).2
   have hb := c2b (a8V t hn)
   have hj : b6f T.rf ((j8 t).map mkT) = some (txt (j8 t)) := c4a (by
    simp only [b9x, b6y, m8 (show (txt (j8 t)).length ≤ 274877906944 by omega), cond_true])
   rw [b0Z (b0j h).ne (by omega)]
   rw [List.nil_append] at w
   rw [Bool.not_true, cond_false, w, bind_some, hj]
   rfl)
theorem a5I {e : List Nd} (h : M1 e = true) : ∃ t, Emb e (e.length - 1) t ∧ Valid t ∧ t.op ≠ 28 ∧ t.size ≤ 5000 ∧ t.size = e.length ∧ norm e = flat t 0 ∧ M1 (flat t 0) = true ∧ Emb (flat t 0) ((flat t 0).length - 1) t := by
 obtain ⟨t, h1, h2, h3, h4, h5, h6, h7⟩ := a8o h
 have hE := a0B t [] [] h2
 simp only [List.nil_append, List.append_nil, length_nil, Nat.zero_add] at hE
 have hm := (b2I h).1
 rw [a2U h h1] at hm
 exact ⟨t, h1, h2, h4, h7, h3, a2U h h1, hm, by rw [n6]; exact hE⟩
theorem c2j (l m : List Str) : J (l ++ m) = J l ++ J m := by simp [J]
theorem c4q (x : Str) (l : List Str) : J (x :: l) = 32 :: (x ++ J l) := by simp [J]
theorem c6G : J [] = [] := rfl
theorem a4Z (x : Str) (l : List Str) : txt (x :: l) = x ++ J l := by simp [txt, J]
theorem c6H {l : List Str} (h : 1 ≤ l.length) : J l = 32 :: txt l := by
 cases l with
 | nil => simp at h
 | cons x l => rw [c4q, a4Z]
theorem c2a {l : List Str} (h : 1 ≤ l.length) (m : List Str) : txt (l ++ m) = txt l ++ J m := by
 cases l with
 | nil => simp at h
 | cons x l => rw [List.cons_append, a4Z, a4Z, c2j]; simp
def H : List Str → Str
 | [] => []
 | [a] => 32 :: a
 | a :: b :: r => 32 :: (a ++ 32 :: 44 :: H (b :: r))
abbrev m7 : Type := Int × Str × Int
def a7u (c : UInt8) : Int := IntKind.u8.wrap (((c.toNat : Nat) : Int) - 48)
theorem b7T (c : UInt8) : 0 ≤ a7u c ∧ a7u c ≤ 255 := by unfold a7u; rw [IntKind.wrap_u8]; omega
def F9 : Int → Str → Int
 | n, [] => n
 | n, c :: s => if n ≤ 2147483647 then F9 (10 * n + a7u c) s else n
theorem b3r : ∀ (s : Str) (n : Int), 0 ≤ n → 0 ≤ F9 n s
 | [], n, h => h
 | c :: s, n, h => by
   have := b7T c
   rw [F9]; split
   · exact b3r s _ (by omega)
   · exact h
theorem a9a : ∀ (suf pre : Str) (n : Int), 0 ≤ n → n ≤ 21474836725 → pre.length + suf.length ≤ 1000000 →
  k7 T.rb (pre ++ suf) n (pre.length : Nat) = some (F9 n suf)
 | [], pre, n, h, h2, h3 => ob7 (by simp only [b7, E4, cond_false, F9])
 | c :: suf, pre, n, h, h2, h3 => ob7 (by
   simp only [length_cons] at h3
   simp only [b7, s4, m5, m6, cond_true, bind_some, s3 pre c (by omega)]
   rw [F9]
   by_cases hn : n ≤ 2147483647
   · have hd := b7T c
     have ih := a9a suf (pre ++ [c]) (10 * n + a7u c) (by omega) (by omega) (by simp; omega)
     simp only [List.append_assoc, List.singleton_append] at ih
     have e1 : IntKind.i64.wrap (10 * n) = 10 * n := wr (by omega)
     have e2 : IntKind.i64.wrap (IntKind.u8.wrap (((c.toNat : Nat) : Int) - 48)) = a7u c := wr (show -9223372036854775808 ≤ a7u c ∧ a7u c ≤ 9223372036854775807 by omega)
     have e3 : IntKind.i64.wrap (10 * n + a7u c) = 10 * n + a7u c := wr (by omega)
     rw [dt hn, cond_true, if_pos hn, e1, e2, e3]
     exact ih
   · rw [df hn, cond_false, if_neg hn])
theorem a0a {s : Str} (h : s.length ≤ 1000000) : c7 T.rf s = some (F9 0 s) := or7 (by
 have := a9a s [] 0 (by omega) (by omega) (by simpa using h)
 simp only [List.nil_append, length_nil] at this
 rw [show ((0 : Nat) : Int) = (0 : Int) from rfl] at this
 simp only [r7, this, bind_some])
theorem a9E : ∀ (suf pre : Str), pre.length + suf.length ≤ 1000000 → k6 T.rb (pre ++ suf) (pre.length : Nat) = some (((pre.length + (suf.takeWhile I6).length : Nat)) : Int)
 | [], pre, h => ob6 (by simp only [b6, E4, cond_false]; rfl)
 | c :: suf, pre, h => ob6 (by
   simp only [length_cons] at h
   have ih := a9E suf (pre ++ [c]) (by simp; omega)
   simp only [List.append_assoc, List.singleton_append, length_append, length_cons, length_nil, Nat.zero_add] at ih
   simp only [b6, s4, m5, m6, cond_true, bind_some, a0j, s3 pre c (by omega)]
   rw [List.takeWhile_cons]
   cases I6 c with
   | true =>
     simp only [cond_true, if_true, length_append, length_cons, length_nil, Nat.zero_add]
     rw [ih]; congr 2; omega
   | false => rfl)
theorem a9Z : ∀ (suf pre : Str), pre.length + suf.length ≤ 1000000 → k8 T.rb (pre ++ suf) (pre.length : Nat) = some (((pre.length + (suf.takeWhile G7).length : Nat)) : Int)
 | [], pre, h => ob8 (by simp only [b8, E4, cond_false]; rfl)
 | c :: suf, pre, h => ob8 (by
   simp only [length_cons] at h
   have ih := a9Z suf (pre ++ [c]) (by simp; omega)
   simp only [List.append_assoc, List.singleton_append, length_append, length_cons, length_nil, Nat.zero_add] at ih
   simp only [b8, s4, m5, m6, cond_true, bind_some, a0j, W6, s3 pre c (by omega)]
   rw [List.takeWhile_cons, a2j]
   cases a1H c with
   | true =>
     simp only [cond_true, Bool.true_or, if_true, length_append, length_cons, length_nil, Nat.zero_add]
     rw [ih]; congr 2; omega
   | false =>
     cases I6 c with
     | true =>
       simp only [cond_true, cond_false, Bool.false_or, if_true, length_append, length_cons, length_nil, Nat.zero_add]
       rw [ih]; congr 2; omega
     | false => rfl)
def a0x : List Str := [[45, 62], [61, 62], [60, 61], [62, 61], [60, 62], [61], [60], [62], [43], [45], [42], [40], [41], [44], [59], [58]]
def a0m (s : Str) : List Str → Str
 | [] => []
 | x :: r => if s.take x.length = x then x else a0m s r
theorem b0w (s : Str) (hs : s.length ≤ 1000000) : ∀ (suf pre : List Str), pre.length + suf.length ≤ 100 → (∀ x ∈ suf, x ≠ []) →
  ∃ z, k11 T.rb (pre ++ suf) s (pre.length : Nat) = some z ∧ ((a0m s suf = [] ∧ ∃ u, z = .inr u) ∨ (a0m s suf ≠ [] ∧ ∃ u, z = .inl (u, a0m s suf)))
 | [], pre, h, hne => ⟨.inr pre, c5D (by simp only [b11, E4, cond_false, List.append_nil, D7]), .inl ⟨rfl, _, rfl⟩⟩
 | x :: suf, pre, h, hne => by
   simp only [length_cons] at h
   obtain ⟨z, h1, h2⟩ := b0w s hs suf (pre ++ [x]) (by simp; omega) (fun y hy => hne y (List.mem_cons_of_mem _ hy))
   simp only [List.append_assoc, List.singleton_append] at h1
   by_cases hx : s.take x.length = x
   · have hl : x.length ≤ s.length := by have := congrArg List.length hx; rw [List.length_take] at this; omega
     refine ⟨.inl (pre ++ x :: suf, x), c5D ?_, .inr ⟨by rw [a0m, if_pos hx]; exact hne x (by simp), _, by rw [a0m, if_pos hx]⟩⟩
     have e2 : sub s (some (0, x.length - 0)) = x := by rw [Nat.sub_zero, sub_zero]; exact hx
     simp only [b11, s4, m5, m6, cond_true, bind_some, dt (show ((s.length : Nat) : Int) ≥ ((x.length : Nat) : Int) by omega), a7S (show (0 : Int) ≤ ((x.length : Nat) : Int) by omega) (show ((x.length : Nat) : Int) ≤ ((s.length : Nat) : Int) by omega), e2, beq_self_eq_true]
   · refine ⟨z, c5D ?_, by rw [a0m, if_neg hx]; exact h2⟩
     by_cases hl : x.length ≤ s.length
     · have e2 : (sub s (some (0, x.length - 0)) == x) = false := by rw [Nat.sub_zero, sub_zero]; exact beq_eq_false_iff_ne.2 hx
       simp only [b11, s4, m5, m6, cond_true, cond_false, bind_some, dt (show ((s.length : Nat) : Int) ≥ ((x.length : Nat) : Int) by omega), a7S (show (0 : Int) ≤ ((x.length : Nat) : Int) by omega) (show ((x.length : Nat) : Int) ≤ ((s.length : Nat) : Int) by omega), e2, s3 pre x (by omega)]
       exact h1
     · simp only [b11, s4, m5, m6, cond_true, cond_false, bind_some, df (show ¬ ((s.length : Nat) : Int) ≥ ((x.length : Nat) : Int) by omega), s3 pre x (by omega)]
       exact h1
def a4S (s : Str) : Str := a0m s a0x
theorem sign_eq {s : Str} (hs : s.length ≤ 1000000) : c13 T.rf s = some (a4S s) := d5z (by
 have hS : c14 T.rf = some a0x := d5A rfl
 obtain ⟨z, h1, h2⟩ := b0w s hs a0x [] (by decide) (by decide)
 simp only [List.nil_append, length_nil] at h1
 rw [show ((0 : Nat) : Int) = (0 : Int) from rfl] at h1
 simp only [r13, hS, bind_some, h1, a4S]
 rcases h2 with ⟨g, u, rfl⟩ | ⟨g, u, rfl⟩
 · rw [g]
 · rfl)
def b3x (w : Str) (a : Int) : m7 × Int := if V4 w = true then ((3, w, a), 0) else if u9 w = true then ((1, w, a), 0) else ((0, [], 0), 5)
theorem c2h (w : Str) (a : Int) : c9 T.rf w a = some (b3x w a) := or9 (by
 simp only [r9, a4O, b1x, bind_some, b3x]
 cases V4 w <;> cases u9 w <;> rfl)
def b8Z (w : Str) (a : Int) : m7 × Int := if (1 < w.length ∧ w.headD 0 = 48) ∨ 2147483647 < F9 0 w then ((0, [], 0), 2) else ((2, w, a), 0)
def M4 (s : Str) (a : Int) : m7 × Int :=
 bif I6 (s.headD 0) then b8Z (s.takeWhile I6) a else
 bif a1H (s.headD 0) then b3x (s.takeWhile G7) a else
 if a4S s = [] then ((0, [], 0), 5) else ((4, a4S s, a), 0)
theorem a6W (p : UInt8 → Bool) : ∀ s : Str, s.take (s.takeWhile p).length = s.takeWhile p
 | [] => rfl
 | c :: s => by
   rw [List.takeWhile_cons]
   cases p c with
   | true => simp only [if_true, length_cons, List.take_succ_cons, a6W p s]
   | false => rfl
theorem b5G (p : UInt8 → Bool) (s : Str) : (s.takeWhile p).length ≤ s.length := by
 have := congrArg List.length (a6W p s)
 rw [List.length_take] at this; omega
theorem b4e {c : UInt8} {r : Str} (a : Int) (h : (c :: r).length ≤ 1000000) : c5 T.rf (c :: r) a = some (M4 (c :: r) a) := or5 (by
 have e3 : inb 0 (c :: r).length = true := D2 (by omega) (by simp only [length_cons]; omega)
 have e4 : nth (c :: r) 0 = some c := rfl
 have z0 : ((0 : Nat) : Int) = (0 : Int) := rfl
 simp only [r5, e3, e4, cond_true, bind_some, a0j, W6, M4, List.headD_cons]
 cases hd : I6 c with
 | true =>
   have hl := a9E (c :: r) [] (by simpa using h)
   simp only [List.nil_append, length_nil, Nat.zero_add] at hl
   rw [z0] at hl
   have hle := b5G I6 (c :: r)
   have e5 : G5 ((((c :: r).takeWhile I6).length : Nat) : Int) (c :: r).length = true := a7S (by omega) (by omega)
   have e6 : sub (c :: r) (some (0, ((((c :: r).takeWhile I6).length : Nat) : Int).toNat - 0)) = (c :: r).takeWhile I6 := by rw [Int.toNat_natCast, Nat.sub_zero, sub_zero, a6W]
   have hhd : ((c :: r).takeWhile I6).headD 0 = c := by rw [List.takeWhile_cons, hd]; rfl
   have hc48 : ((((c.toNat : Nat) : Int)) == 48) = decide (c = 48) := by
    by_cases hc : c = 48
    · subst hc; rfl
    · rw [df hc]
      refine bf fun hh => hc ?_
      have : c.toNat = 48 := by omega
      exact UInt8.toNat_inj.1 this
   simp only [cond_true, hl, bind_some, e5, e6, a0a (show ((c :: r).takeWhile I6).length ≤ 1000000 by omega), hc48, b8Z, hhd]
   generalize (c :: r).takeWhile I6 = w at *
   by_cases h1 : 1 < w.length
   · rw [dt (show ((w.length : Nat) : Int) > 1 by omega), cond_true]
     by_cases h2 : c = 48
     · rw [dt h2, cond_true, if_pos (.inl ⟨h1, h2⟩)]
     · rw [df h2, cond_false]
       by_cases h3 : 2147483647 < F9 0 w
       · rw [dt (show F9 0 w > 2147483647 from h3), cond_true, if_pos (.inr h3)]
       · rw [df (show ¬ F9 0 w > 2147483647 from h3), cond_false, if_neg (fun hh => hh.elim (fun k => h2 k.2) h3)]
   · rw [df (show ¬ ((w.length : Nat) : Int) > 1 by omega), cond_false]
     by_cases h3 : 2147483647 < F9 0 w
     · rw [dt (show F9 0 w > 2147483647 from h3), cond_true, if_pos (.inr h3)]
     · rw [df (show ¬ F9 0 w > 2147483647 from h3), cond_false, if_neg (fun hh => hh.elim (fun k => h1 k.1) h3)]
 | false =>
   simp only [cond_false]
   cases hL : a1H c with
   | true =>
     have hl := a9Z (c :: r) [] (by simpa using h)
     simp only [List.nil_append, length_nil, Nat.zero_add] at hl
     rw [z0] at hl
     have hle := b5G G7 (c :: r)
     have e5 : G5 ((((c :: r).takeWhile G7).length : Nat) : Int) (c :: r).length = true := a7S (by omega) (by omega)
     have e6 : sub (c :: r) (some (0, ((((c :: r).takeWhile G7).length : Nat) : Int).toNat - 0)) = (c :: r).takeWhile G7 := by rw [Int.toNat_natCast, Nat.sub_zero, sub_zero, a6W]
     simp only [cond_true, hl, bind_some, e5, e6, c2h]
   | false =>
     simp only [cond_false, sign_eq h, bind_some]
     by_cases hs : a4S (c :: r) = []
     · rw [hs, if_pos rfl]; rfl
     · rw [if_neg hs, beq_eq_false_iff_ne.2 hs]; rfl)
theorem a8I (s : Str) : ∀ l : List Str, a0m s l = [] ∨ (s.take (a0m s l).length = a0m s l ∧ a0m s l ∈ l)
 | [] => .inl rfl
 | x :: r => by
   rw [a0m]; split
   · rename_i h; exact .inr ⟨h, by simp⟩
   · rcases a8I s r with h | h
     · exact .inl h
     · exact .inr ⟨h.1, List.mem_cons_of_mem _ h.2⟩
def Okk (x : m7) : Prop := (x.1 = 1 ∧ u9 x.2.1 = true) ∨ (x.1 = 2 ∧ 0 ≤ F9 0 x.2.1 ∧ F9 0 x.2.1 ≤ 2147483647 ∧ x.2.1.length ≤ 1000000) ∨ x.1 = 3 ∨ x.1 = 4
theorem b5x {c : UInt8} {r : Str} {a : Int} (hl : (c :: r).length ≤ 1000000) (h : (M4 (c :: r) a).2 = 0) : Okk (M4 (c :: r) a).1 ∧ 1 ≤ (M4 (c :: r) a).1.2.1.length ∧ (M4 (c :: r) a).1.2.1.length ≤ (c :: r).length := by
 unfold M4 at *
 rw [List.headD_cons] at *
 cases hd : I6 c with
 | true =>
   rw [hd] at h
   simp only [cond_true] at h ⊢
   have h1 : 1 ≤ ((c :: r).takeWhile I6).length := by rw [List.takeWhile_cons, hd]; simp
   have h2 := b5G I6 (c :: r)
   unfold b8Z at h ⊢
   split at h
   · cases h
   · rename_i hn
     rw [if_neg hn]
     have := b3r ((c :: r).takeWhile I6) 0 (by omega)
     exact ⟨.inr (.inl ⟨rfl, this, by show F9 0 _ ≤ _; exact Int.not_lt.1 fun hh => hn (.inr hh), Nat.le_trans h2 hl⟩), h1, h2⟩
 | false =>
   rw [hd] at h
   simp only [cond_false] at h ⊢
   cases hL : a1H c with
   | true =>
     rw [hL] at h
     simp only [cond_true] at h ⊢
     have h1 : 1 ≤ ((c :: r).takeWhile G7).length := by rw [List.takeWhile_cons, a2j, hL]; simp
     have h2 := b5G G7 (c :: r)
     unfold b3x at h ⊢
     split at h
     · rename_i hw; rw [if_pos hw]; exact ⟨.inr (.inr (.inl rfl)), h1, h2⟩
     · rename_i hw
       rw [if_neg hw]
       split at h
       · rename_i hn; rw [if_pos hn]; exact ⟨.inl ⟨rfl, hn⟩, h1, h2⟩
       · cases h
   | false =>
     rw [hL] at h
     simp only [cond_false] at h ⊢
     split at h
     · cases h
     · rename_i hs
       rw [if_neg hs]
       have : a4S (c :: r) ≠ [] := hs
       rcases a8I (c :: r) a0x with g | g
       · exact absurd g hs
       · have hle : (a4S (c :: r)).length ≤ (c :: r).length := by
          have h3 := congrArg List.length g.1
          rw [List.length_take] at h3
          show (a0m (c :: r) a0x).length ≤ _
          omega
         have hp := List.length_pos_iff.2 this
         exact ⟨.inr (.inr (.inr rfl)), by show 1 ≤ (a4S (c :: r)).length; omega, hle⟩
theorem b9f {c : UInt8} {r : Str} {a : Int} (hl : (c :: r).length ≤ 1000000) : (M4 (c :: r) a).2 ≠ 0 ∨ (M4 (c :: r) a).1.2.1.length ≤ (c :: r).length := by
 by_cases h : (M4 (c :: r) a).2 = 0
 · exact .inr (b5x hl h).2.2
 · exact .inl h
theorem b1E (pre s : Str) : sub (pre ++ s) (some (((pre.length : Nat) : Int).toNat, ((pre ++ s).length - ((pre.length : Nat) : Int).toNat))) = s := by
 show ((pre ++ s).drop _).take _ = s
 rw [Int.toNat_natCast, List.drop_left, length_append, Nat.add_sub_cancel_left, List.take_length]
theorem nb {c : UInt8} {k : Int} (h : ((c.toNat : Nat) : Int) ≠ k) : ((((c.toNat : Nat) : Int)) == k) = false := bf h
theorem yb {c : UInt8} {k : Int} (h : ((c.toNat : Nat) : Int) = k) : ((((c.toNat : Nat) : Int)) == k) = true := bt h
theorem b5p (d : Int × Int) (out : List m7) (pre : Str) (c : UInt8) (r : Str) (h : (pre ++ c :: r).length ≤ 100000) (ho : out.length ≤ 1000000) (hb : c.toNat ≠ 32 ∧ c.toNat ≠ 9 ∧ c.toNat ≠ 10 ∧ c.toNat ≠ 13) (hc : ¬ (c.toNat = 45 ∧ ∃ x r', r = x :: r' ∧ x.toNat = 45)) :
  b12 T.rf T.rb d out (pre ++ c :: r) (pre.length : Nat) = (bif (M4 (c :: r) (pre.length : Nat)).2 != 0 then some (.inl (((M4 (c :: r) (pre.length : Nat)).2, ((pre.length : Nat) : Int)), [])) else
   k12 T.rb d (out ++ [(M4 (c :: r) (pre.length : Nat)).1]) (pre ++ c :: r) (((pre.length + (M4 (c :: r) (pre.length : Nat)).1.2.1.length : Nat)) : Int)) := by
 have hl : (c :: r).length ≤ 1000000 := by simp only [length_append] at h; omega
 have h1 := nb (c := c) (k := 32) (by omega)
 have h2 := nb (c := c) (k := 9) (by omega)
 have h3 := nb (c := c) (k := 10) (by omega)
 have h4 := nb (c := c) (k := 13) (by omega)
 have hi : G5 ((pre.length : Nat) : Int) (pre ++ c :: r).length = true := a7S (by omega) (by simp only [length_append]; omega)
 have hm : Nat.ble (out.length + 1) v8 = true := m8 (by omega)
 have fin : (bif (M4 (c :: r) (pre.length : Nat)).2 != 0 then some (.inl (((M4 (c :: r) (pre.length : Nat)).2, ((pre.length : Nat) : Int)), [])) else
   k12 T.rb d (out ++ [(M4 (c :: r) (pre.length : Nat)).1]) (pre ++ c :: r) (IntKind.i64.wrap (((pre.length : Nat) : Int) + (((M4 (c :: r) (pre.length : Nat)).1.2.1.length : Nat) : Int)))) = (bif (M4 (c :: r) (pre.length : Nat)).2 != 0 then some (.inl (((M4 (c :: r) (pre.length : Nat)).2, ((pre.length : Nat) : Int)), [])) else
   k12 T.rb d (out ++ [(M4 (c :: r) (pre.length : Nat)).1]) (pre ++ c :: r) (((pre.length + (M4 (c :: r) (pre.length : Nat)).1.2.1.length : Nat)) : Int)) := by
  rcases b9f (a := ((pre.length : Nat) : Int)) hl with g | g
  · rw [nbf g]; rfl
  · simp only [length_append, length_cons] at h g
    rw [wr (by omega), Int.natCast_add]
 rw [← fin]
 have hpl : pre.length < 4611686018427387904 := by simp only [length_append] at h; omega
 cases r with
 | nil =>
   have e : decide (((pre.length + 1 : Nat) : Int) < (((pre ++ [c]).length : Nat) : Int)) = false := df (by simp)
   simp only [b12, s4, m5, m6, cond_true, cond_false, bind_some, h1, h2, h3, h4, C6 hpl, e, hi, b1E, b4e _ hl, hm, Bool.and_true]
 | cons x r' =>
   have e : decide (((pre.length + 1 : Nat) : Int) < (((pre ++ c :: x :: r').length : Nat) : Int)) = true := dt (by simp; omega)
   by_cases h45 : c.toNat = 45
   · have hx : x.toNat ≠ 45 := fun hx => hc ⟨h45, x, r', rfl, hx⟩
     have y1 := yb (c := c) (k := 45) (by omega)
     have y2 := nb (c := x) (k := 45) (by omega)
     have n1 : nth (pre ++ c :: x :: r') (((pre.length + 1 : Nat) : Int)).toNat = some x := by
      rw [nth_getElem?, Int.toNat_natCast, List.getElem?_append_right (by omega), show pre.length + 1 - pre.length = 1 by omega]; rfl
     have i1 : inb ((pre.length + 1 : Nat) : Int) (pre ++ c :: x :: r').length = true := D2 (by omega) (by simp; omega)
     simp only [b12, s4, m5, m6, cond_true, cond_false, bind_some, h1, h2, h3, h4, C6 hpl, e, hi, b1E, b4e _ hl, hm, Bool.and_true, y1, y2, n1, i1]
   · have y1 := nb (c := c) (k := 45) (by omega)
     simp only [b12, s4, m5, m6, cond_true, cond_false, bind_some, h1, h2, h3, h4, C6 hpl, e, hi, b1E, b4e _ hl, hm, Bool.and_true, y1]
theorem b0a (d : Int × Int) (out : List m7) (pre : Str) (c : UInt8) (r : Str) (h : (pre ++ c :: r).length ≤ 100000) (hb : c.toNat = 32 ∨ c.toNat = 9 ∨ c.toNat = 10 ∨ c.toNat = 13) :
  b12 T.rf T.rb d out (pre ++ c :: r) (pre.length : Nat) = k12 T.rb d out (pre ++ c :: r) (((pre.length + 1 : Nat)) : Int) := by
 have hpl : pre.length < 4611686018427387904 := by simp only [length_append] at h; omega
 have t : ∀ k : Int, ((((c.toNat : Nat) : Int)) == k) = decide (((c.toNat : Nat) : Int) = k) := fun k => by
  by_cases hk : ((c.toNat : Nat) : Int) = k
  · rw [yb hk, dt hk]
  · rw [nb hk, df hk]
 have t1 := t 32
 have t2 := t 9
 have t3 := t 10
 have t4 := t 13
 simp only [b12, s4, m5, m6, cond_true, bind_some, C6 hpl, t1, t2, t3, t4]
 rcases hb with hb | hb | hb | hb <;> rw [hb] <;> rfl
theorem b1c (d : Int × Int) (out : List m7) (s : Str) : b12 T.rf T.rb d out s ((s.length : Nat) : Int) = some (.inr (d, out)) := by
 simp only [b12, D7, cond_false]
theorem b2b (s : Str) : ∀ (suf pre : Str), s = pre ++ suf → s.length ≤ 100000 → ∃ j : Nat, k13 T.rb s (pre.length : Nat) = some (j : Int) ∧ pre.length ≤ j ∧ j ≤ s.length ∧ (∀ c r, suf = c :: r → c.toNat ≠ 10 → pre.length < j)
 | [], pre, h, hl => ⟨pre.length, c5E (by subst h; simp only [b13, E4, cond_false]), Nat.le_refl _, by subst h; simp, fun c r h => by cases h⟩
 | c :: suf, pre, h, hl => by
   have hpl : pre.length < 4611686018427387904 := by rw [h] at hl; simp at hl; omega
   by_cases hc : c.toNat = 10
   · refine ⟨pre.length, c5E ?_, Nat.le_refl _, by subst h; simp, fun c' r h1 h2 => by cases h1; exact absurd hc h2⟩
     have y := yb (c := c) (k := 10) (by omega)
     subst h
     simp only [b13, s4, m5, m6, cond_true, bind_some, bne, y, Bool.not_true, cond_false]
   · obtain ⟨j, h1, h2, h3, h4⟩ := b2b s suf (pre ++ [c]) (by rw [h]; simp) hl
     have y := nb (c := c) (k := 10) (by omega)
     simp only [length_append, length_cons, length_nil, Nat.zero_add] at h1 h2
     refine ⟨j, c5E ?_, by omega, h3, fun _ _ _ _ => by omega⟩
     subst h
     simp only [b13, s4, m5, m6, cond_true, bind_some, bne, y, Bool.not_false, C6 hpl, h1]
theorem c1d (d : Int × Int) (out : List m7) (pre : Str) (c x : UInt8) (r : Str) (h : (pre ++ c :: x :: r).length ≤ 100000) (hc : c.toNat = 45) (hx : x.toNat = 45) :
  ∃ j : Nat, b12 T.rf T.rb d out (pre ++ c :: x :: r) (pre.length : Nat) = k12 T.rb d out (pre ++ c :: x :: r) (j : Int) ∧ pre.length < j ∧ j ≤ (pre ++ c :: x :: r).length := by
 obtain ⟨j, h1, h2, h3, h4⟩ := b2b (pre ++ c :: x :: r) (c :: x :: r) pre rfl h
 refine ⟨j, ?_, h4 c (x :: r) rfl (by omega), h3⟩
 have hpl : pre.length < 4611686018427387904 := by simp only [length_append] at h; omega
 have n1 := nb (c := c) (k := 32) (by omega)
 have n2 := nb (c := c) (k := 9) (by omega)
 have n3 := nb (c := c) (k := 10) (by omega)
 have n4 := nb (c := c) (k := 13) (by omega)
 have y1 := yb (c := c) (k := 45) (by omega)
 have y2 := yb (c := x) (k := 45) (by omega)
 have e : decide (((pre.length + 1 : Nat) : Int) < (((pre ++ c :: x :: r).length : Nat) : Int)) = true := dt (by simp; omega)
 have m1 : nth (pre ++ c :: x :: r) (((pre.length + 1 : Nat) : Int)).toNat = some x := by
  rw [nth_getElem?, Int.toNat_natCast, List.getElem?_append_right (by omega), show pre.length + 1 - pre.length = 1 by omega]; rfl
 have i1 : inb ((pre.length + 1 : Nat) : Int) (pre ++ c :: x :: r).length = true := D2 (by omega) (by simp; omega)
 simp only [b12, s4, m5, m6, cond_true, cond_false, bind_some, n1, n2, n3, n4, C6 hpl, e, y1, y2, m1, i1, h1]
theorem c1c {s : Str} (hs : s.length ≤ 100000) : ∀ (m i : Nat) (out : List m7), s.length - i ≤ m → i ≤ s.length → out.length ≤ i →
  ∃ z, k12 T.rb (0, 0) out s (i : Nat) = some z ∧ ((∃ e a, e ≠ 0 ∧ z = .inl ((e, a), [])) ∨ ∃ L : List m7, z = .inr ((0, 0), out ++ L) ∧ (∀ x ∈ L, Okk x) ∧ L.length + i ≤ s.length) := by
 intro m
 induction m with
 | zero =>
   intro i out h hi ho
   have : i = s.length := by omega
   subst this
   exact ⟨_, b1j (b1c _ _ _), .inr ⟨[], by simp, by simp, by simp⟩⟩
 | succ m ih =>
   intro i out h hi ho
   by_cases hlt : i < s.length
   case neg =>
    have : i = s.length := by omega
    subst this
    exact ⟨_, b1j (b1c _ _ _), .inr ⟨[], by simp, by simp, by simp⟩⟩
   obtain ⟨pre, suf, rfl, rfl⟩ : ∃ pre suf : Str, s = pre ++ suf ∧ pre.length = i := ⟨s.take i, s.drop i, (List.take_append_drop i s).symm, by rw [List.length_take]; omega⟩
   cases suf with
   | nil => simp at hlt
   | cons c r =>
     by_cases hb : c.toNat = 32 ∨ c.toNat = 9 ∨ c.toNat = 10 ∨ c.toNat = 13
     · obtain ⟨z, h1, h2⟩ := ih (pre.length + 1) out (by omega) (by omega) (by omega)
       refine ⟨z, b1j (by rw [b0a _ _ _ _ _ hs hb]; exact h1), ?_⟩
       rcases h2 with h2 | ⟨L, g1, g2, g3⟩
       · exact .inl h2
       · exact .inr ⟨L, g1, g2, by omega⟩
     by_cases hc : c.toNat = 45 ∧ ∃ x r', r = x :: r' ∧ x.toNat = 45
     · obtain ⟨h45, x, r', rfl, hx⟩ := hc
       obtain ⟨j, e1, e2, e3⟩ := c1d (0, 0) out pre c x r' hs h45 hx
       obtain ⟨z, h1, h2⟩ := ih j out (by omega) e3 (by omega)
       refine ⟨z, b1j (by rw [e1]; exact h1), ?_⟩
       rcases h2 with h2 | ⟨L, g1, g2, g3⟩
       · exact .inl h2
       · exact .inr ⟨L, g1, g2, by omega⟩
     have e1 := b5p (0, 0) out pre c r hs (by omega) ⟨by omega, by omega, by omega, by omega⟩ hc
     have hl : (c :: r).length ≤ 1000000 := by simp only [length_append] at hs; omega
     by_cases hz : (M4 (c :: r) (pre.length : Nat)).2 = 0
     · obtain ⟨o1, o2, o3⟩ := b5x hl hz
       rw [nbt hz, cond_false] at e1
       obtain ⟨z, h1, h2⟩ := ih (pre.length + (M4 (c :: r) (pre.length : Nat)).1.2.1.length) (out ++ [(M4 (c :: r) (pre.length : Nat)).1]) (by omega) (by simp only [length_append]; omega) (by simp only [length_append, length_cons, length_nil]; omega)
       refine ⟨z, b1j (by rw [e1]; exact h1), ?_⟩
       rcases h2 with h2 | ⟨L, g1, g2, g3⟩
       · exact .inl h2
       · refine .inr ⟨(M4 (c :: r) (pre.length : Nat)).1 :: L, by rw [g1]; simp, fun x hx => ?_, by simp only [length_cons]; omega⟩
         rcases List.mem_cons.1 hx with rfl | hx
         · exact o1
         · exact g2 x hx
     · rw [nbf hz, cond_true] at e1
       exact ⟨_, b1j e1, .inl ⟨_, _, hz, rfl⟩⟩
theorem c0j {s : Str} (hs : s.length ≤ 100000) : ∃ L e a, c4 T.rf s = some (L, e, a) ∧ (e ≠ 0 ∨ (e = 0 ∧ a = 0 ∧ (∀ x ∈ L, Okk x) ∧ L.length ≤ s.length)) := by
 obtain ⟨z, h1, h2⟩ := c1c hs s.length 0 [] (by omega) (by omega) (by simp)
 rw [show ((0 : Nat) : Int) = (0 : Int) from rfl] at h1
 rcases h2 with ⟨e, a, he, rfl⟩ | ⟨L, rfl, g2, g3⟩
 · exact ⟨[], e, a, or4 (by simp only [r4, df (show ¬ ((s.length : Nat) : Int) > 100000 by omega), cond_false, h1, bind_some]), .inl he⟩
 · exact ⟨L, 0, 0, or4 (by simp only [r4, df (show ¬ ((s.length : Nat) : Int) > 100000 by omega), cond_false, h1, bind_some, List.nil_append]), .inr ⟨rfl, rfl, g2, by omega⟩⟩
theorem b0O : ∀ (m k : Nat), k ≤ m → Lib.decDigits k ≠ [] ∧ (Lib.decDigits k).all I6 = true ∧ (k ≠ 0 → (Lib.decDigits k).headD 0 ≠ 48) ∧ (k ≤ 2147483647 → F9 0 (Lib.decDigits k) = (k : Int)) := by
 have vapp : ∀ (a b : Str) (n : Int), F9 n (a ++ b) = F9 (F9 n a) b := by
  intro a
  induction a with
  | nil => intro b n; rfl
  | cons c a ih =>
    intro b n
    rw [List.cons_append, F9, F9]
    split
    · exact ih b _
    · rename_i h
      cases b with
      | nil => rfl
      | cons x b => rw [F9, if_neg h]
 have d10 : ∀ d : Nat, d < 10 → I6 (UInt8.ofNat (48 + d)) = true ∧ a7u (UInt8.ofNat (48 + d)) = (d : Int) ∧ (d ≠ 0 → UInt8.ofNat (48 + d) ≠ 48) := by decide +kernel
 intro m
 induction m with
 | zero =>
   intro k hk
   have : k = 0 := by omega
   subst this
   have h0 := d10 0 (by omega)
   rw [Lib.decDigits, dif_pos (by omega)]
   refine ⟨by simp, by simp only [List.all_cons, List.all_nil, h0.1, Bool.and_true], fun h => absurd rfl h, fun _ => ?_⟩
   rw [F9, if_pos (by omega), F9, h0.2.1]; omega
 | succ m ih =>
   intro k hk
   rw [Lib.decDigits]
   by_cases h10 : k < 10
   · have h0 := d10 k h10
     rw [dif_pos h10]
     refine ⟨by simp, by simp only [List.all_cons, List.all_nil, h0.1, Bool.and_true], fun h => h0.2.2 h, fun _ => ?_⟩
     rw [F9, if_pos (by omega), F9, h0.2.1]; omega
   · rw [dif_neg h10]
     obtain ⟨i1, i2, i3, i4⟩ := ih (k / 10) (by omega)
     have h0 := d10 (k % 10) (by omega)
     refine ⟨by simp, by simp only [List.all_append, List.all_cons, List.all_nil, h0.1, i2, Bool.and_true], fun h => ?_, fun h => ?_⟩
     · cases hd : Lib.decDigits (k / 10) with
       | nil => exact absurd hd i1
       | cons c r =>
         rw [hd] at i3
         exact i3 (by omega)
     · rw [vapp, i4 (by omega), F9, if_pos (by omega), F9, h0.2.1]; omega
theorem a7Y {n : Int} (h : 0 ≤ n ∧ n ≤ 2147483647) : ∃ k : Nat, n = k ∧ J9 n = Lib.decDigits k := by
 obtain ⟨k, rfl⟩ : ∃ k : Nat, n = k := ⟨n.toNat, by omega⟩
 refine ⟨k, rfl, ?_⟩
 show a5p 20 k [] = _
 rw [a7v 19 k [] (by omega), List.append_nil]
theorem b3s {n : Int} (h : 0 ≤ n ∧ n ≤ 2147483647) : F9 0 (J9 n) = n := by
 obtain ⟨k, rfl, hk⟩ := a7Y h
 rw [hk]
 exact (b0O k k (Nat.le_refl _)).2.2.2 (by omega)
inductive Tok : Str → Prop
 | num {n : Int} (h : 0 ≤ n ∧ n ≤ 2147483647) : Tok (J9 n)
 | name {s : Str} (h : u9 s = true) : Tok s
 | word {s : Str} (h : V4 s = true) : Tok s
 | sign {s : Str} (h : s ∈ a0x) : Tok s
def p7 (s : Str) : Int := bif I6 (s.headD 0) then 2 else bif V4 s then 3 else bif u9 s then 1 else 4
theorem b4K : ∀ s ∈ B3, s ≠ [] ∧ s.all G7 = true ∧ a1H (s.headD 0) = true := by decide +kernel
theorem b5o {c : UInt8} (h : a1H c = true) : I6 c = false ∧ G7 c = true ∧ c.toNat ≠ 45 ∧ c.toNat ≠ 32 ∧ c.toNat ≠ 9 ∧ c.toNat ≠ 10 ∧ c.toNat ≠ 13 := by
 rw [a2j, h]
 unfold a1H at h
 simp only [Bool.or_eq_true, decide_eq_true_eq] at h
 unfold I6
 exact ⟨df (by omega), rfl, by omega, by omega, by omega, by omega, by omega⟩
theorem c0I {c : UInt8} (h : I6 c = true) : c.toNat ≠ 45 ∧ c.toNat ≠ 32 ∧ c.toNat ≠ 9 ∧ c.toNat ≠ 10 ∧ c.toNat ≠ 13 := by
 unfold I6 at h
 have := of_decide_eq_true h
 omega
theorem b4H {p : UInt8 → Bool} {rest : Str} (hr : rest = [] ∨ ∃ c r, rest = c :: r ∧ p c = false) : ∀ s : Str, s.all p = true → (s ++ rest).takeWhile p = s
 | [], _ => by
   rcases hr with rfl | ⟨c, r, rfl, h⟩
   · rfl
   · rw [List.nil_append, List.takeWhile_cons, h]; rfl
 | c :: s, h => by
   rw [List.all_cons, and_eq_true] at h
   rw [List.cons_append, List.takeWhile_cons, h.1, if_pos rfl, b4H hr s h.2]
def Gap (rest : Str) : Prop := rest = [] ∨ ∃ r, rest = 32 :: r
theorem Gap.dig {rest : Str} (h : Gap rest) : rest = [] ∨ ∃ c r, rest = c :: r ∧ I6 c = false := by
 rcases h with rfl | ⟨r, rfl⟩
 · exact .inl rfl
 · exact .inr ⟨32, r, rfl, by decide⟩
theorem Gap.part {rest : Str} (h : Gap rest) : rest = [] ∨ ∃ c r, rest = c :: r ∧ G7 c = false := by
 rcases h with rfl | ⟨r, rfl⟩
 · exact .inl rfl
 · exact .inr ⟨32, r, rfl, by decide⟩
theorem sign_one : ∀ s ∈ a0x, ∀ rest, Gap rest → a4S (s ++ rest) = s := by
 intro s hs rest hr
 simp only [a0x, List.mem_cons, List.not_mem_nil, or_false] at hs
 rcases hr with rfl | ⟨r, rfl⟩
 · rcases hs with rfl | rfl | rfl | rfl | rfl | rfl | rfl | rfl | rfl | rfl | rfl | rfl | rfl | rfl | rfl | rfl <;> rfl
 · rcases hs with rfl | rfl | rfl | rfl | rfl | rfl | rfl | rfl | rfl | rfl | rfl | rfl | rfl | rfl | rfl | rfl <;> rfl
theorem b6T : ∀ s ∈ a0x, s ≠ [] ∧ I6 (s.headD 0) = false ∧ a1H (s.headD 0) = false ∧ V4 s = false ∧ u9 s = false ∧ (s.headD 0).toNat ≠ 32 ∧ (s.headD 0).toNat ≠ 9 ∧ (s.headD 0).toNat ≠ 10 ∧ (s.headD 0).toNat ≠ 13 ∧ ((s.headD 0).toNat = 45 → s = [45] ∨ s = [45, 62]) := by decide +kernel
theorem b1F {s : Str} (h : Tok s) {rest : Str} (hr : Gap rest) (a : Int) : ∃ c r, s = c :: r ∧ M4 (s ++ rest) a = ((p7 s, s, a), 0) ∧
  (c.toNat ≠ 32 ∧ c.toNat ≠ 9 ∧ c.toNat ≠ 10 ∧ c.toNat ≠ 13) ∧ ¬ (c.toNat = 45 ∧ ∃ x r', r ++ rest = x :: r' ∧ x.toNat = 45) := by
 have letc : ∀ {s : Str}, s ≠ [] → s.all G7 = true → a1H (s.headD 0) = true → (V4 s = true ∨ (V4 s = false ∧ u9 s = true)) → ∃ c r, s = c :: r ∧ M4 (s ++ rest) a = ((p7 s, s, a), 0) ∧
  (c.toNat ≠ 32 ∧ c.toNat ≠ 9 ∧ c.toNat ≠ 10 ∧ c.toNat ≠ 13) ∧ ¬ (c.toNat = 45 ∧ ∃ x r', r ++ rest = x :: r' ∧ x.toNat = 45) := by
  intro s h1 h2 h3 h4
  cases s with
  | nil => exact absurd rfl h1
  | cons c r =>
    rw [List.headD_cons] at h3
    obtain ⟨g1, g2, g3, g4⟩ := b5o h3
    refine ⟨c, r, rfl, ?_, g4, fun hh => g3 hh.1⟩
    unfold M4 p7
    rw [b4H hr.part _ h2]
    simp only [List.cons_append, List.headD_cons, g1, h3, cond_false, cond_true, b3x]
    rcases h4 with h4 | ⟨h4, h5⟩
    · rw [h4]; rfl
    · rw [h4, h5]; rfl
 cases h with
 | num hn =>
   rename_i n
   obtain ⟨k, rfl, hk⟩ := a7Y hn
   obtain ⟨d1, d2, d3, d4⟩ := b0O k k (Nat.le_refl _)
   have d4 := d4 (by omega)
   rw [hk]
   have hlen : k = 0 → (Lib.decDigits k).length = 1 := fun h0 => by subst h0; rw [Lib.decDigits, dif_pos (by omega)]; rfl
   generalize Lib.decDigits k = w at *
   cases w with
   | nil => exact absurd rfl d1
   | cons c r =>
     have hc : I6 c = true := by rw [List.all_cons, and_eq_true] at d2; exact d2.1
     obtain ⟨g3, g4⟩ := c0I hc
     refine ⟨c, r, rfl, ?_, g4, fun hh => g3 hh.1⟩
     unfold M4 p7
     rw [b4H hr.dig _ d2]
     have hnum : b8Z (c :: r) a = ((2, c :: r, a), 0) := by
      unfold b8Z
      rw [if_neg]
      rintro (⟨q1, q2⟩ | q)
      · by_cases hk0 : k = 0
        · have := hlen hk0; omega
        · exact d3 hk0 q2
      · omega
     simp only [List.cons_append, List.headD_cons, hc, cond_true, hnum]
 | name h =>
   have h' := h
   simp only [u9, and_eq_true, decide_eq_true_eq, Bool.not_eq_true'] at h'
   exact letc h'.1 h'.2.2.1 h'.2.2.2.1 (.inr ⟨h'.2.2.2.2, h⟩)
 | word h =>
   have h' := b4K s (of_decide_eq_true h)
   exact letc h'.1 h'.2.1 h'.2.2 (.inl h)
 | sign h =>
   obtain ⟨g1, g2, g3, g4, g5, g6, g7, g8, g9, g10⟩ := b6T s h
   have h1 := sign_one s h rest hr
   cases s with
   | nil => exact absurd rfl g1
   | cons c r =>
     rw [List.headD_cons] at g2 g3 g6 g7 g8 g9 g10
     refine ⟨c, r, rfl, ?_, ⟨g6, g7, g8, g9⟩, ?_⟩
     · unfold M4 p7
       simp only [List.cons_append, List.headD_cons, g2, g3, cond_false, g4, g5] at h1 ⊢
       rw [h1, if_neg (by simp)]
     · rintro ⟨q1, x, r', q2, q3⟩
       rcases g10 q1 with q | q
       · cases q
         rcases hr with rfl | ⟨r2, rfl⟩
         · cases q2
         · cases q2; revert q3; decide
       · cases q
         cases q2; revert q3; decide
def Reads (L : List m7) : Nat → List Str → Prop
 | _, [] => True
 | i, s :: r => (∃ a, nth L i = some (p7 s, s, a)) ∧ Reads L (i + 1) r
theorem l5 {L : List m7} : ∀ {a b : List Str} {i : Nat}, Reads L i (a ++ b) ↔ Reads L i a ∧ Reads L (i + a.length) b
 | [], b, i => by simp [Reads]
 | s :: a, b, i => by
   rw [List.cons_append, Reads, Reads, l5, length_cons, show i + 1 + a.length = i + (a.length + 1) by omega, and_assoc]
theorem a5e {L : List m7} (x : m7) : ∀ {a : List Str} {i : Nat}, Reads L i a → Reads (x :: L) (i + 1) a
 | [], i, _ => trivial
 | s :: a, i, ⟨⟨b, h1⟩, h2⟩ => ⟨⟨b, h1⟩, a5e x h2⟩
def b2B : Nat → List Str → List m7
 | _, [] => []
 | p, s :: r => (p7 s, s, ((p + 1 : Nat) : Int)) :: b2B (p + 1 + s.length) r
theorem a8h : ∀ (l : List Str) (p : Nat), Reads (b2B p l) 0 l ∧ (b2B p l).length = l.length
 | [], p => ⟨trivial, rfl⟩
 | s :: r, p => by
   obtain ⟨h1, h2⟩ := a8h r (p + 1 + s.length)
   exact ⟨⟨⟨_, rfl⟩, a5e _ h1⟩, by rw [b2B, length_cons, h2, length_cons]⟩
theorem b7s : ∀ l : List Str, Gap (J l)
 | [] => .inl rfl
 | s :: r => .inr ⟨s ++ J r, by simp [J]⟩
theorem b5q (out : List m7) (pre s : Str) (l : List Str) (ht : Tok s) (h : (pre ++ (s ++ J l)).length ≤ 100000) (ho : out.length ≤ 1000000) {z} (hz : k12 T.rb (0, 0) (out ++ [(p7 s, s, ((pre.length : Nat) : Int))]) (pre ++ (s ++ J l)) (((pre.length + s.length : Nat)) : Int) = some z) :
  k12 T.rb (0, 0) out (pre ++ (s ++ J l)) (pre.length : Nat) = some z := b1j (by
 obtain ⟨c, r, rfl, h1, h2, h3⟩ := b1F ht (b7s l) (pre.length : Nat)
 have := b5p (0, 0) out pre c (r ++ J l) h ho h2 h3
 rw [List.cons_append] at h1
 rw [h1] at this
 rw [List.cons_append, this]
 exact hz)
theorem b8I : ∀ (l : List Str) (pre : Str) (out : List m7), (∀ s ∈ l, Tok s) → (pre ++ J l).length ≤ 100000 → out.length ≤ pre.length →
  k12 T.rb (0, 0) out (pre ++ J l) (pre.length : Nat) = some (.inr ((0, 0), out ++ b2B pre.length l))
 | [], pre, out, _, h, ho => b1j (by
   have := b1c (0, 0) out pre
   simpa [J, b2B] using this)
 | s :: r, pre, out, ht, h, ho => by
   have e : pre ++ J (s :: r) = (pre ++ [32]) ++ (s ++ J r) := by simp [J]
   have e2 : pre ++ J (s :: r) = pre ++ 32 :: (s ++ J r) := by simp [J]
   have e3 : pre ++ J (s :: r) = (pre ++ [32] ++ s) ++ J r := by simp [J]
   have ts := ht s (by simp)
   have sp : 1 ≤ s.length := by obtain ⟨c, r', rfl, _⟩ := b1F ts (b7s []) 0; simp
   have ih := b8I r (pre ++ [32] ++ s) (out ++ [(p7 s, s, ((pre.length + 1 : Nat) : Int))]) (fun x hx => ht x (List.mem_cons_of_mem _ hx)) (by rw [← e3]; exact h) (by simp; omega)
   have hb := b0a (0, 0) out pre 32 (s ++ J r) (by rw [← e2]; exact h) (.inl rfl)
   refine b1j ?_
   rw [e2, hb, ← e2, e]
   have hl1 : (pre ++ [32]).length = pre.length + 1 := by simp
   have hl2 : (pre ++ [32] ++ s).length = pre.length + 1 + s.length := by simp; omega
   rw [← hl1]
   refine b5q out (pre ++ [32]) s r ts (by rw [← e]; exact h) (by rw [e] at h; simp only [length_append, length_cons, length_nil] at h; omega) ?_
   rw [hl1, ← hl2, ← e, e3, ih, hl2, b2B]
   simp
theorem c0k {l : List Str} (ht : ∀ s ∈ l, Tok s) (h : (txt l).length ≤ 100000) : ∃ L, c4 T.rf (txt l) = some (L, 0, 0) ∧ Reads L 0 l ∧ L.length = l.length := by
 have fin : ∀ L : List m7, k12 T.rb (0, 0) [] (txt l) 0 = some (.inr ((0, 0), L)) → c4 T.rf (txt l) = some (L, 0, 0) := fun L hL => or4 (by
  simp only [r4, df (show ¬ (((txt l).length : Nat) : Int) > 100000 by omega), cond_false, hL, bind_some])
 cases l with
 | nil => exact ⟨[], fin _ (b8I [] [] [] (by simp) (by simp [J]) (by simp)), trivial, rfl⟩
 | cons s r =>
   have e : txt (s :: r) = s ++ J r := by simp [txt, J]
   have ts := ht s (by simp)
   rw [e] at h
   have ih := b8I r s [(p7 s, s, 0)] (fun x hx => ht x (List.mem_cons_of_mem _ hx)) h (by obtain ⟨c, r', rfl, _⟩ := b1F ts (b7s []) 0; simp)
   have := b5q [] [] s r ts (by simpa using h) (by simp) (z := .inr ((0, 0), [(p7 s, s, 0)] ++ b2B s.length r)) (by simpa using ih)
   simp only [List.nil_append, length_nil] at this
   rw [show ((0 : Nat) : Int) = (0 : Int) from rfl] at this
   rw [← e] at this
   obtain ⟨h1, h2⟩ := a8h r s.length
   exact ⟨_, fin _ this, ⟨⟨0, rfl⟩, a5e _ h1⟩, by simp [h2]⟩
theorem c6B : ∀ k, k < 28 → 4 ≤ k → k ≠ 27 → V4 (a4J.getD k ([], -1)).1 = true ∨ (a4J.getD k ([], -1)).1 ∈ a0x := by decide +kernel
theorem b1G {op : Int} (h : 4 ≤ op ∧ op ≤ 26) : Tok (opX op) := by
 have h1 : opX op = (a4J.getD op.toNat ([], -1)).1 := by unfold opX O7; rw [if_pos (by omega)]
 rw [h1]
 rcases c6B op.toNat (by omega) (by omega) (by omega) with g | g
 · exact .word g
 · exact .sign g
theorem b9R (n : Int) : Tok (a3l n) := by
 unfold a3l; split
 · exact .word (by decide +kernel)
 · exact .word (by decide +kernel)
def O1 (l : List Str) : Prop := ∀ s ∈ l, Tok s
theorem O1.app {a b : List Str} (h : O1 a) (k : O1 b) : O1 (a ++ b) := fun s hs => (List.mem_append.1 hs).elim (h s) (k s)
theorem O1.cons {a : Str} {b : List Str} (h : Tok a) (k : O1 b) : O1 (a :: b) := fun s hs => by
 rcases List.mem_cons.1 hs with rfl | hs
 · exact h
 · exact k s hs
theorem O1.nil : O1 [] := fun s hs => by cases hs
theorem O1.part {a : Int} {x : Int × List Str} (h : O1 x.2) : O1 (n8 a x) := by
 unfold n8; split
 · exact h
 · exact .cons (.sign (by decide)) (h.app (.cons (.sign (by decide)) .nil))
theorem b4c {b : Nd} (h : E8 b = true) (hne : b.2.2.2.2.2 ≠ []) : Tok b.2.2.2.2.2 := by
 rw [E8, Bool.or_eq_true] at h
 rcases h with h | h
 · exact absurd (eq_of_beq h) hne
 · exact .name h
theorem b9V {e : List Nd} : ∀ (m : Nat) (t : Tr) (i : Nat), t.size ≤ m → Emb e i t → Valid t → o5 t = true → O1 (j8 t) := by
 intro m
 induction m with
 | zero => intro t i h; have := t.size_pos; omega
 | succ m ih =>
   intro t i hm ht hv hn
   cases shape ht hv with
   | leaf h hx hN hs =>
     rename_i op a b c nn nm
     have hm2 := Z6 op
     rw [X8 h]
     refine .cons ?_ .nil
     rw [o5, and_eq_true] at hn
     split
     · exact .num (by omega)
     split
     · exact b9R _
     · exact b4c hn.1 (hs.2 (by omega))
   | call0 hx hN hs =>
     rw [o5, and_eq_true] at hn
     rw [R9]
     exact .cons (b4c hn.1 hs) (.cons (.sign (by decide)) (.cons (.sign (by decide)) .nil))
   | call1 hx hN hs hj ht1 hv1 ho =>
     rw [P1] at hm
     rw [o5, and_eq_true, j7, j7, Bool.and_true] at hn
     rw [S0]
     exact .cons (b4c hn.1 hs) (.cons (.sign (by decide)) ((ih _ _ (by omega) ht1 hv1 hn.2).app (.cons (.sign (by decide)) .nil)))
   | arg1 hx hN hs hj ht1 hv1 ho =>
     rw [P1] at hm
     rw [o5, and_eq_true, j7, j7, Bool.and_true] at hn
     rw [X6]
     exact ih _ _ (by omega) ht1 hv1 hn.2
   | arg2 hx hN hs hj ht1 hv1 ho hk hu hvu hou =>
     rw [Q1] at hm
     rw [o5, and_eq_true, j7, j7, j7, Bool.and_true, and_eq_true] at hn
     rw [X7]
     exact (ih _ _ (by omega) ht1 hv1 hn.2.1).app (.cons (.sign (by decide)) (ih _ _ (by omega) hu hvu hn.2.2))
   | ite hx hN hs hj ht1 hv1 ho hk hu hvu hou hl hw hvw how =>
     rw [b0x] at hm
     rw [o5, and_eq_true, j7, j7, j7, j7, Bool.and_true, and_eq_true, and_eq_true] at hn
     rw [a0T]
     exact .cons (b1G (by omega)) ((ih _ _ (by omega) ht1 hv1 hn.2.1).app (.cons (.word (by decide +kernel)) ((ih _ _ (by omega) hu hvu hn.2.2.1).app (.cons (.word (by decide +kernel)) (ih _ _ (by omega) hw hvw hn.2.2.2)))))
   | un h hx hN hs hj ht1 hv1 ho =>
     rename_i op b c nn nm j t1
     have hm2 := Z6 op
     rw [P1] at hm
     rw [o5, and_eq_true, j7, j7, Bool.and_true] at hn
     rw [a3b h]
     refine .cons (b1G (by omega)) (.app ?_ (.part (ih _ _ (by omega) ht1 hv1 hn.2)))
     split
     · exact .cons (.num (by omega)) .nil
     · exact .nil
   | bin h hx hN hs hj ht1 hv1 ho hk hu hvu hou =>
     rename_i op c nn nm j k t1 u1
     rw [Q1] at hm
     rw [o5, and_eq_true, j7, j7, j7, Bool.and_true, and_eq_true] at hn
     rw [a0S h]
     exact .app (.part (ih _ _ (by omega) ht1 hv1 hn.2.1)) (.cons (b1G (by omega)) (.part (ih _ _ (by omega) hu hvu hn.2.2)))
theorem b0u : ∀ (ks : List Tr) (o p : Nat), roots ks (o + p) = (roots ks o).map fun x => x + (p : Int)
 | [], _, _ => rfl
 | t :: r, o, p => by
   have := t.size_pos
   rw [roots, roots, List.map_cons, ← b0u r (o + t.size) p, show o + p + t.size = o + t.size + p by omega]
   congr 1
   omega
mutual
theorem b0S : ∀ (t : Tr) (o p : Nat), Valid t → o + p + t.size ≤ 1000000 → (flat t o).map (mv (p : Nat)) = flat t (o + p)
 | .mk b ks, o, p, ⟨h1, h2, h3, h4, h5, h6⟩, hs => by
   rw [Tr.size] at hs
   rw [flat, flat, List.map_append, b2p ks o p h6 (by omega), List.map_cons, List.map_nil]
   rw [c5B h1 (p : Int) (by omega) (roots ks o) (by rw [a0O]; exact h3) (fun x hx => by have := a2t ks o x hx; omega), b0u]
theorem b2p : ∀ (ks : List Tr) (o p : Nat), L9 ks → o + p + l7 ks ≤ 1000000 → (B2 ks o).map (mv (p : Nat)) = B2 ks (o + p)
 | [], _, _, _, _ => rfl
 | t :: r, o, p, ⟨h1, h2⟩, hs => by
   rw [l7] at hs
   rw [B2, B2, List.map_append, b0S t o p h1 (by omega), b2p r (o + t.size) p h2 (by omega), show o + p + t.size = o + t.size + p by omega]
end
theorem b4Y (t : Tr) (o : Nat) : flat t o ≠ [] := by
 intro h
 have := n6 t o
 have := t.size_pos
 rw [h] at *
 simp at *; omega
theorem a8a {op : Int} (hop : op ≠ 27) : ∀ (ts : List Tr) (o : List Nd) (ks : List Int) (l : Int), L9 ts → o.length + l7 ts ≤ 1000000 →
  T1 op (ts.map fun t => flat t 0) o ks l = some (o ++ B2 ts o.length, ks ++ roots ts o.length, l)
 | [], o, ks, l, _, _ => by simp [T1, B2, roots]
 | t :: r, o, ks, l, ⟨h1, h2⟩, hs => by
   rw [l7] at hs
   have hp := t.size_pos
   have e1 : (flat t 0).map (mv (o.length : Nat)) = flat t o.length := by have := b0S t 0 o.length h1 (by omega); rwa [Nat.zero_add] at this
   have el : (o ++ flat t o.length).length = o.length + t.size := by rw [length_append, n6]
   rw [List.map_cons, T1, if_neg (b4Y t 0)]
   simp only [if_neg hop, e1]
   rw [a8a hop r _ _ _ h2 (by rw [el]; omega), el, B2, roots]
   congr 2
   · simp
   · rw [List.append_assoc]
     congr 2
     rw [List.singleton_append]
     congr 1
     omega
theorem Q9 {op n : Int} {nm : List UInt8} {ts : List Tr} (h27 : op ≠ 27) (h28 : op ≠ 28) (hk : (kids (op, -1, -1, -1, n, nm)).length = ts.length) (hv : L9 ts) (hs : l7 ts ≤ 1000000) :
  join op n nm (ts.map fun t => flat t 0) = flat (.mk (op, -1, -1, -1, n, nm) ts) 0 := by
 unfold join
 rw [if_neg h28, if_neg (fun h => h.2 (by rw [hk, List.length_map])), a8a h27 ts [] [] (-1) hv (by simp only [length_nil]; omega)]
 simp only [b2y, if_neg h27, List.nil_append, length_nil]
 rw [flat]
def chn : List Tr → List Tr → List Tr
 | acc, [] => acc
 | acc, u :: r => chn [.mk (28, -1, -1, -1, 0, []) (acc ++ [u])] r
def a0z (nm : List UInt8) (ts : List Tr) : Tr := .mk (27, -1, -1, -1, 0, nm) (chn [] ts)
theorem a7Z : ∀ (ts : List Tr) (acc : List Tr) (ks : List Int), L9 ts → acc.length ≤ 1 → l7 acc + l7 ts + ts.length ≤ 1000000 →
  ∃ ks', T1 27 (ts.map fun t => flat t 0) (B2 acc 0) ks (if acc = [] then -1 else (l7 acc : Int) - 1) = some (B2 (chn acc ts) 0, ks', if chn acc ts = [] then -1 else (l7 (chn acc ts) : Int) - 1)
 | [], acc, ks, _, _, _ => ⟨ks, by rw [List.map_nil, T1, chn]⟩
 | u :: r, acc, ks, ⟨hu, hr⟩, hl, hs => by
   rw [l7, length_cons] at hs
   have hp := u.size_pos
   have el := X1 acc 0
   have e1 : (flat u 0).map (mv (((B2 acc 0).length : Nat) : Int)) = flat u (l7 acc) := by rw [el]; have := b0S u 0 (l7 acc) hu (by omega); rwa [Nat.zero_add] at this
   have eo : B2 acc 0 ++ flat u (l7 acc) = B2 (acc ++ [u]) 0 := by
    match acc, hl with
    | [], _ => simp [B2, l7]
    | [c], _ => simp [B2, l7]
   have elen : (B2 (acc ++ [u]) 0).length = l7 acc + u.size := by rw [← eo, length_append, el, n6]
   have en : B2 (acc ++ [u]) 0 ++ [((28 : Int), ((l7 acc + u.size : Nat) : Int) - 1, (if acc = [] then (-1 : Int) else (l7 acc : Int) - 1), (-1 : Int), (0 : Int), ([] : List UInt8))] = B2 [.mk (28, -1, -1, -1, 0, []) (acc ++ [u])] 0 := by
    rw [B2, B2, List.append_nil, flat]
    congr 1
    match acc, hl with
    | [], _ =>
      have q : ((0 + u.size : Nat) : Int) - 1 = ((0 + u.size - 1 : Nat) : Int) := by omega
      simp only [List.nil_append, roots, aim, l7, if_true, q]
    | [c], _ =>
      have := c.size_pos
      have q : ((c.size + 0 + u.size : Nat) : Int) - 1 = ((0 + c.size + u.size - 1 : Nat) : Int) := by omega
      have q2 : ((c.size + 0 : Nat) : Int) - 1 = ((0 + c.size - 1 : Nat) : Int) := by omega
      simp only [List.singleton_append, roots, aim, l7, if_true, if_neg (show ¬ ([c] : List Tr) = [] by simp), q, q2]
   have hsz : l7 [Tr.mk (28, -1, -1, -1, 0, []) (acc ++ [u])] = l7 acc + u.size + 1 := by
    match acc, hl with
    | [], _ => simp [l7, Tr.size]
    | [c], _ => simp [l7, Tr.size]
   rw [List.map_cons, T1, if_neg (b4Y u 0)]
   simp only [if_true, e1]
   rw [eo, elen, en]
   obtain ⟨ks', hk⟩ := a7Z r [.mk (28, -1, -1, -1, 0, []) (acc ++ [u])] (ks ++ [((l7 acc + u.size : Nat) : Int) - 1]) hr (by simp) (by rw [hsz]; omega)
   rw [if_neg (by simp), hsz] at hk
   refine ⟨ks', ?_⟩
   rw [chn, ← hk]
   congr 1
   omega
theorem b4Q : ∀ (ts acc : List Tr), acc.length ≤ 1 → (chn acc ts).length ≤ 1
 | [], acc, h => h
 | u :: r, acc, h => b4Q r _ (by simp)
theorem b6z {nm : List UInt8} {ts : List Tr} (hv : L9 ts) (hs : l7 ts + ts.length ≤ 1000000) :
  join 27 0 nm (ts.map fun t => flat t 0) = flat (a0z nm ts) 0 := by
 obtain ⟨ks', h⟩ := a7Z ts [] [] hv (by simp) (by simp only [l7]; omega)
 simp only [B2, if_true] at h
 unfold join
 rw [if_neg (by decide), if_neg (fun h => h.1 rfl), h]
 simp only [b2y, if_true]
 rw [a0z, flat]
 congr 1
 generalize hc : chn [] ts = c at *
 have hc1 := b4Q ts [] (by simp)
 rw [hc] at hc1
 match c, hc1 with
 | [], _ => simp [roots, aim]
 | [c], _ =>
   have := c.size_pos
   simp only [if_neg (show ¬ ([c] : List Tr) = [] by simp), roots, l7]
   rw [if_neg (by omega)]
   congr 3
   omega
end Go.Proofs.YtlobhcgbmpcdlaaGreatDoor.R
end
