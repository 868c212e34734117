import Derived.Test.YtlobhcgbmpcdlaaGreatDoorTreX
import Derived.Test.YtlobhcgbmpcdlaaGreatDoorBmF
open Option (bind_some)
open List (length_append length_cons length_nil)
open Bool (and_eq_true)
section
namespace Go.Proofs.YtlobhcgbmpcdlaaGreatDoor.R
open Go Go.Bm Go.Proofs
set_option linter.unusedVariables false
set_option linter.unusedSimpArgs false
set_option maxRecDepth 4000
def a1B (s : List UInt8) : Bool := decide (s ∈ o7)
theorem b3F : ∀ s : List UInt8, ltB s s = false
 | [] => rfl
 | a :: s => by
   have : ¬ a < a := by simp
   simp only [ltB, df this, b3F s, Bool.and_false, Bool.or_false]
theorem a4w : ∀ {a b c : List UInt8}, ltB a b = true → ltB b c = true → ltB a c = true
 | a, [], c, h, _ => by
   have : ltB a [] = false := by cases a <;> rfl
   rw [this] at h; cases h
 | a, y :: b, [], _, h => by cases h
 | [], y :: b, z :: c, _, _ => rfl
 | x :: a, y :: b, z :: c, h, k => by
   simp only [ltB, Bool.or_eq_true, and_eq_true, decide_eq_true_eq, beq_iff_eq] at *
   rcases h with h | ⟨rfl, h⟩
   · rcases k with k | ⟨rfl, k⟩
     · exact .inl (UInt8.lt_trans h k)
     · exact .inl h
   · rcases k with k | ⟨rfl, k⟩
     · exact .inl k
     · exact .inr ⟨rfl, a4w h k⟩
theorem a0n : ∀ i, i < 35 → ∀ m, m < 35 → i < m → ltB (o7.getD i []) (o7.getD m []) = true := by decide +kernel
theorem H8 : o7.length = 35 := by decide +kernel
theorem a9o {m : Nat} (h : m < 35) : nth o7 m = some (o7.getD m []) := by
 rw [nth_getElem?, List.getD_eq_getElem?_getD, List.getElem?_eq_getElem (by rw [H8]; exact h)]; rfl
theorem b6y (a b : List UInt8) : c73 T.rf a b = some (ltB a b) := d5R (by
 have h : ∀ x : List UInt8, c74 T.rf x = some false := fun x => d5S (by simp [r74])
 simp only [r73, h, bind_some, cond_false])
theorem b9W {i j : Nat} (h : i + j ≤ 100) : IntKind.i64.wrap (b0b IntKind.u64 (IntKind.u64.wrap (IntKind.i64.wrap ((i : Int) + (j : Int)))) 1) = (((i + j) / 2 : Nat) : Int) := by
 have h0 : IntKind.i64.wrap ((i : Int) + (j : Int)) = (i : Int) + (j : Int) := wr (by omega)
 have h1 : IntKind.u64.wrap ((i : Int) + (j : Int)) = (i : Int) + (j : Int) := IntWalk.u64_in _ (by omega)
 rw [h0, h1]
 have h2 : b0b IntKind.u64 ((i : Int) + (j : Int)) 1 = (((i + j) / 2 : Nat) : Int) := by
  unfold b0b
  have : (min (1 : Int).toNat IntKind.u64.bits) = 1 := by decide
  rw [this]
  have : (2 : Int) ^ 1 = 2 := by decide
  rw [this, Int.fdiv_eq_ediv_of_nonneg _ (by omega)]
  omega
 rw [h2, wr (by omega)]
theorem b1C (s : List UInt8) : ∀ (f i j : Nat), j - i ≤ f → i ≤ j → j ≤ 35 → (∀ k, k < i → ltB (o7.getD k []) s = true) → (∀ k, j ≤ k → k < 35 → ltB (o7.getD k []) s = false) →
  ∃ m : Nat, m ≤ 35 ∧ k71 T.rb o7 s (i : Nat) (j : Nat) = some (m : Int) ∧ (∀ k, k < m → ltB (o7.getD k []) s = true) ∧ (∀ k, m ≤ k → k < 35 → ltB (o7.getD k []) s = false) := by
 intro f
 induction f with
 | zero =>
   intro i j h1 h2 h3 h4 h5
   have : i = j := by omega
   subst this
   exact ⟨i, h3, c0y (by simp only [b71, o6, cond_false]), h4, h5⟩
 | succ f ih =>
   intro i j h1 h2 h3 h4 h5
   by_cases hij : i < j
   case neg =>
    have : i = j := by omega
    subst this
    exact ⟨i, h3, c0y (by simp only [b71, o6, cond_false]), h4, h5⟩
   have hm : (i + j) / 2 < 35 := by omega
   have step : b71 T.rf T.rb o7 s (i : Nat) (j : Nat) = bif ltB (o7.getD ((i + j) / 2) []) s then k71 T.rb o7 s (((i + j) / 2 + 1 : Nat) : Int) (j : Nat) else k71 T.rb o7 s (i : Nat) (((i + j) / 2 : Nat) : Int) := by
    have e1 : decide (((i : Nat) : Int) < ((j : Nat) : Int)) = true := dt (by omega)
    have e2 : inb ((((i + j) / 2 : Nat)) : Int) o7.length = true := D1 (by omega) (by rw [H8]; omega)
    simp only [b71, e1, cond_true, b9W (show i + j ≤ 100 by omega), e2, Int.toNat_natCast, a9o hm, bind_some, b6y, L1 (show (i + j) / 2 < 4611686018427387904 by omega)]
   cases hc : ltB (o7.getD ((i + j) / 2) []) s with
   | true =>
     obtain ⟨m, k1, k2, k3, k4⟩ := ih ((i + j) / 2 + 1) j (by omega) (by omega) h3 (fun k hk => by
      rcases Nat.lt_or_ge k ((i + j) / 2) with g | g
      · by_cases hki : k < i
        · exact h4 k hki
        · cases hck : ltB (o7.getD k []) s with
          | true => rfl
          | false =>
            exact absurd hck (by
             have hs := a0n k (by omega) ((i + j) / 2) hm g
             intro hck
             exact absurd (a4w hs hc) (by rw [hck]; decide))
      · have : k = (i + j) / 2 := by omega
        subst this; exact hc) h5
     exact ⟨m, k1, c0y (by rw [step, hc, cond_true]; exact k2), k3, k4⟩
   | false =>
     obtain ⟨m, k1, k2, k3, k4⟩ := ih i ((i + j) / 2) (by omega) (by omega) (by omega) h4 (fun k hk hk2 => by
      rcases Nat.lt_or_ge ((i + j) / 2) k with g | g
      · cases hck : ltB (o7.getD k []) s with
        | false => rfl
        | true =>
          have hs := a0n ((i + j) / 2) hm k hk2 g
          exact absurd (a4w hs hck) (by rw [hc]; decide)
      · have : k = (i + j) / 2 := by omega
        subst this; exact hc)
     exact ⟨m, k1, c0y (by rw [step, hc, cond_false]; exact k2), k3, k4⟩
theorem b4U (s : List UInt8) : c71 T.rf s = some (a1B s) := d5Q (by
 have hn : ∀ x : List UInt8, c75 T.rf x = some false := fun x => d5T (by simp [r75])
 obtain ⟨m, h1, h2, h3, h4⟩ := b1C s 35 0 35 (by omega) (by omega) (by omega) (fun k hk => by omega) (fun k h1 h2 => by omega)
 have h2' : k71 T.rb o7 s 0 (((o7.length : Nat) : Int)) = some (m : Int) := by rw [H8]; exact h2
 have hb : ∃ x, c72 T.rf o7 s = some (x, a1B s) := by
  have key : a1B s = decide (m < 35 ∧ o7.getD m [] = s) := by
   unfold a1B
   apply decide_eq_decide.2
   constructor
   · intro hs
     obtain ⟨k, hk⟩ := List.mem_iff_getElem?.1 hs
     have hk35 : k < 35 := by have := (List.getElem?_eq_some_iff.1 hk).1; rwa [H8] at this
     have hks : o7.getD k [] = s := by rw [List.getD_eq_getElem?_getD, hk]; rfl
     have : m = k := by
      rcases Nat.lt_trichotomy m k with g | g | g
      · have a1 := a0n m (by omega) k hk35 g
        rw [hks, h4 m (Nat.le_refl _) (by omega)] at a1; cases a1
      · exact g
      · have a1 := h3 k g
        rw [hks, b3F] at a1; cases a1
     subst this
     exact ⟨hk35, hks⟩
   · rintro ⟨g1, g2⟩
     rw [← g2, List.getD_eq_getElem?_getD, List.getElem?_eq_getElem (by rw [H8]; exact g1)]
     exact List.getElem_mem _
  by_cases hm : m < 35
  · have e1 : decide (((m : Nat) : Int) < ((o7.length : Nat) : Int)) = true := dt (by rw [H8]; omega)
    have e2 : inb ((m : Nat) : Int) o7.length = true := D1 (by omega) (by rw [H8]; omega)
    refine ⟨m, d1W ?_⟩
    rw [key]
    simp only [r72, h2', bind_some, e1, cond_true, e2, Int.toNat_natCast, a9o hm, hn, cond_false]
    cases hc : o7.getD m [] == s with
    | true => rw [dt ⟨hm, eq_of_beq hc⟩]; rfl
    | false => rw [df (fun g => by rw [g.2, beq_self_eq_true] at hc; cases hc)]; rfl
  · have e1 : decide (((m : Nat) : Int) < ((o7.length : Nat) : Int)) = false := df (by rw [H8]; omega)
    refine ⟨m, d1W ?_⟩
    rw [key, df (fun g => hm g.1)]
    simp only [r72, h2', bind_some, e1, cond_false]
 obtain ⟨x, hx⟩ := hb
 simp only [r71, hx, bind_some])
theorem a1o (s : List UInt8) : ∀ (suf pre : List (List UInt8)), pre.length + suf.length ≤ 100 →
  ∃ z, k9 T.rb (pre ++ suf) s (pre.length : Nat) = some z ∧ ((s ∈ suf ∧ ∃ u, z = .inl (u, true)) ∨ (s ∉ suf ∧ ∃ u, z = .inr u))
 | [], pre, h => ⟨.inr pre, ob9 (by simp only [b9, l8, o6, List.append_nil, cond_false]), .inr ⟨by simp, _, rfl⟩⟩
 | x :: suf, pre, h => by
   simp only [length_cons] at h
   obtain ⟨z, h1, h2⟩ := a1o s suf (pre ++ [x]) (by simp; omega)
   simp only [List.append_assoc, List.singleton_append] at h1
   by_cases hx : x = s
   · exact ⟨_, ob9 (by
      simp only [b9, j6, e8, e9, cond_true, bind_some, beq_iff_eq.2 hx]
      rfl), .inl ⟨by simp [hx], _, rfl⟩⟩
   · refine ⟨z, ob9 (by
      simp only [b9, j6, e8, e9, cond_true, bind_some, beq_eq_false_iff_ne.2 hx, cond_false, j7 pre x (by omega)]
      exact h1), ?_⟩
     rcases h2 with ⟨g1, g2⟩ | ⟨g1, g2⟩
     · exact .inl ⟨List.mem_cons_of_mem _ g1, g2⟩
     · exact .inr ⟨by simp only [List.mem_cons, not_or]; exact ⟨fun e => hx e.symm, g1⟩, g2⟩
theorem b1u : c11 T.rf = some o7 := d5o rfl
theorem a9Y (s : List UInt8) : c10 T.rf s = some (a1B s) := d5n (by
 obtain ⟨z, h1, h2⟩ := a1o s o7 [] (by rw [H8]; decide)
 simp only [List.nil_append, length_nil] at h1
 rw [show ((0 : Nat) : Int) = (0 : Int) from rfl] at h1
 simp only [r10, b1u, bind_some, h1, a1B]
 rcases h2 with ⟨g, u, rfl⟩ | ⟨g, u, rfl⟩
 · rw [dt g]
 · rw [df g])
def a9I (c : UInt8) : Bool := decide (97 ≤ c.toNat ∧ c.toNat ≤ 122) || decide (c.toNat = 95)
def a6p (c : UInt8) : Bool := decide (48 ≤ c.toNat ∧ c.toNat ≤ 57)
theorem b1g (c : UInt8) : P4 c = (a9I c || a6p c) := by
 unfold P4 a9I a6p
 rw [Bool.eq_iff_iff]
 simp only [Bool.or_eq_true, and_eq_true, decide_eq_true_eq, Nat.ble_eq, Nat.beq_eq]
theorem c0r {c : UInt8} (h : P4 c = true) : a9I c = !(a6p c) := by
 rw [b1g] at h
 unfold a9I a6p at *
 rw [Bool.eq_iff_iff]
 simp only [Bool.or_eq_true, decide_eq_true_eq, Bool.not_eq_true', decide_eq_false_iff_not] at *
 omega
theorem b1v : ∀ s : List UInt8, (a1t s == s) = s.all P4
 | [] => rfl
 | c :: s => by
   cases h : P4 c with
   | true =>
     simp only [a1t, h, cond_true, List.all_cons, Bool.true_and]
     rw [← b1v s]
     show (c == c && a1t s == s) = _
     rw [beq_self_eq_true, Bool.true_and]
   | false =>
     simp only [a1t, h, cond_false, List.all_cons, Bool.false_and]
     rfl
def o5 (s : List UInt8) : Bool := decide (s ≠ []) && (decide (s.length ≤ 40) && (s.all P4 && (a9I (s.headD 0) && !(a1B s))))
theorem c6v (s : List UInt8) : c69 T.rf s = some (a1t s) := d5O rfl
theorem b2m (c : UInt8) : c70 T.rf (((c.toNat : Nat) : Int)) = some (a6p c) := d5P (by
 unfold a6p
 by_cases h1 : 48 ≤ c.toNat
 · by_cases h2 : c.toNat ≤ 57
   · simp only [r70, dt (show ((c.toNat : Nat) : Int) ≥ 48 by omega), dt (show ((c.toNat : Nat) : Int) ≤ 57 by omega), dt (show 48 ≤ c.toNat ∧ c.toNat ≤ 57 from ⟨h1, h2⟩), cond_true]
   · simp only [r70, dt (show ((c.toNat : Nat) : Int) ≥ 48 by omega), df (show ¬ ((c.toNat : Nat) : Int) ≤ 57 by omega), df (show ¬ (48 ≤ c.toNat ∧ c.toNat ≤ 57) from fun h => h2 h.2), cond_true]
 · simp only [r70, df (show ¬ ((c.toNat : Nat) : Int) ≥ 48 by omega), df (show ¬ (48 ≤ c.toNat ∧ c.toNat ≤ 57) from fun h => h1 h.1), cond_false])
theorem Q6 (s : List UInt8) : c68 T.rf s = some (o5 s) := d5N (by
 unfold o5
 cases s with
 | nil => rfl
 | cons c r =>
   have e1 : ((c :: r) == ([] : List UInt8)) = false := rfl
   have e2 : IntKind.i32.wrap (((c.toNat : Nat) : Int)) = ((c.toNat : Nat) : Int) := IntWalk.i32_in _ (by have := c.toNat_lt; omega)
   have e3 : inb 0 (c :: r).length = true := D1 (by omega) (by simp only [length_cons]; omega)
   have e4 : nth (c :: r) 0 = some c := rfl
   simp only [r68, e1, Bool.not_false, cond_true, c6v, bind_some, b1v, e3, e4, e2, b2m, b4U, dt (show (c :: r) ≠ [] by simp), Bool.true_and, List.headD_cons]
   by_cases hl : (c :: r).length ≤ 40
   case neg => rw [df (by omega), df hl]; rfl
   rw [dt (by omega), dt hl, cond_true, Bool.true_and]
   cases ha : (c :: r).all P4 with
   | false => rfl
   | true =>
     have hc : P4 c = true := by simp only [List.all_cons, and_eq_true] at ha; exact ha.1
     rw [cond_true, c0r hc, Bool.true_and]
     cases a6p c <;> rfl)
theorem a3E (c : UInt8) : c8 T.rf (((c.toNat : Nat) : Int)) = some (a9I c) := or8 (by
 unfold a9I
 have hb : ((((c.toNat : Nat) : Int)) == 95) = decide (c.toNat = 95) := by
  by_cases h : c.toNat = 95
  · rw [bt (by omega), dt h]
  · rw [bf (by omega), df h]
 by_cases h1 : 97 ≤ c.toNat
 · by_cases h2 : c.toNat ≤ 122
   · simp only [r8, dt (show ((c.toNat : Nat) : Int) ≥ 97 by omega), dt (show ((c.toNat : Nat) : Int) ≤ 122 by omega), dt (show 97 ≤ c.toNat ∧ c.toNat ≤ 122 from ⟨h1, h2⟩), cond_true, Bool.true_or]
   · simp only [r8, dt (show ((c.toNat : Nat) : Int) ≥ 97 by omega), df (show ¬ ((c.toNat : Nat) : Int) ≤ 122 by omega), df (show ¬ (97 ≤ c.toNat ∧ c.toNat ≤ 122) from fun h => h2 h.2), cond_true, cond_false, hb, Bool.false_or]
 · simp only [r8, df (show ¬ ((c.toNat : Nat) : Int) ≥ 97 by omega), df (show ¬ (97 ≤ c.toNat ∧ c.toNat ≤ 122) from fun h => h1 h.1), cond_false, hb, Bool.false_or])
theorem b1p (c : UInt8) : c6 T.rf (((c.toNat : Nat) : Int)) = some (a6p c) := or6 (by
 unfold a6p
 by_cases h1 : 48 ≤ c.toNat
 · by_cases h2 : c.toNat ≤ 57
   · simp only [r6, dt (show ((c.toNat : Nat) : Int) ≥ 48 by omega), dt (show ((c.toNat : Nat) : Int) ≤ 57 by omega), dt (show 48 ≤ c.toNat ∧ c.toNat ≤ 57 from ⟨h1, h2⟩), cond_true]
   · simp only [r6, dt (show ((c.toNat : Nat) : Int) ≥ 48 by omega), df (show ¬ ((c.toNat : Nat) : Int) ≤ 57 by omega), df (show ¬ (48 ≤ c.toNat ∧ c.toNat ≤ 57) from fun h => h2 h.2), cond_true]
 · simp only [r6, df (show ¬ ((c.toNat : Nat) : Int) ≥ 48 by omega), df (show ¬ (48 ≤ c.toNat ∧ c.toNat ≤ 57) from fun h => h1 h.1), cond_false])
theorem a1n : ∀ (suf pre : List UInt8), pre.length + suf.length ≤ 100 →
  k10 T.rb (pre ++ suf) (pre.length : Nat) = some (if suf.all P4 = true then .inr () else .inl false)
 | [], pre, h => d0B (by simp only [b10, l8, o6, List.append_nil, cond_false, List.all_nil, if_true])
 | x :: suf, pre, h => d0B (by
   simp only [length_cons] at h
   have ih := a1n suf (pre ++ [x]) (by simp; omega)
   simp only [List.append_assoc, List.singleton_append] at ih
   simp only [b10, j6, e8, e9, cond_true, bind_some, a3E, b1p, j7 pre x (by omega), ih, List.all_cons, b1g]
   cases a9I x <;> cases a6p x <;> simp)
theorem H6 (s : List UInt8) : c12 T.rf s = some (o5 s) := d5p (by
 unfold o5
 cases s with
 | nil => rfl
 | cons c r =>
   have e1 : ((c :: r) == ([] : List UInt8)) = false := rfl
   have e3 : inb 0 (c :: r).length = true := D1 (by omega) (by simp only [length_cons]; omega)
   have e4 : nth (c :: r) 0 = some c := rfl
   by_cases hl : (c :: r).length ≤ 40
   case neg =>
    simp only [r12, e1, cond_false, dt (show (((c :: r).length : Nat) : Int) > 40 by omega), cond_true, df hl, Bool.false_and, Bool.and_false]
   have hloop := a1n (c :: r) [] (by simp only [length_nil]; omega)
   simp only [List.nil_append, length_nil] at hloop
   rw [show ((0 : Nat) : Int) = (0 : Int) from rfl] at hloop
   simp only [r12, e1, cond_false, df (show ¬ (((c :: r).length : Nat) : Int) > 40 by omega), e3, cond_true, e4, bind_some, a3E, a9Y, hloop, dt hl, dt (show (c :: r) ≠ [] by simp), Bool.true_and, List.headD_cons]
   cases a9I c <;> cases a1B (c :: r) <;> cases (c :: r).all P4 <;> rfl)
def a7f : List (List UInt8 × Int) := [([], -1), ([], 10), ([], 10), ([], 10), ([110, 111, 116], 9), ([45], 9), ([97, 110, 100], 5), ([111, 114], 4), ([120, 111, 114], 4), ([61, 62], 2), ([61], 6), ([60, 62], 6), ([60], 6), ([60, 61], 6), ([43], 7), ([45], 7), ([42], 8), ([100, 105, 118], 8), ([109, 111, 100], 8), ([45, 62], 1), ([115, 105, 110, 99, 101], 3), ([112, 114, 101], 9), ([111, 110, 99, 101], 9), ([104, 105, 115, 116], 9), ([112, 114, 101, 118], 9), ([119, 105, 116, 104, 105, 110], 9), ([105, 102], 0), ([], 10)]
def D2 (op : Int) : List UInt8 × Int := if 0 ≤ op ∧ op < 28 then a7f.getD op.toNat ([], -1) else ([], -1)
theorem of_eq (op : Int) : b9v T.rf op = some (D2 op) := d1g (by
 unfold D2
 by_cases h1 : op < 0
 · simp only [b5k, dt h1, cond_true, if_neg (show ¬ (0 ≤ op ∧ op < 28) by omega)]
 by_cases h2 : op ≥ 28
 · simp only [b5k, df h1, dt h2, cond_true, cond_false, if_neg (show ¬ (0 ≤ op ∧ op < 28) by omega)]
 have e : inb op 28 = true := D1 (by omega) (by omega)
 have marks_eq := d1h rfl
 simp only [b5k, df h1, df h2, cond_false, marks_eq, bind_some, e, cond_true, if_pos (show 0 ≤ op ∧ op < 28 by omega)]
 have hk : op.toNat < 28 := by omega
 have : nth a7f op.toNat = some (a7f.getD op.toNat ([], -1)) := by
  rw [nth_getElem?, List.getD_eq_getElem?_getD, List.getElem?_eq_getElem (show op.toNat < a7f.length from hk)]; rfl
 show (nth a7f op.toNat).bind _ = _
 rw [this]; rfl)
theorem b7p (op : Int) : c5H T.rf op = some (D2 op).2 := d1n (by simp only [c0X, of_eq, bind_some])
theorem d0O : ∀ k, k < 27 → nth [([] : List UInt8), ([] : List UInt8), ([] : List UInt8), ([] : List UInt8), ([110, 111, 116] : List UInt8), ([45] : List UInt8), ([97, 110, 100] : List UInt8), ([111, 114] : List UInt8), ([120, 111, 114] : List UInt8), ([61, 62] : List UInt8), ([61] : List UInt8), ([60, 62] : List UInt8), ([60] : List UInt8), ([60, 61] : List UInt8), ([43] : List UInt8), ([45] : List UInt8), ([42] : List UInt8), ([100, 105, 118] : List UInt8), ([109, 111, 100] : List UInt8), ([45, 62] : List UInt8), ([115, 105, 110, 99, 101] : List UInt8), ([112, 114, 101] : List UInt8), ([111, 110, 99, 101] : List UInt8), ([104, 105, 115, 116] : List UInt8), ([112, 114, 101, 118] : List UInt8), ([119, 105, 116, 104, 105, 110] : List UInt8), ([105, 102] : List UInt8)] k = some (a7f.getD k ([], -1)).1 := by decide +kernel
theorem d0y : ∀ k, k < 28 → nth [(-1 : Int), 10, 10, 10, 9, 9, 5, 4, 4, 2, 6, 6, 6, 6, 7, 7, 8, 8, 8, 1, 3, 9, 9, 9, 9, 9, 0, 10] k = some (a7f.getD k ([], -1)).2 := by decide +kernel
theorem b1q (op : Int) : b2c T.rf op = some (D2 op).1 := d1T (by
 unfold D2
 by_cases h1 : op < 0
 · simp only [b5o, dt h1, cond_true, if_neg (show ¬ (0 ≤ op ∧ op < 28) by omega)]
 by_cases h2 : op ≥ 27
 · by_cases h3 : op = 27
   · subst h3; rfl
   · simp only [b5o, df h1, dt h2, cond_true, cond_false, if_neg (show ¬ (0 ≤ op ∧ op < 28) by omega)]
 have e : inb op 27 = true := D1 (by omega) (by omega)
 simp only [b5o, df h1, df h2, cond_false, e, cond_true, if_pos (show 0 ≤ op ∧ op < 28 by omega), d0O op.toNat (by omega), bind_some])
theorem a1p (op : Int) : b9K T.rf op = some (D2 op).2 := d1S (by
 unfold D2
 by_cases h1 : op < 0
 · simp only [b5n, dt h1, cond_true, if_neg (show ¬ (0 ≤ op ∧ op < 28) by omega)]
 by_cases h2 : op ≥ 28
 · simp only [b5n, df h1, dt h2, cond_true, cond_false, if_neg (show ¬ (0 ≤ op ∧ op < 28) by omega)]
 have e : inb op 28 = true := D1 (by omega) (by omega)
 simp only [b5n, df h1, df h2, cond_false, e, cond_true, if_pos (show 0 ≤ op ∧ op < 28 by omega), d0y op.toNat (by omega), bind_some])
inductive Shp (e : List Nd) (i : Nat) : Tr → Prop
 | leaf {op a b c nn : Int} {nm : List UInt8} (h : op = 1 ∨ op = 2 ∨ op = 3) (hn : nth e i = some (op, a, b, c, nn, nm)) (hN : 0 ≤ nn ∧ nn ≤ V0 op) (hs : nm ≠ [] ↔ op = 3) : Shp e i (.mk (op, -1, -1, -1, nn, nm) [])
 | call0 {b c nn : Int} {nm : List UInt8} (hn : nth e i = some (27, -1, b, c, nn, nm)) (hN : nn = 0) (hs : nm ≠ []) : Shp e i (.mk (27, -1, -1, -1, nn, nm) [])
 | call1 {b c nn : Int} {nm : List UInt8} {j : Nat} {t : Tr} (hn : nth e i = some (27, (j : Int), b, c, nn, nm)) (hN : nn = 0) (hs : nm ≠ []) (hj : j < i) (ht : Emb e j t) (hv : Valid t) (ho : t.op = 28) : Shp e i (.mk (27, -1, -1, -1, nn, nm) [t])
 | arg1 {c nn : Int} {nm : List UInt8} {j : Nat} {t : Tr} (hn : nth e i = some (28, (j : Int), -1, c, nn, nm)) (hN : nn = 0) (hs : nm = []) (hj : j < i) (ht : Emb e j t) (hv : Valid t) (ho : t.op ≠ 28) : Shp e i (.mk (28, -1, -1, -1, nn, nm) [t])
 | arg2 {c nn : Int} {nm : List UInt8} {j k : Nat} {t u : Tr} (hn : nth e i = some (28, (k : Int), (j : Int), c, nn, nm)) (hN : nn = 0) (hs : nm = []) (hj : j < i) (ht : Emb e j t) (hv : Valid t) (ho : t.op = 28) (hk : k < i) (hu : Emb e k u) (hvu : Valid u) (hou : u.op ≠ 28) : Shp e i (.mk (28, -1, -1, -1, nn, nm) [t, u])
 | ite {nn : Int} {nm : List UInt8} {j k l : Nat} {t u v : Tr} (hn : nth e i = some (26, (j : Int), (k : Int), (l : Int), nn, nm)) (hN : nn = 0) (hs : nm = []) (hj : j < i) (ht : Emb e j t) (hv : Valid t) (ho : t.op ≠ 28) (hk : k < i) (hu : Emb e k u) (hvu : Valid u) (hou : u.op ≠ 28) (hl : l < i) (hw : Emb e l v) (hvw : Valid v) (how : v.op ≠ 28) : Shp e i (.mk (26, -1, -1, -1, nn, nm) [t, u, v])
 | un {op b c nn : Int} {nm : List UInt8} {j : Nat} {t : Tr} (h : op = 4 ∨ op = 5 ∨ op = 21 ∨ op = 22 ∨ op = 23 ∨ op = 24 ∨ op = 25) (hn : nth e i = some (op, (j : Int), b, c, nn, nm)) (hN : 0 ≤ nn ∧ nn ≤ V0 op) (hs : nm = []) (hj : j < i) (ht : Emb e j t) (hv : Valid t) (ho : t.op ≠ 28) : Shp e i (.mk (op, -1, -1, -1, nn, nm) [t])
 | bin {op c nn : Int} {nm : List UInt8} {j k : Nat} {t u : Tr} (h : 6 ≤ op ∧ op ≤ 20) (hn : nth e i = some (op, (j : Int), (k : Int), c, nn, nm)) (hN : nn = 0) (hs : nm = []) (hj : j < i) (ht : Emb e j t) (hv : Valid t) (ho : t.op ≠ 28) (hk : k < i) (hu : Emb e k u) (hvu : Valid u) (hou : u.op ≠ 28) : Shp e i (.mk (op, -1, -1, -1, nn, nm) [t, u])
theorem b6B {e : List Nd} {i : Nat} {ks : List Tr} (h : I6 e i [] ks) : ks = [] := by
 cases ks with
 | nil => rfl
 | cons => exact h.elim
theorem b3m {e : List Nd} {i : Nat} {x : Int} {ks : List Tr} (h : I6 e i [x] ks) : ∃ (j : Nat) (t : Tr), x = (j : Int) ∧ ks = [t] ∧ j < i ∧ Emb e j t := by
 cases ks with
 | nil => exact h.elim
 | cons t r =>
   obtain ⟨h1, h2, h3, h4⟩ := h
   have := b6B h4; subst this
   exact ⟨x.toNat, t, by omega, rfl, by omega, h3⟩
theorem b6C {e : List Nd} {i : Nat} {x y : Int} {ks : List Tr} (h : I6 e i [x, y] ks) : ∃ (j : Nat) (t : Tr) (k : Nat) (u : Tr), x = (j : Int) ∧ y = (k : Int) ∧ ks = [t, u] ∧ j < i ∧ Emb e j t ∧ k < i ∧ Emb e k u := by
 cases ks with
 | nil => exact h.elim
 | cons t r =>
   obtain ⟨h1, h2, h3, h4⟩ := h
   obtain ⟨k, u, e1, e2, e3, e4⟩ := b3m h4
   subst e2
   exact ⟨x.toNat, t, k, u, by omega, e1, rfl, by omega, h3, e3, e4⟩
theorem c7v {e : List Nd} {i : Nat} {x y z : Int} {ks : List Tr} (h : I6 e i [x, y, z] ks) : ∃ (j : Nat) (t : Tr) (k : Nat) (u : Tr) (l : Nat) (v : Tr), x = (j : Int) ∧ y = (k : Int) ∧ z = (l : Int) ∧ ks = [t, u, v] ∧ j < i ∧ Emb e j t ∧ k < i ∧ Emb e k u ∧ l < i ∧ Emb e l v := by
 cases ks with
 | nil => exact h.elim
 | cons t r =>
   obtain ⟨h1, h2, h3, h4⟩ := h
   obtain ⟨k, u, l, v, e1, e2, e3, e4, e5, e6, e7⟩ := b6C h4
   subst e3
   exact ⟨x.toNat, t, k, u, l, v, by omega, e1, e2, rfl, by omega, h3, e4, e5, e6, e7⟩
theorem shape {e : List Nd} {i : Nat} : ∀ {t : Tr}, Emb e i t → Valid t → Shp e i t
 | .mk b ks, ⟨n, h1, h2, h3, h4⟩, ⟨v1, v2, v3, v4, v5, v6⟩ => by
   obtain ⟨op, a, b', c, nn, nm⟩ := n
   have hb : b = (op, -1, -1, -1, nn, nm) := h2
   subst hb
   simp only at v4
   obtain ⟨r1, r2, r3, r4, r5⟩ := v4
   by_cases c1 : op = 1 ∨ op = 2 ∨ op = 3
   · have hk : kids (op, a, b', c, nn, nm) = [] := by rcases c1 with rfl | rfl | rfl <;> rfl
     rw [hk] at h4
     have := b6B h4; subst this
     exact .leaf c1 h1 ⟨r3, r4⟩ (by rw [r5]; omega)
   have m0 : op ≠ 25 → nn = 0 := fun h => by
    have : V0 op = 0 := by unfold V0; rw [if_neg (by omega), if_neg (by omega), if_neg h]
    omega
   by_cases c2 : op = 27
   · subst c2
     have hs : nm ≠ [] := r5.2 (.inr rfl)
     by_cases ha : a = -1
     · subst ha
       have hk : kids (27, -1, b', c, nn, nm) = [] := rfl
       rw [hk] at h4
       have := b6B h4; subst this
       exact .call0 h1 (m0 (by decide)) hs
     · have hk : kids (27, a, b', c, nn, nm) = [a] := by simp [kids, ha]
       rw [hk] at h4
       obtain ⟨j, t, rfl, rfl, k1, k2⟩ := b3m h4
       refine .call1 h1 (m0 (by decide)) hs k1 k2 v6.1 ?_
       simp [a1Z, b0v] at v5
       exact v5
   have hs0 : nm = [] := by
    cases nm with
    | nil => rfl
    | cons x r => have := r5.1 (by simp); omega
   by_cases c3 : op = 28
   · subst c3
     by_cases hb : b' = -1
     · subst hb
       have hk : kids (28, a, -1, c, nn, nm) = [a] := by simp [kids]
       rw [hk] at h4
       obtain ⟨j, t, rfl, rfl, k1, k2⟩ := b3m h4
       refine .arg1 h1 (m0 (by decide)) hs0 k1 k2 v6.1 ?_
       simp [a1Z, b0v] at v5
       exact v5
     · have hk : kids (28, a, b', c, nn, nm) = [b', a] := by simp [kids, hb]
       rw [hk] at h4
       obtain ⟨j, t, k, u, rfl, rfl, rfl, k1, k2, k3, k4⟩ := b6C h4
       simp [a1Z, b0v] at v5
       exact .arg2 h1 (m0 (by decide)) hs0 k1 k2 v6.1 v5.1 k3 k4 v6.2.1 v5.2
   have hno : ∀ (x : Int) (m a : Nat), b0v (op, -1, -1, -1, nn, nm) m a x = true → x ≠ 28 := by
    intro x m a h
    simp only [b0v, df c2, df c3, Bool.false_and, Bool.or_false] at h
    intro hx
    rw [dt hx] at h; cases h
   by_cases c4 : op = 26
   · subst c4
     have hk : kids (26, a, b', c, nn, nm) = [a, b', c] := by simp [kids]
     rw [hk] at h4
     obtain ⟨j, t, k, u, l, v, rfl, rfl, rfl, rfl, k1, k2, k3, k4, k5, k6⟩ := c7v h4
     simp only [a1Z, and_eq_true] at v5
     exact .ite h1 (m0 (by decide)) hs0 k1 k2 v6.1 (hno _ _ _ v5.1) k3 k4 v6.2.1 (hno _ _ _ v5.2.1) k5 k6 v6.2.2.1 (hno _ _ _ v5.2.2.1)
   by_cases c5 : 6 ≤ op ∧ op ≤ 20
   · have hk : kids (op, a, b', c, nn, nm) = [a, b'] := by
      simp only [kids]; rw [if_neg c4, if_neg (fun h => c3 h.1), if_neg (fun h => c2 h.1), if_pos c5]
     rw [hk] at h4
     obtain ⟨j, t, k, u, rfl, rfl, rfl, k1, k2, k3, k4⟩ := b6C h4
     simp only [a1Z, and_eq_true] at v5
     exact .bin c5 h1 (m0 (by omega)) hs0 k1 k2 v6.1 (hno _ _ _ v5.1) k3 k4 v6.2.1 (hno _ _ _ v5.2.1)
   have c6 : op = 4 ∨ op = 5 ∨ op = 21 ∨ op = 22 ∨ op = 23 ∨ op = 24 ∨ op = 25 := by omega
   have hk : kids (op, a, b', c, nn, nm) = [a] := by
    simp only [kids]; rw [if_neg c4, if_neg (fun h => c3 h.1), if_neg (fun h => c2 h.1), if_neg c5, if_pos (by omega)]
   rw [hk] at h4
   obtain ⟨j, t, rfl, rfl, k1, k2⟩ := b3m h4
   simp only [a1Z, and_eq_true] at v5
   exact .un c6 h1 ⟨r3, r4⟩ hs0 k1 k2 v6.1 (hno _ _ _ v5.1)
abbrev Str : Type := List UInt8
def n0 (asked : Int) (x : Int × List Str) : List Str := if (D2 x.1).2 ≥ asked then x.2 else [40] :: (x.2 ++ [[41]])
def lvX (op : Int) : Int := (D2 op).2
def opX (op : Int) : Str := (D2 op).1
def a6U (op : Int) : Int := if lvX op ≤ 2 then lvX op + 1 else if lvX op = 6 then 7 else lvX op
def a2L (op : Int) : Int := if lvX op ≤ 2 then lvX op else lvX op + 1
def a2c (n : Int) : Str := if n = 1 then [116, 114, 117, 101] else [102, 97, 108, 115, 101]
def b8V (b : Nd) (l : List (Int × List Str)) : List Str :=
 if b.1 = 1 then [I3 b.2.2.2.2.1] else
 if b.1 = 2 then [a2c b.2.2.2.2.1] else
 if b.1 = 3 then [b.2.2.2.2.2] else
 if b.1 = 27 then b.2.2.2.2.2 :: [40] :: (match l with
  | [x] => x.2 ++ [[41]]
  | _ => [[41]]) else
 match l with
 | [x] => if b.1 = 28 then x.2 else if b.1 = 25 then opX 25 :: I3 b.2.2.2.2.1 :: n0 9 x else opX b.1 :: n0 9 x
 | [x, y] => if b.1 = 28 then x.2 ++ [44] :: y.2 else n0 (a6U b.1) x ++ opX b.1 :: n0 (a2L b.1) y
 | [x, y, z] => opX 26 :: (x.2 ++ [116, 104, 101, 110] :: (y.2 ++ [101, 108, 115, 101] :: z.2))
 | _ => []
mutual
def j9 : Tr → List Str
 | .mk b ks => b8V b (b3T ks)
def b3T : List Tr → List (Int × List Str)
 | [] => []
 | t :: r => (t.op, j9 t) :: b3T r
end
theorem J6 (a : Int) (x : Int × List Str) : x.2.length ≤ (n0 a x).length ∧ (n0 a x).length ≤ x.2.length + 2 := by
 unfold n0; split
 · omega
 · simp only [length_cons, length_append, length_nil]; omega
theorem T0 (b : Nd) (t : Tr) : (Tr.mk b [t]).size = t.size + 1 := by simp [Tr.size, F8]
theorem a2q (b : Nd) (t u : Tr) : (Tr.mk b [t, u]).size = t.size + u.size + 1 := by simp [Tr.size, F8]
theorem b1E (b : Nd) (t u v : Tr) : (Tr.mk b [t, u, v]).size = t.size + u.size + v.size + 1 := by simp [Tr.size, F8]; omega
theorem a9h (b : Nd) : (Tr.mk b []).size = 1 := by simp [Tr.size, F8]
theorem Y8 {op nn : Int} {nm : Str} (h : op = 1 ∨ op = 2 ∨ op = 3) : j9 (.mk (op, -1, -1, -1, nn, nm) []) = [if op = 1 then I3 nn else if op = 2 then a2c nn else nm] := by
 rcases h with rfl | rfl | rfl <;> rfl
theorem T1 {nn : Int} {nm : Str} : j9 (.mk (27, -1, -1, -1, nn, nm) []) = [nm, [40], [41]] := rfl
theorem T3 {nn : Int} {nm : Str} {t : Tr} : j9 (.mk (27, -1, -1, -1, nn, nm) [t]) = nm :: [40] :: (j9 t ++ [[41]]) := rfl
theorem Y6 {nn : Int} {nm : Str} {t : Tr} : j9 (.mk (28, -1, -1, -1, nn, nm) [t]) = j9 t := rfl
theorem Y7 {nn : Int} {nm : Str} {t u : Tr} : j9 (.mk (28, -1, -1, -1, nn, nm) [t, u]) = j9 t ++ [44] :: j9 u := rfl
theorem a1z {nn : Int} {nm : Str} {t u v : Tr} : j9 (.mk (26, -1, -1, -1, nn, nm) [t, u, v]) = opX 26 :: (j9 t ++ [116, 104, 101, 110] :: (j9 u ++ [101, 108, 115, 101] :: j9 v)) := rfl
theorem a3S {op nn : Int} {nm : Str} {t : Tr} (h : op = 4 ∨ op = 5 ∨ op = 21 ∨ op = 22 ∨ op = 23 ∨ op = 24 ∨ op = 25) : j9 (.mk (op, -1, -1, -1, nn, nm) [t]) = opX op :: ((if op = 25 then [I3 nn] else []) ++ n0 9 (t.op, j9 t)) := by
 rcases h with rfl | rfl | rfl | rfl | rfl | rfl | rfl <;> rfl
theorem a1y {op nn : Int} {nm : Str} {t u : Tr} (h : 6 ≤ op ∧ op ≤ 20) : j9 (.mk (op, -1, -1, -1, nn, nm) [t, u]) = n0 (a6U op) (t.op, j9 t) ++ opX op :: n0 (a2L op) (u.op, j9 u) := by
 have h1 : op ≠ 1 := by omega
 have h2 : op ≠ 2 := by omega
 have h3 : op ≠ 3 := by omega
 have h27 : op ≠ 27 := by omega
 have h28 : op ≠ 28 := by omega
 show b8V (op, -1, -1, -1, nn, nm) [(t.op, j9 t), (u.op, j9 u)] = _
 simp only [b8V, if_neg h1, if_neg h2, if_neg h3, if_neg h27, if_neg h28]
theorem o4 {e : List Nd} : ∀ (m : Nat) (t : Tr) (i : Nat), t.size ≤ m → Emb e i t → Valid t → 1 ≤ (j9 t).length ∧ (j9 t).length + 2 ≤ 5 * t.size := by
 intro m
 induction m with
 | zero => intro t i h; have := t.size_pos; omega
 | succ m ih =>
   intro t i hm ht hv
   cases shape ht hv with
   | leaf h => rw [Y8 h, a9h]; simp
   | call0 => rw [T1, a9h]; simp
   | call1 hn hN hs hj ht1 hv1 ho =>
     rw [T0] at hm ⊢
     have := ih _ _ (by omega) ht1 hv1
     rw [T3]; simp; omega
   | arg1 hn hN hs hj ht1 hv1 ho =>
     rw [T0] at hm ⊢
     have := ih _ _ (by omega) ht1 hv1
     rw [Y6]; omega
   | arg2 hn hN hs hj ht1 hv1 ho hk hu hvu hou =>
     rw [a2q] at hm ⊢
     have := ih _ _ (by omega) ht1 hv1
     have := ih _ _ (by omega) hu hvu
     rw [Y7]; simp; omega
   | ite hn hN hs hj ht1 hv1 ho hk hu hvu hou hl hw hvw how =>
     rw [b1E] at hm ⊢
     have := ih _ _ (by omega) ht1 hv1
     have := ih _ _ (by omega) hu hvu
     have := ih _ _ (by omega) hw hvw
     rw [a1z]; simp; omega
   | un h hn hN hs hj ht1 hv1 ho =>
     rename_i op b c nn nm j t1
     rw [T0] at hm ⊢
     have := ih _ _ (by omega) ht1 hv1
     have hp := J6 9 (t1.op, j9 t1)
     rw [a3S h]; simp only [length_cons, length_append]
     split <;> simp at * <;> omega
   | bin h hn hN hs hj ht1 hv1 ho hk hu hvu hou =>
     rename_i op c nn nm j k t1 u1
     rw [a2q] at hm ⊢
     have := ih _ _ (by omega) ht1 hv1
     have := ih _ _ (by omega) hu hvu
     have hp := J6 (a6U op) (t1.op, j9 t1)
     have hq := J6 (a2L op) (u1.op, j9 u1)
     rw [a1y h]; simp only [length_cons, length_append]
     simp at *; omega
def mkT (s : Str) : Int × Str × Int := (0, s, 0)
theorem b1j (e : List Nd) : ∀ (suf pre : List Str) (out : List (Int × Str × Int)), out.length + suf.length ≤ 2000000 → pre.length + suf.length ≤ 2000000 →
  k99 T.rb e out (pre ++ suf) (((pre ++ suf).length : Nat) : Int) (pre.length : Nat) = some (e, out ++ suf.map mkT)
 | [], pre, out, h, h2 => d0N (by simp only [b99, l8, o6, List.append_nil, cond_false, List.map_nil])
 | x :: suf, pre, out, h, h2 => d0N (by
   simp only [length_cons] at h h2
   have ih := b1j e suf (pre ++ [x]) (out ++ [mkT x]) (by simp; omega) (by simp; omega)
   simp only [List.append_assoc, List.singleton_append] at ih
   simp only [b99, j6, e8, e9, cond_true, bind_some, a6 (show out.length + 1 ≤ 274877906944 by omega), Bool.and_true, j7 pre x (by omega)]
   exact ih)
theorem put_eq (e : List Nd) (out : List (Int × Str × Int)) (ds : List Str) (h : out.length + ds.length ≤ 2000000) : T5 T.rf e out ds = some (e, out ++ ds.map mkT) := d1j (by
 have := b1j e ds [] out h (by simp; omega)
 simp only [List.nil_append, length_nil] at this
 rw [show ((0 : Nat) : Int) = (0 : Int) from rfl] at this
 simp only [c0U, this, bind_some])
theorem b6H (b : Bool) : c5F T.rf b = some (if b = true then [116, 114, 117, 101] else [102, 97, 108, 115, 101]) := d1k (by
 have h : c5G T.rf b = some (if b = true then [116, 114, 117, 101] else [102, 97, 108, 115, 101]) := d1l (by cases b <;> rfl)
 simp only [c0V, h, bind_some])
theorem b3z {n : Int} (h : 0 ≤ n ∧ n ≤ 2147483647) : b9w T.rf n = some (I3 n) := d1i (by
 have : a4n n = true := by unfold a4n; rw [dt (by omega), dt (by omega)]; rfl
 simp only [c0T, this, cond_true])
theorem b7w {op : Int} (h : 6 ≤ op ∧ op ≤ 20) : 1 ≤ lvX op ∧ lvX op ≤ 8 := by
 have : op = 6 ∨ op = 7 ∨ op = 8 ∨ op = 9 ∨ op = 10 ∨ op = 11 ∨ op = 12 ∨ op = 13 ∨ op = 14 ∨ op = 15 ∨ op = 16 ∨ op = 17 ∨ op = 18 ∨ op = 19 ∨ op = 20 := by omega
 rcases this with rfl | rfl | rfl | rfl | rfl | rfl | rfl | rfl | rfl | rfl | rfl | rfl | rfl | rfl | rfl <;> decide
theorem c4a {op : Int} (h : op = 4 ∨ op = 5 ∨ op = 21 ∨ op = 22 ∨ op = 23 ∨ op = 24 ∨ op = 25) : lvX op = 9 := by
 rcases h with rfl | rfl | rfl | rfl | rfl | rfl | rfl <;> rfl
theorem X5 (op : Int) : V0 op ≤ 2147483647 := by unfold V0; repeat' split
                                                 all_goals omega
theorem a9Q {e : List Nd} {j : Nat} {n : Nd} {ts : List Str} {m : Nat} (hn : nth e j = some n) (asked : Int) (out : List (Int × Str × Int))
  (hw : ∀ out' : List (Int × Str × Int), out'.length ≤ out.length + 1 → a6k T.rf e out' (j : Nat) = some (e, out' ++ ts.map mkT)) (hlen : out.length + ts.length + 2 ≤ 2000000) :
  a0N T.rf e out (j : Nat) asked = some (e, out ++ (n0 asked (n.1, ts)).map mkT) := d1m (by
 have hj : j < e.length := by rw [nth_getElem?] at hn; exact (List.getElem?_eq_some_iff.1 hn).1
 have e1 : inb ((j : Nat) : Int) e.length = true := D1 (by omega) (by omega)
 simp only [c0W, e1, cond_true, Int.toNat_natCast, hn, bind_some, b7p, n0]
 by_cases hl : (D2 n.1).2 ≥ asked
 · rw [dt hl, if_pos hl, cond_true, hw out (by omega)]; rfl
 · rw [df hl, if_neg hl, cond_false, put_eq e out _ (by simp; omega), bind_some, hw _ (by simp), bind_some, put_eq e _ _ (by simp; omega), bind_some]
   simp [mkT])
theorem b5s {e : List Nd} : ∀ (m : Nat) (t : Tr) (i : Nat) (out : List (Int × Str × Int)), t.size ≤ m → Emb e i t → Valid t → out.length + 5 * t.size ≤ 1000000 →
  (t.op ≠ 28 → a6k T.rf e out (i : Nat) = some (e, out ++ (j9 t).map mkT)) ∧ (t.op = 28 → b9x T.rf e out (i : Nat) = some (e, out ++ (j9 t).map mkT)) := by
 intro m
 induction m with
 | zero => intro t i out h; have := t.size_pos; omega
 | succ m ih =>
   intro t i out hm ht hv hN
   have hi : i < e.length := a2A ht
   have e1 : inb ((i : Nat) : Int) e.length = true := D1 (by omega) (by omega)
   cases shape ht hv with
   | leaf h hn hNN hs =>
     rename_i op a b c nn nm
     rw [a9h] at hN
     refine ⟨fun _ => a8X ?_, fun h28 => by have h28 : op = 28 := h28; omega⟩
     have hm2 := X5 op
     rw [Y8 h]
     rcases h with rfl | rfl | rfl
     · simp only [a4B, e1, cond_true, Int.toNat_natCast, hn, bind_some, of_eq, show ((1 : Int) == 1) = true from rfl, b3z (n := nn) (by omega), put_eq e out _ (show out.length + [I3 nn].length ≤ 2000000 by simp; omega)]
       rfl
     · have hb : (if (nn == 1) = true then ([116, 114, 117, 101] : Str) else [102, 97, 108, 115, 101]) = a2c nn := by
        unfold a2c
        by_cases h1 : nn = 1
        · rw [if_pos (bt h1), if_pos h1]
        · rw [if_neg (by rw [bf h1]; decide), if_neg h1]
       simp only [a4B, e1, cond_true, cond_false, Int.toNat_natCast, hn, bind_some, of_eq, show ((2 : Int) == 1) = false from rfl, show ((2 : Int) == 2) = true from rfl, b6H, hb, put_eq e out _ (show out.length + [a2c nn].length ≤ 2000000 by simp; omega)]
       rfl
     · simp only [a4B, e1, cond_true, cond_false, Int.toNat_natCast, hn, bind_some, of_eq, show ((3 : Int) == 1) = false from rfl, show ((3 : Int) == 2) = false from rfl, show ((3 : Int) == 3) = true from rfl, put_eq e out _ (show out.length + [nm].length ≤ 2000000 by simp; omega)]
       rfl
   | call0 hn hNN hs =>
     rename_i b c nn nm
     rw [a9h] at hN
     refine ⟨fun _ => a8X ?_, fun h28 => by cases h28⟩
     rw [T1]
     simp only [a4B, e1, cond_true, cond_false, Int.toNat_natCast, hn, bind_some, of_eq, show ((27 : Int) == 1) = false from rfl, show ((27 : Int) == 2) = false from rfl, show ((27 : Int) == 3) = false from rfl, show ((27 : Int) == 27) = true from rfl, show decide ((-1 : Int) ≥ 0) = false from rfl, put_eq e out _ (show out.length + [nm, [40]].length ≤ 2000000 by simp; omega),
      put_eq e (out ++ [nm, [40]].map mkT) _ (show (out ++ [nm, [40]].map mkT).length + [([41] : Str)].length ≤ 2000000 by simp; omega)]
     simp
   | call1 hn hNN hs hj ht1 hv1 ho =>
     rename_i b c nn nm j t1
     rw [T0] at hN hm
     refine ⟨fun _ => a8X ?_, fun h28 => by cases h28⟩
     have hl := (o4 t1.size t1 j (Nat.le_refl _) ht1 hv1).2
     have w := (ih t1 j (out ++ [nm, [40]].map mkT) (by omega) ht1 hv1 (by simp; omega)).2 ho
     rw [T3]
     simp only [a4B, e1, cond_true, cond_false, Int.toNat_natCast, hn, bind_some, of_eq, show ((27 : Int) == 1) = false from rfl, show ((27 : Int) == 2) = false from rfl, show ((27 : Int) == 3) = false from rfl, show ((27 : Int) == 27) = true from rfl, dt (show ((j : Nat) : Int) ≥ 0 by omega), put_eq e out _ (show out.length + [nm, [40]].length ≤ 2000000 by simp; omega), w,
      put_eq e (out ++ [nm, [40]].map mkT ++ (j9 t1).map mkT) _ (show (out ++ [nm, [40]].map mkT ++ (j9 t1).map mkT).length + [([41] : Str)].length ≤ 2000000 by simp; omega)]
     simp
   | arg1 hn hNN hs hj ht1 hv1 ho =>
     rename_i c nn nm j t1
     rw [T0] at hN hm
     refine ⟨fun h28 => absurd rfl h28, fun _ => c4K ?_⟩
     have w := (ih t1 j out (by omega) ht1 hv1 (by omega)).1 ho
     rw [Y6]
     simp only [b8h, e1, cond_true, cond_false, Int.toNat_natCast, hn, bind_some, show decide ((-1 : Int) ≥ 0) = false from rfl, w]
   | arg2 hn hNN hs hj ht1 hv1 ho hk hu hvu hou =>
     rename_i c nn nm j k t1 u1
     rw [a2q] at hN hm
     refine ⟨fun h28 => absurd rfl h28, fun _ => c4K ?_⟩
     have hl := (o4 t1.size t1 j (Nat.le_refl _) ht1 hv1).2
     have w := (ih t1 j out (by omega) ht1 hv1 (by omega)).2 ho
     have w2 := (ih u1 k (out ++ (j9 t1).map mkT ++ [[44]].map mkT) (by omega) hu hvu (by simp; omega)).1 hou
     rw [Y7]
     simp only [b8h, e1, cond_true, cond_false, Int.toNat_natCast, hn, bind_some, dt (show ((j : Nat) : Int) ≥ 0 by omega), w, put_eq e (out ++ (j9 t1).map mkT) _ (show (out ++ (j9 t1).map mkT).length + [([44] : Str)].length ≤ 2000000 by simp; omega), w2]
     simp
   | ite hn hNN hs hj ht1 hv1 ho hk hu hvu hou hl hw hvw how =>
     rename_i nn nm j k l t1 u1 v1
     rw [b1E] at hN hm
     refine ⟨fun _ => a8X ?_, fun h28 => by cases h28⟩
     have hl1 := (o4 t1.size t1 j (Nat.le_refl _) ht1 hv1).2
     have hl2 := (o4 u1.size u1 k (Nat.le_refl _) hu hvu).2
     have hl3 := (o4 v1.size v1 l (Nat.le_refl _) hw hvw).2
     have w1 := (ih t1 j (out ++ [opX 26].map mkT) (by omega) ht1 hv1 (by simp; omega)).1 ho
     have w2 := (ih u1 k (out ++ [opX 26].map mkT ++ (j9 t1).map mkT ++ [[116, 104, 101, 110]].map mkT) (by omega) hu hvu (by simp; omega)).1 hou
     have w3 := (ih v1 l (out ++ [opX 26].map mkT ++ (j9 t1).map mkT ++ [[116, 104, 101, 110]].map mkT ++ (j9 u1).map mkT ++ [[101, 108, 115, 101]].map mkT) (by omega) hw hvw (by simp; omega)).1 how
     rw [a1z]
     simp only [a4B, e1, cond_true, cond_false, Int.toNat_natCast, hn, bind_some, of_eq, show ((26 : Int) == 1) = false from rfl, show ((26 : Int) == 2) = false from rfl, show ((26 : Int) == 3) = false from rfl, show ((26 : Int) == 27) = false from rfl, show ((26 : Int) == 26) = true from rfl, show (D2 26).1 = opX 26 from rfl,
      put_eq e out _ (show out.length + [opX 26].length ≤ 2000000 by simp; omega), w1, put_eq e (out ++ [opX 26].map mkT ++ (j9 t1).map mkT) _ (show (out ++ [opX 26].map mkT ++ (j9 t1).map mkT).length + [([116, 104, 101, 110] : Str)].length ≤ 2000000 by simp; omega), w2,
      put_eq e (out ++ [opX 26].map mkT ++ (j9 t1).map mkT ++ [[116, 104, 101, 110]].map mkT ++ (j9 u1).map mkT) _ (show (out ++ [opX 26].map mkT ++ (j9 t1).map mkT ++ [[116, 104, 101, 110]].map mkT ++ (j9 u1).map mkT).length + [([101, 108, 115, 101] : Str)].length ≤ 2000000 by simp; omega), w3]
     simp
   | un h hn hNN hs hj ht1 hv1 ho =>
     rename_i op b c nn nm j t1
     rw [T0] at hN hm
     refine ⟨fun _ => a8X ?_, fun h28 => by have h28 : op = 28 := h28; omega⟩
     have hl := (o4 t1.size t1 j (Nat.le_refl _) ht1 hv1).2
     have hm2 := X5 op
     obtain ⟨n1, hn1, ho1⟩ : ∃ n1, nth e j = some n1 ∧ n1.1 = t1.op := by
      have hjl := a2A ht1
      refine ⟨e[j], by rw [nth_getElem?]; exact List.getElem?_eq_getElem hjl, ?_⟩
      have := a2B ht1
      rw [← this]; exact (a3z (by rw [nth_getElem?]; exact List.getElem?_eq_getElem hjl)).symm
     have hlv : (D2 op).2 = 9 := c4a h
     have P : ∀ out' : List (Int × Str × Int), out'.length ≤ out.length + 2 → a0N T.rf e out' (j : Nat) 9 = some (e, out' ++ (n0 9 (t1.op, j9 t1)).map mkT) := fun out' ho' => by
      rw [← ho1]
      exact a9Q (m := 0) hn1 9 out' (fun o2 h2 => (ih t1 j o2 (by omega) ht1 hv1 (by omega)).1 ho) (by omega)
     rw [a3S h]
     by_cases h25 : op = 25
     · subst h25
       simp only [a4B, e1, cond_true, cond_false, Int.toNat_natCast, hn, bind_some, of_eq, show ((25 : Int) == 1) = false from rfl, show ((25 : Int) == 2) = false from rfl, show ((25 : Int) == 3) = false from rfl, show ((25 : Int) == 27) = false from rfl, show ((25 : Int) == 26) = false from rfl, show ((D2 25).2 == 9) = true from rfl, show ((25 : Int) == 25) = true from rfl, show (D2 25).1 = opX 25 from rfl,
        put_eq e out _ (show out.length + [opX 25].length ≤ 2000000 by simp; omega), b3z (n := nn) (by omega), put_eq e (out ++ [opX 25].map mkT) _ (show (out ++ [opX 25].map mkT).length + [I3 nn].length ≤ 2000000 by simp; omega), P (out ++ [opX 25].map mkT ++ [I3 nn].map mkT) (by simp)]
       simp
     · simp only [a4B, e1, cond_true, cond_false, Int.toNat_natCast, hn, bind_some, of_eq, bf (show op ≠ 1 by omega), bf (show op ≠ 2 by omega), bf (show op ≠ 3 by omega), bf (show op ≠ 27 by omega), bf (show op ≠ 26 by omega), bt hlv, bf h25, show (D2 op).1 = opX op from rfl,
        put_eq e out _ (show out.length + [opX op].length ≤ 2000000 by simp; omega), P (out ++ [opX op].map mkT) (by simp), if_neg h25]
       simp
   | bin h hn hNN hs hj ht1 hv1 ho hk hu hvu hou =>
     rename_i op c nn nm j k t1 u1
     rw [a2q] at hN hm
     refine ⟨fun _ => a8X ?_, fun h28 => by have h28 : op = 28 := h28; omega⟩
     have hl1 := (o4 t1.size t1 j (Nat.le_refl _) ht1 hv1).2
     have hl2 := (o4 u1.size u1 k (Nat.le_refl _) hu hvu).2
     obtain ⟨n1, hn1, ho1⟩ : ∃ n1, nth e j = some n1 ∧ n1.1 = t1.op := by
      have hjl := a2A ht1
      refine ⟨e[j], by rw [nth_getElem?]; exact List.getElem?_eq_getElem hjl, ?_⟩
      have := a2B ht1
      rw [← this]; exact (a3z (by rw [nth_getElem?]; exact List.getElem?_eq_getElem hjl)).symm
     obtain ⟨n2, hn2, ho2⟩ : ∃ n2, nth e k = some n2 ∧ n2.1 = u1.op := by
      have hjl := a2A hu
      refine ⟨e[k], by rw [nth_getElem?]; exact List.getElem?_eq_getElem hjl, ?_⟩
      have := a2B hu
      rw [← this]; exact (a3z (by rw [nth_getElem?]; exact List.getElem?_eq_getElem hjl)).symm
     obtain ⟨lv1, lv2⟩ := b7w h
     have P : ∀ (asked : Int), a0N T.rf e out (j : Nat) asked = some (e, out ++ (n0 asked (t1.op, j9 t1)).map mkT) := fun asked => by
      rw [← ho1]
      exact a9Q (m := 0) hn1 asked out (fun o2 h2 => (ih t1 j o2 (by omega) ht1 hv1 (by omega)).1 ho) (by omega)
     have hpl : ∀ a, (n0 a (t1.op, j9 t1)).length ≤ (j9 t1).length + 2 := fun a => (J6 a (t1.op, j9 t1)).2
     have Pu : ∀ (a : Int), T5 T.rf e (out ++ (n0 a (t1.op, j9 t1)).map mkT) [opX op] = some (e, out ++ (n0 a (t1.op, j9 t1)).map mkT ++ [opX op].map mkT) := fun a => put_eq e _ _ (by have := hpl a; simp; omega)
     have Q : ∀ (a asked : Int), a0N T.rf e (out ++ (n0 a (t1.op, j9 t1)).map mkT ++ [opX op].map mkT) (k : Nat) asked = some (e, out ++ (n0 a (t1.op, j9 t1)).map mkT ++ [opX op].map mkT ++ (n0 asked (u1.op, j9 u1)).map mkT) := fun a asked => by
      have := hpl a
      rw [← ho2]
      exact a9Q (m := 0) hn2 asked _ (fun o2 h2 => (ih u1 k o2 (by omega) hu hvu (by simp at h2; omega)).1 hou) (by simp; omega)
     rw [a1y h]
     have hlx : (D2 op).2 = lvX op := rfl
     have hw : IntKind.i64.wrap (lvX op + 1) = lvX op + 1 := wr (by omega)
     have base : a4B T.rf T.rb e out (i : Nat) = (a0N T.rf e out (j : Nat) (a6U op)).bind fun y => (T5 T.rf y.1 y.2 [opX op]).bind fun z => a0N T.rf z.1 z.2 (k : Nat) (a2L op) := by
      simp only [a4B, e1, cond_true, cond_false, Int.toNat_natCast, hn, bind_some, of_eq, bf (show op ≠ 1 by omega), bf (show op ≠ 2 by omega), bf (show op ≠ 3 by omega), bf (show op ≠ 27 by omega), bf (show op ≠ 26 by omega), hlx, bf (show lvX op ≠ 9 by omega), hw, show (D2 op).1 = opX op from rfl, a6U, a2L, Option.bind_fun_some]
      by_cases h2 : lvX op ≤ 2
      · simp only [dt h2, cond_true, bf (show lvX op ≠ 6 by omega), cond_false, if_pos h2]
      · simp only [df h2, cond_false, if_neg h2]
        by_cases h6 : lvX op = 6
        · simp only [bt h6, cond_true, if_pos h6, h6]; rfl
        · simp only [bf h6, cond_false, if_neg h6]
     rw [base, P, bind_some, Pu, bind_some, Q]
     simp
def C3 (n : Nd) : Bool := (n.2.2.2.2.2 == ([] : Str)) || o5 n.2.2.2.2.2
mutual
def n9 : Tr → Bool
 | .mk b ks => C3 b && l9 ks
def l9 : List Tr → Bool
 | [] => true
 | t :: r => n9 t && l9 r
end
theorem a7F (n : Nd) : c5x T.rf n = some (!(C3 n)) := d0Q (by
 simp only [c0I, Q6, bind_some, C3]
 cases (n.2.2.2.2.2 == ([] : Str)) <;> rfl)
theorem b0P (e : List Nd) : ∀ (suf pre : List Nd), e = pre ++ suf → e.length ≤ 1000000 →
  ∃ z, k88 T.rb e ((e.length : Nat) : Int) (pre.length : Nat) = some z ∧ ((suf.all C3 = true ∧ z = .inr ()) ∨ (suf.all C3 = false ∧ ∃ j : Nat, z = .inl (j : Int)))
 | [], pre, h, hl => ⟨.inr (), c6g (by
    subst h
    simp only [b88, l8, cond_false]), .inl ⟨rfl, rfl⟩⟩
 | x :: suf, pre, h, hl => by
   obtain ⟨z, h1, h2⟩ := b0P e suf (pre ++ [x]) (by rw [h]; simp) hl
   have hpl : pre.length < 4611686018427387904 := by rw [h] at hl; simp at hl; omega
   cases hx : C3 x with
   | false =>
     refine ⟨.inl (pre.length : Nat), c6g ?_, .inr ⟨by simp [hx], _, rfl⟩⟩
     subst h
     simp only [b88, j6, e8, e9, cond_true, bind_some, a7F, hx, Bool.not_false]
   | true =>
     refine ⟨z, c6g ?_, by simpa [hx] using h2⟩
     subst h
     simp only [b88, j6, e8, e9, cond_true, cond_false, bind_some, a7F, hx, Bool.not_true, j7 pre x hpl]
     exact h1
theorem contains_eq {e : List Nd} (h : e.length ≤ 1000000) : c5w T.rf e = some (!(e.all C3)) := d0P (by
 obtain ⟨z, h1, h2⟩ := b0P e e [] rfl h
 simp only [length_nil] at h1
 rw [show ((0 : Nat) : Int) = (0 : Int) from rfl] at h1
 rcases h2 with ⟨g, rfl⟩ | ⟨g, j, rfl⟩
 · have : b9q T.rf e = some (-1) := c4H (by simp only [b8a, h1, bind_some])
   simp only [b7Z, this, bind_some, g]; rfl
 · have : b9q T.rf e = some (j : Int) := c4H (by simp only [b8a, h1, bind_some])
   simp only [b7Z, this, bind_some, g, dt (show (j : Int) ≥ 0 by omega)]; rfl)
def B3 (e : List Nd) : Bool := F9 e && e.all C3
theorem a3w {e : List Nd} (h : e.length ≤ 1000000) : c91 T.rf e = some (B3 e) := d6g (by
 simp only [r91, b5L h, contains_eq h, bind_some, B3]
 cases F9 e <;> cases e.all C3 <;> rfl)
mutual
theorem a8y {e : List Nd} (ha : e.all C3 = true) : ∀ (t : Tr) (i : Nat), Emb e i t → n9 t = true
 | .mk b ks, i, ⟨n, h1, h2, h3, h4⟩ => by
   have hn : C3 n = true := List.all_eq_true.1 ha n (by rw [nth_getElem?] at h1; exact List.mem_of_getElem? h1)
   rw [n9, a6r ha ks i _ h4, h2]
   exact by rw [show C3 (blank n) = C3 n from rfl, hn]; rfl
theorem a6r {e : List Nd} (ha : e.all C3 = true) : ∀ (ts : List Tr) (i : Nat) (l : List Int), I6 e i l ts → l9 ts = true
 | [], _, _, _ => rfl
 | t :: ts, i, k :: l, ⟨_, _, h3, h4⟩ => by rw [l9, a8y ha t _ h3, a6r ha ts i l h4]; rfl
 | t :: ts, i, [], h => h.elim
end
theorem b0F {e : List Nd} {i : Nat} : ∀ {l : List Int} {ts : List Tr} {k : Int}, I6 e i l ts → k ∈ l → ∃ u, u ∈ ts ∧ Emb e k.toNat u
 | [], _, _, _, h => by cases h
 | x :: l, [], _, h, _ => h.elim
 | x :: l, t :: ts, k, ⟨_, _, h3, h4⟩, h => by
   rcases List.mem_cons.1 h with h | h
   · subst h; exact ⟨t, by simp, h3⟩
   · obtain ⟨u, g1, g2⟩ := b0F h4 h
     exact ⟨u, List.mem_cons_of_mem _ g1, g2⟩
theorem a7d : ∀ {ts : List Tr} {u : Tr}, u ∈ ts → n9 u = false → l9 ts = false
 | t :: ts, u, h, hu => by
   rw [l9]
   rcases List.mem_cons.1 h with h | h
   · subst h; rw [hu]; rfl
   · rw [a7d h hu, Bool.and_false]
theorem a2F {e : List Nd} {t : Tr} (h : F9 e = true) (ht : Emb e (e.length - 1) t) : e.all C3 = n9 t := by
 cases ha : e.all C3 with
 | true => exact (a8y ha t _ ht).symm
 | false =>
   obtain ⟨n, hn, hbad⟩ := List.all_eq_false.1 ha
   obtain ⟨j, hj⟩ := List.mem_iff_getElem?.1 hn
   have hjl : j < e.length := (List.getElem?_eq_some_iff.1 hj).1
   have key := b7B h (fun j => ∀ u, Emb e j u → n9 u = false) (fun i n k h1 h2 h3 u hu => by
    obtain ⟨b, ks⟩ := u
    obtain ⟨n', g1, g2, g3, g4⟩ := hu
    rw [h1] at g1; cases g1
    obtain ⟨v, w1, w2⟩ := b0F g4 h2
    rw [n9, a7d w1 (h3 v w2), Bool.and_false]) (e.length - 1 - j) j (by omega) hjl (fun u hu => by
    obtain ⟨b, ks⟩ := u
    obtain ⟨n', g1, g2, g3, g4⟩ := hu
    rw [nth_getElem?, hj] at g1; cases g1
    rw [n9, g2, show C3 (blank n) = C3 n from rfl]
    have : C3 n = false := by simpa using hbad
    rw [this]; rfl)
   exact (key t ht).symm
theorem a3g : ∀ (k n : Nat) (l : List UInt8), (a4k k n l).length ≤ k + l.length
 | 0, _, l => by simp [a4k]
 | k + 1, n, l => by
   unfold a4k
   cases Nat.blt n 10 with
   | true => simp; omega
   | false => rw [cond_false]; have := a3g k (n / 10) (UInt8.ofNat (48 + n % 10) :: l); simp only [length_cons] at this; omega
theorem X1 (n : Int) : (I3 n).length ≤ 40 := by
 unfold I3
 split
 · have := a3g 20 ‹Nat› []; simp at this; omega
 · rename_i k; have := a3g 20 (k + 1) []; simp at this; simp; omega
theorem Q3 (op : Int) : (opX op).length ≤ 40 := by
 unfold opX D2
 split
 · rename_i h
   have : ∀ k, k < 28 → (a7f.getD k ([], -1)).1.length ≤ 40 := by decide +kernel
   exact this _ (by omega)
 · simp
theorem a8q (n : Int) : (a2c n).length ≤ 40 := by unfold a2c; split <;> simp
theorem Q7 {n : Nd} (h : C3 n = true) : n.2.2.2.2.2.length ≤ 40 := by
 unfold C3 at h
 rw [Bool.or_eq_true] at h
 rcases h with h | h
 · rw [eq_of_beq h]; simp
 · simp only [o5, and_eq_true, decide_eq_true_eq] at h
   exact h.2.1
def Small (l : List Str) : Prop := ∀ s ∈ l, List.length s ≤ 40
theorem Small.part {a : Int} {x : Int × List Str} (h : Small x.2) : Small (n0 a x) := by
 unfold n0; split
 · exact h
 · intro s hs
   simp only [List.mem_cons, List.mem_append, List.not_mem_nil, or_false] at hs
   rcases hs with rfl | hs | rfl
   · simp
   · exact h s hs
   · simp
theorem b3c {b : Nd} (hb : C3 b = true) {l : List (Int × List Str)} (hl : ∀ x ∈ l, Small x.2) : Small (b8V b l) := by
 have hnm := Q7 hb
 unfold b8V
 split
 · intro s hs; simp at hs; subst hs; exact X1 _
 split
 · intro s hs; simp at hs; subst hs; exact a8q _
 split
 · intro s hs; simp at hs; subst hs; exact hnm
 split
 · split
   · rename_i x
     intro s hs
     simp only [List.mem_cons, List.mem_append, List.not_mem_nil, or_false] at hs
     rcases hs with rfl | rfl | hs | rfl
     · exact hnm
     · simp
     · exact hl x (by simp) s hs
     · simp
   · intro s hs
     simp only [List.mem_cons, List.not_mem_nil, or_false] at hs
     rcases hs with rfl | rfl | rfl
     · exact hnm
     · simp
     · simp
 split
 · rename_i x
   have hx := hl x (by simp)
   split
   · exact hx
   split
   · intro s hs
     simp only [List.mem_cons] at hs
     rcases hs with rfl | rfl | hs
     · exact Q3 _
     · exact X1 _
     · exact Small.part hx s hs
   · intro s hs
     simp only [List.mem_cons] at hs
     rcases hs with rfl | hs
     · exact Q3 _
     · exact Small.part hx s hs
 · rename_i x y
   have hx := hl x (by simp)
   have hy := hl y (by simp)
   split
   · intro s hs
     simp only [List.mem_cons, List.mem_append] at hs
     rcases hs with hs | rfl | hs
     · exact hx s hs
     · simp
     · exact hy s hs
   · intro s hs
     simp only [List.mem_cons, List.mem_append] at hs
     rcases hs with hs | rfl | hs
     · exact Small.part hx s hs
     · exact Q3 _
     · exact Small.part hy s hs
 · rename_i x y z
   have hx := hl x (by simp)
   have hy := hl y (by simp)
   have hz := hl z (by simp)
   intro s hs
   simp only [List.mem_cons, List.mem_append] at hs
   rcases hs with rfl | hs | rfl | hs | rfl | hs
   · exact Q3 _
   · exact hx s hs
   · simp
   · exact hy s hs
   · simp
   · exact hz s hs
 · intro s hs; cases hs
mutual
theorem I8 : ∀ (t : Tr), n9 t = true → Small (j9 t)
 | .mk b ks, h => by
   rw [n9, and_eq_true] at h
   rw [j9]
   exact b3c h.1 (a5w ks h.2)
theorem a5w : ∀ (ts : List Tr), l9 ts = true → ∀ x ∈ b3T ts, Small x.2
 | [], _, x, hx => by cases hx
 | t :: ts, h, x, hx => by
   rw [l9, and_eq_true] at h
   rw [b3T, List.mem_cons] at hx
   rcases hx with rfl | hx
   · exact I8 t h.1
   · exact a5w ts h.2 x hx
end
def J (l : List Str) : Str := l.flatMap fun s => 32 :: s
theorem b3A : ∀ l : List Str, O5 (l.map mkT) = J l
 | [] => rfl
 | x :: l => by rw [List.map_cons, O5, b3A l]; simp [J, mkT]
def txt (l : List Str) : Str := (J l).drop 1
theorem b4W : ∀ l : List Str, s5 (l.map mkT) = txt l
 | [] => rfl
 | x :: l => by rw [List.map_cons, s5, b3A]; simp [txt, J, mkT]
theorem c1E {l : List Str} (h : Small l) : (J l).length ≤ 41 * l.length := by
 induction l with
 | nil => simp [J]
 | cons x l ih =>
   have h1 := h x (by simp)
   have := ih fun s hs => h s (List.mem_cons_of_mem _ hs)
   simp only [J, List.flatMap_cons, length_append, length_cons] at this ⊢
   omega
theorem a3T {l : List Str} (h : Small l) : (txt l).length ≤ 41 * l.length := by
 have := c1E h
 unfold txt
 rw [List.length_drop]; omega
theorem b4k {e : List Nd} {t : Tr} (h : F9 e = true) (ht : Emb e (e.length - 1) t) (hv : Valid t) (hs : t.size ≤ 5000) (hop : t.op ≠ 28) (hl : e.length ≤ 1000000) :
  b9u T.rf e = some (if n9 t = true then txt (j9 t) else []) := d1f (by
 have hpos := List.length_pos_iff.2 (a2i h).ne
 simp only [c0S, a3w hl, bind_some, B3, h, Bool.true_and, a2F h ht]
 cases hn : n9 t with
 | false => rfl
 | true =>
   have w := (b5s t.size t (e.length - 1) [] (Nat.le_refl _) ht hv (by simp; omega)).1 hop
   have hlen := (o4 t.size t _ (Nat.le_refl _) ht hv).2
   have hb := a3T (I8 t hn)
   have hj : b4E T.rf ((j9 t).map mkT) = some (txt (j9 t)) := c4L (by
    simp only [b8i, b4W, a6 (show (txt (j9 t)).length ≤ 274877906944 by omega), cond_true])
   rw [a0a (a2i h).ne (by omega)]
   rw [List.nil_append] at w
   rw [Bool.not_true, cond_false, w, bind_some, hj]
   rfl)
theorem a4y {e : List Nd} (h : F9 e = true) : ∃ t, Emb e (e.length - 1) t ∧ Valid t ∧ t.op ≠ 28 ∧ t.size ≤ 5000 ∧ t.size = e.length ∧ norm e = flat t 0 ∧ F9 (flat t 0) = true ∧ Emb (flat t 0) ((flat t 0).length - 1) t := by
 obtain ⟨t, h1, h2, h3, h4, h5, h6, h7⟩ := a7b h
 have hE := a0R t [] [] h2
 simp only [List.nil_append, List.append_nil, length_nil, Nat.zero_add] at hE
 have hm := (b7J h).1
 rw [a1O h h1] at hm
 exact ⟨t, h1, h2, h4, h7, h3, a1O h h1, hm, by rw [E7]; exact hE⟩
theorem b9R {n : Nat} (h : n ≤ 2147483647) : (Lib.decDigits n).length ≤ 20 := by
 have h1 := a3f 19 n [] (by omega)
 have h2 := a3g 20 n []
 rw [h1] at h2
 simpa using h2
theorem b4M : ∀ (m d : Nat), d ≤ m → d ≤ 2147483647 → b4G T.rf (d : Int) = some (Lib.decDigits d) := by
 intro m
 induction m with
 | zero =>
   intro d h _
   have : d = 0 := by omega
   subst this
   refine c4N ?_
   rw [Lib.decDigits, dif_pos (by omega)]; rfl
 | succ m ih =>
   intro d h hd
   have hmod : Int.tmod (d : Int) 10 = ((d % 10 : Nat) : Int) := by rw [Int.tmod_eq_emod_of_nonneg (by omega)]; omega
   have hdiv : Int.tdiv (d : Int) 10 = ((d / 10 : Nat) : Int) := by rw [Int.tdiv_eq_ediv_of_nonneg (by omega)]; omega
   have hs : strOf [IntKind.u8.wrap (IntKind.i64.wrap (48 + Int.tmod (d : Int) 10))] = [UInt8.ofNat (48 + d % 10)] := by
    rw [hmod, wr (by omega), IntWalk.u8_in _ (by omega)]
    show [UInt8.ofNat (48 + ((d % 10 : Nat) : Int)).toNat] = _
    rw [show (48 + ((d % 10 : Nat) : Int)).toNat = 48 + d % 10 by omega]
   refine c4N ?_
   by_cases h10 : d < 10
   · simp only [b8u, df (show ¬ ((d : Nat) : Int) ≥ 10 by omega), cond_false, hs]
     rw [Lib.decDigits, dif_pos h10, Nat.mod_eq_of_lt h10]
   · have i1 := ih (d / 10) (by omega) (by omega)
     have hl := b9R (n := d / 10) (by omega)
     have hw : IntKind.i64.wrap (Int.tdiv (d : Int) 10) = ((d / 10 : Nat) : Int) := by rw [hdiv, wr (by omega)]
     simp only [b8u, dt (show ((d : Nat) : Int) ≥ 10 by omega), cond_true, hw, i1, bind_some, hs, a6 (show (Lib.decDigits (d / 10)).length + [UInt8.ofNat (48 + d % 10)].length ≤ 274877906944 by simp; omega)]
     conv => rhs; rw [Lib.decDigits, dif_neg h10]
theorem a4P {n : Int} (h : 0 ≤ n ∧ n ≤ 2147483647) : b4G T.rf n = some (I3 n) := by
 obtain ⟨k, rfl⟩ : ∃ k : Nat, n = k := ⟨n.toNat, by omega⟩
 rw [b4M k k (Nat.le_refl _) (by omega)]
 have : I3 (k : Int) = a4k 20 k [] := rfl
 rw [this, a3f 19 k [] (by omega), List.append_nil]
theorem a3F (e : List Nd) : ∀ (suf pre : List Nd), e = pre ++ suf → e.length ≤ 1000000 →
  b7f T.rb e (pre.length : Nat) = some (bif suf.all C3 then .inr () else .inl false)
 | [], pre, h, hl => c4x (by
    subst h
    simp only [b6k, l8, cond_false, List.all_nil, cond_true])
 | x :: suf, pre, h, hl => c4x (by
   have ih := a3F e suf (pre ++ [x]) (by rw [h]; simp) hl
   have hpl : pre.length < 4611686018427387904 := by rw [h] at hl; simp at hl; omega
   subst h
   simp only [b6k, j6, e8, e9, cond_true, bind_some, H6, j7 pre x hpl, ih, List.all_cons]
   rw [show C3 x = ((x.2.2.2.2.2 == ([] : Str)) || o5 x.2.2.2.2.2) from rfl]
   generalize suf.all C3 = z
   cases (x.2.2.2.2.2 == ([] : Str)) <;> cases o5 x.2.2.2.2.2 <;> cases z <;> rfl)
theorem N2 {e : List Nd} (h : e.length ≤ 1000000) : I7 T.rf e = some (B3 e) := d1N (by
 have hl := a3F e e [] rfl h
 simp only [length_nil] at hl
 rw [show ((0 : Nat) : Int) = (0 : Int) from rfl] at hl
 simp only [c1s, a9d h, bind_some, hl, B3]
 cases F9 e <;> cases e.all C3 <;> rfl)
theorem a0G (l m : List Str) : J (l ++ m) = J l ++ J m := by simp [J]
theorem J8 (x : Str) (l : List Str) : J (x :: l) = 32 :: (x ++ J l) := by simp [J]
theorem a2T : J [] = [] := rfl
theorem y0 (x : Str) (l : List Str) : txt (x :: l) = x ++ J l := by simp [txt, J]
theorem T8 {l : List Str} (h : 1 ≤ l.length) : J l = 32 :: txt l := by
 cases l with
 | nil => simp at h
 | cons x l => rw [J8, y0]
theorem b0i {l : List Str} (h : 1 ≤ l.length) (m : List Str) : txt (l ++ m) = txt l ++ J m := by
 cases l with
 | nil => simp at h
 | cons x l => rw [List.cons_append, y0, y0, a0G]; simp
def H : List Str → Str
 | [] => []
 | [a] => 32 :: a
 | a :: b :: r => 32 :: (a ++ 32 :: 44 :: H (b :: r))
theorem b5J : ∀ (l : List Str) (x : Str), l ≠ [] → H (l ++ [x]) = H l ++ (32 :: 44 :: 32 :: x)
 | [], x, h => absurd rfl h
 | [a], x, _ => by simp [H]
 | a :: b :: r, x, _ => by
   have := b5J (b :: r) x (by simp)
   simp only [List.cons_append] at this ⊢
   rw [H, this, H]; simp
theorem a2z : ∀ (rest done : List Str) (s : Str), s.length + (H rest).length ≤ 100000000 → rest.length + done.length ≤ 1000000 →
  b7h T.rb ((done ++ rest).reverse) s ((rest.length : Int) - 1) = some ((done ++ rest).reverse, s ++ H rest)
 | [], done, s, h, h2 => c4C (by
   simp only [b6p, length_nil, df (show ¬ (((0 : Nat) : Int) - 1 ≥ 0) by omega), cond_false, H, List.append_nil])
 | a :: r, done, s, h, h2 => c4C (by
   have e1 : (done ++ a :: r).reverse = r.reverse ++ a :: done.reverse := by simp
   have e0 : (((a :: r).length : Nat) : Int) - 1 = ((r.reverse.length : Nat) : Int) := by simp only [length_cons, List.length_reverse]; omega
   have hH : 1 + a.length ≤ (H (a :: r)).length := by
    cases r with
    | nil => simp [H]; omega
    | cons b r => simp [H]; omega
   have e2 : decide (((r.reverse.length : Nat) : Int) ≥ 0) = true := dt (by omega)
   simp only [length_cons] at h2
   rw [e0, e1]
   simp only [b6p, e2, cond_true, e8, e9, bind_some, a6 (show s.length + 1 ≤ 274877906944 by omega), a6 (show (s ++ ([32] : Str)).length + a.length ≤ 274877906944 by simp; omega)]
   cases r with
   | nil =>
     have ih := a2z [] (done ++ [a]) (s ++ H [a]) (by simp only [H, length_append, length_cons, length_nil] at h ⊢; omega) (by simp only [length_append, length_cons, length_nil] at h2 ⊢; omega)
     simp only [List.append_nil, length_nil] at ih
     have e3 : decide ((((([] : List Str).reverse).length : Nat) : Int) > 0) = false := df (by simp)
     have e4 : IntKind.i64.wrap (((((([] : List Str).reverse).length : Nat) : Int)) - 1) = ((0 : Nat) : Int) - 1 := rfl
     rw [e3, e4, cond_false]
     have e5 : ((s ++ ([32] : Str)) ++ a) = s ++ H [a] := by simp [H]
     rw [e5]
     have e6 : (([] : List Str).reverse ++ a :: done.reverse) = (done ++ [a]).reverse := by simp
     rw [e6]
     simpa [H] using ih
   | cons b r =>
     have hlen : s.length + (a.length + 3) + (H (b :: r)).length ≤ 100000000 := by simp only [H, length_cons, length_append] at h; omega
     have ih := a2z (b :: r) (done ++ [a]) (s ++ (32 :: (a ++ [32, 44]))) (by simp only [length_cons, length_append, length_nil]; omega) (by simp only [length_cons, length_append, length_nil] at h2 ⊢; omega)
     have e3 : decide (((((b :: r).reverse).length : Nat) : Int) > 0) = true := dt (by simp only [List.length_reverse, length_cons]; omega)
     have e4 : IntKind.i64.wrap ((((((b :: r).reverse).length : Nat) : Int)) - 1) = (((b :: r).length : Nat) : Int) - 1 := by
      rw [List.length_reverse]; exact wr (by simp only [length_cons] at h2 ⊢; omega)
     rw [e3, e4, cond_true, a6 (show ((s ++ ([32] : Str)) ++ a).length + 2 ≤ 274877906944 by simp only [length_cons, length_append, length_nil]; omega), cond_true]
     have e5 : ((s ++ ([32] : Str)) ++ a) ++ ([32, 44] : Str) = s ++ (32 :: (a ++ [32, 44])) := by simp
     have e6 : ((b :: r).reverse ++ a :: done.reverse) = (done ++ [a] ++ (b :: r)).reverse := by simp
     rw [e5, e6, ih]
     simp [H])
theorem O7 {b : Nd} {ks : List Tr} (h : n9 (.mk b ks) = true) : C3 b = true ∧ l9 ks = true := by rw [n9, and_eq_true] at h; exact h
theorem b2y {t : Tr} (h : l9 [t] = true) : n9 t = true := by simpa [l9] using h
theorem b7E {t u : Tr} (h : l9 [t, u] = true) : n9 t = true ∧ n9 u = true := by simpa [l9] using h
theorem c6a {t u v : Tr} (h : l9 [t, u, v] = true) : n9 t = true ∧ n9 u = true ∧ n9 v = true := by simpa [l9] using h
theorem b7F {e : List Nd} {j : Nat} {t : Tr} (ht : Emb e j t) : ∃ n, nth e j = some n ∧ n.1 = t.op := by
 have hjl := a2A ht
 refine ⟨e[j], by rw [nth_getElem?]; exact List.getElem?_eq_getElem hjl, ?_⟩
 have := a2B ht
 rw [← this]; exact (a3z (by rw [nth_getElem?]; exact List.getElem?_eq_getElem hjl)).symm
theorem a2J {e : List Nd} {j : Nat} {n : Nd} {ts : List Str} (hn : nth e j = some n) (asked : Int) (h1 : 1 ≤ ts.length) (hw : a9x T.rf e (j : Nat) = some (txt ts)) (hlen : (txt ts).length ≤ 100000000) :
  a3a T.rf e (j : Nat) asked = some (txt (n0 asked (n.1, ts))) := d1R (by
 have hj : j < e.length := by rw [nth_getElem?] at hn; exact (List.getElem?_eq_some_iff.1 hn).1
 have e1 : inb ((j : Nat) : Int) e.length = true := D1 (by omega) (by omega)
 simp only [c1v, hw, bind_some, e1, cond_true, Int.toNat_natCast, hn, a1p, n0]
 by_cases hl : (D2 n.1).2 ≥ asked
 · rw [df (show ¬ (D2 n.1).2 < asked by omega), if_pos hl, cond_false]
 · rw [dt (show (D2 n.1).2 < asked by omega), if_neg hl, cond_true, a6 (show 2 + (txt ts).length ≤ 274877906944 by omega), cond_true, a6 (show (([40, 32] : Str) ++ txt ts).length + 2 ≤ 274877906944 by simp; omega), cond_true]
   rw [y0, a0G, T8 h1]
   simp [J])
theorem a9P {a : Int} {x : Int × List Str} (h : 1 ≤ x.2.length) : 1 ≤ (n0 a x).length := by have := J6 a x; omega
theorem b8A {e : List Nd} : ∀ (m : Nat) (t : Tr) (i : Nat), t.size ≤ m → Emb e i t → Valid t → n9 t = true → t.size ≤ 5000 →
  (t.op ≠ 28 → a9x T.rf e (i : Nat) = some (txt (j9 t))) ∧
  (t.op = 28 → ∃ l : List Str, l ≠ [] ∧ H l = J (j9 t) ∧ l.length ≤ t.size ∧ ∀ acc : List Str, acc.length + l.length ≤ 1000000 → b7g T.rb acc e (i : Nat) = some (acc ++ l.reverse)) := by
 intro m
 induction m with
 | zero => intro t i h; have := t.size_pos; omega
 | succ m ih =>
   intro t i hm ht hv hnt hN
   have hi : i < e.length := a2A ht
   have e1 : inb ((i : Nat) : Int) e.length = true := D1 (by omega) (by omega)
   have LT : ∀ {u : Tr} {k : Nat}, Emb e k u → Valid u → n9 u = true → u.size ≤ 5000 → (txt (j9 u)).length ≤ 1100000 := fun hu hvu hnu hsu => by
    have h1 := (o4 _ _ _ (Nat.le_refl _) hu hvu).2
    have h2 := a3T (I8 _ hnu)
    omega
   cases shape ht hv with
   | leaf h hn hNN hs =>
     rename_i op a b c nn nm
     refine ⟨fun _ => a8Y ?_, fun h28 => by have h28 : op = 28 := h28; omega⟩
     have hm2 := X5 op
     rw [Y8 h]
     rcases h with rfl | rfl | rfl
     · simp only [a5B, e1, cond_true, Int.toNat_natCast, hn, bind_some, show ((1 : Int) == 1) = true from rfl, a4P (n := nn) (by omega)]
       simp [y0, a2T]
     · simp only [a5B, e1, cond_true, cond_false, Int.toNat_natCast, hn, bind_some, show ((2 : Int) == 1) = false from rfl, show ((2 : Int) == 2) = true from rfl]
       simp only [y0, a2T, a2c]
       by_cases h1 : nn = 1
       · subst h1; rfl
       · rw [bf h1, cond_false]; simp [h1]
     · simp only [a5B, e1, cond_true, cond_false, Int.toNat_natCast, hn, bind_some, show ((3 : Int) == 1) = false from rfl, show ((3 : Int) == 2) = false from rfl, show ((3 : Int) == 3) = true from rfl]
       simp [y0, a2T]
   | call0 hn hNN hs =>
     rename_i b c nn nm
     have hnl := Q7 (O7 hnt).1
     simp only at hnl
     refine ⟨fun _ => a8Y ?_, fun h28 => by cases h28⟩
     have hc : b9J T.rf e (i : Nat) = some (nm ++ [32, 40, 32, 41]) := c4O (by
      simp only [b8v, e1, cond_true, Int.toNat_natCast, hn, bind_some, show decide ((-1 : Int) < 0) = true from rfl, a6 (show nm.length + 4 ≤ 274877906944 by omega)])
     rw [T1]
     simp only [a5B, e1, cond_true, cond_false, Int.toNat_natCast, hn, bind_some, show ((27 : Int) == 1) = false from rfl, show ((27 : Int) == 2) = false from rfl, show ((27 : Int) == 3) = false from rfl, show ((27 : Int) == 27) = true from rfl, hc]
     simp [y0, J8, a2T]
   | call1 hn hNN hs hj ht1 hv1 ho =>
     rename_i b c nn nm j t1
     have hnl := Q7 (O7 hnt).1
     simp only at hnl
     rw [T0] at hN hm
     have hn1 := b2y (O7 hnt).2
     refine ⟨fun _ => a8Y ?_, fun h28 => by cases h28⟩
     obtain ⟨l, l1, l2, l3, l4⟩ := (ih t1 j (by omega) ht1 hv1 hn1 (by omega)).2 ho
     have hJ := c1E (I8 _ hn1)
     have hT := (o4 _ _ _ (Nat.le_refl _) ht1 hv1).2
     have hlp := List.length_pos_iff.2 l1
     have w2 := a2z l [] (nm ++ [32, 40]) (by rw [l2]; simp; omega) (by simp; omega)
     simp only [List.nil_append] at w2
     have w1 := l4 [] (by simp; omega)
     rw [List.nil_append] at w1
     have hc : b9J T.rf e (i : Nat) = some (((nm ++ [32, 40]) ++ H l) ++ [32, 41]) := c4O (by
      simp only [b8v, e1, cond_true, cond_false, Int.toNat_natCast, hn, bind_some, df (show ¬ ((j : Nat) : Int) < 0 by omega), w1, a6 (show nm.length + 2 ≤ 274877906944 by omega), List.length_reverse, show IntKind.i64.wrap (((l.length : Nat) : Int) - 1) = ((l.length : Nat) : Int) - 1 from wr (by omega), w2, a6 (show ((nm ++ [32, 40]) ++ H l).length + 2 ≤ 274877906944 by rw [l2]; simp; omega)])
     rw [T3]
     simp only [a5B, e1, cond_true, cond_false, Int.toNat_natCast, hn, bind_some, show ((27 : Int) == 1) = false from rfl, show ((27 : Int) == 2) = false from rfl, show ((27 : Int) == 3) = false from rfl, show ((27 : Int) == 27) = true from rfl, hc]
     rw [l2, y0, J8, a0G, J8, a2T]
     simp
   | arg1 hn hNN hs hj ht1 hv1 ho =>
     rename_i c nn nm j t1
     rw [T0] at hN hm ⊢
     have hn1 := b2y (O7 hnt).2
     have w := (ih t1 j (by omega) ht1 hv1 hn1 (by omega)).1 ho
     have h1 := (o4 _ _ _ (Nat.le_refl _) ht1 hv1).1
     refine ⟨fun h28 => absurd rfl h28, fun _ => ⟨[txt (j9 t1)], by simp, by rw [Y6, T8 h1]; rfl, by simp, fun acc hacc => b7Q ?_⟩⟩
     have last : b7g T.rb (acc ++ [txt (j9 t1)]) e (-1) = some (acc ++ [txt (j9 t1)]) := b7Q (by
      simp only [b4z, show decide ((-1 : Int) ≥ 0) = false from rfl, cond_false])
     simp only [length_cons, length_nil] at hacc
     simp only [b4z, dt (show ((i : Nat) : Int) ≥ 0 by omega), e1, cond_true, Int.toNat_natCast, hn, bind_some, w, a6 (show acc.length + 1 ≤ 274877906944 by omega), Bool.and_true, last]
     rfl
   | arg2 hn hNN hs hj ht1 hv1 ho hk hu hvu hou =>
     rename_i c nn nm j k t1 u1
     rw [a2q] at hN hm ⊢
     obtain ⟨hn1, hn2⟩ := b7E (O7 hnt).2
     have w := (ih u1 k (by omega) hu hvu hn2 (by omega)).1 hou
     obtain ⟨l, l1, l2, l3, l4⟩ := (ih t1 j (by omega) ht1 hv1 hn1 (by omega)).2 ho
     have h1 := (o4 _ _ _ (Nat.le_refl _) hu hvu).1
     have hsu := u1.size_pos
     refine ⟨fun h28 => absurd rfl h28, fun _ => ⟨l ++ [txt (j9 u1)], by simp, by rw [b5J l _ l1, Y7, a0G, J8, l2, T8 h1]; simp, by simp; omega, fun acc hacc => b7Q ?_⟩⟩
     simp only [length_append, length_cons, length_nil] at hacc
     have w2 := l4 (acc ++ [txt (j9 u1)]) (by simp; omega)
     simp only [b4z, dt (show ((i : Nat) : Int) ≥ 0 by omega), e1, cond_true, Int.toNat_natCast, hn, bind_some, w, a6 (show acc.length + 1 ≤ 274877906944 by omega), Bool.and_true, w2]
     simp
   | ite hn hNN hs hj ht1 hv1 ho hk hu hvu hou hl hw hvw how =>
     rename_i nn nm j k l t1 u1 v1
     rw [b1E] at hN hm
     obtain ⟨hn1, hn2, hn3⟩ := c6a (O7 hnt).2
     refine ⟨fun _ => a8Y ?_, fun h28 => by cases h28⟩
     have a1 := (o4 _ _ _ (Nat.le_refl _) ht1 hv1).1
     have a2 := (o4 _ _ _ (Nat.le_refl _) hu hvu).1
     have a3 := (o4 _ _ _ (Nat.le_refl _) hw hvw).1
     have b1 := LT ht1 hv1 hn1 (by omega)
     have b2 := LT hu hvu hn2 (by omega)
     have b3 := LT hw hvw hn3 (by omega)
     have w1 := (ih t1 j (by omega) ht1 hv1 hn1 (by omega)).1 ho
     have w2 := (ih u1 k (by omega) hu hvu hn2 (by omega)).1 hou
     have w3 := (ih v1 l (by omega) hw hvw hn3 (by omega)).1 how
     rw [a1z]
     simp only [a5B, e1, cond_true, cond_false, Int.toNat_natCast, hn, bind_some, show ((26 : Int) == 1) = false from rfl, show ((26 : Int) == 2) = false from rfl, show ((26 : Int) == 3) = false from rfl, show ((26 : Int) == 27) = false from rfl, show ((26 : Int) == 26) = true from rfl, w1, w2, w3,
      length_append, length_cons, length_nil, a6 (show 3 + (txt (j9 t1)).length ≤ 274877906944 by omega), a6 (show 0 + 1 + 1 + 1 + (txt (j9 t1)).length + 6 ≤ 274877906944 by omega),
      a6 (show 0 + 1 + 1 + 1 + (txt (j9 t1)).length + (0 + 1 + 1 + 1 + 1 + 1 + 1) + (txt (j9 u1)).length ≤ 274877906944 by omega), a6 (show 0 + 1 + 1 + 1 + (txt (j9 t1)).length + (0 + 1 + 1 + 1 + 1 + 1 + 1) + (txt (j9 u1)).length + 6 ≤ 274877906944 by omega),
      a6 (show 0 + 1 + 1 + 1 + (txt (j9 t1)).length + (0 + 1 + 1 + 1 + 1 + 1 + 1) + (txt (j9 u1)).length + (0 + 1 + 1 + 1 + 1 + 1 + 1) + (txt (j9 v1)).length ≤ 274877906944 by omega)]
     rw [y0, a0G, J8, a0G, J8, T8 a1, T8 a2, T8 a3]
     simp [show opX 26 = [105, 102] from rfl]
   | un h hn hNN hs hj ht1 hv1 ho =>
     rename_i op b c nn nm j t1
     rw [T0] at hN hm
     have hn1 := b2y (O7 hnt).2
     refine ⟨fun _ => a8Y ?_, fun h28 => by have h28 : op = 28 := h28; omega⟩
     have hm2 := X5 op
     have a1 := (o4 _ _ _ (Nat.le_refl _) ht1 hv1).1
     have b1 := LT ht1 hv1 hn1 (by omega)
     obtain ⟨n1, hd1, ho1⟩ := b7F ht1
     have w := (ih t1 j (by omega) ht1 hv1 hn1 (by omega)).1 ho
     have P := a2J hd1 9 a1 w (by omega)
     rw [ho1] at P
     have hlv : (D2 op).2 = 9 := c4a h
     have hpn := a9P (a := 9) (x := (t1.op, j9 t1)) a1
     have hpl : (txt (n0 9 (t1.op, j9 t1))).length ≤ 1100010 := by
      have h2 := a3T (Small.part (a := 9) (x := (t1.op, j9 t1)) (I8 _ hn1))
      have h3 := (o4 _ _ _ (Nat.le_refl _) ht1 hv1).2
      have h4 := J6 9 (t1.op, j9 t1)
      simp only at h4
      omega
     have hol := Q3 op
     have hil := X1 nn
     rw [a3S h]
     by_cases h25 : op = 25
     · subst h25
       simp only [a5B, e1, cond_true, cond_false, Int.toNat_natCast, hn, bind_some, show ((25 : Int) == 1) = false from rfl, show ((25 : Int) == 2) = false from rfl, show ((25 : Int) == 3) = false from rfl, show ((25 : Int) == 27) = false from rfl, show ((25 : Int) == 26) = false from rfl, show ((25 : Int) == 25) = true from rfl, a4P (n := nn) (by omega), P,
        length_append, length_cons, length_nil, a6 (show 7 + (I3 nn).length ≤ 274877906944 by omega), a6 (show 0 + 1 + 1 + 1 + 1 + 1 + 1 + 1 + (I3 nn).length + 1 ≤ 274877906944 by omega), a6 (show 0 + 1 + 1 + 1 + 1 + 1 + 1 + 1 + (I3 nn).length + (0 + 1) + (txt (n0 9 (t1.op, j9 t1))).length ≤ 274877906944 by omega)]
       simp only [if_true]
       rw [y0, a0G, J8, a2T, T8 hpn]
       simp [show opX 25 = [119, 105, 116, 104, 105, 110] from rfl]
     · simp only [a5B, e1, cond_true, cond_false, Int.toNat_natCast, hn, bind_some, bf (show op ≠ 1 by omega), bf (show op ≠ 2 by omega), bf (show op ≠ 3 by omega), bf (show op ≠ 27 by omega), bf (show op ≠ 26 by omega), bf h25, a1p, bt hlv, b1q, show (D2 op).1 = opX op from rfl, P,
        length_append, length_cons, length_nil, a6 (show (opX op).length + 1 ≤ 274877906944 by omega), a6 (show (opX op).length + (0 + 1) + (txt (n0 9 (t1.op, j9 t1))).length ≤ 274877906944 by omega)]
       rw [y0, if_neg h25, List.nil_append, T8 hpn]
       simp
   | bin h hn hNN hs hj ht1 hv1 ho hk hu hvu hou =>
     rename_i op c nn nm j k t1 u1
     rw [a2q] at hN hm
     obtain ⟨hn1, hn2⟩ := b7E (O7 hnt).2
     refine ⟨fun _ => a8Y ?_, fun h28 => by have h28 : op = 28 := h28; omega⟩
     have a1 := (o4 _ _ _ (Nat.le_refl _) ht1 hv1).1
     have b1 := LT ht1 hv1 hn1 (by omega)
     have a2 := (o4 _ _ _ (Nat.le_refl _) hu hvu).1
     have b2 := LT hu hvu hn2 (by omega)
     obtain ⟨n1, hd1, ho1⟩ := b7F ht1
     obtain ⟨n2, hd2, ho2⟩ := b7F hu
     have w1 := (ih t1 j (by omega) ht1 hv1 hn1 (by omega)).1 ho
     have w2 := (ih u1 k (by omega) hu hvu hn2 (by omega)).1 hou
     have P : ∀ asked : Int, a3a T.rf e (j : Nat) asked = some (txt (n0 asked (t1.op, j9 t1))) := fun asked => by
      have := a2J hd1 asked a1 w1 (by omega); rwa [ho1] at this
     have Q : ∀ asked : Int, a3a T.rf e (k : Nat) asked = some (txt (n0 asked (u1.op, j9 u1))) := fun asked => by
      have := a2J hd2 asked a2 w2 (by omega); rwa [ho2] at this
     obtain ⟨lv1, lv2⟩ := b7w h
     have hol := Q3 op
     have pl : ∀ asked : Int, (txt (n0 asked (t1.op, j9 t1))).length ≤ 1100010 := fun asked => by
      have h2 := a3T (Small.part (a := asked) (x := (t1.op, j9 t1)) (I8 _ hn1))
      have h3 := (o4 _ _ _ (Nat.le_refl _) ht1 hv1).2
      have h4 := J6 asked (t1.op, j9 t1)
      simp only at h4
      omega
     have ql : ∀ asked : Int, (txt (n0 asked (u1.op, j9 u1))).length ≤ 1100010 := fun asked => by
      have h2 := a3T (Small.part (a := asked) (x := (u1.op, j9 u1)) (I8 _ hn2))
      have h3 := (o4 _ _ _ (Nat.le_refl _) hu hvu).2
      have h4 := J6 asked (u1.op, j9 u1)
      simp only at h4
      omega
     have pn : ∀ asked : Int, 1 ≤ (n0 asked (t1.op, j9 t1)).length := fun asked => a9P a1
     have qn : ∀ asked : Int, 1 ≤ (n0 asked (u1.op, j9 u1)).length := fun asked => a9P a2
     have hlx : (D2 op).2 = lvX op := rfl
     have hw : IntKind.i64.wrap (lvX op + 1) = lvX op + 1 := wr (by omega)
     have fin : ∀ x y : Int, some ((((txt (n0 x (t1.op, j9 t1)) ++ ([32] : Str)) ++ opX op) ++ ([32] : Str)) ++ txt (n0 y (u1.op, j9 u1))) = some (txt (n0 x (t1.op, j9 t1) ++ opX op :: n0 y (u1.op, j9 u1))) := fun x y => by
      rw [b0i (pn x), J8, T8 (qn y)]; simp
     have G1 : ∀ x : Int, Nat.ble ((txt (n0 x (t1.op, j9 t1))).length + 1) j4 = true := fun x => a6 (by have := pl x; omega)
     have G2 : ∀ x : Int, Nat.ble ((txt (n0 x (t1.op, j9 t1)) ++ ([32] : Str)).length + (opX op).length) j4 = true := fun x => a6 (by have := pl x; simp; omega)
     have G3 : ∀ x : Int, Nat.ble (((txt (n0 x (t1.op, j9 t1)) ++ ([32] : Str)) ++ opX op).length + 1) j4 = true := fun x => a6 (by have := pl x; simp; omega)
     have G4 : ∀ x y : Int, Nat.ble ((((txt (n0 x (t1.op, j9 t1)) ++ ([32] : Str)) ++ opX op) ++ ([32] : Str)).length + (txt (n0 y (u1.op, j9 u1))).length) j4 = true := fun x y => a6 (by have := pl x; have := ql y; simp; omega)
     rw [a1y h]
     simp only [a5B, e1, cond_true, cond_false, Int.toNat_natCast, hn, bind_some, bf (show op ≠ 1 by omega), bf (show op ≠ 2 by omega), bf (show op ≠ 3 by omega), bf (show op ≠ 27 by omega), bf (show op ≠ 26 by omega), bf (show op ≠ 25 by omega), a1p, hlx, bf (show lvX op ≠ 9 by omega), hw, b1q, show (D2 op).1 = opX op from rfl, P, Q, G1, G2, G3, G4, fin, a6U, a2L]
     by_cases h2 : lvX op ≤ 2
     · simp only [dt h2, cond_true, bf (show lvX op ≠ 6 by omega), cond_false, if_pos h2]
     · simp only [df h2, cond_false, if_neg h2]
       by_cases h6 : lvX op = 6
       · simp only [bt h6, cond_true, if_pos h6, h6]; rfl
       · simp only [bf h6, cond_false, if_neg h6]
theorem a9Z {e : List Nd} {t : Tr} (h : F9 e = true) (ht : Emb e (e.length - 1) t) (hv : Valid t) (hs : t.size ≤ 5000) (hop : t.op ≠ 28) (hl : e.length ≤ 1000000) :
  a9w T.rf e = some (if n9 t = true then txt (j9 t) else []) := c4M (by
 have hpos := List.length_pos_iff.2 (a2i h).ne
 simp only [b8t, N2 hl, bind_some, B3, h, Bool.true_and, a2F h ht]
 cases hn : n9 t with
 | false => rfl
 | true =>
   have w := (b8A t.size t (e.length - 1) (Nat.le_refl _) ht hv hn hs).1 hop
   rw [a0a (a2i h).ne (by omega), Bool.not_true, cond_false, w]
   rfl)
theorem b1r {e : List Nd} (h : F9 e = false) (hl : e.length ≤ 1000000) : a9w T.rf e = some [] := c4M (by
 simp only [b8t, N2 hl, bind_some, B3, h, Bool.false_and]; rfl)
abbrev s4 : Type := Int × Str × Int
def b8I : List Str := [[45, 62], [61, 62], [60, 61], [62, 61], [60, 62], [61], [60], [62], [43], [45], [42], [40], [41], [44], [59], [58]]
inductive Tok : Str → Prop
 | num {n : Int} (h : 0 ≤ n ∧ n ≤ 2147483647) : Tok (I3 n)
 | name {s : Str} (h : o5 s = true) : Tok s
 | word {s : Str} (h : a1B s = true) : Tok s
 | sign {s : Str} (h : s ∈ b8I) : Tok s
def a6R (s : Str) : Int := bif a6p (s.headD 0) then 2 else bif a1B s then 3 else bif o5 s then 1 else 4
def Gap (rest : Str) : Prop := rest = [] ∨ ∃ r, rest = 32 :: r
theorem Gap.part {rest : Str} (h : Gap rest) : rest = [] ∨ ∃ c r, rest = c :: r ∧ P4 c = false := by
 rcases h with rfl | ⟨r, rfl⟩
 · exact .inl rfl
 · exact .inr ⟨32, r, rfl, by decide⟩
def Reads (L : List s4) : Nat → List Str → Prop
 | _, [] => True
 | i, s :: r => (∃ a, nth L i = some (a6R s, s, a)) ∧ Reads L (i + 1) r
theorem a8m {L : List s4} : ∀ {a b : List Str} {i : Nat}, Reads L i (a ++ b) ↔ Reads L i a ∧ Reads L (i + a.length) b
 | [], b, i => by simp [Reads]
 | s :: a, b, i => by
   rw [List.cons_append, Reads, Reads, a8m, length_cons, show i + 1 + a.length = i + (a.length + 1) by omega, and_assoc]
theorem c6y : ∀ k, k < 28 → 4 ≤ k → k ≠ 27 → a1B (a7f.getD k ([], -1)).1 = true ∨ (a7f.getD k ([], -1)).1 ∈ b8I := by decide +kernel
theorem b0h {op : Int} (h : 4 ≤ op ∧ op ≤ 26) : Tok (opX op) := by
 have h1 : opX op = (a7f.getD op.toNat ([], -1)).1 := by unfold opX D2; rw [if_pos (by omega)]
 rw [h1]
 rcases c6y op.toNat (by omega) (by omega) (by omega) with g | g
 · exact .word g
 · exact .sign g
theorem b8W (n : Int) : Tok (a2c n) := by
 unfold a2c; split
 · exact .word (by decide +kernel)
 · exact .word (by decide +kernel)
def a2U (l : List Str) : Prop := ∀ s ∈ l, Tok s
theorem a2U.app {a b : List Str} (h : a2U a) (k : a2U b) : a2U (a ++ b) := fun s hs => (List.mem_append.1 hs).elim (h s) (k s)
theorem a2U.cons {a : Str} {b : List Str} (h : Tok a) (k : a2U b) : a2U (a :: b) := fun s hs => by
 rcases List.mem_cons.1 hs with rfl | hs
 · exact h
 · exact k s hs
theorem a2U.nil : a2U [] := fun s hs => by cases hs
theorem a2U.part {a : Int} {x : Int × List Str} (h : a2U x.2) : a2U (n0 a x) := by
 unfold n0; split
 · exact h
 · exact .cons (.sign (by decide)) (h.app (.cons (.sign (by decide)) .nil))
theorem b2A {b : Nd} (h : C3 b = true) (hne : b.2.2.2.2.2 ≠ []) : Tok b.2.2.2.2.2 := by
 rw [C3, Bool.or_eq_true] at h
 rcases h with h | h
 · exact absurd (eq_of_beq h) hne
 · exact .name h
theorem b8X {e : List Nd} : ∀ (m : Nat) (t : Tr) (i : Nat), t.size ≤ m → Emb e i t → Valid t → n9 t = true → a2U (j9 t) := by
 intro m
 induction m with
 | zero => intro t i h; have := t.size_pos; omega
 | succ m ih =>
   intro t i hm ht hv hn
   cases shape ht hv with
   | leaf h hx hN hs =>
     rename_i op a b c nn nm
     have hm2 := X5 op
     rw [Y8 h]
     refine .cons ?_ .nil
     rw [n9, and_eq_true] at hn
     split
     · exact .num (by omega)
     split
     · exact b8W _
     · exact b2A hn.1 (hs.2 (by omega))
   | call0 hx hN hs =>
     rw [n9, and_eq_true] at hn
     rw [T1]
     exact .cons (b2A hn.1 hs) (.cons (.sign (by decide)) (.cons (.sign (by decide)) .nil))
   | call1 hx hN hs hj ht1 hv1 ho =>
     rw [T0] at hm
     rw [n9, and_eq_true, l9, l9, Bool.and_true] at hn
     rw [T3]
     exact .cons (b2A hn.1 hs) (.cons (.sign (by decide)) ((ih _ _ (by omega) ht1 hv1 hn.2).app (.cons (.sign (by decide)) .nil)))
   | arg1 hx hN hs hj ht1 hv1 ho =>
     rw [T0] at hm
     rw [n9, and_eq_true, l9, l9, Bool.and_true] at hn
     rw [Y6]
     exact ih _ _ (by omega) ht1 hv1 hn.2
   | arg2 hx hN hs hj ht1 hv1 ho hk hu hvu hou =>
     rw [a2q] at hm
     rw [n9, and_eq_true, l9, l9, l9, Bool.and_true, and_eq_true] at hn
     rw [Y7]
     exact (ih _ _ (by omega) ht1 hv1 hn.2.1).app (.cons (.sign (by decide)) (ih _ _ (by omega) hu hvu hn.2.2))
   | ite hx hN hs hj ht1 hv1 ho hk hu hvu hou hl hw hvw how =>
     rw [b1E] at hm
     rw [n9, and_eq_true, l9, l9, l9, l9, Bool.and_true, and_eq_true, and_eq_true] at hn
     rw [a1z]
     exact .cons (b0h (by omega)) ((ih _ _ (by omega) ht1 hv1 hn.2.1).app (.cons (.word (by decide +kernel)) ((ih _ _ (by omega) hu hvu hn.2.2.1).app (.cons (.word (by decide +kernel)) (ih _ _ (by omega) hw hvw hn.2.2.2)))))
   | un h hx hN hs hj ht1 hv1 ho =>
     rename_i op b c nn nm j t1
     have hm2 := X5 op
     rw [T0] at hm
     rw [n9, and_eq_true, l9, l9, Bool.and_true] at hn
     rw [a3S h]
     refine .cons (b0h (by omega)) (.app ?_ (.part (ih _ _ (by omega) ht1 hv1 hn.2)))
     split
     · exact .cons (.num (by omega)) .nil
     · exact .nil
   | bin h hx hN hs hj ht1 hv1 ho hk hu hvu hou =>
     rename_i op c nn nm j k t1 u1
     rw [a2q] at hm
     rw [n9, and_eq_true, l9, l9, l9, Bool.and_true, and_eq_true] at hn
     rw [a1y h]
     exact .app (.part (ih _ _ (by omega) ht1 hv1 hn.2.1)) (.cons (b0h (by omega)) (.part (ih _ _ (by omega) hu hvu hn.2.2)))
end Go.Proofs.YtlobhcgbmpcdlaaGreatDoor.R
end
