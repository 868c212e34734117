import Derived.Test.YtoippcahbninnaaGreatDoorTreX
import Derived.Test.YtoippcahbninnaaGreatDoorBmExt
/-
  OUR OWN: names, words, operators' texts: what the functions come to, in plain terms.
-/
namespace Go.Proofs.YtoippcahbninnaaGreatDoor.R
open Go Go.Bm Go.Proofs
set_option linter.unusedVariables false
set_option linter.unusedSimpArgs false
set_option maxRecDepth 4000

/-! ### Words -/
def wordB (s : List UInt8) : Bool := decide (s ∈ wordsX)

theorem ltB_irr : ∀ s : List UInt8, ltB s s = false
  | [] => rfl
  | a :: s => by
    have : ¬ a < a := by simp
    simp only [ltB, df this, ltB_irr s, Bool.and_false, Bool.or_false]

theorem ltB_trans : ∀ {a b c : List UInt8}, ltB a b = true → ltB b c = true → ltB a c = true
  | a, [], c, h, _ => by
    have : ltB a [] = false := by cases a <;> rfl
    rw [this] at h; cases h
  | a, y :: b, [], _, h => by cases h
  | [], y :: b, z :: c, _, _ => rfl
  | x :: a, y :: b, z :: c, h, k => by
    simp only [ltB, Bool.or_eq_true, Bool.and_eq_true, decide_eq_true_eq, beq_iff_eq] at *
    rcases h with h | ⟨rfl, h⟩
    · rcases k with k | ⟨rfl, k⟩
      · exact .inl (UInt8.lt_trans h k)
      · exact .inl h
    · rcases k with k | ⟨rfl, k⟩
      · exact .inl k
      · exact .inr ⟨rfl, ltB_trans h k⟩

theorem words_sorted : ∀ i, i < 35 → ∀ m, m < 35 → i < m → ltB (wordsX.getD i []) (wordsX.getD m []) = true := by decide +kernel
theorem words_len : wordsX.length = 35 := by decide +kernel
theorem words_get {m : Nat} (h : m < 35) : nth wordsX m = some (wordsX.getD m []) := by
  rw [nth_getElem?, List.getD_eq_getElem?_getD, List.getElem?_eq_getElem (by rw [words_len]; exact h)]; rfl

theorem cless_eq (a b : List UInt8) : c61 T.rf a b = some (ltB a b) := or61 (by
  have h : ∀ x : List UInt8, c62 T.rf x = some false := fun x => or62 (by simp [r62])
  simp only [r61, h, Option.bind_some, cond_false])

theorem half_eq {i j : Nat} (h : i + j ≤ 100) : IntKind.i64.wrap (shrI IntKind.u64 (IntKind.u64.wrap (IntKind.i64.wrap ((i : Int) + (j : Int)))) 1) = (((i + j) / 2 : Nat) : Int) := by
  have h0 : IntKind.i64.wrap ((i : Int) + (j : Int)) = (i : Int) + (j : Int) := wr (by omega)
  have h1 : IntKind.u64.wrap ((i : Int) + (j : Int)) = (i : Int) + (j : Int) := IntWalk.u64_in _ (by omega)
  rw [h0, h1]
  have h2 : shrI IntKind.u64 ((i : Int) + (j : Int)) 1 = (((i + j) / 2 : Nat) : Int) := by
    unfold shrI
    have : (min (1 : Int).toNat IntKind.u64.bits) = 1 := by decide
    rw [this]
    have : (2 : Int) ^ 1 = 2 := by decide
    rw [this, Int.fdiv_eq_ediv_of_nonneg _ (by omega)]
    omega
  rw [h2, wr (by omega)]

/-- The search in the words. -/
theorem search_loop (s : List UInt8) : ∀ (f i j : Nat), j - i ≤ f → i ≤ j → j ≤ 35 → (∀ k, k < i → ltB (wordsX.getD k []) s = true) → (∀ k, j ≤ k → k < 35 → ltB (wordsX.getD k []) s = false) →
    ∃ m : Nat, m ≤ 35 ∧ k52 T.rb wordsX s (i : Nat) (j : Nat) = some (m : Int) ∧ (∀ k, k < m → ltB (wordsX.getD k []) s = true) ∧ (∀ k, m ≤ k → k < 35 → ltB (wordsX.getD k []) s = false) := by
  intro f
  induction f with
  | zero =>
    intro i j h1 h2 h3 h4 h5
    have : i = j := by omega
    subst this
    exact ⟨i, h3, ob52 (by simp only [b52, lt_self, cond_false]), h4, h5⟩
  | succ f ih =>
    intro i j h1 h2 h3 h4 h5
    by_cases hij : i < j
    case neg =>
      have : i = j := by omega
      subst this
      exact ⟨i, h3, ob52 (by simp only [b52, lt_self, cond_false]), h4, h5⟩
    have hm : (i + j) / 2 < 35 := by omega
    have step : b52 T.rf T.rb wordsX s (i : Nat) (j : Nat) = bif ltB (wordsX.getD ((i + j) / 2) []) s then k52 T.rb wordsX s (((i + j) / 2 + 1 : Nat) : Int) (j : Nat) else k52 T.rb wordsX s (i : Nat) (((i + j) / 2 : Nat) : Int) := by
      have e1 : decide (((i : Nat) : Int) < ((j : Nat) : Int)) = true := dt (by omega)
      have e2 : inb ((((i + j) / 2 : Nat)) : Int) wordsX.length = true := inb_t (by omega) (by rw [words_len]; omega)
      simp only [b52, e1, cond_true, half_eq (show i + j ≤ 100 by omega), e2, Int.toNat_natCast, words_get hm, Option.bind_some, cless_eq, wr_succ (show (i + j) / 2 < 4611686018427387904 by omega)]
    cases hc : ltB (wordsX.getD ((i + j) / 2) []) s with
    | true =>
      obtain ⟨m, k1, k2, k3, k4⟩ := ih ((i + j) / 2 + 1) j (by omega) (by omega) h3 (fun k hk => by
        rcases Nat.lt_or_ge k ((i + j) / 2) with g | g
        · by_cases hki : k < i
          · exact h4 k hki
          · cases hck : ltB (wordsX.getD k []) s with
            | true => rfl
            | false =>
              exact absurd hck (by
                have hs := words_sorted k (by omega) ((i + j) / 2) hm g
                intro hck
                exact absurd (ltB_trans hs hc) (by rw [hck]; decide))
        · have : k = (i + j) / 2 := by omega
          subst this; exact hc) h5
      exact ⟨m, k1, ob52 (by rw [step, hc, cond_true]; exact k2), k3, k4⟩
    | false =>
      obtain ⟨m, k1, k2, k3, k4⟩ := ih i ((i + j) / 2) (by omega) (by omega) (by omega) h4 (fun k hk hk2 => by
        rcases Nat.lt_or_ge ((i + j) / 2) k with g | g
        · cases hck : ltB (wordsX.getD k []) s with
          | false => rfl
          | true =>
            have hs := words_sorted ((i + j) / 2) hm k hk2 g
            exact absurd (ltB_trans hs hck) (by rw [hc]; decide)
        · have : k = (i + j) / 2 := by omega
          subst this; exact hc)
      exact ⟨m, k1, ob52 (by rw [step, hc, cond_false]; exact k2), k3, k4⟩

theorem isWord_eq (s : List UInt8) : c59 T.rf s = some (wordB s) := or59 (by
  have hn : ∀ x : List UInt8, c63 T.rf x = some false := fun x => or63 (by simp [r63])
  obtain ⟨m, h1, h2, h3, h4⟩ := search_loop s 35 0 35 (by omega) (by omega) (by omega) (fun k hk => by omega) (fun k h1 h2 => by omega)
  have h2' : k52 T.rb wordsX s 0 (((wordsX.length : Nat) : Int)) = some (m : Int) := by rw [words_len]; exact h2
  have hb : ∃ x, c60 T.rf wordsX s = some (x, wordB s) := by
    have key : wordB s = decide (m < 35 ∧ wordsX.getD m [] = s) := by
      unfold wordB
      apply decide_eq_decide.2
      constructor
      · intro hs
        obtain ⟨k, hk⟩ := List.mem_iff_getElem?.1 hs
        have hk35 : k < 35 := by have := (List.getElem?_eq_some_iff.1 hk).1; rwa [words_len] at this
        have hks : wordsX.getD k [] = s := by rw [List.getD_eq_getElem?_getD, hk]; rfl
        have : m = k := by
          rcases Nat.lt_trichotomy m k with g | g | g
          · have a1 := words_sorted m (by omega) k hk35 g
            rw [hks, h4 m (Nat.le_refl _) (by omega)] at a1; cases a1
          · exact g
          · have a1 := h3 k g
            rw [hks, ltB_irr] at a1; cases a1
        subst this
        exact ⟨hk35, hks⟩
      · rintro ⟨g1, g2⟩
        rw [← g2, List.getD_eq_getElem?_getD, List.getElem?_eq_getElem (by rw [words_len]; exact g1)]
        exact List.getElem_mem _
    by_cases hm : m < 35
    · have e1 : decide (((m : Nat) : Int) < ((wordsX.length : Nat) : Int)) = true := dt (by rw [words_len]; omega)
      have e2 : inb ((m : Nat) : Int) wordsX.length = true := inb_t (by omega) (by rw [words_len]; omega)
      refine ⟨m, or60 ?_⟩
      rw [key]
      simp only [r60, h2', Option.bind_some, e1, cond_true, e2, Int.toNat_natCast, words_get hm, hn, cond_false]
      cases hc : wordsX.getD m [] == s with
      | true => rw [dt ⟨hm, eq_of_beq hc⟩]; rfl
      | false => rw [df (fun g => by rw [g.2, beq_self_eq_true] at hc; cases hc)]; rfl
    · have e1 : decide (((m : Nat) : Int) < ((wordsX.length : Nat) : Int)) = false := df (by rw [words_len]; omega)
      refine ⟨m, or60 ?_⟩
      rw [key, df (fun g => hm g.1)]
      simp only [r60, h2', Option.bind_some, e1, cond_false]
  obtain ⟨x, hx⟩ := hb
  simp only [r59, hx, Option.bind_some])

theorem refIsWord_loop (s : List UInt8) : ∀ (suf pre : List (List UInt8)), pre.length + suf.length ≤ 100 →
    ∃ z, k5 T.rb (pre ++ suf) s (pre.length : Nat) = some z ∧ ((s ∈ suf ∧ ∃ u, z = .inl (u, true)) ∨ (s ∉ suf ∧ ∃ u, z = .inr u))
  | [], pre, h => ⟨.inr pre, ob5 (by simp only [b5, lt_end, lt_self, List.append_nil, cond_false]), .inr ⟨by simp, _, rfl⟩⟩
  | x :: suf, pre, h => by
    simp only [List.length_cons] at h
    obtain ⟨z, h1, h2⟩ := refIsWord_loop s suf (pre ++ [x]) (by simp; omega)
    simp only [List.append_assoc, List.singleton_append] at h1
    by_cases hx : x = s
    · exact ⟨_, ob5 (by
        simp only [b5, lt_mid, inb_mid, nth_mid, cond_true, Option.bind_some, beq_iff_eq.2 hx]
        rfl), .inl ⟨by simp [hx], _, rfl⟩⟩
    · refine ⟨z, ob5 (by
        simp only [b5, lt_mid, inb_mid, nth_mid, cond_true, Option.bind_some, beq_eq_false_iff_ne.2 hx, cond_false, next_mid pre x (by omega)]
        exact h1), ?_⟩
      rcases h2 with ⟨g1, g2⟩ | ⟨g1, g2⟩
      · exact .inl ⟨List.mem_cons_of_mem _ g1, g2⟩
      · exact .inr ⟨by simp only [List.mem_cons, not_or]; exact ⟨fun e => hx e.symm, g1⟩, g2⟩

theorem refWords_eq : c10 T.rf = some wordsX := or10 rfl
theorem refIsWord_eq (s : List UInt8) : c9 T.rf s = some (wordB s) := or9 (by
  obtain ⟨z, h1, h2⟩ := refIsWord_loop s wordsX [] (by rw [words_len]; decide)
  simp only [List.nil_append, List.length_nil] at h1
  rw [show ((0 : Nat) : Int) = (0 : Int) from rfl] at h1
  simp only [r9, refWords_eq, Option.bind_some, h1, wordB]
  rcases h2 with ⟨g, u, rfl⟩ | ⟨g, u, rfl⟩
  · rw [dt g]
  · rw [df g])

/-! ### Names -/
def letB (c : UInt8) : Bool := decide (97 ≤ c.toNat ∧ c.toNat ≤ 122) || decide (c.toNat = 95)
def digB (c : UInt8) : Bool := decide (48 ≤ c.toNat ∧ c.toNat ≤ 57)
theorem partB_eq (c : UInt8) : partB c = (letB c || digB c) := by
  unfold partB letB digB
  rw [Bool.eq_iff_iff]
  simp only [Bool.or_eq_true, Bool.and_eq_true, decide_eq_true_eq, Nat.ble_eq, Nat.beq_eq]
theorem let_dig {c : UInt8} (h : partB c = true) : letB c = !(digB c) := by
  rw [partB_eq] at h
  unfold letB digB at *
  rw [Bool.eq_iff_iff]
  simp only [Bool.or_eq_true, decide_eq_true_eq, Bool.not_eq_true', decide_eq_false_iff_not] at *
  omega

theorem rowX_all : ∀ s : List UInt8, (rowX s == s) = s.all partB
  | [] => rfl
  | c :: s => by
    cases h : partB c with
    | true =>
      simp only [rowX, h, cond_true, List.all_cons, Bool.true_and]
      rw [← rowX_all s]
      show (c == c && rowX s == s) = _
      rw [beq_self_eq_true, Bool.true_and]
    | false =>
      simp only [rowX, h, cond_false, List.all_cons, Bool.false_and]
      rfl

/-- Is a text a name? -/
def nameB (s : List UInt8) : Bool := decide (s ≠ []) && (decide (s.length ≤ 40) && (s.all partB && (letB (s.headD 0) && !(wordB s))))

theorem row_eq (s : List UInt8) : c57 T.rf s = some (rowX s) := or57 rfl
theorem isDigit_eq (c : UInt8) : c58 T.rf (((c.toNat : Nat) : Int)) = some (digB c) := or58 (by
  unfold digB
  by_cases h1 : 48 ≤ c.toNat
  · by_cases h2 : c.toNat ≤ 57
    · simp only [r58, dt (show ((c.toNat : Nat) : Int) ≥ 48 by omega), dt (show ((c.toNat : Nat) : Int) ≤ 57 by omega), dt (show 48 ≤ c.toNat ∧ c.toNat ≤ 57 from ⟨h1, h2⟩), cond_true]
    · simp only [r58, dt (show ((c.toNat : Nat) : Int) ≥ 48 by omega), df (show ¬ ((c.toNat : Nat) : Int) ≤ 57 by omega), df (show ¬ (48 ≤ c.toNat ∧ c.toNat ≤ 57) from fun h => h2 h.2), cond_true]
  · simp only [r58, df (show ¬ ((c.toNat : Nat) : Int) ≥ 48 by omega), df (show ¬ (48 ≤ c.toNat ∧ c.toNat ≤ 57) from fun h => h1 h.1), cond_false])

theorem isName_eq (s : List UInt8) : c56 T.rf s = some (nameB s) := or56 (by
  unfold nameB
  cases s with
  | nil => rfl
  | cons c r =>
    have e1 : ((c :: r) == ([] : List UInt8)) = false := rfl
    have e2 : IntKind.i32.wrap (((c.toNat : Nat) : Int)) = ((c.toNat : Nat) : Int) := IntWalk.i32_in _ (by have := c.toNat_lt; omega)
    have e3 : inb 0 (c :: r).length = true := inb_t (by omega) (by simp only [List.length_cons]; omega)
    have e4 : nth (c :: r) 0 = some c := rfl
    simp only [r56, e1, Bool.not_false, cond_true, row_eq, Option.bind_some, rowX_all, e3, e4, e2, isDigit_eq, isWord_eq, dt (show (c :: r) ≠ [] by simp), Bool.true_and, List.headD_cons]
    by_cases hl : (c :: r).length ≤ 40
    case neg => rw [df (by omega), df hl]; rfl
    rw [dt (by omega), dt hl, cond_true, Bool.true_and]
    cases ha : (c :: r).all partB with
    | false => rfl
    | true =>
      have hc : partB c = true := by simp only [List.all_cons, Bool.and_eq_true] at ha; exact ha.1
      rw [cond_true, let_dig hc, Bool.true_and]
      cases digB c <;> rfl)

theorem refLetter_eq (c : UInt8) : c7 T.rf (((c.toNat : Nat) : Int)) = some (letB c) := or7 (by
  unfold letB
  have hb : ((((c.toNat : Nat) : Int)) == 95) = decide (c.toNat = 95) := by
    by_cases h : c.toNat = 95
    · rw [bt (by omega), dt h]
    · rw [bf (by omega), df h]
  by_cases h1 : 97 ≤ c.toNat
  · by_cases h2 : c.toNat ≤ 122
    · simp only [r7, dt (show ((c.toNat : Nat) : Int) ≥ 97 by omega), dt (show ((c.toNat : Nat) : Int) ≤ 122 by omega), dt (show 97 ≤ c.toNat ∧ c.toNat ≤ 122 from ⟨h1, h2⟩), cond_true, Bool.true_or]
    · simp only [r7, dt (show ((c.toNat : Nat) : Int) ≥ 97 by omega), df (show ¬ ((c.toNat : Nat) : Int) ≤ 122 by omega), df (show ¬ (97 ≤ c.toNat ∧ c.toNat ≤ 122) from fun h => h2 h.2), cond_true, cond_false, hb, Bool.false_or]
  · simp only [r7, df (show ¬ ((c.toNat : Nat) : Int) ≥ 97 by omega), df (show ¬ (97 ≤ c.toNat ∧ c.toNat ≤ 122) from fun h => h1 h.1), cond_false, hb, Bool.false_or])
theorem refDigit_eq (c : UInt8) : c5 T.rf (((c.toNat : Nat) : Int)) = some (digB c) := or5 (by
  unfold digB
  by_cases h1 : 48 ≤ c.toNat
  · by_cases h2 : c.toNat ≤ 57
    · simp only [r5, dt (show ((c.toNat : Nat) : Int) ≥ 48 by omega), dt (show ((c.toNat : Nat) : Int) ≤ 57 by omega), dt (show 48 ≤ c.toNat ∧ c.toNat ≤ 57 from ⟨h1, h2⟩), cond_true]
    · simp only [r5, dt (show ((c.toNat : Nat) : Int) ≥ 48 by omega), df (show ¬ ((c.toNat : Nat) : Int) ≤ 57 by omega), df (show ¬ (48 ≤ c.toNat ∧ c.toNat ≤ 57) from fun h => h2 h.2), cond_true]
  · simp only [r5, df (show ¬ ((c.toNat : Nat) : Int) ≥ 48 by omega), df (show ¬ (48 ≤ c.toNat ∧ c.toNat ≤ 57) from fun h => h1 h.1), cond_false])

theorem refIsName_loop : ∀ (suf pre : List UInt8), pre.length + suf.length ≤ 100 →
    k6 T.rb (pre ++ suf) (pre.length : Nat) = some (if suf.all partB = true then .inr () else .inl false)
  | [], pre, h => ob6 (by simp only [b6, lt_end, lt_self, List.append_nil, cond_false, List.all_nil, if_true])
  | x :: suf, pre, h => ob6 (by
    simp only [List.length_cons] at h
    have ih := refIsName_loop suf (pre ++ [x]) (by simp; omega)
    simp only [List.append_assoc, List.singleton_append] at ih
    simp only [b6, lt_mid, inb_mid, nth_mid, cond_true, Option.bind_some, refLetter_eq, refDigit_eq, next_mid pre x (by omega), ih, List.all_cons, partB_eq]
    cases letB x <;> cases digB x <;> simp)

theorem refIsName_eq (s : List UInt8) : c11 T.rf s = some (nameB s) := or11 (by
  unfold nameB
  cases s with
  | nil => rfl
  | cons c r =>
    have e1 : ((c :: r) == ([] : List UInt8)) = false := rfl
    have e3 : inb 0 (c :: r).length = true := inb_t (by omega) (by simp only [List.length_cons]; omega)
    have e4 : nth (c :: r) 0 = some c := rfl
    by_cases hl : (c :: r).length ≤ 40
    case neg =>
      simp only [r11, e1, cond_false, dt (show (((c :: r).length : Nat) : Int) > 40 by omega), cond_true, df hl, Bool.false_and, Bool.and_false]
    have hloop := refIsName_loop (c :: r) [] (by simp only [List.length_nil]; omega)
    simp only [List.nil_append, List.length_nil] at hloop
    rw [show ((0 : Nat) : Int) = (0 : Int) from rfl] at hloop
    simp only [r11, e1, cond_false, df (show ¬ (((c :: r).length : Nat) : Int) > 40 by omega), e3, cond_true, e4, Option.bind_some, refLetter_eq, refIsWord_eq, hloop, dt hl, dt (show (c :: r) ≠ [] by simp), Bool.true_and, List.headD_cons]
    cases letB c <;> cases wordB (c :: r) <;> cases (c :: r).all partB <;> rfl)

/-! ### Operators' texts -/
def opsL : List (List UInt8 × Int) := [([], -1), ([], 10), ([], 10), ([], 10), ([110, 111, 116], 9), ([45], 9), ([97, 110, 100], 5), ([111, 114], 4), ([120, 111, 114], 4), ([61, 62], 2), ([61], 6), ([60, 62], 6), ([60], 6), ([60, 61], 6), ([43], 7), ([45], 7), ([42], 8), ([100, 105, 118], 8), ([109, 111, 100], 8), ([45, 62], 1), ([115, 105, 110, 99, 101], 3), ([112, 114, 101], 9), ([111, 110, 99, 101], 9), ([104, 105, 115, 116], 9), ([112, 114, 101, 118], 9), ([119, 105, 116, 104, 105, 110], 9), ([105, 102], 0), ([], 10)]
def markX (op : Int) : List UInt8 × Int := if 0 ≤ op ∧ op < 28 then opsL.getD op.toNat ([], -1) else ([], -1)

theorem of_eq (op : Int) : c65 T.rf op = some (markX op) := or65 (by
  unfold markX
  by_cases h1 : op < 0
  · simp only [r65, dt h1, cond_true, if_neg (show ¬ (0 ≤ op ∧ op < 28) by omega)]
  by_cases h2 : op ≥ 28
  · simp only [r65, df h1, dt h2, cond_true, cond_false, if_neg (show ¬ (0 ≤ op ∧ op < 28) by omega)]
  have e : inb op 28 = true := inb_t (by omega) (by omega)
  have marks_eq := or66 rfl
  simp only [r65, df h1, df h2, cond_false, marks_eq, Option.bind_some, e, cond_true, if_pos (show 0 ≤ op ∧ op < 28 by omega)]
  have hk : op.toNat < 28 := by omega
  have : nth opsL op.toNat = some (opsL.getD op.toNat ([], -1)) := by
    rw [nth_getElem?, List.getD_eq_getElem?_getD, List.getElem?_eq_getElem (show op.toNat < opsL.length from hk)]; rfl
  show (nth opsL op.toNat).bind _ = _
  rw [this]; rfl)

theorem op_eq (op : Int) : c75 T.rf op = some (markX op).1 := or75 (by simp only [r75, of_eq, Option.bind_some])
theorem level_eq (op : Int) : c73 T.rf op = some (markX op).2 := or73 (by simp only [r73, of_eq, Option.bind_some])

theorem ops27 : ∀ k, k < 27 → nth [([] : List UInt8), ([] : List UInt8), ([] : List UInt8), ([] : List UInt8), ([110, 111, 116] : List UInt8), ([45] : List UInt8), ([97, 110, 100] : List UInt8), ([111, 114] : List UInt8), ([120, 111, 114] : List UInt8), ([61, 62] : List UInt8), ([61] : List UInt8), ([60, 62] : List UInt8), ([60] : List UInt8), ([60, 61] : List UInt8), ([43] : List UInt8), ([45] : List UInt8), ([42] : List UInt8), ([100, 105, 118] : List UInt8), ([109, 111, 100] : List UInt8), ([45, 62] : List UInt8), ([115, 105, 110, 99, 101] : List UInt8), ([112, 114, 101] : List UInt8), ([111, 110, 99, 101] : List UInt8), ([104, 105, 115, 116] : List UInt8), ([112, 114, 101, 118] : List UInt8), ([119, 105, 116, 104, 105, 110] : List UInt8), ([105, 102] : List UInt8)] k = some (opsL.getD k ([], -1)).1 := by decide +kernel
theorem lvs28 : ∀ k, k < 28 → nth [(-1 : Int), 10, 10, 10, 9, 9, 5, 4, 4, 2, 6, 6, 6, 6, 7, 7, 8, 8, 8, 1, 3, 9, 9, 9, 9, 9, 0, 10] k = some (opsL.getD k ([], -1)).2 := by decide +kernel

theorem refOp_eq (op : Int) : c87 T.rf op = some (markX op).1 := or87 (by
  unfold markX
  by_cases h1 : op < 0
  · simp only [r87, dt h1, cond_true, if_neg (show ¬ (0 ≤ op ∧ op < 28) by omega)]
  by_cases h2 : op ≥ 27
  · by_cases h3 : op = 27
    · subst h3; rfl
    · simp only [r87, df h1, dt h2, cond_true, cond_false, if_neg (show ¬ (0 ≤ op ∧ op < 28) by omega)]
  have e : inb op 27 = true := inb_t (by omega) (by omega)
  simp only [r87, df h1, df h2, cond_false, e, cond_true, if_pos (show 0 ≤ op ∧ op < 28 by omega), ops27 op.toNat (by omega), Option.bind_some])
theorem refLevel_eq (op : Int) : c86 T.rf op = some (markX op).2 := or86 (by
  unfold markX
  by_cases h1 : op < 0
  · simp only [r86, dt h1, cond_true, if_neg (show ¬ (0 ≤ op ∧ op < 28) by omega)]
  by_cases h2 : op ≥ 28
  · simp only [r86, df h1, dt h2, cond_true, cond_false, if_neg (show ¬ (0 ≤ op ∧ op < 28) by omega)]
  have e : inb op 28 = true := inb_t (by omega) (by omega)
  simp only [r86, df h1, df h2, cond_false, e, cond_true, if_pos (show 0 ≤ op ∧ op < 28 by omega), lvs28 op.toNat (by omega), Option.bind_some])

end Go.Proofs.YtoippcahbninnaaGreatDoor.R

/-
  OUR OWN: expressions' texts: the tokens of a tree, and package show's writer.
-/
namespace Go.Proofs.YtoippcahbninnaaGreatDoor.R
open Go Go.Bm Go.Proofs
set_option linter.unusedVariables false
set_option linter.unusedSimpArgs false
set_option maxRecDepth 4000

/-! ### The shapes of a tree that may be -/
inductive Shp (e : List Nd) (i : Nat) : Tr → Prop
  | leaf {op a b c nn : Int} {nm : List UInt8} (h : op = 1 ∨ op = 2 ∨ op = 3) (hn : nth e i = some (op, a, b, c, nn, nm)) (hN : 0 ≤ nn ∧ nn ≤ mostN op) (hs : nm ≠ [] ↔ op = 3) : Shp e i (.mk (op, -1, -1, -1, nn, nm) [])
  | call0 {b c nn : Int} {nm : List UInt8} (hn : nth e i = some (27, -1, b, c, nn, nm)) (hN : nn = 0) (hs : nm ≠ []) : Shp e i (.mk (27, -1, -1, -1, nn, nm) [])
  | call1 {b c nn : Int} {nm : List UInt8} {j : Nat} {t : Tr} (hn : nth e i = some (27, (j : Int), b, c, nn, nm)) (hN : nn = 0) (hs : nm ≠ []) (hj : j < i) (ht : Emb e j t) (hv : Valid t) (ho : t.op = 28) : Shp e i (.mk (27, -1, -1, -1, nn, nm) [t])
  | arg1 {c nn : Int} {nm : List UInt8} {j : Nat} {t : Tr} (hn : nth e i = some (28, (j : Int), -1, c, nn, nm)) (hN : nn = 0) (hs : nm = []) (hj : j < i) (ht : Emb e j t) (hv : Valid t) (ho : t.op ≠ 28) : Shp e i (.mk (28, -1, -1, -1, nn, nm) [t])
  | arg2 {c nn : Int} {nm : List UInt8} {j k : Nat} {t u : Tr} (hn : nth e i = some (28, (k : Int), (j : Int), c, nn, nm)) (hN : nn = 0) (hs : nm = []) (hj : j < i) (ht : Emb e j t) (hv : Valid t) (ho : t.op = 28) (hk : k < i) (hu : Emb e k u) (hvu : Valid u) (hou : u.op ≠ 28) : Shp e i (.mk (28, -1, -1, -1, nn, nm) [t, u])
  | ite {nn : Int} {nm : List UInt8} {j k l : Nat} {t u v : Tr} (hn : nth e i = some (26, (j : Int), (k : Int), (l : Int), nn, nm)) (hN : nn = 0) (hs : nm = []) (hj : j < i) (ht : Emb e j t) (hv : Valid t) (ho : t.op ≠ 28) (hk : k < i) (hu : Emb e k u) (hvu : Valid u) (hou : u.op ≠ 28) (hl : l < i) (hw : Emb e l v) (hvw : Valid v) (how : v.op ≠ 28) : Shp e i (.mk (26, -1, -1, -1, nn, nm) [t, u, v])
  | un {op b c nn : Int} {nm : List UInt8} {j : Nat} {t : Tr} (h : op = 4 ∨ op = 5 ∨ op = 21 ∨ op = 22 ∨ op = 23 ∨ op = 24 ∨ op = 25) (hn : nth e i = some (op, (j : Int), b, c, nn, nm)) (hN : 0 ≤ nn ∧ nn ≤ mostN op) (hs : nm = []) (hj : j < i) (ht : Emb e j t) (hv : Valid t) (ho : t.op ≠ 28) : Shp e i (.mk (op, -1, -1, -1, nn, nm) [t])
  | bin {op c nn : Int} {nm : List UInt8} {j k : Nat} {t u : Tr} (h : 6 ≤ op ∧ op ≤ 20) (hn : nth e i = some (op, (j : Int), (k : Int), c, nn, nm)) (hN : nn = 0) (hs : nm = []) (hj : j < i) (ht : Emb e j t) (hv : Valid t) (ho : t.op ≠ 28) (hk : k < i) (hu : Emb e k u) (hvu : Valid u) (hou : u.op ≠ 28) : Shp e i (.mk (op, -1, -1, -1, nn, nm) [t, u])

theorem embs0 {e : List Nd} {i : Nat} {ks : List Tr} (h : Embs e i [] ks) : ks = [] := by
  cases ks with
  | nil => rfl
  | cons => exact h.elim
theorem embs1 {e : List Nd} {i : Nat} {x : Int} {ks : List Tr} (h : Embs e i [x] ks) : ∃ (j : Nat) (t : Tr), x = (j : Int) ∧ ks = [t] ∧ j < i ∧ Emb e j t := by
  cases ks with
  | nil => exact h.elim
  | cons t r =>
    obtain ⟨h1, h2, h3, h4⟩ := h
    have := embs0 h4; subst this
    exact ⟨x.toNat, t, by omega, rfl, by omega, h3⟩
theorem embs2 {e : List Nd} {i : Nat} {x y : Int} {ks : List Tr} (h : Embs e i [x, y] ks) : ∃ (j : Nat) (t : Tr) (k : Nat) (u : Tr), x = (j : Int) ∧ y = (k : Int) ∧ ks = [t, u] ∧ j < i ∧ Emb e j t ∧ k < i ∧ Emb e k u := by
  cases ks with
  | nil => exact h.elim
  | cons t r =>
    obtain ⟨h1, h2, h3, h4⟩ := h
    obtain ⟨k, u, e1, e2, e3, e4⟩ := embs1 h4
    subst e2
    exact ⟨x.toNat, t, k, u, by omega, e1, rfl, by omega, h3, e3, e4⟩
theorem embs3 {e : List Nd} {i : Nat} {x y z : Int} {ks : List Tr} (h : Embs e i [x, y, z] ks) : ∃ (j : Nat) (t : Tr) (k : Nat) (u : Tr) (l : Nat) (v : Tr), x = (j : Int) ∧ y = (k : Int) ∧ z = (l : Int) ∧ ks = [t, u, v] ∧ j < i ∧ Emb e j t ∧ k < i ∧ Emb e k u ∧ l < i ∧ Emb e l v := by
  cases ks with
  | nil => exact h.elim
  | cons t r =>
    obtain ⟨h1, h2, h3, h4⟩ := h
    obtain ⟨k, u, l, v, e1, e2, e3, e4, e5, e6, e7⟩ := embs2 h4
    subst e3
    exact ⟨x.toNat, t, k, u, l, v, by omega, e1, e2, rfl, by omega, h3, e4, e5, e6, e7⟩

theorem shape {e : List Nd} {i : Nat} : ∀ {t : Tr}, Emb e i t → Valid t → Shp e i t
  | .mk b ks, ⟨n, h1, h2, h3, h4⟩, ⟨v1, v2, v3, v4, v5, v6⟩ => by
    obtain ⟨op, a, b', c, nn, nm⟩ := n
    have hb : b = (op, -1, -1, -1, nn, nm) := h2
    subst hb
    simp only at v4
    obtain ⟨r1, r2, r3, r4, r5⟩ := v4
    by_cases c1 : op = 1 ∨ op = 2 ∨ op = 3
    · have hk : kids (op, a, b', c, nn, nm) = [] := by rcases c1 with rfl | rfl | rfl <;> rfl
      rw [hk] at h4
      have := embs0 h4; subst this
      exact .leaf c1 h1 ⟨r3, r4⟩ (by rw [r5]; omega)
    have m0 : op ≠ 25 → nn = 0 := fun h => by
      have : mostN op = 0 := by unfold mostN; rw [if_neg (by omega), if_neg (by omega), if_neg h]
      omega
    by_cases c2 : op = 27
    · subst c2
      have hs : nm ≠ [] := r5.2 (.inr rfl)
      by_cases ha : a = -1
      · subst ha
        have hk : kids (27, -1, b', c, nn, nm) = [] := rfl
        rw [hk] at h4
        have := embs0 h4; subst this
        exact .call0 h1 (m0 (by decide)) hs
      · have hk : kids (27, a, b', c, nn, nm) = [a] := by simp [kids, ha]
        rw [hk] at h4
        obtain ⟨j, t, rfl, rfl, k1, k2⟩ := embs1 h4
        refine .call1 h1 (m0 (by decide)) hs k1 k2 v6.1 ?_
        simp [argsT, argT] at v5
        exact v5
    have hs0 : nm = [] := by
      cases nm with
      | nil => rfl
      | cons x r => have := r5.1 (by simp); omega
    by_cases c3 : op = 28
    · subst c3
      by_cases hb : b' = -1
      · subst hb
        have hk : kids (28, a, -1, c, nn, nm) = [a] := by simp [kids]
        rw [hk] at h4
        obtain ⟨j, t, rfl, rfl, k1, k2⟩ := embs1 h4
        refine .arg1 h1 (m0 (by decide)) hs0 k1 k2 v6.1 ?_
        simp [argsT, argT] at v5
        exact v5
      · have hk : kids (28, a, b', c, nn, nm) = [b', a] := by simp [kids, hb]
        rw [hk] at h4
        obtain ⟨j, t, k, u, rfl, rfl, rfl, k1, k2, k3, k4⟩ := embs2 h4
        simp [argsT, argT] at v5
        exact .arg2 h1 (m0 (by decide)) hs0 k1 k2 v6.1 v5.1 k3 k4 v6.2.1 v5.2
    have hno : ∀ (x : Int) (m a : Nat), argT (op, -1, -1, -1, nn, nm) m a x = true → x ≠ 28 := by
      intro x m a h
      simp only [argT, df c2, df c3, Bool.false_and, Bool.or_false] at h
      intro hx
      rw [dt hx] at h; cases h
    by_cases c4 : op = 26
    · subst c4
      have hk : kids (26, a, b', c, nn, nm) = [a, b', c] := by simp [kids]
      rw [hk] at h4
      obtain ⟨j, t, k, u, l, v, rfl, rfl, rfl, rfl, k1, k2, k3, k4, k5, k6⟩ := embs3 h4
      simp only [argsT, Bool.and_eq_true] at v5
      exact .ite h1 (m0 (by decide)) hs0 k1 k2 v6.1 (hno _ _ _ v5.1) k3 k4 v6.2.1 (hno _ _ _ v5.2.1) k5 k6 v6.2.2.1 (hno _ _ _ v5.2.2.1)
    by_cases c5 : 6 ≤ op ∧ op ≤ 20
    · have hk : kids (op, a, b', c, nn, nm) = [a, b'] := by
        simp only [kids]; rw [if_neg c4, if_neg (fun h => c3 h.1), if_neg (fun h => c2 h.1), if_pos c5]
      rw [hk] at h4
      obtain ⟨j, t, k, u, rfl, rfl, rfl, k1, k2, k3, k4⟩ := embs2 h4
      simp only [argsT, Bool.and_eq_true] at v5
      exact .bin c5 h1 (m0 (by omega)) hs0 k1 k2 v6.1 (hno _ _ _ v5.1) k3 k4 v6.2.1 (hno _ _ _ v5.2.1)
    have c6 : op = 4 ∨ op = 5 ∨ op = 21 ∨ op = 22 ∨ op = 23 ∨ op = 24 ∨ op = 25 := by omega
    have hk : kids (op, a, b', c, nn, nm) = [a] := by
      simp only [kids]; rw [if_neg c4, if_neg (fun h => c3 h.1), if_neg (fun h => c2 h.1), if_neg c5, if_pos (by omega)]
    rw [hk] at h4
    obtain ⟨j, t, rfl, rfl, k1, k2⟩ := embs1 h4
    simp only [argsT, Bool.and_eq_true] at v5
    exact .un c6 h1 ⟨r3, r4⟩ hs0 k1 k2 v6.1 (hno _ _ _ v5.1)

/-! ### Tokens -/
abbrev Str : Type := List UInt8
/-- An operand of which a level is asked. -/
def partX (asked : Int) (x : Int × List Str) : List Str := if (markX x.1).2 ≥ asked then x.2 else [40] :: (x.2 ++ [[41]])
def lvX (op : Int) : Int := (markX op).2
def opX (op : Int) : Str := (markX op).1
def leftX (op : Int) : Int := if lvX op ≤ 2 then lvX op + 1 else if lvX op = 6 then 7 else lvX op
def rightX (op : Int) : Int := if lvX op ≤ 2 then lvX op else lvX op + 1
def boolX (n : Int) : Str := if n = 1 then [116, 114, 117, 101] else [102, 97, 108, 115, 101]
def tokB (b : Nd) (l : List (Int × List Str)) : List Str :=
  if b.1 = 1 then [itoaX b.2.2.2.2.1] else
  if b.1 = 2 then [boolX b.2.2.2.2.1] else
  if b.1 = 3 then [b.2.2.2.2.2] else
  if b.1 = 27 then b.2.2.2.2.2 :: [40] :: (match l with
    | [x] => x.2 ++ [[41]]
    | _ => [[41]]) else
  match l with
  | [x] => if b.1 = 28 then x.2 else if b.1 = 25 then opX 25 :: itoaX b.2.2.2.2.1 :: partX 9 x else opX b.1 :: partX 9 x
  | [x, y] => if b.1 = 28 then x.2 ++ [44] :: y.2 else partX (leftX b.1) x ++ opX b.1 :: partX (rightX b.1) y
  | [x, y, z] => opX 26 :: (x.2 ++ [116, 104, 101, 110] :: (y.2 ++ [101, 108, 115, 101] :: z.2))
  | _ => []
mutual
def toks : Tr → List Str
  | .mk b ks => tokB b (toksL ks)
def toksL : List Tr → List (Int × List Str)
  | [] => []
  | t :: r => (t.op, toks t) :: toksL r
end

theorem partX_len (a : Int) (x : Int × List Str) : x.2.length ≤ (partX a x).length ∧ (partX a x).length ≤ x.2.length + 2 := by
  unfold partX; split
  · omega
  · simp only [List.length_cons, List.length_append, List.length_nil]; omega

theorem size1 (b : Nd) (t : Tr) : (Tr.mk b [t]).size = t.size + 1 := by simp [Tr.size, sizes]
theorem size2 (b : Nd) (t u : Tr) : (Tr.mk b [t, u]).size = t.size + u.size + 1 := by simp [Tr.size, sizes]
theorem size3 (b : Nd) (t u v : Tr) : (Tr.mk b [t, u, v]).size = t.size + u.size + v.size + 1 := by simp [Tr.size, sizes]; omega
theorem size0 (b : Nd) : (Tr.mk b []).size = 1 := by simp [Tr.size, sizes]

theorem toks_leaf {op nn : Int} {nm : Str} (h : op = 1 ∨ op = 2 ∨ op = 3) : toks (.mk (op, -1, -1, -1, nn, nm) []) = [if op = 1 then itoaX nn else if op = 2 then boolX nn else nm] := by
  rcases h with rfl | rfl | rfl <;> rfl
theorem toks_call0 {nn : Int} {nm : Str} : toks (.mk (27, -1, -1, -1, nn, nm) []) = [nm, [40], [41]] := rfl
theorem toks_call1 {nn : Int} {nm : Str} {t : Tr} : toks (.mk (27, -1, -1, -1, nn, nm) [t]) = nm :: [40] :: (toks t ++ [[41]]) := rfl
theorem toks_arg1 {nn : Int} {nm : Str} {t : Tr} : toks (.mk (28, -1, -1, -1, nn, nm) [t]) = toks t := rfl
theorem toks_arg2 {nn : Int} {nm : Str} {t u : Tr} : toks (.mk (28, -1, -1, -1, nn, nm) [t, u]) = toks t ++ [44] :: toks u := rfl
theorem toks_ite {nn : Int} {nm : Str} {t u v : Tr} : toks (.mk (26, -1, -1, -1, nn, nm) [t, u, v]) = opX 26 :: (toks t ++ [116, 104, 101, 110] :: (toks u ++ [101, 108, 115, 101] :: toks v)) := rfl
theorem toks_un {op nn : Int} {nm : Str} {t : Tr} (h : op = 4 ∨ op = 5 ∨ op = 21 ∨ op = 22 ∨ op = 23 ∨ op = 24 ∨ op = 25) : toks (.mk (op, -1, -1, -1, nn, nm) [t]) = opX op :: ((if op = 25 then [itoaX nn] else []) ++ partX 9 (t.op, toks t)) := by
  rcases h with rfl | rfl | rfl | rfl | rfl | rfl | rfl <;> rfl
theorem toks_bin {op nn : Int} {nm : Str} {t u : Tr} (h : 6 ≤ op ∧ op ≤ 20) : toks (.mk (op, -1, -1, -1, nn, nm) [t, u]) = partX (leftX op) (t.op, toks t) ++ opX op :: partX (rightX op) (u.op, toks u) := by
  have h1 : op ≠ 1 := by omega
  have h2 : op ≠ 2 := by omega
  have h3 : op ≠ 3 := by omega
  have h27 : op ≠ 27 := by omega
  have h28 : op ≠ 28 := by omega
  show tokB (op, -1, -1, -1, nn, nm) [(t.op, toks t), (u.op, toks u)] = _
  simp only [tokB, if_neg h1, if_neg h2, if_neg h3, if_neg h27, if_neg h28]

theorem toks_len {e : List Nd} : ∀ (m : Nat) (t : Tr) (i : Nat), t.size ≤ m → Emb e i t → Valid t → 1 ≤ (toks t).length ∧ (toks t).length + 2 ≤ 5 * t.size := by
  intro m
  induction m with
  | zero => intro t i h; have := t.size_pos; omega
  | succ m ih =>
    intro t i hm ht hv
    cases shape ht hv with
    | leaf h => rw [toks_leaf h, size0]; simp
    | call0 => rw [toks_call0, size0]; simp
    | call1 hn hN hs hj ht1 hv1 ho =>
      rw [size1] at hm ⊢
      have := ih _ _ (by omega) ht1 hv1
      rw [toks_call1]; simp; omega
    | arg1 hn hN hs hj ht1 hv1 ho =>
      rw [size1] at hm ⊢
      have := ih _ _ (by omega) ht1 hv1
      rw [toks_arg1]; omega
    | arg2 hn hN hs hj ht1 hv1 ho hk hu hvu hou =>
      rw [size2] at hm ⊢
      have := ih _ _ (by omega) ht1 hv1
      have := ih _ _ (by omega) hu hvu
      rw [toks_arg2]; simp; omega
    | ite hn hN hs hj ht1 hv1 ho hk hu hvu hou hl hw hvw how =>
      rw [size3] at hm ⊢
      have := ih _ _ (by omega) ht1 hv1
      have := ih _ _ (by omega) hu hvu
      have := ih _ _ (by omega) hw hvw
      rw [toks_ite]; simp; omega
    | un h hn hN hs hj ht1 hv1 ho =>
      rename_i op b c nn nm j t1
      rw [size1] at hm ⊢
      have := ih _ _ (by omega) ht1 hv1
      have hp := partX_len 9 (t1.op, toks t1)
      rw [toks_un h]; simp only [List.length_cons, List.length_append]
      split <;> simp at * <;> omega
    | bin h hn hN hs hj ht1 hv1 ho hk hu hvu hou =>
      rename_i op c nn nm j k t1 u1
      rw [size2] at hm ⊢
      have := ih _ _ (by omega) ht1 hv1
      have := ih _ _ (by omega) hu hvu
      have hp := partX_len (leftX op) (t1.op, toks t1)
      have hq := partX_len (rightX op) (u1.op, toks u1)
      rw [toks_bin h]; simp only [List.length_cons, List.length_append]
      simp at *; omega

/-! ### Package show -/
def mkT (s : Str) : Int × Str × Int := (0, s, 0)

theorem put_loop (e : List Nd) : ∀ (suf pre : List Str) (out : List (Int × Str × Int)), out.length + suf.length ≤ 2000000 → pre.length + suf.length ≤ 2000000 →
    k54 T.rb e out (pre ++ suf) (((pre ++ suf).length : Nat) : Int) (pre.length : Nat) = some (e, out ++ suf.map mkT)
  | [], pre, out, h, h2 => ob54 (by simp only [b54, lt_end, lt_self, List.append_nil, cond_false, List.map_nil])
  | x :: suf, pre, out, h, h2 => ob54 (by
    simp only [List.length_cons] at h h2
    have ih := put_loop e suf (pre ++ [x]) (out ++ [mkT x]) (by simp; omega) (by simp; omega)
    simp only [List.append_assoc, List.singleton_append] at ih
    simp only [b54, lt_mid, inb_mid, nth_mid, cond_true, Option.bind_some, ble_most (show out.length + 1 ≤ 274877906944 by omega), Bool.and_true, next_mid pre x (by omega)]
    exact ih)

theorem put_eq (e : List Nd) (out : List (Int × Str × Int)) (ds : List Str) (h : out.length + ds.length ≤ 2000000) : c68 T.rf e out ds = some (e, out ++ ds.map mkT) := or68 (by
  have := put_loop e ds [] out h (by simp; omega)
  simp only [List.nil_append, List.length_nil] at this
  rw [show ((0 : Nat) : Int) = (0 : Int) from rfl] at this
  simp only [r68, this, Option.bind_some])

theorem fbool_eq (b : Bool) : c69 T.rf b = some (if b = true then [116, 114, 117, 101] else [102, 97, 108, 115, 101]) := or69 (by
  have h : c70 T.rf b = some (if b = true then [116, 114, 117, 101] else [102, 97, 108, 115, 101]) := or70 (by cases b <;> rfl)
  simp only [r69, h, Option.bind_some])

theorem itoa_eq {n : Int} (h : 0 ≤ n ∧ n ≤ 2147483647) : c67 T.rf n = some (itoaX n) := or67 (by
  have : fits64 n = true := by unfold fits64; rw [dt (by omega), dt (by omega)]; rfl
  simp only [r67, this, cond_true])

theorem lv_bin {op : Int} (h : 6 ≤ op ∧ op ≤ 20) : 1 ≤ lvX op ∧ lvX op ≤ 8 := by
  have : op = 6 ∨ op = 7 ∨ op = 8 ∨ op = 9 ∨ op = 10 ∨ op = 11 ∨ op = 12 ∨ op = 13 ∨ op = 14 ∨ op = 15 ∨ op = 16 ∨ op = 17 ∨ op = 18 ∨ op = 19 ∨ op = 20 := by omega
  rcases this with rfl | rfl | rfl | rfl | rfl | rfl | rfl | rfl | rfl | rfl | rfl | rfl | rfl | rfl | rfl <;> decide
theorem lv_un {op : Int} (h : op = 4 ∨ op = 5 ∨ op = 21 ∨ op = 22 ∨ op = 23 ∨ op = 24 ∨ op = 25) : lvX op = 9 := by
  rcases h with rfl | rfl | rfl | rfl | rfl | rfl | rfl <;> rfl
theorem mostN_le (op : Int) : mostN op ≤ 2147483647 := by unfold mostN; repeat' split
                                                          all_goals omega

theorem part_of {e : List Nd} {j : Nat} {n : Nd} {ts : List Str} {m : Nat} (hn : nth e j = some n) (asked : Int) (out : List (Int × Str × Int))
    (hw : ∀ out' : List (Int × Str × Int), out'.length ≤ out.length + 1 → c64 T.rf e out' (j : Nat) = some (e, out' ++ ts.map mkT)) (hlen : out.length + ts.length + 2 ≤ 2000000) :
    c72 T.rf e out (j : Nat) asked = some (e, out ++ (partX asked (n.1, ts)).map mkT) := or72 (by
  have hj : j < e.length := by rw [nth_getElem?] at hn; exact (List.getElem?_eq_some_iff.1 hn).1
  have e1 : inb ((j : Nat) : Int) e.length = true := inb_t (by omega) (by omega)
  simp only [r72, e1, cond_true, Int.toNat_natCast, hn, Option.bind_some, level_eq, partX]
  by_cases hl : (markX n.1).2 ≥ asked
  · rw [dt hl, if_pos hl, cond_true, hw out (by omega)]; rfl
  · rw [df hl, if_neg hl, cond_false, put_eq e out _ (by simp; omega), Option.bind_some, hw _ (by simp), Option.bind_some, put_eq e _ _ (by simp; omega), Option.bind_some]
    simp [mkT])

theorem show_walk {e : List Nd} : ∀ (m : Nat) (t : Tr) (i : Nat) (out : List (Int × Str × Int)), t.size ≤ m → Emb e i t → Valid t → out.length + 5 * t.size ≤ 1000000 →
    (t.op ≠ 28 → c64 T.rf e out (i : Nat) = some (e, out ++ (toks t).map mkT)) ∧ (t.op = 28 → c71 T.rf e out (i : Nat) = some (e, out ++ (toks t).map mkT)) := by
  intro m
  induction m with
  | zero => intro t i out h; have := t.size_pos; omega
  | succ m ih =>
    intro t i out hm ht hv hN
    have hi : i < e.length := emb_lt ht
    have e1 : inb ((i : Nat) : Int) e.length = true := inb_t (by omega) (by omega)
    cases shape ht hv with
    | leaf h hn hNN hs =>
      rename_i op a b c nn nm
      rw [size0] at hN
      refine ⟨fun _ => or64 ?_, fun h28 => by have h28 : op = 28 := h28; omega⟩
      have hm2 := mostN_le op
      rw [toks_leaf h]
      rcases h with rfl | rfl | rfl
      · simp only [r64, e1, cond_true, Int.toNat_natCast, hn, Option.bind_some, of_eq, show ((1 : Int) == 1) = true from rfl, itoa_eq (n := nn) (by omega), put_eq e out _ (show out.length + [itoaX nn].length ≤ 2000000 by simp; omega)]
        rfl
      · have hb : (if (nn == 1) = true then ([116, 114, 117, 101] : Str) else [102, 97, 108, 115, 101]) = boolX nn := by
          unfold boolX
          by_cases h1 : nn = 1
          · rw [if_pos (bt h1), if_pos h1]
          · rw [if_neg (by rw [bf h1]; decide), if_neg h1]
        simp only [r64, e1, cond_true, cond_false, Int.toNat_natCast, hn, Option.bind_some, of_eq, show ((2 : Int) == 1) = false from rfl, show ((2 : Int) == 2) = true from rfl, fbool_eq, hb, put_eq e out _ (show out.length + [boolX nn].length ≤ 2000000 by simp; omega)]
        rfl
      · simp only [r64, e1, cond_true, cond_false, Int.toNat_natCast, hn, Option.bind_some, of_eq, show ((3 : Int) == 1) = false from rfl, show ((3 : Int) == 2) = false from rfl, show ((3 : Int) == 3) = true from rfl, put_eq e out _ (show out.length + [nm].length ≤ 2000000 by simp; omega)]
        rfl
    | call0 hn hNN hs =>
      rename_i b c nn nm
      rw [size0] at hN
      refine ⟨fun _ => or64 ?_, fun h28 => by cases h28⟩
      rw [toks_call0]
      simp only [r64, e1, cond_true, cond_false, Int.toNat_natCast, hn, Option.bind_some, of_eq, show ((27 : Int) == 1) = false from rfl, show ((27 : Int) == 2) = false from rfl, show ((27 : Int) == 3) = false from rfl, show ((27 : Int) == 27) = true from rfl, show decide ((-1 : Int) ≥ 0) = false from rfl, put_eq e out _ (show out.length + [nm, [40]].length ≤ 2000000 by simp; omega),
        put_eq e (out ++ [nm, [40]].map mkT) _ (show (out ++ [nm, [40]].map mkT).length + [([41] : Str)].length ≤ 2000000 by simp; omega)]
      simp
    | call1 hn hNN hs hj ht1 hv1 ho =>
      rename_i b c nn nm j t1
      rw [size1] at hN hm
      refine ⟨fun _ => or64 ?_, fun h28 => by cases h28⟩
      have hl := (toks_len t1.size t1 j (Nat.le_refl _) ht1 hv1).2
      have w := (ih t1 j (out ++ [nm, [40]].map mkT) (by omega) ht1 hv1 (by simp; omega)).2 ho
      rw [toks_call1]
      simp only [r64, e1, cond_true, cond_false, Int.toNat_natCast, hn, Option.bind_some, of_eq, show ((27 : Int) == 1) = false from rfl, show ((27 : Int) == 2) = false from rfl, show ((27 : Int) == 3) = false from rfl, show ((27 : Int) == 27) = true from rfl, dt (show ((j : Nat) : Int) ≥ 0 by omega), put_eq e out _ (show out.length + [nm, [40]].length ≤ 2000000 by simp; omega), w,
        put_eq e (out ++ [nm, [40]].map mkT ++ (toks t1).map mkT) _ (show (out ++ [nm, [40]].map mkT ++ (toks t1).map mkT).length + [([41] : Str)].length ≤ 2000000 by simp; omega)]
      simp
    | arg1 hn hNN hs hj ht1 hv1 ho =>
      rename_i c nn nm j t1
      rw [size1] at hN hm
      refine ⟨fun h28 => absurd rfl h28, fun _ => or71 ?_⟩
      have w := (ih t1 j out (by omega) ht1 hv1 (by omega)).1 ho
      rw [toks_arg1]
      simp only [r71, e1, cond_true, cond_false, Int.toNat_natCast, hn, Option.bind_some, show decide ((-1 : Int) ≥ 0) = false from rfl, w]
    | arg2 hn hNN hs hj ht1 hv1 ho hk hu hvu hou =>
      rename_i c nn nm j k t1 u1
      rw [size2] at hN hm
      refine ⟨fun h28 => absurd rfl h28, fun _ => or71 ?_⟩
      have hl := (toks_len t1.size t1 j (Nat.le_refl _) ht1 hv1).2
      have w := (ih t1 j out (by omega) ht1 hv1 (by omega)).2 ho
      have w2 := (ih u1 k (out ++ (toks t1).map mkT ++ [[44]].map mkT) (by omega) hu hvu (by simp; omega)).1 hou
      rw [toks_arg2]
      simp only [r71, e1, cond_true, cond_false, Int.toNat_natCast, hn, Option.bind_some, dt (show ((j : Nat) : Int) ≥ 0 by omega), w, put_eq e (out ++ (toks t1).map mkT) _ (show (out ++ (toks t1).map mkT).length + [([44] : Str)].length ≤ 2000000 by simp; omega), w2]
      simp
    | ite hn hNN hs hj ht1 hv1 ho hk hu hvu hou hl hw hvw how =>
      rename_i nn nm j k l t1 u1 v1
      rw [size3] at hN hm
      refine ⟨fun _ => or64 ?_, fun h28 => by cases h28⟩
      have hl1 := (toks_len t1.size t1 j (Nat.le_refl _) ht1 hv1).2
      have hl2 := (toks_len u1.size u1 k (Nat.le_refl _) hu hvu).2
      have hl3 := (toks_len v1.size v1 l (Nat.le_refl _) hw hvw).2
      have w1 := (ih t1 j (out ++ [opX 26].map mkT) (by omega) ht1 hv1 (by simp; omega)).1 ho
      have w2 := (ih u1 k (out ++ [opX 26].map mkT ++ (toks t1).map mkT ++ [[116, 104, 101, 110]].map mkT) (by omega) hu hvu (by simp; omega)).1 hou
      have w3 := (ih v1 l (out ++ [opX 26].map mkT ++ (toks t1).map mkT ++ [[116, 104, 101, 110]].map mkT ++ (toks u1).map mkT ++ [[101, 108, 115, 101]].map mkT) (by omega) hw hvw (by simp; omega)).1 how
      rw [toks_ite]
      simp only [r64, e1, cond_true, cond_false, Int.toNat_natCast, hn, Option.bind_some, of_eq, show ((26 : Int) == 1) = false from rfl, show ((26 : Int) == 2) = false from rfl, show ((26 : Int) == 3) = false from rfl, show ((26 : Int) == 27) = false from rfl, show ((26 : Int) == 26) = true from rfl, show (markX 26).1 = opX 26 from rfl,
        put_eq e out _ (show out.length + [opX 26].length ≤ 2000000 by simp; omega), w1, put_eq e (out ++ [opX 26].map mkT ++ (toks t1).map mkT) _ (show (out ++ [opX 26].map mkT ++ (toks t1).map mkT).length + [([116, 104, 101, 110] : Str)].length ≤ 2000000 by simp; omega), w2,
        put_eq e (out ++ [opX 26].map mkT ++ (toks t1).map mkT ++ [[116, 104, 101, 110]].map mkT ++ (toks u1).map mkT) _ (show (out ++ [opX 26].map mkT ++ (toks t1).map mkT ++ [[116, 104, 101, 110]].map mkT ++ (toks u1).map mkT).length + [([101, 108, 115, 101] : Str)].length ≤ 2000000 by simp; omega), w3]
      simp
    | un h hn hNN hs hj ht1 hv1 ho =>
      rename_i op b c nn nm j t1
      rw [size1] at hN hm
      refine ⟨fun _ => or64 ?_, fun h28 => by have h28 : op = 28 := h28; omega⟩
      have hl := (toks_len t1.size t1 j (Nat.le_refl _) ht1 hv1).2
      have hm2 := mostN_le op
      obtain ⟨n1, hn1, ho1⟩ : ∃ n1, nth e j = some n1 ∧ n1.1 = t1.op := by
        have hjl := emb_lt ht1
        refine ⟨e[j], by rw [nth_getElem?]; exact List.getElem?_eq_getElem hjl, ?_⟩
        have := emb_op ht1
        rw [← this]; exact (opAt_of (by rw [nth_getElem?]; exact List.getElem?_eq_getElem hjl)).symm
      have hlv : (markX op).2 = 9 := lv_un h
      have P : ∀ out' : List (Int × Str × Int), out'.length ≤ out.length + 2 → c72 T.rf e out' (j : Nat) 9 = some (e, out' ++ (partX 9 (t1.op, toks t1)).map mkT) := fun out' ho' => by
        rw [← ho1]
        exact part_of (m := 0) hn1 9 out' (fun o2 h2 => (ih t1 j o2 (by omega) ht1 hv1 (by omega)).1 ho) (by omega)
      rw [toks_un h]
      by_cases h25 : op = 25
      · subst h25
        simp only [r64, e1, cond_true, cond_false, Int.toNat_natCast, hn, Option.bind_some, of_eq, show ((25 : Int) == 1) = false from rfl, show ((25 : Int) == 2) = false from rfl, show ((25 : Int) == 3) = false from rfl, show ((25 : Int) == 27) = false from rfl, show ((25 : Int) == 26) = false from rfl, show ((markX 25).2 == 9) = true from rfl, show ((25 : Int) == 25) = true from rfl, show (markX 25).1 = opX 25 from rfl,
          put_eq e out _ (show out.length + [opX 25].length ≤ 2000000 by simp; omega), itoa_eq (n := nn) (by omega), put_eq e (out ++ [opX 25].map mkT) _ (show (out ++ [opX 25].map mkT).length + [itoaX nn].length ≤ 2000000 by simp; omega), P (out ++ [opX 25].map mkT ++ [itoaX nn].map mkT) (by simp)]
        simp
      · simp only [r64, e1, cond_true, cond_false, Int.toNat_natCast, hn, Option.bind_some, of_eq, bf (show op ≠ 1 by omega), bf (show op ≠ 2 by omega), bf (show op ≠ 3 by omega), bf (show op ≠ 27 by omega), bf (show op ≠ 26 by omega), bt hlv, bf h25, show (markX op).1 = opX op from rfl,
          put_eq e out _ (show out.length + [opX op].length ≤ 2000000 by simp; omega), P (out ++ [opX op].map mkT) (by simp), if_neg h25]
        simp
    | bin h hn hNN hs hj ht1 hv1 ho hk hu hvu hou =>
      rename_i op c nn nm j k t1 u1
      rw [size2] at hN hm
      refine ⟨fun _ => or64 ?_, fun h28 => by have h28 : op = 28 := h28; omega⟩
      have hl1 := (toks_len t1.size t1 j (Nat.le_refl _) ht1 hv1).2
      have hl2 := (toks_len u1.size u1 k (Nat.le_refl _) hu hvu).2
      obtain ⟨n1, hn1, ho1⟩ : ∃ n1, nth e j = some n1 ∧ n1.1 = t1.op := by
        have hjl := emb_lt ht1
        refine ⟨e[j], by rw [nth_getElem?]; exact List.getElem?_eq_getElem hjl, ?_⟩
        have := emb_op ht1
        rw [← this]; exact (opAt_of (by rw [nth_getElem?]; exact List.getElem?_eq_getElem hjl)).symm
      obtain ⟨n2, hn2, ho2⟩ : ∃ n2, nth e k = some n2 ∧ n2.1 = u1.op := by
        have hjl := emb_lt hu
        refine ⟨e[k], by rw [nth_getElem?]; exact List.getElem?_eq_getElem hjl, ?_⟩
        have := emb_op hu
        rw [← this]; exact (opAt_of (by rw [nth_getElem?]; exact List.getElem?_eq_getElem hjl)).symm
      obtain ⟨lv1, lv2⟩ := lv_bin h
      have P : ∀ (asked : Int), c72 T.rf e out (j : Nat) asked = some (e, out ++ (partX asked (t1.op, toks t1)).map mkT) := fun asked => by
        rw [← ho1]
        exact part_of (m := 0) hn1 asked out (fun o2 h2 => (ih t1 j o2 (by omega) ht1 hv1 (by omega)).1 ho) (by omega)
      have hpl : ∀ a, (partX a (t1.op, toks t1)).length ≤ (toks t1).length + 2 := fun a => (partX_len a (t1.op, toks t1)).2
      have Pu : ∀ (a : Int), c68 T.rf e (out ++ (partX a (t1.op, toks t1)).map mkT) [opX op] = some (e, out ++ (partX a (t1.op, toks t1)).map mkT ++ [opX op].map mkT) := fun a => put_eq e _ _ (by have := hpl a; simp; omega)
      have Q : ∀ (a asked : Int), c72 T.rf e (out ++ (partX a (t1.op, toks t1)).map mkT ++ [opX op].map mkT) (k : Nat) asked = some (e, out ++ (partX a (t1.op, toks t1)).map mkT ++ [opX op].map mkT ++ (partX asked (u1.op, toks u1)).map mkT) := fun a asked => by
        have := hpl a
        rw [← ho2]
        exact part_of (m := 0) hn2 asked _ (fun o2 h2 => (ih u1 k o2 (by omega) hu hvu (by simp at h2; omega)).1 hou) (by simp; omega)
      rw [toks_bin h]
      have hlx : (markX op).2 = lvX op := rfl
      have hw : IntKind.i64.wrap (lvX op + 1) = lvX op + 1 := wr (by omega)
      have base : r64 T.rf T.rb e out (i : Nat) = (c72 T.rf e out (j : Nat) (leftX op)).bind fun y => (c68 T.rf y.1 y.2 [opX op]).bind fun z => c72 T.rf z.1 z.2 (k : Nat) (rightX op) := by
        simp only [r64, e1, cond_true, cond_false, Int.toNat_natCast, hn, Option.bind_some, of_eq, bf (show op ≠ 1 by omega), bf (show op ≠ 2 by omega), bf (show op ≠ 3 by omega), bf (show op ≠ 27 by omega), bf (show op ≠ 26 by omega), hlx, bf (show lvX op ≠ 9 by omega), hw, show (markX op).1 = opX op from rfl, leftX, rightX, Option.bind_fun_some]
        by_cases h2 : lvX op ≤ 2
        · simp only [dt h2, cond_true, bf (show lvX op ≠ 6 by omega), cond_false, if_pos h2]
        · simp only [df h2, cond_false, if_neg h2]
          by_cases h6 : lvX op = 6
          · simp only [bt h6, cond_true, if_pos h6, h6]; rfl
          · simp only [bf h6, cond_false, if_neg h6]
      rw [base, P, Option.bind_some, Pu, Option.bind_some, Q]
      simp

end Go.Proofs.YtoippcahbninnaaGreatDoor.R

/-
  OUR OWN: what may be written, and its text; law ShowOrder.
-/
namespace Go.Proofs.YtoippcahbninnaaGreatDoor.R
open Go Go.Bm Go.Proofs
set_option linter.unusedVariables false
set_option linter.unusedSimpArgs false
set_option maxRecDepth 4000

def nameN (n : Nd) : Bool := (n.2.2.2.2.2 == ([] : Str)) || nameB n.2.2.2.2.2
mutual
def namesT : Tr → Bool
  | .mk b ks => nameN b && namesL ks
def namesL : List Tr → Bool
  | [] => true
  | t :: r => namesT t && namesL r
end

theorem strange_eq (n : Nd) : c55 T.rf n = some (!(nameN n)) := or55 (by
  simp only [r55, isName_eq, Option.bind_some, nameN]
  cases (n.2.2.2.2.2 == ([] : Str)) <;> rfl)

theorem idx_loop (e : List Nd) : ∀ (suf pre : List Nd), e = pre ++ suf → e.length ≤ 1000000 →
    ∃ z, k51 T.rb e ((e.length : Nat) : Int) (pre.length : Nat) = some z ∧ ((suf.all nameN = true ∧ z = .inr ()) ∨ (suf.all nameN = false ∧ ∃ j : Nat, z = .inl (j : Int)))
  | [], pre, h, hl => ⟨.inr (), ob51 (by
      subst h
      simp only [b51, lt_end, cond_false]), .inl ⟨rfl, rfl⟩⟩
  | x :: suf, pre, h, hl => by
    obtain ⟨z, h1, h2⟩ := idx_loop e suf (pre ++ [x]) (by rw [h]; simp) hl
    have hpl : pre.length < 4611686018427387904 := by rw [h] at hl; simp at hl; omega
    cases hx : nameN x with
    | false =>
      refine ⟨.inl (pre.length : Nat), ob51 ?_, .inr ⟨by simp [hx], _, rfl⟩⟩
      subst h
      simp only [b51, lt_mid, inb_mid, nth_mid, cond_true, Option.bind_some, strange_eq, hx, Bool.not_false]
    | true =>
      refine ⟨z, ob51 ?_, by simpa [hx] using h2⟩
      subst h
      simp only [b51, lt_mid, inb_mid, nth_mid, cond_true, cond_false, Option.bind_some, strange_eq, hx, Bool.not_true, next_mid pre x hpl]
      exact h1

theorem contains_eq {e : List Nd} (h : e.length ≤ 1000000) : c53 T.rf e = some (!(e.all nameN)) := or53 (by
  obtain ⟨z, h1, h2⟩ := idx_loop e e [] rfl h
  simp only [List.length_nil] at h1
  rw [show ((0 : Nat) : Int) = (0 : Int) from rfl] at h1
  rcases h2 with ⟨g, rfl⟩ | ⟨g, j, rfl⟩
  · have : c54 T.rf e = some (-1) := or54 (by simp only [r54, h1, Option.bind_some])
    simp only [r53, this, Option.bind_some, g]; rfl
  · have : c54 T.rf e = some (j : Int) := or54 (by simp only [r54, h1, Option.bind_some])
    simp only [r53, this, Option.bind_some, g, dt (show (j : Int) ≥ 0 by omega)]; rfl)

def mayS (e : List Nd) : Bool := mayB e && e.all nameN
theorem mayS_eq {e : List Nd} (h : e.length ≤ 1000000) : c44 T.rf e = some (mayS e) := or44 (by
  simp only [r44, May_eq h, contains_eq h, Option.bind_some, mayS]
  cases mayB e <;> cases e.all nameN <;> rfl)

/-! ### Names of a list, and of its tree -/
mutual
theorem emb_names {e : List Nd} (ha : e.all nameN = true) : ∀ (t : Tr) (i : Nat), Emb e i t → namesT t = true
  | .mk b ks, i, ⟨n, h1, h2, h3, h4⟩ => by
    have hn : nameN n = true := List.all_eq_true.1 ha n (by rw [nth_getElem?] at h1; exact List.mem_of_getElem? h1)
    rw [namesT, embs_names ha ks i _ h4, h2]
    exact by rw [show nameN (blank n) = nameN n from rfl, hn]; rfl
theorem embs_names {e : List Nd} (ha : e.all nameN = true) : ∀ (ts : List Tr) (i : Nat) (l : List Int), Embs e i l ts → namesL ts = true
  | [], _, _, _ => rfl
  | t :: ts, i, k :: l, ⟨_, _, h3, h4⟩ => by rw [namesL, emb_names ha t _ h3, embs_names ha ts i l h4]; rfl
  | t :: ts, i, [], h => h.elim
end

theorem embs_mem {e : List Nd} {i : Nat} : ∀ {l : List Int} {ts : List Tr} {k : Int}, Embs e i l ts → k ∈ l → ∃ u, u ∈ ts ∧ Emb e k.toNat u
  | [], _, _, _, h => by cases h
  | x :: l, [], _, h, _ => h.elim
  | x :: l, t :: ts, k, ⟨_, _, h3, h4⟩, h => by
    rcases List.mem_cons.1 h with h | h
    · subst h; exact ⟨t, by simp, h3⟩
    · obtain ⟨u, g1, g2⟩ := embs_mem h4 h
      exact ⟨u, List.mem_cons_of_mem _ g1, g2⟩
theorem namesL_mem : ∀ {ts : List Tr} {u : Tr}, u ∈ ts → namesT u = false → namesL ts = false
  | t :: ts, u, h, hu => by
    rw [namesL]
    rcases List.mem_cons.1 h with h | h
    · subst h; rw [hu]; rfl
    · rw [namesL_mem h hu, Bool.and_false]

theorem names_tree {e : List Nd} {t : Tr} (h : mayB e = true) (ht : Emb e (e.length - 1) t) : e.all nameN = namesT t := by
  cases ha : e.all nameN with
  | true => exact (emb_names ha t _ ht).symm
  | false =>
    obtain ⟨n, hn, hbad⟩ := List.all_eq_false.1 ha
    obtain ⟨j, hj⟩ := List.mem_iff_getElem?.1 hn
    have hjl : j < e.length := (List.getElem?_eq_some_iff.1 hj).1
    have key := may_up h (fun j => ∀ u, Emb e j u → namesT u = false) (fun i n k h1 h2 h3 u hu => by
      obtain ⟨b, ks⟩ := u
      obtain ⟨n', g1, g2, g3, g4⟩ := hu
      rw [h1] at g1; cases g1
      obtain ⟨v, w1, w2⟩ := embs_mem g4 h2
      rw [namesT, namesL_mem w1 (h3 v w2), Bool.and_false]) (e.length - 1 - j) j (by omega) hjl (fun u hu => by
      obtain ⟨b, ks⟩ := u
      obtain ⟨n', g1, g2, g3, g4⟩ := hu
      rw [nth_getElem?, hj] at g1; cases g1
      rw [namesT, g2, show nameN (blank n) = nameN n from rfl]
      have : nameN n = false := by simpa using hbad
      rw [this]; rfl)
    exact (key t ht).symm

/-! ### No token is long -/
theorem digX_len : ∀ (k n : Nat) (l : List UInt8), (digX k n l).length ≤ k + l.length
  | 0, _, l => by simp [digX]
  | k + 1, n, l => by
    unfold digX
    cases Nat.blt n 10 with
    | true => simp; omega
    | false => rw [cond_false]; have := digX_len k (n / 10) (UInt8.ofNat (48 + n % 10) :: l); simp only [List.length_cons] at this; omega
theorem itoaX_len (n : Int) : (itoaX n).length ≤ 40 := by
  unfold itoaX
  split
  · have := digX_len 20 ‹Nat› []; simp at this; omega
  · rename_i k; have := digX_len 20 (k + 1) []; simp at this; simp; omega
theorem opX_len (op : Int) : (opX op).length ≤ 40 := by
  unfold opX markX
  split
  · rename_i h
    have : ∀ k, k < 28 → (opsL.getD k ([], -1)).1.length ≤ 40 := by decide +kernel
    exact this _ (by omega)
  · simp
theorem boolX_len (n : Int) : (boolX n).length ≤ 40 := by unfold boolX; split <;> simp
theorem nameN_len {n : Nd} (h : nameN n = true) : n.2.2.2.2.2.length ≤ 40 := by
  unfold nameN at h
  rw [Bool.or_eq_true] at h
  rcases h with h | h
  · rw [eq_of_beq h]; simp
  · simp only [nameB, Bool.and_eq_true, decide_eq_true_eq] at h
    exact h.2.1

def Small (l : List Str) : Prop := ∀ s ∈ l, List.length s ≤ 40
theorem Small.part {a : Int} {x : Int × List Str} (h : Small x.2) : Small (partX a x) := by
  unfold partX; split
  · exact h
  · intro s hs
    simp only [List.mem_cons, List.mem_append, List.not_mem_nil, or_false] at hs
    rcases hs with rfl | hs | rfl
    · simp
    · exact h s hs
    · simp
theorem tokB_small {b : Nd} (hb : nameN b = true) {l : List (Int × List Str)} (hl : ∀ x ∈ l, Small x.2) : Small (tokB b l) := by
  have hnm := nameN_len hb
  unfold tokB
  split
  · intro s hs; simp at hs; subst hs; exact itoaX_len _
  split
  · intro s hs; simp at hs; subst hs; exact boolX_len _
  split
  · intro s hs; simp at hs; subst hs; exact hnm
  split
  · split
    · rename_i x
      intro s hs
      simp only [List.mem_cons, List.mem_append, List.not_mem_nil, or_false] at hs
      rcases hs with rfl | rfl | hs | rfl
      · exact hnm
      · simp
      · exact hl x (by simp) s hs
      · simp
    · intro s hs
      simp only [List.mem_cons, List.not_mem_nil, or_false] at hs
      rcases hs with rfl | rfl | rfl
      · exact hnm
      · simp
      · simp
  split
  · rename_i x
    have hx := hl x (by simp)
    split
    · exact hx
    split
    · intro s hs
      simp only [List.mem_cons] at hs
      rcases hs with rfl | rfl | hs
      · exact opX_len _
      · exact itoaX_len _
      · exact Small.part hx s hs
    · intro s hs
      simp only [List.mem_cons] at hs
      rcases hs with rfl | hs
      · exact opX_len _
      · exact Small.part hx s hs
  · rename_i x y
    have hx := hl x (by simp)
    have hy := hl y (by simp)
    split
    · intro s hs
      simp only [List.mem_cons, List.mem_append] at hs
      rcases hs with hs | rfl | hs
      · exact hx s hs
      · simp
      · exact hy s hs
    · intro s hs
      simp only [List.mem_cons, List.mem_append] at hs
      rcases hs with hs | rfl | hs
      · exact Small.part hx s hs
      · exact opX_len _
      · exact Small.part hy s hs
  · rename_i x y z
    have hx := hl x (by simp)
    have hy := hl y (by simp)
    have hz := hl z (by simp)
    intro s hs
    simp only [List.mem_cons, List.mem_append] at hs
    rcases hs with rfl | hs | rfl | hs | rfl | hs
    · exact opX_len _
    · exact hx s hs
    · simp
    · exact hy s hs
    · simp
    · exact hz s hs
  · intro s hs; cases hs

mutual
theorem toks_small : ∀ (t : Tr), namesT t = true → Small (toks t)
  | .mk b ks, h => by
    rw [namesT, Bool.and_eq_true] at h
    rw [toks]
    exact tokB_small h.1 (toksL_small ks h.2)
theorem toksL_small : ∀ (ts : List Tr), namesL ts = true → ∀ x ∈ toksL ts, Small x.2
  | [], _, x, hx => by cases hx
  | t :: ts, h, x, hx => by
    rw [namesL, Bool.and_eq_true] at h
    rw [toksL, List.mem_cons] at hx
    rcases hx with rfl | hx
    · exact toks_small t h.1
    · exact toksL_small ts h.2 x hx
end

/-- Tokens' texts put together: blanks ahead of each; and between any two. -/
def J (l : List Str) : Str := l.flatMap fun s => 32 :: s
theorem joinR_J : ∀ l : List Str, joinR (l.map mkT) = J l
  | [] => rfl
  | x :: l => by rw [List.map_cons, joinR, joinR_J l]; simp [J, mkT]
def txt (l : List Str) : Str := (J l).drop 1
theorem joinX_txt : ∀ l : List Str, joinX (l.map mkT) = txt l
  | [] => rfl
  | x :: l => by rw [List.map_cons, joinX, joinR_J]; simp [txt, J, mkT]
theorem J_len {l : List Str} (h : Small l) : (J l).length ≤ 41 * l.length := by
  induction l with
  | nil => simp [J]
  | cons x l ih =>
    have h1 := h x (by simp)
    have := ih fun s hs => h s (List.mem_cons_of_mem _ hs)
    simp only [J, List.flatMap_cons, List.length_append, List.length_cons] at this ⊢
    omega
theorem txt_len {l : List Str} (h : Small l) : (txt l).length ≤ 41 * l.length := by
  have := J_len h
  unfold txt
  rw [List.length_drop]; omega

/-- **What package show writes.** -/
theorem Show_tree {e : List Nd} {t : Tr} (h : mayB e = true) (ht : Emb e (e.length - 1) t) (hv : Valid t) (hs : t.size ≤ 5000) (hop : t.op ≠ 28) (hl : e.length ≤ 1000000) :
    c43 T.rf e = some (if namesT t = true then txt (toks t) else []) := or43 (by
  have hpos := List.length_pos_iff.2 (may_P h).ne
  simp only [r43, mayS_eq hl, Option.bind_some, mayS, h, Bool.true_and, names_tree h ht]
  cases hn : namesT t with
  | false => rfl
  | true =>
    have w := (show_walk t.size t (e.length - 1) [] (Nat.le_refl _) ht hv (by simp; omega)).1 hop
    have hlen := (toks_len t.size t _ (Nat.le_refl _) ht hv).2
    have hb := txt_len (toks_small t hn)
    have hj : c74 T.rf ((toks t).map mkT) = some (txt (toks t)) := or74 (by
      simp only [r74, joinX_txt, ble_most (show (txt (toks t)).length ≤ 274877906944 by omega), cond_true])
    rw [last_i (may_P h).ne (by omega)]
    rw [List.nil_append] at w
    rw [Bool.not_true, cond_false, w, Option.bind_some, hj]
    rfl)

theorem Show_not {e : List Nd} (h : mayB e = false) (hl : e.length ≤ 1000000) : c43 T.rf e = some [] := or43 (by
  simp only [r43, mayS_eq hl, Option.bind_some, mayS, h, Bool.false_and]; rfl)

/-- The tree of what is in order. -/
theorem norm_tree {e : List Nd} (h : mayB e = true) : ∃ t, Emb e (e.length - 1) t ∧ Valid t ∧ t.op ≠ 28 ∧ t.size ≤ 5000 ∧ t.size = e.length ∧ norm e = flat t 0 ∧ mayB (flat t 0) = true ∧ Emb (flat t 0) ((flat t 0).length - 1) t := by
  obtain ⟨t, h1, h2, h3, h4, h5, h6, h7⟩ := may_tree h
  have hE := emb_flat t [] [] h2
  simp only [List.nil_append, List.append_nil, List.length_nil, Nat.zero_add] at hE
  have hm := (norm_may h).1
  rw [norm_flat h h1] at hm
  exact ⟨t, h1, h2, h4, h7, h3, norm_flat h h1, hm, by rw [flat_len]; exact hE⟩

theorem ShowOrder_eq (e : List Nd) : c94 T.rf e = some true := or94 (by
  have live_eq : c1 T.rf = some true := live_run
  simp only [r94, live_eq, Option.bind_some]
  by_cases hl : e.length ≤ 300
  case neg => rw [dt (by omega)]; rfl
  have h1 : e.length ≤ 1000000 := by omega
  rw [df (by omega), cond_false, refMay_eq h1, Option.bind_some]
  cases hm : mayB e with
  | false => rfl
  | true =>
    obtain ⟨t, k1, k2, k3, k4, k5, k6, k7, k8⟩ := norm_tree hm
    rw [Bool.not_true, cond_false, Show_tree hm k1 k2 k4 k3 h1, Option.bind_some, Norm_eq h1, Option.bind_some, k6, Show_tree k7 k8 k2 k4 k3 (by rw [flat_len]; omega), Option.bind_some, beq_self_eq_true]
    rfl)

theorem lawShowOrder : LawOk T 94 := fun d _ => ⟨true, ShowOrder_eq d, rfl, rfl, rfl⟩

end Go.Proofs.YtoippcahbninnaaGreatDoor.R

/-
  OUR OWN: trees laid flat, joined: the tree of them, laid flat; a call's chain of arguments.
-/
namespace Go.Proofs.YtoippcahbninnaaGreatDoor.R
open Go Go.Bm Go.Proofs
set_option linter.unusedVariables false
set_option linter.unusedSimpArgs false
set_option maxRecDepth 4000

theorem roots_add : ∀ (ks : List Tr) (o p : Nat), roots ks (o + p) = (roots ks o).map fun x => x + (p : Int)
  | [], _, _ => rfl
  | t :: r, o, p => by
    have := t.size_pos
    rw [roots, roots, List.map_cons, ← roots_add r (o + t.size) p, show o + p + t.size = o + t.size + p by omega]
    congr 1
    omega

mutual
theorem flat_mv : ∀ (t : Tr) (o p : Nat), Valid t → o + p + t.size ≤ 1000000 → (flat t o).map (mv (p : Nat)) = flat t (o + p)
  | .mk b ks, o, p, ⟨h1, h2, h3, h4, h5, h6⟩, hs => by
    rw [Tr.size] at hs
    rw [flat, flat, List.map_append, flats_mv ks o p h6 (by omega), List.map_cons, List.map_nil]
    rw [mv_aim h1 (p : Int) (by omega) (roots ks o) (by rw [roots_len]; exact h3) (fun x hx => by have := roots_ge ks o x hx; omega), roots_add]
theorem flats_mv : ∀ (ks : List Tr) (o p : Nat), Valids ks → o + p + sizes ks ≤ 1000000 → (flats ks o).map (mv (p : Nat)) = flats ks (o + p)
  | [], _, _, _, _ => rfl
  | t :: r, o, p, ⟨h1, h2⟩, hs => by
    rw [sizes] at hs
    rw [flats, flats, List.map_append, flat_mv t o p h1 (by omega), flats_mv r (o + t.size) p h2 (by omega), show o + p + t.size = o + t.size + p by omega]
end

theorem flat_ne (t : Tr) (o : Nat) : flat t o ≠ [] := by
  intro h
  have := flat_len t o
  have := t.size_pos
  rw [h] at *
  simp at *; omega

theorem joinL_flat {op : Int} (hop : op ≠ 27) : ∀ (ts : List Tr) (o : List Nd) (ks : List Int) (l : Int), Valids ts → o.length + sizes ts ≤ 1000000 →
    joinL op (ts.map fun t => flat t 0) o ks l = some (o ++ flats ts o.length, ks ++ roots ts o.length, l)
  | [], o, ks, l, _, _ => by simp [joinL, flats, roots]
  | t :: r, o, ks, l, ⟨h1, h2⟩, hs => by
    rw [sizes] at hs
    have hp := t.size_pos
    have e1 : (flat t 0).map (mv (o.length : Nat)) = flat t o.length := by have := flat_mv t 0 o.length h1 (by omega); rwa [Nat.zero_add] at this
    have el : (o ++ flat t o.length).length = o.length + t.size := by rw [List.length_append, flat_len]
    rw [List.map_cons, joinL, if_neg (flat_ne t 0)]
    simp only [if_neg hop, e1]
    rw [joinL_flat hop r _ _ _ h2 (by rw [el]; omega), el, flats, roots]
    congr 2
    · simp
    · rw [List.append_assoc]
      congr 2
      rw [List.singleton_append]
      congr 1
      omega

/-- **Trees laid flat, joined.** -/
theorem join_flat {op n : Int} {nm : List UInt8} {ts : List Tr} (h27 : op ≠ 27) (h28 : op ≠ 28) (hk : (kids (op, -1, -1, -1, n, nm)).length = ts.length) (hv : Valids ts) (hs : sizes ts ≤ 1000000) :
    join op n nm (ts.map fun t => flat t 0) = flat (.mk (op, -1, -1, -1, n, nm) ts) 0 := by
  unfold join
  rw [if_neg h28, if_neg (fun h => h.2 (by rw [hk, List.length_map])), joinL_flat h27 ts [] [] (-1) hv (by simp only [List.length_nil]; omega)]
  simp only [keptK, if_neg h27, List.nil_append, List.length_nil]
  rw [flat]

/-! ### A call -/
def chn : List Tr → List Tr → List Tr
  | acc, [] => acc
  | acc, u :: r => chn [.mk (28, -1, -1, -1, 0, []) (acc ++ [u])] r
def callT (nm : List UInt8) (ts : List Tr) : Tr := .mk (27, -1, -1, -1, 0, nm) (chn [] ts)

theorem joinL_call : ∀ (ts : List Tr) (acc : List Tr) (ks : List Int), Valids ts → acc.length ≤ 1 → sizes acc + sizes ts + ts.length ≤ 1000000 →
    ∃ ks', joinL 27 (ts.map fun t => flat t 0) (flats acc 0) ks (if acc = [] then -1 else (sizes acc : Int) - 1) = some (flats (chn acc ts) 0, ks', if chn acc ts = [] then -1 else (sizes (chn acc ts) : Int) - 1)
  | [], acc, ks, _, _, _ => ⟨ks, by rw [List.map_nil, joinL, chn]⟩
  | u :: r, acc, ks, ⟨hu, hr⟩, hl, hs => by
    rw [sizes, List.length_cons] at hs
    have hp := u.size_pos
    have el := flats_len acc 0
    have e1 : (flat u 0).map (mv (((flats acc 0).length : Nat) : Int)) = flat u (sizes acc) := by rw [el]; have := flat_mv u 0 (sizes acc) hu (by omega); rwa [Nat.zero_add] at this
    have eo : flats acc 0 ++ flat u (sizes acc) = flats (acc ++ [u]) 0 := by
      match acc, hl with
      | [], _ => simp [flats, sizes]
      | [c], _ => simp [flats, sizes]
    have elen : (flats (acc ++ [u]) 0).length = sizes acc + u.size := by rw [← eo, List.length_append, el, flat_len]
    have en : flats (acc ++ [u]) 0 ++ [((28 : Int), ((sizes acc + u.size : Nat) : Int) - 1, (if acc = [] then (-1 : Int) else (sizes acc : Int) - 1), (-1 : Int), (0 : Int), ([] : List UInt8))] = flats [.mk (28, -1, -1, -1, 0, []) (acc ++ [u])] 0 := by
      rw [flats, flats, List.append_nil, flat]
      congr 1
      match acc, hl with
      | [], _ =>
        have q : ((0 + u.size : Nat) : Int) - 1 = ((0 + u.size - 1 : Nat) : Int) := by omega
        simp only [List.nil_append, roots, aim, sizes, if_true, q]
      | [c], _ =>
        have := c.size_pos
        have q : ((c.size + 0 + u.size : Nat) : Int) - 1 = ((0 + c.size + u.size - 1 : Nat) : Int) := by omega
        have q2 : ((c.size + 0 : Nat) : Int) - 1 = ((0 + c.size - 1 : Nat) : Int) := by omega
        simp only [List.singleton_append, roots, aim, sizes, if_true, if_neg (show ¬ ([c] : List Tr) = [] by simp), q, q2]
    have hsz : sizes [Tr.mk (28, -1, -1, -1, 0, []) (acc ++ [u])] = sizes acc + u.size + 1 := by
      match acc, hl with
      | [], _ => simp [sizes, Tr.size]
      | [c], _ => simp [sizes, Tr.size]
    rw [List.map_cons, joinL, if_neg (flat_ne u 0)]
    simp only [if_true, e1]
    rw [eo, elen, en]
    obtain ⟨ks', hk⟩ := joinL_call r [.mk (28, -1, -1, -1, 0, []) (acc ++ [u])] (ks ++ [((sizes acc + u.size : Nat) : Int) - 1]) hr (by simp) (by rw [hsz]; omega)
    rw [if_neg (by simp), hsz] at hk
    refine ⟨ks', ?_⟩
    rw [chn, ← hk]
    congr 1
    omega

theorem chn_one : ∀ (ts acc : List Tr), acc.length ≤ 1 → (chn acc ts).length ≤ 1
  | [], acc, h => h
  | u :: r, acc, h => chn_one r _ (by simp)

/-- **Arguments joined to a call.** -/
theorem join_call {nm : List UInt8} {ts : List Tr} (hv : Valids ts) (hs : sizes ts + ts.length ≤ 1000000) :
    join 27 0 nm (ts.map fun t => flat t 0) = flat (callT nm ts) 0 := by
  obtain ⟨ks', h⟩ := joinL_call ts [] [] hv (by simp) (by simp only [sizes]; omega)
  simp only [flats, if_true] at h
  unfold join
  rw [if_neg (by decide), if_neg (fun h => h.1 rfl), h]
  simp only [keptK, if_true]
  rw [callT, flat]
  congr 1
  generalize hc : chn [] ts = c at *
  have hc1 := chn_one ts [] (by simp)
  rw [hc] at hc1
  match c, hc1 with
  | [], _ => simp [roots, aim]
  | [c], _ =>
    have := c.size_pos
    simp only [if_neg (show ¬ ([c] : List Tr) = [] by simp), roots, sizes]
    rw [if_neg (by omega)]
    congr 3
    omega

end Go.Proofs.YtoippcahbninnaaGreatDoor.R

/-
  OUR OWN: the document's tokens of a text (its Lex), in plain terms.
-/
namespace Go.Proofs.YtoippcahbninnaaGreatDoor.R
open Go Go.Bm Go.Proofs
set_option linter.unusedVariables false
set_option linter.unusedSimpArgs false
set_option maxRecDepth 4000

abbrev Tok3 : Type := Int × Str × Int

/-! ### A number's value -/
def digI (c : UInt8) : Int := IntKind.u8.wrap (((c.toNat : Nat) : Int) - 48)
theorem digI_r (c : UInt8) : 0 ≤ digI c ∧ digI c ≤ 255 := by unfold digI; rw [IntKind.wrap_u8]; omega
def valF : Int → Str → Int
  | n, [] => n
  | n, c :: s => if n ≤ 2147483647 then valF (10 * n + digI c) s else n
theorem valF_pos : ∀ (s : Str) (n : Int), 0 ≤ n → 0 ≤ valF n s
  | [], n, h => h
  | c :: s, n, h => by
    have := digI_r c
    rw [valF]; split
    · exact valF_pos s _ (by omega)
    · exact h
theorem value_loop : ∀ (suf pre : Str) (n : Int), 0 ≤ n → n ≤ 21474836725 → pre.length + suf.length ≤ 1000000 →
    k3 T.rb (pre ++ suf) n (pre.length : Nat) = some (valF n suf)
  | [], pre, n, h, h2, h3 => ob3 (by simp only [b3, lt_end, cond_false, valF])
  | c :: suf, pre, n, h, h2, h3 => ob3 (by
    simp only [List.length_cons] at h3
    simp only [b3, lt_mid, inb_mid, nth_mid, cond_true, Option.bind_some, next_mid pre c (by omega)]
    rw [valF]
    by_cases hn : n ≤ 2147483647
    · have hd := digI_r c
      have ih := value_loop suf (pre ++ [c]) (10 * n + digI c) (by omega) (by omega) (by simp; omega)
      simp only [List.append_assoc, List.singleton_append] at ih
      have e1 : IntKind.i64.wrap (10 * n) = 10 * n := wr (by omega)
      have e2 : IntKind.i64.wrap (IntKind.u8.wrap (((c.toNat : Nat) : Int) - 48)) = digI c := wr (show -9223372036854775808 ≤ digI c ∧ digI c ≤ 9223372036854775807 by omega)
      have e3 : IntKind.i64.wrap (10 * n + digI c) = 10 * n + digI c := wr (by omega)
      rw [dt hn, cond_true, if_pos hn, e1, e2, e3]
      exact ih
    · rw [df hn, cond_false, if_neg hn])
theorem value_eq {s : Str} (h : s.length ≤ 1000000) : c6 T.rf s = some (valF 0 s) := or6 (by
  have := value_loop s [] 0 (by omega) (by omega) (by simpa using h)
  simp only [List.nil_append, List.length_nil] at this
  rw [show ((0 : Nat) : Int) = (0 : Int) from rfl] at this
  simp only [r6, this, Option.bind_some])

/-! ### One token -/
theorem digs_loop : ∀ (suf pre : Str), pre.length + suf.length ≤ 1000000 → k2 T.rb (pre ++ suf) (pre.length : Nat) = some (((pre.length + (suf.takeWhile digB).length : Nat)) : Int)
  | [], pre, h => ob2 (by simp only [b2, lt_end, cond_false]; rfl)
  | c :: suf, pre, h => ob2 (by
    simp only [List.length_cons] at h
    have ih := digs_loop suf (pre ++ [c]) (by simp; omega)
    simp only [List.append_assoc, List.singleton_append, List.length_append, List.length_cons, List.length_nil, Nat.zero_add] at ih
    simp only [b2, lt_mid, inb_mid, nth_mid, cond_true, Option.bind_some, refDigit_eq, next_mid pre c (by omega)]
    rw [List.takeWhile_cons]
    cases digB c with
    | true =>
      simp only [cond_true, if_true, List.length_append, List.length_cons, List.length_nil, Nat.zero_add]
      rw [ih]; congr 2; omega
    | false => rfl)
theorem lets_loop : ∀ (suf pre : Str), pre.length + suf.length ≤ 1000000 → k4 T.rb (pre ++ suf) (pre.length : Nat) = some (((pre.length + (suf.takeWhile partB).length : Nat)) : Int)
  | [], pre, h => ob4 (by simp only [b4, lt_end, cond_false]; rfl)
  | c :: suf, pre, h => ob4 (by
    simp only [List.length_cons] at h
    have ih := lets_loop suf (pre ++ [c]) (by simp; omega)
    simp only [List.append_assoc, List.singleton_append, List.length_append, List.length_cons, List.length_nil, Nat.zero_add] at ih
    simp only [b4, lt_mid, inb_mid, nth_mid, cond_true, Option.bind_some, refDigit_eq, refLetter_eq, next_mid pre c (by omega)]
    rw [List.takeWhile_cons, partB_eq]
    cases letB c with
    | true =>
      simp only [cond_true, Bool.true_or, if_true, List.length_append, List.length_cons, List.length_nil, Nat.zero_add]
      rw [ih]; congr 2; omega
    | false =>
      cases digB c with
      | true =>
        simp only [cond_true, cond_false, Bool.false_or, if_true, List.length_append, List.length_cons, List.length_nil, Nat.zero_add]
        rw [ih]; congr 2; omega
      | false => rfl)

def signsX : List Str := [[45, 62], [61, 62], [60, 61], [62, 61], [60, 62], [61], [60], [62], [43], [45], [42], [40], [41], [44], [59], [58]]
def signF (s : Str) : List Str → Str
  | [] => []
  | x :: r => if s.take x.length = x then x else signF s r
theorem sign_loop (s : Str) (hs : s.length ≤ 1000000) : ∀ (suf pre : List Str), pre.length + suf.length ≤ 100 → (∀ x ∈ suf, x ≠ []) →
    ∃ z, k7 T.rb (pre ++ suf) s (pre.length : Nat) = some z ∧ ((signF s suf = [] ∧ ∃ u, z = .inr u) ∨ (signF s suf ≠ [] ∧ ∃ u, z = .inl (u, signF s suf)))
  | [], pre, h, hne => ⟨.inr pre, ob7 (by simp only [b7, lt_end, cond_false, List.append_nil, lt_self]), .inl ⟨rfl, _, rfl⟩⟩
  | x :: suf, pre, h, hne => by
    simp only [List.length_cons] at h
    obtain ⟨z, h1, h2⟩ := sign_loop s hs suf (pre ++ [x]) (by simp; omega) (fun y hy => hne y (List.mem_cons_of_mem _ hy))
    simp only [List.append_assoc, List.singleton_append] at h1
    by_cases hx : s.take x.length = x
    · have hl : x.length ≤ s.length := by have := congrArg List.length hx; rw [List.length_take] at this; omega
      refine ⟨.inl (pre ++ x :: suf, x), ob7 ?_, .inr ⟨by rw [signF, if_pos hx]; exact hne x (by simp), _, by rw [signF, if_pos hx]⟩⟩
      have e2 : sub s (some (0, x.length - 0)) = x := by rw [Nat.sub_zero, sub_zero]; exact hx
      simp only [b7, lt_mid, inb_mid, nth_mid, cond_true, Option.bind_some, dt (show ((s.length : Nat) : Int) ≥ ((x.length : Nat) : Int) by omega), inb'_t (show (0 : Int) ≤ ((x.length : Nat) : Int) by omega) (show ((x.length : Nat) : Int) ≤ ((s.length : Nat) : Int) by omega), e2, beq_self_eq_true]
    · refine ⟨z, ob7 ?_, by rw [signF, if_neg hx]; exact h2⟩
      by_cases hl : x.length ≤ s.length
      · have e2 : (sub s (some (0, x.length - 0)) == x) = false := by rw [Nat.sub_zero, sub_zero]; exact beq_eq_false_iff_ne.2 hx
        simp only [b7, lt_mid, inb_mid, nth_mid, cond_true, cond_false, Option.bind_some, dt (show ((s.length : Nat) : Int) ≥ ((x.length : Nat) : Int) by omega), inb'_t (show (0 : Int) ≤ ((x.length : Nat) : Int) by omega) (show ((x.length : Nat) : Int) ≤ ((s.length : Nat) : Int) by omega), e2, next_mid pre x (by omega)]
        exact h1
      · simp only [b7, lt_mid, inb_mid, nth_mid, cond_true, cond_false, Option.bind_some, df (show ¬ ((s.length : Nat) : Int) ≥ ((x.length : Nat) : Int) by omega), next_mid pre x (by omega)]
        exact h1
def signX (s : Str) : Str := signF s signsX
theorem sign_eq {s : Str} (hs : s.length ≤ 1000000) : c12 T.rf s = some (signX s) := or12 (by
  have hS : c13 T.rf = some signsX := or13 rfl
  obtain ⟨z, h1, h2⟩ := sign_loop s hs signsX [] (by decide) (by decide)
  simp only [List.nil_append, List.length_nil] at h1
  rw [show ((0 : Nat) : Int) = (0 : Int) from rfl] at h1
  simp only [r12, hS, Option.bind_some, h1, signX]
  rcases h2 with ⟨g, u, rfl⟩ | ⟨g, u, rfl⟩
  · rw [g]
  · rfl)

def wordX (w : Str) (a : Int) : Tok3 × Int := if wordB w = true then ((3, w, a), 0) else if nameB w = true then ((1, w, a), 0) else ((0, [], 0), 5)
theorem word_eq (w : Str) (a : Int) : c8 T.rf w a = some (wordX w a) := or8 (by
  simp only [r8, refIsWord_eq, refIsName_eq, Option.bind_some, wordX]
  cases wordB w <;> cases nameB w <;> rfl)
def numX (w : Str) (a : Int) : Tok3 × Int := if (1 < w.length ∧ w.headD 0 = 48) ∨ 2147483647 < valF 0 w then ((0, [], 0), 2) else ((2, w, a), 0)
def oneX (s : Str) (a : Int) : Tok3 × Int :=
  bif digB (s.headD 0) then numX (s.takeWhile digB) a else
  bif letB (s.headD 0) then wordX (s.takeWhile partB) a else
  if signX s = [] then ((0, [], 0), 5) else ((4, signX s, a), 0)

theorem take_tw (p : UInt8 → Bool) : ∀ s : Str, s.take (s.takeWhile p).length = s.takeWhile p
  | [] => rfl
  | c :: s => by
    rw [List.takeWhile_cons]
    cases p c with
    | true => simp only [if_true, List.length_cons, List.take_succ_cons, take_tw p s]
    | false => rfl
theorem tw_le (p : UInt8 → Bool) (s : Str) : (s.takeWhile p).length ≤ s.length := by
  have := congrArg List.length (take_tw p s)
  rw [List.length_take] at this; omega

theorem one_eq {c : UInt8} {r : Str} (a : Int) (h : (c :: r).length ≤ 1000000) : c4 T.rf (c :: r) a = some (oneX (c :: r) a) := or4 (by
  have e3 : inb 0 (c :: r).length = true := inb_t (by omega) (by simp only [List.length_cons]; omega)
  have e4 : nth (c :: r) 0 = some c := rfl
  have z0 : ((0 : Nat) : Int) = (0 : Int) := rfl
  simp only [r4, e3, e4, cond_true, Option.bind_some, refDigit_eq, refLetter_eq, oneX, List.headD_cons]
  cases hd : digB c with
  | true =>
    have hl := digs_loop (c :: r) [] (by simpa using h)
    simp only [List.nil_append, List.length_nil, Nat.zero_add] at hl
    rw [z0] at hl
    have hle := tw_le digB (c :: r)
    have e5 : inb' ((((c :: r).takeWhile digB).length : Nat) : Int) (c :: r).length = true := inb'_t (by omega) (by omega)
    have e6 : sub (c :: r) (some (0, ((((c :: r).takeWhile digB).length : Nat) : Int).toNat - 0)) = (c :: r).takeWhile digB := by rw [Int.toNat_natCast, Nat.sub_zero, sub_zero, take_tw]
    have hhd : ((c :: r).takeWhile digB).headD 0 = c := by rw [List.takeWhile_cons, hd]; rfl
    have hc48 : ((((c.toNat : Nat) : Int)) == 48) = decide (c = 48) := by
      by_cases hc : c = 48
      · subst hc; rfl
      · rw [df hc]
        refine bf fun hh => hc ?_
        have : c.toNat = 48 := by omega
        exact UInt8.toNat_inj.1 this
    simp only [cond_true, hl, Option.bind_some, e5, e6, value_eq (show ((c :: r).takeWhile digB).length ≤ 1000000 by omega), hc48, numX, hhd]
    generalize (c :: r).takeWhile digB = w at *
    by_cases h1 : 1 < w.length
    · rw [dt (show ((w.length : Nat) : Int) > 1 by omega), cond_true]
      by_cases h2 : c = 48
      · rw [dt h2, cond_true, if_pos (.inl ⟨h1, h2⟩)]
      · rw [df h2, cond_false]
        by_cases h3 : 2147483647 < valF 0 w
        · rw [dt (show valF 0 w > 2147483647 from h3), cond_true, if_pos (.inr h3)]
        · rw [df (show ¬ valF 0 w > 2147483647 from h3), cond_false, if_neg (fun hh => hh.elim (fun k => h2 k.2) h3)]
    · rw [df (show ¬ ((w.length : Nat) : Int) > 1 by omega), cond_false]
      by_cases h3 : 2147483647 < valF 0 w
      · rw [dt (show valF 0 w > 2147483647 from h3), cond_true, if_pos (.inr h3)]
      · rw [df (show ¬ valF 0 w > 2147483647 from h3), cond_false, if_neg (fun hh => hh.elim (fun k => h1 k.1) h3)]
  | false =>
    simp only [cond_false]
    cases hL : letB c with
    | true =>
      have hl := lets_loop (c :: r) [] (by simpa using h)
      simp only [List.nil_append, List.length_nil, Nat.zero_add] at hl
      rw [z0] at hl
      have hle := tw_le partB (c :: r)
      have e5 : inb' ((((c :: r).takeWhile partB).length : Nat) : Int) (c :: r).length = true := inb'_t (by omega) (by omega)
      have e6 : sub (c :: r) (some (0, ((((c :: r).takeWhile partB).length : Nat) : Int).toNat - 0)) = (c :: r).takeWhile partB := by rw [Int.toNat_natCast, Nat.sub_zero, sub_zero, take_tw]
      simp only [cond_true, hl, Option.bind_some, e5, e6, word_eq]
    | false =>
      simp only [cond_false, sign_eq h, Option.bind_some]
      by_cases hs : signX (c :: r) = []
      · rw [hs, if_pos rfl]; rfl
      · rw [if_neg hs, beq_eq_false_iff_ne.2 hs]; rfl)

end Go.Proofs.YtoippcahbninnaaGreatDoor.R

/-
  OUR OWN: the document's Lex, of any text and of a text that is written.
-/
namespace Go.Proofs.YtoippcahbninnaaGreatDoor.R
open Go Go.Bm Go.Proofs
set_option linter.unusedVariables false
set_option linter.unusedSimpArgs false
set_option maxRecDepth 4000

theorem signF_take (s : Str) : ∀ l : List Str, signF s l = [] ∨ (s.take (signF s l).length = signF s l ∧ signF s l ∈ l)
  | [] => .inl rfl
  | x :: r => by
    rw [signF]; split
    · rename_i h; exact .inr ⟨h, by simp⟩
    · rcases signF_take s r with h | h
      · exact .inl h
      · exact .inr ⟨h.1, List.mem_cons_of_mem _ h.2⟩

/-- What a token that Lex finds is. -/
def Okk (x : Tok3) : Prop := (x.1 = 1 ∧ nameB x.2.1 = true) ∨ (x.1 = 2 ∧ 0 ≤ valF 0 x.2.1 ∧ valF 0 x.2.1 ≤ 2147483647 ∧ x.2.1.length ≤ 1000000) ∨ x.1 = 3 ∨ x.1 = 4

theorem oneX_ok {c : UInt8} {r : Str} {a : Int} (hl : (c :: r).length ≤ 1000000) (h : (oneX (c :: r) a).2 = 0) : Okk (oneX (c :: r) a).1 ∧ 1 ≤ (oneX (c :: r) a).1.2.1.length ∧ (oneX (c :: r) a).1.2.1.length ≤ (c :: r).length := by
  unfold oneX at *
  rw [List.headD_cons] at *
  cases hd : digB c with
  | true =>
    rw [hd] at h
    simp only [cond_true] at h ⊢
    have h1 : 1 ≤ ((c :: r).takeWhile digB).length := by rw [List.takeWhile_cons, hd]; simp
    have h2 := tw_le digB (c :: r)
    unfold numX at h ⊢
    split at h
    · cases h
    · rename_i hn
      rw [if_neg hn]
      have := valF_pos ((c :: r).takeWhile digB) 0 (by omega)
      exact ⟨.inr (.inl ⟨rfl, this, by show valF 0 _ ≤ _; exact Int.not_lt.1 fun hh => hn (.inr hh), Nat.le_trans h2 hl⟩), h1, h2⟩
  | false =>
    rw [hd] at h
    simp only [cond_false] at h ⊢
    cases hL : letB c with
    | true =>
      rw [hL] at h
      simp only [cond_true] at h ⊢
      have h1 : 1 ≤ ((c :: r).takeWhile partB).length := by rw [List.takeWhile_cons, partB_eq, hL]; simp
      have h2 := tw_le partB (c :: r)
      unfold wordX at h ⊢
      split at h
      · rename_i hw; rw [if_pos hw]; exact ⟨.inr (.inr (.inl rfl)), h1, h2⟩
      · rename_i hw
        rw [if_neg hw]
        split at h
        · rename_i hn; rw [if_pos hn]; exact ⟨.inl ⟨rfl, hn⟩, h1, h2⟩
        · cases h
    | false =>
      rw [hL] at h
      simp only [cond_false] at h ⊢
      split at h
      · cases h
      · rename_i hs
        rw [if_neg hs]
        have : signX (c :: r) ≠ [] := hs
        rcases signF_take (c :: r) signsX with g | g
        · exact absurd g hs
        · have hle : (signX (c :: r)).length ≤ (c :: r).length := by
            have h3 := congrArg List.length g.1
            rw [List.length_take] at h3
            show (signF (c :: r) signsX).length ≤ _
            omega
          have hp := List.length_pos_iff.2 this
          exact ⟨.inr (.inr (.inr rfl)), by show 1 ≤ (signX (c :: r)).length; omega, hle⟩

theorem oneX_len {c : UInt8} {r : Str} {a : Int} (hl : (c :: r).length ≤ 1000000) : (oneX (c :: r) a).2 ≠ 0 ∨ (oneX (c :: r) a).1.2.1.length ≤ (c :: r).length := by
  by_cases h : (oneX (c :: r) a).2 = 0
  · exact .inr (oneX_ok hl h).2.2
  · exact .inl h

/-! ### Steps of Lex -/
theorem sub_mid (pre s : Str) : sub (pre ++ s) (some (((pre.length : Nat) : Int).toNat, ((pre ++ s).length - ((pre.length : Nat) : Int).toNat))) = s := by
  show ((pre ++ s).drop _).take _ = s
  rw [Int.toNat_natCast, List.drop_left, List.length_append, Nat.add_sub_cancel_left, List.take_length]

theorem nb {c : UInt8} {k : Int} (h : ((c.toNat : Nat) : Int) ≠ k) : ((((c.toNat : Nat) : Int)) == k) = false := bf h
theorem yb {c : UInt8} {k : Int} (h : ((c.toNat : Nat) : Int) = k) : ((((c.toNat : Nat) : Int)) == k) = true := bt h

theorem lex_one (d : Int × Int) (out : List Tok3) (pre : Str) (c : UInt8) (r : Str) (h : (pre ++ c :: r).length ≤ 100000) (ho : out.length ≤ 1000000) (hb : c.toNat ≠ 32 ∧ c.toNat ≠ 9 ∧ c.toNat ≠ 10 ∧ c.toNat ≠ 13) (hc : ¬ (c.toNat = 45 ∧ ∃ x r', r = x :: r' ∧ x.toNat = 45)) :
    b8 T.rf T.rb d out (pre ++ c :: r) (pre.length : Nat) = (bif (oneX (c :: r) (pre.length : Nat)).2 != 0 then some (.inl (((oneX (c :: r) (pre.length : Nat)).2, ((pre.length : Nat) : Int)), [])) else
      k8 T.rb d (out ++ [(oneX (c :: r) (pre.length : Nat)).1]) (pre ++ c :: r) (((pre.length + (oneX (c :: r) (pre.length : Nat)).1.2.1.length : Nat)) : Int)) := by
  have hl : (c :: r).length ≤ 1000000 := by simp only [List.length_append] at h; omega
  have h1 := nb (c := c) (k := 32) (by omega)
  have h2 := nb (c := c) (k := 9) (by omega)
  have h3 := nb (c := c) (k := 10) (by omega)
  have h4 := nb (c := c) (k := 13) (by omega)
  have hi : inb' ((pre.length : Nat) : Int) (pre ++ c :: r).length = true := inb'_t (by omega) (by simp only [List.length_append]; omega)
  have hm : Nat.ble (out.length + 1) most = true := ble_most (by omega)
  have fin : (bif (oneX (c :: r) (pre.length : Nat)).2 != 0 then some (.inl (((oneX (c :: r) (pre.length : Nat)).2, ((pre.length : Nat) : Int)), [])) else
      k8 T.rb d (out ++ [(oneX (c :: r) (pre.length : Nat)).1]) (pre ++ c :: r) (IntKind.i64.wrap (((pre.length : Nat) : Int) + (((oneX (c :: r) (pre.length : Nat)).1.2.1.length : Nat) : Int)))) = (bif (oneX (c :: r) (pre.length : Nat)).2 != 0 then some (.inl (((oneX (c :: r) (pre.length : Nat)).2, ((pre.length : Nat) : Int)), [])) else
      k8 T.rb d (out ++ [(oneX (c :: r) (pre.length : Nat)).1]) (pre ++ c :: r) (((pre.length + (oneX (c :: r) (pre.length : Nat)).1.2.1.length : Nat)) : Int)) := by
    rcases oneX_len (a := ((pre.length : Nat) : Int)) hl with g | g
    · rw [nbf g]; rfl
    · simp only [List.length_append, List.length_cons] at h g
      rw [wr (by omega), Int.natCast_add]
  rw [← fin]
  have hpl : pre.length < 4611686018427387904 := by simp only [List.length_append] at h; omega
  cases r with
  | nil =>
    have e : decide (((pre.length + 1 : Nat) : Int) < (((pre ++ [c]).length : Nat) : Int)) = false := df (by simp)
    simp only [b8, lt_mid, inb_mid, nth_mid, cond_true, cond_false, Option.bind_some, h1, h2, h3, h4, wr_succ hpl, e, hi, sub_mid, one_eq _ hl, hm, Bool.and_true]
  | cons x r' =>
    have e : decide (((pre.length + 1 : Nat) : Int) < (((pre ++ c :: x :: r').length : Nat) : Int)) = true := dt (by simp; omega)
    by_cases h45 : c.toNat = 45
    · have hx : x.toNat ≠ 45 := fun hx => hc ⟨h45, x, r', rfl, hx⟩
      have y1 := yb (c := c) (k := 45) (by omega)
      have y2 := nb (c := x) (k := 45) (by omega)
      have n1 : nth (pre ++ c :: x :: r') (((pre.length + 1 : Nat) : Int)).toNat = some x := by
        rw [nth_getElem?, Int.toNat_natCast, List.getElem?_append_right (by omega), show pre.length + 1 - pre.length = 1 by omega]; rfl
      have i1 : inb ((pre.length + 1 : Nat) : Int) (pre ++ c :: x :: r').length = true := inb_t (by omega) (by simp; omega)
      simp only [b8, lt_mid, inb_mid, nth_mid, cond_true, cond_false, Option.bind_some, h1, h2, h3, h4, wr_succ hpl, e, hi, sub_mid, one_eq _ hl, hm, Bool.and_true, y1, y2, n1, i1]
    · have y1 := nb (c := c) (k := 45) (by omega)
      simp only [b8, lt_mid, inb_mid, nth_mid, cond_true, cond_false, Option.bind_some, h1, h2, h3, h4, wr_succ hpl, e, hi, sub_mid, one_eq _ hl, hm, Bool.and_true, y1]

theorem lex_blank (d : Int × Int) (out : List Tok3) (pre : Str) (c : UInt8) (r : Str) (h : (pre ++ c :: r).length ≤ 100000) (hb : c.toNat = 32 ∨ c.toNat = 9 ∨ c.toNat = 10 ∨ c.toNat = 13) :
    b8 T.rf T.rb d out (pre ++ c :: r) (pre.length : Nat) = k8 T.rb d out (pre ++ c :: r) (((pre.length + 1 : Nat)) : Int) := by
  have hpl : pre.length < 4611686018427387904 := by simp only [List.length_append] at h; omega
  have t : ∀ k : Int, ((((c.toNat : Nat) : Int)) == k) = decide (((c.toNat : Nat) : Int) = k) := fun k => by
    by_cases hk : ((c.toNat : Nat) : Int) = k
    · rw [yb hk, dt hk]
    · rw [nb hk, df hk]
  have t1 := t 32
  have t2 := t 9
  have t3 := t 10
  have t4 := t 13
  simp only [b8, lt_mid, inb_mid, nth_mid, cond_true, Option.bind_some, wr_succ hpl, t1, t2, t3, t4]
  rcases hb with hb | hb | hb | hb <;> rw [hb] <;> rfl

theorem lex_end (d : Int × Int) (out : List Tok3) (s : Str) : b8 T.rf T.rb d out s ((s.length : Nat) : Int) = some (.inr (d, out)) := by
  simp only [b8, lt_self, cond_false]

theorem com_loop (s : Str) : ∀ (suf pre : Str), s = pre ++ suf → s.length ≤ 100000 → ∃ j : Nat, k9 T.rb s (pre.length : Nat) = some (j : Int) ∧ pre.length ≤ j ∧ j ≤ s.length ∧ (∀ c r, suf = c :: r → c.toNat ≠ 10 → pre.length < j)
  | [], pre, h, hl => ⟨pre.length, ob9 (by subst h; simp only [b9, lt_end, cond_false]), Nat.le_refl _, by subst h; simp, fun c r h => by cases h⟩
  | c :: suf, pre, h, hl => by
    have hpl : pre.length < 4611686018427387904 := by rw [h] at hl; simp at hl; omega
    by_cases hc : c.toNat = 10
    · refine ⟨pre.length, ob9 ?_, Nat.le_refl _, by subst h; simp, fun c' r h1 h2 => by cases h1; exact absurd hc h2⟩
      have y := yb (c := c) (k := 10) (by omega)
      subst h
      simp only [b9, lt_mid, inb_mid, nth_mid, cond_true, Option.bind_some, bne, y, Bool.not_true, cond_false]
    · obtain ⟨j, h1, h2, h3, h4⟩ := com_loop s suf (pre ++ [c]) (by rw [h]; simp) hl
      have y := nb (c := c) (k := 10) (by omega)
      simp only [List.length_append, List.length_cons, List.length_nil, Nat.zero_add] at h1 h2
      refine ⟨j, ob9 ?_, by omega, h3, fun _ _ _ _ => by omega⟩
      subst h
      simp only [b9, lt_mid, inb_mid, nth_mid, cond_true, Option.bind_some, bne, y, Bool.not_false, wr_succ hpl, h1]

theorem lex_com (d : Int × Int) (out : List Tok3) (pre : Str) (c x : UInt8) (r : Str) (h : (pre ++ c :: x :: r).length ≤ 100000) (hc : c.toNat = 45) (hx : x.toNat = 45) :
    ∃ j : Nat, b8 T.rf T.rb d out (pre ++ c :: x :: r) (pre.length : Nat) = k8 T.rb d out (pre ++ c :: x :: r) (j : Int) ∧ pre.length < j ∧ j ≤ (pre ++ c :: x :: r).length := by
  obtain ⟨j, h1, h2, h3, h4⟩ := com_loop (pre ++ c :: x :: r) (c :: x :: r) pre rfl h
  refine ⟨j, ?_, h4 c (x :: r) rfl (by omega), h3⟩
  have hpl : pre.length < 4611686018427387904 := by simp only [List.length_append] at h; omega
  have n1 := nb (c := c) (k := 32) (by omega)
  have n2 := nb (c := c) (k := 9) (by omega)
  have n3 := nb (c := c) (k := 10) (by omega)
  have n4 := nb (c := c) (k := 13) (by omega)
  have y1 := yb (c := c) (k := 45) (by omega)
  have y2 := yb (c := x) (k := 45) (by omega)
  have e : decide (((pre.length + 1 : Nat) : Int) < (((pre ++ c :: x :: r).length : Nat) : Int)) = true := dt (by simp; omega)
  have m1 : nth (pre ++ c :: x :: r) (((pre.length + 1 : Nat) : Int)).toNat = some x := by
    rw [nth_getElem?, Int.toNat_natCast, List.getElem?_append_right (by omega), show pre.length + 1 - pre.length = 1 by omega]; rfl
  have i1 : inb ((pre.length + 1 : Nat) : Int) (pre ++ c :: x :: r).length = true := inb_t (by omega) (by simp; omega)
  simp only [b8, lt_mid, inb_mid, nth_mid, cond_true, cond_false, Option.bind_some, n1, n2, n3, n4, wr_succ hpl, e, y1, y2, m1, i1, h1]

/-- **Lex, of any text.** -/
theorem lex_all {s : Str} (hs : s.length ≤ 100000) : ∀ (m i : Nat) (out : List Tok3), s.length - i ≤ m → i ≤ s.length → out.length ≤ i →
    ∃ z, k8 T.rb (0, 0) out s (i : Nat) = some z ∧ ((∃ e a, e ≠ 0 ∧ z = .inl ((e, a), [])) ∨ ∃ L : List Tok3, z = .inr ((0, 0), out ++ L) ∧ (∀ x ∈ L, Okk x) ∧ L.length + i ≤ s.length) := by
  intro m
  induction m with
  | zero =>
    intro i out h hi ho
    have : i = s.length := by omega
    subst this
    exact ⟨_, ob8 (lex_end _ _ _), .inr ⟨[], by simp, by simp, by simp⟩⟩
  | succ m ih =>
    intro i out h hi ho
    by_cases hlt : i < s.length
    case neg =>
      have : i = s.length := by omega
      subst this
      exact ⟨_, ob8 (lex_end _ _ _), .inr ⟨[], by simp, by simp, by simp⟩⟩
    obtain ⟨pre, suf, rfl, rfl⟩ : ∃ pre suf : Str, s = pre ++ suf ∧ pre.length = i := ⟨s.take i, s.drop i, (List.take_append_drop i s).symm, by rw [List.length_take]; omega⟩
    cases suf with
    | nil => simp at hlt
    | cons c r =>
      by_cases hb : c.toNat = 32 ∨ c.toNat = 9 ∨ c.toNat = 10 ∨ c.toNat = 13
      · obtain ⟨z, h1, h2⟩ := ih (pre.length + 1) out (by omega) (by omega) (by omega)
        refine ⟨z, ob8 (by rw [lex_blank _ _ _ _ _ hs hb]; exact h1), ?_⟩
        rcases h2 with h2 | ⟨L, g1, g2, g3⟩
        · exact .inl h2
        · exact .inr ⟨L, g1, g2, by omega⟩
      by_cases hc : c.toNat = 45 ∧ ∃ x r', r = x :: r' ∧ x.toNat = 45
      · obtain ⟨h45, x, r', rfl, hx⟩ := hc
        obtain ⟨j, e1, e2, e3⟩ := lex_com (0, 0) out pre c x r' hs h45 hx
        obtain ⟨z, h1, h2⟩ := ih j out (by omega) e3 (by omega)
        refine ⟨z, ob8 (by rw [e1]; exact h1), ?_⟩
        rcases h2 with h2 | ⟨L, g1, g2, g3⟩
        · exact .inl h2
        · exact .inr ⟨L, g1, g2, by omega⟩
      have e1 := lex_one (0, 0) out pre c r hs (by omega) ⟨by omega, by omega, by omega, by omega⟩ hc
      have hl : (c :: r).length ≤ 1000000 := by simp only [List.length_append] at hs; omega
      by_cases hz : (oneX (c :: r) (pre.length : Nat)).2 = 0
      · obtain ⟨o1, o2, o3⟩ := oneX_ok hl hz
        rw [nbt hz, cond_false] at e1
        obtain ⟨z, h1, h2⟩ := ih (pre.length + (oneX (c :: r) (pre.length : Nat)).1.2.1.length) (out ++ [(oneX (c :: r) (pre.length : Nat)).1]) (by omega) (by simp only [List.length_append]; omega) (by simp only [List.length_append, List.length_cons, List.length_nil]; omega)
        refine ⟨z, ob8 (by rw [e1]; exact h1), ?_⟩
        rcases h2 with h2 | ⟨L, g1, g2, g3⟩
        · exact .inl h2
        · refine .inr ⟨(oneX (c :: r) (pre.length : Nat)).1 :: L, by rw [g1]; simp, fun x hx => ?_, by simp only [List.length_cons]; omega⟩
          rcases List.mem_cons.1 hx with rfl | hx
          · exact o1
          · exact g2 x hx
      · rw [nbf hz, cond_true] at e1
        exact ⟨_, ob8 e1, .inl ⟨_, _, hz, rfl⟩⟩

theorem Lex_all {s : Str} (hs : s.length ≤ 100000) : ∃ L e a, c3 T.rf s = some (L, e, a) ∧ (e ≠ 0 ∨ (e = 0 ∧ a = 0 ∧ (∀ x ∈ L, Okk x) ∧ L.length ≤ s.length)) := by
  obtain ⟨z, h1, h2⟩ := lex_all hs s.length 0 [] (by omega) (by omega) (by simp)
  rw [show ((0 : Nat) : Int) = (0 : Int) from rfl] at h1
  rcases h2 with ⟨e, a, he, rfl⟩ | ⟨L, rfl, g2, g3⟩
  · exact ⟨[], e, a, or3 (by simp only [r3, df (show ¬ ((s.length : Nat) : Int) > 100000 by omega), cond_false, h1, Option.bind_some]), .inl he⟩
  · exact ⟨L, 0, 0, or3 (by simp only [r3, df (show ¬ ((s.length : Nat) : Int) > 100000 by omega), cond_false, h1, Option.bind_some, List.nil_append]), .inr ⟨rfl, rfl, g2, by omega⟩⟩

end Go.Proofs.YtoippcahbninnaaGreatDoor.R

/-
  OUR OWN: what Lex makes of a text that is written: its tokens.
-/
namespace Go.Proofs.YtoippcahbninnaaGreatDoor.R
open Go Go.Bm Go.Proofs
set_option linter.unusedVariables false
set_option linter.unusedSimpArgs false
set_option maxRecDepth 4000

theorem dec_dig : ∀ (m k : Nat), k ≤ m → Lib.decDigits k ≠ [] ∧ (Lib.decDigits k).all digB = true ∧ (k ≠ 0 → (Lib.decDigits k).headD 0 ≠ 48) ∧ (k ≤ 2147483647 → valF 0 (Lib.decDigits k) = (k : Int)) := by
  have vapp : ∀ (a b : Str) (n : Int), valF n (a ++ b) = valF (valF n a) b := by
    intro a
    induction a with
    | nil => intro b n; rfl
    | cons c a ih =>
      intro b n
      rw [List.cons_append, valF, valF]
      split
      · exact ih b _
      · rename_i h
        cases b with
        | nil => rfl
        | cons x b => rw [valF, if_neg h]
  have d10 : ∀ d : Nat, d < 10 → digB (UInt8.ofNat (48 + d)) = true ∧ digI (UInt8.ofNat (48 + d)) = (d : Int) ∧ (d ≠ 0 → UInt8.ofNat (48 + d) ≠ 48) := by decide +kernel
  intro m
  induction m with
  | zero =>
    intro k hk
    have : k = 0 := by omega
    subst this
    have h0 := d10 0 (by omega)
    rw [Lib.decDigits, dif_pos (by omega)]
    refine ⟨by simp, by simp only [List.all_cons, List.all_nil, h0.1, Bool.and_true], fun h => absurd rfl h, fun _ => ?_⟩
    rw [valF, if_pos (by omega), valF, h0.2.1]; omega
  | succ m ih =>
    intro k hk
    rw [Lib.decDigits]
    by_cases h10 : k < 10
    · have h0 := d10 k h10
      rw [dif_pos h10]
      refine ⟨by simp, by simp only [List.all_cons, List.all_nil, h0.1, Bool.and_true], fun h => h0.2.2 h, fun _ => ?_⟩
      rw [valF, if_pos (by omega), valF, h0.2.1]; omega
    · rw [dif_neg h10]
      obtain ⟨i1, i2, i3, i4⟩ := ih (k / 10) (by omega)
      have h0 := d10 (k % 10) (by omega)
      refine ⟨by simp, by simp only [List.all_append, List.all_cons, List.all_nil, h0.1, i2, Bool.and_true], fun h => ?_, fun h => ?_⟩
      · cases hd : Lib.decDigits (k / 10) with
        | nil => exact absurd hd i1
        | cons c r =>
          rw [hd] at i3
          exact i3 (by omega)
      · rw [vapp, i4 (by omega), valF, if_pos (by omega), valF, h0.2.1]; omega

theorem itoa_dec {n : Int} (h : 0 ≤ n ∧ n ≤ 2147483647) : ∃ k : Nat, n = k ∧ itoaX n = Lib.decDigits k := by
  obtain ⟨k, rfl⟩ : ∃ k : Nat, n = k := ⟨n.toNat, by omega⟩
  refine ⟨k, rfl, ?_⟩
  show digX 20 k [] = _
  rw [digX_dec 19 k [] (by omega), List.append_nil]
theorem val_itoa {n : Int} (h : 0 ≤ n ∧ n ≤ 2147483647) : valF 0 (itoaX n) = n := by
  obtain ⟨k, rfl, hk⟩ := itoa_dec h
  rw [hk]
  exact (dec_dig k k (Nat.le_refl _)).2.2.2 (by omega)

/-- A text that is a token. -/
inductive Tok : Str → Prop
  | num {n : Int} (h : 0 ≤ n ∧ n ≤ 2147483647) : Tok (itoaX n)
  | name {s : Str} (h : nameB s = true) : Tok s
  | word {s : Str} (h : wordB s = true) : Tok s
  | sign {s : Str} (h : s ∈ signsX) : Tok s
def kindX (s : Str) : Int := bif digB (s.headD 0) then 2 else bif wordB s then 3 else bif nameB s then 1 else 4

theorem words_good : ∀ s ∈ wordsX, s ≠ [] ∧ s.all partB = true ∧ letB (s.headD 0) = true := by decide +kernel
theorem let_not {c : UInt8} (h : letB c = true) : digB c = false ∧ partB c = true ∧ c.toNat ≠ 45 ∧ c.toNat ≠ 32 ∧ c.toNat ≠ 9 ∧ c.toNat ≠ 10 ∧ c.toNat ≠ 13 := by
  rw [partB_eq, h]
  unfold letB at h
  simp only [Bool.or_eq_true, decide_eq_true_eq] at h
  unfold digB
  exact ⟨df (by omega), rfl, by omega, by omega, by omega, by omega, by omega⟩
theorem dig_not {c : UInt8} (h : digB c = true) : c.toNat ≠ 45 ∧ c.toNat ≠ 32 ∧ c.toNat ≠ 9 ∧ c.toNat ≠ 10 ∧ c.toNat ≠ 13 := by
  unfold digB at h
  have := of_decide_eq_true h
  omega

theorem tw_all {p : UInt8 → Bool} {rest : Str} (hr : rest = [] ∨ ∃ c r, rest = c :: r ∧ p c = false) : ∀ s : Str, s.all p = true → (s ++ rest).takeWhile p = s
  | [], _ => by
    rcases hr with rfl | ⟨c, r, rfl, h⟩
    · rfl
    · rw [List.nil_append, List.takeWhile_cons, h]; rfl
  | c :: s, h => by
    rw [List.all_cons, Bool.and_eq_true] at h
    rw [List.cons_append, List.takeWhile_cons, h.1, if_pos rfl, tw_all hr s h.2]

/-- Ahead of such a text nothing is added to a token. -/
def Gap (rest : Str) : Prop := rest = [] ∨ ∃ r, rest = 32 :: r
theorem Gap.dig {rest : Str} (h : Gap rest) : rest = [] ∨ ∃ c r, rest = c :: r ∧ digB c = false := by
  rcases h with rfl | ⟨r, rfl⟩
  · exact .inl rfl
  · exact .inr ⟨32, r, rfl, by decide⟩
theorem Gap.part {rest : Str} (h : Gap rest) : rest = [] ∨ ∃ c r, rest = c :: r ∧ partB c = false := by
  rcases h with rfl | ⟨r, rfl⟩
  · exact .inl rfl
  · exact .inr ⟨32, r, rfl, by decide⟩

theorem sign_one : ∀ s ∈ signsX, ∀ rest, Gap rest → signX (s ++ rest) = s := by
  intro s hs rest hr
  simp only [signsX, List.mem_cons, List.not_mem_nil, or_false] at hs
  rcases hr with rfl | ⟨r, rfl⟩
  · rcases hs with rfl | rfl | rfl | rfl | rfl | rfl | rfl | rfl | rfl | rfl | rfl | rfl | rfl | rfl | rfl | rfl <;> rfl
  · rcases hs with rfl | rfl | rfl | rfl | rfl | rfl | rfl | rfl | rfl | rfl | rfl | rfl | rfl | rfl | rfl | rfl <;> rfl
theorem sign_good : ∀ s ∈ signsX, s ≠ [] ∧ digB (s.headD 0) = false ∧ letB (s.headD 0) = false ∧ wordB s = false ∧ nameB s = false ∧ (s.headD 0).toNat ≠ 32 ∧ (s.headD 0).toNat ≠ 9 ∧ (s.headD 0).toNat ≠ 10 ∧ (s.headD 0).toNat ≠ 13 ∧ ((s.headD 0).toNat = 45 → s = [45] ∨ s = [45, 62]) := by decide +kernel

/-- **A token of a text that is written.** -/
theorem tok_one {s : Str} (h : Tok s) {rest : Str} (hr : Gap rest) (a : Int) : ∃ c r, s = c :: r ∧ oneX (s ++ rest) a = ((kindX s, s, a), 0) ∧
    (c.toNat ≠ 32 ∧ c.toNat ≠ 9 ∧ c.toNat ≠ 10 ∧ c.toNat ≠ 13) ∧ ¬ (c.toNat = 45 ∧ ∃ x r', r ++ rest = x :: r' ∧ x.toNat = 45) := by
  have letc : ∀ {s : Str}, s ≠ [] → s.all partB = true → letB (s.headD 0) = true → (wordB s = true ∨ (wordB s = false ∧ nameB s = true)) → ∃ c r, s = c :: r ∧ oneX (s ++ rest) a = ((kindX s, s, a), 0) ∧
    (c.toNat ≠ 32 ∧ c.toNat ≠ 9 ∧ c.toNat ≠ 10 ∧ c.toNat ≠ 13) ∧ ¬ (c.toNat = 45 ∧ ∃ x r', r ++ rest = x :: r' ∧ x.toNat = 45) := by
    intro s h1 h2 h3 h4
    cases s with
    | nil => exact absurd rfl h1
    | cons c r =>
      rw [List.headD_cons] at h3
      obtain ⟨g1, g2, g3, g4⟩ := let_not h3
      refine ⟨c, r, rfl, ?_, g4, fun hh => g3 hh.1⟩
      unfold oneX kindX
      rw [tw_all hr.part _ h2]
      simp only [List.cons_append, List.headD_cons, g1, h3, cond_false, cond_true, wordX]
      rcases h4 with h4 | ⟨h4, h5⟩
      · rw [h4]; rfl
      · rw [h4, h5]; rfl
  cases h with
  | num hn =>
    rename_i n
    obtain ⟨k, rfl, hk⟩ := itoa_dec hn
    obtain ⟨d1, d2, d3, d4⟩ := dec_dig k k (Nat.le_refl _)
    have d4 := d4 (by omega)
    rw [hk]
    have hlen : k = 0 → (Lib.decDigits k).length = 1 := fun h0 => by subst h0; rw [Lib.decDigits, dif_pos (by omega)]; rfl
    generalize Lib.decDigits k = w at *
    cases w with
    | nil => exact absurd rfl d1
    | cons c r =>
      have hc : digB c = true := by rw [List.all_cons, Bool.and_eq_true] at d2; exact d2.1
      obtain ⟨g3, g4⟩ := dig_not hc
      refine ⟨c, r, rfl, ?_, g4, fun hh => g3 hh.1⟩
      unfold oneX kindX
      rw [tw_all hr.dig _ d2]
      have hnum : numX (c :: r) a = ((2, c :: r, a), 0) := by
        unfold numX
        rw [if_neg]
        rintro (⟨q1, q2⟩ | q)
        · by_cases hk0 : k = 0
          · have := hlen hk0; omega
          · exact d3 hk0 q2
        · omega
      simp only [List.cons_append, List.headD_cons, hc, cond_true, hnum]
  | name h =>
    have h' := h
    simp only [nameB, Bool.and_eq_true, decide_eq_true_eq, Bool.not_eq_true'] at h'
    exact letc h'.1 h'.2.2.1 h'.2.2.2.1 (.inr ⟨h'.2.2.2.2, h⟩)
  | word h =>
    have h' := words_good s (of_decide_eq_true h)
    exact letc h'.1 h'.2.1 h'.2.2 (.inl h)
  | sign h =>
    obtain ⟨g1, g2, g3, g4, g5, g6, g7, g8, g9, g10⟩ := sign_good s h
    have h1 := sign_one s h rest hr
    cases s with
    | nil => exact absurd rfl g1
    | cons c r =>
      rw [List.headD_cons] at g2 g3 g6 g7 g8 g9 g10
      refine ⟨c, r, rfl, ?_, ⟨g6, g7, g8, g9⟩, ?_⟩
      · unfold oneX kindX
        simp only [List.cons_append, List.headD_cons, g2, g3, cond_false, g4, g5] at h1 ⊢
        rw [h1, if_neg (by simp)]
      · rintro ⟨q1, x, r', q2, q3⟩
        rcases g10 q1 with q | q
        · cases q
          rcases hr with rfl | ⟨r2, rfl⟩
          · cases q2
          · cases q2; revert q3; decide
        · cases q
          cases q2; revert q3; decide

/-! ### Lex of a written text -/
def Reads (L : List Tok3) : Nat → List Str → Prop
  | _, [] => True
  | i, s :: r => (∃ a, nth L i = some (kindX s, s, a)) ∧ Reads L (i + 1) r
theorem Reads_app {L : List Tok3} : ∀ {a b : List Str} {i : Nat}, Reads L i (a ++ b) ↔ Reads L i a ∧ Reads L (i + a.length) b
  | [], b, i => by simp [Reads]
  | s :: a, b, i => by
    rw [List.cons_append, Reads, Reads, Reads_app, List.length_cons, show i + 1 + a.length = i + (a.length + 1) by omega, and_assoc]
theorem Reads_pre {L : List Tok3} (x : Tok3) : ∀ {a : List Str} {i : Nat}, Reads L i a → Reads (x :: L) (i + 1) a
  | [], i, _ => trivial
  | s :: a, i, ⟨⟨b, h1⟩, h2⟩ => ⟨⟨b, h1⟩, Reads_pre x h2⟩

def lexd : Nat → List Str → List Tok3
  | _, [] => []
  | p, s :: r => (kindX s, s, ((p + 1 : Nat) : Int)) :: lexd (p + 1 + s.length) r
theorem lexd_reads : ∀ (l : List Str) (p : Nat), Reads (lexd p l) 0 l ∧ (lexd p l).length = l.length
  | [], p => ⟨trivial, rfl⟩
  | s :: r, p => by
    obtain ⟨h1, h2⟩ := lexd_reads r (p + 1 + s.length)
    exact ⟨⟨⟨_, rfl⟩, Reads_pre _ h1⟩, by rw [lexd, List.length_cons, h2, List.length_cons]⟩

theorem J_gap : ∀ l : List Str, Gap (J l)
  | [] => .inl rfl
  | s :: r => .inr ⟨s ++ J r, by simp [J]⟩

theorem lex_tok (out : List Tok3) (pre s : Str) (l : List Str) (ht : Tok s) (h : (pre ++ (s ++ J l)).length ≤ 100000) (ho : out.length ≤ 1000000) {z} (hz : k8 T.rb (0, 0) (out ++ [(kindX s, s, ((pre.length : Nat) : Int))]) (pre ++ (s ++ J l)) (((pre.length + s.length : Nat)) : Int) = some z) :
    k8 T.rb (0, 0) out (pre ++ (s ++ J l)) (pre.length : Nat) = some z := ob8 (by
  obtain ⟨c, r, rfl, h1, h2, h3⟩ := tok_one ht (J_gap l) (pre.length : Nat)
  have := lex_one (0, 0) out pre c (r ++ J l) h ho h2 h3
  rw [List.cons_append] at h1
  rw [h1] at this
  rw [List.cons_append, this]
  exact hz)

theorem lex_J : ∀ (l : List Str) (pre : Str) (out : List Tok3), (∀ s ∈ l, Tok s) → (pre ++ J l).length ≤ 100000 → out.length ≤ pre.length →
    k8 T.rb (0, 0) out (pre ++ J l) (pre.length : Nat) = some (.inr ((0, 0), out ++ lexd pre.length l))
  | [], pre, out, _, h, ho => ob8 (by
    have := lex_end (0, 0) out pre
    simpa [J, lexd] using this)
  | s :: r, pre, out, ht, h, ho => by
    have e : pre ++ J (s :: r) = (pre ++ [32]) ++ (s ++ J r) := by simp [J]
    have e2 : pre ++ J (s :: r) = pre ++ 32 :: (s ++ J r) := by simp [J]
    have e3 : pre ++ J (s :: r) = (pre ++ [32] ++ s) ++ J r := by simp [J]
    have ts := ht s (by simp)
    have sp : 1 ≤ s.length := by obtain ⟨c, r', rfl, _⟩ := tok_one ts (J_gap []) 0; simp
    have ih := lex_J r (pre ++ [32] ++ s) (out ++ [(kindX s, s, ((pre.length + 1 : Nat) : Int))]) (fun x hx => ht x (List.mem_cons_of_mem _ hx)) (by rw [← e3]; exact h) (by simp; omega)
    have hb := lex_blank (0, 0) out pre 32 (s ++ J r) (by rw [← e2]; exact h) (.inl rfl)
    refine ob8 ?_
    rw [e2, hb, ← e2, e]
    have hl1 : (pre ++ [32]).length = pre.length + 1 := by simp
    have hl2 : (pre ++ [32] ++ s).length = pre.length + 1 + s.length := by simp; omega
    rw [← hl1]
    refine lex_tok out (pre ++ [32]) s r ts (by rw [← e]; exact h) (by rw [e] at h; simp only [List.length_append, List.length_cons, List.length_nil] at h; omega) ?_
    rw [hl1, ← hl2, ← e, e3, ih, hl2, lexd]
    simp

/-- **Lex, of a text that is written.** -/
theorem Lex_txt {l : List Str} (ht : ∀ s ∈ l, Tok s) (h : (txt l).length ≤ 100000) : ∃ L, c3 T.rf (txt l) = some (L, 0, 0) ∧ Reads L 0 l ∧ L.length = l.length := by
  have fin : ∀ L : List Tok3, k8 T.rb (0, 0) [] (txt l) 0 = some (.inr ((0, 0), L)) → c3 T.rf (txt l) = some (L, 0, 0) := fun L hL => or3 (by
    simp only [r3, df (show ¬ (((txt l).length : Nat) : Int) > 100000 by omega), cond_false, hL, Option.bind_some])
  cases l with
  | nil => exact ⟨[], fin _ (lex_J [] [] [] (by simp) (by simp [J]) (by simp)), trivial, rfl⟩
  | cons s r =>
    have e : txt (s :: r) = s ++ J r := by simp [txt, J]
    have ts := ht s (by simp)
    rw [e] at h
    have ih := lex_J r s [(kindX s, s, 0)] (fun x hx => ht x (List.mem_cons_of_mem _ hx)) h (by obtain ⟨c, r', rfl, _⟩ := tok_one ts (J_gap []) 0; simp)
    have := lex_tok [] [] s r ts (by simpa using h) (by simp) (z := .inr ((0, 0), [(kindX s, s, 0)] ++ lexd s.length r)) (by simpa using ih)
    simp only [List.nil_append, List.length_nil] at this
    rw [show ((0 : Nat) : Int) = (0 : Int) from rfl] at this
    rw [← e] at this
    obtain ⟨h1, h2⟩ := lexd_reads r s.length
    exact ⟨_, fin _ this, ⟨⟨0, rfl⟩, Reads_pre _ h1⟩, by simp [h2]⟩

/-! ### The tokens of a tree are tokens -/
theorem tok_op : ∀ k, k < 28 → 4 ≤ k → k ≠ 27 → wordB (opsL.getD k ([], -1)).1 = true ∨ (opsL.getD k ([], -1)).1 ∈ signsX := by decide +kernel
theorem tok_opX {op : Int} (h : 4 ≤ op ∧ op ≤ 26) : Tok (opX op) := by
  have h1 : opX op = (opsL.getD op.toNat ([], -1)).1 := by unfold opX markX; rw [if_pos (by omega)]
  rw [h1]
  rcases tok_op op.toNat (by omega) (by omega) (by omega) with g | g
  · exact .word g
  · exact .sign g
theorem tok_bool (n : Int) : Tok (boolX n) := by
  unfold boolX; split
  · exact .word (by decide +kernel)
  · exact .word (by decide +kernel)
def Toks (l : List Str) : Prop := ∀ s ∈ l, Tok s
theorem Toks.app {a b : List Str} (h : Toks a) (k : Toks b) : Toks (a ++ b) := fun s hs => (List.mem_append.1 hs).elim (h s) (k s)
theorem Toks.cons {a : Str} {b : List Str} (h : Tok a) (k : Toks b) : Toks (a :: b) := fun s hs => by
  rcases List.mem_cons.1 hs with rfl | hs
  · exact h
  · exact k s hs
theorem Toks.nil : Toks [] := fun s hs => by cases hs
theorem Toks.part {a : Int} {x : Int × List Str} (h : Toks x.2) : Toks (partX a x) := by
  unfold partX; split
  · exact h
  · exact .cons (.sign (by decide)) (h.app (.cons (.sign (by decide)) .nil))
theorem nm_tok {b : Nd} (h : nameN b = true) (hne : b.2.2.2.2.2 ≠ []) : Tok b.2.2.2.2.2 := by
  rw [nameN, Bool.or_eq_true] at h
  rcases h with h | h
  · exact absurd (eq_of_beq h) hne
  · exact .name h

theorem toks_tok {e : List Nd} : ∀ (m : Nat) (t : Tr) (i : Nat), t.size ≤ m → Emb e i t → Valid t → namesT t = true → Toks (toks t) := by
  intro m
  induction m with
  | zero => intro t i h; have := t.size_pos; omega
  | succ m ih =>
    intro t i hm ht hv hn
    cases shape ht hv with
    | leaf h hx hN hs =>
      rename_i op a b c nn nm
      have hm2 := mostN_le op
      rw [toks_leaf h]
      refine .cons ?_ .nil
      rw [namesT, Bool.and_eq_true] at hn
      split
      · exact .num (by omega)
      split
      · exact tok_bool _
      · exact nm_tok hn.1 (hs.2 (by omega))
    | call0 hx hN hs =>
      rw [namesT, Bool.and_eq_true] at hn
      rw [toks_call0]
      exact .cons (nm_tok hn.1 hs) (.cons (.sign (by decide)) (.cons (.sign (by decide)) .nil))
    | call1 hx hN hs hj ht1 hv1 ho =>
      rw [size1] at hm
      rw [namesT, Bool.and_eq_true, namesL, namesL, Bool.and_true] at hn
      rw [toks_call1]
      exact .cons (nm_tok hn.1 hs) (.cons (.sign (by decide)) ((ih _ _ (by omega) ht1 hv1 hn.2).app (.cons (.sign (by decide)) .nil)))
    | arg1 hx hN hs hj ht1 hv1 ho =>
      rw [size1] at hm
      rw [namesT, Bool.and_eq_true, namesL, namesL, Bool.and_true] at hn
      rw [toks_arg1]
      exact ih _ _ (by omega) ht1 hv1 hn.2
    | arg2 hx hN hs hj ht1 hv1 ho hk hu hvu hou =>
      rw [size2] at hm
      rw [namesT, Bool.and_eq_true, namesL, namesL, namesL, Bool.and_true, Bool.and_eq_true] at hn
      rw [toks_arg2]
      exact (ih _ _ (by omega) ht1 hv1 hn.2.1).app (.cons (.sign (by decide)) (ih _ _ (by omega) hu hvu hn.2.2))
    | ite hx hN hs hj ht1 hv1 ho hk hu hvu hou hl hw hvw how =>
      rw [size3] at hm
      rw [namesT, Bool.and_eq_true, namesL, namesL, namesL, namesL, Bool.and_true, Bool.and_eq_true, Bool.and_eq_true] at hn
      rw [toks_ite]
      exact .cons (tok_opX (by omega)) ((ih _ _ (by omega) ht1 hv1 hn.2.1).app (.cons (.word (by decide +kernel)) ((ih _ _ (by omega) hu hvu hn.2.2.1).app (.cons (.word (by decide +kernel)) (ih _ _ (by omega) hw hvw hn.2.2.2)))))
    | un h hx hN hs hj ht1 hv1 ho =>
      rename_i op b c nn nm j t1
      have hm2 := mostN_le op
      rw [size1] at hm
      rw [namesT, Bool.and_eq_true, namesL, namesL, Bool.and_true] at hn
      rw [toks_un h]
      refine .cons (tok_opX (by omega)) (.app ?_ (.part (ih _ _ (by omega) ht1 hv1 hn.2)))
      split
      · exact .cons (.num (by omega)) .nil
      · exact .nil
    | bin h hx hN hs hj ht1 hv1 ho hk hu hvu hou =>
      rename_i op c nn nm j k t1 u1
      rw [size2] at hm
      rw [namesT, Bool.and_eq_true, namesL, namesL, namesL, Bool.and_true, Bool.and_eq_true] at hn
      rw [toks_bin h]
      exact .app (.part (ih _ _ (by omega) ht1 hv1 hn.2.1)) (.cons (tok_opX (by omega)) (.part (ih _ _ (by omega) hu hvu hn.2.2)))

end Go.Proofs.YtoippcahbninnaaGreatDoor.R
