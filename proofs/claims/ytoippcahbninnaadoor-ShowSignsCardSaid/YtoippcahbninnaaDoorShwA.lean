/-
  OUR OWN: names, words, operators' texts: what the functions come to, in plain terms.
-/
import Derived.Test.YtoippcahbninnaaDoorTreX
import Derived.Test.YtoippcahbninnaaDoorBmExt
namespace Go.Proofs.YtoippcahbninnaaDoor.R
open Go Go.Bm Go.Proofs
set_option linter.unusedVariables false
set_option linter.unusedSimpArgs false
set_option maxRecDepth 4000

/-! ### Words -/
def wordB (s : List UInt8) : Bool := decide (s ∈ wordsX)

theorem ltB_irr : ∀ s : List UInt8, ltB s s = false
  | [] => rfl
  | a :: s => by
    have : ¬ a < a := by simp
    simp only [ltB, df this, ltB_irr s, Bool.and_false, Bool.or_false]

theorem ltB_trans : ∀ {a b c : List UInt8}, ltB a b = true → ltB b c = true → ltB a c = true
  | a, [], c, h, _ => by
    have : ltB a [] = false := by cases a <;> rfl
    rw [this] at h; cases h
  | a, y :: b, [], _, h => by cases h
  | [], y :: b, z :: c, _, _ => rfl
  | x :: a, y :: b, z :: c, h, k => by
    simp only [ltB, Bool.or_eq_true, Bool.and_eq_true, decide_eq_true_eq, beq_iff_eq] at *
    rcases h with h | ⟨rfl, h⟩
    · rcases k with k | ⟨rfl, k⟩
      · exact .inl (UInt8.lt_trans h k)
      · exact .inl h
    · rcases k with k | ⟨rfl, k⟩
      · exact .inl k
      · exact .inr ⟨rfl, ltB_trans h k⟩

theorem words_sorted : ∀ i, i < 35 → ∀ m, m < 35 → i < m → ltB (wordsX.getD i []) (wordsX.getD m []) = true := by decide +kernel
theorem words_len : wordsX.length = 35 := by decide +kernel
theorem words_get {m : Nat} (h : m < 35) : nth wordsX m = some (wordsX.getD m []) := by
  rw [nth_getElem?, List.getD_eq_getElem?_getD, List.getElem?_eq_getElem (by rw [words_len]; exact h)]; rfl

theorem cless_eq (a b : List UInt8) : c61 T.rf a b = some (ltB a b) := or61 (by
  have h : ∀ x : List UInt8, c62 T.rf x = some false := fun x => or62 (by simp [r62])
  simp only [r61, h, Option.bind_some, cond_false])

theorem half_eq {i j : Nat} (h : i + j ≤ 100) : IntKind.i64.wrap (shrI IntKind.u64 (IntKind.u64.wrap (IntKind.i64.wrap ((i : Int) + (j : Int)))) 1) = (((i + j) / 2 : Nat) : Int) := by
  have h0 : IntKind.i64.wrap ((i : Int) + (j : Int)) = (i : Int) + (j : Int) := wr (by omega)
  have h1 : IntKind.u64.wrap ((i : Int) + (j : Int)) = (i : Int) + (j : Int) := IntWalk.u64_in _ (by omega)
  rw [h0, h1]
  have h2 : shrI IntKind.u64 ((i : Int) + (j : Int)) 1 = (((i + j) / 2 : Nat) : Int) := by
    unfold shrI
    have : (min (1 : Int).toNat IntKind.u64.bits) = 1 := by decide
    rw [this]
    have : (2 : Int) ^ 1 = 2 := by decide
    rw [this, Int.fdiv_eq_ediv_of_nonneg _ (by omega)]
    omega
  rw [h2, wr (by omega)]

/-- The search in the words. -/
theorem search_loop (s : List UInt8) : ∀ (f i j : Nat), j - i ≤ f → i ≤ j → j ≤ 35 → (∀ k, k < i → ltB (wordsX.getD k []) s = true) → (∀ k, j ≤ k → k < 35 → ltB (wordsX.getD k []) s = false) →
    ∃ m : Nat, m ≤ 35 ∧ k52 T.rb wordsX s (i : Nat) (j : Nat) = some (m : Int) ∧ (∀ k, k < m → ltB (wordsX.getD k []) s = true) ∧ (∀ k, m ≤ k → k < 35 → ltB (wordsX.getD k []) s = false) := by
  intro f
  induction f with
  | zero =>
    intro i j h1 h2 h3 h4 h5
    have : i = j := by omega
    subst this
    exact ⟨i, h3, ob52 (by simp only [b52, lt_self, cond_false]), h4, h5⟩
  | succ f ih =>
    intro i j h1 h2 h3 h4 h5
    by_cases hij : i < j
    case neg =>
      have : i = j := by omega
      subst this
      exact ⟨i, h3, ob52 (by simp only [b52, lt_self, cond_false]), h4, h5⟩
    have hm : (i + j) / 2 < 35 := by omega
    have step : b52 T.rf T.rb wordsX s (i : Nat) (j : Nat) = bif ltB (wordsX.getD ((i + j) / 2) []) s then k52 T.rb wordsX s (((i + j) / 2 + 1 : Nat) : Int) (j : Nat) else k52 T.rb wordsX s (i : Nat) (((i + j) / 2 : Nat) : Int) := by
      have e1 : decide (((i : Nat) : Int) < ((j : Nat) : Int)) = true := dt (by omega)
      have e2 : inb ((((i + j) / 2 : Nat)) : Int) wordsX.length = true := inb_t (by omega) (by rw [words_len]; omega)
      simp only [b52, e1, cond_true, half_eq (show i + j ≤ 100 by omega), e2, Int.toNat_natCast, words_get hm, Option.bind_some, cless_eq, wr_succ (show (i + j) / 2 < 4611686018427387904 by omega)]
    cases hc : ltB (wordsX.getD ((i + j) / 2) []) s with
    | true =>
      obtain ⟨m, k1, k2, k3, k4⟩ := ih ((i + j) / 2 + 1) j (by omega) (by omega) h3 (fun k hk => by
        rcases Nat.lt_or_ge k ((i + j) / 2) with g | g
        · by_cases hki : k < i
          · exact h4 k hki
          · cases hck : ltB (wordsX.getD k []) s with
            | true => rfl
            | false =>
              exact absurd hck (by
                have hs := words_sorted k (by omega) ((i + j) / 2) hm g
                intro hck
                exact absurd (ltB_trans hs hc) (by rw [hck]; decide))
        · have : k = (i + j) / 2 := by omega
          subst this; exact hc) h5
      exact ⟨m, k1, ob52 (by rw [step, hc, cond_true]; exact k2), k3, k4⟩
    | false =>
      obtain ⟨m, k1, k2, k3, k4⟩ := ih i ((i + j) / 2) (by omega) (by omega) (by omega) h4 (fun k hk hk2 => by
        rcases Nat.lt_or_ge ((i + j) / 2) k with g | g
        · cases hck : ltB (wordsX.getD k []) s with
          | false => rfl
          | true =>
            have hs := words_sorted ((i + j) / 2) hm k hk2 g
            exact absurd (ltB_trans hs hck) (by rw [hc]; decide)
        · have : k = (i + j) / 2 := by omega
          subst this; exact hc)
      exact ⟨m, k1, ob52 (by rw [step, hc, cond_false]; exact k2), k3, k4⟩

theorem isWord_eq (s : List UInt8) : c59 T.rf s = some (wordB s) := or59 (by
  have hn : ∀ x : List UInt8, c63 T.rf x = some false := fun x => or63 (by simp [r63])
  obtain ⟨m, h1, h2, h3, h4⟩ := search_loop s 35 0 35 (by omega) (by omega) (by omega) (fun k hk => by omega) (fun k h1 h2 => by omega)
  have h2' : k52 T.rb wordsX s 0 (((wordsX.length : Nat) : Int)) = some (m : Int) := by rw [words_len]; exact h2
  have hb : ∃ x, c60 T.rf wordsX s = some (x, wordB s) := by
    have key : wordB s = decide (m < 35 ∧ wordsX.getD m [] = s) := by
      unfold wordB
      apply decide_eq_decide.2
      constructor
      · intro hs
        obtain ⟨k, hk⟩ := List.mem_iff_getElem?.1 hs
        have hk35 : k < 35 := by have := (List.getElem?_eq_some_iff.1 hk).1; rwa [words_len] at this
        have hks : wordsX.getD k [] = s := by rw [List.getD_eq_getElem?_getD, hk]; rfl
        have : m = k := by
          rcases Nat.lt_trichotomy m k with g | g | g
          · have a1 := words_sorted m (by omega) k hk35 g
            rw [hks, h4 m (Nat.le_refl _) (by omega)] at a1; cases a1
          · exact g
          · have a1 := h3 k g
            rw [hks, ltB_irr] at a1; cases a1
        subst this
        exact ⟨hk35, hks⟩
      · rintro ⟨g1, g2⟩
        rw [← g2, List.getD_eq_getElem?_getD, List.getElem?_eq_getElem (by rw [words_len]; exact g1)]
        exact List.getElem_mem _
    by_cases hm : m < 35
    · have e1 : decide (((m : Nat) : Int) < ((wordsX.length : Nat) : Int)) = true := dt (by rw [words_len]; omega)
      have e2 : inb ((m : Nat) : Int) wordsX.length = true := inb_t (by omega) (by rw [words_len]; omega)
      refine ⟨m, or60 ?_⟩
      rw [key]
      simp only [r60, h2', Option.bind_some, e1, cond_true, e2, Int.toNat_natCast, words_get hm, hn, cond_false]
      cases hc : wordsX.getD m [] == s with
      | true => rw [dt ⟨hm, eq_of_beq hc⟩]; rfl
      | false => rw [df (fun g => by rw [g.2, beq_self_eq_true] at hc; cases hc)]; rfl
    · have e1 : decide (((m : Nat) : Int) < ((wordsX.length : Nat) : Int)) = false := df (by rw [words_len]; omega)
      refine ⟨m, or60 ?_⟩
      rw [key, df (fun g => hm g.1)]
      simp only [r60, h2', Option.bind_some, e1, cond_false]
  obtain ⟨x, hx⟩ := hb
  simp only [r59, hx, Option.bind_some])

theorem refIsWord_loop (s : List UInt8) : ∀ (suf pre : List (List UInt8)), pre.length + suf.length ≤ 100 →
    ∃ z, k5 T.rb (pre ++ suf) s (pre.length : Nat) = some z ∧ ((s ∈ suf ∧ ∃ u, z = .inl (u, true)) ∨ (s ∉ suf ∧ ∃ u, z = .inr u))
  | [], pre, h => ⟨.inr pre, ob5 (by simp only [b5, lt_end, lt_self, List.append_nil, cond_false]), .inr ⟨by simp, _, rfl⟩⟩
  | x :: suf, pre, h => by
    simp only [List.length_cons] at h
    obtain ⟨z, h1, h2⟩ := refIsWord_loop s suf (pre ++ [x]) (by simp; omega)
    simp only [List.append_assoc, List.singleton_append] at h1
    by_cases hx : x = s
    · exact ⟨_, ob5 (by
        simp only [b5, lt_mid, inb_mid, nth_mid, cond_true, Option.bind_some, beq_iff_eq.2 hx]
        rfl), .inl ⟨by simp [hx], _, rfl⟩⟩
    · refine ⟨z, ob5 (by
        simp only [b5, lt_mid, inb_mid, nth_mid, cond_true, Option.bind_some, beq_eq_false_iff_ne.2 hx, cond_false, next_mid pre x (by omega)]
        exact h1), ?_⟩
      rcases h2 with ⟨g1, g2⟩ | ⟨g1, g2⟩
      · exact .inl ⟨List.mem_cons_of_mem _ g1, g2⟩
      · exact .inr ⟨by simp only [List.mem_cons, not_or]; exact ⟨fun e => hx e.symm, g1⟩, g2⟩

theorem refWords_eq : c10 T.rf = some wordsX := or10 rfl
theorem refIsWord_eq (s : List UInt8) : c9 T.rf s = some (wordB s) := or9 (by
  obtain ⟨z, h1, h2⟩ := refIsWord_loop s wordsX [] (by rw [words_len]; decide)
  simp only [List.nil_append, List.length_nil] at h1
  rw [show ((0 : Nat) : Int) = (0 : Int) from rfl] at h1
  simp only [r9, refWords_eq, Option.bind_some, h1, wordB]
  rcases h2 with ⟨g, u, rfl⟩ | ⟨g, u, rfl⟩
  · rw [dt g]
  · rw [df g])

/-! ### Names -/
def letB (c : UInt8) : Bool := decide (97 ≤ c.toNat ∧ c.toNat ≤ 122) || decide (c.toNat = 95)
def digB (c : UInt8) : Bool := decide (48 ≤ c.toNat ∧ c.toNat ≤ 57)
theorem partB_eq (c : UInt8) : partB c = (letB c || digB c) := by
  unfold partB letB digB
  rw [Bool.eq_iff_iff]
  simp only [Bool.or_eq_true, Bool.and_eq_true, decide_eq_true_eq, Nat.ble_eq, Nat.beq_eq]
theorem let_dig {c : UInt8} (h : partB c = true) : letB c = !(digB c) := by
  rw [partB_eq] at h
  unfold letB digB at *
  rw [Bool.eq_iff_iff]
  simp only [Bool.or_eq_true, decide_eq_true_eq, Bool.not_eq_true', decide_eq_false_iff_not] at *
  omega

theorem rowX_all : ∀ s : List UInt8, (rowX s == s) = s.all partB
  | [] => rfl
  | c :: s => by
    cases h : partB c with
    | true =>
      simp only [rowX, h, cond_true, List.all_cons, Bool.true_and]
      rw [← rowX_all s]
      show (c == c && rowX s == s) = _
      rw [beq_self_eq_true, Bool.true_and]
    | false =>
      simp only [rowX, h, cond_false, List.all_cons, Bool.false_and]
      rfl

/-- Is a text a name? -/
def nameB (s : List UInt8) : Bool := decide (s ≠ []) && (decide (s.length ≤ 40) && (s.all partB && (letB (s.headD 0) && !(wordB s))))

theorem row_eq (s : List UInt8) : c57 T.rf s = some (rowX s) := or57 rfl
theorem isDigit_eq (c : UInt8) : c58 T.rf (((c.toNat : Nat) : Int)) = some (digB c) := or58 (by
  unfold digB
  by_cases h1 : 48 ≤ c.toNat
  · by_cases h2 : c.toNat ≤ 57
    · simp only [r58, dt (show ((c.toNat : Nat) : Int) ≥ 48 by omega), dt (show ((c.toNat : Nat) : Int) ≤ 57 by omega), dt (show 48 ≤ c.toNat ∧ c.toNat ≤ 57 from ⟨h1, h2⟩), cond_true]
    · simp only [r58, dt (show ((c.toNat : Nat) : Int) ≥ 48 by omega), df (show ¬ ((c.toNat : Nat) : Int) ≤ 57 by omega), df (show ¬ (48 ≤ c.toNat ∧ c.toNat ≤ 57) from fun h => h2 h.2), cond_true]
  · simp only [r58, df (show ¬ ((c.toNat : Nat) : Int) ≥ 48 by omega), df (show ¬ (48 ≤ c.toNat ∧ c.toNat ≤ 57) from fun h => h1 h.1), cond_false])

theorem isName_eq (s : List UInt8) : c56 T.rf s = some (nameB s) := or56 (by
  unfold nameB
  cases s with
  | nil => rfl
  | cons c r =>
    have e1 : ((c :: r) == ([] : List UInt8)) = false := rfl
    have e2 : IntKind.i32.wrap (((c.toNat : Nat) : Int)) = ((c.toNat : Nat) : Int) := IntWalk.i32_in _ (by have := c.toNat_lt; omega)
    have e3 : inb 0 (c :: r).length = true := inb_t (by omega) (by simp only [List.length_cons]; omega)
    have e4 : nth (c :: r) 0 = some c := rfl
    simp only [r56, e1, Bool.not_false, cond_true, row_eq, Option.bind_some, rowX_all, e3, e4, e2, isDigit_eq, isWord_eq, dt (show (c :: r) ≠ [] by simp), Bool.true_and, List.headD_cons]
    by_cases hl : (c :: r).length ≤ 40
    case neg => rw [df (by omega), df hl]; rfl
    rw [dt (by omega), dt hl, cond_true, Bool.true_and]
    cases ha : (c :: r).all partB with
    | false => rfl
    | true =>
      have hc : partB c = true := by simp only [List.all_cons, Bool.and_eq_true] at ha; exact ha.1
      rw [cond_true, let_dig hc, Bool.true_and]
      cases digB c <;> rfl)

theorem refLetter_eq (c : UInt8) : c7 T.rf (((c.toNat : Nat) : Int)) = some (letB c) := or7 (by
  unfold letB
  have hb : ((((c.toNat : Nat) : Int)) == 95) = decide (c.toNat = 95) := by
    by_cases h : c.toNat = 95
    · rw [bt (by omega), dt h]
    · rw [bf (by omega), df h]
  by_cases h1 : 97 ≤ c.toNat
  · by_cases h2 : c.toNat ≤ 122
    · simp only [r7, dt (show ((c.toNat : Nat) : Int) ≥ 97 by omega), dt (show ((c.toNat : Nat) : Int) ≤ 122 by omega), dt (show 97 ≤ c.toNat ∧ c.toNat ≤ 122 from ⟨h1, h2⟩), cond_true, Bool.true_or]
    · simp only [r7, dt (show ((c.toNat : Nat) : Int) ≥ 97 by omega), df (show ¬ ((c.toNat : Nat) : Int) ≤ 122 by omega), df (show ¬ (97 ≤ c.toNat ∧ c.toNat ≤ 122) from fun h => h2 h.2), cond_true, cond_false, hb, Bool.false_or]
  · simp only [r7, df (show ¬ ((c.toNat : Nat) : Int) ≥ 97 by omega), df (show ¬ (97 ≤ c.toNat ∧ c.toNat ≤ 122) from fun h => h1 h.1), cond_false, hb, Bool.false_or])
theorem refDigit_eq (c : UInt8) : c5 T.rf (((c.toNat : Nat) : Int)) = some (digB c) := or5 (by
  unfold digB
  by_cases h1 : 48 ≤ c.toNat
  · by_cases h2 : c.toNat ≤ 57
    · simp only [r5, dt (show ((c.toNat : Nat) : Int) ≥ 48 by omega), dt (show ((c.toNat : Nat) : Int) ≤ 57 by omega), dt (show 48 ≤ c.toNat ∧ c.toNat ≤ 57 from ⟨h1, h2⟩), cond_true]
    · simp only [r5, dt (show ((c.toNat : Nat) : Int) ≥ 48 by omega), df (show ¬ ((c.toNat : Nat) : Int) ≤ 57 by omega), df (show ¬ (48 ≤ c.toNat ∧ c.toNat ≤ 57) from fun h => h2 h.2), cond_true]
  · simp only [r5, df (show ¬ ((c.toNat : Nat) : Int) ≥ 48 by omega), df (show ¬ (48 ≤ c.toNat ∧ c.toNat ≤ 57) from fun h => h1 h.1), cond_false])

theorem refIsName_loop : ∀ (suf pre : List UInt8), pre.length + suf.length ≤ 100 →
    k6 T.rb (pre ++ suf) (pre.length : Nat) = some (if suf.all partB = true then .inr () else .inl false)
  | [], pre, h => ob6 (by simp only [b6, lt_end, lt_self, List.append_nil, cond_false, List.all_nil, if_true])
  | x :: suf, pre, h => ob6 (by
    simp only [List.length_cons] at h
    have ih := refIsName_loop suf (pre ++ [x]) (by simp; omega)
    simp only [List.append_assoc, List.singleton_append] at ih
    simp only [b6, lt_mid, inb_mid, nth_mid, cond_true, Option.bind_some, refLetter_eq, refDigit_eq, next_mid pre x (by omega), ih, List.all_cons, partB_eq]
    cases letB x <;> cases digB x <;> simp)

theorem refIsName_eq (s : List UInt8) : c11 T.rf s = some (nameB s) := or11 (by
  unfold nameB
  cases s with
  | nil => rfl
  | cons c r =>
    have e1 : ((c :: r) == ([] : List UInt8)) = false := rfl
    have e3 : inb 0 (c :: r).length = true := inb_t (by omega) (by simp only [List.length_cons]; omega)
    have e4 : nth (c :: r) 0 = some c := rfl
    by_cases hl : (c :: r).length ≤ 40
    case neg =>
      simp only [r11, e1, cond_false, dt (show (((c :: r).length : Nat) : Int) > 40 by omega), cond_true, df hl, Bool.false_and, Bool.and_false]
    have hloop := refIsName_loop (c :: r) [] (by simp only [List.length_nil]; omega)
    simp only [List.nil_append, List.length_nil] at hloop
    rw [show ((0 : Nat) : Int) = (0 : Int) from rfl] at hloop
    simp only [r11, e1, cond_false, df (show ¬ (((c :: r).length : Nat) : Int) > 40 by omega), e3, cond_true, e4, Option.bind_some, refLetter_eq, refIsWord_eq, hloop, dt hl, dt (show (c :: r) ≠ [] by simp), Bool.true_and, List.headD_cons]
    cases letB c <;> cases wordB (c :: r) <;> cases (c :: r).all partB <;> rfl)

/-! ### Operators' texts -/
def opsL : List (List UInt8 × Int) := [([], -1), ([], 10), ([], 10), ([], 10), ([110, 111, 116], 9), ([45], 9), ([97, 110, 100], 5), ([111, 114], 4), ([120, 111, 114], 4), ([61, 62], 2), ([61], 6), ([60, 62], 6), ([60], 6), ([60, 61], 6), ([43], 7), ([45], 7), ([42], 8), ([100, 105, 118], 8), ([109, 111, 100], 8), ([45, 62], 1), ([115, 105, 110, 99, 101], 3), ([112, 114, 101], 9), ([111, 110, 99, 101], 9), ([104, 105, 115, 116], 9), ([112, 114, 101, 118], 9), ([119, 105, 116, 104, 105, 110], 9), ([105, 102], 0), ([], 10)]
def markX (op : Int) : List UInt8 × Int := if 0 ≤ op ∧ op < 28 then opsL.getD op.toNat ([], -1) else ([], -1)

theorem of_eq (op : Int) : c65 T.rf op = some (markX op) := or65 (by
  unfold markX
  by_cases h1 : op < 0
  · simp only [r65, dt h1, cond_true, if_neg (show ¬ (0 ≤ op ∧ op < 28) by omega)]
  by_cases h2 : op ≥ 28
  · simp only [r65, df h1, dt h2, cond_true, cond_false, if_neg (show ¬ (0 ≤ op ∧ op < 28) by omega)]
  have e : inb op 28 = true := inb_t (by omega) (by omega)
  have marks_eq := or66 rfl
  simp only [r65, df h1, df h2, cond_false, marks_eq, Option.bind_some, e, cond_true, if_pos (show 0 ≤ op ∧ op < 28 by omega)]
  have hk : op.toNat < 28 := by omega
  have : nth opsL op.toNat = some (opsL.getD op.toNat ([], -1)) := by
    rw [nth_getElem?, List.getD_eq_getElem?_getD, List.getElem?_eq_getElem (show op.toNat < opsL.length from hk)]; rfl
  show (nth opsL op.toNat).bind _ = _
  rw [this]; rfl)

theorem op_eq (op : Int) : c75 T.rf op = some (markX op).1 := or75 (by simp only [r75, of_eq, Option.bind_some])
theorem level_eq (op : Int) : c73 T.rf op = some (markX op).2 := or73 (by simp only [r73, of_eq, Option.bind_some])

theorem ops27 : ∀ k, k < 27 → nth [([] : List UInt8), ([] : List UInt8), ([] : List UInt8), ([] : List UInt8), ([110, 111, 116] : List UInt8), ([45] : List UInt8), ([97, 110, 100] : List UInt8), ([111, 114] : List UInt8), ([120, 111, 114] : List UInt8), ([61, 62] : List UInt8), ([61] : List UInt8), ([60, 62] : List UInt8), ([60] : List UInt8), ([60, 61] : List UInt8), ([43] : List UInt8), ([45] : List UInt8), ([42] : List UInt8), ([100, 105, 118] : List UInt8), ([109, 111, 100] : List UInt8), ([45, 62] : List UInt8), ([115, 105, 110, 99, 101] : List UInt8), ([112, 114, 101] : List UInt8), ([111, 110, 99, 101] : List UInt8), ([104, 105, 115, 116] : List UInt8), ([112, 114, 101, 118] : List UInt8), ([119, 105, 116, 104, 105, 110] : List UInt8), ([105, 102] : List UInt8)] k = some (opsL.getD k ([], -1)).1 := by decide +kernel
theorem lvs28 : ∀ k, k < 28 → nth [(-1 : Int), 10, 10, 10, 9, 9, 5, 4, 4, 2, 6, 6, 6, 6, 7, 7, 8, 8, 8, 1, 3, 9, 9, 9, 9, 9, 0, 10] k = some (opsL.getD k ([], -1)).2 := by decide +kernel

end Go.Proofs.YtoippcahbninnaaDoor.R
