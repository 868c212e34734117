/-
  OUR OWN: code's bytes: what the program writes, and the document.
-/
import Derived.Test.YteifekbmmhpadaaCodC
import Derived.Test.YteifekbmmhpadaaResRun
namespace Go.Proofs.Yteifekbmmhpadaa.R
open Go Go.Bm Go.Proofs
set_option linter.unusedVariables false
set_option linter.unusedSimpArgs false
set_option maxRecDepth 4000

theorem live17_eq : c2 T.rf = some true := live_run

/-! A number's bytes. -/
def encZ (n : Nat) : List Int := if n < 128 then [(n : Int)] else ((n % 128 + 128 : Nat) : Int) :: encZ (n / 128)
termination_by n
decreasing_by omega
theorem encZ_lt {n : Nat} (h : n < 128) : encZ n = [(n : Int)] := by rw [encZ, if_pos h]
theorem encZ_ge {n : Nat} (h : ¬ n < 128) : encZ n = ((n % 128 + 128 : Nat) : Int) :: encZ (n / 128) := by rw [encZ, if_neg h]
theorem encZ_len : ∀ (k n : Nat), n < 128 ^ (k + 1) → (encZ n).length ≤ k + 1
  | 0, n, h => by rw [encZ_lt (by simpa using h)]; simp
  | k + 1, n, h => by
    by_cases h1 : n < 128
    · rw [encZ_lt h1]; simp
    · rw [encZ_ge h1, List.length_cons]
      have := encZ_len k (n / 128) (by rw [Nat.pow_succ] at h; omega)
      omega
theorem encZ5 {n : Nat} (h : n < 34359738368) : (encZ n).length ≤ 5 := encZ_len 4 n (by simpa using h)
theorem encZ_pos (n : Nat) : 1 ≤ (encZ n).length := by
  by_cases h1 : n < 128
  · rw [encZ_lt h1]; simp
  · rw [encZ_ge h1]; simp
theorem encZ_byte (n : Nat) : ∀ x ∈ encZ n, 0 ≤ x ∧ x < 256 := by
  induction n using Nat.strongRecOn with
  | _ n ih =>
    by_cases h1 : n < 128
    · rw [encZ_lt h1]; intro x hx; rw [List.mem_singleton.1 hx]; omega
    · rw [encZ_ge h1]; intro x hx
      rcases List.mem_cons.1 hx with a | a
      · rw [a]; omega
      · exact ih (n / 128) (by omega) x a
/-- A number's bytes end where they end. -/
theorem encZ_inj : ∀ (n m : Nat) (r s : List Int), encZ n ++ r = encZ m ++ s → n = m ∧ r = s := by
  intro n
  induction n using Nat.strongRecOn with
  | _ n ih =>
    intro m r s h
    by_cases h1 : n < 128
    · rw [encZ_lt h1] at h
      by_cases h2 : m < 128
      · rw [encZ_lt h2] at h
        simp only [List.singleton_append, List.cons.injEq] at h
        exact ⟨by omega, h.2⟩
      · rw [encZ_ge h2] at h
        simp only [List.singleton_append, List.cons_append, List.cons.injEq] at h
        omega
    · rw [encZ_ge h1] at h
      by_cases h2 : m < 128
      · rw [encZ_lt h2] at h
        simp only [List.singleton_append, List.cons_append, List.cons.injEq] at h
        omega
      · rw [encZ_ge h2] at h
        simp only [List.cons_append, List.cons.injEq] at h
        obtain ⟨a, b⟩ := ih (n / 128) (by omega) (m / 128) r s h.2
        exact ⟨by omega, b⟩
def encL (l : List Int) : List Int := l.flatMap fun x => encZ x.toNat
theorem encL_nil : encL [] = [] := rfl
theorem encL_cons (x : Int) (l : List Int) : encL (x :: l) = encZ x.toNat ++ encL l := rfl
theorem encL_app (l m : List Int) : encL (l ++ m) = encL l ++ encL m := List.flatMap_append ..
def small5 (l : List Int) : Prop := ∀ x ∈ l, 0 ≤ x ∧ x < 34359738368
theorem encL_len : ∀ (l : List Int), small5 l → (encL l).length ≤ 5 * l.length
  | [], _ => Nat.le_refl _
  | x :: l, h => by
    have h1 := h x List.mem_cons_self
    have h2 := encZ5 (n := x.toNat) (by omega)
    have h3 := encL_len l (fun y hy => h y (List.mem_cons_of_mem _ hy))
    rw [encL_cons, List.length_append, List.length_cons]; omega
theorem encL_byte (l : List Int) : ∀ x ∈ encL l, 0 ≤ x ∧ x < 256 := fun x hx => by
  obtain ⟨y, _, hy⟩ := List.mem_flatMap.1 hx
  exact encZ_byte _ x hy
theorem encL_inj : ∀ (l m r s : List Int), l.length = m.length → (∀ x ∈ l, 0 ≤ x) → (∀ x ∈ m, 0 ≤ x) → encL l ++ r = encL m ++ s → l = m ∧ r = s
  | [], [], r, s, _, _, _, h => ⟨rfl, h⟩
  | [], _ :: _, _, _, hl, _, _, _ => by simp at hl
  | _ :: _, [], _, _, hl, _, _, _ => by simp at hl
  | x :: l, y :: m, r, s, hl, h1, h2, h => by
    rw [encL_cons, encL_cons, List.append_assoc, List.append_assoc] at h
    obtain ⟨a, b⟩ := encZ_inj _ _ _ _ h
    obtain ⟨c, d⟩ := encL_inj l m r s (by simpa using hl) (fun z hz => h1 z (List.mem_cons_of_mem _ hz)) (fun z hz => h2 z (List.mem_cons_of_mem _ hz)) b
    have hx := h1 x List.mem_cons_self
    have hy := h2 y List.mem_cons_self
    exact ⟨by rw [c, show x = y by omega], d⟩

/-! Bytes as text. -/
theorem strOf_app (l m : List Int) : strOf (l ++ m) = strOf l ++ strOf m := List.map_append ..
theorem strOf_len (l : List Int) : (strOf l).length = l.length := List.length_map ..
theorem strOf_inj : ∀ (l m : List Int), (∀ x ∈ l, 0 ≤ x ∧ x < 256) → (∀ x ∈ m, 0 ≤ x ∧ x < 256) → strOf l = strOf m → l = m
  | [], [], _, _, _ => rfl
  | [], _ :: _, _, _, h => by simp [strOf] at h
  | _ :: _, [], _, _, h => by simp [strOf] at h
  | x :: l, y :: m, h1, h2, h => by
    have hc : UInt8.ofNat x.toNat :: strOf l = UInt8.ofNat y.toNat :: strOf m := h
    rw [List.cons.injEq] at hc
    have hx := h1 x List.mem_cons_self
    have hy := h2 y List.mem_cons_self
    have e := congrArg UInt8.toNat hc.1
    rw [UInt8.toNat_ofNat_of_lt' (by show x.toNat < 256; omega), UInt8.toNat_ofNat_of_lt' (by show y.toNat < 256; omega)] at e
    rw [strOf_inj l m (fun z hz => h1 z (List.mem_cons_of_mem _ hz)) (fun z hz => h2 z (List.mem_cons_of_mem _ hz)) hc.2, show x = y by omega]
theorem strOf_bytesOf (s : List UInt8) : strOf (bytesOf s) = s := by
  unfold strOf bytesOf
  rw [List.map_map]
  conv => rhs; rw [← List.map_id s]
  refine List.map_congr_left fun b _ => ?_
  show UInt8.ofNat (((b.toNat : Nat) : Int)).toNat = b
  rw [Int.toNat_natCast, UInt8.ofNat_toNat]
theorem bytesOf_len (s : List UInt8) : (bytesOf s).length = s.length := List.length_map ..
theorem bytesOf_byte (s : List UInt8) : ∀ x ∈ bytesOf s, 0 ≤ x ∧ x < 256 := fun x hx => by
  obtain ⟨b, _, rfl⟩ := List.mem_map.1 hx
  have : b.toNat < 256 := b.toNat_lt
  omega

/-! The program's numbers. -/
theorem or128 : ∀ x : Fin 256, orI .u8 ((x.val : Nat) : Int) 128 = ((x.val % 128 + 128 : Nat) : Int) := by decide +kernel
theorem u8w (n : Nat) : IntKind.u8.wrap ((n : Nat) : Int) = ((n % 256 : Nat) : Int) := by
  rw [IntKind.wrap_u8]; omega
theorem or_byte (n : Nat) : orI .u8 (IntKind.u8.wrap ((n : Nat) : Int)) 128 = ((n % 128 + 128 : Nat) : Int) := by
  rw [u8w]
  have := or128 ⟨n % 256, Nat.mod_lt _ (by decide)⟩
  rw [this]
  show (((n % 256) % 128 + 128 : Nat) : Int) = _
  omega
theorem shr7 (n : Nat) : shrI .i64 ((n : Nat) : Int) 7 = ((n / 128 : Nat) : Int) := by
  unfold shrI
  rw [show min (7 : Int).toNat IntKind.i64.bits = 7 from rfl, Int.fdiv_eq_ediv_of_nonneg _ (by decide)]
  omega
theorem put2_loop : ∀ (n : Nat) (b : List Int), n < 34359738368 → b.length + (encZ n).length ≤ 1000000000 → ∃ b' n', k9 T.rb b ((n : Nat) : Int) = some (b', ((n' : Nat) : Int)) ∧ n' < 128 ∧ b' ++ [((n' : Nat) : Int)] = b ++ encZ n := by
  intro n
  induction n using Nat.strongRecOn with
  | _ n ih =>
    intro b hn hb
    by_cases h1 : n < 128
    · refine ⟨b, n, ob9 ?_, h1, by rw [encZ_lt h1]⟩
      simp only [b9, df (show ¬ ((n : Nat) : Int) ≥ 128 by omega), cond_false]
    · rw [encZ_ge h1] at hb ⊢
      simp only [List.length_cons] at hb
      obtain ⟨b', n', g1, g2, g3⟩ := ih (n / 128) (by omega) (b ++ [((n % 128 + 128 : Nat) : Int)]) (by omega) (by rw [List.length_append, List.length_singleton]; omega)
      refine ⟨b', n', ob9 ?_, g2, by rw [g3]; simp⟩
      simp only [b9, dt (show ((n : Nat) : Int) ≥ 128 by omega), cond_true, ble_most (a := b.length + 1) (by omega), Bool.and_true, or_byte, shr7]
      exact g1
theorem put0_loop : ∀ (suf pre b : List Int), small5 suf → pre.length + suf.length ≤ 1000000000 → b.length + 5 * suf.length ≤ 1000000000 → k8 T.rb b (pre ++ suf) ((pre ++ suf).length : Nat) (pre.length : Nat) = some (b ++ encL suf)
  | [], pre, b, hs, h, hb => ob8 (by simp only [b8, lt_end, lt_self, List.append_nil, cond_false, encL_nil])
  | x :: suf, pre, b, hs, h, hb => ob8 (by
    simp only [List.length_cons] at h hb
    have hx := hs x List.mem_cons_self
    have h5 := encZ5 (n := x.toNat) (by omega)
    obtain ⟨b', n', g1, g2, g3⟩ := put2_loop x.toNat b (by omega) (by omega)
    rw [show ((x.toNat : Nat) : Int) = x by omega] at g1
    have hbl : b'.length + 1 = b.length + (encZ x.toNat).length := by
      have := congrArg List.length g3
      simpa using this
    have ih := put0_loop suf (pre ++ [x]) (b ++ encZ x.toNat) (fun y hy => hs y (List.mem_cons_of_mem _ hy)) (by simp; omega) (by rw [List.length_append]; omega)
    simp only [List.append_assoc, List.singleton_append] at ih
    have hw : IntKind.u8.wrap ((n' : Nat) : Int) = ((n' : Nat) : Int) := by rw [u8w]; omega
    simp only [b8, lt_mid, inb_mid, nth_mid, cond_true, Option.bind_some, g1, ble_most (a := b'.length + 1) (by omega), Bool.and_true, next_mid pre x (by omega), hw, g3, encL_cons]
    exact ih)
theorem put_eq {b l : List Int} (hs : small5 l) (hl : l.length ≤ 1000000) (hb : b.length ≤ 900000000) : c12 T.rf b l = some (b ++ encL l) := or12 (by
  have h := put0_loop l [] b hs (by simp; omega) (by omega)
  rw [List.nil_append, List.length_nil, show ((0 : Nat) : Int) = (0 : Int) from rfl] at h
  simp only [r12, h, Option.bind_some])
theorem put1_eq {b : List Int} {x : Int} (hx : 0 ≤ x ∧ x < 34359738368) (hb : b.length ≤ 900000000) : c12 T.rf b [x] = some (b ++ encZ x.toNat) := by
  have := put_eq (b := b) (l := [x]) (fun y hy => by rw [List.mem_singleton.1 hy]; exact hx) (by simp) hb
  rw [this, encL_cons, encL_nil, List.append_nil]

/-! The document's numbers. -/
theorem Number_eq : ∀ (n : Nat), n < 34359738368 → c34 T.rf ((n : Nat) : Int) = some (strOf (encZ n)) := by
  intro n
  induction n using Nat.strongRecOn with
  | _ n ih =>
    intro hn
    by_cases h1 : n < 128
    · refine or34 ?_
      have hw : IntKind.u8.wrap ((n : Nat) : Int) = ((n : Nat) : Int) := by rw [u8w]; omega
      simp only [r34, dt (show ((n : Nat) : Int) < 128 by omega), cond_true, hw, encZ_lt h1]
    · have g := ih (n / 128) (by omega) (by omega)
      have h5 := encZ5 (n := n / 128) (by omega)
      refine or34 ?_
      have w1 : IntKind.i64.wrap (Int.tdiv ((n : Nat) : Int) 128) = ((n / 128 : Nat) : Int) := by
        rw [Int.tdiv_eq_ediv_of_nonneg (by omega), wr (by omega)]; omega
      have w2 : IntKind.u8.wrap (IntKind.i64.wrap (Int.tmod ((n : Nat) : Int) 128 + 128)) = ((n % 128 + 128 : Nat) : Int) := by
        rw [Int.tmod_eq_emod_of_nonneg (by omega), wr (by omega), show ((n : Nat) : Int) % 128 + 128 = ((n % 128 + 128 : Nat) : Int) by omega, u8w]; omega
      simp only [r34, df (show ¬ ((n : Nat) : Int) < 128 by omega), cond_false, w1, g, Option.bind_some, w2, encZ_ge h1]
      rw [ble_most (by rw [strOf_len, strOf_len]; simp; omega), cond_true, ← strOf_app, List.singleton_append]
theorem NumberI_eq {x : Int} (h : 0 ≤ x ∧ x < 34359738368) : c34 T.rf x = some (strOf (encZ x.toNat)) := by
  have := Number_eq x.toNat (by omega)
  rwa [show ((x.toNat : Nat) : Int) = x by omega] at this

/-! An instruction's words. -/
def hasNI (op : Int) : Bool := decide (op = 3 ∨ op = 1 ∨ op = 2 ∨ op = 21 ∨ op = 30)
def sgnI (n : Int) : Int := if 0 ≤ n then 2 * n else -2 * n - 1
def wordsI (x : Ic) : List Int := x.1 :: ((if x.1 = 30 then [] else [x.2.1]) ++ (rdL x ++ if hasNI x.1 = true then [sgnI x.2.2.2.2.2] else []))
def InstP (c : Cd) (x : Ic) : Prop := okI c x = true ∧ (∀ k ∈ rdL x, 0 ≤ k ∧ k < c.2.1) ∧ (x.1 ≠ 30 → 0 ≤ x.2.1 ∧ x.2.1 < c.2.1)
theorem stepC_inst {c : Cd} {x : Ic} {s s' : List Int × List Int} (hs : ∀ k ∈ s.1, 0 ≤ k ∧ k < c.2.1) (h : stepC c x s = some s') : InstP c x ∧ ∀ k ∈ s'.1, 0 ≤ k ∧ k < c.2.1 := by
  rw [stepC] at h
  by_cases hk : okI c x = true ∧ (rdL x).all (fun k => decide (k ∈ s.1)) = true
  · rw [if_pos hk] at h
    have hr : ∀ k ∈ rdL x, 0 ≤ k ∧ k < c.2.1 := fun k hk2 => hs k (of_decide_eq_true (List.all_eq_true.1 hk.2 k hk2))
    by_cases h30 : x.1 = 30
    · rw [if_pos h30] at h
      split at h
      · exact absurd h (by simp)
      · cases h; exact ⟨⟨hk.1, hr, fun h => absurd h30 h⟩, hs⟩
    · rw [if_neg h30] at h
      split at h
      · exact absurd h (by simp)
      · rename_i hb
        cases h
        exact ⟨⟨hk.1, hr, fun _ => by omega⟩, fun k hk => by
          rcases List.mem_cons.1 hk with a | a
          · omega
          · exact hs k a⟩
  · rw [if_neg hk] at h; exact absurd h (by simp)
theorem runC_inst {c : Cd} : ∀ (l : List Ic) {s s' : List Int × List Int}, (∀ k ∈ s.1, 0 ≤ k ∧ k < c.2.1) → runC c l s = some s' → (∀ x ∈ l, InstP c x) ∧ ∀ k ∈ s'.1, 0 ≤ k ∧ k < c.2.1
  | [], s, s', hs, h => by cases h; exact ⟨fun x hx => by simp at hx, hs⟩
  | x :: l, s, s', hs, h => by
    rw [runC] at h
    cases hst : stepC c x s with
    | none => rw [hst] at h; exact absurd h (by simp)
    | some s1 =>
      rw [hst] at h
      obtain ⟨h1, h2⟩ := stepC_inst hs hst
      obtain ⟨h3, h4⟩ := runC_inst l h2 h
      refine ⟨fun y hy => ?_, h4⟩
      rcases List.mem_cons.1 hy with a | a
      · rw [a]; exact h1
      · exact h3 y a
structure CodeQ (c : Cd) : Prop where
  regs : 0 ≤ c.2.1 ∧ c.2.1 ≤ 100000
  slots : 0 ≤ c.2.2.1 ∧ c.2.2.1 ≤ 100000
  len : c.1.length ≤ 200000
  inst : ∀ x ∈ c.1, InstP c x
  outs : ∀ k ∈ c.2.2.2.1, 0 ≤ k ∧ k < c.2.1
theorem code_Q {c : Cd} (h : chkC c = 0) : CodeQ c := by
  obtain ⟨hb, w, hr, ha⟩ := chkC_zero.1 h
  have hB := of_decide_eq_false hb
  obtain ⟨h1, h2⟩ := runC_inst c.1 (fun k hk => by simp at hk) hr
  exact ⟨by omega, by omega, by omega, h1, fun k hk => h2 k (of_decide_eq_true (List.all_eq_true.1 ha k hk))⟩
theorem words_ok {c : Cd} (hR : c.2.1 ≤ 100000) (hS : c.2.2.1 ≤ 100000) (hi : c.2.2.2.2.length ≤ 1000000) {x : Ic} (h : InstP c x) : small5 (wordsI x) ∧ 0 ≤ rdN x.1 := by
  obtain ⟨hok, hr, hd⟩ := h
  rw [okI_iff] at hok
  have hk := of_decide_eq_true hok
  have hop : 0 ≤ x.1 ∧ x.1 ≤ 30 := by
    have := hk.1
    unfold rdN at this
    repeat' split at this
    all_goals omega
  refine ⟨fun y hy => ?_, hk.1⟩
  unfold wordsI at hy
  rcases List.mem_cons.1 hy with a | a
  · rw [a]; omega
  rcases List.mem_append.1 a with a | a
  · by_cases h30 : x.1 = 30
    · rw [if_pos h30] at a; simp at a
    · rw [if_neg h30] at a
      have := hd h30
      rw [List.mem_singleton.1 a]; omega
  rcases List.mem_append.1 a with a | a
  · have := hr y a; omega
  · by_cases hn : hasNI x.1 = true
    · rw [if_pos hn] at a
      have hn' := of_decide_eq_true hn
      have g := hk.2.2
      rw [List.mem_singleton.1 a]
      unfold sgnI
      split <;> omega
    · rw [if_neg hn] at a; simp at a
theorem words_len (x : Ic) : (wordsI x).length ≤ 6 := by
  have h3 : (rdL x).length ≤ 3 := by rw [rdL, List.length_take]; simp; omega
  have a1 : (if x.1 = 30 then ([] : List Int) else [x.2.1]).length ≤ 1 := by split <;> simp
  have a2 : (if hasNI x.1 = true then [sgnI x.2.2.2.2.2] else ([] : List Int)).length ≤ 1 := by split <;> simp
  unfold wordsI
  rw [List.length_cons, List.length_append, List.length_append]; omega

/-! The words of code. -/
def encF (c : Cd) : List Int := [66, 65, 73, 76] ++ (encL [c.2.1, c.2.2.1, ((c.2.2.2.2.length : Nat) : Int)] ++ (encL c.2.2.2.2 ++ (encL [((c.1.length : Nat) : Int)] ++ (c.1.flatMap (fun x => encL (wordsI x)) ++ (encL [((c.2.2.2.1.length : Nat) : Int)] ++ encL c.2.2.2.1)))))
def inpB (c : Cd) : Bool := c.2.2.2.2.all fun t => decide (0 ≤ t ∧ t ≤ 4294967295)
def encS (c : Cd) : List UInt8 × Int := if chkC c = 0 ∧ inpB c = true then (strOf (encF c), 0) else ([], 1)

end Go.Proofs.Yteifekbmmhpadaa.R
