/-
  OUR OWN: what the functions of package tree and of its document come to, in plain Lean: an expression in order; its names.
-/
import Derived.Test.YtifoobdekbjmdaaGreatTreeD
namespace Go.Proofs.YtifoobdekbjmdaaGreat.R
open Go Go.Bm Go.Proofs
set_option linter.unusedVariables false
set_option linter.unusedSimpArgs false
set_option maxRecDepth 4000

def nd0 : Nd := (0, 0, 0, 0, 0, [])
def ordL (g : Int → List Nd → List Nd) : List Int → List Nd → List Int → List Nd × List Int
  | [], o, ks => (o, ks)
  | k :: r, o, ks => ordL g r (g k o) (ks ++ [((g k o).length : Int) - 1])
def ord (e : List Nd) : Nat → Int → List Nd → List Nd
  | 0, _, o => o
  | f + 1, i, o => (ordL (ord e f) (kids (e.getD i.toNat nd0)) o []).1 ++ [aim (e.getD i.toNat nd0) (ordL (ord e f) (kids (e.getD i.toNat nd0)) o []).2]
/-- How many nodes an operand has. -/
def szL (g : Int → Nat) : List Int → Nat
  | [] => 0
  | k :: r => g k + szL g r
def sz (e : List Nd) : Nat → Int → Nat
  | 0, _ => 0
  | f + 1, i => 1 + szL (sz e f) (kids (e.getD i.toNat nd0))

/-- Each operand is a node ahead. -/
def Ahead (e : List Nd) : Prop := ∀ (i : Nat) (n : Nd), nth e i = some n → ∀ k ∈ kids n, 0 ≤ k ∧ k < i

theorem szL_congr {g h : Int → Nat} : ∀ {ks : List Int}, (∀ k ∈ ks, g k = h k) → szL g ks = szL h ks
  | [], _ => rfl
  | k :: r, hh => by rw [szL, szL, hh k List.mem_cons_self, szL_congr fun q hq => hh q (List.mem_cons_of_mem _ hq)]

theorem getD_nth {e : List Nd} {i : Nat} (h : i < e.length) : nth e i = some (e.getD i nd0) := by
  rw [nth_t h, List.getD_eq_getElem?_getD, List.getElem?_eq_getElem h]; rfl

theorem sz_fuel {e : List Nd} (hA : Ahead e) : ∀ (f i : Nat), i < f → i < e.length → sz e f (i : Int) = sz e (i + 1) (i : Int)
  | 0, i, h, _ => by omega
  | f + 1, i, h, hi => by
    rw [sz, sz]
    congr 1
    refine szL_congr fun k hk => ?_
    rw [Int.toNat_natCast] at hk
    have := hA i _ (getD_nth hi) k hk
    obtain ⟨j, rfl⟩ : ∃ j : Nat, k = j := ⟨k.toNat, by omega⟩
    rw [sz_fuel hA f j (by omega) (by omega), sz_fuel hA i j (by omega) (by omega)]
  termination_by f => f

/-- The nodes of all that is not in others yet. -/
def Usum (S : Nat → Nat) (V : List Nat) : Nat → Nat
  | 0 => 0
  | i + 1 => Usum S V i + if i ∈ V then 0 else S i

theorem Usum_add (S : Nat → Nat) (V : List Nat) (k : Nat) (hk : k ∉ V) : ∀ i, Usum S (V ++ [k]) i + (if k < i then S k else 0) = Usum S V i
  | 0 => by simp [Usum]
  | i + 1 => by
    have ih := Usum_add S V k hk i
    simp only [Usum, List.mem_append, List.mem_singleton]
    by_cases e : i = k
    · subst e
      rw [if_neg (by omega)] at ih
      simp [hk]; omega
    · by_cases hV : i ∈ V
      · simp only [hV, true_or, if_true]
        by_cases hlt : k < i
        · rw [if_pos hlt] at ih; rw [if_pos (by omega)]; omega
        · rw [if_neg hlt] at ih; rw [if_neg (by omega)]; omega
      · simp only [hV, e, or_self, if_false]
        by_cases hlt : k < i
        · rw [if_pos hlt] at ih; rw [if_pos (by omega)]; omega
        · rw [if_neg hlt] at ih; rw [if_neg (by omega)]; omega

theorem Usum_adds (S : Nat → Nat) (i : Nat) : ∀ (ks : List Int) (V : List Nat), (V ++ ks.map Int.toNat).Nodup → (∀ k ∈ ks, 0 ≤ k ∧ k < i) → Usum S (V ++ ks.map Int.toNat) i + szL (fun k => S k.toNat) ks = Usum S V i
  | [], V, _, _ => by simp [szL]
  | k :: ks, V, hn, hk => by
    have hk0 := hk k List.mem_cons_self
    have e : V ++ (k :: ks).map Int.toNat = (V ++ [k.toNat]) ++ ks.map Int.toNat := by simp
    rw [e] at hn ⊢
    have ih := Usum_adds S i ks (V ++ [k.toNat]) hn (fun q hq => hk q (List.mem_cons_of_mem _ hq))
    have hkV : k.toNat ∉ V := fun hm => (List.nodup_append.1 (List.nodup_append.1 hn).1).2.2 _ hm _ (by simp) rfl
    have := Usum_add S V k.toNat hkV i
    rw [if_pos (by omega)] at this
    rw [szL]; omega

theorem scanR_sz (e : List Nd) (S : Nat → Nat) (hS : ∀ i n, nth e i = some n → S i = 1 + szL (fun k => S k.toNat) (kids n)) : ∀ (suf pre : List Nd) (V V' : List Nat), e = pre ++ suf → scanR e suf pre.length V = some V' → V'.Nodup →
    (∀ x ∈ V, x < pre.length) → Usum S V pre.length = pre.length → (∀ j, j < pre.length → S j ≤ j + 1) → ∀ j, j < e.length → S j ≤ j + 1
  | [], pre, V, V', h, hs, hn, hV, hU, hj, j, hjl => hj j (by rw [h] at hjl; simpa using hjl)
  | n :: suf, pre, V, V', h, hs, hn, hV, hU, hj, j, hjl => by
    rw [scanR] at hs
    split at hs
    case isFalse => cases hs
    rename_i hc
    have hpl : (pre ++ [n]).length = pre.length + 1 := by simp
    have hi : nth e pre.length = some n := by rw [h, nth_getElem?]; simp
    obtain ⟨W, rfl⟩ := scanR_ext e suf _ _ _ hs
    have hn1 := (List.nodup_append.1 hn).1
    have hr : ∀ k ∈ kids n, 0 ≤ k ∧ k < pre.length := fun k hk => by simpa using List.all_eq_true.1 hc.2.1 k hk
    have hV' : ∀ x ∈ V ++ (kids n).map Int.toNat, x < pre.length := fun x hx => by
      rcases List.mem_append.1 hx with hx | hx
      · exact hV x hx
      · obtain ⟨k, hk, rfl⟩ := List.mem_map.1 hx
        have := hr k hk; omega
    have hU' := Usum_adds S pre.length (kids n) V hn1 hr
    have hSi := hS _ _ hi
    have hSU : Usum S (V ++ (kids n).map Int.toNat) (pre.length + 1) = pre.length + 1 := by
      rw [Usum, if_neg (fun hm => by have := hV' _ hm; omega)]; omega
    refine scanR_sz e S hS suf (pre ++ [n]) _ _ (by rw [h]; simp) (by rw [hpl]; exact hs) hn (fun x hx => by have := hV' x hx; rw [hpl]; omega) (by rw [hpl]; exact hSU) (fun q hq => ?_) j hjl
    rw [hpl] at hq
    rcases Nat.lt_or_eq_of_le (Nat.le_of_lt_succ hq) with h1 | h1
    · exact hj q h1
    · subst h1
      rw [Usum, if_neg (fun hm => by have := hV' _ hm; omega)] at hSU
      omega

theorem scanR_ahead (e : List Nd) : ∀ (suf pre : List Nd) (V V' : List Nat), e = pre ++ suf → scanR e suf pre.length V = some V' → ∀ (i : Nat) (n : Nd), pre.length ≤ i → nth e i = some n → nodeB n = true ∧ argsB e n (kids n) 0 = true ∧ ∀ k ∈ kids n, 0 ≤ k ∧ k < i
  | [], pre, V, V', h, hs, i, n, hi, hn => by
    rw [nth_getElem?] at hn
    have := (List.getElem?_eq_some_iff.1 hn).1
    rw [h] at this; simp at this; omega
  | m :: suf, pre, V, V', h, hs, i, n, hi, hn => by
    rw [scanR] at hs
    split at hs
    case isFalse => cases hs
    rename_i hc
    have hpl : (pre ++ [m]).length = pre.length + 1 := by simp
    rcases Nat.lt_or_eq_of_le hi with h1 | h1
    · exact scanR_ahead e suf (pre ++ [m]) _ _ (by rw [h]; simp) (by rw [hpl]; exact hs) i n (by rw [hpl]; exact h1) hn
    · subst h1
      rw [h, nth_getElem?] at hn
      simp at hn
      subst hn
      exact ⟨hc.1, hc.2.2, fun k hk => by simpa using List.all_eq_true.1 hc.2.1 k hk⟩

/-- What is known of an expression that may be. -/
structure MayP (e : List Nd) : Prop where
  ne : e ≠ []
  len : e.length ≤ 5000
  last : opAt e (e.length - 1) ≠ 28
  deep : depth e ≤ 40
  node : ∀ (i : Nat) (n : Nd), nth e i = some n → nodeB n = true
  args : ∀ (i : Nat) (n : Nd), nth e i = some n → argsB e n (kids n) 0 = true
  ahead : Ahead e
  small : ∀ i : Nat, i < e.length → sz e (i + 1) (i : Int) ≤ i + 1

theorem may_P {e : List Nd} (h : mayB e = true) : MayP e := by
  simp only [mayB, Bool.and_eq_true, decide_eq_true_eq] at h
  obtain ⟨h1, h2, h3, h4⟩ := h
  split at h4
  · cases h4
  rename_i V hs
  simp only [Bool.and_eq_true, decide_eq_true_eq] at h4
  obtain ⟨k1, k2⟩ := (scan_iff e e 0 [] V (by simp)).1 hs
  have hA := scanR_ahead e e [] [] V rfl k1
  have hah : Ahead e := fun i n hn => (hA i n (by simp) hn).2.2
  refine ⟨h1, h2, h3, h4.2, fun i n hn => (hA i n (by simp) hn).1, fun i n hn => (hA i n (by simp) hn).2.1, hah, ?_⟩
  refine scanR_sz e (fun i => sz e (i + 1) (i : Int)) (fun i n hn => ?_) e [] [] V rfl k1 k2 (by simp) rfl (by simp)
  have hil : i < e.length := by rw [nth_getElem?] at hn; exact (List.getElem?_eq_some_iff.1 hn).1
  have hg : e.getD i nd0 = n := by have := getD_nth hil; rw [hn] at this; exact (Option.some.inj this).symm
  show sz e (i + 1) (i : Int) = _
  rw [sz, Int.toNat_natCast, hg]
  congr 1
  refine szL_congr fun k hk => ?_
  have := hah i n hn k hk
  obtain ⟨j, rfl⟩ : ∃ j : Nat, k = j := ⟨k.toNat, by omega⟩
  rw [Int.toNat_natCast]
  exact sz_fuel hah i j (by omega) (by omega)

theorem ordL_len {g : Int → List Nd → List Nd} {s : Int → Nat} : ∀ (ks : List Int) (o : List Nd) (q : List Int), (∀ k ∈ ks, ∀ o, (g k o).length = o.length + s k) → (ordL g ks o q).1.length = o.length + szL s ks ∧ (ordL g ks o q).2.length = q.length + ks.length
  | [], o, q, _ => by simp [ordL, szL]
  | k :: r, o, q, h => by
    have ih := ordL_len r (g k o) (q ++ [((g k o).length : Int) - 1]) (fun x hx => h x (List.mem_cons_of_mem _ hx))
    rw [ordL, ih.1, ih.2, h k List.mem_cons_self, szL]
    simp; omega
theorem ord_len {e : List Nd} : ∀ (f : Nat) (i : Int) (o : List Nd), (ord e f i o).length = o.length + sz e f i
  | 0, i, o => by simp [ord, sz]
  | f + 1, i, o => by
    rw [ord, sz, List.length_append, (ordL_len _ o [] fun k _ o => ord_len f k o).1, List.length_singleton]; omega

theorem order_eq {e : List Nd} (hM : MayP e) : ∀ (f i : Nat) (out : List Nd), i < f → i < e.length → out.length + sz e f i ≤ 274877906944 → c55 T.rf out e (i : Nat) = some (ord e f (i : Nat) out)
  | 0, i, out, h, _, _ => by omega
  | f + 1, i, out, h, hi, hb => or55 (by
    have hni := getD_nth hi
    have hal := hM.ahead i _ hni
    have hlen := hM.len
    have hk3 := kids_len (e.getD i nd0)
    have loop : ∀ (suf : List Int) (q : List Int) (o : List Nd), (∀ k ∈ suf, 0 ≤ k ∧ k < i) → q.length + suf.length ≤ 3 → o.length + szL (sz e f) suf ≤ 274877906944 →
        k56 T.rb o (q ++ suf) e (((q ++ suf).length : Nat) : Int) (q.length : Nat) = some ((ordL (ord e f) suf o q).2, (ordL (ord e f) suf o q).1) := by
      intro suf
      induction suf with
      | nil =>
        intro q o _ _ _
        exact ob56 (by simp only [b56, lt_end, lt_self, List.append_nil, cond_false, ordL])
      | cons k suf ih =>
        intro q o hs hq hb
        have hk := hs k List.mem_cons_self
        simp only [List.length_cons, szL] at hq hb
        obtain ⟨j, rfl⟩ : ∃ j : Nat, k = j := ⟨k.toNat, by omega⟩
        have hrec := order_eq hM f j o (by omega) (by omega) (by omega)
        have hl := ord_len (e := e) f j o
        have ih := ih (q ++ [((ord e f j o).length : Int) - 1]) (ord e f j o) (fun x hx => hs x (List.mem_cons_of_mem _ hx)) (by simp; omega) (by omega)
        have hll : (q ++ [((ord e f j o).length : Int) - 1] ++ suf).length = (q ++ (j : Int) :: suf).length := by simp
        have hset : setNth (q ++ (j : Int) :: suf) ((q.length : Nat) : Int).toNat (((ord e f j o).length : Int) - 1) = q ++ [((ord e f j o).length : Int) - 1] ++ suf := by
          rw [setNth_set, Int.toNat_natCast, List.set_append_right _ _ (Nat.le_refl _), Nat.sub_self, List.set_cons_zero]; simp
        have hbl : Nat.blt ((q.length : Nat) : Int).toNat (q ++ (j : Int) :: suf).length = true := blt_t (by simp)
        refine ob56 ?_
        simp only [b56, lt_mid, inb_mid, nth_mid, cond_true, Option.bind_some, hrec, hbl, wr_pred (show (ord e f (j : Int) o).length < 4611686018427387904 by omega), hset, next_mid q ((j : Nat) : Int) (by omega)]
        rw [ordL, ← hll]
        have e1 : (q ++ [((j : Nat) : Int)]).length = (q ++ [((ord e f j o).length : Int) - 1]).length := by simp
        rw [e1]
        exact ih
    rw [sz, Int.toNat_natCast] at hb
    have hl := loop (kids (e.getD i nd0)) [] out hal (by simpa using hk3) (by omega)
    simp only [List.nil_append, List.length_nil] at hl
    rw [show ((0 : Nat) : Int) = (0 : Int) from rfl] at hl
    have hol := (ordL_len (kids (e.getD i nd0)) out [] fun k _ o => ord_len (e := e) f k o).1
    simp only [r55, inb_nat, dt hi, cond_true, Int.toNat_natCast, hni, Option.bind_some, kids_eq, hl, with_eq]
    rw [ble_most (by omega)]
    simp only [Bool.and_true, cond_true, ord, Int.toNat_natCast])

theorem refOrder_eq {e : List Nd} (hM : MayP e) : ∀ (f i : Nat) (out : List Nd), i < f → i < e.length → out.length + sz e f i ≤ 274877906944 → c101 T.rf out e (i : Nat) = some (ord e f (i : Nat) out)
  | 0, i, out, h, _, _ => by omega
  | f + 1, i, out, h, hi, hb => or101 (by
    have hni := getD_nth hi
    have hal := hM.ahead i _ hni
    have hlen := hM.len
    have hk3 := kids_len (e.getD i nd0)
    have loop : ∀ (suf pre : List Int) (q : List Int) (o : List Nd), (∀ k ∈ suf, 0 ≤ k ∧ k < i) → pre.length + suf.length ≤ 3 → q.length + suf.length ≤ 3 → o.length + szL (sz e f) suf ≤ 274877906944 →
        k139 T.rb o (pre ++ suf) q e (pre.length : Nat) = some (pre ++ suf, (ordL (ord e f) suf o q).1, (ordL (ord e f) suf o q).2) := by
      intro suf
      induction suf with
      | nil =>
        intro pre q o _ _ _ _
        exact ob139 (by simp only [b139, lt_end, lt_self, List.append_nil, cond_false, ordL])
      | cons k suf ih =>
        intro pre q o hs hp hq hb
        have hk := hs k List.mem_cons_self
        simp only [List.length_cons, szL] at hp hq hb
        obtain ⟨j, rfl⟩ : ∃ j : Nat, k = j := ⟨k.toNat, by omega⟩
        have hrec := refOrder_eq hM f j o (by omega) (by omega) (by omega)
        have hl := ord_len (e := e) f j o
        have ih := ih (pre ++ [(j : Int)]) (q ++ [((ord e f j o).length : Int) - 1]) (ord e f j o) (fun x hx => hs x (List.mem_cons_of_mem _ hx)) (by simp; omega) (by simp; omega) (by omega)
        simp only [List.append_assoc, List.singleton_append] at ih
        refine ob139 ?_
        simp only [b139, lt_mid, inb_mid, nth_mid, cond_true, Option.bind_some, hrec, ble_most (show q.length + 1 ≤ 274877906944 by omega), Bool.and_true, wr_pred (show (ord e f (j : Int) o).length < 4611686018427387904 by omega), next_mid pre ((j : Nat) : Int) (by omega)]
        rw [ordL]
        simpa only [List.append_assoc] using ih
    rw [sz, Int.toNat_natCast] at hb
    have hl := loop (kids (e.getD i nd0)) [] [] out hal (by simpa using hk3) (by simpa using hk3) (by omega)
    simp only [List.nil_append, List.length_nil] at hl
    rw [show ((0 : Nat) : Int) = (0 : Int) from rfl] at hl
    have hol := (ordL_len (kids (e.getD i nd0)) out [] fun k _ o => ord_len (e := e) f k o).1
    simp only [r101, inb_nat, dt hi, cond_true, Int.toNat_natCast, hni, Option.bind_some, refKids_eq, hl, aim_eq]
    rw [ble_most (by omega)]
    simp only [Bool.and_true, cond_true, ord, Int.toNat_natCast])

/-- The expression of a node, in order. -/
def subE (e : List Nd) (i : Int) : List Nd := if 0 ≤ i ∧ i < e.length ∧ mayB e = true then ord e (i.toNat + 1) i [] else []

theorem Sub_eq {e : List Nd} (h : e.length ≤ 1000000) (i : Int) : c46 T.rf e i = some (subE e i) := or46 (by
  simp only [r46, subE]
  by_cases h1 : 0 ≤ i
  case neg => rw [dt (show i < 0 by omega), cond_true, if_neg (by omega)]
  rw [df (show ¬ i < 0 by omega), cond_false]
  by_cases h2 : i < e.length
  case neg => rw [dt (show i ≥ e.length by omega), cond_true, if_neg (by omega)]
  rw [df (show ¬ i ≥ e.length by omega), cond_false, May_eq h, Option.bind_some]
  cases hm : mayB e
  · rw [if_neg (by intro hh; cases hh.2.2)]; rfl
  · rw [if_pos ⟨h1, h2, rfl⟩]
    have hM := may_P hm
    obtain ⟨j, rfl⟩ : ∃ j : Nat, i = j := ⟨i.toNat, by omega⟩
    have := hM.small j (by omega)
    have hl := hM.len
    rw [order_eq hM (j + 1) j [] (by omega) (by omega) (by simp; omega), Int.toNat_natCast]; rfl)
theorem refSub_eq {e : List Nd} (h : e.length ≤ 1000000) (i : Int) : c96 T.rf e i = some (subE e i) := or96 (by
  simp only [r96, subE, refMay_eq h, Option.bind_some]
  cases hm : mayB e
  · rw [if_neg (by intro hh; cases hh.2.2)]; rfl
  rw [Bool.not_true, cond_false]
  by_cases h1 : 0 ≤ i
  case neg => rw [dt (show i < 0 by omega), cond_true, if_neg (by omega)]
  rw [df (show ¬ i < 0 by omega), cond_false]
  by_cases h2 : i < e.length
  case neg => rw [dt (show i ≥ e.length by omega), cond_true, if_neg (by omega)]
  rw [df (show ¬ i ≥ e.length by omega), cond_false, if_pos ⟨h1, h2, rfl⟩]
  have hM := may_P hm
  obtain ⟨j, rfl⟩ : ∃ j : Nat, i = j := ⟨i.toNat, by omega⟩
  have := hM.small j (by omega)
  have hl := hM.len
  rw [refOrder_eq hM (j + 1) j [] (by omega) (by omega) (by simp; omega), Int.toNat_natCast]; rfl)

theorem subE_len {e : List Nd} (i : Int) : (subE e i).length ≤ 5001 := by
  unfold subE
  split
  · rename_i h
    have hM := may_P h.2.2
    obtain ⟨j, rfl⟩ : ∃ j : Nat, i = j := ⟨i.toNat, by omega⟩
    have := hM.small j (by omega)
    have hl := hM.len
    rw [ord_len, Int.toNat_natCast]; simp; omega
  · simp

end Go.Proofs.YtifoobdekbjmdaaGreat.R
