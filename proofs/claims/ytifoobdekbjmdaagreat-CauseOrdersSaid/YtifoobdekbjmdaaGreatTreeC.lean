/-
  OUR OWN: what the functions of package tree and of its document come to, in plain Lean: how deep, and whether an expression may be.
-/
import Derived.Test.YtifoobdekbjmdaaGreatTreeB
namespace Go.Proofs.YtifoobdekbjmdaaGreat.R
open Go Go.Bm Go.Proofs
set_option linter.unusedVariables false
set_option linter.unusedSimpArgs false
set_option maxRecDepth 4000

/-- The deepest of some nodes ahead. -/
def deepest (acc : List Int) : List Int → Int → Int
  | [], m => m
  | k :: ks, m => deepest acc ks (if 0 ≤ k ∧ k < acc.length then (if (acc.getD k.toNat 0) > m then acc.getD k.toNat 0 else m) else m)
def depL : List Nd → List Int → List Int
  | [], acc => acc
  | n :: r, acc => depL r (acc ++ [deepest acc (kids n) 0 + 1])
def depth (e : List Nd) : Int := (depL e []).getLastD 0

theorem depL_len : ∀ (e : List Nd) (acc : List Int), (depL e acc).length = acc.length + e.length
  | [], acc => rfl
  | n :: r, acc => by rw [depL, depL_len r]; simp; omega

theorem deepest_le (acc : List Int) (b : Int) (h : ∀ x ∈ acc, 0 ≤ x ∧ x ≤ b) : ∀ (ks : List Int) (m : Int), 0 ≤ m → m ≤ b → 0 ≤ deepest acc ks m ∧ deepest acc ks m ≤ b
  | [], m, h0, h1 => ⟨h0, h1⟩
  | k :: ks, m, h0, h1 => by
    rw [deepest]
    split
    · rename_i hk
      split
      · have hlt : k.toNat < acc.length := by omega
        have hm : acc.getD k.toNat 0 ∈ acc := by
          rw [List.getD_eq_getElem?_getD, List.getElem?_eq_getElem hlt]; exact List.getElem_mem hlt
        exact deepest_le acc b h ks _ (h _ hm).1 (h _ hm).2
      · exact deepest_le acc b h ks m h0 h1
    · exact deepest_le acc b h ks m h0 h1

/-- The row of depths, as the program keeps it: what is not reckoned yet is 0. -/
def row (acc : List Int) (m : Nat) : List Int := acc ++ List.replicate m 0

theorem row_len (acc : List Int) (m : Nat) : (row acc m).length = acc.length + m := by simp [row]
theorem row_get {acc : List Int} {m i : Nat} (h : i < acc.length) : nth (row acc m) i = some (acc.getD i 0) := by
  rw [nth_getElem?, row, List.getElem?_append_left h, List.getD_eq_getElem?_getD, List.getElem?_eq_getElem h]; rfl

theorem depths_loop2 (acc : List Int) (m : Nat) (hacc : acc.length + m ≤ 1000000) : ∀ (suf pre : List Int) (x : Int), pre.length + suf.length ≤ 1000 →
    k54 T.rb (acc ++ x :: List.replicate m 0) (pre ++ suf) (acc.length : Nat) ((pre ++ suf).length : Nat) (pre.length : Nat) = some (acc ++ deepest acc suf x :: List.replicate m 0, pre ++ suf)
  | [], pre, x, h => ob54 (by
    simp only [b54, lt_end, lt_self, List.append_nil, cond_false, deepest])
  | k :: suf, pre, x, h => ob54 (by
    simp only [List.length_cons] at h
    have ih := fun y => depths_loop2 acc m hacc suf (pre ++ [k]) y (by simp; omega)
    simp only [List.append_assoc, List.singleton_append] at ih
    simp only [b54, lt_mid, inb_mid, nth_mid, cond_true, Option.bind_some, deepest, next_mid pre k (by omega)]
    by_cases h1 : 0 ≤ k
    · rw [dt h1, cond_true]
      by_cases h2 : k < acc.length
      · have hlen : (acc ++ x :: List.replicate m 0).length = acc.length + (m + 1) := by simp
        have hk : nth (acc ++ x :: List.replicate m 0) k.toNat = some (acc.getD k.toNat 0) := by
          have hlt : k.toNat < acc.length := by omega
          rw [nth_getElem?, List.getElem?_append_left hlt, List.getD_eq_getElem?_getD, List.getElem?_eq_getElem hlt]; rfl
        have hb : Nat.blt ((acc.length : Nat) : Int).toNat (acc ++ x :: List.replicate m 0).length = true := blt_t (by rw [hlen]; simp)
        rw [dt h2, cond_true, if_pos ⟨h1, h2⟩]
        rw [show inb k (acc ++ x :: List.replicate m 0).length = true from inb_t h1 (by rw [hlen]; omega)]
        simp only [cond_true, hk, Option.bind_some, inb_mid, nth_mid, hb]
        have hset : ∀ y, setNth (acc ++ x :: List.replicate m 0) ((acc.length : Nat) : Int).toNat y = acc ++ y :: List.replicate m 0 := fun y => by
          rw [setNth_set, Int.toNat_natCast, List.set_append_right _ _ (Nat.le_refl _), Nat.sub_self, List.set_cons_zero]
        rw [hset]
        exact ih _
      · rw [df h2, cond_false, if_neg (by omega)]
        exact ih x
    · rw [df h1, cond_false, if_neg (by omega)]
      exact ih x)

theorem depths_loop0 : ∀ (suf pre : List Nd) (acc : List Int), acc.length = pre.length → pre.length + suf.length ≤ 1000000 → (∀ x ∈ acc, 0 ≤ x ∧ x ≤ acc.length) →
    k53 T.rb (row acc suf.length) (pre ++ suf) ((pre ++ suf).length : Nat) (pre.length : Nat) = some (depL suf acc)
  | [], pre, acc, h, h2, h3 => ob53 (by
    simp [b53, lt_self, depL, row])
  | n :: suf, pre, acc, h, h2, h3 => ob53 (by
    simp only [List.length_cons] at h2
    have hd := deepest_le acc acc.length h3 (kids n) 0 (by omega) (by omega)
    have ih := depths_loop0 suf (pre ++ [n]) (acc ++ [deepest acc (kids n) 0 + 1]) (by simp [h]) (by simp; omega) (fun x hx => by
      rcases List.mem_append.1 hx with hx | hx
      · have := h3 x hx; simp; omega
      · simp only [List.mem_singleton] at hx; subst hx; simp; omega)
    simp only [List.append_assoc, List.singleton_append] at ih
    have hrow : row acc (n :: suf).length = acc ++ (0 : Int) :: List.replicate suf.length 0 := by simp [row, List.replicate_succ]
    have hl := depths_loop2 acc suf.length (by omega) (kids n) [] 0 (by have := kids_len n; simp; omega)
    simp only [List.nil_append, List.length_nil] at hl
    rw [show ((0 : Nat) : Int) = 0 from rfl] at hl
    have hb : Nat.blt ((acc.length : Nat) : Int).toNat (acc ++ deepest acc (kids n) 0 :: List.replicate suf.length 0).length = true := blt_t (by simp)
    have hset : ∀ y, setNth (acc ++ deepest acc (kids n) 0 :: List.replicate suf.length 0) ((acc.length : Nat) : Int).toNat y = acc ++ y :: List.replicate suf.length 0 := fun y => by
      rw [setNth_set, Int.toNat_natCast, List.set_append_right _ _ (Nat.le_refl _), Nat.sub_self, List.set_cons_zero]
    simp only [b53, lt_mid, inb_mid, nth_mid, cond_true, Option.bind_some, kids_eq, hrow]
    rw [← h, hl]
    simp only [Option.bind_some, inb_mid, nth_mid, cond_true, hb, hset]
    rw [wr (by omega)]
    rw [h, next_mid pre n (by omega)]
    have e2 : acc ++ (deepest acc (kids n) 0 + 1) :: List.replicate suf.length 0 = row (acc ++ [deepest acc (kids n) 0 + 1]) suf.length := by simp [row]
    rw [e2, depL]
    exact ih)

theorem Depth_eq {e : List Nd} (h : e.length ≤ 1000000) : c53 T.rf e = some (depth e) := or53 (by
  simp only [r53]
  by_cases he : e = []
  · subst he; rfl
  rw [len_ne he, cond_false]
  have hd : c54 T.rf e = some (depL e []) := or54 (by
    have hl := depths_loop0 e [] [] rfl (by simpa using h) (fun x hx => by cases hx)
    simp only [List.nil_append, List.length_nil, row] at hl
    simp only [r54, inb'_nat, dt (show e.length ≤ most by unfold most; omega), dt (Nat.le_refl e.length), cond_true]
    rw [show (0 : Int) = ((0 : Nat) : Int) from rfl]
    rw [show ((0 : Nat) : Int) = (0 : Int) from rfl] at hl
    rw [show ((0 : Nat) : Int) = (0 : Int) from rfl, hl]; rfl)
  have hlen : (depL e []).length = e.length := by rw [depL_len]; simp
  have hpos := List.length_pos_iff.2 he
  rw [hd, Option.bind_some, last_i he (by omega), inb_nat, dt (by omega), cond_true, Int.toNat_natCast, nth_t (by omega), Option.bind_some]
  simp only [depth, Option.some.injEq]
  rw [List.getLastD_eq_getLast?, List.getLast?_eq_getElem?, List.getElem?_eq_getElem (by omega)]
  simp [hlen])

/-! ### The document's depth -/
theorem refDepth_loop2 (acc : List Int) (m : Nat) (hacc : acc.length + m ≤ 1000000) (hb0 : ∀ x ∈ acc, 0 ≤ x ∧ x ≤ acc.length) : ∀ (suf pre : List Int) (x : Int), 0 ≤ x → x ≤ acc.length → pre.length + suf.length ≤ 1000 →
    k35 T.rb (acc ++ (x + 1) :: List.replicate m 0) (pre ++ suf) (acc.length : Nat) (pre.length : Nat) = some (acc ++ (deepest acc suf x + 1) :: List.replicate m 0, pre ++ suf)
  | [], pre, x, hx0, hx1, h => ob35 (by
    simp only [b35, lt_end, lt_self, List.append_nil, cond_false, deepest])
  | k :: suf, pre, x, hx0, hx1, h => ob35 (by
    simp only [List.length_cons] at h
    have ih := fun y h0 h1 => refDepth_loop2 acc m hacc hb0 suf (pre ++ [k]) y h0 h1 (by simp; omega)
    simp only [List.append_assoc, List.singleton_append] at ih
    simp only [b35, lt_mid, inb_mid, nth_mid, cond_true, Option.bind_some, deepest, next_mid pre k (by omega)]
    by_cases h1 : 0 ≤ k
    · rw [dt h1, cond_true]
      by_cases h2 : k < acc.length
      · have hlen : (acc ++ (x + 1) :: List.replicate m 0).length = acc.length + (m + 1) := by simp
        have hlt : k.toNat < acc.length := by omega
        have hk : nth (acc ++ (x + 1) :: List.replicate m 0) k.toNat = some (acc.getD k.toNat 0) := by
          rw [nth_getElem?, List.getElem?_append_left hlt, List.getD_eq_getElem?_getD, List.getElem?_eq_getElem hlt]; rfl
        have hm : acc.getD k.toNat 0 ∈ acc := by
          rw [List.getD_eq_getElem?_getD, List.getElem?_eq_getElem hlt]; exact List.getElem_mem hlt
        have hmb := hb0 _ hm
        have hb : Nat.blt ((acc.length : Nat) : Int).toNat (acc ++ (x + 1) :: List.replicate m 0).length = true := blt_t (by rw [hlen]; simp)
        rw [dt h2, cond_true, if_pos ⟨h1, h2⟩]
        rw [show inb k (acc ++ (x + 1) :: List.replicate m 0).length = true from inb_t h1 (by rw [hlen]; omega)]
        simp only [cond_true, hk, Option.bind_some, inb_mid, nth_mid, hb]
        have hset : ∀ y, setNth (acc ++ (x + 1) :: List.replicate m 0) ((acc.length : Nat) : Int).toNat y = acc ++ y :: List.replicate m 0 := fun y => by
          rw [setNth_set, Int.toNat_natCast, List.set_append_right _ _ (Nat.le_refl _), Nat.sub_self, List.set_cons_zero]
        rw [hset, wr (by omega)]
        have e : (if acc.getD k.toNat 0 + 1 > x + 1 then acc.getD k.toNat 0 + 1 else x + 1) = (if acc.getD k.toNat 0 > x then acc.getD k.toNat 0 else x) + 1 := by
          split <;> split <;> omega
        rw [e]
        exact ih _ (by split <;> omega) (by split <;> omega)
      · rw [df h2, cond_false, if_neg (by omega)]
        exact ih x hx0 hx1
    · rw [df h1, cond_false, if_neg (by omega)]
      exact ih x hx0 hx1)

theorem refDepth_loop0 : ∀ (suf pre : List Nd) (acc : List Int), acc.length = pre.length → pre.length + suf.length ≤ 1000000 → (∀ x ∈ acc, 0 ≤ x ∧ x ≤ acc.length) →
    k34 T.rb (row acc suf.length) (pre ++ suf) (pre.length : Nat) = some (depL suf acc)
  | [], pre, acc, h, h2, h3 => ob34 (by
    simp [b34, lt_self, depL, row])
  | n :: suf, pre, acc, h, h2, h3 => ob34 (by
    simp only [List.length_cons] at h2
    have hd := deepest_le acc acc.length h3 (kids n) 0 (by omega) (by omega)
    have ih := refDepth_loop0 suf (pre ++ [n]) (acc ++ [deepest acc (kids n) 0 + 1]) (by simp [h]) (by simp; omega) (fun x hx => by
      rcases List.mem_append.1 hx with hx | hx
      · have := h3 x hx; simp; omega
      · simp only [List.mem_singleton] at hx; subst hx; simp; omega)
    simp only [List.append_assoc, List.singleton_append] at ih
    have hrow : row acc (n :: suf).length = acc ++ (0 : Int) :: List.replicate suf.length 0 := by simp [row, List.replicate_succ]
    have hl := refDepth_loop2 acc suf.length (by omega) h3 (kids n) [] 0 (by omega) (by omega) (by have := kids_len n; simp; omega)
    simp only [List.nil_append, List.length_nil] at hl
    rw [show ((0 : Nat) : Int) = 0 from rfl, show (0 : Int) + 1 = 1 from rfl] at hl
    have hb : Nat.blt ((acc.length : Nat) : Int).toNat (acc ++ (0 : Int) :: List.replicate suf.length 0).length = true := blt_t (by simp)
    have hset : setNth (acc ++ (0 : Int) :: List.replicate suf.length 0) ((acc.length : Nat) : Int).toNat 1 = acc ++ (1 : Int) :: List.replicate suf.length 0 := by
      rw [setNth_set, Int.toNat_natCast, List.set_append_right _ _ (Nat.le_refl _), Nat.sub_self, List.set_cons_zero]
    have hin : inb ((pre.length : Nat) : Int) (acc ++ (0 : Int) :: List.replicate suf.length 0).length = true := by rw [← h]; exact inb_mid _ _ _
    simp only [b34, lt_mid, inb_mid, nth_mid, cond_true, Option.bind_some, refKids_eq, hrow, hin]
    rw [← h, hb, cond_true, hset, hl]
    simp only [Option.bind_some]
    rw [h, next_mid pre n (by omega)]
    have e2 : acc ++ (deepest acc (kids n) 0 + 1) :: List.replicate suf.length 0 = row (acc ++ [deepest acc (kids n) 0 + 1]) suf.length := by simp [row]
    rw [e2, depL]
    exact ih)

theorem refDepth_eq {e : List Nd} (h : e.length ≤ 1000000) : c42 T.rf e = some (depth e) := or42 (by
  have hl := refDepth_loop0 e [] [] rfl (by simpa using h) (fun x hx => by cases hx)
  simp only [List.nil_append, List.length_nil, row] at hl
  rw [show ((0 : Nat) : Int) = (0 : Int) from rfl] at hl
  simp only [r42, inb'_nat, dt (show e.length ≤ most by unfold most; omega), dt (Nat.le_refl e.length), cond_true, hl, Option.bind_some]
  by_cases he : e = []
  · subst he; rfl
  rw [len_ne he, cond_false]
  have hlen : (depL e []).length = e.length := by rw [depL_len]; simp
  have hpos := List.length_pos_iff.2 he
  rw [last_i he (by omega), inb_nat, dt (by omega), cond_true, Int.toNat_natCast, nth_t (by omega), Option.bind_some]
  simp only [depth, Option.some.injEq]
  rw [List.getLastD_eq_getLast?, List.getLast?_eq_getElem?, List.getElem?_eq_getElem (by omega)]
  simp [hlen])

/-! ### Whether an expression may be -/
def opAt (e : List Nd) (k : Nat) : Int := (e.getD k (0, 0, 0, 0, 0, [])).1
/-- Is an operand an Args just where it is to be one? -/
def argB (e : List Nd) (n : Nd) (at_ : Nat) (k : Int) : Bool := decide (opAt e k.toNat = 28) == (decide (n.1 = 27) || (decide (n.1 = 28) && (decide (n.2.2.1 ≠ -1) && decide (at_ = 0))))
def scanK (e : List Nd) (n : Nd) (i : Nat) : List Int → Nat → List Nat → Option (List Nat)
  | [], _, V => some V
  | k :: ks, a, V => if 0 ≤ k ∧ k < i ∧ k.toNat ∉ V ∧ argB e n a k = true then scanK e n i ks (a + 1) (V ++ [k.toNat]) else none
def scan (e : List Nd) : List Nd → Nat → List Nat → Option (List Nat)
  | [], _, V => some V
  | n :: r, i, V => if nodeB n = true then match scanK e n i (kids n) 0 V with
      | some V' => scan e r (i + 1) V'
      | none => none
    else none
def mayB (e : List Nd) : Bool := decide (e ≠ []) && (decide (e.length ≤ 5000) && (decide (opAt e (e.length - 1) ≠ 28) && (match scan e e 0 [] with
  | none => false
  | some V => (List.range (e.length - 1)).all (fun j => decide (j ∈ V)) && decide (depth e ≤ 40))))

def usedL (N : Nat) (V : List Nat) : List Bool := (List.range N).map fun j => decide (j ∈ V)
theorem usedL_len (N : Nat) (V : List Nat) : (usedL N V).length = N := by simp [usedL]
theorem usedL_get {N : Nat} {V : List Nat} {k : Nat} (h : k < N) : nth (usedL N V) k = some (decide (k ∈ V)) := by
  rw [nth_getElem?, usedL, List.getElem?_map, List.getElem?_range h]; rfl
theorem usedL_set {N : Nat} {V : List Nat} {k : Nat} (h : k < N) : setNth (usedL N V) k true = usedL N (V ++ [k]) := by
  rw [setNth_set]
  apply List.ext_getElem?
  intro j
  rw [List.getElem?_set]
  by_cases hj : j < N
  · simp only [usedL, List.getElem?_map, List.getElem?_range hj, List.length_map, List.length_range]
    by_cases e : k = j
    · subst e; simp [h]
    · simp [e, Ne.symm e]
  · have hne : k ≠ j := by omega
    rw [if_neg hne, List.getElem?_eq_none (by rw [usedL_len]; omega), List.getElem?_eq_none (by rw [usedL_len]; omega)]

theorem opAt_nth {e : List Nd} {k : Nat} (h : k < e.length) : ∃ x, nth e k = some x ∧ x.1 = opAt e k := by
  refine ⟨e[k], nth_t h, ?_⟩
  rw [opAt, List.getD_eq_getElem?_getD, List.getElem?_eq_getElem h]; rfl

theorem May_loop2 (e : List Nd) (n : Nd) (i : Nat) (hi : i < e.length) (hN : e.length ≤ 1000000) : ∀ (suf pre : List Int) (V : List Nat), pre.length + suf.length ≤ 1000 →
    match scanK e n i suf pre.length V with
    | some V' => k45 T.rb (usedL e.length V) n (pre ++ suf) e (i : Nat) ((pre ++ suf).length : Nat) (pre.length : Nat) = some (.inr (usedL e.length V', n, pre ++ suf))
    | none => ∃ u, k45 T.rb (usedL e.length V) n (pre ++ suf) e (i : Nat) ((pre ++ suf).length : Nat) (pre.length : Nat) = some (.inl (u, n, pre ++ suf, false))
  | [], pre, V, h => ob45 (by
    simp only [b45, lt_end, lt_self, List.append_nil, cond_false])
  | k :: suf, pre, V, h => by
    simp only [List.length_cons] at h
    have ih := May_loop2 e n i hi hN suf (pre ++ [k]) (V ++ [k.toNat]) (by simp; omega)
    have hpl : (pre ++ [k]).length = pre.length + 1 := by simp
    simp only [List.append_assoc, List.singleton_append] at ih
    rw [hpl] at ih
    have fall : ∀ {u}, b45 T.rf T.rb (usedL e.length V) n (pre ++ k :: suf) e (i : Nat) ((pre ++ k :: suf).length : Nat) (pre.length : Nat) = some (.inl (u, n, pre ++ k :: suf, false)) →
        ∃ u, k45 T.rb (usedL e.length V) n (pre ++ k :: suf) e (i : Nat) ((pre ++ k :: suf).length : Nat) (pre.length : Nat) = some (.inl (u, n, pre ++ k :: suf, false)) := fun h => ⟨_, ob45 h⟩
    rw [scanK]
    by_cases h1 : 0 ≤ k
    case neg =>
      rw [if_neg (by omega)]
      refine fall (u := usedL e.length V) ?_
      simp only [b45, lt_mid, inb_mid, nth_mid, cond_true, Option.bind_some, dt (show k < 0 by omega)]
    by_cases h2 : k < i
    case neg =>
      rw [if_neg (by omega)]
      refine fall (u := usedL e.length V) ?_
      simp only [b45, lt_mid, inb_mid, nth_mid, cond_true, Option.bind_some, df (show ¬ k < 0 by omega), cond_false, dt (show k ≥ i by omega)]
    have hk : k.toNat < e.length := by omega
    have hin : inb k (usedL e.length V).length = true := inb_t h1 (by rw [usedL_len]; omega)
    by_cases h3 : k.toNat ∈ V
    · rw [if_neg (by intro hh; exact hh.2.2.1 h3)]
      refine fall (u := usedL e.length V) ?_
      simp only [b45, lt_mid, inb_mid, nth_mid, cond_true, Option.bind_some, df (show ¬ k < 0 by omega), cond_false, df (show ¬ k ≥ i by omega), hin, usedL_get hk, dt h3]
    have hine : inb k e.length = true := inb_t h1 (by omega)
    obtain ⟨x, hx, hxo⟩ := opAt_nth hk
    have hbl : Nat.blt k.toNat (usedL e.length V).length = true := blt_t (by rw [usedL_len]; exact hk)
    have hnext : IntKind.i64.wrap (((pre.length : Nat) : Int) + 1) = ((pre.length + 1 : Nat) : Int) := wr_succ (by omega)
    have hbody : b45 T.rf T.rb (usedL e.length V) n (pre ++ k :: suf) e (i : Nat) ((pre ++ k :: suf).length : Nat) (pre.length : Nat) =
        if argB e n pre.length k = true then k45 T.rb (usedL e.length (V ++ [k.toNat])) n (pre ++ k :: suf) e (i : Nat) ((pre ++ k :: suf).length : Nat) ((pre.length + 1 : Nat) : Int)
        else some (.inl (usedL e.length (V ++ [k.toNat]), n, pre ++ k :: suf, false)) := by
      simp only [b45, lt_mid, inb_mid, nth_mid, cond_true, Option.bind_some, df (show ¬ k < 0 by omega), cond_false, df (show ¬ k ≥ i by omega), hin, usedL_get hk, df h3, hbl, hine, hx, usedL_set hk, hnext, argB, ← hxo]
      have hp0 : (((pre.length : Nat) : Int) == 0) = decide (pre.length = 0) := by
        by_cases e : pre.length = 0
        · rw [dt e, bt (by omega)]
        · rw [df e, bf (by omega)]
      have hx28 : (x.1 == 28) = decide (x.1 = 28) := by
        by_cases e : x.1 = 28
        · rw [dt e, bt e]
        · rw [df e, bf e]
      rw [hp0, hx28]
      by_cases e27 : n.1 = 27
      · simp only [bt e27, cond_true, dt e27, Bool.true_or]
        cases decide (x.1 = 28) <;> simp
      · by_cases e28 : n.1 = 28
        · by_cases eb : n.2.2.1 = -1
          · simp only [bf e27, bt e28, cond_true, cond_false, nbt eb, dt e28, df e27, df (show ¬ (n.2.2.1 ≠ -1) from fun h => h eb), Bool.false_or, Bool.true_and, Bool.false_and]
            cases decide (x.1 = 28) <;> simp
          · simp only [bf e27, bt e28, cond_true, cond_false, nbf eb, dt e28, df e27, dt (show n.2.2.1 ≠ -1 from eb), Bool.false_or, Bool.true_and]
            cases decide (x.1 = 28) <;> cases decide (pre.length = 0) <;> simp
        · simp only [bf e27, bf e28, cond_false, df e28, df e27, Bool.false_or, Bool.false_and]
          cases decide (x.1 = 28) <;> simp
    by_cases h4 : argB e n pre.length k = true
    · rw [if_pos ⟨h1, h2, h3, h4⟩]
      rw [if_pos h4] at hbody
      cases hs : scanK e n i suf (pre.length + 1) (V ++ [k.toNat]) with
      | none =>
        rw [hs] at ih
        obtain ⟨u, ih⟩ := ih
        exact ⟨u, ob45 (hbody.trans ih)⟩
      | some V' =>
        rw [hs] at ih
        dsimp only at ih ⊢
        exact ob45 (hbody.trans ih)
    · rw [if_neg (by intro hh; exact h4 hh.2.2.2)]
      rw [if_neg h4] at hbody
      exact fall hbody

theorem May_loop0 (e : List Nd) (hN : e.length ≤ 1000000) : ∀ (suf pre : List Nd) (V : List Nat), e = pre ++ suf →
    match scan e suf pre.length V with
    | some V' => k42 T.rb (usedL e.length V) e e (e.length : Nat) (pre.length : Nat) = some (.inr (usedL e.length V'))
    | none => ∃ u, k42 T.rb (usedL e.length V) e e (e.length : Nat) (pre.length : Nat) = some (.inl (u, false))
  | [], pre, V, h => ob42 (by
    subst h
    simp only [b42, lt_end, lt_self, List.append_nil, cond_false])
  | n :: suf, pre, V, h => by
    have ih := fun V' => May_loop0 e hN suf (pre ++ [n]) V' (by rw [h]; simp)
    have hlt : pre.length < e.length := by rw [h]; simp
    have hl2 := May_loop2 e n pre.length hlt hN (kids n) [] V (by have := kids_len n; simp; omega)
    simp only [List.nil_append, List.length_nil] at hl2
    have a1 : decide (((pre.length : Nat) : Int) < ((e.length : Nat) : Int)) = true := dt (by omega)
    have a2 : inb ((pre.length : Nat) : Int) e.length = true := inb_t (by omega) (by omega)
    have a3 : nth e ((pre.length : Nat) : Int).toNat = some n := by rw [h]; exact nth_mid pre n suf
    have a4 : IntKind.i64.wrap (((pre.length : Nat) : Int) + 1) = ((pre ++ [n]).length : Nat) := next_mid pre n (by omega)
    rw [scan]
    cases hn : nodeB n with
    | false =>
      rw [if_neg (by decide)]
      exact ⟨_, ob42 (by
        simp only [b42, a1, a2, a3, cond_true, Option.bind_some, isNode_eq, hn, Bool.not_false]
        rfl)⟩
    | true =>
      rw [if_pos rfl]
      have hbody : b42 T.rf T.rb (usedL e.length V) e e (e.length : Nat) (pre.length : Nat) = (k45 T.rb (usedL e.length V) n (kids n) e (pre.length : Nat) ((kids n).length : Nat) ((0 : Nat) : Int)).bind fun z => match z with
          | .inl u => some (.inl (u.1, u.2.2.2))
          | .inr w => k42 T.rb w.1 e e (e.length : Nat) ((pre ++ [n]).length : Nat) := by
        simp only [b42, a1, a2, a3, cond_true, cond_false, Option.bind_some, isNode_eq, hn, Bool.not_true, kids_eq, a4]
        rfl
      cases hs : scanK e n pre.length (kids n) 0 V with
      | none =>
        rw [hs] at hl2
        obtain ⟨u, hl2⟩ := hl2
        exact ⟨u, ob42 (by rw [hbody, hl2]; rfl)⟩
      | some V' =>
        rw [hs] at hl2
        have ih := ih V'
        rw [List.length_append, List.length_singleton] at ih
        dsimp only at hl2 ⊢
        cases hs2 : scan e suf (pre.length + 1) V' with
        | none =>
          rw [hs2] at ih
          obtain ⟨u, ih⟩ := ih
          exact ⟨u, ob42 (by rw [hbody, hl2, Option.bind_some, List.length_append, List.length_singleton]; exact ih)⟩
        | some V2 =>
          rw [hs2] at ih
          exact ob42 (by rw [hbody, hl2, Option.bind_some, List.length_append, List.length_singleton]; exact ih)

theorem IndexB_loop (b : Bool) : ∀ (suf pre : List Bool), pre.length + suf.length ≤ 1000000 →
    ∃ z, k46 T.rb (pre ++ suf) b ((pre ++ suf).length : Nat) (pre.length : Nat) = some z ∧ (match z with
      | .inl j => 0 ≤ j ∧ b ∈ suf
      | .inr _ => b ∉ suf)
  | [], pre, h => ⟨.inr (), ob46 (by simp only [b46, lt_end, lt_self, List.append_nil, cond_false]), by simp⟩
  | x :: suf, pre, h => by
    simp only [List.length_cons] at h
    obtain ⟨z, ih, hz⟩ := IndexB_loop b suf (pre ++ [x]) (by simp; omega)
    simp only [List.append_assoc, List.singleton_append] at ih
    by_cases hx : b = x
    · refine ⟨.inl (pre.length : Nat), ob46 ?_, by omega, by simp [hx]⟩
      simp only [b46, lt_mid, inb_mid, nth_mid, cond_true, Option.bind_some, beq_iff_eq.2 hx]
    · refine ⟨z, ob46 ?_, ?_⟩
      · simp only [b46, lt_mid, inb_mid, nth_mid, cond_true, cond_false, Option.bind_some, beq_eq_false_iff_ne.2 hx, next_mid pre x (by omega)]
        exact ih
      · cases z with
        | inl j => exact ⟨hz.1, List.mem_cons_of_mem _ hz.2⟩
        | inr j => simp only [List.mem_cons, not_or]; exact ⟨hx, hz⟩

theorem ContainsB_eq {l : List Bool} (b : Bool) (h : l.length ≤ 1000000) : c51 T.rf l b = some (decide (b ∈ l)) := or51 (by
  obtain ⟨z, hz, hp⟩ := IndexB_loop b l [] (by simpa using h)
  simp only [List.nil_append, List.length_nil] at hz
  have hI : ∀ z, k46 T.rb l b (l.length : Nat) 0 = some z → c52 T.rf l b = some (match z with
      | .inl j => j
      | .inr _ => -1) := fun z hz => or52 (by
    simp only [r52, hz]
    cases z <;> rfl)
  simp only [r51, hI z hz, Option.bind_some]
  cases z with
  | inl j => rw [dt (show (j : Int) ≥ 0 from hp.1), dt hp.2]
  | inr j => rw [df (show ¬ ((-1 : Int) ≥ 0) by decide), df hp])

theorem May_eq {e : List Nd} (h : e.length ≤ 1000000) : c47 T.rf e = some (mayB e) := or47 (by
  simp only [r47, mayB]
  by_cases he : e = []
  · subst he; rfl
  have hpos := List.length_pos_iff.2 he
  rw [len_ne he, cond_false, dt he, Bool.true_and]
  by_cases hl : e.length ≤ 5000
  case neg => rw [dt (show ((e.length : Nat) : Int) > 5000 by omega), cond_true, df hl, Bool.false_and]
  rw [df (show ¬ ((e.length : Nat) : Int) > 5000 by omega), cond_false, dt hl, Bool.true_and]
  obtain ⟨x, hx, hxo⟩ := opAt_nth (e := e) (k := e.length - 1) (by omega)
  rw [last_i he (by omega), inb_nat, dt (show e.length - 1 < e.length by omega), cond_true, Int.toNat_natCast, hx, Option.bind_some]
  by_cases h28 : x.1 = 28
  · rw [bt h28, cond_true, df (show ¬ (opAt e (e.length - 1) ≠ 28) from fun g => g (hxo ▸ h28)), Bool.false_and]
  rw [bf h28, cond_false, dt (show opAt e (e.length - 1) ≠ 28 from hxo ▸ h28), Bool.true_and, inb'_nat, dt (show e.length ≤ most by unfold most; omega), cond_true, inb'_nat, dt (Nat.le_refl _), cond_true]
  have h0 := May_loop0 e (by omega) e [] [] rfl
  have hu : usedL e.length [] = List.replicate e.length false := by
    apply List.ext_getElem?
    intro j
    simp only [usedL, List.getElem?_map, List.getElem?_replicate]
    by_cases hj : j < e.length
    · rw [List.getElem?_range hj, if_pos hj]; simp
    · rw [List.getElem?_eq_none (by simp; omega), if_neg hj]; rfl
  rw [hu] at h0
  simp only [List.length_nil] at h0
  rw [show ((0 : Nat) : Int) = (0 : Int) from rfl] at h0
  cases hs : scan e e 0 [] with
  | none =>
    rw [hs] at h0
    obtain ⟨u, h0⟩ := h0
    rw [h0]; rfl
  | some V =>
    rw [hs] at h0
    rw [h0]
    simp only [Option.bind_some, usedL_len, inb'_nat, dt (show e.length - 1 ≤ e.length by omega), cond_true, sub_zero, Nat.sub_zero]
    have hlen : ((usedL e.length V).take (e.length - 1)).length ≤ 1000000 := by simp [usedL_len]; omega
    rw [ContainsB_eq false hlen, Option.bind_some]
    have hall : decide (false ∈ (usedL e.length V).take (e.length - 1)) = !((List.range (e.length - 1)).all fun j => decide (j ∈ V)) := by
      have key : false ∈ (usedL e.length V).take (e.length - 1) ↔ ∃ j, j < e.length - 1 ∧ j ∉ V := by
        rw [List.mem_iff_getElem?]
        constructor
        · rintro ⟨j, hj⟩
          rw [List.getElem?_take] at hj
          split at hj
          · rename_i hlt
            rw [usedL, List.getElem?_map, List.getElem?_range (by omega)] at hj
            exact ⟨j, hlt, by simpa using hj⟩
          · cases hj
        · rintro ⟨j, hlt, hj⟩
          refine ⟨j, ?_⟩
          rw [List.getElem?_take, if_pos hlt, usedL, List.getElem?_map, List.getElem?_range (by omega)]
          simpa using hj
      cases hc : (List.range (e.length - 1)).all fun j => decide (j ∈ V)
      · refine dt (key.2 ?_)
        rw [List.all_eq_false] at hc
        obtain ⟨j, h1, h2⟩ := hc
        exact ⟨j, List.mem_range.1 h1, by simpa using h2⟩
      · refine df (fun hh => ?_)
        obtain ⟨j, h1, h2⟩ := key.1 hh
        rw [List.all_eq_true] at hc
        exact h2 (by simpa using hc j (List.mem_range.2 h1))
    rw [hall, Bool.not_not]
    cases (List.range (e.length - 1)).all fun j => decide (j ∈ V)
    · rfl
    · rw [cond_true, Depth_eq (by omega), Option.bind_some, Bool.true_and])

end Go.Proofs.YtifoobdekbjmdaaGreat.R
