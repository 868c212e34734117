import Derived.Test.YtifoobdekbjmdaaGreatTreeV
import Derived.Test.YtifoobdekbjmdaaGreatResRun
import Derived.Test.YtifoobdekbjmdaaGreatBmPl
import Derived.Test.YtifoobdekbjmdaaGreatBmTree
/-
  OUR OWN: what an expression needs at the same instant: the walk, and what it comes to on trees.
-/
namespace Go.Proofs.YtifoobdekbjmdaaGreat.R
open Go Go.Bm Go.Proofs
set_option linter.unusedVariables false
set_option linter.unusedSimpArgs false
set_option maxRecDepth 4000

theorem IndexS_loop (x : List UInt8) : ∀ (suf pre : List (List UInt8)), pre.length + suf.length ≤ 1000000 →
    ∃ z, k57 T.rb (pre ++ suf) x ((pre ++ suf).length : Nat) (pre.length : Nat) = some z ∧ (match z with
      | .inl j => j.1 = pre ++ suf ∧ 0 ≤ j.2 ∧ x ∈ suf
      | .inr j => j = pre ++ suf ∧ x ∉ suf)
  | [], pre, h => ⟨.inr (pre ++ []), ob57 (by simp only [b57, lt_end, lt_self, List.append_nil, cond_false]), by simp⟩
  | y :: suf, pre, h => by
    simp only [List.length_cons] at h
    obtain ⟨z, ih, hz⟩ := IndexS_loop x suf (pre ++ [y]) (by simp; omega)
    simp only [List.append_assoc, List.singleton_append] at ih hz
    by_cases hx : x = y
    · refine ⟨.inl (pre ++ y :: suf, (pre.length : Nat)), ob57 ?_, rfl, by simp, by simp [hx]⟩
      simp only [b57, lt_mid, inb_mid, nth_mid, cond_true, Option.bind_some, beq_iff_eq.2 hx]
    · refine ⟨z, ob57 ?_, ?_⟩
      · simp only [b57, lt_mid, inb_mid, nth_mid, cond_true, cond_false, Option.bind_some, beq_eq_false_iff_ne.2 hx, next_mid pre y (by omega)]
        exact ih
      · cases z with
        | inl j => exact ⟨hz.1, hz.2.1, List.mem_cons_of_mem _ hz.2.2⟩
        | inr j => simp only [List.mem_cons, not_or]; exact ⟨hz.1, hx, hz.2⟩

theorem ContainsS_eq {l : List (List UInt8)} (x : List UInt8) (h : l.length ≤ 1000000) : c57 T.rf l x = some (l, decide (x ∈ l)) := or57 (by
  obtain ⟨z, hz, hp⟩ := IndexS_loop x l [] (by simpa using h)
  simp only [List.nil_append, List.length_nil] at hz hp
  have hI : ∀ z, k57 T.rb l x (l.length : Nat) 0 = some z → c58 T.rf l x = some (match z with
      | .inl j => j
      | .inr j => (j, -1)) := fun z hz => or58 (by
    simp only [r58, hz]
    cases z <;> rfl)
  simp only [r57, hI z hz, Option.bind_some]
  cases z with
  | inl j => rw [dt (show (j.2 : Int) ≥ 0 from hp.2.1), dt hp.2.2, hp.1]
  | inr j => rw [df (show ¬ ((-1 : Int) ≥ 0) by decide), df hp.2, hp.1])

/-- A name behind the others, once. -/
def addV (l : List (List UInt8)) (x : List UInt8) : List (List UInt8) := if x ∈ l then l else l ++ [x]
mutual
/-- The names that a tree needs now, behind those that are there. -/
def nowT : Tr → List (List UInt8) → List (List UInt8)
  | .mk b ks, l => if b.1 = 21 ∨ b.1 = 24 then l else if b.1 = 3 then addV l b.2.2.2.2.2 else nowTs ks l
def nowTs : List Tr → List (List UInt8) → List (List UInt8)
  | [], l => l
  | t :: r, l => nowTs r (nowT t l)
end
theorem addV_len (l : List (List UInt8)) (x : List UInt8) : l.length ≤ (addV l x).length ∧ (addV l x).length ≤ l.length + 1 := by
  unfold addV; split <;> simp
mutual
theorem nowT_len : ∀ (t : Tr) (l : List (List UInt8)), l.length ≤ (nowT t l).length ∧ (nowT t l).length ≤ l.length + t.size
  | .mk b ks, l => by
    have h1 := addV_len l b.2.2.2.2.2
    have h2 := nowTs_len ks l
    rw [nowT, Tr.size]
    split
    · omega
    · split <;> omega
theorem nowTs_len : ∀ (ts : List Tr) (l : List (List UInt8)), l.length ≤ (nowTs ts l).length ∧ (nowTs ts l).length ≤ l.length + sizes ts
  | [], l => by simp [nowTs, sizes]
  | t :: r, l => by
    have h1 := nowT_len t l
    have h2 := nowTs_len r (nowT t l)
    rw [nowTs, sizes]; omega
end
theorem addV_nodup {l : List (List UInt8)} (x : List UInt8) (h : l.Nodup) : (addV l x).Nodup := by
  unfold addV; split
  · exact h
  · rename_i hx
    rw [List.nodup_append]
    exact ⟨h, by simp, fun a ha b hb => by simp only [List.mem_singleton] at hb; subst hb; exact fun e => hx (e ▸ ha)⟩
mutual
theorem nowT_nodup : ∀ (t : Tr) (l : List (List UInt8)), l.Nodup → (nowT t l).Nodup
  | .mk b ks, l, h => by
    have h2 := nowTs_nodup ks l h
    rw [nowT]
    split
    · exact h
    · split
      · exact addV_nodup _ h
      · exact h2
theorem nowTs_nodup : ∀ (ts : List Tr) (l : List (List UInt8)), l.Nodup → (nowTs ts l).Nodup
  | [], l, h => by rw [nowTs]; exact h
  | t :: r, l, h => by rw [nowTs]; exact nowTs_nodup r _ (nowT_nodup t l h)
end

def outW : (List Nd × List (List UInt8)) ⊕ (List Nd × List (List UInt8)) → List Nd × List (List UInt8)
  | .inl u => u
  | .inr w => w

mutual
theorem walk_eq {e : List Nd} (he : e.length ≤ 1000000) : ∀ (t : Tr) (i : Nat) (l : List (List UInt8)), Emb e i t → l.length + t.size ≤ 1000000 →
    ∃ z, c56 T.rf e l (i : Nat) = some z ∧ outW z = (e, nowT t l)
  | .mk b ks, i, l, h, hb => by
    have hi := emb_lt h
    obtain ⟨n, hn, hbn, hna, hks⟩ := h
    have hw := walks_eq he ks i (kids n) [] l hks (by simpa using kids_len n) (by rw [Tr.size] at hb; omega)
    simp only [List.nil_append, List.length_nil] at hw
    rw [show ((0 : Nat) : Int) = (0 : Int) from rfl] at hw
    rw [nowT, show b.1 = n.1 from by rw [hbn]; rfl, show b.2.2.2.2.2 = n.2.2.2.2.2 from by rw [hbn]; rfl]
    rw [Tr.size] at hb
    by_cases h21 : n.1 = 21
    · refine ⟨.inl (e, l), or56 ?_, by rw [if_pos (Or.inl h21)]; rfl⟩
      simp only [r56, inb_nat, dt hi, cond_true, Int.toNat_natCast, hn, Option.bind_some, bt h21]
    by_cases h24 : n.1 = 24
    · refine ⟨.inl (e, l), or56 ?_, by rw [if_pos (Or.inr h24)]; rfl⟩
      simp only [r56, inb_nat, dt hi, cond_true, Int.toNat_natCast, hn, Option.bind_some, bf h21, bt h24, cond_false]
    rw [if_neg (fun h => h.elim h21 h24)]
    by_cases h3 : n.1 = 3
    · rw [if_pos h3, addV]
      have hc := ContainsS_eq (l := l) n.2.2.2.2.2 (by omega)
      by_cases hm : n.2.2.2.2.2 ∈ l
      · refine ⟨.inl (e, l), or56 ?_, by rw [if_pos hm]; rfl⟩
        simp only [r56, inb_nat, dt hi, cond_true, Int.toNat_natCast, hn, Option.bind_some, bf h21, bf h24, cond_false, bt h3, hc, dt hm, Bool.not_true]
      · refine ⟨.inr (e, l ++ [n.2.2.2.2.2]), or56 ?_, by rw [if_neg hm]; rfl⟩
        simp only [r56, inb_nat, dt hi, cond_true, Int.toNat_natCast, hn, Option.bind_some, bf h21, bf h24, cond_false, bt h3, hc, df hm, Bool.not_false, ble_most (show l.length + 1 ≤ 274877906944 by omega), Bool.and_true]
    · rw [if_neg h3]
      refine ⟨.inr (e, nowTs ks l), or56 ?_, rfl⟩
      simp only [r56, inb_nat, dt hi, cond_true, Int.toNat_natCast, hn, Option.bind_some, bf h21, bf h24, cond_false, bf h3, kids_eq, hw]
theorem walks_eq {e : List Nd} (he : e.length ≤ 1000000) : ∀ (ts : List Tr) (i : Nat) (suf pre : List Int) (l : List (List UInt8)), Embs e i suf ts → pre.length + suf.length ≤ 3 → l.length + sizes ts ≤ 1000000 →
    k59 T.rb (pre ++ suf) e l ((pre ++ suf).length : Nat) (pre.length : Nat) = some (pre ++ suf, e, nowTs ts l)
  | [], i, [], pre, l, h, h2, h3 => ob59 (by simp only [b59, lt_end, lt_self, List.append_nil, cond_false, nowTs])
  | t :: ts, i, k :: suf, pre, l, h, h2, h3 => ob59 (by
    obtain ⟨hk0, hki, ht, hts⟩ := h
    rw [sizes] at h3
    simp only [List.length_cons] at h2
    have hl := nowT_len t l
    obtain ⟨z, hz, ho⟩ := walk_eq he t k.toNat l ht (by omega)
    rw [Int.toNat_of_nonneg hk0] at hz
    have ih := walks_eq he ts i suf (pre ++ [k]) (nowT t l) hts (by simp; omega) (by omega)
    simp only [List.append_assoc, List.singleton_append] at ih
    simp only [b59, lt_mid, inb_mid, nth_mid, cond_true, Option.bind_some, hz, next_mid pre k (by omega)]
    rw [nowTs]
    cases z with
    | inl u => simp only [outW] at ho; subst ho; exact ih
    | inr u => simp only [outW] at ho; subst ho; exact ih)
  | [], i, _ :: _, _, _, h, _, _ => h.elim
  | _ :: _, i, [], _, _, h, _, _ => h.elim
end

open Classical in
/-- What an expression needs now. -/
noncomputable def needs (e : List Nd) : List (List UInt8) := if h : mayB e = true then nowT (may_tree h).choose [] else []
theorem needs_of {e : List Nd} {t : Tr} (h : mayB e = true) (ht : Emb e (e.length - 1) t) : needs e = nowT t [] := by
  rw [needs, dif_pos h, emb_one _ _ _ (may_tree h).choose_spec.1 ht]
theorem needs_not {e : List Nd} (h : ¬ mayB e = true) : needs e = [] := by rw [needs, dif_neg h]
theorem norm_not {e : List Nd} (h : ¬ mayB e = true) : norm e = [] := by rw [norm, subE, if_neg (fun x => h x.2.2)]
theorem needs_len (e : List Nd) : (needs e).length ≤ 5001 := by
  by_cases h : mayB e = true
  · obtain ⟨t, ht, _, _, _, _, _, hs⟩ := may_tree h
    have := nowT_len t []
    rw [needs_of h ht]; simp only [List.length_nil] at this; omega
  · rw [needs_not h]; simp
theorem needs_nodup (e : List Nd) : (needs e).Nodup := by
  by_cases h : mayB e = true
  · obtain ⟨t, ht, _⟩ := may_tree h
    rw [needs_of h ht]; exact nowT_nodup t [] List.nodup_nil
  · rw [needs_not h]; exact List.nodup_nil

theorem Needs_eq {e : List Nd} (h : e.length ≤ 1000000) : c45 T.rf e = some (needs e) := or45 (by
  simp only [r45, pred_i h, Sub_eq h, Option.bind_some]
  rw [show subE e ((e.length : Int) - 1) = norm e from rfl]
  by_cases hm : mayB e = true
  · obtain ⟨t, ht, hv, hs, _, _, _, hs5⟩ := may_tree hm
    have hE := norm_tree hm ht
    have hp := emb_lt hE
    have hnl := norm_len (e := e)
    obtain ⟨z, hz, ho⟩ := walk_eq (show (norm e).length ≤ 1000000 by omega) t _ [] hE (by simp; omega)
    rw [needs_of hm ht, dt (show (((norm e).length : Nat) : Int) > 0 by omega), cond_true, last_i (fun x => by rw [x] at hp; simp at hp) (by omega), hz, Option.bind_some]
    cases z with
    | inl u => simp only [outW] at ho; subst ho; rfl
    | inr u => simp only [outW] at ho; subst ho; rfl
  · rw [needs_not hm, norm_not hm]; rfl)

end Go.Proofs.YtifoobdekbjmdaaGreat.R

/-
  OUR OWN: numbers in a heap, the least one first.
-/
namespace Go.Proofs.YtifoobdekbjmdaaGreat.R
open Go Go.Bm Go.Proofs
set_option linter.unusedVariables false
set_option linter.unusedSimpArgs false
set_option maxRecDepth 4000

def at0 (l : List Int) (i : Nat) : Int := l.getD i 0
theorem nth_at {l : List Int} {i : Nat} (h : i < l.length) : nth l i = some (at0 l i) := by
  rw [nth_t h, at0, List.getD_eq_getElem?_getD, List.getElem?_eq_getElem h]; rfl
theorem at_get {l : List Int} {i : Nat} (h : i < l.length) : at0 l i = l[i] := by
  rw [at0, List.getD_eq_getElem?_getD, List.getElem?_eq_getElem h]; rfl
theorem at_set {l : List Int} {i j : Nat} (y : Int) (h : i < l.length) : at0 (l.set i y) j = if j = i then y else at0 l j := by
  simp only [at0, List.getD_eq_getElem?_getD, List.getElem?_set]
  by_cases e : i = j
  · subst e; rw [if_pos rfl, if_pos h, if_pos rfl]; rfl
  · rw [if_neg e, if_neg (fun x => e x.symm)]
theorem at_app {l : List Int} {x : Int} {i : Nat} : at0 (l ++ [x]) i = if i < l.length then at0 l i else if i = l.length then x else 0 := by
  simp only [at0, List.getD_eq_getElem?_getD]
  by_cases h : i < l.length
  · rw [if_pos h, List.getElem?_append_left h]
  · rw [if_neg h, List.getElem?_append_right (by omega)]
    by_cases e : i = l.length
    · subst e; simp
    · rw [if_neg e]
      rw [List.getElem?_eq_none (by simp; omega)]; rfl
theorem at_take {l : List Int} {n i : Nat} (h : i < n) : at0 (l.take n) i = at0 l i := by
  simp only [at0, List.getD_eq_getElem?_getD, List.getElem?_take, if_pos h]

/-- Two numbers in each other's places. -/
def swp (l : List Int) (i j : Nat) : List Int := (l.set i (at0 l j)).set j (at0 l i)
theorem swp_len (l : List Int) (i j : Nat) : (swp l i j).length = l.length := by simp [swp]
theorem at_swp {l : List Int} {i j k : Nat} (hi : i < l.length) (hj : j < l.length) : at0 (swp l i j) k = if k = j then at0 l i else if k = i then at0 l j else at0 l k := by
  rw [swp, at_set _ (by simpa using hj), at_set _ hi]
theorem swp_perm {l : List Int} {i j : Nat} (hi : i < l.length) (hj : j < l.length) : (swp l i j).Perm l := by
  rw [swp, at_get hi, at_get hj]; exact List.set_set_perm hi hj

def HeapN (l : List Int) (n : Nat) : Prop := ∀ i, 0 < i → i < n → at0 l ((i - 1) / 2) ≤ at0 l i
def HeapP (l : List Int) : Prop := HeapN l l.length
def UpH (l : List Int) (j : Nat) : Prop :=
  (∀ i, 0 < i → i < l.length → i ≠ j → at0 l ((i - 1) / 2) ≤ at0 l i) ∧ (∀ i, 0 < i → i < l.length → (i - 1) / 2 = j → 0 < j → at0 l ((j - 1) / 2) ≤ at0 l i)
def DownH (l : List Int) (n i : Nat) : Prop :=
  (∀ j, 0 < j → j < n → (j - 1) / 2 ≠ i → at0 l ((j - 1) / 2) ≤ at0 l j) ∧ (∀ j, 0 < j → j < n → (j - 1) / 2 = i → 0 < i → at0 l ((i - 1) / 2) ≤ at0 l j)

theorem heap_least {l : List Int} {n : Nat} (h : HeapN l n) : ∀ (m i : Nat), i ≤ m → i < n → at0 l 0 ≤ at0 l i
  | m, 0, _, _ => Int.le_refl _
  | 0, i + 1, h1, _ => by omega
  | m + 1, i + 1, h1, h2 => by
    have := h (i + 1) (by omega) h2
    have h3 := heap_least h m ((i + 1 - 1) / 2) (by omega) (by omega)
    omega

theorem up_step {l : List Int} {j : Nat} (hj : 0 < j) (hjl : j < l.length) (h : UpH l j) (hlt : at0 l j < at0 l ((j - 1) / 2)) : UpH (swp l ((j - 1) / 2) j) ((j - 1) / 2) := by
  have hp : (j - 1) / 2 < l.length := by omega
  refine ⟨fun i h0 hi hne => ?_, fun i h0 hi he h1 => ?_⟩
  · rw [swp_len] at hi
    have a := h.1 i h0 hi
    have b := h.2 i h0 hi
    rw [at_swp hp hjl, at_swp hp hjl]
    by_cases e1 : i = j
    · subst e1
      rw [if_neg (show ¬ ((i - 1) / 2 = i) by omega), if_pos rfl, if_pos rfl]; omega
    · have a := a e1
      rw [if_neg e1, if_neg hne]
      by_cases e2 : (i - 1) / 2 = j
      · rw [if_pos e2]; exact b e2 hj
      · rw [if_neg e2]
        by_cases e3 : (i - 1) / 2 = (j - 1) / 2
        · rw [if_pos e3]; rw [e3] at a; omega
        · rw [if_neg e3]; exact a
  · rw [swp_len] at hi
    have hpp := h.1 ((j - 1) / 2) h1 hp (by omega)
    rw [at_swp hp hjl, at_swp hp hjl, if_neg (show ¬ (((j - 1) / 2 - 1) / 2 = j) by omega), if_neg (show ¬ (((j - 1) / 2 - 1) / 2 = (j - 1) / 2) by omega)]
    by_cases e1 : i = j
    · rw [if_pos e1]; exact hpp
    · have a := h.1 i h0 hi e1
      rw [if_neg e1, if_neg (show ¬ (i = (j - 1) / 2) by omega)]
      rw [he] at a; omega

theorem down_step {l : List Int} {n i j : Nat} (hn : n ≤ l.length) (hj : j < n) (hji : 0 < j ∧ (j - 1) / 2 = i) (h : DownH l n i) (hlt : at0 l j < at0 l i) (hmin : ∀ k, 0 < k → k < n → (k - 1) / 2 = i → at0 l j ≤ at0 l k) : DownH (swp l i j) n j := by
  have hi : i < l.length := by omega
  have hjl : j < l.length := by omega
  refine ⟨fun k h0 hk hne => ?_, fun k h0 hk he h1 => ?_⟩
  · have a := h.1 k h0 hk
    have b := h.2 k h0 hk
    rw [at_swp hi hjl, at_swp hi hjl, if_neg hne]
    by_cases e1 : (k - 1) / 2 = i
    · rw [if_pos e1]
      by_cases e2 : k = j
      · rw [if_pos e2]; omega
      · rw [if_neg e2, if_neg (show ¬ (k = i) by omega)]; exact hmin k h0 hk e1
    · have a := a e1
      rw [if_neg e1]
      by_cases e2 : k = j
      · omega
      · rw [if_neg e2]
        by_cases e3 : k = i
        · subst e3
          rw [if_pos rfl]
          exact h.2 j hji.1 hj hji.2 h0
        · rw [if_neg e3]; exact a
  · have a := h.1 k h0 hk (by omega)
    rw [at_swp hi hjl, at_swp hi hjl, hji.2, if_neg (show ¬ (i = j) by omega), if_pos rfl, if_neg (show ¬ (k = j) by omega), if_neg (show ¬ (k = i) by omega)]
    rw [he] at a; exact a

theorem Swap_eq {l : List Int} {i j : Nat} (hi : i < l.length) (hj : j < l.length) : c64 T.rf l (i : Nat) (j : Nat) = some (swp l i j) := or64 (by
  simp only [r64, inb_nat, dt hi, dt hj, cond_true, Int.toNat_natCast, nth_at hi, nth_at hj, Option.bind_some, blt_t hi, setNth_set, List.length_set, blt_t hj, swp])
theorem Less_eq {l : List Int} {i j : Nat} (hi : i < l.length) (hj : j < l.length) : c63 T.rf l (i : Nat) (j : Nat) = some (l, decide (at0 l i < at0 l j)) := or63 (by
  simp only [r63, inb_nat, dt hi, dt hj, cond_true, Int.toNat_natCast, nth_at hi, nth_at hj, Option.bind_some])
theorem Len_eq (l : List Int) : c61 T.rf l = some (l, ((l.length : Nat) : Int)) := or61 rfl

theorem half {j : Nat} (h : 0 < j) (h2 : j ≤ 1000000) : IntKind.i64.wrap (Int.tdiv (IntKind.i64.wrap ((j : Int) - 1)) 2) = (((j - 1) / 2 : Nat) : Int) := by
  rw [wr (x := (j : Int) - 1) (by omega), show (j : Int) - 1 = ((j - 1 : Nat) : Int) by omega, show Int.tdiv ((j - 1 : Nat) : Int) 2 = (((j - 1) / 2 : Nat) : Int) from by rw [Int.tdiv_eq_ediv_of_nonneg (by omega)]; omega]
  exact wr (by omega)

theorem up_loop : ∀ (m j : Nat) (l : List Int), j ≤ m → j < l.length → l.length ≤ 1000000 →
    ∃ l', k66 T.rb l (j : Nat) = some l' ∧ l'.Perm l ∧ (UpH l j → HeapP l')
  | m, 0, l, _, hj, hl => by
    refine ⟨l, ob66 ?_, List.Perm.refl _, fun h i h0 hi => h.1 i h0 hi (by omega)⟩
    simp only [b66]
    rw [show ((IntKind.i64.wrap (Int.tdiv (IntKind.i64.wrap (((0 : Nat) : Int) - 1)) 2)) == ((0 : Nat) : Int)) = true from by decide, cond_true]
  | 0, j + 1, l, h, _, _ => by omega
  | m + 1, j + 1, l, hm, hj, hl => by
    have hh := half (j := j + 1) (by omega) (by omega)
    have hp : (j + 1 - 1) / 2 < l.length := by omega
    by_cases hlt : at0 l (j + 1) < at0 l ((j + 1 - 1) / 2)
    · obtain ⟨l', h1, h2, h3⟩ := up_loop m ((j + 1 - 1) / 2) (swp l ((j + 1 - 1) / 2) (j + 1)) (by omega) (by rw [swp_len]; omega) (by rw [swp_len]; omega)
      refine ⟨l', ob66 ?_, h2.trans (swp_perm hp hj), fun h => h3 (up_step (by omega) hj h hlt)⟩
      simp only [b66, hh, bf (show (((j + 1 - 1) / 2 : Nat) : Int) ≠ ((j + 1 : Nat) : Int) by omega), cond_false, Less_eq hj hp, Option.bind_some, dt hlt, Bool.not_true, Swap_eq hp hj]
      exact h1
    · refine ⟨l, ob66 ?_, List.Perm.refl _, fun h i h0 hi => ?_⟩
      · simp only [b66, hh, bf (show (((j + 1 - 1) / 2 : Nat) : Int) ≠ ((j + 1 : Nat) : Int) by omega), cond_false, Less_eq hj hp, Option.bind_some, df hlt, Bool.not_false, cond_true]
      · by_cases e : i = j + 1
        · subst e; omega
        · exact h.1 i h0 hi e

theorem down_loop (n : Nat) : ∀ (m i : Nat) (l : List Int), n ≤ i + m → n ≤ l.length → l.length ≤ 1000000 → i < l.length →
    ∃ l' r, k76 T.rb l (n : Nat) (i : Nat) = some (l', r) ∧ l'.Perm l ∧ (∀ k, n ≤ k → i < n → at0 l' k = at0 l k) ∧ (DownH l n i → HeapN l' n)
  | m, i, l, hm, hn, hl, hi => by
    have h1 : IntKind.i64.wrap ((IntKind.i64.wrap (2 * (i : Int))) + 1) = ((2 * i + 1 : Nat) : Int) := by rw [wr (x := 2 * (i : Int)) (by omega), wr (by omega)]; omega
    have h2 : IntKind.i64.wrap (((2 * i + 1 : Nat) : Int) + 1) = ((2 * i + 2 : Nat) : Int) := by rw [wr (by omega)]; omega
    by_cases hc : n ≤ 2 * i + 1
    · refine ⟨l, (i : Nat), ob76 ?_, List.Perm.refl _, fun _ _ _ => rfl, fun h k h0 hk => h.1 k h0 hk (by omega)⟩
      simp only [b76, h1, dt (show ((2 * i + 1 : Nat) : Int) ≥ ((n : Nat) : Int) by omega), cond_true]
    have hj1 : 2 * i + 1 < l.length := by omega
    match m, hm with
    | 0, hm => omega
    | m + 1, hm =>
    -- the step with the child j
    have go : ∀ j, j = 2 * i + 1 ∨ j = 2 * i + 2 → j < n → (∀ k, 0 < k → k < n → (k - 1) / 2 = i → at0 l j ≤ at0 l k) →
        (∀ y, ((c63 T.rf l ((j : Nat) : Int) ((i : Nat) : Int)).bind fun (y2 : List Int × Bool) =>
          bif !y2.2 then some (y2.1, ((i : Nat) : Int)) else (c64 T.rf y2.1 ((i : Nat) : Int) ((j : Nat) : Int)).bind fun (y3 : List Int) => k76 T.rb y3 ((n : Nat) : Int) ((j : Nat) : Int)) = some y → b76 T.rf T.rb l (n : Nat) (i : Nat) = some y) →
        ∃ l' r, k76 T.rb l (n : Nat) (i : Nat) = some (l', r) ∧ l'.Perm l ∧ (∀ k, n ≤ k → i < n → at0 l' k = at0 l k) ∧ (DownH l n i → HeapN l' n) := by
      intro j hj hjn hmin hstep
      have hjl : j < l.length := by omega
      by_cases hlt : at0 l j < at0 l i
      · obtain ⟨l', r, g1, g2, g3, g4⟩ := down_loop n m j (swp l i j) (by omega) (by rw [swp_len]; omega) (by rw [swp_len]; omega) (by rw [swp_len]; omega)
        refine ⟨l', r, ob76 (hstep _ ?_), g2.trans (swp_perm hi hjl), fun k hk _ => ?_, fun h => g4 (down_step hn hjn (by omega) h hlt hmin)⟩
        · simp only [Less_eq hjl hi, Option.bind_some, dt hlt, Bool.not_true, cond_false, Swap_eq hi hjl]; exact g1
        · rw [g3 k hk hjn, at_swp hi hjl, if_neg (by omega), if_neg (by omega)]
      · refine ⟨l, (i : Nat), ob76 (hstep _ ?_), List.Perm.refl _, fun _ _ _ => rfl, fun h k h0 hk => ?_⟩
        · simp only [Less_eq hjl hi, Option.bind_some, df hlt, Bool.not_false, cond_true]
        · by_cases e : (k - 1) / 2 = i
          · have := hmin k h0 hk e
            rw [e]; omega
          · exact h.1 k h0 hk e
    by_cases hc2 : 2 * i + 2 < n
    · have hj2 : 2 * i + 2 < l.length := by omega
      by_cases hl2 : at0 l (2 * i + 2) < at0 l (2 * i + 1)
      · refine go (2 * i + 2) (Or.inr rfl) hc2 (fun k h0 hk e => ?_) (fun y h => ?_)
        · rcases (show k = 2 * i + 1 ∨ k = 2 * i + 2 by omega) with e | e <;> rw [e] <;> omega
        · simp only [b76, h1, h2, df (show ¬ (((2 * i + 1 : Nat) : Int) ≥ ((n : Nat) : Int)) by omega), df (show ¬ (((2 * i + 1 : Nat) : Int) < 0) by omega), dt (show ((2 * i + 2 : Nat) : Int) < ((n : Nat) : Int) by omega), cond_false, cond_true, Less_eq hj2 hj1, Option.bind_some, dt hl2]
          exact h
      · refine go (2 * i + 1) (Or.inl rfl) (by omega) (fun k h0 hk e => ?_) (fun y h => ?_)
        · rcases (show k = 2 * i + 1 ∨ k = 2 * i + 2 by omega) with e | e <;> rw [e] <;> omega
        · simp only [b76, h1, h2, df (show ¬ (((2 * i + 1 : Nat) : Int) ≥ ((n : Nat) : Int)) by omega), df (show ¬ (((2 * i + 1 : Nat) : Int) < 0) by omega), dt (show ((2 * i + 2 : Nat) : Int) < ((n : Nat) : Int) by omega), cond_false, cond_true, Less_eq hj2 hj1, Option.bind_some, df hl2]
          exact h
    · refine go (2 * i + 1) (Or.inl rfl) (by omega) (fun k h0 hk e => ?_) (fun y h => ?_)
      · rw [show k = 2 * i + 1 by omega]; omega
      · simp only [b76, h1, h2, df (show ¬ (((2 * i + 1 : Nat) : Int) ≥ ((n : Nat) : Int)) by omega), df (show ¬ (((2 * i + 1 : Nat) : Int) < 0) by omega), df (show ¬ (((2 * i + 2 : Nat) : Int) < ((n : Nat) : Int)) by omega), cond_false]
        exact h

theorem push_spec {l : List Int} (x : Int) (h : HeapP l) (hl : l.length < 1000000) : ∃ l', c59 T.rf l x = some l' ∧ HeapP l' ∧ l'.Perm (x :: l) := by
  obtain ⟨l', h1, h2, h3⟩ := up_loop l.length l.length (l ++ [x]) (Nat.le_refl _) (by simp) (by simp; omega)
  have hP : c60 T.rf l x = some (l ++ [x]) := or60 (by
    simp only [r60, ble_most (show l.length + 1 ≤ 274877906944 by omega), Bool.and_true, cond_true])
  have hU : c62 T.rf (l ++ [x]) (l.length : Nat) = some l' := or62 (by
    simp only [r62, h1, Option.bind_some])
  refine ⟨l', or59 ?_, h3 ⟨fun i h0 hi hne => ?_, fun i h0 hi he _ => ?_⟩, h2.trans (List.perm_append_singleton _ _)⟩
  · simp only [r59, hP, Option.bind_some, Len_eq]
    rw [show IntKind.i64.wrap ((((l ++ [x]).length : Nat) : Int) - 1) = ((l.length : Nat) : Int) from by rw [List.length_append, List.length_singleton, wr (by omega)]; omega, hU, Option.bind_some]
  · rw [List.length_append, List.length_singleton] at hi
    rw [at_app, at_app, if_pos (by omega), if_pos (by omega)]
    exact h i h0 (by omega)
  · rw [List.length_append, List.length_singleton] at hi
    omega

theorem pop_spec {l : List Int} (h : HeapP l) (h0 : l ≠ []) (hl : l.length < 1000000) : ∃ l', c65 T.rf l = some (l', at0 l 0) ∧ HeapP l' ∧ l.Perm (at0 l 0 :: l') ∧ ∀ y ∈ l, at0 l 0 ≤ y := by
  have hp := List.length_pos_iff.2 h0
  have hs := swp_len l 0 (l.length - 1)
  obtain ⟨l', r, g1, g2, g3, g4⟩ := down_loop (l.length - 1) (l.length - 1) 0 (swp l 0 (l.length - 1)) (by omega) (by omega) (by omega) (by omega)
  have hlen : l'.length = l.length := by rw [g2.length_eq, hs]
  have hD : DownH (swp l 0 (l.length - 1)) (l.length - 1) 0 := ⟨fun j j0 hj hne => by
    rw [at_swp hp (by omega), at_swp hp (by omega), if_neg (by omega), if_neg hne, if_neg (by omega), if_neg (by omega)]
    exact h j j0 (by omega), fun _ _ _ _ x => absurd x (by omega)⟩
  have hlast : at0 l' (l.length - 1) = at0 l 0 := by
    by_cases e : l.length - 1 = 0
    · have e1 : swp l 0 (l.length - 1) = l := by
        obtain ⟨x, rfl⟩ := List.length_eq_one_iff.1 (show l.length = 1 by omega)
        rfl
      rw [e1] at g2
      obtain ⟨x, rfl⟩ := List.length_eq_one_iff.1 (show l.length = 1 by omega)
      rw [List.perm_singleton.1 g2]; rfl
    · rw [g3 _ (Nat.le_refl _) (by omega), at_swp hp (by omega), if_pos rfl]
  have hN := g4 hD
  have hcut : l' = l'.take (l.length - 1) ++ [at0 l 0] := by
    conv => lhs; rw [← List.take_append_drop (l.length - 1) l']
    congr 1
    rw [List.drop_eq_getElem_cons (by omega), List.drop_eq_nil_of_le (by omega), ← at_get (by omega), hlast]
  refine ⟨l'.take (l.length - 1), or65 ?_, fun i i0 hi => ?_, ?_, fun y hy => ?_⟩
  · have hpr : IntKind.i64.wrap (((l.length : Nat) : Int) - 1) = ((l.length - 1 : Nat) : Int) := last_i h0 (by omega)
    have hdn : c66 T.rf (swp l 0 (l.length - 1)) 0 ((l.length - 1 : Nat) : Int) = some (l', decide (r > 0)) := or66 (by
      rw [show ((0 : Nat) : Int) = (0 : Int) from rfl] at g1
      simp only [r66, g1, Option.bind_some])
    have hS := Swap_eq (l := l) (i := 0) (j := l.length - 1) hp (by omega)
    rw [show ((0 : Nat) : Int) = (0 : Int) from rfl] at hS
    have hPop : c67 T.rf l' = some (l'.take (l.length - 1), at0 l 0) := or67 (by
      simp only [r67]
      rw [hlen, hpr]
      simp only [inb_nat, inb'_nat, dt (show l.length - 1 < l.length by omega), dt (show l.length - 1 ≤ l.length by omega), cond_true, Int.toNat_natCast, nth_at (show l.length - 1 < l'.length by omega), Option.bind_some, hlast, Nat.sub_zero, sub_zero])
    simp only [r65, Len_eq, Option.bind_some, hpr, hS, hdn, hPop]
  · rw [List.length_take] at hi
    rw [at_take (by omega), at_take (by omega)]
    exact hN i i0 (by omega)
  · refine ((swp_perm hp (show l.length - 1 < l.length by omega)).symm.trans g2.symm).trans ?_
    conv => lhs; rw [hcut]
    exact List.perm_append_singleton _ _
  · obtain ⟨i, hi, rfl⟩ := List.getElem_of_mem hy
    rw [← at_get hi]
    exact heap_least h i i (Nat.le_refl _) hi

end Go.Proofs.YtifoobdekbjmdaaGreat.R

/-
  OUR OWN: the order in which things are that need one another: the least one that is ready, again and again.
-/
namespace Go.Proofs.YtifoobdekbjmdaaGreat.R
open Go Go.Bm Go.Proofs
set_option linter.unusedVariables false
set_option linter.unusedSimpArgs false
set_option maxRecDepth 4000

theorem filter_one {α : Type} [DecidableEq α] {x : α} (p : α → Bool) : ∀ {l : List α}, l.Nodup → x ∈ l → (l.filter (fun y => p y && !(decide (y = x)))).length + (if p x = true then 1 else 0) = (l.filter p).length
  | [], _, h => by simp at h
  | a :: r, hn, h => by
    rw [List.nodup_cons] at hn
    by_cases e : a = x
    · subst e
      have hr : r.filter (fun y => p y && !(decide (y = a))) = r.filter p := List.filter_congr fun y hy => by
        rw [decide_eq_false (fun e : y = a => hn.1 (e ▸ hy))]; simp
      rw [List.filter_cons_of_neg (by simp), hr]
      by_cases hp : p a = true
      · rw [if_pos hp, List.filter_cons_of_pos hp]; rfl
      · rw [if_neg hp, List.filter_cons_of_neg hp]; rfl
    · have ih := filter_one p hn.2 (show x ∈ r from (List.mem_cons.1 h).resolve_left (Ne.symm e))
      by_cases hp : p a = true
      · rw [List.filter_cons_of_pos (by simp [hp, e]), List.filter_cons_of_pos hp, List.length_cons, List.length_cons]; omega
      · rw [List.filter_cons_of_neg (by simp [hp]), List.filter_cons_of_neg hp]; exact ih
theorem sub_len {α : Type} [DecidableEq α] : ∀ {l m : List α}, l.Nodup → (∀ x ∈ l, x ∈ m) → l.length ≤ m.length
  | [], _, _, _ => Nat.zero_le _
  | x :: r, m, hn, h => by
    rw [List.nodup_cons] at hn
    have h1 := sub_len (m := m.filter fun y => !(decide (y = x))) hn.2 (fun y hy => by
      rw [List.mem_filter]
      exact ⟨h y (List.mem_cons_of_mem _ hy), by rw [decide_eq_false (fun e : y = x => hn.1 (e ▸ hy))]; rfl⟩)
    have h2 : (m.filter fun y => !(decide (y = x))).length < m.length := by
      refine Nat.lt_of_le_of_ne (List.length_filter_le _ _) (fun e => ?_)
      have := List.length_filter_eq_length_iff.1 e x (h x List.mem_cons_self)
      simp at this
    rw [List.length_cons]; omega

/-- Numbers as they are told. -/
def ints (l : List Nat) : List Int := l.map fun k => ((k : Nat) : Int)

section
variable (D : Nat → Nat → Bool) (n : Nat)
/-- For how many a thing waits. -/
def waitsN (T : List Nat) (i : Nat) : Nat := ((List.range n).filter fun j => D i j && !(decide (j ∈ T))).length
def rdy (T : List Nat) (i : Nat) : Bool := !(decide (i ∈ T)) && decide (waitsN D n T i = 0)
def nextO (T : List Nat) : Option Nat := (List.range n).find? (rdy D n T)
def greedy : Nat → List Nat → List Nat
  | 0, T => T
  | f + 1, T => match nextO D n T with
    | none => T
    | some i => greedy f (T ++ [i])
def ordO : List Int × Int := if (greedy D n n []).length < n then ([], 12) else (ints (greedy D n n []), 0)
/-- Some that are taken one by one, each when it is ready. -/
inductive Val : List Nat → Prop where
  | nil : Val []
  | snoc {T : List Nat} {i : Nat} : Val T → i < n → rdy D n T i = true → Val (T ++ [i])
end

variable {D : Nat → Nat → Bool} {n : Nat}
theorem waitsN_zero {T : List Nat} {i : Nat} : waitsN D n T i = 0 ↔ ∀ j, j < n → D i j = true → j ∈ T := by
  rw [waitsN, List.length_eq_zero_iff, List.filter_eq_nil_iff]
  constructor
  · intro h j hj hd
    have := h j (List.mem_range.2 hj)
    rw [hd] at this
    simpa using this
  · intro h j hj
    by_cases hd : D i j = true
    · simp [h j (List.mem_range.1 hj) hd]
    · simp [hd]
theorem rdy_iff {T : List Nat} {i : Nat} : rdy D n T i = true ↔ i ∉ T ∧ ∀ j, j < n → D i j = true → j ∈ T := by
  rw [rdy, Bool.and_eq_true, decide_eq_true_iff, waitsN_zero]; simp
theorem val_lt {T : List Nat} (h : Val D n T) : ∀ x ∈ T, x < n := by
  induction h with
  | nil => intro x hx; simp at hx
  | snoc h hi hr ih =>
    intro x hx
    rcases List.mem_append.1 hx with h1 | h1
    · exact ih x h1
    · rw [List.mem_singleton.1 h1]; exact hi
theorem val_nodup {T : List Nat} (h : Val D n T) : T.Nodup := by
  induction h with
  | nil => exact List.nodup_nil
  | snoc h hi hr ih =>
    rw [List.nodup_append]
    exact ⟨ih, by simp, fun a ha b hb e => (rdy_iff.1 hr).1 (by rw [List.mem_singleton.1 hb] at e; exact e ▸ ha)⟩
theorem val_closed {T : List Nat} (h : Val D n T) : ∀ i ∈ T, ∀ j, j < n → D i j = true → j ∈ T := by
  induction h with
  | nil => intro x hx; simp at hx
  | snoc h hi hr ih =>
    intro x hx j hj hd
    rcases List.mem_append.1 hx with h1 | h1
    · exact List.mem_append_left _ (ih x h1 j hj hd)
    · rw [List.mem_singleton.1 h1] at hd
      exact List.mem_append_left _ ((rdy_iff.1 hr).2 j hj hd)
theorem val_len {T : List Nat} (h : Val D n T) : T.length ≤ n := by
  have := sub_len (m := List.range n) (val_nodup h) (fun x hx => List.mem_range.2 (val_lt h x hx))
  simpa using this
theorem val_all {T : List Nat} (h : Val D n T) (hl : n ≤ T.length) (j : Nat) (hj : j < n) : j ∈ T := by
  refine Classical.byContradiction fun hn => ?_
  have := sub_len (l := j :: T) (m := List.range n) (List.nodup_cons.2 ⟨hn, val_nodup h⟩) (fun x hx => by
    rcases List.mem_cons.1 hx with e | e
    · rw [e]; exact List.mem_range.2 hj
    · exact List.mem_range.2 (val_lt h x e))
  rw [List.length_cons, List.length_range] at this; omega
theorem val_behind {T : List Nat} (h : Val D n T) : ∀ (A B : List Nat) (i : Nat), T = A ++ i :: B → ∀ j, j < n → D i j = true → j ∈ A := by
  induction h with
  | nil => intro A B i e; simp at e
  | snoc h hi hr ih =>
    intro A B i e j hj hd
    rcases List.eq_nil_or_concat B with hB | ⟨B', b, hB⟩
    · subst hB
      obtain ⟨e1, e2⟩ := List.append_inj' e rfl
      simp only [List.cons.injEq, and_true] at e2
      subst e1; subst e2
      exact (rdy_iff.1 hr).2 j hj hd
    · subst hB
      rw [List.concat_eq_append, ← List.cons_append, ← List.append_assoc] at e
      obtain ⟨e1, e2⟩ := List.append_inj' e rfl
      exact ih A B' i e1 j hj hd

theorem next_spec {T : List Nat} {i : Nat} : nextO D n T = some i ↔ rdy D n T i = true ∧ i < n ∧ ∀ j, j < i → rdy D n T j = false := by
  rw [nextO, List.find?_range_eq_some, List.mem_range]
  simp
theorem next_none {T : List Nat} : nextO D n T = none ↔ ∀ j, j < n → rdy D n T j = false := by
  rw [nextO, List.find?_eq_none]
  simp [List.mem_range]
theorem next_full {T : List Nat} (h : Val D n T) (hl : n ≤ T.length) : nextO D n T = none := next_none.2 fun j hj => by
  rw [rdy, decide_eq_true (val_all h hl j hj)]; rfl
theorem greedy_val : ∀ (f : Nat) (T : List Nat), Val D n T → Val D n (greedy D n f T)
  | 0, T, h => h
  | f + 1, T, h => by
    rw [greedy]
    cases he : nextO D n T with
    | none => exact h
    | some i =>
      have := next_spec.1 he
      exact greedy_val f _ (Val.snoc h this.2.1 this.1)
theorem greedy_stuck : ∀ (f : Nat) (T : List Nat), Val D n T → n ≤ T.length + f → nextO D n (greedy D n f T) = none
  | 0, T, h, hl => by rw [greedy]; exact next_full h (by omega)
  | f + 1, T, h, hl => by
    rw [greedy]
    cases he : nextO D n T with
    | none => exact he
    | some i =>
      have := next_spec.1 he
      exact greedy_stuck f _ (Val.snoc h this.2.1 this.1) (by simp; omega)
theorem greedy_max {T : List Nat} (h : Val D n T) : ∀ x ∈ T, x ∈ greedy D n n [] := by
  have hs := next_none.1 (greedy_stuck n [] (Val.nil (D := D) (n := n)) (by simp))
  induction h with
  | nil => intro x hx; simp at hx
  | snoc h hi hr ih =>
    intro x hx
    rcases List.mem_append.1 hx with h1 | h1
    · exact ih x h1
    · rw [List.mem_singleton.1 h1]
      refine Classical.byContradiction fun hn => ?_
      have h2 := hs _ hi
      rw [rdy_iff.2 ⟨hn, fun j hj hd => ih j ((rdy_iff.1 hr).2 j hj hd)⟩] at h2
      exact absurd h2 (by decide)
theorem ordO_of {T : List Nat} (h : Val D n T) (hl : n ≤ T.length) : ¬ ((greedy D n n []).length < n) := by
  have := sub_len (l := List.range n) (m := greedy D n n []) List.nodup_range (fun x hx => greedy_max h x (val_all h hl x (List.mem_range.1 hx)))
  rw [List.length_range] at this; omega
theorem ordO_ok : (ordO D n).2 = 0 ↔ ∃ T, Val D n T ∧ n ≤ T.length := by
  rw [ordO]
  constructor
  · intro h
    by_cases hl : (greedy D n n []).length < n
    · rw [if_pos hl] at h; exact absurd h (by decide)
    · exact ⟨_, greedy_val n [] Val.nil, by omega⟩
  · rintro ⟨T, h, hl⟩
    rw [if_neg (ordO_of h hl)]
theorem ordO_err : (ordO D n).2 = 0 ∨ ordO D n = ([], 12) := by
  rw [ordO]; split
  · exact Or.inr rfl
  · exact Or.inl rfl

theorem val_turned {D' : Nat → Nat → Bool} {ρ : Nat → Nat} (hρ : ∀ i, i < n → ρ i < n ∧ ρ (ρ i) = i) (hD : ∀ i j, i < n → j < n → D' i j = D (ρ i) (ρ j)) {T : List Nat} (h : Val D n T) : Val D' n (T.map ρ) := by
  induction h with
  | nil => exact Val.nil
  | @snoc T i h hi hr ih =>
    rw [List.map_append]
    refine Val.snoc ih (hρ i hi).1 (rdy_iff.2 ⟨fun hm => ?_, fun j hj hd => ?_⟩)
    · obtain ⟨k, hk, e⟩ := List.mem_map.1 hm
      have hk2 := val_lt h k hk
      have : k = i := by rw [← (hρ k hk2).2, e, (hρ i hi).2]
      exact (rdy_iff.1 hr).1 (this ▸ hk)
    · rw [hD _ _ (hρ i hi).1 hj, (hρ i hi).2] at hd
      exact List.mem_map.2 ⟨ρ j, (rdy_iff.1 hr).2 _ (hρ j hj).1 hd, (hρ j hj).2⟩
theorem val_fewer {D' : Nat → Nat → Bool} {m : Nat} (hm : m ≤ n) (hD : ∀ i j, i < m → j < m → D' i j = D i j) {T : List Nat} (h : Val D n T) : Val D' m (T.filter fun i => decide (i < m)) := by
  induction h with
  | nil => exact Val.nil
  | @snoc T i h hi hr ih =>
    rw [List.filter_append]
    by_cases e : i < m
    · rw [List.filter_cons_of_pos (by simpa using e)]
      refine Val.snoc ih e (rdy_iff.2 ⟨fun x => (rdy_iff.1 hr).1 (List.mem_filter.1 x).1, fun j hj hd => ?_⟩)
      rw [hD i j e hj] at hd
      exact List.mem_filter.2 ⟨(rdy_iff.1 hr).2 j (by omega) hd, by simpa using hj⟩
    · rw [List.filter_cons_of_neg (by simpa using e), List.filter_nil, List.append_nil]; exact ih
theorem ordO_turned {D' : Nat → Nat → Bool} {ρ : Nat → Nat} (hρ : ∀ i, i < n → ρ i < n ∧ ρ (ρ i) = i) (hD : ∀ i j, i < n → j < n → D' i j = D (ρ i) (ρ j)) : (ordO D n).2 = (ordO D' n).2 := by
  have hD2 : ∀ i j, i < n → j < n → D i j = D' (ρ i) (ρ j) := fun i j hi hj => by rw [hD _ _ (hρ i hi).1 (hρ j hj).1, (hρ i hi).2, (hρ j hj).2]
  have h1 : (ordO D n).2 = 0 → (ordO D' n).2 = 0 := fun h => by
    obtain ⟨T, hv, hl⟩ := ordO_ok.1 h
    exact ordO_ok.2 ⟨_, val_turned hρ hD hv, by simpa using hl⟩
  have h2 : (ordO D' n).2 = 0 → (ordO D n).2 = 0 := fun h => by
    obtain ⟨T, hv, hl⟩ := ordO_ok.1 h
    exact ordO_ok.2 ⟨_, val_turned hρ hD2 hv, by simpa using hl⟩
  rcases ordO_err (D := D) (n := n) with a | a <;> rcases ordO_err (D := D') (n := n) with b | b
  · rw [a, b]
  · rw [a, h1 a]
  · rw [b, h2 b]
  · rw [a, b]
theorem ordO_fewer {D' : Nat → Nat → Bool} {m : Nat} (hm : m ≤ n) (hD : ∀ i j, i < m → j < m → D' i j = D i j) (h : (ordO D n).2 = 0) : (ordO D' m).2 = 0 := by
  obtain ⟨T, hv, hl⟩ := ordO_ok.1 h
  refine ordO_ok.2 ⟨_, val_fewer hm hD hv, ?_⟩
  have := sub_len (l := List.range m) (m := T.filter fun i => decide (i < m)) List.nodup_range (fun x hx => by
    rw [List.mem_range] at hx
    exact List.mem_filter.2 ⟨val_all hv hl x (by omega), by simpa using hx⟩)
  simpa using this
theorem ordO_free (hD : ∀ i j, i < n → j < n → D i j = false) : ordO D n = (ints (List.range n), 0) := by
  have : ∀ (f k : Nat), k + f = n → greedy D n f (List.range k) = List.range n := by
    intro f
    induction f with
    | zero => intro k h; rw [greedy, show k = n by omega]
    | succ f ih =>
      intro k h
      have hn : nextO D n (List.range k) = some k := next_spec.2 ⟨rdy_iff.2 ⟨by simp, fun j hj hd => by rw [hD k j (by omega) hj] at hd; exact absurd hd (by decide)⟩, by omega, fun j hj => by
        rw [rdy, decide_eq_true (List.mem_range.2 hj)]; rfl⟩
      rw [greedy, hn]
      simp only
      rw [← List.range_succ]
      exact ih (k + 1) (by omega)
  rw [ordO, show ([] : List Nat) = List.range 0 from rfl, this n 0 (by omega), List.length_range, if_neg (by omega)]

/-- One less to wait for. -/
theorem waits_step {T : List Nat} {i : Nat} (hi : i < n) (hT : i ∉ T) (k : Nat) : waitsN D n (T ++ [i]) k + (if D k i = true then 1 else 0) = waitsN D n T k := by
  have h := filter_one (x := i) (fun j => D k j && !(decide (j ∈ T))) (List.nodup_range (n := n)) (List.mem_range.2 hi)
  rw [waitsN, waitsN, ← h]
  have e1 : ((List.range n).filter fun j => D k j && !(decide (j ∈ T ++ [i]))) = (List.range n).filter (fun y => (D k y && !(decide (y ∈ T))) && !(decide (y = i))) := by
    refine List.filter_congr fun y _ => ?_
    by_cases h1 : y ∈ T <;> by_cases h2 : y = i <;> simp [h1, h2]
  rw [e1]
  congr 1
  simp [hT]
theorem val_next {T : List Nat} (h : Val D n T) {i : Nat} (hr : rdy D n T i = true) (hi : i < n) (k : Nat) (hk : k < n) (hd : D k i = true) : k ∉ T ∧ k ≠ i ∧ rdy D n T k = false := by
  have h1 := rdy_iff.1 hr
  refine ⟨fun x => h1.1 (val_closed h k x i hi hd), fun e => h1.1 (h1.2 i hi (e ▸ hd)), ?_⟩
  cases hk : rdy D n T k with
  | false => rfl
  | true => exact absurd ((rdy_iff.1 hk).2 i hi hd) h1.1

end Go.Proofs.YtifoobdekbjmdaaGreat.R

/-
  OUR OWN: the order of equations: the walk.
-/
namespace Go.Proofs.YtifoobdekbjmdaaGreat.R
open Go Go.Bm Go.Proofs
set_option linter.unusedVariables false
set_option linter.unusedSimpArgs false
set_option maxRecDepth 4000

/-- A row of what a function tells. -/
def rowF {α : Type} (n : Nat) (f : Nat → α) : List α := (List.range n).map f
section
variable {α : Type}
theorem rowF_len (n : Nat) (f : Nat → α) : (rowF n f).length = n := by simp [rowF]
theorem rowF_get {n i : Nat} (f : Nat → α) (h : i < n) : nth (rowF n f) i = some (f i) := by
  rw [nth_getElem?, rowF, List.getElem?_map, List.getElem?_range h]; rfl
theorem rowF_congr {n : Nat} {f g : Nat → α} (h : ∀ i, i < n → f i = g i) : rowF n f = rowF n g := List.map_congr_left fun i hi => h i (List.mem_range.1 hi)
theorem rowF_set {n i : Nat} (f : Nat → α) (y : α) : setNth (rowF n f) i y = rowF n (fun j => if j = i then y else f j) := by
  rw [setNth_set]
  refine List.ext_getElem? fun k => ?_
  rw [List.getElem?_set, rowF, rowF, List.getElem?_map, List.getElem?_map, List.length_map, List.length_range]
  by_cases e : i = k
  · subst e
    rw [if_pos rfl]
    by_cases h : i < n
    · rw [if_pos h, List.getElem?_range h]; simp
    · rw [if_neg h, List.getElem?_eq_none (by simp; omega)]; rfl
  · rw [if_neg e]
    by_cases h : k < n
    · rw [List.getElem?_range h]; simp [Ne.symm e]
    · rw [List.getElem?_eq_none (by simp; omega)]; rfl
theorem rowF_rep (n : Nat) (x : α) : List.replicate n x = rowF n fun _ => x := by
  refine List.ext_getElem? fun k => ?_
  rw [rowF, List.getElem?_map, List.getElem?_replicate]
  by_cases h : k < n
  · rw [if_pos h, List.getElem?_range h]; rfl
  · rw [if_neg h, List.getElem?_eq_none (by simp; omega)]; rfl
end
theorem ints_len (l : List Nat) : (ints l).length = l.length := by simp [ints]
theorem ints_app (l m : List Nat) : ints (l ++ m) = ints l ++ ints m := by simp [ints]
theorem ints_cons (k : Nat) (l : List Nat) : ints (k :: l) = (k : Int) :: ints l := rfl

/-- A heap of the numbers of which something is so. -/
def HeapOf (h : List Int) (S : Nat → Prop) : Prop := HeapP h ∧ h.Nodup ∧ ∀ x, x ∈ h ↔ ∃ j : Nat, x = (j : Int) ∧ S j
theorem heapOf_congr {h : List Int} {S S' : Nat → Prop} (H : HeapOf h S) (e : ∀ j, S j ↔ S' j) : HeapOf h S' :=
  ⟨H.1, H.2.1, fun x => (H.2.2 x).trans ⟨fun ⟨j, a, b⟩ => ⟨j, a, (e j).1 b⟩, fun ⟨j, a, b⟩ => ⟨j, a, (e j).2 b⟩⟩⟩
theorem heapOf_nil {S : Nat → Prop} (h : ∀ j, ¬ S j) : HeapOf [] S := ⟨fun i _ hi => absurd hi (by simp), List.nodup_nil, fun x => ⟨fun a => absurd a (by simp), fun ⟨j, _, b⟩ => absurd b (h j)⟩⟩
theorem heapOf_len {h : List Int} {S : Nat → Prop} {n : Nat} (H : HeapOf h S) (hS : ∀ j, S j → j < n) : h.length ≤ n := by
  have := sub_len (m := ints (List.range n)) H.2.1 (fun x hx => by
    obtain ⟨j, rfl, hj⟩ := (H.2.2 x).1 hx
    exact List.mem_map.2 ⟨j, List.mem_range.2 (hS j hj), rfl⟩)
  rw [ints_len, List.length_range] at this; exact this
theorem heapOf_push {h : List Int} {S : Nat → Prop} {k : Nat} (H : HeapOf h S) (hk : ¬ S k) (hl : h.length < 1000000) : ∃ h', c59 T.rf h (k : Nat) = some h' ∧ HeapOf h' (fun j => S j ∨ j = k) := by
  obtain ⟨h', h1, h2, h3⟩ := push_spec (k : Int) H.1 hl
  refine ⟨h', h1, h2, h3.nodup_iff.2 (List.nodup_cons.2 ⟨fun x => ?_, H.2.1⟩), fun x => ?_⟩
  · obtain ⟨j, e, hj⟩ := (H.2.2 _).1 x
    exact hk ((Int.ofNat_inj.1 e) ▸ hj)
  · rw [h3.mem_iff, List.mem_cons, H.2.2]
    constructor
    · rintro (e | ⟨j, e, hj⟩)
      · exact ⟨k, e, Or.inr rfl⟩
      · exact ⟨j, e, Or.inl hj⟩
    · rintro ⟨j, e, hj | hj⟩
      · exact Or.inr ⟨j, e, hj⟩
      · exact Or.inl (hj ▸ e)
theorem heapOf_pop {h : List Int} {S : Nat → Prop} (H : HeapOf h S) (h0 : h ≠ []) (hl : h.length < 1000000) : ∃ h' i, c65 T.rf h = some (h', ((i : Nat) : Int)) ∧ S i ∧ (∀ j, S j → i ≤ j) ∧ HeapOf h' (fun j => S j ∧ j ≠ i) := by
  obtain ⟨h', h1, h2, h3, h4⟩ := pop_spec H.1 h0 hl
  have hm : at0 h 0 ∈ h := h3.mem_iff.2 List.mem_cons_self
  obtain ⟨i, hi, hs⟩ := (H.2.2 _).1 hm
  have hn := h3.nodup_iff.1 H.2.1
  rw [List.nodup_cons] at hn
  refine ⟨h', i, by rw [← hi]; exact h1, hs, fun j hj => ?_, h2, hn.2, fun x => ?_⟩
  · have := h4 _ ((H.2.2 _).2 ⟨j, rfl, hj⟩)
    omega
  · have hx := h3.mem_iff (a := x)
    rw [H.2.2, List.mem_cons] at hx
    constructor
    · intro hxm
      obtain ⟨j, e, hj⟩ := hx.2 (Or.inr hxm)
      exact ⟨j, e, hj, fun e2 => hn.1 (by rw [hi, ← e2, ← e]; exact hxm)⟩
    · rintro ⟨j, e, hj, hne⟩
      rcases hx.1 ⟨j, e, hj⟩ with e2 | e2
      · exact absurd (Int.ofNat_inj.1 (by rw [← e, e2, hi])) hne
      · exact e2

/-- For how many each one waits, when some of those that wait for one more have been told. -/
def wF (D : Nat → Nat → Bool) (n : Nat) (V : List Nat) (i : Nat) (pre : List Nat) (k : Nat) : Int := if k ∈ pre then (waitsN D n (V ++ [i]) k : Nat) else (waitsN D n V k : Nat)

theorem free_loop {D : Nat → Nat → Bool} {n : Nat} {V : List Nat} {i : Nat} (hV : Val D n V) (hr : rdy D n V i = true) (hi : i < n) (hn : n ≤ 1000) :
    ∀ (suf pre : List Nat) (h : List Int), (pre ++ suf).Nodup → (∀ k ∈ suf, k < n ∧ D k i = true) → (∀ k ∈ pre, k < n) → pre.length + suf.length ≤ 1000 →
      HeapOf h (fun j => (j < n ∧ rdy D n V j = true ∧ j ≠ i) ∨ (j ∈ pre ∧ waitsN D n (V ++ [i]) j = 0)) →
      ∃ h', k101 T.rb (rowF n (wF D n V i pre)) h (ints pre ++ ints suf) ((ints pre ++ ints suf).length : Nat) ((ints pre).length : Nat) = some (rowF n (wF D n V i (pre ++ suf)), h')
        ∧ HeapOf h' (fun j => (j < n ∧ rdy D n V j = true ∧ j ≠ i) ∨ (j ∈ pre ++ suf ∧ waitsN D n (V ++ [i]) j = 0))
  | [], pre, h, hnd, hs, hp, hlen, H => by
    refine ⟨h, ob101 ?_, by rw [List.append_nil]; exact H⟩
    rw [show ints [] = [] from rfl, List.append_nil pre]
    simp only [b101, lt_end, lt_self, List.append_nil, cond_false]
  | k :: suf, pre, h, hnd, hs, hp, hlen, H => by
    have hk := hs k List.mem_cons_self
    simp only [List.length_cons] at hlen
    have hkp : k ∉ pre := fun x => by
      rw [List.nodup_append] at hnd
      exact hnd.2.2 k x k List.mem_cons_self rfl
    have hvn := val_next hV hr hi k hk.1 hk.2
    have hw := waits_step (D := D) hi (rdy_iff.1 hr).1 k
    rw [if_pos hk.2] at hw
    have hkw : waitsN D n V k ≤ n := by have := List.length_filter_le (fun j => D k j && !(decide (j ∈ V))) (List.range n); rw [List.length_range] at this; exact this
    have hval : IntKind.i64.wrap ((waitsN D n V k : Nat) - 1) = ((waitsN D n (V ++ [i]) k : Nat) : Int) := by rw [wr (by omega)]; omega
    have hget : wF D n V i pre k = (waitsN D n V k : Nat) := if_neg hkp
    have hset : setNth (rowF n (wF D n V i pre)) k ((waitsN D n (V ++ [i]) k : Nat) : Int) = rowF n (wF D n V i (pre ++ [k])) := by
      rw [rowF_set]
      refine rowF_congr fun j _ => ?_
      by_cases e : j = k
      · subst e; simp [wF]
      · simp [wF, e]
    have hget2 : wF D n V i (pre ++ [k]) k = (waitsN D n (V ++ [i]) k : Nat) := if_pos (by simp)
    have e1 : ints (pre ++ [k]) ++ ints suf = ints pre ++ (k : Int) :: ints suf := by rw [ints_app]; simp [ints]
    have e2 : pre ++ [k] ++ suf = pre ++ k :: suf := by simp
    have e3 : ints pre ++ [(k : Int)] = ints (pre ++ [k]) := by rw [ints_app]; rfl
    have hhl : h.length ≤ n := heapOf_len H fun j hj => by
      rcases hj with a | a
      · exact a.1
      · exact hp j a.1
    have hpl : (ints pre).length < 4611686018427387904 := by rw [ints_len]; omega
    by_cases hz : waitsN D n (V ++ [i]) k = 0
    · obtain ⟨h2, hP, H2⟩ := heapOf_push (k := k) H (fun x => by
        rcases x with a | a
        · rw [hvn.2.2] at a; exact absurd a.2.1 (by decide)
        · exact hkp a.1) (by omega)
      obtain ⟨h3, hrun, H3⟩ := free_loop hV hr hi hn suf (pre ++ [k]) h2 (by rw [e2]; exact hnd) (fun j hj => hs j (List.mem_cons_of_mem _ hj)) (fun j hj => by
        rcases List.mem_append.1 hj with a | a
        · exact hp j a
        · rw [List.mem_singleton.1 a]; exact hk.1) (by simp; omega) (heapOf_congr H2 fun j => by
          rw [List.mem_append, List.mem_singleton]
          constructor
          · rintro ((a | a) | a)
            · exact Or.inl a
            · exact Or.inr ⟨Or.inl a.1, a.2⟩
            · exact Or.inr ⟨Or.inr a, a ▸ hz⟩
          · rintro (a | ⟨a | a, b⟩)
            · exact Or.inl (Or.inl a)
            · exact Or.inl (Or.inr ⟨a, b⟩)
            · exact Or.inr a)
      rw [e1, e2] at hrun
      rw [e2] at H3
      refine ⟨h3, ob101 ?_, H3⟩
      rw [ints_cons]
      simp only [b101, lt_mid, inb_mid, nth_mid, cond_true, Option.bind_some]
      simp only [cond_true, Option.bind_some, inb_nat, rowF_len, dt hk.1, Int.toNat_natCast, rowF_get _ hk.1, blt_t hk.1, hget, hval, hset, hget2, bt (show ((waitsN D n (V ++ [i]) k : Nat) : Int) = 0 by omega), hP, next_mid (ints pre) (k : Int) hpl, e3]
      exact hrun
    · obtain ⟨h3, hrun, H3⟩ := free_loop hV hr hi hn suf (pre ++ [k]) h (by rw [e2]; exact hnd) (fun j hj => hs j (List.mem_cons_of_mem _ hj)) (fun j hj => by
        rcases List.mem_append.1 hj with a | a
        · exact hp j a
        · rw [List.mem_singleton.1 a]; exact hk.1) (by simp; omega) (heapOf_congr H fun j => by
          rw [List.mem_append, List.mem_singleton]
          constructor
          · rintro (a | a)
            · exact Or.inl a
            · exact Or.inr ⟨Or.inl a.1, a.2⟩
          · rintro (a | ⟨a | a, b⟩)
            · exact Or.inl a
            · exact Or.inr ⟨a, b⟩
            · exact absurd (a ▸ b) hz)
      rw [e1, e2] at hrun
      rw [e2] at H3
      refine ⟨h3, ob101 ?_, H3⟩
      rw [ints_cons]
      simp only [b101, lt_mid, inb_mid, nth_mid, cond_true, Option.bind_some]
      simp only [cond_true, cond_false, Option.bind_some, inb_nat, rowF_len, dt hk.1, Int.toNat_natCast, rowF_get _ hk.1, blt_t hk.1, hget, hval, hset, hget2, bf (show ((waitsN D n (V ++ [i]) k : Nat) : Int) ≠ 0 by omega), next_mid (ints pre) (k : Int) hpl, e3]
      exact hrun

theorem main_loop {D : Nat → Nat → Bool} {n : Nat} (hn : n ≤ 1000) : ∀ (f : Nat) (V : List Nat) (h : List Int), Val D n V → n ≤ V.length + f → HeapOf h (fun j => j < n ∧ rdy D n V j = true) →
    ∃ w h', k100 T.rb (rowF n fun k => ((waitsN D n V k : Nat) : Int)) (ints V) h (rowF n fun k => ints ((List.range n).filter fun i => D i k)) = some (w, ints (greedy D n f V), h') := by
  intro f V h hV hf H
  have hhl : h.length ≤ n := heapOf_len H fun j hj => hj.1
  have hvl := val_len hV
  have none_stop : nextO D n V = none → ∃ w h', k100 T.rb (rowF n fun k => ((waitsN D n V k : Nat) : Int)) (ints V) h (rowF n fun k => ints ((List.range n).filter fun i => D i k)) = some (w, ints V, h') := fun hno => by
    have he : h = [] := List.eq_nil_iff_forall_not_mem.2 fun x hx => by
      obtain ⟨j, _, hj, hr⟩ := (H.2.2 x).1 hx
      rw [next_none.1 hno j hj] at hr; exact absurd hr (by decide)
    subst he
    exact ⟨_, _, ob100 (by simp only [b100, Len_eq, Option.bind_some]; rfl)⟩
  match f, hf with
  | 0, hf => rw [greedy]; exact none_stop (next_full hV (by omega))
  | f + 1, hf =>
    rw [greedy]
    cases hnx : nextO D n V with
    | none => exact none_stop hnx
    | some i =>
      have hs := next_spec.1 hnx
      have hne : h ≠ [] := fun e => by
        have := (H.2.2 ((i : Nat) : Int)).2 ⟨i, rfl, hs.2.1, hs.1⟩
        rw [e] at this; simp at this
      obtain ⟨h1, i', hP, hS, hmin, H1⟩ := heapOf_pop H hne (by omega)
      have hii : i' = i := by
        have a := hmin i ⟨hs.2.1, hs.1⟩
        rcases Nat.lt_or_ge i' i with b | b
        · rw [hs.2.2 i' b] at hS; exact absurd hS.2 (by decide)
        · omega
      subst hii
      have hpos := List.length_pos_iff.2 hne
      have hfl : ((List.range n).filter fun k => D k i').length ≤ n := by have := List.length_filter_le (fun k => D k i') (List.range n); rw [List.length_range] at this; exact this
      obtain ⟨h2, hrun, H2⟩ := free_loop hV hs.1 hs.2.1 hn ((List.range n).filter fun k => D k i') [] h1 (by rw [List.nil_append]; exact List.Nodup.sublist List.filter_sublist List.nodup_range) (fun k hk => by
        rw [List.mem_filter, List.mem_range] at hk; exact hk) (fun k hk => by simp at hk) (by simp only [List.length_nil]; omega) (heapOf_congr H1 fun j => by
          constructor
          · rintro ⟨⟨a, b⟩, c⟩; exact Or.inl ⟨a, b, c⟩
          · rintro (⟨a, b, c⟩ | ⟨a, _⟩)
            · exact ⟨⟨a, b⟩, c⟩
            · simp at a)
      rw [List.nil_append] at hrun H2
      rw [show ints [] = [] from rfl, List.nil_append, List.length_nil, show ((0 : Nat) : Int) = (0 : Int) from rfl] at hrun
      have hw0 : (rowF n fun k => ((waitsN D n V k : Nat) : Int)) = rowF n (wF D n V i' []) := rowF_congr fun k _ => by simp [wF]
      have hw1 : rowF n (wF D n V i' ((List.range n).filter fun k => D k i')) = rowF n fun k => ((waitsN D n (V ++ [i']) k : Nat) : Int) := rowF_congr fun k hk => by
        rw [wF]
        by_cases hd : D k i' = true
        · rw [if_pos (List.mem_filter.2 ⟨List.mem_range.2 hk, hd⟩)]
        · rw [if_neg (fun x : k ∈ (List.range n).filter (fun k => D k i') => hd (List.mem_filter.1 x).2)]
          have := waits_step (D := D) hs.2.1 (rdy_iff.1 hs.1).1 k
          rw [if_neg hd] at this; omega
      obtain ⟨w, h3, hrun2⟩ := main_loop hn f (V ++ [i']) h2 (Val.snoc hV hs.2.1 hs.1) (by simp; omega) (heapOf_congr H2 fun j => by
        rw [List.mem_filter, List.mem_range]
        constructor
        · rintro (⟨a, b, c⟩ | ⟨⟨a, b⟩, c⟩)
          · have b2 := rdy_iff.1 b
            exact ⟨a, rdy_iff.2 ⟨by simp [b2.1, c], fun k hk hd => List.mem_append_left _ (b2.2 k hk hd)⟩⟩
          · have v := val_next hV hs.1 hs.2.1 j a b
            exact ⟨a, rdy_iff.2 ⟨by simp [v.1, v.2.1], waitsN_zero.1 c⟩⟩
        · rintro ⟨a, b⟩
          have b2 := rdy_iff.1 b
          have b3 : j ∉ V ∧ j ≠ i' := by simpa using b2.1
          by_cases hd : D j i' = true
          · exact Or.inr ⟨⟨a, hd⟩, waitsN_zero.2 b2.2⟩
          · refine Or.inl ⟨a, rdy_iff.2 ⟨b3.1, fun k hk hdk => ?_⟩, b3.2⟩
            rcases List.mem_append.1 (b2.2 k hk hdk) with e | e
            · exact e
            · rw [List.mem_singleton.1 e] at hdk; exact absurd hdk hd)
      refine ⟨w, h3, ob100 ?_⟩
      have hfr : nth (rowF n fun k => ints ((List.range n).filter fun i => D i k)) i' = some (ints ((List.range n).filter fun k => D k i')) := rowF_get _ hs.2.1
      simp only [b100, Len_eq, Option.bind_some, dt (show ((h.length : Nat) : Int) > 0 by omega), cond_true, hP, ints_len, ble_most (show V.length + 1 ≤ 274877906944 by omega), Bool.and_true, inb_nat, rowF_len, dt hs.2.1, Int.toNat_natCast, hfr]
      rw [hw0]
      rw [ints_len] at hrun
      rw [hrun, Option.bind_some, hw1, show ints V ++ [((i' : Nat) : Int)] = ints (V ++ [i']) from by rw [ints_app]; rfl]
      exact hrun2

end Go.Proofs.YtifoobdekbjmdaaGreat.R

/-
  OUR OWN: the order of equations: what waits for what; the whole.
-/
namespace Go.Proofs.YtifoobdekbjmdaaGreat.R
open Go Go.Bm Go.Proofs
set_option linter.unusedVariables false
set_option linter.unusedSimpArgs false
set_option maxRecDepth 4000

theorem outI_self : ∀ a : Option Nat, outI a a = true
  | none => rfl
  | some j => Nat.beq_refl j
theorem get_set {V : Type} (d : V) (x : List UInt8) (v : V) (y : List UInt8) : ∀ m : List (List UInt8 × V), assocGet (CT.eqK .str) d (assocSet (CT.eqK .str) m x v) y = if y = x then v else assocGet (CT.eqK .str) d m y
  | [] => by
    simp only [assocSet, assocGet, assoc]
    by_cases e : y = x
    · rw [if_pos e, show CT.eqK .str y x = true from beq_iff_eq.2 e]; rfl
    · rw [if_neg e, show CT.eqK .str y x = false from beq_eq_false_iff_ne.2 e]; rfl
  | p :: r => by
    have ih := get_set d x v y r
    simp only [assocSet]
    by_cases e : x = p.1
    · rw [show CT.eqK .str x p.1 = true from beq_iff_eq.2 e, cond_true]
      simp only [assocGet, assoc]
      by_cases e2 : y = x
      · rw [if_pos e2, show CT.eqK .str y x = true from beq_iff_eq.2 e2]; rfl
      · rw [if_neg e2, show CT.eqK .str y x = false from beq_eq_false_iff_ne.2 e2, show CT.eqK .str y p.1 = false from beq_eq_false_iff_ne.2 (e ▸ e2)]; rfl
    · rw [show CT.eqK .str x p.1 = false from beq_eq_false_iff_ne.2 e, cond_false]
      simp only [assocGet, assoc] at ih ⊢
      by_cases e2 : y = p.1
      · rw [show CT.eqK .str y p.1 = true from beq_iff_eq.2 e2, if_neg (fun e3 : y = x => e (e3.symm.trans e2))]
        rfl
      · rw [show CT.eqK .str y p.1 = false from beq_eq_false_iff_ne.2 e2, cond_false, cond_false]; exact ih

theorem filter_or {p q : Nat → Bool} : ∀ l : List Nat, (∀ j ∈ l, p j = true → q j = false) → (l.filter fun j => p j || q j).length = (l.filter p).length + (l.filter q).length
  | [], _ => rfl
  | j :: r, h => by
    have ih := filter_or r fun k hk => h k (List.mem_cons_of_mem _ hk)
    have hj := h j List.mem_cons_self
    cases hp : p j <;> cases hq : q j
    · rw [List.filter_cons_of_neg (by simp [hp, hq]), List.filter_cons_of_neg (by simp [hp]), List.filter_cons_of_neg (by simp [hq])]; exact ih
    · rw [List.filter_cons_of_pos (by simp [hp, hq]), List.filter_cons_of_neg (by simp [hp]), List.filter_cons_of_pos (by simp [hq]), List.length_cons, List.length_cons]; omega
    · rw [List.filter_cons_of_pos (by simp [hp, hq]), List.filter_cons_of_pos (by simp [hp]), List.filter_cons_of_neg (by simp [hq]), List.length_cons, List.length_cons]; omega
    · rw [hj hp] at hq; exact absurd hq (by decide)

theorem named_loop {n p : Nat} (hp : p < n) (w : Nat → Int) (g : Nat → List Int) (hg : ∀ k, (g k).length ≤ 1000000) : ∀ (suf pre : List Nat) (c : Nat), (pre ++ suf).Nodup → (∀ k ∈ suf, k < n) → c + suf.length ≤ 1000000 → pre.length + suf.length ≤ 1000000 →
    k99 T.rb (rowF n fun j => if j = p then (c : Int) else w j) (rowF n fun k => g k ++ if k ∈ pre then [(p : Int)] else []) (p : Nat) (ints pre ++ ints suf) ((ints pre ++ ints suf).length : Nat) ((ints pre).length : Nat)
      = some (rowF n (fun j => if j = p then ((c + suf.length : Nat) : Int) else w j), rowF n fun k => g k ++ if k ∈ pre ++ suf then [(p : Int)] else [])
  | [], pre, c, hnd, hs, hc, hl => ob99 (by
    rw [show ints [] = [] from rfl, List.append_nil pre]
    simp only [b99, lt_end, lt_self, List.append_nil, cond_false, List.length_nil, Nat.add_zero])
  | k :: suf, pre, c, hnd, hs, hc, hl => ob99 (by
    have hk := hs k List.mem_cons_self
    simp only [List.length_cons] at hc hl
    have hkp : k ∉ pre := fun x => by
      rw [List.nodup_append] at hnd
      exact hnd.2.2 k x k List.mem_cons_self rfl
    have e1 : ints (pre ++ [k]) ++ ints suf = ints pre ++ (k : Int) :: ints suf := by rw [ints_app]; simp [ints]
    have e2 : pre ++ [k] ++ suf = pre ++ k :: suf := by simp
    have e3 : ints pre ++ [(k : Int)] = ints (pre ++ [k]) := by rw [ints_app]; rfl
    have ih := named_loop hp w g hg suf (pre ++ [k]) (c + 1) (by rw [e2]; exact hnd) (fun j hj => hs j (List.mem_cons_of_mem _ hj)) (by omega) (by simp; omega)
    rw [e1, e2, show c + 1 + suf.length = c + (suf.length + 1) by omega] at ih
    have hpl : (ints pre).length < 4611686018427387904 := by rw [ints_len]; omega
    have hgk : nth (rowF n fun k => g k ++ if k ∈ pre then [(p : Int)] else []) k = some (g k) := by
      rw [rowF_get _ hk, if_neg hkp, List.append_nil]
    have hgp : nth (rowF n fun j => if j = p then (c : Int) else w j) p = some (c : Int) := by
      rw [rowF_get _ hp, if_pos rfl]
    have hs1 : setNth (rowF n fun j => if j = p then (c : Int) else w j) p (IntKind.i64.wrap ((c : Int) + 1)) = rowF n fun j => if j = p then ((c + 1 : Nat) : Int) else w j := by
      rw [rowF_set]
      refine rowF_congr fun j _ => ?_
      by_cases e : j = p
      · rw [if_pos e, if_pos e, wr_succ (by omega)]
      · rw [if_neg e, if_neg e, if_neg e]
    have hs2 : setNth (rowF n fun k => g k ++ if k ∈ pre then [(p : Int)] else []) k (g k ++ [(p : Int)]) = rowF n fun j => g j ++ if j ∈ pre ++ [k] then [(p : Int)] else [] := by
      rw [rowF_set]
      refine rowF_congr fun j _ => ?_
      by_cases e : j = k
      · subst e; rw [if_pos rfl, if_pos (by simp)]
      · rw [if_neg e]; simp [e]
    rw [ints_cons, List.length_cons]
    simp only [b99, lt_mid, inb_mid, nth_mid, cond_true, Option.bind_some]
    simp only [cond_true, Option.bind_some, inb_nat, rowF_len, dt hk, dt hp, Int.toNat_natCast, hgk, hgp, ble_most (show (g k).length + 1 ≤ 274877906944 by have := hg k; omega), Bool.and_true, blt_t hk, blt_t hp, Nat.beq_refl, Bool.true_and, hs1, hs2, next_mid (ints pre) (k : Int) hpl, e3]
    exact ih)

/-- How many are so. -/
def cntF (n : Nat) (p : Nat → Bool) : Nat := ((List.range n).filter p).length
theorem cntF_le (n : Nat) (p : Nat → Bool) : cntF n p ≤ n := by have := List.length_filter_le p (List.range n); rw [List.length_range] at this; exact this

theorem names_loop {n p : Nat} (hp : p < n) (hn : n ≤ 1000) (nm : Nat → List UInt8) (N : List (List UInt8 × List Int)) (hN : ∀ x, assocGet (CT.eqK .str) [] N x = ints ((List.range n).filter fun j => decide (nm j = x))) (w : Nat → Int) (g : Nat → List Int) (hg : ∀ k, (g k).length ≤ 10000) :
    ∀ (suf pre : List (List UInt8)), (pre ++ suf).Nodup → pre.length + suf.length ≤ 1000000 →
    k98 T.rb N (rowF n fun j => if j = p then ((cntF n (fun j => decide (nm j ∈ pre)) : Nat) : Int) else w j) (rowF n fun k => g k ++ if nm k ∈ pre then [(p : Int)] else []) (p : Nat) (pre ++ suf) ((pre ++ suf).length : Nat) (pre.length : Nat)
      = some (N, rowF n (fun j => if j = p then ((cntF n (fun j => decide (nm j ∈ pre ++ suf)) : Nat) : Int) else w j), rowF n fun k => g k ++ if nm k ∈ pre ++ suf then [(p : Int)] else [])
  | [], pre, hnd, hl => ob98 (by simp only [b98, lt_end, lt_self, List.append_nil, cond_false])
  | x :: suf, pre, hnd, hl => ob98 (by
    simp only [List.length_cons] at hl
    have hxp : x ∉ pre := fun h => by
      rw [List.nodup_append] at hnd
      exact hnd.2.2 x h x List.mem_cons_self rfl
    have e2 : pre ++ [x] ++ suf = pre ++ x :: suf := by simp
    have ih := names_loop hp hn nm N hN w g hg suf (pre ++ [x]) (by rw [e2]; exact hnd) (by simp; omega)
    rw [e2] at ih
    have hc1 := cntF_le n fun j => decide (nm j ∈ pre)
    have hc2 := cntF_le n fun j => decide (nm j = x)
    have hl6 := named_loop hp w (fun k => g k ++ if nm k ∈ pre then [(p : Int)] else []) (fun k => by have := hg k; split <;> simp <;> omega) ((List.range n).filter fun j => decide (nm j = x)) [] (cntF n fun j => decide (nm j ∈ pre)) (by rw [List.nil_append]; exact List.Nodup.sublist List.filter_sublist List.nodup_range) (fun k hk => List.mem_range.1 (List.mem_filter.1 hk).1) (by rw [cntF] at hc2; omega) (by rw [cntF] at hc2; simp only [List.length_nil]; omega)
    rw [show ints [] = [] from rfl, List.nil_append, List.nil_append, List.length_nil, show ((0 : Nat) : Int) = (0 : Int) from rfl] at hl6
    have hr1 : (rowF n fun k => (g k ++ if nm k ∈ pre then [(p : Int)] else []) ++ if k ∈ ([] : List Nat) then [(p : Int)] else []) = rowF n fun k => g k ++ if nm k ∈ pre then [(p : Int)] else [] := rowF_congr fun k _ => by simp
    have hr2 : (rowF n fun k => (g k ++ if nm k ∈ pre then [(p : Int)] else []) ++ if k ∈ (List.range n).filter (fun j => decide (nm j = x)) then [(p : Int)] else []) = rowF n fun k => g k ++ if nm k ∈ pre ++ [x] then [(p : Int)] else [] := rowF_congr fun k hk => by
      have hm : k ∈ (List.range n).filter (fun j => decide (nm j = x)) ↔ nm k = x := by simp [List.mem_filter, hk]
      by_cases h1 : nm k = x
      · rw [if_pos (hm.2 h1), if_neg (h1 ▸ hxp), if_pos (by simp [h1])]; simp
      · rw [if_neg (fun a => h1 (hm.1 a))]
        by_cases h2 : nm k ∈ pre
        · rw [if_pos h2, if_pos (by simp [h2])]; simp
        · rw [if_neg h2, if_neg (by simp [h1, h2])]; simp
    have hr3 : cntF n (fun j => decide (nm j ∈ pre)) + ((List.range n).filter fun j => decide (nm j = x)).length = cntF n (fun j => decide (nm j ∈ pre ++ [x])) := by
      rw [cntF, cntF, ← filter_or _ (fun j _ h => by
        rw [decide_eq_true_iff] at h
        exact decide_eq_false (fun e => hxp (e ▸ h)))]
      congr 1
      refine List.filter_congr fun j _ => ?_
      by_cases h1 : nm j ∈ pre <;> by_cases h2 : nm j = x <;> simp [h1, h2]
    rw [hr1, hr2, hr3] at hl6
    simp only [b98, lt_mid, inb_mid, nth_mid, cond_true, Option.bind_some, hN, hl6, next_mid pre x (by omega)]
    exact ih)

/-! The equations. -/
abbrev Eqn : Type := List UInt8 × List Nd
noncomputable def eqAt (l : List Eqn) (i : Nat) : Eqn := l.getD i ([], [])
noncomputable def nmL (l : List Eqn) (i : Nat) : List UInt8 := (eqAt l i).1
noncomputable def nsL (l : List Eqn) (i : Nat) : List (List UInt8) := needs (eqAt l i).2
/-- Does one need another? -/
noncomputable def DL (l : List Eqn) (i j : Nat) : Bool := decide (nmL l j ∈ nsL l i)
theorem eqAt_mid (pre : List Eqn) (q : Eqn) (suf : List Eqn) : eqAt (pre ++ q :: suf) pre.length = q := by
  rw [eqAt, List.getD_eq_getElem?_getD, List.getElem?_append_right (Nat.le_refl _)]; simp

theorem first_loop (l : List Eqn) (hl : l.length ≤ 1000) : ∀ (suf pre : List Eqn) (N : List (List UInt8 × List Int)), l = pre ++ suf →
    (∀ x, assocGet (CT.eqK .str) [] N x = ints ((List.range pre.length).filter fun j => decide (nmL l j = x))) →
    ∃ N', k96 T.rb N (pre ++ suf) ((pre ++ suf).length : Nat) (pre.length : Nat) = some N' ∧ ∀ x, assocGet (CT.eqK .str) [] N' x = ints ((List.range l.length).filter fun j => decide (nmL l j = x))
  | [], pre, N, he, hN => by
    rw [List.append_nil] at he
    subst he
    exact ⟨N, ob96 (by simp only [b96, lt_end, lt_self, List.append_nil, cond_false]), hN⟩
  | q :: suf, pre, N, he, hN => by
    have hll : l.length = pre.length + (suf.length + 1) := by rw [he]; simp
    have hnm : nmL l pre.length = q.1 := by rw [nmL, he, eqAt_mid]
    obtain ⟨N', hrun, hN'⟩ := first_loop l hl suf (pre ++ [q]) (assocSet (CT.eqK .str) N q.1 (assocGet (CT.eqK .str) [] N q.1 ++ [((pre.length : Nat) : Int)])) (by simp [he]) (fun x => by
      rw [get_set, hN, hN, List.length_append, List.length_singleton, List.range_succ, List.filter_append]
      by_cases e : x = q.1
      · subst e
        rw [if_pos rfl, List.filter_cons_of_pos (by simp [hnm]), ints_app]; rfl
      · rw [if_neg e, List.filter_cons_of_neg (by simp [hnm, Ne.symm e]), List.filter_nil, List.append_nil])
    have hlen : (assocGet (CT.eqK .str) [] N q.1).length + 1 ≤ 274877906944 := by
      rw [hN, ints_len]
      have := List.length_filter_le (fun j => decide (nmL l j = q.1)) (List.range pre.length)
      rw [List.length_range] at this; omega
    simp only [List.append_assoc, List.singleton_append] at hrun
    refine ⟨N', ob96 ?_, hN'⟩
    simp only [b96, lt_mid, inb_mid, nth_mid, cond_true, Option.bind_some, ble_most hlen, Bool.and_true, outI_self, next_mid pre q (by omega)]
    exact hrun

theorem waits_none (l : List Eqn) (i n : Nat) : waitsN (DL l) n [] i = cntF n fun j => decide (nmL l j ∈ nsL l i) := by
  rw [waitsN, cntF]
  congr 1
  refine List.filter_congr fun j _ => ?_
  simp [DL]

theorem second_loop (l : List Eqn) (hl : l.length ≤ 1000) (hq : ∀ q ∈ l, q.2.length ≤ 1000000) (N : List (List UInt8 × List Int)) (hN : ∀ x, assocGet (CT.eqK .str) [] N x = ints ((List.range l.length).filter fun j => decide (nmL l j = x))) :
    ∀ (suf pre : List Eqn) (h : List Int), l = pre ++ suf → HeapOf h (fun j => j < pre.length ∧ waitsN (DL l) l.length [] j = 0) →
    ∃ h', k97 T.rb N (rowF l.length fun j => if j < pre.length then ((waitsN (DL l) l.length [] j : Nat) : Int) else 0) (rowF l.length fun k => ints ((List.range pre.length).filter fun i => DL l i k)) h (pre ++ suf) ((pre ++ suf).length : Nat) (pre.length : Nat)
        = some (N, rowF l.length (fun j => ((waitsN (DL l) l.length [] j : Nat) : Int)), rowF l.length (fun k => ints ((List.range l.length).filter fun i => DL l i k)), h')
      ∧ HeapOf h' (fun j => j < l.length ∧ waitsN (DL l) l.length [] j = 0)
  | [], pre, h, he, H => by
    rw [List.append_nil] at he
    subst he
    refine ⟨h, ob97 ?_, H⟩
    simp only [b97, lt_end, lt_self, List.append_nil, cond_false]
    rw [show (rowF l.length fun j => if j < l.length then ((waitsN (DL l) l.length [] j : Nat) : Int) else 0) = rowF l.length (fun j => ((waitsN (DL l) l.length [] j : Nat) : Int)) from rowF_congr fun j hj => if_pos hj]
  | q :: suf, pre, h, he, H => by
    have hll : l.length = pre.length + (suf.length + 1) := by rw [he]; simp
    have hqa : eqAt l pre.length = q := by rw [he, eqAt_mid]
    have hqm : q ∈ l := by rw [he]; simp
    have hp : pre.length < l.length := by omega
    have hnd := needs_nodup q.2
    have hnl := needs_len q.2
    have hrun4 := names_loop hp hl (nmL l) N hN (fun j => if j < pre.length then ((waitsN (DL l) l.length [] j : Nat) : Int) else 0) (fun k => ints ((List.range pre.length).filter fun i => DL l i k)) (fun k => by
      rw [ints_len]
      have := List.length_filter_le (fun i => DL l i k) (List.range pre.length)
      rw [List.length_range] at this; omega) (needs q.2) [] (by simpa using hnd) (by simp; omega)
    rw [List.nil_append, List.length_nil, show ((0 : Nat) : Int) = (0 : Int) from rfl] at hrun4
    have a1 : (rowF l.length fun j => if j = pre.length then ((cntF l.length (fun j => decide (nmL l j ∈ ([] : List (List UInt8)))) : Nat) : Int) else if j < pre.length then ((waitsN (DL l) l.length [] j : Nat) : Int) else 0) = rowF l.length fun j => if j < pre.length then ((waitsN (DL l) l.length [] j : Nat) : Int) else 0 := rowF_congr fun j _ => by
      by_cases e : j = pre.length
      · subst e; rw [if_pos rfl, if_neg (by omega)]; simp [cntF]
      · rw [if_neg e]
    have a2 : (rowF l.length fun k => ints ((List.range pre.length).filter fun i => DL l i k) ++ if nmL l k ∈ ([] : List (List UInt8)) then [((pre.length : Nat) : Int)] else []) = rowF l.length fun k => ints ((List.range pre.length).filter fun i => DL l i k) := rowF_congr fun k _ => by simp
    have hns : nsL l pre.length = needs q.2 := by rw [nsL, hqa]
    have a3 : (rowF l.length fun j => if j = pre.length then ((cntF l.length (fun j => decide (nmL l j ∈ needs q.2)) : Nat) : Int) else if j < pre.length then ((waitsN (DL l) l.length [] j : Nat) : Int) else 0) = rowF l.length fun j => if j < (pre ++ [q]).length then ((waitsN (DL l) l.length [] j : Nat) : Int) else 0 := rowF_congr fun j _ => by
      rw [List.length_append, List.length_singleton]
      by_cases e : j = pre.length
      · subst e; rw [if_pos rfl, if_pos (by omega), waits_none, hns]
      · rw [if_neg e]
        by_cases e2 : j < pre.length
        · rw [if_pos e2, if_pos (by omega)]
        · rw [if_neg e2, if_neg (by omega)]
    have a4 : (rowF l.length fun k => ints ((List.range pre.length).filter fun i => DL l i k) ++ if nmL l k ∈ needs q.2 then [((pre.length : Nat) : Int)] else []) = rowF l.length fun k => ints ((List.range (pre ++ [q]).length).filter fun i => DL l i k) := rowF_congr fun k _ => by
      rw [List.length_append, List.length_singleton, List.range_succ, List.filter_append]
      by_cases e : nmL l k ∈ needs q.2
      · rw [if_pos e, List.filter_cons_of_pos (by simp [DL, hns, e]), ints_app]; rfl
      · rw [if_neg e, List.filter_cons_of_neg (by simp [DL, hns, e]), List.filter_nil, List.append_nil, List.append_nil]
    rw [a1, a2, a3, a4] at hrun4
    have hhl : h.length ≤ l.length := heapOf_len H fun j hj => by omega
    have hgp : nth (rowF l.length fun j => if j < (pre ++ [q]).length then ((waitsN (DL l) l.length [] j : Nat) : Int) else 0) pre.length = some ((waitsN (DL l) l.length [] pre.length : Nat) : Int) := by
      rw [rowF_get _ hp, if_pos (by simp)]
    have go : ∀ h1, HeapOf h1 (fun j => j < (pre ++ [q]).length ∧ waitsN (DL l) l.length [] j = 0) → _ := fun h1 H1 => second_loop l hl hq N hN suf (pre ++ [q]) h1 (by simp [he]) H1
    simp only [List.append_assoc, List.singleton_append] at go
    by_cases hz : waitsN (DL l) l.length [] pre.length = 0
    · obtain ⟨h1, hP, H1⟩ := heapOf_push (k := pre.length) H (fun x => absurd x.1 (by omega)) (by omega)
      obtain ⟨h2, hrun, H2⟩ := go h1 (heapOf_congr H1 fun j => by
        rw [List.length_append, List.length_singleton]
        constructor
        · rintro (a | a)
          · exact ⟨by omega, a.2⟩
          · exact ⟨by omega, a ▸ hz⟩
        · rintro ⟨a, b⟩
          by_cases e : j = pre.length
          · exact Or.inr e
          · exact Or.inl ⟨by omega, b⟩)
      refine ⟨h2, ob97 ?_, H2⟩
      simp only [b97, lt_mid, inb_mid, nth_mid, cond_true, Option.bind_some, Needs_eq (hq q hqm), hrun4]
      simp only [inb_nat, rowF_len, dt hp, cond_true, Int.toNat_natCast, hgp, Option.bind_some, bt (show ((waitsN (DL l) l.length [] pre.length : Nat) : Int) = 0 by omega), hP, next_mid pre q (by omega)]
      exact hrun
    · obtain ⟨h2, hrun, H2⟩ := go h (heapOf_congr H fun j => by
        rw [List.length_append, List.length_singleton]
        constructor
        · rintro a
          exact ⟨by omega, a.2⟩
        · rintro ⟨a, b⟩
          by_cases e : j = pre.length
          · exact absurd (e ▸ b) hz
          · exact ⟨by omega, b⟩)
      refine ⟨h2, ob97 ?_, H2⟩
      simp only [b97, lt_mid, inb_mid, nth_mid, cond_true, Option.bind_some, Needs_eq (hq q hqm), hrun4]
      simp only [inb_nat, rowF_len, dt hp, cond_true, cond_false, Int.toNat_natCast, hgp, Option.bind_some, bf (show ((waitsN (DL l) l.length [] pre.length : Nat) : Int) ≠ 0 by omega), next_mid pre q (by omega)]
      exact hrun

/-- The order of equations. -/
noncomputable def orderL (l : List Eqn) : List Int × Int := ordO (DL l) l.length

theorem Order_eq {l : List Eqn} (hl : l.length ≤ 1000) (hq : ∀ q ∈ l, q.2.length ≤ 1000000) : c44 T.rf l = some (orderL l) := or44 (by
  obtain ⟨N, h1, hN⟩ := first_loop l hl l [] [] rfl (fun x => by simp [assocGet, assoc, ints])
  rw [List.nil_append, List.length_nil, show ((0 : Nat) : Int) = (0 : Int) from rfl] at h1
  obtain ⟨h, h2, H⟩ := second_loop l hl hq N hN l [] [] rfl (heapOf_nil fun j hj => absurd hj.1 (by simp))
  rw [List.nil_append, List.length_nil, show ((0 : Nat) : Int) = (0 : Int) from rfl] at h2
  have e1 : (rowF l.length fun j => if j < 0 then ((waitsN (DL l) l.length [] j : Nat) : Int) else 0) = List.replicate l.length 0 := by
    rw [rowF_rep]; exact rowF_congr fun j _ => if_neg (by omega)
  have e2 : (rowF l.length fun k => ints ((List.range 0).filter fun i => DL l i k)) = List.replicate l.length [] := by
    rw [rowF_rep]; exact rowF_congr fun j _ => rfl
  rw [e1, e2] at h2
  obtain ⟨w, h', h3⟩ := main_loop (D := DL l) hl l.length [] h Val.nil (by simp) (heapOf_congr H fun j => by
    rw [rdy, Bool.and_eq_true, decide_eq_true_iff]
    simp)
  rw [show ints [] = [] from rfl] at h3
  have hgl := val_len (greedy_val l.length [] (Val.nil (D := DL l) (n := l.length)))
  have hm : inb' ((l.length : Nat) : Int) most = true := inb'_t (by omega) (by rw [show most = 274877906944 from rfl]; omega)
  have hm2 : inb' ((l.length : Nat) : Int) l.length = true := inb'_t (by omega) (by omega)
  simp only [r44, df (show ¬ (((l.length : Nat) : Int) > 4000) by omega), cond_false, h1, Option.bind_some, hm, hm2, cond_true, h2, h3, ints_len]
  rw [orderL, ordO]
  by_cases hlt : (greedy (DL l) l.length l.length []).length < l.length
  · rw [if_pos hlt, dt (by omega)]; rfl
  · rw [if_neg hlt, df (by omega)]; rfl)

end Go.Proofs.YtifoobdekbjmdaaGreat.R
