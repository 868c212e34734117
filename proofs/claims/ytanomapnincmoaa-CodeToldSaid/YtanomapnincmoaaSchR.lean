/-
  OUR OWN: a net that is sorted tells the same.
-/
import Derived.Test.YtanomapnincmoaaSchL
namespace Go.Proofs.Ytanomapnincmoaa.R
open Go Go.Bm Go.Proofs
set_option linter.unusedVariables false
set_option linter.unusedSimpArgs false
set_option maxRecDepth 4000

/-! What an operator makes of its operands: something. -/
theorem some_bif {α : Type} {c : Bool} {x y : Option α} (h1 : c = true → ∃ v, x = some v) (h2 : c = false → ∃ v, y = some v) : ∃ v, (bif c then x else y) = some v := by
  cases c
  · exact h2 rfl
  · exact h1 rfl
theorem truth_eq (b : Bool) : c63 T.rf b = some (if b then 1 else 0) := or63 (by cases b <;> rfl)
theorem over_eq (x : Int) : c64 T.rf x = some (if -2147483648 ≤ x ∧ x ≤ 2147483647 then (x, 0) else (0, 2)) := or64 (by
  simp only [r64, refFits_eq, Option.bind_some]
  by_cases h : -2147483648 ≤ x ∧ x ≤ 2147483647
  · rw [dt h, if_pos h]; rfl
  · rw [df h, if_neg h]; rfl)
theorem size_eq {x : Int} (h : -2147483648 ≤ x ∧ x ≤ 2147483647) : c66 T.rf x = some ((x.natAbs : Nat) : Int) := or66 (by
  simp only [r66]
  by_cases h0 : x < 0
  · rw [dt h0, cond_true, wr (by omega)]; congr 1; omega
  · rw [df h0, cond_false]; congr 1; omega)
theorem parts_some {a b : Int} (ha : decide (-2147483648 ≤ a ∧ a ≤ 2147483647) = true) (hb : decide (-2147483648 ≤ b ∧ b ≤ 2147483647) = true) (h0 : (b == 0) = false) : ∃ y, c65 T.rf a b = some y := by
  have h1 : b ≠ 0 := by intro e; rw [e] at h0; exact absurd h0 (by decide)
  exact ⟨_, or65 (by
    simp only [r65, size_eq (of_decide_eq_true ha), size_eq (of_decide_eq_true hb), Option.bind_some, bf (show ((b.natAbs : Nat) : Int) ≠ 0 by omega), cond_false]
    rfl)⟩
theorem bind_ex {α β : Type} {x : Option α} {g : α → Option β} (hx : ∃ y, x = some y) (hg : ∀ y, ∃ v, g y = some v) : ∃ v, x.bind g = some v := by
  obtain ⟨y, rfl⟩ := hx
  exact hg y
theorem Do_some (op a b c : Int) : ∃ y, c62 T.rf op a b c = some y := by
  have key : ∃ y, r62 T.rf T.rb op a b c = some y := by
    simp only [r62, refOperands_eq, refFits_eq, truth_eq, over_eq, Option.bind_some]
    by_cases hop : op = 4 ∨ op = 5
    · rw [if_pos hop]
      refine some_bif (fun h => absurd h (by decide)) (fun _ => ?_)
      refine some_bif (fun h => ⟨_, rfl⟩) (fun ha => ?_)
      refine some_bif (fun h => absurd h (by decide)) (fun _ => ?_)
      refine some_bif (fun h => absurd h (by decide)) (fun _ => ?_)
      rcases hop with e | e
      · subst e; exact ⟨_, rfl⟩
      · subst e; exact ⟨_, rfl⟩
    · rw [if_neg hop]
      by_cases h2 : 6 ≤ op ∧ op ≤ 18
      · rw [if_pos h2]
        refine some_bif (fun h => absurd h (by decide)) (fun _ => ?_)
        refine some_bif (fun h => ⟨_, rfl⟩) (fun ha => ?_)
        refine some_bif (fun _ => ?_) (fun h => absurd h (by decide))
        refine some_bif (fun h => ⟨_, rfl⟩) (fun hb => ?_)
        refine some_bif (fun h => absurd h (by decide)) (fun _ => ?_)
        repeat' refine some_bif (fun _ => ?_) (fun _ => ?_)
        all_goals first
          | exact ⟨_, rfl⟩
          | (refine bind_ex (parts_some (by simpa using ha) (by simpa using hb) (by assumption)) (fun y => ?_)
             repeat' refine some_bif (fun _ => ?_) (fun _ => ?_)
             all_goals exact ⟨_, rfl⟩)
      · rw [if_neg h2]
        by_cases h26 : op = 26
        · subst h26
          rw [if_pos rfl]
          refine some_bif (fun h => absurd h (by decide)) (fun _ => ?_)
          refine some_bif (fun h => ⟨_, rfl⟩) (fun ha => ?_)
          refine some_bif (fun _ => ?_) (fun h => absurd h (by decide))
          refine some_bif (fun h => ⟨_, rfl⟩) (fun hb => ?_)
          refine some_bif (fun _ => ?_) (fun h => absurd h (by decide))
          refine some_bif (fun h => ⟨_, rfl⟩) (fun hc => ?_)
          show ∃ v, (bif a != 0 then some (b, 0) else some (c, 0)) = some v
          cases (a != 0) <;> exact ⟨_, rfl⟩
        · rw [if_neg h26]
          exact some_bif (fun h => ⟨_, rfl⟩) (fun h => absurd h (by decide))
  obtain ⟨y, hy⟩ := key
  exact ⟨y, or62 hy⟩
noncomputable def doN (op a b c : Int) : Int × Int := (Do_some op a b c).choose
theorem doN_eq (op a b c : Int) : c62 T.rf op a b c = some (doN op a b c) := (Do_some op a b c).choose_spec

/-! An operator's value at an instant. -/
def argF (x : Od) (f : Nat → Int) (j : Nat) : Int := ((opsN x).map fun k => f k.toNat).getD j 0
noncomputable def valO (x : Od) (f : Nat → Int) (W inp : List Int) : Int × Int :=
  if x.1 = 3 then (inp.getD x.2.2.2.2.toNat 0, 0) else if x.1 = 1 ∨ x.1 = 2 then (x.2.2.2.2, 0) else
  if x.1 = 19 then (if W.length = 0 then f x.2.1.toNat else f x.2.2.1.toNat, 0) else
  if x.1 = 21 then (if W.length = 0 then 0 else W.getD x.2.1.toNat 0, 0) else doN x.1 (argF x f 0) (argF x f 1) (argF x f 2)
theorem getD_nth0 {l : List Int} {i : Nat} (h : i < l.length) : nth l i = some (l.getD i 0) := by
  rw [nth_t h, List.getD_eq_getElem?_getD, List.getElem?_eq_getElem h]; rfl
theorem args_loop {N : Nat} (f : Nat → Int) : ∀ (suf pre : List Int) (Z : List Int), (∀ k ∈ suf, 0 ≤ k ∧ k < N) → pre.length + suf.length ≤ 3 → pre.length + Z.length = 3 →
    k248 T.rb (rowF N f) (pre ++ suf) (pre.map (fun k => f k.toNat) ++ Z) (pre.length : Nat) = some (rowF N f, pre ++ suf, (pre ++ suf).map (fun k => f k.toNat) ++ Z.drop suf.length)
  | [], pre, Z, hs, hl, hz => ob248 (by simp only [b248, lt_end, lt_self, List.append_nil, cond_false, List.length_nil, List.drop_zero])
  | k :: suf, pre, Z, hs, hl, hz => ob248 (by
    have hk := hs k List.mem_cons_self
    simp only [List.length_cons] at hl
    obtain ⟨z, Z', rfl⟩ := List.exists_cons_of_ne_nil (show Z ≠ [] from fun e => by rw [e, List.length_nil] at hz; omega)
    rw [List.length_cons] at hz
    have ih := args_loop f suf (pre ++ [k]) Z' (fun j hj => hs j (List.mem_cons_of_mem _ hj)) (by simp; omega) (by simp; omega)
    simp only [List.append_assoc, List.singleton_append, List.map_append, List.map_cons, List.map_nil] at ih
    have hget : nth (rowF N f) k.toNat = some (f k.toNat) := rowF_get f (by omega)
    have hin : inb k (rowF N f).length = true := inb_t hk.1 (by rw [rowF_len]; exact hk.2)
    have hln : ((pre.map fun k => f k.toNat) ++ z :: Z').length = 3 := by simp; omega
    have hset : setNth ((pre.map fun k => f k.toNat) ++ z :: Z') pre.length (f k.toNat) = (pre.map fun k => f k.toNat) ++ f k.toNat :: Z' := by
      rw [setNth_set, List.set_append_right _ _ (by simp)]; simp
    rw [List.map_append, List.map_cons, List.append_assoc, List.cons_append, List.length_cons, List.drop_succ_cons]
    simp only [b248, lt_mid, inb_mid, nth_mid, cond_true, Option.bind_some]
    simp only [cond_true, Option.bind_some, hin, hget, hln, Int.toNat_natCast, inb_nat, dt (show pre.length < 3 by omega), blt_t (show pre.length < 3 by omega), hset, next_mid pre k (by omega)]
    exact ih)
theorem may_at {n : Nt} (hm : mayN n = true) {i : Nat} (hi : i < n.1.length) : (usedN (opAtN n i)).all (inN n.1.length) = true ∧ plainN n (opAtN n i) = true := by
  rw [mayN, Bool.and_eq_true, List.all_eq_true] at hm
  have := hm.1 _ (opAtN_mem hi)
  rw [mayO, Bool.and_eq_true, Bool.and_eq_true, Bool.and_eq_true] at this
  exact ⟨this.2.1, this.2.2.2⟩
theorem value_eq {n : Nt} (hm : mayN n = true) {i : Nat} (hi : i < n.1.length) (f : Nat → Int) {W inp : List Int} (hW : W.length = 0 ∨ W.length = n.1.length) (hin : inp.length = n.2.2.length) :
    c87 T.rf (rowF n.1.length f) (opAtN n i) inp W = some (rowF n.1.length f, valO (opAtN n i) f W inp) := or87 (by
  have hN := may_N hm
  obtain ⟨hu, hpl⟩ := may_at hm hi
  have hops := hN.ops i hi
  have hk0 := hN.kids i hi
  have hol := opsN_len (opAtN n i)
  generalize opAtN n i = x at *
  simp only [r87]
  unfold valO
  by_cases h3 : x.1 = 3
  · rw [plainN, if_pos h3] at hpl
    have hb := of_decide_eq_true hpl
    rw [bt h3, cond_true, if_pos h3, inb_t hb.1 (by omega), cond_true, getD_nth0 (by omega)]
    rfl
  rw [bf h3, cond_false, if_neg h3]
  by_cases h1 : x.1 = 1
  · rw [bt h1, cond_true, cond_true, if_pos (Or.inl h1)]
  rw [bf h1, cond_false]
  by_cases h2 : x.1 = 2
  · rw [bt h2, cond_true, if_pos (Or.inr h2)]
  rw [bf h2, cond_false, if_neg (fun h => h.elim h1 h2)]
  by_cases h19 : x.1 = 19
  · have hkk : manyN x = 2 := by unfold manyN kidsN; rw [h19]; rfl
    have hA : inN n.1.length x.2.1 = true ∧ inN n.1.length x.2.2.1 = true := by
      rw [usedN, hkk] at hu
      simp [flds] at hu
      exact hu
    have a := of_decide_eq_true hA.1
    have b := of_decide_eq_true hA.2
    have ga : nth (rowF n.1.length f) x.2.1.toNat = some (f x.2.1.toNat) := rowF_get f (by omega)
    have gb : nth (rowF n.1.length f) x.2.2.1.toNat = some (f x.2.2.1.toNat) := rowF_get f (by omega)
    rw [bt h19, cond_true, if_pos h19]
    by_cases hw : W.length = 0
    · rw [bt (by omega), cond_true, if_pos hw, inb_t a.1 (by rw [rowF_len]; exact a.2), cond_true, ga]; rfl
    · rw [bf (by omega), cond_false, if_neg hw, inb_t b.1 (by rw [rowF_len]; exact b.2), cond_true, gb]; rfl
  rw [bf h19, cond_false, if_neg h19]
  by_cases h21 : x.1 = 21
  · have hkk : manyN x = 1 := by unfold manyN kidsN; rw [h21]; rfl
    have hA : inN n.1.length x.2.1 = true := by
      rw [usedN, hkk] at hu
      simp [flds] at hu
      exact hu
    have a := of_decide_eq_true hA
    rw [bt h21, cond_true, if_pos h21]
    by_cases hw : W.length = 0
    · rw [bt (by omega), cond_true, if_pos hw]
    · have hwl : W.length = n.1.length := hW.resolve_left hw
      rw [bf (by omega), cond_false, if_neg hw, inb_t a.1 (by omega), cond_true, getD_nth0 (by omega)]; rfl
  rw [bf h21, cond_false, if_neg h21]
  have hargs := args_loop f (opsN x) [] [0, 0, 0] hops (by simpa using hol) (by simp)
  rw [List.nil_append, List.length_nil, List.map_nil, List.nil_append, show ((0 : Nat) : Int) = (0 : Int) from rfl] at hargs
  have hln : ((opsN x).map (fun k => f k.toNat) ++ ([0, 0, 0] : List Int).drop (opsN x).length).length = 3 := by simp; omega
  have hg : ∀ j, j < 3 → nth ((opsN x).map (fun k => f k.toNat) ++ ([0, 0, 0] : List Int).drop (opsN x).length) j = some (argF x f j) := fun j hj => by
    rw [nth_getElem?]
    unfold argF
    by_cases h : j < (opsN x).length
    · rw [List.getElem?_append_left (by simpa using h), List.getD_eq_getElem?_getD, List.getElem?_eq_getElem (by simpa using h)]; rfl
    · have e1 : ((opsN x).map fun k => f k.toNat)[j]? = none := List.getElem?_eq_none (by simpa using h)
      rw [List.getElem?_append_right (by simpa using h), List.getD_eq_getElem?_getD, e1, List.getElem?_drop, List.length_map]
      rw [show (opsN x).length + (j - (opsN x).length) = j by omega]
      rcases (show j = 0 ∨ j = 1 ∨ j = 2 by omega) with e | e | e <;> subst e <;> rfl
  have ht : k247 T.rb (rowF n.1.length f) x = some (rowF n.1.length f, x, doN x.1 (argF x f 0) (argF x f 1) (argF x f 2)) := ob247 (by
    simp only [b247, refOps_eq hk0, Option.bind_some, hargs, hln, inb_t (x := 0) (n := 3) (by decide) (by decide), inb_t (x := 1) (n := 3) (by decide) (by decide), inb_t (x := 2) (n := 3) (by decide) (by decide), cond_true, hg 0 (by decide), hg 1 (by decide), hg 2 (by decide), doN_eq])
  rw [ht, Option.bind_some])

/-! An instant. -/
noncomputable def stepR (n : Nt) (W inp : List Int) (s : (Nat → Int) × Int) (i : Nat) : (Nat → Int) × Int :=
  (fun k => if k = i then (valO (opAtN n i) s.1 W inp).1 else s.1 k, if (valO (opAtN n i) s.1 W inp).2 ≠ 0 ∧ (s.2 = 0 ∨ (valO (opAtN n i) s.1 W inp).2 < s.2) then (valO (opAtN n i) s.1 W inp).2 else s.2)
theorem step_loop {n : Nt} (hm : mayN n = true) {W inp : List Int} (hW : W.length = 0 ∨ W.length = n.1.length) (hin : inp.length = n.2.2.length) {ins : List (List Int)} {t : Nat} (ht : nth ins t = some inp) (htl : t < ins.length) :
    ∀ (suf pre : List Nat) (s : (Nat → Int) × Int), (∀ k ∈ suf, k < n.1.length) → pre.length + suf.length ≤ 1000 →
    k254 T.rb n (ints pre ++ ints suf) (rowF n.1.length s.1) ins W (t : Nat) s.2 ((ints pre).length : Nat)
      = some (n, ints pre ++ ints suf, rowF n.1.length (suf.foldl (stepR n W inp) s).1, (suf.foldl (stepR n W inp) s).2)
  | [], pre, s, hs, hl => ob254 (by
    rw [show ints [] = [] from rfl]
    simp only [b254, lt_end, lt_self, List.append_nil, cond_false, List.foldl_nil])
  | k :: suf, pre, s, hs, hl => ob254 (by
    have hk := hs k List.mem_cons_self
    simp only [List.length_cons] at hl
    have e1 : ints (pre ++ [k]) ++ ints suf = ints pre ++ (k : Int) :: ints suf := by rw [ints_app]; simp [ints]
    have e3 : ints pre ++ [(k : Int)] = ints (pre ++ [k]) := by rw [ints_app]; rfl
    have ih := step_loop hm hW hin ht htl suf (pre ++ [k]) (stepR n W inp s k) (fun j hj => hs j (List.mem_cons_of_mem _ hj)) (by simp; omega)
    rw [e1] at ih
    have hpl : (ints pre).length < 4611686018427387904 := by rw [ints_len]; omega
    have hset : setNth (rowF n.1.length s.1) k (valO (opAtN n k) s.1 W inp).1 = rowF n.1.length (stepR n W inp s k).1 := rowF_set _ _
    have hti : inb ((t : Nat) : Int) ins.length = true := inb_t (by omega) (by omega)
    rw [ints_cons, List.foldl_cons]
    simp only [b254, lt_mid, inb_mid, nth_mid, cond_true, Option.bind_some]
    simp only [hti, cond_true, inb_nat, rowF_len, dt hk, Int.toNat_natCast, opAtN_nth hk, Option.bind_some, ht, value_eq hm hk s.1 hW hin, blt_t hk, hset, next_mid (ints pre) (k : Int) hpl, e3]
    rw [show (stepR n W inp s k).2 = if (valO (opAtN n k) s.1 W inp).2 ≠ 0 ∧ (s.2 = 0 ∨ (valO (opAtN n k) s.1 W inp).2 < s.2) then (valO (opAtN n k) s.1 W inp).2 else s.2 from rfl] at ih
    by_cases h1 : (valO (opAtN n k) s.1 W inp).2 = 0
    · rw [if_neg (fun h => h.1 h1)] at ih
      rw [nbt h1, cond_false]; exact ih
    · rw [nbf h1, cond_true]
      by_cases h2 : s.2 = 0
      · rw [if_pos ⟨h1, Or.inl h2⟩] at ih
        rw [bt h2, cond_true]; exact ih
      · rw [bf h2, cond_false]
        by_cases h3 : (valO (opAtN n k) s.1 W inp).2 < s.2
        · rw [if_pos ⟨h1, Or.inr h3⟩] at ih
          rw [dt h3, cond_true]; exact ih
        · rw [if_neg (fun h => h.2.elim h2 h3)] at ih
          rw [df h3, cond_false]; exact ih)
theorem tell_loop {n : Nt} (hN : NetP n) (f : Nat → Int) : ∀ (suf pre : List Int), n.2.1 = pre ++ suf → pre.length + suf.length ≤ 1000 →
    k255 T.rb n (rowF n.1.length f) (pre.map fun k => f k.toNat) (pre.length : Nat) = some (n, rowF n.1.length f, n.2.1.map fun k => f k.toNat)
  | [], pre, he, hl => ob255 (by
    rw [List.append_nil] at he
    simp only [b255, he, lt_self, cond_false])
  | k :: suf, pre, he, hl => ob255 (by
    have hk := hN.root k (by rw [he]; simp)
    simp only [List.length_cons] at hl
    have hll : n.2.1.length = pre.length + (suf.length + 1) := by rw [he]; simp
    have ih := tell_loop hN f suf (pre ++ [k]) (by simp [he]) (by simp; omega)
    rw [List.map_append, List.map_singleton] at ih
    have hbl : Nat.ble ((pre.map fun k => f k.toNat).length + 1) most = true := ble_most (by rw [List.length_map]; omega)
    have hlt : decide (((pre.length : Nat) : Int) < ((n.2.1.length : Nat) : Int)) = true := dt (by omega)
    have hin : inb ((pre.length : Nat) : Int) n.2.1.length = true := inb_t (by omega) (by omega)
    have hnt : nth n.2.1 ((pre.length : Nat) : Int).toNat = some k := by rw [he]; exact nth_mid pre k suf
    have hgv : nth (rowF n.1.length f) k.toNat = some (f k.toNat) := rowF_get f (by omega)
    have hgi : inb k (rowF n.1.length f).length = true := inb_t hk.1 (by rw [rowF_len]; exact hk.2)
    simp only [b255, hlt, hin, hnt, cond_true, Option.bind_some, hgv, hgi, hbl, Bool.and_true, next_mid pre k (by omega)]
    exact ih)

/-! What may be told to a net. -/
def frB (t x : Int) : Bool := decide (-2147483648 ≤ x ∧ x ≤ 2147483647) && !(decide (t = 1) && (decide (x ≠ 0) && decide (x ≠ 1)))
def frL : List Int → List Int → Bool
  | t :: ts, x :: xs => frB t x && frL ts xs
  | _, _ => true
def frameB (ts l : List Int) : Bool := decide (l.length = ts.length) && frL ts l
theorem frame_loop {n : Nt} (hl : n.2.2.length ≤ 1000000) : ∀ (suf pre ts tp : List Int), n.2.2 = tp ++ ts → tp.length = pre.length → ts.length = suf.length →
    ∃ z, k243 T.rb n (pre ++ suf) (pre.length : Nat) = some z ∧ (match z with
      | .inl u => u.2 = false ∧ frL ts suf = false
      | .inr _ => frL ts suf = true)
  | [], pre, ts, tp, he, h1, h2 => ⟨.inr n, ob243 (by simp only [b243, lt_end, lt_self, List.append_nil, cond_false]), by cases ts <;> rfl⟩
  | x :: suf, pre, [], tp, he, h1, h2 => by simp at h2
  | x :: suf, pre, t :: ts, tp, he, h1, h2 => by
    simp only [List.length_cons] at h2
    have hll : n.2.2.length = tp.length + (ts.length + 1) := by rw [he]; simp
    obtain ⟨z, ih, hz⟩ := frame_loop hl suf (pre ++ [x]) ts (tp ++ [t]) (by simp [he]) (by simp [h1]) (by omega)
    simp only [List.append_assoc, List.singleton_append] at ih
    have hit : inb ((pre.length : Nat) : Int) n.2.2.length = true := inb_t (by omega) (by omega)
    have hnt : nth n.2.2 ((pre.length : Nat) : Int).toNat = some t := by rw [he, ← h1]; exact nth_mid tp t ts
    have go : frB t x = true → (∀ y, k243 T.rb n (pre ++ x :: suf) (((pre ++ [x]).length : Nat) : Int) = some y → b243 T.rf T.rb n (pre ++ x :: suf) (pre.length : Nat) = some y) → ∃ z, k243 T.rb n (pre ++ x :: suf) (pre.length : Nat) = some z ∧ (match z with
      | .inl u => u.2 = false ∧ frL (t :: ts) (x :: suf) = false
      | .inr _ => frL (t :: ts) (x :: suf) = true) := fun hb hs => by
      refine ⟨z, ob243 (hs z ih), ?_⟩
      cases z with
      | inl u => exact ⟨hz.1, by rw [frL, hb, hz.2]; rfl⟩
      | inr u => show frL (t :: ts) (x :: suf) = true; rw [frL, hb]; exact hz
    have no : frB t x = false → b243 T.rf T.rb n (pre ++ x :: suf) (pre.length : Nat) = some (.inl (n, false)) → ∃ z, k243 T.rb n (pre ++ x :: suf) (pre.length : Nat) = some z ∧ (match z with
      | .inl u => u.2 = false ∧ frL (t :: ts) (x :: suf) = false
      | .inr _ => frL (t :: ts) (x :: suf) = true) := fun hb hs => ⟨.inl (n, false), ob243 hs, rfl, by rw [frL, hb]; rfl⟩
    by_cases hf : -2147483648 ≤ x ∧ x ≤ 2147483647
    · by_cases ht : t = 1
      · by_cases h0 : x = 0
        · refine go (by rw [frB, dt hf, df (show ¬ x ≠ 0 from fun h => h h0)]; simp) (fun y hy => ?_)
          simp only [b243, lt_mid, inb_mid, nth_mid, cond_true, Option.bind_some, refFits_eq, dt hf, Bool.not_true, cond_false, hit, hnt, bt ht, nbt h0, next_mid pre x (by omega)]
          exact hy
        · by_cases h1 : x = 1
          · refine go (by rw [frB, dt hf, df (show ¬ x ≠ 1 from fun h => h h1)]; simp) (fun y hy => ?_)
            simp only [b243, lt_mid, inb_mid, nth_mid, cond_true, Option.bind_some, refFits_eq, dt hf, Bool.not_true, cond_false, hit, hnt, bt ht, nbf h0, nbt h1, next_mid pre x (by omega)]
            exact hy
          · refine no (by rw [frB, dt hf, dt ht, dt h0, dt h1]; rfl) ?_
            simp only [b243, lt_mid, inb_mid, nth_mid, cond_true, Option.bind_some, refFits_eq, dt hf, Bool.not_true, cond_false, hit, hnt, bt ht, nbf h0, nbf h1]
      · refine go (by rw [frB, dt hf, df ht]; rfl) (fun y hy => ?_)
        simp only [b243, lt_mid, inb_mid, nth_mid, cond_true, Option.bind_some, refFits_eq, dt hf, Bool.not_true, cond_false, hit, hnt, bf ht, next_mid pre x (by omega)]
        exact hy
    · refine no (by rw [frB, df hf]; rfl) ?_
      simp only [b243, lt_mid, inb_mid, nth_mid, cond_true, Option.bind_some, refFits_eq, df hf, Bool.not_false]
theorem frame_eq {n : Nt} (hl : n.2.2.length ≤ 1000000) (l : List Int) : c86 T.rf n l = some (frameB n.2.2 l) := or86 (by
  simp only [r86]
  unfold frameB
  by_cases h : l.length = n.2.2.length
  · obtain ⟨z, h0, hz⟩ := frame_loop hl l [] n.2.2 [] rfl rfl h.symm
    rw [List.nil_append, List.length_nil, show ((0 : Nat) : Int) = (0 : Int) from rfl] at h0
    rw [nbt (by omega), cond_false, h0, Option.bind_some, dt h, Bool.true_and]
    cases z with
    | inl u => rw [hz.2]; exact congrArg some hz.1
    | inr u => exact congrArg some (Eq.symm hz)
  · rw [nbf (by omega), cond_true, df h]; rfl)

/-! The instants. -/
noncomputable def runL (n : Nt) (V : List Nat) : List (List Int) → List (List Int) → List Int → List (List Int) × Int
  | [], out, _ => (out, 0)
  | inp :: r, out, W => if frameB n.2.2 inp = true then
      (if (V.foldl (stepR n W inp) (fun _ => 0, 0)).2 = 0 then runL n V r (out ++ [n.2.1.map fun k => (V.foldl (stepR n W inp) (fun _ => 0, 0)).1 k.toNat]) (rowF n.1.length (V.foldl (stepR n W inp) (fun _ => 0, 0)).1) else (out, (V.foldl (stepR n W inp) (fun _ => 0, 0)).2))
    else (out, 17)
def outRun : (Nt × List Int × List (List Int) × Int) ⊕ (Nt × List Int × List (List Int)) → List (List Int) × Int
  | .inl u => u.2.2
  | .inr w => (w.2.2, 0)
theorem run_loop {n : Nt} (hm : mayN n = true) (h1 : n.1.length ≤ 1000) (h2 : n.2.1.length ≤ 1000) (h3 : n.2.2.length ≤ 1000) (V : List Nat) (hV : ∀ k ∈ V, k < n.1.length) (hVl : V.length ≤ 1000) : ∀ (suf pre : List (List Int)) (out : List (List Int)) (W : List Int), pre.length + suf.length ≤ 1000 → out.length + suf.length ≤ 1000 → (W.length = 0 ∨ W.length = n.1.length) →
    ∃ z, k253 T.rb n (ints V) out (pre ++ suf) W (pre.length : Nat) = some z ∧ outRun z = runL n V suf out W
  | [], pre, out, W, hl, ho, hW => ⟨.inr (n, ints V, out), ob253 (by simp only [b253, lt_end, lt_self, List.append_nil, cond_false]), rfl⟩
  | inp :: suf, pre, out, W, hl, ho, hW => by
    simp only [List.length_cons] at hl ho
    rw [runL]
    have hfr := frame_eq (n := n) (by omega) inp
    have hm1 : inb' ((n.1.length : Nat) : Int) most = true := inb'_t (by omega) (by rw [show most = 274877906944 from rfl]; omega)
    have hm2 : inb' ((n.1.length : Nat) : Int) n.1.length = true := inb'_t (by omega) (by omega)
    cases hf : frameB n.2.2 inp
    · refine ⟨.inl (n, ints V, out, 17), ob253 ?_, by rw [if_neg (by decide)]; rfl⟩
      simp only [b253, lt_mid, inb_mid, nth_mid, cond_true, Option.bind_some, hfr, hf, Bool.not_false]
    · rw [if_pos rfl]
      have hil : inp.length = n.2.2.length := by
        rw [frameB, Bool.and_eq_true] at hf
        exact of_decide_eq_true hf.1
      have hnt : nth (pre ++ inp :: suf) pre.length = some inp := by have := nth_mid pre inp suf; rwa [Int.toNat_natCast] at this
      have hst := step_loop hm hW hil (ins := pre ++ inp :: suf) (t := pre.length) hnt (by simp) V [] (fun _ => 0, 0) hV (by simp; omega)
      rw [show ints [] = [] from rfl, List.nil_append, List.length_nil, show ((0 : Nat) : Int) = (0 : Int) from rfl, show rowF n.1.length ((fun _ => 0, 0) : (Nat → Int) × Int).1 = List.replicate n.1.length (0 : Int) from (rowF_rep _ _).symm] at hst
      generalize hS : V.foldl (stepR n W inp) (fun _ => 0, 0) = S at *
      by_cases he : S.2 = 0
      · have htl := tell_loop (may_N hm) S.1 n.2.1 [] rfl (by simp; omega)
        rw [List.map_nil, List.length_nil, show ((0 : Nat) : Int) = (0 : Int) from rfl] at htl
        obtain ⟨z, hz, ho2⟩ := run_loop hm h1 h2 h3 V hV hVl suf (pre ++ [inp]) (out ++ [n.2.1.map fun k => S.1 k.toNat]) (rowF n.1.length S.1) (by simp; omega) (by simp; omega) (Or.inr (rowF_len _ _))
        simp only [List.append_assoc, List.singleton_append] at hz
        refine ⟨z, ob253 ?_, by rw [if_pos he]; exact ho2⟩
        simp only [b253, lt_mid, inb_mid, nth_mid, cond_true, Option.bind_some, hfr, hf, Bool.not_true, cond_false, hm1, hm2, hst, nbt he, htl, ble_most (show out.length + 1 ≤ 274877906944 by omega), Bool.and_true, next_mid pre inp (by omega)]
        exact hz
      · refine ⟨.inl (n, ints V, out, S.2), ob253 ?_, by rw [if_neg he]; rfl⟩
        simp only [b253, lt_mid, inb_mid, nth_mid, cond_true, Option.bind_some, hfr, hf, Bool.not_true, cond_false, hm1, hm2, hst, nbf he]
theorem Run_eq {n : Nt} (h1 : n.1.length ≤ 1000) (h2 : n.2.1.length ≤ 1000) (h3 : n.2.2.length ≤ 1000) {ins : List (List Int)} (hi : ins.length ≤ 1000) : c85 T.rf n ins = some (if chkN n = 0 then runL n (gN n) ins [] [] else ([], chkN n)) := or85 (by
  simp only [r85, refChk_eq h1 h2, Option.bind_some]
  by_cases hc : chkN n = 0
  · have hm := (chk_may hc).1
    have hlen := gN_len hc
    obtain ⟨z, hz, ho⟩ := run_loop hm h1 h2 h3 (gN n) (val_lt (gN_val n)) (by omega) ins [] [] [] (by simpa using hi) (by simpa using hi) (Or.inl rfl)
    rw [List.nil_append, List.length_nil, show ((0 : Nat) : Int) = (0 : Int) from rfl] at hz
    rw [nbt hc, cond_false, if_pos hc, ref14O_eq (may_N hm) h1, Option.bind_some, hz, Option.bind_some, ← ho]
    cases z <;> rfl
  · rw [nbf hc, cond_true, if_neg hc])

/-! The same, in order. -/
section
variable {n : Nt}
theorem at_idx (hc : chkN n = 0) {k : Nat} (hk : k < n.1.length) : (gN n).getD ((gN n).idxOf k) 0 = k := by
  have hm := gN_all hc k hk
  have hl := List.idxOf_lt_length_of_mem hm
  rw [List.getD_eq_getElem?_getD, List.getElem?_eq_getElem hl]
  exact List.getElem_idxOf hl
theorem ops_arg (hc : chkN n = 0) {f g : Nat → Int} (hfg : ∀ q, q < n.1.length → g q = f ((gN n).getD q 0)) {i : Nat} (hi : i < n.1.length) (j : Nat) : argF (turnO (gN n) (opAtN n i)) g j = argF (opAtN n i) f j := by
  unfold argF
  rw [ops_turn, List.map_map]
  congr 1
  refine List.map_congr_left fun k hk => ?_
  have hr := (may_N (chk_may hc).1).ops i hi k hk
  show g (toV (gN n) k).toNat = f k.toNat
  have h3 := toV_in hc hr
  have e : (toV (gN n) k).toNat = (gN n).idxOf k.toNat := by rw [toV, if_neg (by omega)]; omega
  rw [hfg _ (by omega), e, at_idx hc (by omega)]
theorem val_turn (hc : chkN n = 0) {f g : Nat → Int} (hfg : ∀ q, q < n.1.length → g q = f ((gN n).getD q 0)) {W W' : List Int} (hW : (W.length = 0 ∧ W'.length = 0) ∨ (W.length = n.1.length ∧ W'.length = n.1.length ∧ ∀ q, q < n.1.length → W'.getD q 0 = W.getD ((gN n).getD q 0) 0)) (inp : List Int) {i : Nat} (hi : i < n.1.length) :
    valO (turnO (gN n) (opAtN n i)) g W' inp = valO (opAtN n i) f W inp := by
  have hm := (chk_may hc).1
  obtain ⟨hu, _⟩ := may_at hm hi
  have one : ∀ k : Int, 0 ≤ k ∧ k < n.1.length → (toV (gN n) k).toNat < n.1.length ∧ (gN n).getD (toV (gN n) k).toNat 0 = k.toNat := fun k hk => by
    have h3 := toV_in hc hk
    have e : (toV (gN n) k).toNat = (gN n).idxOf k.toNat := by rw [toV, if_neg (by omega)]; omega
    exact ⟨by omega, by rw [e, at_idx hc (by omega)]⟩
  have hlen : (W'.length = 0 ↔ W.length = 0) := by
    rcases hW with h | h
    · exact ⟨fun _ => h.1, fun _ => h.2⟩
    · rw [h.1, h.2.1]
  unfold valO
  rw [show (turnO (gN n) (opAtN n i)).1 = (opAtN n i).1 from rfl, show (turnO (gN n) (opAtN n i)).2.2.2.2 = (opAtN n i).2.2.2.2 from rfl, show (turnO (gN n) (opAtN n i)).2.1 = toV (gN n) (opAtN n i).2.1 from rfl, show (turnO (gN n) (opAtN n i)).2.2.1 = toV (gN n) (opAtN n i).2.2.1 from rfl]
  by_cases h3 : (opAtN n i).1 = 3
  · rw [if_pos h3, if_pos h3]
  rw [if_neg h3, if_neg h3]
  by_cases h12 : (opAtN n i).1 = 1 ∨ (opAtN n i).1 = 2
  · rw [if_pos h12, if_pos h12]
  rw [if_neg h12, if_neg h12]
  by_cases h19 : (opAtN n i).1 = 19
  · have hkk : manyN (opAtN n i) = 2 := by unfold manyN kidsN; rw [h19]; rfl
    have hA : inN n.1.length (opAtN n i).2.1 = true ∧ inN n.1.length (opAtN n i).2.2.1 = true := by
      rw [usedN, hkk] at hu
      simp [flds] at hu
      exact hu
    obtain ⟨a1, a2⟩ := one _ (of_decide_eq_true hA.1)
    obtain ⟨b1, b2⟩ := one _ (of_decide_eq_true hA.2)
    rw [if_pos h19, if_pos h19, hfg _ a1, hfg _ b1, a2, b2]
    by_cases hw : W.length = 0
    · rw [if_pos hw, if_pos (hlen.2 hw)]
    · rw [if_neg hw, if_neg (fun x => hw (hlen.1 x))]
  rw [if_neg h19, if_neg h19]
  by_cases h21 : (opAtN n i).1 = 21
  · have hkk : manyN (opAtN n i) = 1 := by unfold manyN kidsN; rw [h21]; rfl
    have hA : inN n.1.length (opAtN n i).2.1 = true := by
      rw [usedN, hkk] at hu
      simp [flds] at hu
      exact hu
    obtain ⟨a1, a2⟩ := one _ (of_decide_eq_true hA)
    rw [if_pos h21, if_pos h21]
    by_cases hw : W.length = 0
    · rw [if_pos hw, if_pos (hlen.2 hw)]
    · rw [if_neg hw, if_neg (fun x => hw (hlen.1 x))]
      rcases hW with h | h
      · exact absurd h.1 hw
      · rw [h.2.2 _ a1, a2]
  rw [if_neg h21, if_neg h21, ops_arg hc hfg hi, ops_arg hc hfg hi, ops_arg hc hfg hi]
theorem fold_turn (hc : chkN n = 0) {W W' : List Int} (hW : (W.length = 0 ∧ W'.length = 0) ∨ (W.length = n.1.length ∧ W'.length = n.1.length ∧ ∀ q, q < n.1.length → W'.getD q 0 = W.getD ((gN n).getD q 0) 0)) (inp : List Int) : ∀ (suf pre : List Nat) (s s' : (Nat → Int) × Int), gN n = pre ++ suf → (∀ q, q < n.1.length → s'.1 q = s.1 ((gN n).getD q 0)) → s'.2 = s.2 →
    (∀ q, q < n.1.length → ((List.range' pre.length suf.length).foldl (stepR (sortN n) W' inp) s').1 q = (suf.foldl (stepR n W inp) s).1 ((gN n).getD q 0)) ∧ ((List.range' pre.length suf.length).foldl (stepR (sortN n) W' inp) s').2 = (suf.foldl (stepR n W inp) s).2
  | [], pre, s, s', he, h1, h2 => ⟨h1, h2⟩
  | x :: suf, pre, s, s', he, h1, h2 => by
    have hlen := gN_len hc
    have hpl : pre.length < n.1.length := by rw [← hlen, he]; simp
    have hx : (gN n).getD pre.length 0 = x := by rw [he, List.getD_eq_getElem?_getD, List.getElem?_append_right (Nat.le_refl _)]; simp
    have hxl : x < n.1.length := by rw [← hx]; exact gN_lt hc hpl
    have hv := val_turn hc h1 hW inp hxl
    rw [List.length_cons, List.range'_succ, List.foldl_cons, List.foldl_cons]
    have hop : opAtN (sortN n) pre.length = turnO (gN n) (opAtN n x) := by rw [sort_op hc hpl, hx]
    have ih := fold_turn hc hW inp suf (pre ++ [x]) (stepR n W inp s x) (stepR (sortN n) W' inp s' pre.length) (by simp [he]) (fun q hq => ?_) (by
      simp only [stepR]
      rw [hop, hv, h2])
    · rw [List.length_append, List.length_singleton] at ih
      exact ih
    · simp only [stepR]
      rw [hop, hv]
      by_cases e : q = pre.length
      · rw [if_pos e, e, hx, if_pos rfl]
      · have hne : (gN n).getD q 0 ≠ x := fun h => e (by
          have := idx_at hc hq
          rw [h, ← hx, idx_at hc hpl] at this
          exact this.symm)
        rw [if_neg e, if_neg hne]
        exact h1 q hq
theorem rowF_getD {N q : Nat} (f : Nat → Int) (h : q < N) : (rowF N f).getD q 0 = f q := by
  have := rowF_get f h
  rw [nth_getElem?] at this
  rw [List.getD_eq_getElem?_getD, this]; rfl
theorem run_turn (hc : chkN n = 0) : ∀ (ins out : List (List Int)) (W W' : List Int), ((W.length = 0 ∧ W'.length = 0) ∨ (W.length = n.1.length ∧ W'.length = n.1.length ∧ ∀ q, q < n.1.length → W'.getD q 0 = W.getD ((gN n).getD q 0) 0)) →
    runL (sortN n) (List.range n.1.length) ins out W' = runL n (gN n) ins out W
  | [], out, W, W', hW => rfl
  | inp :: r, out, W, W', hW => by
    have hlen := gN_len hc
    obtain ⟨a, b⟩ := fold_turn hc hW inp (gN n) [] (fun _ => 0, 0) (fun _ => 0, 0) rfl (fun _ _ => rfl) rfl
    rw [List.length_nil, hlen, ← List.range_eq_range'] at a b
    rw [runL, runL, show (sortN n).2.2 = n.2.2 from rfl, sort_len hc]
    by_cases hf : frameB n.2.2 inp = true
    · rw [if_pos hf, if_pos hf, b]
      by_cases he : ((gN n).foldl (stepR n W inp) (fun _ => 0, 0)).2 = 0
      · rw [if_pos he, if_pos he]
        have hrow : ((sortN n).2.1.map fun k => ((List.range n.1.length).foldl (stepR (sortN n) W' inp) (fun _ => 0, 0)).1 k.toNat) = n.2.1.map fun k => ((gN n).foldl (stepR n W inp) (fun _ => 0, 0)).1 k.toNat := by
          rw [show (sortN n).2.1 = n.2.1.map fun k => (((gN n).idxOf k.toNat : Nat) : Int) from rfl, List.map_map]
          refine List.map_congr_left fun k hk => ?_
          have hr := (may_N (chk_may hc).1).root k hk
          have hl := List.idxOf_lt_length_of_mem (gN_all hc k.toNat (by omega))
          show ((List.range n.1.length).foldl (stepR (sortN n) W' inp) (fun _ => 0, 0)).1 (((gN n).idxOf k.toNat : Nat) : Int).toNat = _
          rw [Int.toNat_natCast, a _ (by omega), at_idx hc (by omega)]
        rw [hrow]
        exact run_turn hc r _ _ _ (Or.inr ⟨rowF_len _ _, rowF_len _ _, fun q hq => by rw [rowF_getD _ hq, rowF_getD _ (gN_lt hc hq), a q hq]⟩)
      · rw [if_neg he, if_neg he]
    · rw [if_neg hf, if_neg hf]
end

/-! The law. -/
theorem small2_loop : ∀ (suf pre : List (List Int)), pre.length + suf.length ≤ 1000 → ∃ z, k232 T.rb (pre ++ suf) (pre.length : Nat) = some z ∧ (match z with
      | .inl b => b = false
      | .inr _ => True)
  | [], pre, h => ⟨.inr (), ob232 (by simp only [b232, lt_end, lt_self, List.append_nil, cond_false]), trivial⟩
  | x :: suf, pre, h => by
    simp only [List.length_cons] at h
    obtain ⟨z, ih, hz⟩ := small2_loop suf (pre ++ [x]) (by simp; omega)
    simp only [List.append_assoc, List.singleton_append] at ih
    by_cases hx : x.length ≤ 60
    · refine ⟨z, ob232 ?_, hz⟩
      simp only [b232, lt_mid, inb_mid, nth_mid, cond_true, Option.bind_some, df (show ¬ ((x.length : Nat) : Int) > 60 by omega), cond_false, next_mid pre x (by omega)]
      exact ih
    · refine ⟨.inl false, ob232 ?_, rfl⟩
      simp only [b232, lt_mid, inb_mid, nth_mid, cond_true, Option.bind_some, dt (show ((x.length : Nat) : Int) > 60 by omega)]
theorem Small12_eq (ins : List (List Int)) : ∃ b, c77 T.rf [] ins = some b ∧ (b = true → ins.length ≤ 20) := by
  by_cases h : ins.length ≤ 20
  · obtain ⟨z, hz, _⟩ := small2_loop ins [] (by simp; omega)
    rw [List.nil_append, List.length_nil, show ((0 : Nat) : Int) = (0 : Int) from rfl] at hz
    have h0 : k231 T.rb [] 0 = some (.inr ()) := ob231 rfl
    refine ⟨match z with
      | .inl b => b
      | .inr _ => true, or77 ?_, fun _ => h⟩
    simp only [r77, List.length_nil, df (show ¬ (((0 : Nat) : Int) > 60) by decide), cond_false, df (show ¬ ((ins.length : Nat) : Int) > 20 by omega), h0, Option.bind_some, hz]
    cases z <;> rfl
  · refine ⟨false, or77 ?_, fun h => absurd h (by decide)⟩
    simp only [r77, List.length_nil, df (show ¬ (((0 : Nat) : Int) > 60) by decide), cond_false, dt (show ((ins.length : Nat) : Int) > 20 by omega), cond_true]
theorem rows_loop : ∀ (suf pre : List (List Int)), pre.length + suf.length ≤ 1000 → (∀ l ∈ suf, l.length ≤ 1000) → k227 T.rb (pre ++ suf) (pre ++ suf) (pre.length : Nat) = some (.inr ())
  | [], pre, h, hs => ob227 (by simp only [b227, lt_end, lt_self, List.append_nil, cond_false])
  | x :: suf, pre, h, hs => ob227 (by
    simp only [List.length_cons] at h
    have ih := rows_loop suf (pre ++ [x]) (by simp; omega) (fun l hl => hs l (List.mem_cons_of_mem _ hl))
    simp only [List.append_assoc, List.singleton_append] at ih
    have hx := hs x List.mem_cons_self
    simp only [b227, lt_mid, inb_mid, nth_mid, cond_true, Option.bind_some, Ints_self (a := x) (by omega), Bool.not_true, cond_false, next_mid pre x (by omega)]
    exact ih)
theorem Rows_eq {l : List (List Int)} (h : l.length ≤ 1000) (hs : ∀ x ∈ l, x.length ≤ 1000) : c72 T.rf l l = some true := or72 (by
  have h0 := rows_loop l [] (by simpa using h) hs
  rw [List.nil_append, List.length_nil, show ((0 : Nat) : Int) = (0 : Int) from rfl] at h0
  simp only [r72, nbt rfl, cond_false, h0, Option.bind_some])
theorem runL_len (n : Nt) (V : List Nat) : ∀ (ins out : List (List Int)) (W : List Int), (∀ x ∈ out, x.length = n.2.1.length) → (runL n V ins out W).1.length ≤ out.length + ins.length ∧ ∀ x ∈ (runL n V ins out W).1, x.length = n.2.1.length
  | [], out, W, h => ⟨by rw [runL]; simp, h⟩
  | inp :: r, out, W, h => by
    rw [runL]
    split
    · split
      · have ih := runL_len n V r (out ++ [n.2.1.map fun k => (V.foldl (stepR n W inp) (fun _ => 0, 0)).1 k.toNat]) (rowF n.1.length (V.foldl (stepR n W inp) (fun _ => 0, 0)).1) (fun x hx => by
          rcases List.mem_append.1 hx with a | a
          · exact h x a
          · rw [List.mem_singleton.1 a]; exact List.length_map ..)
        refine ⟨?_, ih.2⟩
        have := ih.1
        rw [List.length_append, List.length_singleton] at this
        rw [List.length_cons]; omega
      · exact ⟨by simp, h⟩
    · exact ⟨by simp, h⟩
end Go.Proofs.Ytanomapnincmoaa.R
