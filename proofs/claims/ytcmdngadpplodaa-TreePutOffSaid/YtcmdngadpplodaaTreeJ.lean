/-
  OUR OWN: what the functions of package tree and of its document come to, in plain Lean: expressions in the places of streams.
-/
import Derived.Test.YtcmdngadpplodaaTreeI
namespace Go.Proofs.Ytcmdngadpplodaa.R
open Go Go.Bm Go.Proofs
set_option linter.unusedVariables false
set_option linter.unusedSimpArgs false
set_option maxRecDepth 4000

/-- Where a text first is among some; below 0: it is none. -/
def placeI (x : List UInt8) : List (List UInt8) → Nat → Int
  | [], _ => -1
  | y :: r, i => if y = x then (i : Int) else placeI x r (i + 1)

theorem placeI_lt (x : List UInt8) : ∀ (l : List (List UInt8)) (i : Nat), placeI x l i = -1 ∨ (i : Int) ≤ placeI x l i ∧ placeI x l i < i + l.length
  | [], i => .inl rfl
  | y :: r, i => by
    rw [placeI]
    split
    · right; simp; omega
    · rcases placeI_lt x r (i + 1) with h | h
      · exact .inl h
      · right; simp; omega

/-- A place, or none. -/
def foundI (z : Int) : Int ⊕ Unit := if z = -1 then .inr () else .inl z

theorem IndexS_loop (x : List UInt8) : ∀ (suf pre : List (List UInt8)), pre.length + suf.length ≤ 1000000 →
    k21 T.rb (pre ++ suf) x ((pre ++ suf).length : Nat) (pre.length : Nat) = some (foundI (placeI x suf pre.length))
  | [], pre, h => ob21 (by simp only [b21, lt_end, lt_self, List.append_nil, cond_false]; rfl)
  | y :: suf, pre, h => ob21 (by
    simp only [List.length_cons] at h
    have ih := IndexS_loop x suf (pre ++ [y]) (by simp; omega)
    have hpl : (pre ++ [y]).length = pre.length + 1 := by simp
    simp only [List.append_assoc, List.singleton_append] at ih
    simp only [b21, lt_mid, inb_mid, nth_mid, cond_true, Option.bind_some, next_mid pre y (by omega)]
    by_cases e : y = x
    · subst e
      rw [beq_self_eq_true, cond_true, placeI, if_pos rfl, foundI, if_neg (by omega)]
    · rw [beq_eq_false_iff_ne.2 (Ne.symm e), cond_false, placeI, if_neg e, ← hpl]; exact ih)
theorem IndexS_eq {l : List (List UInt8)} (x : List UInt8) (h : l.length ≤ 1000000) : c19 T.rf l x = some (placeI x l 0) := or19 (by
  have := IndexS_loop x l [] (by simpa using h)
  simp only [List.nil_append, List.length_nil] at this
  rw [show ((0 : Nat) : Int) = (0 : Int) from rfl] at this
  simp only [r19, this, Option.bind_some]
  by_cases e : placeI x l 0 = -1
  · rw [e]; rfl
  · rw [foundI, if_neg e])

theorem place_loop (x : List UInt8) : ∀ (suf pre : List (List UInt8)), pre.length + suf.length ≤ 1000000 →
    k58 T.rb (pre ++ suf) x (pre.length : Nat) = some (foundI (placeI x suf pre.length))
  | [], pre, h => ob58 (by simp only [b58, lt_end, lt_self, List.append_nil, cond_false]; rfl)
  | y :: suf, pre, h => ob58 (by
    simp only [List.length_cons] at h
    have ih := place_loop x suf (pre ++ [y]) (by simp; omega)
    have hpl : (pre ++ [y]).length = pre.length + 1 := by simp
    simp only [List.append_assoc, List.singleton_append] at ih
    simp only [b58, lt_mid, inb_mid, nth_mid, cond_true, Option.bind_some, next_mid pre y (by omega)]
    by_cases e : y = x
    · subst e
      rw [beq_self_eq_true, cond_true, placeI, if_pos rfl, foundI, if_neg (by omega)]
    · rw [beq_eq_false_iff_ne.2 e, cond_false, placeI, if_neg e, ← hpl]; exact ih)
theorem place_eq {l : List (List UInt8)} (x : List UInt8) (h : l.length ≤ 1000000) : c44 T.rf l x = some (placeI x l 0) := or44 (by
  have := place_loop x l [] (by simpa using h)
  simp only [List.nil_append, List.length_nil] at this
  rw [show ((0 : Nat) : Int) = (0 : Int) from rfl] at this
  simp only [r44, this, Option.bind_some]
  by_cases e : placeI x l 0 = -1
  · rw [e]; rfl
  · rw [foundI, if_neg e])

/-! ### Put -/
def atL (at_ : List Int) (ks : List Int) : List Int := ks.map fun k => at_.getD k.toNat 0
/-- The nodes in order, each put or turned. -/
def putL (names : List (List UInt8)) (by_ : List (List Nd)) : List Nd → List Nd → List Int → List Nd
  | [], o, _ => o
  | n :: r, o, at_ =>
    let o' := if n.1 = 3 ∧ 0 ≤ placeI n.2.2.2.2.2 names 0 then o ++ (norm (by_.getD (placeI n.2.2.2.2.2 names 0).toNat [])).map (mv o.length) else o ++ [aim n (atL at_ (kids n))]
    putL names by_ r o' (at_ ++ [(o'.length : Int) - 1])

theorem putL_len (names : List (List UInt8)) (by_ : List (List Nd)) : ∀ (l o : List Nd) (at_ : List Int), (putL names by_ l o at_).length ≤ o.length + 5001 * l.length
  | [], o, at_ => by simp [putL]
  | n :: r, o, at_ => by
    rw [putL]
    refine Nat.le_trans (putL_len names by_ r _ _) ?_
    have := norm_len (e := by_.getD (placeI n.2.2.2.2.2 names 0).toNat [])
    split
    · simp only [List.length_append, List.length_map, List.length_cons]; omega
    · simp only [List.length_append, List.length_cons, List.length_nil]; omega

theorem at_nth {at_ : List Int} {k : Int} (h : 0 ≤ k) (h2 : k < at_.length) : nth at_ k.toNat = some (at_.getD k.toNat 0) := by
  rw [nth_getElem?, List.getD_eq_getElem?_getD, List.getElem?_eq_getElem (by omega)]; rfl

theorem Put_loop2 (at_ : List Int) (hl : at_.length ≤ 1000000) : ∀ (suf done : List Int), (∀ k ∈ suf, 0 ≤ k ∧ k < at_.length) → done.length + suf.length ≤ 3 →
    k24 T.rb at_ (done ++ suf) ((done ++ suf).length : Nat) (done.length : Nat) = some (at_, done ++ atL at_ suf)
  | [], done, h, h2 => ob24 (by simp only [b24, lt_end, lt_self, List.append_nil, cond_false, atL, List.map_nil])
  | k :: suf, done, h, h2 => ob24 (by
    simp only [List.length_cons] at h2
    have hk := h k List.mem_cons_self
    have ih := Put_loop2 at_ hl suf (done ++ [at_.getD k.toNat 0]) (fun q hq => h q (List.mem_cons_of_mem _ hq)) (by simp; omega)
    simp only [List.append_assoc, List.singleton_append] at ih
    have hset : setNth (done ++ k :: suf) ((done.length : Nat) : Int).toNat (at_.getD k.toNat 0) = done ++ at_.getD k.toNat 0 :: suf := by
      rw [setNth_set, Int.toNat_natCast, List.set_append_right _ _ (Nat.le_refl _), Nat.sub_self, List.set_cons_zero]
    have hbl : Nat.blt ((done.length : Nat) : Int).toNat (done ++ k :: suf).length = true := blt_t (by simp)
    have hll : (done ++ k :: suf).length = (done ++ at_.getD k.toNat 0 :: suf).length := by simp
    have hll2 : (done ++ [k]).length = (done ++ [at_.getD k.toNat 0]).length := by simp
    simp only [b24, lt_mid, inb_mid, nth_mid, cond_true, Option.bind_some, inb_t hk.1 hk.2, at_nth hk.1 hk.2, hbl, hset, next_mid done k (by omega)]
    rw [hll, hll2, ih, atL, atL, List.map_cons])

theorem refPut_loop4 (at_ : List Int) (hl : at_.length ≤ 1000000) : ∀ (suf pre out : List Int), (∀ k ∈ suf, 0 ≤ k ∧ k < at_.length) → pre.length + suf.length ≤ 3 → out.length + suf.length ≤ 3 →
    k68 T.rb at_ (pre ++ suf) out (pre.length : Nat) = some (at_, pre ++ suf, out ++ atL at_ suf)
  | [], pre, out, h, h2, h3 => ob68 (by simp only [b68, lt_end, lt_self, List.append_nil, cond_false, atL, List.map_nil])
  | k :: suf, pre, out, h, h2, h3 => ob68 (by
    simp only [List.length_cons] at h2 h3
    have hk := h k List.mem_cons_self
    have ih := refPut_loop4 at_ hl suf (pre ++ [k]) (out ++ [at_.getD k.toNat 0]) (fun q hq => h q (List.mem_cons_of_mem _ hq)) (by simp; omega) (by simp; omega)
    simp only [List.append_assoc, List.singleton_append] at ih
    simp only [b68, lt_mid, inb_mid, nth_mid, cond_true, Option.bind_some, inb_t hk.1 hk.2, at_nth hk.1 hk.2, ble_most (show out.length + 1 ≤ 274877906944 by omega), Bool.and_true, next_mid pre k (by omega)]
    rw [ih, atL, atL, List.map_cons])

/-- Of a list of expressions: all may be. -/
theorem sub_norm (x : List Nd) : subE x ((x.length : Int) - 1) = norm x := rfl

theorem Put_loop0 (names : List (List UInt8)) (by_ : List (List Nd)) (hn : names.length ≤ 1000) (hnb : names.length = by_.length) (hby : ∀ x ∈ by_, x.length ≤ 1000000) (e : List Nd) (hA : Ahead e) (he : e.length ≤ 5001) :
    ∀ (suf pre o : List Nd) (at_ : List Int), e = pre ++ suf → at_.length = pre.length → o.length ≤ 5001 * pre.length →
      k23 T.rb o at_ e names by_ (e.length : Nat) (pre.length : Nat) = some (e, putL names by_ suf o at_)
  | [], pre, o, at_, h, hat, ho => ob23 (by
    rw [h]; simp only [b23, lt_end, lt_self, List.append_nil, cond_false, putL])
  | n :: suf, pre, o, at_, h, hat, ho => by
    have ih := fun o' at2 => Put_loop0 names by_ hn hnb hby e hA he suf (pre ++ [n]) o' at2 (by rw [h]; simp)
    have hpl : (pre ++ [n]).length = pre.length + 1 := by simp
    have hlt : pre.length < e.length := by rw [h]; simp
    have a1 : decide (((pre.length : Nat) : Int) < ((e.length : Nat) : Int)) = true := dt (by omega)
    have a2 : inb ((pre.length : Nat) : Int) e.length = true := inb_t (by omega) (by omega)
    have a3' : nth e pre.length = some n := by rw [h, nth_getElem?]; simp
    have a3 : nth e ((pre.length : Nat) : Int).toNat = some n := by rw [Int.toNat_natCast]; exact a3'
    have a4 : IntKind.i64.wrap (((pre.length : Nat) : Int) + 1) = ((pre ++ [n]).length : Nat) := next_mid pre n (by omega)
    have hk3 := kids_len n
    have hal := hA pre.length n a3'
    have hl2 := Put_loop2 at_ (by omega) (kids n) [] (fun k hk => by have := hal k hk; omega) (by simpa using hk3)
    simp only [List.nil_append, List.length_nil] at hl2
    rw [show ((0 : Nat) : Int) = (0 : Int) from rfl] at hl2
    have hp := placeI_lt n.2.2.2.2.2 names 0
    rw [putL]
    by_cases hc : n.1 = 3 ∧ 0 ≤ placeI n.2.2.2.2.2 names 0
    · have hlt2 : placeI n.2.2.2.2.2 names 0 < by_.length := by omega
      obtain ⟨x, hx⟩ : ∃ x, nth by_ (placeI n.2.2.2.2.2 names 0).toNat = some x := ⟨_, nth_t (by omega)⟩
      have hxg : by_.getD (placeI n.2.2.2.2.2 names 0).toNat [] = x := by
        rw [nth_getElem?] at hx; rw [List.getD_eq_getElem?_getD, hx]; rfl
      have hxl : x.length ≤ 1000000 := hby x (by rw [nth_getElem?] at hx; exact List.mem_of_getElem? hx)
      have hnl := norm_len (e := x)
      rw [if_pos hc, hxg]
      refine ob23 ?_
      simp only [b23, a1, a2, a3, cond_true, Option.bind_some, IndexS_eq _ (show names.length ≤ 1000000 by omega), bt hc.1, dt (show placeI n.2.2.2.2.2 names 0 ≥ 0 from hc.2), inb_t hc.2 hlt2, hx, pred_i hxl, Sub_eq hxl, sub_norm,
        behind_eq (show o.length + (norm x).length ≤ 274877906944 by omega), ble_most (show at_.length + 1 ≤ 274877906944 by omega), Bool.and_true, a4,
        wr_pred (show (o ++ (norm x).map (mv o.length)).length < 4611686018427387904 by simp; omega)]
      exact ih _ _ (by simp [hat]) (by rw [hpl]; simp; omega)
    · rw [if_neg hc]
      have hbody : b23 T.rf T.rb o at_ e names by_ (e.length : Nat) (pre.length : Nat) = k23 T.rb (o ++ [aim n (atL at_ (kids n))]) (at_ ++ [((o ++ [aim n (atL at_ (kids n))]).length : Int) - 1]) e names by_ (e.length : Nat) ((pre ++ [n]).length : Nat) := by
        have hw := wr_pred (show (o ++ [aim n (atL at_ (kids n))]).length < 4611686018427387904 by simp; omega)
        by_cases h3 : n.1 = 3
        · have hneg : ¬ placeI n.2.2.2.2.2 names 0 ≥ 0 := fun hh => hc ⟨h3, hh⟩
          simp only [b23, a1, a2, a3, cond_true, Option.bind_some, IndexS_eq _ (show names.length ≤ 1000000 by omega), bt h3, df hneg, cond_false, kids_eq, hl2, with_eq, ble_most (show o.length + 1 ≤ 274877906944 by omega), ble_most (show at_.length + 1 ≤ 274877906944 by omega), Bool.and_true, a4, hw]
        · simp only [b23, a1, a2, a3, cond_true, Option.bind_some, IndexS_eq _ (show names.length ≤ 1000000 by omega), bf h3, cond_false, kids_eq, hl2, with_eq, ble_most (show o.length + 1 ≤ 274877906944 by omega), ble_most (show at_.length + 1 ≤ 274877906944 by omega), Bool.and_true, a4, hw]
      exact ob23 (hbody.trans (ih _ _ (by simp [hat]) (by rw [hpl]; simp; omega)))

/-- The document's row of places: what is not reckoned yet is 0. -/
theorem refPut_tail (by_ : List (List Nd)) (hby : ∀ x ∈ by_, x.length ≤ 1000000) (e : List Nd) (hA : Ahead e) (he : e.length ≤ 5001) (i : Nat) (n : Nd) (hn : nth e i = some n) (o : List Nd) (ho : o.length ≤ 5001 * i) (at_ : List Int) (hat : at_.length = i) (m : Nat) (hm : i + (m + 1) = e.length) (k : Int) (hk : k = -1 ∨ (0 ≤ k ∧ k < by_.length)) :
    k67 T.rb e o (at_ ++ (0 : Int) :: List.replicate m 0) by_ (i : Nat) k =
      some (e, at_ ++ ((((if 0 ≤ k then o ++ (norm (by_.getD k.toNat [])).map (mv o.length) else o ++ [aim n (atL at_ (kids n))]).length : Nat) : Int) - 1) :: List.replicate m 0,
        if 0 ≤ k then o ++ (norm (by_.getD k.toNat [])).map (mv o.length) else o ++ [aim n (atL at_ (kids n))]) := ob67 (by
  have hset : ∀ y : Int, setNth (at_ ++ (0 : Int) :: List.replicate m 0) ((i : Nat) : Int).toNat y = at_ ++ y :: List.replicate m 0 := fun y => by
    rw [setNth_set, Int.toNat_natCast, ← hat, List.set_append_right _ _ (Nat.le_refl _), Nat.sub_self, List.set_cons_zero]
  have hrl : (at_ ++ (0 : Int) :: List.replicate m 0).length = i + (m + 1) := by simp [hat]
  have hin : inb ((i : Nat) : Int) (at_ ++ (0 : Int) :: List.replicate m 0).length = true := inb_t (by omega) (by rw [hrl]; omega)
  have hbl : Nat.blt ((i : Nat) : Int).toNat (at_ ++ (0 : Int) :: List.replicate m 0).length = true := blt_t (by rw [hrl]; simp)
  have hil : inb ((i : Nat) : Int) e.length = true := inb_t (by omega) (by omega)
  have hn' : nth e ((i : Nat) : Int).toNat = some n := by rw [Int.toNat_natCast]; exact hn
  by_cases h0 : 0 ≤ k
  · have hkl : k < by_.length := by omega
    obtain ⟨x, hx⟩ : ∃ x, nth by_ k.toNat = some x := ⟨_, nth_t (by omega)⟩
    have hxg : by_.getD k.toNat [] = x := by
      rw [nth_getElem?] at hx; rw [List.getD_eq_getElem?_getD, hx]; rfl
    have hxl : x.length ≤ 1000000 := hby x (by rw [nth_getElem?] at hx; exact List.mem_of_getElem? hx)
    have hnl := norm_len (e := x)
    simp only [if_pos h0, hxg]
    simp only [b67, dt (show k ≥ 0 from h0), cond_true, inb_t h0 hkl, hx, Option.bind_some, Norm_eq hxl, refBehind_eq (show o.length + (norm x).length ≤ 274877906944 by omega), hin, hbl,
      wr_pred (show (o ++ (norm x).map (mv o.length)).length < 4611686018427387904 by simp; omega), hset]
  · have hk3 := kids_len n
    have hal := hA i n hn
    have hl4 := refPut_loop4 (at_ ++ (0 : Int) :: List.replicate m 0) (by rw [hrl]; omega) (kids n) [] [] (fun k hk => by have := hal k hk; rw [hrl]; omega) (by simpa using hk3) (by simpa using hk3)
    simp only [List.nil_append, List.length_nil] at hl4
    rw [show ((0 : Nat) : Int) = (0 : Int) from rfl] at hl4
    have hatl : atL (at_ ++ (0 : Int) :: List.replicate m 0) (kids n) = atL at_ (kids n) := by
      refine List.map_congr_left fun k hk => ?_
      have := hal k hk
      rw [List.getD_eq_getElem?_getD, List.getD_eq_getElem?_getD, List.getElem?_append_left (by omega)]
    rw [hatl] at hl4
    simp only [if_neg h0]
    simp only [b67, df (show ¬ k ≥ 0 from h0), cond_false, hil, cond_true, hn', Option.bind_some, refKids_eq, hl4, aim_eq, ble_most (show o.length + 1 ≤ 274877906944 by omega), Bool.and_true, hin, hbl,
      wr_pred (show (o ++ [aim n (atL at_ (kids n))]).length < 4611686018427387904 by simp; omega), hset])

theorem refPut_loop2 (names : List (List UInt8)) (by_ : List (List Nd)) (hn : names.length ≤ 1000) (hnb : names.length = by_.length) (hby : ∀ x ∈ by_, x.length ≤ 1000000) (e : List Nd) (hA : Ahead e) (he : e.length ≤ 5001) :
    ∀ (suf pre o : List Nd) (at_ : List Int), e = pre ++ suf → at_.length = pre.length → o.length ≤ 5001 * pre.length →
      ∃ w, k66 T.rb e o (row at_ suf.length) names by_ (pre.length : Nat) = some (e, w, putL names by_ suf o at_)
  | [], pre, o, at_, h, hat, ho => ⟨_, ob66 (by
    rw [h]; simp only [b66, lt_end, lt_self, List.append_nil, cond_false, putL]; rfl)⟩
  | n :: suf, pre, o, at_, h, hat, ho => by
    have hpl : (pre ++ [n]).length = pre.length + 1 := by simp
    have hlt : pre.length < e.length := by rw [h]; simp
    have a1 : decide (((pre.length : Nat) : Int) < ((e.length : Nat) : Int)) = true := dt (by omega)
    have a2 : inb ((pre.length : Nat) : Int) e.length = true := inb_t (by omega) (by omega)
    have a3' : nth e pre.length = some n := by rw [h, nth_getElem?]; simp
    have a3 : nth e ((pre.length : Nat) : Int).toNat = some n := by rw [Int.toNat_natCast]; exact a3'
    have a4 : IntKind.i64.wrap (((pre.length : Nat) : Int) + 1) = ((pre ++ [n]).length : Nat) := next_mid pre n (by omega)
    have hp := placeI_lt n.2.2.2.2.2 names 0
    have hrow : row at_ (n :: suf).length = at_ ++ (0 : Int) :: List.replicate suf.length 0 := by simp [row, List.replicate_succ]
    have htail := fun k hk => refPut_tail by_ hby e hA he pre.length n a3' o ho at_ hat suf.length (by rw [h]; simp) k hk
    have key : ∀ k : Int, (k = -1 ∨ (0 ≤ k ∧ k < by_.length)) → (0 ≤ k ↔ (n.1 = 3 ∧ 0 ≤ placeI n.2.2.2.2.2 names 0)) → (0 ≤ k → k = placeI n.2.2.2.2.2 names 0) →
        (b66 T.rf T.rb e o (row at_ (n :: suf).length) names by_ (pre.length : Nat) = (k67 T.rb e o (row at_ (n :: suf).length) by_ (pre.length : Nat) k).bind fun z => k66 T.rb z.1 z.2.2 z.2.1 names by_ ((pre ++ [n]).length : Nat)) →
        ∃ w, k66 T.rb e o (row at_ (n :: suf).length) names by_ (pre.length : Nat) = some (e, w, putL names by_ (n :: suf) o at_) := by
      intro k hk h1 h2 hb
      rw [hrow, htail k hk, ← hrow, Option.bind_some] at hb
      dsimp only at hb
      have ho' : (if 0 ≤ k then o ++ (norm (by_.getD k.toNat [])).map (mv o.length) else o ++ [aim n (atL at_ (kids n))]) = (if n.1 = 3 ∧ 0 ≤ placeI n.2.2.2.2.2 names 0 then o ++ (norm (by_.getD (placeI n.2.2.2.2.2 names 0).toNat [])).map (mv o.length) else o ++ [aim n (atL at_ (kids n))]) := by
        by_cases hc : 0 ≤ k
        · rw [if_pos hc, if_pos (h1.1 hc), ← h2 hc]
        · rw [if_neg hc, if_neg (fun hh => hc (h1.2 hh))]
      rw [ho'] at hb
      have hol : (if n.1 = 3 ∧ 0 ≤ placeI n.2.2.2.2.2 names 0 then o ++ (norm (by_.getD (placeI n.2.2.2.2.2 names 0).toNat [])).map (mv o.length) else o ++ [aim n (atL at_ (kids n))]).length ≤ 5001 * (pre ++ [n]).length := by
        have hnl := norm_len (e := by_.getD (placeI n.2.2.2.2.2 names 0).toNat [])
        rw [hpl]
        split
        · simp only [List.length_append, List.length_map]; omega
        · simp only [List.length_append, List.length_singleton]; omega
      have e2 : ∀ y : Int, at_ ++ y :: List.replicate suf.length 0 = row (at_ ++ [y]) suf.length := fun y => by simp [row]
      rw [e2] at hb
      obtain ⟨w, ih⟩ := refPut_loop2 names by_ hn hnb hby e hA he suf (pre ++ [n]) _ (at_ ++ [((if n.1 = 3 ∧ 0 ≤ placeI n.2.2.2.2.2 names 0 then o ++ (norm (by_.getD (placeI n.2.2.2.2.2 names 0).toNat [])).map (mv o.length) else o ++ [aim n (atL at_ (kids n))]).length : Int) - 1]) (by rw [h]; simp) (by simp [hat]) hol
      refine ⟨w, ob66 (hb.trans ?_)⟩
      rw [ih, putL]
    by_cases h3 : n.1 = 3
    · refine key (placeI n.2.2.2.2.2 names 0) (by omega) ⟨fun h => ⟨h3, h⟩, fun h => h.2⟩ (fun _ => rfl) ?_
      simp only [b66, a1, a2, a3, cond_true, Option.bind_some, bt h3, place_eq _ (show names.length ≤ 1000000 by omega), a4]
    · refine key (-1) (.inl rfl) ⟨fun h => by omega, fun h => absurd h.1 h3⟩ (fun h => by omega) ?_
      simp only [b66, a1, a2, a3, cond_true, Option.bind_some, bf h3, cond_false, a4]

/-! ### All may be -/
theorem notMay_eq {e : List Nd} (h : e.length ≤ 1000000) : c16 T.rf e = some (!mayB e) := or16 (by
  simp only [r16, May_eq h, Option.bind_some])
theorem IndexF_loop : ∀ (suf pre : List (List Nd)), (∀ x ∈ suf, x.length ≤ 1000000) → pre.length + suf.length ≤ 1000000 →
    ∃ z, k17 T.rb (pre ++ suf) ((pre ++ suf).length : Nat) (pre.length : Nat) = some z ∧ (match z with
      | .inl j => 0 ≤ j ∧ suf.all mayB = false
      | .inr _ => suf.all mayB = true)
  | [], pre, hx, h => ⟨.inr (), ob17 (by simp only [b17, lt_end, lt_self, List.append_nil, cond_false]), rfl⟩
  | x :: suf, pre, hx, h => by
    simp only [List.length_cons] at h
    have hxl := hx x List.mem_cons_self
    obtain ⟨z, ih, hz⟩ := IndexF_loop suf (pre ++ [x]) (fun q hq => hx q (List.mem_cons_of_mem _ hq)) (by simp; omega)
    simp only [List.append_assoc, List.singleton_append] at ih
    cases hm : mayB x with
    | false =>
      refine ⟨.inl (pre.length : Nat), ob17 ?_, by omega, by simp [hm]⟩
      simp only [b17, lt_mid, inb_mid, nth_mid, cond_true, Option.bind_some, notMay_eq hxl, hm, Bool.not_false]
    | true =>
      refine ⟨z, ob17 ?_, ?_⟩
      · simp only [b17, lt_mid, inb_mid, nth_mid, cond_true, cond_false, Option.bind_some, notMay_eq hxl, hm, Bool.not_true, next_mid pre x (by omega)]
        exact ih
      · cases z with
        | inl j => exact ⟨hz.1, by simp only [List.all_cons, hz.2, Bool.and_false]⟩
        | inr j => simp only [List.all_cons, hm, Bool.true_and]; exact hz

theorem ContainsF_eq {l : List (List Nd)} (hx : ∀ x ∈ l, x.length ≤ 1000000) (h : l.length ≤ 1000000) : c14 T.rf l = some (!l.all mayB) := or14 (by
  obtain ⟨z, hz, hp⟩ := IndexF_loop l [] hx (by simpa using h)
  simp only [List.nil_append, List.length_nil] at hz
  rw [show ((0 : Nat) : Int) = (0 : Int) from rfl] at hz
  have hI : ∀ z, k17 T.rb l (l.length : Nat) 0 = some z → c15 T.rf l = some (match z with
      | .inl j => j
      | .inr _ => -1) := fun z hz => or15 (by
    simp only [r15, hz]
    cases z <;> rfl)
  simp only [r14, hI z hz, Option.bind_some]
  cases z with
  | inl j => rw [dt (show (j : Int) ≥ 0 from hp.1), hp.2]; rfl
  | inr j => rw [df (show ¬ ((-1 : Int) ≥ 0) by decide), hp]; rfl)

/-- All may be, or not. -/
def okI (b : Bool) : List Nd ⊕ Unit := bif b then .inr () else .inl []

theorem refPut_loop0 : ∀ (suf pre : List (List Nd)), (∀ x ∈ suf, x.length ≤ 1000000) → pre.length + suf.length ≤ 1000000 →
    k65 T.rb (pre ++ suf) (pre.length : Nat) = some (okI (suf.all mayB))
  | [], pre, hx, h => ob65 (by simp only [b65, lt_end, lt_self, List.append_nil, cond_false]; rfl)
  | x :: suf, pre, hx, h => ob65 (by
    simp only [List.length_cons] at h
    have hxl := hx x List.mem_cons_self
    have ih := refPut_loop0 suf (pre ++ [x]) (fun q hq => hx q (List.mem_cons_of_mem _ hq)) (by simp; omega)
    simp only [List.append_assoc, List.singleton_append] at ih
    simp only [b65, lt_mid, inb_mid, nth_mid, cond_true, Option.bind_some, refMay_eq hxl, next_mid pre x (by omega), List.all_cons]
    cases hm : mayB x
    · rfl
    · simp only [Bool.not_true, cond_false, Bool.true_and]; exact ih)

/-- Expressions in the places of streams. -/
def put (e : List Nd) (names : List (List UInt8)) (by_ : List (List Nd)) : List Nd :=
  if mayB e = true ∧ names.length = by_.length ∧ by_.all mayB = true then putL names by_ (norm e) [] [] else []

theorem norm_ahead {e : List Nd} (h : mayB e = true) : Ahead (norm e) := (may_P (norm_may h).1).ahead

theorem Put_eq {e : List Nd} {names : List (List UInt8)} {by_ : List (List Nd)} (he : e.length ≤ 1000000) (hn : names.length ≤ 1000) (hb : by_.length ≤ 1000) (hby : ∀ x ∈ by_, x.length ≤ 1000000) : c7 T.rf e names by_ = some (put e names by_) := or7 (by
  simp only [r7, May_eq he, Option.bind_some, put]
  cases hm : mayB e
  · rw [if_neg (by intro hh; cases hh.1)]; rfl
  rw [Bool.not_true, cond_false]
  by_cases hnb : names.length = by_.length
  case neg => rw [nbf (by omega), cond_true, if_neg (fun hh => hnb hh.2.1)]
  rw [nbt (by omega), cond_false, ContainsF_eq hby (by omega), Option.bind_some]
  cases ha : by_.all mayB
  · rw [if_neg (by intro hh; cases hh.2.2)]; rfl
  rw [if_pos ⟨rfl, hnb, rfl⟩, Bool.not_true, cond_false, pred_i he, Sub_eq he, sub_norm, Option.bind_some]
  have hl := Put_loop0 names by_ hn hnb hby (norm e) (norm_ahead hm) norm_len (norm e) [] [] [] rfl rfl (by simp)
  rw [List.length_nil, show ((0 : Nat) : Int) = (0 : Int) from rfl] at hl
  rw [hl]; rfl)

theorem refPut_eq {e : List Nd} {names : List (List UInt8)} {by_ : List (List Nd)} (he : e.length ≤ 1000000) (hn : names.length ≤ 1000) (hb : by_.length ≤ 1000) (hby : ∀ x ∈ by_, x.length ≤ 1000000) : c43 T.rf e names by_ = some (put e names by_) := or43 (by
  simp only [r43, refMay_eq he, Option.bind_some, put]
  cases hm : mayB e
  · rw [if_neg (by intro hh; cases hh.1)]; rfl
  rw [Bool.not_true, cond_false]
  by_cases hnb : names.length = by_.length
  case neg => rw [nbf (by omega), cond_true, if_neg (fun hh => hnb hh.2.1)]
  have h0 := refPut_loop0 by_ [] hby (by simp; omega)
  simp only [List.nil_append, List.length_nil] at h0
  rw [show ((0 : Nat) : Int) = (0 : Int) from rfl] at h0
  rw [nbt (by omega), cond_false, h0, Option.bind_some]
  cases ha : by_.all mayB
  · rw [if_neg (by intro hh; cases hh.2.2)]; rfl
  rw [if_pos ⟨rfl, hnb, rfl⟩, okI, cond_true]
  have hnl := norm_len (e := e)
  obtain ⟨w, hl⟩ := refPut_loop2 names by_ hn hnb hby (norm e) (norm_ahead hm) hnl (norm e) [] [] [] rfl rfl (by simp)
  rw [List.length_nil, show ((0 : Nat) : Int) = (0 : Int) from rfl] at hl
  simp only [row, List.nil_append] at hl
  simp only [Norm_eq he, Option.bind_some, inb'_nat, dt (show (norm e).length ≤ most by unfold most; omega), dt (Nat.le_refl _), cond_true, hl])

theorem put_len {e : List Nd} {names : List (List UInt8)} {by_ : List (List Nd)} : (put e names by_).length < 4611686018427387904 := by
  have := putL_len names by_ (norm e) [] []
  have := norm_len (e := e)
  unfold put
  split
  · simp only [List.length_nil] at *; omega
  · simp

end Go.Proofs.Ytcmdngadpplodaa.R
