/-
  OUR OWN: what the functions of package tree and of its document come to, in plain Lean: expressions in the places of streams.
-/
import Derived.Test.YtomofgclaiaikaaTreeI
namespace Go.Proofs.Ytomofgclaiaikaa.R
open Go Go.Bm Go.Proofs
set_option linter.unusedVariables false
set_option linter.unusedSimpArgs false
set_option maxRecDepth 4000

/-- Where a text first is among some; below 0: it is none. -/
def placeI (x : List UInt8) : List (List UInt8) → Nat → Int
  | [], _ => -1
  | y :: r, i => if y = x then (i : Int) else placeI x r (i + 1)

theorem placeI_lt (x : List UInt8) : ∀ (l : List (List UInt8)) (i : Nat), placeI x l i = -1 ∨ (i : Int) ≤ placeI x l i ∧ placeI x l i < i + l.length
  | [], i => .inl rfl
  | y :: r, i => by
    rw [placeI]
    split
    · right; simp; omega
    · rcases placeI_lt x r (i + 1) with h | h
      · exact .inl h
      · right; simp; omega

/-- A place, or none. -/
def foundI (z : Int) : Int ⊕ Unit := if z = -1 then .inr () else .inl z

theorem place_loop (x : List UInt8) : ∀ (suf pre : List (List UInt8)), pre.length + suf.length ≤ 1000000 →
    k131 T.rb (pre ++ suf) x (pre.length : Nat) = some (foundI (placeI x suf pre.length))
  | [], pre, h => ob131 (by simp only [b131, lt_end, lt_self, List.append_nil, cond_false]; rfl)
  | y :: suf, pre, h => ob131 (by
    simp only [List.length_cons] at h
    have ih := place_loop x suf (pre ++ [y]) (by simp; omega)
    have hpl : (pre ++ [y]).length = pre.length + 1 := by simp
    simp only [List.append_assoc, List.singleton_append] at ih
    simp only [b131, lt_mid, inb_mid, nth_mid, cond_true, Option.bind_some, next_mid pre y (by omega)]
    by_cases e : y = x
    · subst e
      rw [beq_self_eq_true, cond_true, placeI, if_pos rfl, foundI, if_neg (by omega)]
    · rw [beq_eq_false_iff_ne.2 e, cond_false, placeI, if_neg e, ← hpl]; exact ih)
theorem place_eq {l : List (List UInt8)} (x : List UInt8) (h : l.length ≤ 1000000) : c107 T.rf l x = some (placeI x l 0) := or107 (by
  have := place_loop x l [] (by simpa using h)
  simp only [List.nil_append, List.length_nil] at this
  rw [show ((0 : Nat) : Int) = (0 : Int) from rfl] at this
  simp only [r107, this, Option.bind_some]
  by_cases e : placeI x l 0 = -1
  · rw [e]; rfl
  · rw [foundI, if_neg e])

/-! ### Put -/
def atL (at_ : List Int) (ks : List Int) : List Int := ks.map fun k => at_.getD k.toNat 0
/-- The nodes in order, each put or turned. -/
def putL (names : List (List UInt8)) (by_ : List (List Nd)) : List Nd → List Nd → List Int → List Nd
  | [], o, _ => o
  | n :: r, o, at_ =>
    let o' := if n.1 = 3 ∧ 0 ≤ placeI n.2.2.2.2.2 names 0 then o ++ (norm (by_.getD (placeI n.2.2.2.2.2 names 0).toNat [])).map (mv o.length) else o ++ [aim n (atL at_ (kids n))]
    putL names by_ r o' (at_ ++ [(o'.length : Int) - 1])

theorem putL_len (names : List (List UInt8)) (by_ : List (List Nd)) : ∀ (l o : List Nd) (at_ : List Int), (putL names by_ l o at_).length ≤ o.length + 5001 * l.length
  | [], o, at_ => by simp [putL]
  | n :: r, o, at_ => by
    rw [putL]
    refine Nat.le_trans (putL_len names by_ r _ _) ?_
    have := norm_len (e := by_.getD (placeI n.2.2.2.2.2 names 0).toNat [])
    split
    · simp only [List.length_append, List.length_map, List.length_cons]; omega
    · simp only [List.length_append, List.length_cons, List.length_nil]; omega

theorem at_nth {at_ : List Int} {k : Int} (h : 0 ≤ k) (h2 : k < at_.length) : nth at_ k.toNat = some (at_.getD k.toNat 0) := by
  rw [nth_getElem?, List.getD_eq_getElem?_getD, List.getElem?_eq_getElem (by omega)]; rfl

theorem refPut_loop4 (at_ : List Int) (hl : at_.length ≤ 1000000) : ∀ (suf pre out : List Int), (∀ k ∈ suf, 0 ≤ k ∧ k < at_.length) → pre.length + suf.length ≤ 3 → out.length + suf.length ≤ 3 →
    k141 T.rb at_ (pre ++ suf) out (pre.length : Nat) = some (at_, pre ++ suf, out ++ atL at_ suf)
  | [], pre, out, h, h2, h3 => ob141 (by simp only [b141, lt_end, lt_self, List.append_nil, cond_false, atL, List.map_nil])
  | k :: suf, pre, out, h, h2, h3 => ob141 (by
    simp only [List.length_cons] at h2 h3
    have hk := h k List.mem_cons_self
    have ih := refPut_loop4 at_ hl suf (pre ++ [k]) (out ++ [at_.getD k.toNat 0]) (fun q hq => h q (List.mem_cons_of_mem _ hq)) (by simp; omega) (by simp; omega)
    simp only [List.append_assoc, List.singleton_append] at ih
    simp only [b141, lt_mid, inb_mid, nth_mid, cond_true, Option.bind_some, inb_t hk.1 hk.2, at_nth hk.1 hk.2, ble_most (show out.length + 1 ≤ 274877906944 by omega), Bool.and_true, next_mid pre k (by omega)]
    rw [ih, atL, atL, List.map_cons])

/-- Of a list of expressions: all may be. -/
theorem sub_norm (x : List Nd) : subE x ((x.length : Int) - 1) = norm x := rfl

/-- The document's row of places: what is not reckoned yet is 0. -/
theorem refPut_tail (by_ : List (List Nd)) (hby : ∀ x ∈ by_, x.length ≤ 1000000) (e : List Nd) (hA : Ahead e) (he : e.length ≤ 5001) (i : Nat) (n : Nd) (hn : nth e i = some n) (o : List Nd) (ho : o.length ≤ 5001 * i) (at_ : List Int) (hat : at_.length = i) (m : Nat) (hm : i + (m + 1) = e.length) (k : Int) (hk : k = -1 ∨ (0 ≤ k ∧ k < by_.length)) :
    k140 T.rb e o (at_ ++ (0 : Int) :: List.replicate m 0) by_ (i : Nat) k =
      some (e, at_ ++ ((((if 0 ≤ k then o ++ (norm (by_.getD k.toNat [])).map (mv o.length) else o ++ [aim n (atL at_ (kids n))]).length : Nat) : Int) - 1) :: List.replicate m 0,
        if 0 ≤ k then o ++ (norm (by_.getD k.toNat [])).map (mv o.length) else o ++ [aim n (atL at_ (kids n))]) := ob140 (by
  have hset : ∀ y : Int, setNth (at_ ++ (0 : Int) :: List.replicate m 0) ((i : Nat) : Int).toNat y = at_ ++ y :: List.replicate m 0 := fun y => by
    rw [setNth_set, Int.toNat_natCast, ← hat, List.set_append_right _ _ (Nat.le_refl _), Nat.sub_self, List.set_cons_zero]
  have hrl : (at_ ++ (0 : Int) :: List.replicate m 0).length = i + (m + 1) := by simp [hat]
  have hin : inb ((i : Nat) : Int) (at_ ++ (0 : Int) :: List.replicate m 0).length = true := inb_t (by omega) (by rw [hrl]; omega)
  have hbl : Nat.blt ((i : Nat) : Int).toNat (at_ ++ (0 : Int) :: List.replicate m 0).length = true := blt_t (by rw [hrl]; simp)
  have hil : inb ((i : Nat) : Int) e.length = true := inb_t (by omega) (by omega)
  have hn' : nth e ((i : Nat) : Int).toNat = some n := by rw [Int.toNat_natCast]; exact hn
  by_cases h0 : 0 ≤ k
  · have hkl : k < by_.length := by omega
    obtain ⟨x, hx⟩ : ∃ x, nth by_ k.toNat = some x := ⟨_, nth_t (by omega)⟩
    have hxg : by_.getD k.toNat [] = x := by
      rw [nth_getElem?] at hx; rw [List.getD_eq_getElem?_getD, hx]; rfl
    have hxl : x.length ≤ 1000000 := hby x (by rw [nth_getElem?] at hx; exact List.mem_of_getElem? hx)
    have hnl := norm_len (e := x)
    simp only [if_pos h0, hxg]
    simp only [b140, dt (show k ≥ 0 from h0), cond_true, inb_t h0 hkl, hx, Option.bind_some, Norm_eq hxl, refBehind_eq (show o.length + (norm x).length ≤ 274877906944 by omega), hin, hbl,
      wr_pred (show (o ++ (norm x).map (mv o.length)).length < 4611686018427387904 by simp; omega), hset]
  · have hk3 := kids_len n
    have hal := hA i n hn
    have hl4 := refPut_loop4 (at_ ++ (0 : Int) :: List.replicate m 0) (by rw [hrl]; omega) (kids n) [] [] (fun k hk => by have := hal k hk; rw [hrl]; omega) (by simpa using hk3) (by simpa using hk3)
    simp only [List.nil_append, List.length_nil] at hl4
    rw [show ((0 : Nat) : Int) = (0 : Int) from rfl] at hl4
    have hatl : atL (at_ ++ (0 : Int) :: List.replicate m 0) (kids n) = atL at_ (kids n) := by
      refine List.map_congr_left fun k hk => ?_
      have := hal k hk
      rw [List.getD_eq_getElem?_getD, List.getD_eq_getElem?_getD, List.getElem?_append_left (by omega)]
    rw [hatl] at hl4
    simp only [if_neg h0]
    simp only [b140, df (show ¬ k ≥ 0 from h0), cond_false, hil, cond_true, hn', Option.bind_some, refKids_eq, hl4, aim_eq, ble_most (show o.length + 1 ≤ 274877906944 by omega), Bool.and_true, hin, hbl,
      wr_pred (show (o ++ [aim n (atL at_ (kids n))]).length < 4611686018427387904 by simp; omega), hset])

theorem refPut_loop2 (names : List (List UInt8)) (by_ : List (List Nd)) (hn : names.length ≤ 1000) (hnb : names.length = by_.length) (hby : ∀ x ∈ by_, x.length ≤ 1000000) (e : List Nd) (hA : Ahead e) (he : e.length ≤ 5001) :
    ∀ (suf pre o : List Nd) (at_ : List Int), e = pre ++ suf → at_.length = pre.length → o.length ≤ 5001 * pre.length →
      ∃ w, k139 T.rb e o (row at_ suf.length) names by_ (pre.length : Nat) = some (e, w, putL names by_ suf o at_)
  | [], pre, o, at_, h, hat, ho => ⟨_, ob139 (by
    rw [h]; simp only [b139, lt_end, lt_self, List.append_nil, cond_false, putL]; rfl)⟩
  | n :: suf, pre, o, at_, h, hat, ho => by
    have hpl : (pre ++ [n]).length = pre.length + 1 := by simp
    have hlt : pre.length < e.length := by rw [h]; simp
    have a1 : decide (((pre.length : Nat) : Int) < ((e.length : Nat) : Int)) = true := dt (by omega)
    have a2 : inb ((pre.length : Nat) : Int) e.length = true := inb_t (by omega) (by omega)
    have a3' : nth e pre.length = some n := by rw [h, nth_getElem?]; simp
    have a3 : nth e ((pre.length : Nat) : Int).toNat = some n := by rw [Int.toNat_natCast]; exact a3'
    have a4 : IntKind.i64.wrap (((pre.length : Nat) : Int) + 1) = ((pre ++ [n]).length : Nat) := next_mid pre n (by omega)
    have hp := placeI_lt n.2.2.2.2.2 names 0
    have hrow : row at_ (n :: suf).length = at_ ++ (0 : Int) :: List.replicate suf.length 0 := by simp [row, List.replicate_succ]
    have htail := fun k hk => refPut_tail by_ hby e hA he pre.length n a3' o ho at_ hat suf.length (by rw [h]; simp) k hk
    have key : ∀ k : Int, (k = -1 ∨ (0 ≤ k ∧ k < by_.length)) → (0 ≤ k ↔ (n.1 = 3 ∧ 0 ≤ placeI n.2.2.2.2.2 names 0)) → (0 ≤ k → k = placeI n.2.2.2.2.2 names 0) →
        (b139 T.rf T.rb e o (row at_ (n :: suf).length) names by_ (pre.length : Nat) = (k140 T.rb e o (row at_ (n :: suf).length) by_ (pre.length : Nat) k).bind fun z => k139 T.rb z.1 z.2.2 z.2.1 names by_ ((pre ++ [n]).length : Nat)) →
        ∃ w, k139 T.rb e o (row at_ (n :: suf).length) names by_ (pre.length : Nat) = some (e, w, putL names by_ (n :: suf) o at_) := by
      intro k hk h1 h2 hb
      rw [hrow, htail k hk, ← hrow, Option.bind_some] at hb
      dsimp only at hb
      have ho' : (if 0 ≤ k then o ++ (norm (by_.getD k.toNat [])).map (mv o.length) else o ++ [aim n (atL at_ (kids n))]) = (if n.1 = 3 ∧ 0 ≤ placeI n.2.2.2.2.2 names 0 then o ++ (norm (by_.getD (placeI n.2.2.2.2.2 names 0).toNat [])).map (mv o.length) else o ++ [aim n (atL at_ (kids n))]) := by
        by_cases hc : 0 ≤ k
        · rw [if_pos hc, if_pos (h1.1 hc), ← h2 hc]
        · rw [if_neg hc, if_neg (fun hh => hc (h1.2 hh))]
      rw [ho'] at hb
      have hol : (if n.1 = 3 ∧ 0 ≤ placeI n.2.2.2.2.2 names 0 then o ++ (norm (by_.getD (placeI n.2.2.2.2.2 names 0).toNat [])).map (mv o.length) else o ++ [aim n (atL at_ (kids n))]).length ≤ 5001 * (pre ++ [n]).length := by
        have hnl := norm_len (e := by_.getD (placeI n.2.2.2.2.2 names 0).toNat [])
        rw [hpl]
        split
        · simp only [List.length_append, List.length_map]; omega
        · simp only [List.length_append, List.length_singleton]; omega
      have e2 : ∀ y : Int, at_ ++ y :: List.replicate suf.length 0 = row (at_ ++ [y]) suf.length := fun y => by simp [row]
      rw [e2] at hb
      obtain ⟨w, ih⟩ := refPut_loop2 names by_ hn hnb hby e hA he suf (pre ++ [n]) _ (at_ ++ [((if n.1 = 3 ∧ 0 ≤ placeI n.2.2.2.2.2 names 0 then o ++ (norm (by_.getD (placeI n.2.2.2.2.2 names 0).toNat [])).map (mv o.length) else o ++ [aim n (atL at_ (kids n))]).length : Int) - 1]) (by rw [h]; simp) (by simp [hat]) hol
      refine ⟨w, ob139 (hb.trans ?_)⟩
      rw [ih, putL]
    by_cases h3 : n.1 = 3
    · refine key (placeI n.2.2.2.2.2 names 0) (by omega) ⟨fun h => ⟨h3, h⟩, fun h => h.2⟩ (fun _ => rfl) ?_
      simp only [b139, a1, a2, a3, cond_true, Option.bind_some, bt h3, place_eq _ (show names.length ≤ 1000000 by omega), a4]
    · refine key (-1) (.inl rfl) ⟨fun h => by omega, fun h => absurd h.1 h3⟩ (fun h => by omega) ?_
      simp only [b139, a1, a2, a3, cond_true, Option.bind_some, bf h3, cond_false, a4]

/-! ### All may be -/
/-- All may be, or not. -/
def okI (b : Bool) : List Nd ⊕ Unit := bif b then .inr () else .inl []

theorem refPut_loop0 : ∀ (suf pre : List (List Nd)), (∀ x ∈ suf, x.length ≤ 1000000) → pre.length + suf.length ≤ 1000000 →
    k138 T.rb (pre ++ suf) (pre.length : Nat) = some (okI (suf.all mayB))
  | [], pre, hx, h => ob138 (by simp only [b138, lt_end, lt_self, List.append_nil, cond_false]; rfl)
  | x :: suf, pre, hx, h => ob138 (by
    simp only [List.length_cons] at h
    have hxl := hx x List.mem_cons_self
    have ih := refPut_loop0 suf (pre ++ [x]) (fun q hq => hx q (List.mem_cons_of_mem _ hq)) (by simp; omega)
    simp only [List.append_assoc, List.singleton_append] at ih
    simp only [b138, lt_mid, inb_mid, nth_mid, cond_true, Option.bind_some, refMay_eq hxl, next_mid pre x (by omega), List.all_cons]
    cases hm : mayB x
    · rfl
    · simp only [Bool.not_true, cond_false, Bool.true_and]; exact ih)

/-- Expressions in the places of streams. -/
def put (e : List Nd) (names : List (List UInt8)) (by_ : List (List Nd)) : List Nd :=
  if mayB e = true ∧ names.length = by_.length ∧ by_.all mayB = true then putL names by_ (norm e) [] [] else []

theorem norm_ahead {e : List Nd} (h : mayB e = true) : Ahead (norm e) := (may_P (norm_may h).1).ahead

theorem refPut_eq {e : List Nd} {names : List (List UInt8)} {by_ : List (List Nd)} (he : e.length ≤ 1000000) (hn : names.length ≤ 1000) (hb : by_.length ≤ 1000) (hby : ∀ x ∈ by_, x.length ≤ 1000000) : c106 T.rf e names by_ = some (put e names by_) := or106 (by
  simp only [r106, refMay_eq he, Option.bind_some, put]
  cases hm : mayB e
  · rw [if_neg (by intro hh; cases hh.1)]; rfl
  rw [Bool.not_true, cond_false]
  by_cases hnb : names.length = by_.length
  case neg => rw [nbf (by omega), cond_true, if_neg (fun hh => hnb hh.2.1)]
  have h0 := refPut_loop0 by_ [] hby (by simp; omega)
  simp only [List.nil_append, List.length_nil] at h0
  rw [show ((0 : Nat) : Int) = (0 : Int) from rfl] at h0
  rw [nbt (by omega), cond_false, h0, Option.bind_some]
  cases ha : by_.all mayB
  · rw [if_neg (by intro hh; cases hh.2.2)]; rfl
  rw [if_pos ⟨rfl, hnb, rfl⟩, okI, cond_true]
  have hnl := norm_len (e := e)
  obtain ⟨w, hl⟩ := refPut_loop2 names by_ hn hnb hby (norm e) (norm_ahead hm) hnl (norm e) [] [] [] rfl rfl (by simp)
  rw [List.length_nil, show ((0 : Nat) : Int) = (0 : Int) from rfl] at hl
  simp only [row, List.nil_append] at hl
  simp only [Norm_eq he, Option.bind_some, inb'_nat, dt (show (norm e).length ≤ most by unfold most; omega), dt (Nat.le_refl _), cond_true, hl])

theorem put_len {e : List Nd} {names : List (List UInt8)} {by_ : List (List Nd)} : (put e names by_).length < 4611686018427387904 := by
  have := putL_len names by_ (norm e) [] []
  have := norm_len (e := e)
  unfold put
  split
  · simp only [List.length_nil] at *; omega
  · simp

end Go.Proofs.Ytomofgclaiaikaa.R
