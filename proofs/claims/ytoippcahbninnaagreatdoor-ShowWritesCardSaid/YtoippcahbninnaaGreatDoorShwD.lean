/-
  OUR OWN: the document's texts; law ShowWrites.
-/
import Derived.Test.YtoippcahbninnaaGreatDoorShwC
namespace Go.Proofs.YtoippcahbninnaaGreatDoor.R
open Go Go.Bm Go.Proofs
set_option linter.unusedVariables false
set_option linter.unusedSimpArgs false
set_option maxRecDepth 4000

theorem dec_len {n : Nat} (h : n ≤ 2147483647) : (Lib.decDigits n).length ≤ 20 := by
  have h1 := digX_dec 19 n [] (by omega)
  have h2 := digX_len 20 n []
  rw [h1] at h2
  simpa using h2

theorem digits_eq : ∀ (m d : Nat), d ≤ m → d ≤ 2147483647 → c83 T.rf (d : Int) = some (Lib.decDigits d) := by
  intro m
  induction m with
  | zero =>
    intro d h _
    have : d = 0 := by omega
    subst this
    refine or83 ?_
    rw [Lib.decDigits, dif_pos (by omega)]; rfl
  | succ m ih =>
    intro d h hd
    have hmod : Int.tmod (d : Int) 10 = ((d % 10 : Nat) : Int) := by rw [Int.tmod_eq_emod_of_nonneg (by omega)]; omega
    have hdiv : Int.tdiv (d : Int) 10 = ((d / 10 : Nat) : Int) := by rw [Int.tdiv_eq_ediv_of_nonneg (by omega)]; omega
    have hs : strOf [IntKind.u8.wrap (IntKind.i64.wrap (48 + Int.tmod (d : Int) 10))] = [UInt8.ofNat (48 + d % 10)] := by
      rw [hmod, wr (by omega), IntWalk.u8_in _ (by omega)]
      show [UInt8.ofNat (48 + ((d % 10 : Nat) : Int)).toNat] = _
      rw [show (48 + ((d % 10 : Nat) : Int)).toNat = 48 + d % 10 by omega]
    refine or83 ?_
    by_cases h10 : d < 10
    · simp only [r83, df (show ¬ ((d : Nat) : Int) ≥ 10 by omega), cond_false, hs]
      rw [Lib.decDigits, dif_pos h10, Nat.mod_eq_of_lt h10]
    · have i1 := ih (d / 10) (by omega) (by omega)
      have hl := dec_len (n := d / 10) (by omega)
      have hw : IntKind.i64.wrap (Int.tdiv (d : Int) 10) = ((d / 10 : Nat) : Int) := by rw [hdiv, wr (by omega)]
      simp only [r83, dt (show ((d : Nat) : Int) ≥ 10 by omega), cond_true, hw, i1, Option.bind_some, hs, ble_most (show (Lib.decDigits (d / 10)).length + [UInt8.ofNat (48 + d % 10)].length ≤ 274877906944 by simp; omega)]
      conv => rhs; rw [Lib.decDigits, dif_neg h10]

theorem digits_itoa {n : Int} (h : 0 ≤ n ∧ n ≤ 2147483647) : c83 T.rf n = some (itoaX n) := by
  obtain ⟨k, rfl⟩ : ∃ k : Nat, n = k := ⟨n.toNat, by omega⟩
  rw [digits_eq k k (Nat.le_refl _) (by omega)]
  have : itoaX (k : Int) = digX 20 k [] := rfl
  rw [this, digX_dec 19 k [] (by omega), List.append_nil]

theorem refMayS_loop (e : List Nd) : ∀ (suf pre : List Nd), e = pre ++ suf → e.length ≤ 1000000 →
    k59 T.rb e (pre.length : Nat) = some (bif suf.all nameN then .inr () else .inl false)
  | [], pre, h, hl => ob59 (by
      subst h
      simp only [b59, lt_end, cond_false, List.all_nil, cond_true])
  | x :: suf, pre, h, hl => ob59 (by
    have ih := refMayS_loop e suf (pre ++ [x]) (by rw [h]; simp) hl
    have hpl : pre.length < 4611686018427387904 := by rw [h] at hl; simp at hl; omega
    subst h
    simp only [b59, lt_mid, inb_mid, nth_mid, cond_true, Option.bind_some, refIsName_eq, next_mid pre x hpl, ih, List.all_cons]
    rw [show nameN x = ((x.2.2.2.2.2 == ([] : Str)) || nameB x.2.2.2.2.2) from rfl]
    generalize suf.all nameN = z
    cases (x.2.2.2.2.2 == ([] : Str)) <;> cases nameB x.2.2.2.2.2 <;> cases z <;> rfl)

theorem refMayS_eq {e : List Nd} (h : e.length ≤ 1000000) : c77 T.rf e = some (mayS e) := or77 (by
  have hl := refMayS_loop e e [] rfl h
  simp only [List.length_nil] at hl
  rw [show ((0 : Nat) : Int) = (0 : Int) from rfl] at hl
  simp only [r77, refMay_eq h, Option.bind_some, hl, mayS]
  cases mayB e <;> cases e.all nameN <;> rfl)

/-! ### Texts put together -/
theorem J_app (l m : List Str) : J (l ++ m) = J l ++ J m := by simp [J]
theorem J_cons (x : Str) (l : List Str) : J (x :: l) = 32 :: (x ++ J l) := by simp [J]
theorem J_nil : J [] = [] := rfl
theorem txt_cons (x : Str) (l : List Str) : txt (x :: l) = x ++ J l := by simp [txt, J]
theorem J_txt {l : List Str} (h : 1 ≤ l.length) : J l = 32 :: txt l := by
  cases l with
  | nil => simp at h
  | cons x l => rw [J_cons, txt_cons]
theorem txt_app {l : List Str} (h : 1 ≤ l.length) (m : List Str) : txt (l ++ m) = txt l ++ J m := by
  cases l with
  | nil => simp at h
  | cons x l => rw [List.cons_append, txt_cons, txt_cons, J_app]; simp

def H : List Str → Str
  | [] => []
  | [a] => 32 :: a
  | a :: b :: r => 32 :: (a ++ 32 :: 44 :: H (b :: r))
theorem H_snoc : ∀ (l : List Str) (x : Str), l ≠ [] → H (l ++ [x]) = H l ++ (32 :: 44 :: 32 :: x)
  | [], x, h => absurd rfl h
  | [a], x, _ => by simp [H]
  | a :: b :: r, x, _ => by
    have := H_snoc (b :: r) x (by simp)
    simp only [List.cons_append] at this ⊢
    rw [H, this, H]; simp

theorem call_loop2 : ∀ (rest done : List Str) (s : Str), s.length + (H rest).length ≤ 100000000 → rest.length + done.length ≤ 1000000 →
    k62 T.rb ((done ++ rest).reverse) s ((rest.length : Int) - 1) = some ((done ++ rest).reverse, s ++ H rest)
  | [], done, s, h, h2 => ob62 (by
    simp only [b62, List.length_nil, df (show ¬ (((0 : Nat) : Int) - 1 ≥ 0) by omega), cond_false, H, List.append_nil])
  | a :: r, done, s, h, h2 => ob62 (by
    have e1 : (done ++ a :: r).reverse = r.reverse ++ a :: done.reverse := by simp
    have e0 : (((a :: r).length : Nat) : Int) - 1 = ((r.reverse.length : Nat) : Int) := by simp only [List.length_cons, List.length_reverse]; omega
    have hH : 1 + a.length ≤ (H (a :: r)).length := by
      cases r with
      | nil => simp [H]; omega
      | cons b r => simp [H]; omega
    have e2 : decide (((r.reverse.length : Nat) : Int) ≥ 0) = true := dt (by omega)
    simp only [List.length_cons] at h2
    rw [e0, e1]
    simp only [b62, e2, cond_true, inb_mid, nth_mid, Option.bind_some, ble_most (show s.length + 1 ≤ 274877906944 by omega), ble_most (show (s ++ ([32] : Str)).length + a.length ≤ 274877906944 by simp; omega)]
    cases r with
    | nil =>
      have ih := call_loop2 [] (done ++ [a]) (s ++ H [a]) (by simp only [H, List.length_append, List.length_cons, List.length_nil] at h ⊢; omega) (by simp only [List.length_append, List.length_cons, List.length_nil] at h2 ⊢; omega)
      simp only [List.append_nil, List.length_nil] at ih
      have e3 : decide ((((([] : List Str).reverse).length : Nat) : Int) > 0) = false := df (by simp)
      have e4 : IntKind.i64.wrap (((((([] : List Str).reverse).length : Nat) : Int)) - 1) = ((0 : Nat) : Int) - 1 := rfl
      rw [e3, e4, cond_false]
      have e5 : ((s ++ ([32] : Str)) ++ a) = s ++ H [a] := by simp [H]
      rw [e5]
      have e6 : (([] : List Str).reverse ++ a :: done.reverse) = (done ++ [a]).reverse := by simp
      rw [e6]
      simpa [H] using ih
    | cons b r =>
      have hlen : s.length + (a.length + 3) + (H (b :: r)).length ≤ 100000000 := by simp only [H, List.length_cons, List.length_append] at h; omega
      have ih := call_loop2 (b :: r) (done ++ [a]) (s ++ (32 :: (a ++ [32, 44]))) (by simp only [List.length_cons, List.length_append, List.length_nil]; omega) (by simp only [List.length_cons, List.length_append, List.length_nil] at h2 ⊢; omega)
      have e3 : decide (((((b :: r).reverse).length : Nat) : Int) > 0) = true := dt (by simp only [List.length_reverse, List.length_cons]; omega)
      have e4 : IntKind.i64.wrap ((((((b :: r).reverse).length : Nat) : Int)) - 1) = (((b :: r).length : Nat) : Int) - 1 := by
        rw [List.length_reverse]; exact wr (by simp only [List.length_cons] at h2 ⊢; omega)
      rw [e3, e4, cond_true, ble_most (show ((s ++ ([32] : Str)) ++ a).length + 2 ≤ 274877906944 by simp only [List.length_cons, List.length_append, List.length_nil]; omega), cond_true]
      have e5 : ((s ++ ([32] : Str)) ++ a) ++ ([32, 44] : Str) = s ++ (32 :: (a ++ [32, 44])) := by simp
      have e6 : ((b :: r).reverse ++ a :: done.reverse) = (done ++ [a] ++ (b :: r)).reverse := by simp
      rw [e5, e6, ih]
      simp [H])

theorem names_of {b : Nd} {ks : List Tr} (h : namesT (.mk b ks) = true) : nameN b = true ∧ namesL ks = true := by rw [namesT, Bool.and_eq_true] at h; exact h
theorem names1 {t : Tr} (h : namesL [t] = true) : namesT t = true := by simpa [namesL] using h
theorem names2 {t u : Tr} (h : namesL [t, u] = true) : namesT t = true ∧ namesT u = true := by simpa [namesL] using h
theorem names3 {t u v : Tr} (h : namesL [t, u, v] = true) : namesT t = true ∧ namesT u = true ∧ namesT v = true := by simpa [namesL] using h

theorem nd_op {e : List Nd} {j : Nat} {t : Tr} (ht : Emb e j t) : ∃ n, nth e j = some n ∧ n.1 = t.op := by
  have hjl := emb_lt ht
  refine ⟨e[j], by rw [nth_getElem?]; exact List.getElem?_eq_getElem hjl, ?_⟩
  have := emb_op ht
  rw [← this]; exact (opAt_of (by rw [nth_getElem?]; exact List.getElem?_eq_getElem hjl)).symm

theorem refPart_of {e : List Nd} {j : Nat} {n : Nd} {ts : List Str} (hn : nth e j = some n) (asked : Int) (h1 : 1 ≤ ts.length) (hw : c82 T.rf e (j : Nat) = some (txt ts)) (hlen : (txt ts).length ≤ 100000000) :
    c85 T.rf e (j : Nat) asked = some (txt (partX asked (n.1, ts))) := or85 (by
  have hj : j < e.length := by rw [nth_getElem?] at hn; exact (List.getElem?_eq_some_iff.1 hn).1
  have e1 : inb ((j : Nat) : Int) e.length = true := inb_t (by omega) (by omega)
  simp only [r85, hw, Option.bind_some, e1, cond_true, Int.toNat_natCast, hn, refLevel_eq, partX]
  by_cases hl : (markX n.1).2 ≥ asked
  · rw [df (show ¬ (markX n.1).2 < asked by omega), if_pos hl, cond_false]
  · rw [dt (show (markX n.1).2 < asked by omega), if_neg hl, cond_true, ble_most (show 2 + (txt ts).length ≤ 274877906944 by omega), cond_true, ble_most (show (([40, 32] : Str) ++ txt ts).length + 2 ≤ 274877906944 by simp; omega), cond_true]
    rw [txt_cons, J_app, J_txt h1]
    simp [J])

theorem part_ne {a : Int} {x : Int × List Str} (h : 1 ≤ x.2.length) : 1 ≤ (partX a x).length := by have := partX_len a x; omega

theorem ref_walk {e : List Nd} : ∀ (m : Nat) (t : Tr) (i : Nat), t.size ≤ m → Emb e i t → Valid t → namesT t = true → t.size ≤ 5000 →
    (t.op ≠ 28 → c82 T.rf e (i : Nat) = some (txt (toks t))) ∧
    (t.op = 28 → ∃ l : List Str, l ≠ [] ∧ H l = J (toks t) ∧ l.length ≤ t.size ∧ ∀ acc : List Str, acc.length + l.length ≤ 1000000 → k61 T.rb acc e (i : Nat) = some (acc ++ l.reverse)) := by
  intro m
  induction m with
  | zero => intro t i h; have := t.size_pos; omega
  | succ m ih =>
    intro t i hm ht hv hnt hN
    have hi : i < e.length := emb_lt ht
    have e1 : inb ((i : Nat) : Int) e.length = true := inb_t (by omega) (by omega)
    have LT : ∀ {u : Tr} {k : Nat}, Emb e k u → Valid u → namesT u = true → u.size ≤ 5000 → (txt (toks u)).length ≤ 1100000 := fun hu hvu hnu hsu => by
      have h1 := (toks_len _ _ _ (Nat.le_refl _) hu hvu).2
      have h2 := txt_len (toks_small _ hnu)
      omega
    cases shape ht hv with
    | leaf h hn hNN hs =>
      rename_i op a b c nn nm
      refine ⟨fun _ => or82 ?_, fun h28 => by have h28 : op = 28 := h28; omega⟩
      have hm2 := mostN_le op
      rw [toks_leaf h]
      rcases h with rfl | rfl | rfl
      · simp only [r82, e1, cond_true, Int.toNat_natCast, hn, Option.bind_some, show ((1 : Int) == 1) = true from rfl, digits_itoa (n := nn) (by omega)]
        simp [txt_cons, J_nil]
      · simp only [r82, e1, cond_true, cond_false, Int.toNat_natCast, hn, Option.bind_some, show ((2 : Int) == 1) = false from rfl, show ((2 : Int) == 2) = true from rfl]
        simp only [txt_cons, J_nil, boolX]
        by_cases h1 : nn = 1
        · subst h1; rfl
        · rw [bf h1, cond_false]; simp [h1]
      · simp only [r82, e1, cond_true, cond_false, Int.toNat_natCast, hn, Option.bind_some, show ((3 : Int) == 1) = false from rfl, show ((3 : Int) == 2) = false from rfl, show ((3 : Int) == 3) = true from rfl]
        simp [txt_cons, J_nil]
    | call0 hn hNN hs =>
      rename_i b c nn nm
      have hnl := nameN_len (names_of hnt).1
      simp only at hnl
      refine ⟨fun _ => or82 ?_, fun h28 => by cases h28⟩
      have hc : c84 T.rf e (i : Nat) = some (nm ++ [32, 40, 32, 41]) := or84 (by
        simp only [r84, e1, cond_true, Int.toNat_natCast, hn, Option.bind_some, show decide ((-1 : Int) < 0) = true from rfl, ble_most (show nm.length + 4 ≤ 274877906944 by omega)])
      rw [toks_call0]
      simp only [r82, e1, cond_true, cond_false, Int.toNat_natCast, hn, Option.bind_some, show ((27 : Int) == 1) = false from rfl, show ((27 : Int) == 2) = false from rfl, show ((27 : Int) == 3) = false from rfl, show ((27 : Int) == 27) = true from rfl, hc]
      simp [txt_cons, J_cons, J_nil]
    | call1 hn hNN hs hj ht1 hv1 ho =>
      rename_i b c nn nm j t1
      have hnl := nameN_len (names_of hnt).1
      simp only at hnl
      rw [size1] at hN hm
      have hn1 := names1 (names_of hnt).2
      refine ⟨fun _ => or82 ?_, fun h28 => by cases h28⟩
      obtain ⟨l, l1, l2, l3, l4⟩ := (ih t1 j (by omega) ht1 hv1 hn1 (by omega)).2 ho
      have hJ := J_len (toks_small _ hn1)
      have hT := (toks_len _ _ _ (Nat.le_refl _) ht1 hv1).2
      have hlp := List.length_pos_iff.2 l1
      have w2 := call_loop2 l [] (nm ++ [32, 40]) (by rw [l2]; simp; omega) (by simp; omega)
      simp only [List.nil_append] at w2
      have w1 := l4 [] (by simp; omega)
      rw [List.nil_append] at w1
      have hc : c84 T.rf e (i : Nat) = some (((nm ++ [32, 40]) ++ H l) ++ [32, 41]) := or84 (by
        simp only [r84, e1, cond_true, cond_false, Int.toNat_natCast, hn, Option.bind_some, df (show ¬ ((j : Nat) : Int) < 0 by omega), w1, ble_most (show nm.length + 2 ≤ 274877906944 by omega), List.length_reverse, show IntKind.i64.wrap (((l.length : Nat) : Int) - 1) = ((l.length : Nat) : Int) - 1 from wr (by omega), w2, ble_most (show ((nm ++ [32, 40]) ++ H l).length + 2 ≤ 274877906944 by rw [l2]; simp; omega)])
      rw [toks_call1]
      simp only [r82, e1, cond_true, cond_false, Int.toNat_natCast, hn, Option.bind_some, show ((27 : Int) == 1) = false from rfl, show ((27 : Int) == 2) = false from rfl, show ((27 : Int) == 3) = false from rfl, show ((27 : Int) == 27) = true from rfl, hc]
      rw [l2, txt_cons, J_cons, J_app, J_cons, J_nil]
      simp
    | arg1 hn hNN hs hj ht1 hv1 ho =>
      rename_i c nn nm j t1
      rw [size1] at hN hm ⊢
      have hn1 := names1 (names_of hnt).2
      have w := (ih t1 j (by omega) ht1 hv1 hn1 (by omega)).1 ho
      have h1 := (toks_len _ _ _ (Nat.le_refl _) ht1 hv1).1
      refine ⟨fun h28 => absurd rfl h28, fun _ => ⟨[txt (toks t1)], by simp, by rw [toks_arg1, J_txt h1]; rfl, by simp, fun acc hacc => ob61 ?_⟩⟩
      have last : k61 T.rb (acc ++ [txt (toks t1)]) e (-1) = some (acc ++ [txt (toks t1)]) := ob61 (by
        simp only [b61, show decide ((-1 : Int) ≥ 0) = false from rfl, cond_false])
      simp only [List.length_cons, List.length_nil] at hacc
      simp only [b61, dt (show ((i : Nat) : Int) ≥ 0 by omega), e1, cond_true, Int.toNat_natCast, hn, Option.bind_some, w, ble_most (show acc.length + 1 ≤ 274877906944 by omega), Bool.and_true, last]
      rfl
    | arg2 hn hNN hs hj ht1 hv1 ho hk hu hvu hou =>
      rename_i c nn nm j k t1 u1
      rw [size2] at hN hm ⊢
      obtain ⟨hn1, hn2⟩ := names2 (names_of hnt).2
      have w := (ih u1 k (by omega) hu hvu hn2 (by omega)).1 hou
      obtain ⟨l, l1, l2, l3, l4⟩ := (ih t1 j (by omega) ht1 hv1 hn1 (by omega)).2 ho
      have h1 := (toks_len _ _ _ (Nat.le_refl _) hu hvu).1
      have hsu := u1.size_pos
      refine ⟨fun h28 => absurd rfl h28, fun _ => ⟨l ++ [txt (toks u1)], by simp, by rw [H_snoc l _ l1, toks_arg2, J_app, J_cons, l2, J_txt h1]; simp, by simp; omega, fun acc hacc => ob61 ?_⟩⟩
      simp only [List.length_append, List.length_cons, List.length_nil] at hacc
      have w2 := l4 (acc ++ [txt (toks u1)]) (by simp; omega)
      simp only [b61, dt (show ((i : Nat) : Int) ≥ 0 by omega), e1, cond_true, Int.toNat_natCast, hn, Option.bind_some, w, ble_most (show acc.length + 1 ≤ 274877906944 by omega), Bool.and_true, w2]
      simp
    | ite hn hNN hs hj ht1 hv1 ho hk hu hvu hou hl hw hvw how =>
      rename_i nn nm j k l t1 u1 v1
      rw [size3] at hN hm
      obtain ⟨hn1, hn2, hn3⟩ := names3 (names_of hnt).2
      refine ⟨fun _ => or82 ?_, fun h28 => by cases h28⟩
      have a1 := (toks_len _ _ _ (Nat.le_refl _) ht1 hv1).1
      have a2 := (toks_len _ _ _ (Nat.le_refl _) hu hvu).1
      have a3 := (toks_len _ _ _ (Nat.le_refl _) hw hvw).1
      have b1 := LT ht1 hv1 hn1 (by omega)
      have b2 := LT hu hvu hn2 (by omega)
      have b3 := LT hw hvw hn3 (by omega)
      have w1 := (ih t1 j (by omega) ht1 hv1 hn1 (by omega)).1 ho
      have w2 := (ih u1 k (by omega) hu hvu hn2 (by omega)).1 hou
      have w3 := (ih v1 l (by omega) hw hvw hn3 (by omega)).1 how
      rw [toks_ite]
      simp only [r82, e1, cond_true, cond_false, Int.toNat_natCast, hn, Option.bind_some, show ((26 : Int) == 1) = false from rfl, show ((26 : Int) == 2) = false from rfl, show ((26 : Int) == 3) = false from rfl, show ((26 : Int) == 27) = false from rfl, show ((26 : Int) == 26) = true from rfl, w1, w2, w3,
        List.length_append, List.length_cons, List.length_nil, ble_most (show 3 + (txt (toks t1)).length ≤ 274877906944 by omega), ble_most (show 0 + 1 + 1 + 1 + (txt (toks t1)).length + 6 ≤ 274877906944 by omega),
        ble_most (show 0 + 1 + 1 + 1 + (txt (toks t1)).length + (0 + 1 + 1 + 1 + 1 + 1 + 1) + (txt (toks u1)).length ≤ 274877906944 by omega), ble_most (show 0 + 1 + 1 + 1 + (txt (toks t1)).length + (0 + 1 + 1 + 1 + 1 + 1 + 1) + (txt (toks u1)).length + 6 ≤ 274877906944 by omega),
        ble_most (show 0 + 1 + 1 + 1 + (txt (toks t1)).length + (0 + 1 + 1 + 1 + 1 + 1 + 1) + (txt (toks u1)).length + (0 + 1 + 1 + 1 + 1 + 1 + 1) + (txt (toks v1)).length ≤ 274877906944 by omega)]
      rw [txt_cons, J_app, J_cons, J_app, J_cons, J_txt a1, J_txt a2, J_txt a3]
      simp [show opX 26 = [105, 102] from rfl]
    | un h hn hNN hs hj ht1 hv1 ho =>
      rename_i op b c nn nm j t1
      rw [size1] at hN hm
      have hn1 := names1 (names_of hnt).2
      refine ⟨fun _ => or82 ?_, fun h28 => by have h28 : op = 28 := h28; omega⟩
      have hm2 := mostN_le op
      have a1 := (toks_len _ _ _ (Nat.le_refl _) ht1 hv1).1
      have b1 := LT ht1 hv1 hn1 (by omega)
      obtain ⟨n1, hd1, ho1⟩ := nd_op ht1
      have w := (ih t1 j (by omega) ht1 hv1 hn1 (by omega)).1 ho
      have P := refPart_of hd1 9 a1 w (by omega)
      rw [ho1] at P
      have hlv : (markX op).2 = 9 := lv_un h
      have hpn := part_ne (a := 9) (x := (t1.op, toks t1)) a1
      have hpl : (txt (partX 9 (t1.op, toks t1))).length ≤ 1100010 := by
        have h2 := txt_len (Small.part (a := 9) (x := (t1.op, toks t1)) (toks_small _ hn1))
        have h3 := (toks_len _ _ _ (Nat.le_refl _) ht1 hv1).2
        have h4 := partX_len 9 (t1.op, toks t1)
        simp only at h4
        omega
      have hol := opX_len op
      have hil := itoaX_len nn
      rw [toks_un h]
      by_cases h25 : op = 25
      · subst h25
        simp only [r82, e1, cond_true, cond_false, Int.toNat_natCast, hn, Option.bind_some, show ((25 : Int) == 1) = false from rfl, show ((25 : Int) == 2) = false from rfl, show ((25 : Int) == 3) = false from rfl, show ((25 : Int) == 27) = false from rfl, show ((25 : Int) == 26) = false from rfl, show ((25 : Int) == 25) = true from rfl, digits_itoa (n := nn) (by omega), P,
          List.length_append, List.length_cons, List.length_nil, ble_most (show 7 + (itoaX nn).length ≤ 274877906944 by omega), ble_most (show 0 + 1 + 1 + 1 + 1 + 1 + 1 + 1 + (itoaX nn).length + 1 ≤ 274877906944 by omega), ble_most (show 0 + 1 + 1 + 1 + 1 + 1 + 1 + 1 + (itoaX nn).length + (0 + 1) + (txt (partX 9 (t1.op, toks t1))).length ≤ 274877906944 by omega)]
        simp only [if_true]
        rw [txt_cons, J_app, J_cons, J_nil, J_txt hpn]
        simp [show opX 25 = [119, 105, 116, 104, 105, 110] from rfl]
      · simp only [r82, e1, cond_true, cond_false, Int.toNat_natCast, hn, Option.bind_some, bf (show op ≠ 1 by omega), bf (show op ≠ 2 by omega), bf (show op ≠ 3 by omega), bf (show op ≠ 27 by omega), bf (show op ≠ 26 by omega), bf h25, refLevel_eq, bt hlv, refOp_eq, show (markX op).1 = opX op from rfl, P,
          List.length_append, List.length_cons, List.length_nil, ble_most (show (opX op).length + 1 ≤ 274877906944 by omega), ble_most (show (opX op).length + (0 + 1) + (txt (partX 9 (t1.op, toks t1))).length ≤ 274877906944 by omega)]
        rw [txt_cons, if_neg h25, List.nil_append, J_txt hpn]
        simp
    | bin h hn hNN hs hj ht1 hv1 ho hk hu hvu hou =>
      rename_i op c nn nm j k t1 u1
      rw [size2] at hN hm
      obtain ⟨hn1, hn2⟩ := names2 (names_of hnt).2
      refine ⟨fun _ => or82 ?_, fun h28 => by have h28 : op = 28 := h28; omega⟩
      have a1 := (toks_len _ _ _ (Nat.le_refl _) ht1 hv1).1
      have b1 := LT ht1 hv1 hn1 (by omega)
      have a2 := (toks_len _ _ _ (Nat.le_refl _) hu hvu).1
      have b2 := LT hu hvu hn2 (by omega)
      obtain ⟨n1, hd1, ho1⟩ := nd_op ht1
      obtain ⟨n2, hd2, ho2⟩ := nd_op hu
      have w1 := (ih t1 j (by omega) ht1 hv1 hn1 (by omega)).1 ho
      have w2 := (ih u1 k (by omega) hu hvu hn2 (by omega)).1 hou
      have P : ∀ asked : Int, c85 T.rf e (j : Nat) asked = some (txt (partX asked (t1.op, toks t1))) := fun asked => by
        have := refPart_of hd1 asked a1 w1 (by omega); rwa [ho1] at this
      have Q : ∀ asked : Int, c85 T.rf e (k : Nat) asked = some (txt (partX asked (u1.op, toks u1))) := fun asked => by
        have := refPart_of hd2 asked a2 w2 (by omega); rwa [ho2] at this
      obtain ⟨lv1, lv2⟩ := lv_bin h
      have hol := opX_len op
      have pl : ∀ asked : Int, (txt (partX asked (t1.op, toks t1))).length ≤ 1100010 := fun asked => by
        have h2 := txt_len (Small.part (a := asked) (x := (t1.op, toks t1)) (toks_small _ hn1))
        have h3 := (toks_len _ _ _ (Nat.le_refl _) ht1 hv1).2
        have h4 := partX_len asked (t1.op, toks t1)
        simp only at h4
        omega
      have ql : ∀ asked : Int, (txt (partX asked (u1.op, toks u1))).length ≤ 1100010 := fun asked => by
        have h2 := txt_len (Small.part (a := asked) (x := (u1.op, toks u1)) (toks_small _ hn2))
        have h3 := (toks_len _ _ _ (Nat.le_refl _) hu hvu).2
        have h4 := partX_len asked (u1.op, toks u1)
        simp only at h4
        omega
      have pn : ∀ asked : Int, 1 ≤ (partX asked (t1.op, toks t1)).length := fun asked => part_ne a1
      have qn : ∀ asked : Int, 1 ≤ (partX asked (u1.op, toks u1)).length := fun asked => part_ne a2
      have hlx : (markX op).2 = lvX op := rfl
      have hw : IntKind.i64.wrap (lvX op + 1) = lvX op + 1 := wr (by omega)
      have fin : ∀ x y : Int, some ((((txt (partX x (t1.op, toks t1)) ++ ([32] : Str)) ++ opX op) ++ ([32] : Str)) ++ txt (partX y (u1.op, toks u1))) = some (txt (partX x (t1.op, toks t1) ++ opX op :: partX y (u1.op, toks u1))) := fun x y => by
        rw [txt_app (pn x), J_cons, J_txt (qn y)]; simp
      have G1 : ∀ x : Int, Nat.ble ((txt (partX x (t1.op, toks t1))).length + 1) most = true := fun x => ble_most (by have := pl x; omega)
      have G2 : ∀ x : Int, Nat.ble ((txt (partX x (t1.op, toks t1)) ++ ([32] : Str)).length + (opX op).length) most = true := fun x => ble_most (by have := pl x; simp; omega)
      have G3 : ∀ x : Int, Nat.ble (((txt (partX x (t1.op, toks t1)) ++ ([32] : Str)) ++ opX op).length + 1) most = true := fun x => ble_most (by have := pl x; simp; omega)
      have G4 : ∀ x y : Int, Nat.ble ((((txt (partX x (t1.op, toks t1)) ++ ([32] : Str)) ++ opX op) ++ ([32] : Str)).length + (txt (partX y (u1.op, toks u1))).length) most = true := fun x y => ble_most (by have := pl x; have := ql y; simp; omega)
      rw [toks_bin h]
      simp only [r82, e1, cond_true, cond_false, Int.toNat_natCast, hn, Option.bind_some, bf (show op ≠ 1 by omega), bf (show op ≠ 2 by omega), bf (show op ≠ 3 by omega), bf (show op ≠ 27 by omega), bf (show op ≠ 26 by omega), bf (show op ≠ 25 by omega), refLevel_eq, hlx, bf (show lvX op ≠ 9 by omega), hw, refOp_eq, show (markX op).1 = opX op from rfl, P, Q, G1, G2, G3, G4, fin, leftX, rightX]
      by_cases h2 : lvX op ≤ 2
      · simp only [dt h2, cond_true, bf (show lvX op ≠ 6 by omega), cond_false, if_pos h2]
      · simp only [df h2, cond_false, if_neg h2]
        by_cases h6 : lvX op = 6
        · simp only [bt h6, cond_true, if_pos h6, h6]; rfl
        · simp only [bf h6, cond_false, if_neg h6]

theorem refShow_tree {e : List Nd} {t : Tr} (h : mayB e = true) (ht : Emb e (e.length - 1) t) (hv : Valid t) (hs : t.size ≤ 5000) (hop : t.op ≠ 28) (hl : e.length ≤ 1000000) :
    c76 T.rf e = some (if namesT t = true then txt (toks t) else []) := or76 (by
  have hpos := List.length_pos_iff.2 (may_P h).ne
  simp only [r76, refMayS_eq hl, Option.bind_some, mayS, h, Bool.true_and, names_tree h ht]
  cases hn : namesT t with
  | false => rfl
  | true =>
    have w := (ref_walk t.size t (e.length - 1) (Nat.le_refl _) ht hv hn hs).1 hop
    rw [last_i (may_P h).ne (by omega), Bool.not_true, cond_false, w]
    rfl)
theorem refShow_not {e : List Nd} (h : mayB e = false) (hl : e.length ≤ 1000000) : c76 T.rf e = some [] := or76 (by
  simp only [r76, refMayS_eq hl, Option.bind_some, mayS, h, Bool.false_and]; rfl)

theorem ShowWrites_eq (e : List Nd) (op : Int) : c0 T.rf e op = some true := or0 (by
  have live_eq : c1 T.rf = some true := live_run
  simp only [r0, live_eq, Option.bind_some]
  by_cases hl : e.length ≤ 300
  case neg => rw [dt (by omega)]; rfl
  have h1 : e.length ≤ 1000000 := by omega
  have hsame : ∃ s, c43 T.rf e = some s ∧ c76 T.rf e = some s := by
    cases hm : mayB e with
    | false => exact ⟨_, Show_not hm h1, refShow_not hm h1⟩
    | true =>
      obtain ⟨t, k1, k2, k3, k4, k5, k6, k7, k8⟩ := norm_tree hm
      exact ⟨_, Show_tree hm k1 k2 k4 k3 h1, refShow_tree hm k1 k2 k4 k3 h1⟩
  obtain ⟨s, g1, g2⟩ := hsame
  have hx : ((markX op).1 == (markX op).1) = true := beq_self_eq_true _
  have hy : ((markX op).2 == (markX op).2) = true := beq_self_eq_true _
  have hz : (mayS e == mayS e) = true := beq_self_eq_true _
  rw [df (by omega), cond_false, g1, Option.bind_some, g2, Option.bind_some, beq_self_eq_true, cond_true, mayS_eq h1, Option.bind_some, refMayS_eq h1, Option.bind_some, hz, cond_true, op_eq, Option.bind_some, refOp_eq, Option.bind_some, hx, cond_true, level_eq, Option.bind_some, refLevel_eq, Option.bind_some, hy, cond_true])

theorem lawShowWrites : LawOk T 0 := fun d _ => ⟨true, ShowWrites_eq d.1 d.2, rfl, rfl, rfl⟩

end Go.Proofs.YtoippcahbninnaaGreatDoor.R
