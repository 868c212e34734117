import Derived.Test.YtlobhcgbmpcdlaaGreatDoorLstE
open Option (bind_some)
open List (length_append length_cons length_nil)
namespace Go.Proofs.YtlobhcgbmpcdlaaGreatDoor.R
open Go Go.Bm Go.Proofs
set_option linter.unusedVariables false
set_option linter.unusedSimpArgs false
set_option maxRecDepth 4000
theorem c1A {u : Unt} (hu : T4 u = true) (d : Str) (hd : d.length ≤ 100000000000) : c0l T.rb u d = some (u, d ++ K (Y9 u.2.2.2.2.2.1 ++ ([108, 101, 116] :: (a7K u.2.2.2.2.2.2.1 ++ [[116, 101, 108]])))) := d0F (by
 have H := unF hu
 obtain ⟨k, nm, i, o, t, v, q, xs⟩ := u
 have hv := H.v; have hq := H.q
 simp only at hv hq
 have h2 := b8y k nm i o t q xs v [] d (by simp; omega) H.vb (by omega)
 simp only [List.nil_append, length_nil, if_true] at h2
 rw [show ((0 : Nat) : Int) = (0 : Int) from rfl] at h2
 have hV : (K (Y9 v)).length ≤ 20000 := by
  have := a4G H.vb
  rw [a8i]; unfold Y9
  split
  · simp only [J_c, J_a, J_n, length_cons, length_nil]; simp only at this; omega
  · simp [J]
 have hQ : (K (a7K q)).length ≤ 60020000 := by
  rw [a8i]
  have := a8T (f := wEq) 300100 q fun x hx => (b3Y (H.qb x hx)).1
  have := Nat.mul_le_mul_right 300100 hq
  rw [a7K]; omega
 have h4 := b8z k nm i o t v xs q [] (d ++ K (Y9 v) ++ [108, 101, 116, 32]) (by simp; omega) H.qb (by simp; omega)
 simp only [List.nil_append, length_nil] at h4
 rw [show ((0 : Nat) : Int) = (0 : Int) from rfl] at h4
 simp only [b9o, h2, bind_some, a6 (show (d ++ K (Y9 v)).length + 4 ≤ 274877906944 by simp; omega), cond_true, h4, a6 (show ((d ++ K (Y9 v) ++ [108, 101, 116, 32]) ++ K (a7K q)).length + 4 ≤ 274877906944 by simp; omega)]
 simp only [O1, J9, a0H]
 simp)
theorem a8a {u : Unt} (hu : T4 u = true) : c5S T.rf u = some (K (wUn u)) := d1P (by
 have H := unF hu
 have T11 := fun d hd => c1A hu d hd
 obtain ⟨k, nm, i, o, t, v, q, xs⟩ := u
 have hi := H.i; have hx := H.x
 have hn := s3 H.nm
 simp only at hi hx hn
 have h0 := b8x k nm i o t v q xs [] [] (by simp; omega) H.xb (by simp; omega)
 simp only [List.nil_append, length_nil] at h0
 rw [show ((0 : Nat) : Int) = (0 : Int) from rfl] at h0
 have hX : (K (a2N xs)).length ≤ 14000000000 := by
  rw [a8i]
  have := a8T (f := wIt) 70000000 xs fun x hx => b3Z (H.xb x hx)
  have := Nat.mul_le_mul_right 70000000 hx
  rw [a2N]; omega
 have hI : (txt (wIn i)).length ≤ 20000 := by
  have h1 := a1A (wIn i)
  have h2 := a4G H.ib
  simp only at h2
  rw [wIn] at h1
  simp only [J_c, J_a, J_n, length_cons, length_nil] at h1
  rw [wIn]; omega
 have hin := a9X hi H.ib
 have hKi : K (wIn i) = txt (wIn i) ++ [32] := (a0I (by simp [wIn])).symm
 simp only [c1u, h0, bind_some]
 cases k with
 | true =>
   simp only [cond_true, hin, bind_some, a6 (show 9 + nm.length ≤ 274877906944 by omega), a6 (show (([99, 111, 110, 116, 114, 97, 99, 116, 32] : Str) ++ nm).length + 1 ≤ 274877906944 by simp; omega), a6 (show ((([99, 111, 110, 116, 114, 97, 99, 116, 32] : Str) ++ nm) ++ ([32] : Str)).length + (txt (wIn i)).length ≤ 274877906944 by simp; omega),
    a6 (show (((([99, 111, 110, 116, 114, 97, 99, 116, 32] : Str) ++ nm) ++ ([32] : Str)) ++ txt (wIn i)).length + 1 ≤ 274877906944 by simp; omega), a6 (show ((((([99, 111, 110, 116, 114, 97, 99, 116, 32] : Str) ++ nm) ++ ([32] : Str)) ++ txt (wIn i)) ++ ([32] : Str)).length + (K (a2N xs)).length ≤ 274877906944 by simp; omega), a6 (show (((((([99, 111, 110, 116, 114, 97, 99, 116, 32] : Str) ++ nm) ++ ([32] : Str)) ++ txt (wIn i)) ++ ([32] : Str)) ++ K (a2N xs)).length + 4 ≤ 274877906944 by simp; omega)]
   rw [wUn, if_pos rfl]
   simp only [J9, O1, a0H, hKi]
   simp
 | false =>
   have ho : M9 (o, t) = true := H.o rfl
   have ho1 : o.length ≤ 40 := by rw [M9, Bool.and_eq_true] at ho; exact s3 ho.1
   have hoJ := a9n ho
   have hoT := a1A (wPm (o, t))
   have hone := Y1 (p := (o, t)) (by show o.length ≤ 1000; omega)
   have hKo : K (wIn [(o, t)]) = [40, 32] ++ (txt (wPm (o, t)) ++ [32, 41, 32]) := by
    rw [wIn, List.map_cons, List.map_nil, a3U]
    simp only [J9, O1, a0H, ← a0I (show 1 ≤ (wPm (o, t)).length by simp [wPm])]
    simp
   simp only [cond_false, hin, hone, bind_some, a6 (show 5 + nm.length ≤ 274877906944 by omega), a6 (show (([110, 111, 100, 101, 32] : Str) ++ nm).length + 1 ≤ 274877906944 by simp; omega), a6 (show ((([110, 111, 100, 101, 32] : Str) ++ nm) ++ ([32] : Str)).length + (txt (wIn i)).length ≤ 274877906944 by simp; omega),
    a6 (show (((([110, 111, 100, 101, 32] : Str) ++ nm) ++ ([32] : Str)) ++ txt (wIn i)).length + 11 ≤ 274877906944 by simp; omega), a6 (show ((((([110, 111, 100, 101, 32] : Str) ++ nm) ++ ([32] : Str)) ++ txt (wIn i)) ++ ([32, 114, 101, 116, 117, 114, 110, 115, 32, 40, 32] : Str)).length + (txt (wPm (o, t))).length ≤ 274877906944 by simp; omega),
    a6 (show (((((([110, 111, 100, 101, 32] : Str) ++ nm) ++ ([32] : Str)) ++ txt (wIn i)) ++ ([32, 114, 101, 116, 117, 114, 110, 115, 32, 40, 32] : Str)) ++ txt (wPm (o, t))).length + 3 ≤ 274877906944 by simp; omega), cond_true]
   by_cases hl : xs.length > 0
   · rw [dt (show ((xs.length : Nat) : Int) > 0 by omega), cond_true]
     simp only [a6 (show ((((((([110, 111, 100, 101, 32] : Str) ++ nm) ++ ([32] : Str)) ++ txt (wIn i)) ++ ([32, 114, 101, 116, 117, 114, 110, 115, 32, 40, 32] : Str)) ++ txt (wPm (o, t))) ++ ([32, 41, 32] : Str)).length + 9 ≤ 274877906944 by simp; omega), a6 (show (((((((([110, 111, 100, 101, 32] : Str) ++ nm) ++ ([32] : Str)) ++ txt (wIn i)) ++ ([32, 114, 101, 116, 117, 114, 110, 115, 32, 40, 32] : Str)) ++ txt (wPm (o, t))) ++ ([32, 41, 32] : Str)) ++ ([99, 111, 110, 116, 114, 97, 99, 116, 32] : Str)).length + (K (a2N xs)).length ≤ 274877906944 by simp; omega),
      a6 (show ((((((((([110, 111, 100, 101, 32] : Str) ++ nm) ++ ([32] : Str)) ++ txt (wIn i)) ++ ([32, 114, 101, 116, 117, 114, 110, 115, 32, 40, 32] : Str)) ++ txt (wPm (o, t))) ++ ([32, 41, 32] : Str)) ++ ([99, 111, 110, 116, 114, 97, 99, 116, 32] : Str)) ++ K (a2N xs)).length + 4 ≤ 274877906944 by simp; omega), cond_true]
     rw [T11 _ (by simp; omega), bind_some]
     rw [wUn, if_neg (show ¬ (false = true) by decide), if_pos hl]
     simp only [J9, O1, a0H, hKi, hKo]
     simp
   · rw [df (show ¬ ((xs.length : Nat) : Int) > 0 by omega), cond_false]
     rw [T11 _ (by simp; omega), bind_some]
     rw [wUn, if_neg (show ¬ (false = true) by decide), if_neg hl]
     simp only [J9, O1, a0H, hKi, hKo]
     simp)
theorem a9e (mn bk : Str) : ∀ (suf pre : List Unt) (d : Str), (pre ++ suf).length ≤ 1000 → (∀ x ∈ suf, T4 x = true) → d.length + (K (a2O suf)).length ≤ 200000000000 →
  c0j T.rb (pre ++ suf, mn, bk) d (pre.length : Nat) = some ((pre ++ suf, mn, bk), d ++ K (a2O suf))
 | [], pre, d, _, _, _ => c4A (by simp only [b6n, l8, cond_false]; simp [a2O, K])
 | x :: suf, pre, d, h, hx, hl => c4A (by
   have hp : pre.length < 4611686018427387904 := by simp at h; omega
   have e : a2O (x :: suf) = wUn x ++ a2O suf := rfl
   rw [e, O1, length_append] at hl
   have ih := a9e mn bk suf (pre ++ [x]) (d ++ K (wUn x)) (by simpa using h) (fun y hy => hx y (List.mem_cons_of_mem _ hy)) (by rw [length_append]; omega)
   simp only [List.append_assoc, List.singleton_append] at ih
   simp only [b6n, j6, e8, e9, cond_true, bind_some, a8a (hx x (by simp)), a6 (show d.length + (K (wUn x)).length ≤ 274877906944 by omega), j7 pre x hp, ih]
   rw [e, O1])
theorem a7Z {n m : Nat} {p : Prg} (h : SzP n m p) (hn : n ≤ 1000000) (hm : m ≤ 1000000) (hj : a3C p = true → (J (wPg p)).length ≤ 200000000000) : c5P T.rf p = some (if a3C p = true then txt (wPg p) else []) := d1I (by
 simp only [c1n, a5m h hn hm, bind_some]
 cases hp : a3C p with
 | false => rfl
 | true =>
   have H := pgF hp
   have hnl := H.n
   have hJ := hj hp
   obtain ⟨us, mn, bk⟩ := p
   simp only at hnl
   rw [wPg, J_a] at hJ
   simp only at hJ
   have hmn := s3 H.mn
   simp only at hmn
   have h0 := a9e mn bk us [] [] (by simp; omega) H.u (by rw [a8i]; simp only [length_nil]; omega)
   simp only [List.nil_append, length_nil] at h0
   rw [show ((0 : Nat) : Int) = (0 : Int) from rfl] at h0
   have hK := a8i (a2O us)
   rw [Bool.not_true, cond_false, h0, bind_some, if_pos rfl]
   simp only [a6 (show (K (a2O us)).length + 5 ≤ 274877906944 by omega), a6 (show (K (a2O us) ++ ([109, 97, 105, 110, 32] : Str)).length + mn.length ≤ 274877906944 by simp; omega), a6 (show ((K (a2O us) ++ ([109, 97, 105, 110, 32] : Str)) ++ mn).length + 2 ≤ 274877906944 by simp; omega), cond_true]
   rw [wPg, d2r (by unfold b0l; split <;> simp)]
   by_cases hb : bk = []
   · rw [beq_iff_eq.2 hb, Bool.not_true, cond_false, b0l, if_pos hb]
     simp [y0, J]
   · have hbk := s3 (H.bk.resolve_left hb)
     simp only at hbk
     rw [beq_eq_false_iff_ne.2 hb, Bool.not_false, cond_true, b0l, if_neg hb]
     simp only [a6 (show (((K (a2O us) ++ ([109, 97, 105, 110, 32] : Str)) ++ mn) ++ ([32, 59] : Str)).length + 10 ≤ 274877906944 by simp; omega), a6 (show ((((K (a2O us) ++ ([109, 97, 105, 110, 32] : Str)) ++ mn) ++ ([32, 59] : Str)) ++ ([32, 102, 97, 108, 108, 98, 97, 99, 107, 32] : Str)).length + bk.length ≤ 274877906944 by simp; omega), a6 (show (((((K (a2O us) ++ ([109, 97, 105, 110, 32] : Str)) ++ mn) ++ ([32, 59] : Str)) ++ ([32, 102, 97, 108, 108, 98, 97, 99, 107, 32] : Str)) ++ bk).length + 2 ≤ 274877906944 by simp; omega), cond_true]
     simp [y0, J])
theorem b4j {n m : Nat} (hn : n ≤ 1000000) (hm : m ≤ 1000000) {a : Prg} (ha : SzP n m a) : a9v T.rf a a = some true := by
 obtain ⟨z, h1, h2⟩ := c6B hn hm ha ha
 rw [h1, h2.2 rfl]
theorem a7O (p : Prg) : c0 T.rf p = some true := or0 (by
 have live_eq : c2 T.rf = some true := b7s
 obtain ⟨s, h1, h2⟩ := b5M p
 simp only [r0, h1, bind_some, live_eq]
 cases s with
 | false => rfl
 | true =>
   have hs := h2 rfl
   have hj : a3C p = true → (J (wPg p)).length ≤ 200000000000 := fun h => Nat.le_trans (d2s hs h) (by decide)
   have ho := c0F hs
   rw [Bool.not_true, cond_false, b1V hs (by decide) (by decide) hj, bind_some, a7Z hs (by decide) (by decide) hj, bind_some, beq_self_eq_true, cond_true, b0p hs (by decide) (by decide), bind_some, a5m hs (by decide) (by decide), bind_some, beq_self_eq_true, cond_true,
    b1T hs (by decide) (by decide), bind_some, a7Y hs (by decide) (by decide), bind_some, b4j (by decide) (by decide) ho]
   rfl)
theorem lawListWrites : c1F T 0 := fun d _ => ⟨true, a7O d, rfl, rfl, rfl⟩
end Go.Proofs.YtlobhcgbmpcdlaaGreatDoor.R
