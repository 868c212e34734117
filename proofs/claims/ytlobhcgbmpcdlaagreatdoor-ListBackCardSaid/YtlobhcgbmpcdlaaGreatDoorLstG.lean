import Derived.Test.YtlobhcgbmpcdlaaGreatDoorLstF
open Option (bind_some)
open List (length_append length_cons length_nil)
namespace Go.Proofs.YtlobhcgbmpcdlaaGreatDoor.R
open Go Go.Bm Go.Proofs
set_option linter.unusedVariables false
set_option linter.unusedSimpArgs false
set_option maxRecDepth 4000
abbrev R6 : Type := List Tok3 × Int × Int × Int
def nmB (L : List Tok3) (i : Nat) : Bool := match nth L i with
 | some x => x.1 == 1
 | none => false
theorem ok6 (r : R6) : c23 T.rf r = some (r, r.2.2.1 == 0) := or23 (by simp only [r23])
theorem z6 : ((0 : Int) == 0) = true := rfl
theorem is6_eq (L : List Tok3) (i : Nat) (s : Str) : c22 T.rf ((L, ((i : Nat) : Int), (0 : Int), (0 : Int)) : R6) s = some (((L, ((i : Nat) : Int), (0 : Int), (0 : Int)) : R6), isB L i s) := or22 (by
 by_cases h : i < L.length
 · have hx := nth_t h
   simp only [r22, ok6, bind_some, z6, Bool.not_true, cond_false, df (show ¬ ((i : Nat) : Int) ≥ ((L.length : Nat) : Int) by omega), inb_t (show (0 : Int) ≤ ((i : Nat) : Int) by omega) (show ((i : Nat) : Int) < ((L.length : Nat) : Int) by omega), cond_true, Int.toNat_natCast, hx, isB]
   generalize L[i] = x
   cases x.1 == 4 <;> cases x.1 == 3 <;> rfl
 · have hx : nth L i = none := by rw [nth_getElem?]; exact List.getElem?_eq_none (by omega)
   simp only [r22, ok6, bind_some, z6, Bool.not_true, cond_false, dt (show ((i : Nat) : Int) ≥ ((L.length : Nat) : Int) by omega), cond_true, isB, hx])
theorem take6_eq (L : List Tok3) {i : Nat} (hi : i ≤ 2000000000) (s : Str) : c21 T.rf ((L, ((i : Nat) : Int), (0 : Int), (0 : Int)) : R6) s = some (bif isB L i s then (((L, ((i + 1 : Nat) : Int), (0 : Int), (0 : Int)) : R6), true) else (((L, ((i : Nat) : Int), (0 : Int), (0 : Int)) : R6), false)) := or21 (by
 simp only [r21, is6_eq, bind_some, wr_succ (show i < 4611686018427387904 by omega)]
 cases isB L i s <;> rfl)
theorem need6_eq {L : List Tok3} {i : Nat} (hi : i ≤ 2000000000) {s : Str} (h : isB L i s = true) : c28 T.rf ((L, ((i : Nat) : Int), (0 : Int), (0 : Int)) : R6) s = some ((L, ((i + 1 : Nat) : Int), (0 : Int), (0 : Int)) : R6) := or28 (by
 simp only [r28, take6_eq L hi, h, cond_true, bind_some, Bool.not_true, cond_false])
theorem named6_eq (L : List Tok3) (i : Nat) : c25 T.rf ((L, ((i : Nat) : Int), (0 : Int), (0 : Int)) : R6) = some (((L, ((i : Nat) : Int), (0 : Int), (0 : Int)) : R6), nmB L i) := or25 (by
 by_cases h : i < L.length
 · have hx := nth_t h
   simp only [r25, ok6, bind_some, z6, cond_true, dt (show ((i : Nat) : Int) < ((L.length : Nat) : Int) by omega), inb_t (show (0 : Int) ≤ ((i : Nat) : Int) by omega) (show ((i : Nat) : Int) < ((L.length : Nat) : Int) by omega), Int.toNat_natCast, hx, nmB]
 · have hx : nth L i = none := by rw [nth_getElem?]; exact List.getElem?_eq_none (by omega)
   simp only [r25, ok6, bind_some, z6, cond_true, cond_false, df (show ¬ ((i : Nat) : Int) < ((L.length : Nat) : Int) by omega), hx, nmB])
theorem name6_eq {L : List Tok3} {i : Nat} (hi : i ≤ 2000000000) {s : Str} {a : Int} (h : nth L i = some (1, s, a)) : c24 T.rf ((L, ((i : Nat) : Int), (0 : Int), (0 : Int)) : R6) = some (((L, ((i + 1 : Nat) : Int), (0 : Int), (0 : Int)) : R6), s) := or24 (by
 have hl := nth_lt h
 have hn : nmB L i = true := by unfold nmB; rw [h]; rfl
 have e1 : IntKind.i64.wrap (((i + 1 : Nat) : Int) - 1) = ((i : Nat) : Int) := by rw [Go.Bm.wr (by omega)]; omega
 simp only [r24, named6_eq, bind_some, hn, Bool.not_true, cond_false, wr_succ (show i < 4611686018427387904 by omega), e1, inb_t (show (0 : Int) ≤ ((i : Nat) : Int) by omega) (show ((i : Nat) : Int) < ((L.length : Nat) : Int) by omega), cond_true, Int.toNat_natCast, h])
theorem room6_eq (r : R6) {n : Nat} (h : n < 200) : c29 T.rf r ((n : Nat) : Int) = some r := or29 (by
 simp only [r29, df (show ¬ ((n : Nat) : Int) ≥ 200 by omega), cond_false])
theorem isB_name {L : List Tok3} {i : Nat} {s : Str} {a : Int} (h : nth L i = some (1, s, a)) (t : Str) : isB L i t = false := by
 unfold isB; rw [h]; rfl
theorem nmB_name {L : List Tok3} {i : Nat} {s : Str} {a : Int} (h : nth L i = some (1, s, a)) : nmB L i = true := by
 unfold nmB; rw [h]; rfl
theorem nmB_tok {L : List Tok3} {i : Nat} {u : Str} {a : Int} (h : nth L i = some (kindX u, u, a)) (hk : kindX u = 4 ∨ kindX u = 3) : nmB L i = false := by
 unfold nmB; rw [h]; simp only
 rcases hk with hk | hk <;> rw [hk] <;> rfl
theorem is_name {L : List Tok3} {i : Nat} {s : Str} (hn : nameB s = true) (h : ∃ a, nth L i = some (kindX s, s, a)) : ∃ a, nth L i = some (1, s, a) := by
 obtain ⟨a, h⟩ := h; exact ⟨a, by rw [← kind_name hn]; exact h⟩
theorem kd_assume : kindX [97, 115, 115, 117, 109, 101] = 3 := by decide +kernel
theorem kd_guarantee : kindX [103, 117, 97, 114, 97, 110, 116, 101, 101] = 3 := by decide +kernel
theorem kd_ghost : kindX [103, 104, 111, 115, 116] = 3 := by decide +kernel
theorem kd_mode : kindX [109, 111, 100, 101] = 3 := by decide +kernel
theorem kd_import : kindX [105, 109, 112, 111, 114, 116] = 3 := by decide +kernel
theorem kd_require : kindX [114, 101, 113, 117, 105, 114, 101] = 3 := by decide +kernel
theorem kd_ensure : kindX [101, 110, 115, 117, 114, 101] = 3 := by decide +kernel
theorem kd_end : kindX [101, 110, 100] = 3 := by decide +kernel
theorem kd_tel : kindX [116, 101, 108] = 3 := by decide +kernel
theorem kd_let : kindX [108, 101, 116] = 3 := by decide +kernel
theorem kd_var : kindX [118, 97, 114] = 3 := by decide +kernel
theorem kd_returns : kindX [114, 101, 116, 117, 114, 110, 115] = 3 := by decide +kernel
theorem kd_contract : kindX [99, 111, 110, 116, 114, 97, 99, 116] = 3 := by decide +kernel
theorem kd_node : kindX [110, 111, 100, 101] = 3 := by decide +kernel
theorem kd_main : kindX [109, 97, 105, 110] = 3 := by decide +kernel
theorem kd_fallback : kindX [102, 97, 108, 108, 98, 97, 99, 107] = 3 := by decide +kernel
theorem kd_58 : kindX [58] = 4 := by decide +kernel
theorem kd_59 : kindX [59] = 4 := by decide +kernel
theorem kd_61 : kindX [61] = 4 := by decide +kernel
theorem kd_ty (t : Int) : kindX (tyX t) = 3 := by unfold tyX; split <;> decide +kernel
theorem param6_eq {L : List Tok3} {i : Nat} (hL : L.length ≤ 1000000000) {p : Pm} (hp : prmB p = true) (hr : Reads L i (wPm p)) : c30 T.rf ((L, ((i : Nat) : Int), (0 : Int), (0 : Int)) : R6) = some (((L, ((i + 3 : Nat) : Int), (0 : Int), (0 : Int)) : R6), p) := or30 (by
 obtain ⟨h1, ⟨a2, h2⟩, ⟨a3, h3⟩, _⟩ := hr
 rw [prmB, Bool.and_eq_true, Bool.or_eq_true, beq_iff_eq, beq_iff_eq] at hp
 obtain ⟨a1, h1⟩ := is_name hp.1 h1
 have hl := nth_lt h3
 have b2 : isB L (i + 1) [58] = true := by rw [isB_tok h2 (.inl kd_58) [58]]; rfl
 have b3 := isB_tok h3 (.inr (kd_ty p.2))
 obtain ⟨nm, ty⟩ := p
 simp only at hp b3
 simp only [r30, name6_eq (show i ≤ 2000000000 by omega) h1, bind_some, need6_eq (show i + 1 ≤ 2000000000 by omega) b2, take6_eq L (show i + 1 + 1 ≤ 2000000000 by omega), b3]
 rcases hp.2 with h | h
 · subst h; rfl
 · subst h
   simp only [show (tyX 2 == ([98, 111, 111, 108] : Str)) = false from rfl, cond_false, take6_eq L (show i + 1 + 1 ≤ 2000000000 by omega), b3, show (tyX 2 == ([105, 110, 116] : Str)) = true from rfl, cond_true, bind_some])
theorem first_prm {L : List Tok3} {i : Nat} {p : Pm} (hp : prmB p = true) (hr : Reads L i (wPm p)) : ∃ a, nth L i = some (1, p.1, a) := by
 rw [prmB, Bool.and_eq_true] at hp
 exact is_name hp.1 hr.1
theorem inputs6_loop {L : List Tok3} (hL : L.length ≤ 1000000000) : ∀ (l : List Pm) (x : Pm) (k : Nat) (out : List Pm), (∀ p ∈ x :: l, prmB p = true) → Reads L k (wsep [59] ((x :: l).map wPm) ++ [[41]]) → out.length + (x :: l).length ≤ 200 →
  k17 T.rb ((L, ((k : Nat) : Int), (0 : Int), (0 : Int)) : R6) out = some (.inl (((L, ((k + (wsep [59] ((x :: l).map wPm)).length + 1 : Nat) : Int), (0 : Int), (0 : Int)) : R6), out ++ x :: l))
 | [], x, k, out, hp, hr, ho => ob17 (by
   simp only [List.map_cons, List.map_nil, wsep_one, length_cons, length_nil] at hr ho ⊢
   obtain ⟨r1, ⟨a, r2⟩, _⟩ := Reads_app.1 hr
   have hl := nth_lt r2
   have e3 : (wPm x).length = 3 := rfl
   rw [e3] at r2 hl ⊢
   have bb := isB_tok r2 (.inl kd41) [41]
   rw [beq_self_eq_true] at bb
   simp only [b17, ok6, bind_some, z6, cond_true, room6_eq _ (show out.length < 200 by omega), param6_eq hL (hp x (by simp)) r1, ble_most (show out.length + 1 ≤ 274877906944 by omega), Bool.and_true, take6_eq L (show k + 3 ≤ 2000000000 by omega), bb])
 | y :: l, x, k, out, hp, hr, ho => ob17 (by
   simp only [List.map_cons, wsep_two] at hr
   rw [List.append_assoc, List.cons_append] at hr
   obtain ⟨r1, ⟨a, r2⟩, r3⟩ := Reads_app.1 hr
   have hl := nth_lt r2
   have e3 : (wPm x).length = 3 := rfl
   rw [e3] at r2 r3 hl
   have bb := isB_tok r2 (.inl kd_59)
   simp only [length_cons] at ho
   have ih := inputs6_loop hL l y (k + 3 + 1) (out ++ [x]) (fun p h => hp p (List.mem_cons_of_mem _ h)) (by simpa only [List.map_cons] using r3) (by simp only [length_append, length_cons, length_nil]; omega)
   simp only [b17, ok6, bind_some, z6, cond_true, room6_eq _ (show out.length < 200 by omega), param6_eq hL (hp x (by simp)) r1, ble_most (show out.length + 1 ≤ 274877906944 by omega), Bool.and_true, take6_eq L (show k + 3 ≤ 2000000000 by omega), bb, show (([59] : Str) == [41]) = false from rfl, cond_false,
    need6_eq (show k + 3 ≤ 2000000000 by omega) (s := [59]) (by rw [bb]; rfl), ih]
   simp only [List.map_cons, wsep_two, length_append, length_cons, e3, List.append_assoc, List.singleton_append]
   have e : k + 3 + 1 + (wsep [59] (wPm y :: List.map wPm l)).length + 1 = k + (3 + ((wsep [59] (wPm y :: List.map wPm l)).length + 1)) + 1 := by omega
   rw [e])
theorem inputs6_eq {L : List Tok3} {i : Nat} (hL : L.length ≤ 1000000000) {l : List Pm} (hp : ∀ p ∈ l, prmB p = true) (hl : l.length ≤ 200) (hr : Reads L i (wIn l)) : c27 T.rf ((L, ((i : Nat) : Int), (0 : Int), (0 : Int)) : R6) = some (((L, ((i + (wIn l).length : Nat) : Int), (0 : Int), (0 : Int)) : R6), l) := or27 (by
 obtain ⟨⟨a1, h1⟩, h2⟩ := hr
 have hi := nth_lt h1
 have b1 : isB L i [40] = true := by rw [isB_tok h1 (.inl kd40) [40]]; rfl
 simp only [r27, need6_eq (show i ≤ 2000000000 by omega) b1, bind_some, take6_eq L (show i + 1 ≤ 2000000000 by omega)]
 cases l with
 | nil =>
   obtain ⟨⟨a2, h3⟩, _⟩ := h2
   have b2 : isB L (i + 1) [41] = true := by rw [isB_tok h3 (.inl kd41) [41]]; rfl
   rw [b2]; rfl
 | cons x l =>
   have hx : ∃ a, nth L (i + 1) = some (1, x.1, a) := by
    have h2' := (Reads_app.1 h2).1
    rw [List.map_cons, wsep] at h2'
    exact first_prm (hp x (by simp)) (Reads_app.1 h2').1
   obtain ⟨a, hx⟩ := hx
   rw [isB_name hx, cond_false, inputs6_loop hL l x (i + 1) [] hp h2 (by simpa using hl), bind_some]
   simp only [wIn, length_cons, length_append, length_nil, List.nil_append, cond_false]
   have e : i + 1 + (wsep [59] (List.map wPm (x :: l))).length + 1 = i + ((wsep [59] (List.map wPm (x :: l))).length + (0 + 1) + 1) := by omega
   rw [e])
theorem parse6 {L : List Tok3} {i : Nat} (hL : L.length ≤ 1000000000) {e : List Nd} (he : mayS e = true) (hr : Reads L i (etoks e)) (hn : nxt L (i + (etoks e).length) < 1) : c35 T.rf L ((i : Nat) : Int) = some (norm e, ((i + (etoks e).length : Nat) : Int), 0, 0) := or35 (by
 have H := etr_of he
 have hd := H.d; have hs := H.s
 have hlen := Reads_len hr H.len
 have hp := (((par (etr e).size (etr e) _ (Nat.le_refl _) (by omega) H.emb H.v H.nm).1 H.o) L i 0 hL hr (by omega) (by omega)).1 1 (by omega) (by omega) (.inl rfl) hn
 simp only [rd] at hp
 have hfl : (flat (etr e) 0).length ≤ 1000000 := by rw [flat_len]; omega
 have hdep : depth (flat (etr e) 0) = dep (etr e) := depth_emb (fine_emb H.v)
 have hfs : ((flat (etr e) 0).length : Int) ≤ 5000 := by rw [flat_len]; omega
 have hpt : k46 T.rb (0, 0) L ((i : Nat) : Int) = some (.inr ((0, 0), flat (etr e) 0, ((i + (toks (etr e)).length : Nat) : Int))) := ob46 (by
  simp only [b46, hp, bind_some, z0, cond_false, df (show ¬ (((flat (etr e) 0).length : Nat) : Int) > 5000 by omega), refDepth_eq hfl, hdep, df (show ¬ dep (etr e) > 40 by omega)])
 rw [H.n]
 simp only [r35, df (show ¬ ((i : Nat) : Int) < 0 by omega), cond_false, df (show ¬ ((i : Nat) : Int) > ((L.length : Nat) : Int) by omega), hpt, bind_some, etoks])
theorem expr6_eq {L : List Tok3} {i : Nat} (hL : L.length ≤ 1000000000) {e : List Nd} (he : mayS e = true) (hr : Reads L i (etoks e)) (hn : nxt L (i + (etoks e).length) < 1) : c34 T.rf ((L, ((i : Nat) : Int), (0 : Int), (0 : Int)) : R6) = some (((L, ((i + (etoks e).length : Nat) : Int), (0 : Int), (0 : Int)) : R6), norm e) := or34 (by
 have ht : k47 T.rb ((L, ((i : Nat) : Int), (0 : Int), (0 : Int)) : R6) (0, 0) (norm e) (((i + (etoks e).length : Nat) : Int)) = some (((L, ((i + (etoks e).length : Nat) : Int), (0 : Int), (0 : Int)) : R6), (0, 0), norm e) := ob47 (by
  simp only [b47, z0, cond_false])
 simp only [r34, ok6, bind_some, z6, Bool.not_true, cond_false, parse6 hL he hr hn, ht])
theorem first_e {L : List Tok3} {i : Nat} {e : List Nd} (he : mayS e = true) (hr : Reads L i (etoks e)) : isB L i [41] = false := by
 have H := etr_of he
 obtain ⟨s, r, h1, h2⟩ := toks_head (etr e).size (etr e) _ (Nat.le_refl _) H.emb H.v H.nm
 rw [etoks, h1] at hr
 obtain ⟨⟨a, h⟩, _⟩ := hr
 unfold isB
 rw [h]
 simp only
 rw [beq_eq_false_iff_ne.2 h2, Bool.and_false]
theorem args6_loop {L : List Tok3} (hL : L.length ≤ 1000000000) : ∀ (l : List (List Nd)) (x : List Nd) (k : Nat) (out : List (List Nd)), (∀ p ∈ x :: l, mayS p = true) → Reads L k (wsep [44] ((x :: l).map etoks) ++ [[41]]) → out.length + (x :: l).length ≤ 200 →
  k49 T.rb ((L, ((k : Nat) : Int), (0 : Int), (0 : Int)) : R6) out = some (.inl (((L, ((k + (wsep [44] ((x :: l).map etoks)).length + 1 : Nat) : Int), (0 : Int), (0 : Int)) : R6), out ++ (x :: l).map norm))
 | [], x, k, out, hp, hr, ho => ob49 (by
   simp only [List.map_cons, List.map_nil, wsep_one, length_cons, length_nil] at hr ho ⊢
   obtain ⟨r1, ⟨a, r2⟩, _⟩ := Reads_app.1 hr
   have hl := nth_lt r2
   have bb := isB_tok r2 (.inl kd41) [41]
   rw [beq_self_eq_true] at bb
   have hn : nxt L (k + (etoks x).length) < 1 := by rw [isB_nxt bb]; decide
   simp only [b49, ok6, bind_some, z6, cond_true, room6_eq _ (show out.length < 200 by omega), expr6_eq hL (hp x (by simp)) r1 hn, ble_most (show out.length + 1 ≤ 274877906944 by omega), Bool.and_true, take6_eq L (show k + (etoks x).length ≤ 2000000000 by omega), bb])
 | y :: l, x, k, out, hp, hr, ho => ob49 (by
   simp only [List.map_cons, wsep_two] at hr
   rw [List.append_assoc, List.cons_append] at hr
   obtain ⟨r1, ⟨a, r2⟩, r3⟩ := Reads_app.1 hr
   have hl := nth_lt r2
   have bb := isB_tok r2 (.inl kd44)
   have hn : nxt L (k + (etoks x).length) < 1 := by rw [nxt_tok r2 (.inl kd44)]; decide
   simp only [length_cons] at ho
   have ih := args6_loop hL l y (k + (etoks x).length + 1) (out ++ [norm x]) (fun p h => hp p (List.mem_cons_of_mem _ h)) (by simpa only [List.map_cons] using r3) (by simp only [length_append, length_cons, length_nil]; omega)
   simp only [b49, ok6, bind_some, z6, cond_true, room6_eq _ (show out.length < 200 by omega), expr6_eq hL (hp x (by simp)) r1 hn, ble_most (show out.length + 1 ≤ 274877906944 by omega), Bool.and_true, take6_eq L (show k + (etoks x).length ≤ 2000000000 by omega), bb, show (([44] : Str) == [41]) = false from rfl, cond_false,
    need6_eq (show k + (etoks x).length ≤ 2000000000 by omega) (s := [44]) (by rw [bb]; rfl), ih]
   simp only [List.map_cons, wsep_two, length_append, length_cons, List.append_assoc, List.singleton_append]
   have e : k + (etoks x).length + 1 + (wsep [44] (etoks y :: List.map etoks l)).length + 1 = k + ((etoks x).length + ((wsep [44] (etoks y :: List.map etoks l)).length + 1)) + 1 := by omega
   rw [e])
theorem args6_eq {L : List Tok3} {i : Nat} (hL : L.length ≤ 1000000000) {l : List (List Nd)} (hp : ∀ p ∈ l, mayS p = true) (hl : l.length ≤ 200) (hr : Reads L i ([40] :: (wsep [44] (l.map etoks) ++ [[41]]))) : c63 T.rf ((L, ((i : Nat) : Int), (0 : Int), (0 : Int)) : R6) = some (((L, ((i + 1 + (wsep [44] (l.map etoks)).length + 1 : Nat) : Int), (0 : Int), (0 : Int)) : R6), l.map norm) := or63 (by
 obtain ⟨⟨a1, h1⟩, h2⟩ := hr
 have hi := nth_lt h1
 have b1 : isB L i [40] = true := by rw [isB_tok h1 (.inl kd40) [40]]; rfl
 simp only [r63, need6_eq (show i ≤ 2000000000 by omega) b1, bind_some, take6_eq L (show i + 1 ≤ 2000000000 by omega)]
 cases l with
 | nil =>
   obtain ⟨⟨a2, h3⟩, _⟩ := h2
   have b2 : isB L (i + 1) [41] = true := by rw [isB_tok h3 (.inl kd41) [41]]; rfl
   rw [b2]; rfl
 | cons x l =>
   have hx : isB L (i + 1) [41] = false := by
    have h2' := (Reads_app.1 h2).1
    rw [List.map_cons, wsep] at h2'
    exact first_e (hp x (by simp)) (Reads_app.1 h2').1
   rw [hx, cond_false, args6_loop hL l x (i + 1) [] hp h2 (by simpa using hl), bind_some]
   rfl)
theorem item6_eq {L : List Tok3} {i : Nat} (hL : L.length ≤ 1000000000) {x : Itm} (hx : itmB x = true) (hr : Reads L i (wIt x)) : c33 T.rf ((L, ((i : Nat) : Int), (0 : Int), (0 : Int)) : R6) = some (((L, ((i + (wIt x).length : Nat) : Int), (0 : Int), (0 : Int)) : R6), ordI x, true) := or33 (by
 obtain ⟨kd, nm, ty, e, f, gs⟩ := x
 cases itF hx with
 | ag k nm' ty' e' f' a =>
   simp only at k nm' ty' e' f' a
   subst nm'; subst ty'; subst f'; subst a
   rcases k with k | k
   · subst k
     simp only [wIt, if_true] at hr ⊢
     obtain ⟨⟨a1, h1⟩, hr2⟩ := hr
     obtain ⟨h2, ⟨a3, h3⟩, _⟩ := Reads_app.1 hr2
     have hl := nth_lt h3
     have b1 := isB_tok h1 (.inr kd_assume)
     have hn : nxt L (i + 1 + (etoks e).length) < 1 := by rw [nxt_tok h3 (.inl kd_59)]; decide
     have b3 : isB L (i + 1 + (etoks e).length) [59] = true := by rw [isB_tok h3 (.inl kd_59)]; rfl
     simp only [r33, take6_eq L (show i ≤ 2000000000 by omega), b1, beq_self_eq_true, cond_true, bind_some, expr6_eq hL e' h2 hn, need6_eq (show i + 1 + (etoks e).length ≤ 2000000000 by omega) b3, ordI, norm_nil, List.map_nil, length_cons, length_append, length_nil]
     have q : i + 1 + (etoks e).length + 1 = i + ((etoks e).length + (0 + 1) + 1) := by omega
     rw [q]
   · subst k
     simp only [wIt, if_neg (show ¬ (2 : Int) = 1 by decide), if_true] at hr ⊢
     obtain ⟨⟨a1, h1⟩, hr2⟩ := hr
     obtain ⟨h2, ⟨a3, h3⟩, _⟩ := Reads_app.1 hr2
     have hl := nth_lt h3
     have b1 := isB_tok h1 (.inr kd_guarantee)
     have hn : nxt L (i + 1 + (etoks e).length) < 1 := by rw [nxt_tok h3 (.inl kd_59)]; decide
     have b3 : isB L (i + 1 + (etoks e).length) [59] = true := by rw [isB_tok h3 (.inl kd_59)]; rfl
     simp only [r33, take6_eq L (show i ≤ 2000000000 by omega), b1, show (([103, 117, 97, 114, 97, 110, 116, 101, 101] : Str) == ([97, 115, 115, 117, 109, 101] : Str)) = false from rfl, cond_false, beq_self_eq_true, cond_true, bind_some, expr6_eq hL e' h2 hn, need6_eq (show i + 1 + (etoks e).length ≤ 2000000000 by omega) b3, ordI, norm_nil, List.map_nil, length_cons, length_append, length_nil]
     have q : i + 1 + (etoks e).length + 1 = i + ((etoks e).length + (0 + 1) + 1) := by omega
     rw [q]
 | gh k nm' ty' e' f' a =>
   simp only at k nm' ty' e' f' a
   subst k; subst f'; subst a
   simp only [wIt, if_neg (show ¬ (3 : Int) = 1 by decide), if_neg (show ¬ (3 : Int) = 2 by decide), if_true] at hr ⊢
   obtain ⟨⟨a1, h1⟩, hr2⟩ := hr
   obtain ⟨h2, ⟨a3, h3⟩, hr3⟩ := Reads_app.1 hr2
   have e3 : (wPm (nm, ty)).length = 3 := rfl
   rw [e3] at h3 hr3
   obtain ⟨h4, ⟨a5, h5⟩, _⟩ := Reads_app.1 hr3
   have hl := nth_lt h5
   have b1 := isB_tok h1 (.inr kd_ghost)
   have b3 : isB L (i + 1 + 3) [61] = true := by rw [isB_tok h3 (.inl kd_61)]; rfl
   have hn : nxt L (i + 1 + 3 + 1 + (etoks e).length) < 1 := by rw [nxt_tok h5 (.inl kd_59)]; decide
   have b5 : isB L (i + 1 + 3 + 1 + (etoks e).length) [59] = true := by rw [isB_tok h5 (.inl kd_59)]; rfl
   have hp : prmB (nm, ty) = true := by unfold prmB; rw [nm']; rcases ty' with ty' | ty' <;> simp [ty']
   simp only [r33, take6_eq L (show i ≤ 2000000000 by omega), b1, show (([103, 104, 111, 115, 116] : Str) == ([97, 115, 115, 117, 109, 101] : Str)) = false from rfl, show (([103, 104, 111, 115, 116] : Str) == ([103, 117, 97, 114, 97, 110, 116, 101, 101] : Str)) = false from rfl, cond_false, beq_self_eq_true, cond_true, bind_some, param6_eq hL hp h2, need6_eq (show i + 1 + 3 ≤ 2000000000 by omega) b3, expr6_eq hL e' h4 hn, need6_eq (show i + 1 + 3 + 1 + (etoks e).length ≤ 2000000000 by omega) b5, ordI, norm_nil, List.map_nil, length_cons, length_append, length_nil, e3]
   have q : i + 1 + 3 + 1 + (etoks e).length + 1 = i + (3 + ((etoks e).length + (0 + 1) + 1) + 1) := by omega
   rw [q]
 | md k nm' ty' e' f' a =>
   simp only at k nm' ty' e' f' a
   subst k; subst ty'; subst a
   simp only [wIt, if_neg (show ¬ (4 : Int) = 1 by decide), if_neg (show ¬ (4 : Int) = 2 by decide), if_neg (show ¬ (4 : Int) = 3 by decide), if_true] at hr ⊢
   obtain ⟨⟨a1, h1⟩, h2, ⟨a3, h3⟩, hr3⟩ := hr
   obtain ⟨a2, h2⟩ := is_name nm' h2
   obtain ⟨h4, ⟨a5, h5⟩, hr4⟩ := Reads_app.1 hr3
   obtain ⟨h6, ⟨a7, h7⟩, _⟩ := Reads_app.1 hr4
   have hl := nth_lt h7
   have b1 := isB_tok h1 (.inr kd_mode)
   have b3 : isB L (i + 1 + 1) ([114, 101, 113, 117, 105, 114, 101] : Str) = true := by rw [isB_tok h3 (.inr kd_require)]; rfl
   have hn : nxt L (i + 1 + 1 + 1 + (etoks e).length) < 1 := by rw [nxt_tok h5 (.inr kd_ensure)]; decide
   have b5 : isB L (i + 1 + 1 + 1 + (etoks e).length) ([101, 110, 115, 117, 114, 101] : Str) = true := by rw [isB_tok h5 (.inr kd_ensure)]; rfl
   have hn2 : nxt L (i + 1 + 1 + 1 + (etoks e).length + 1 + (etoks f).length) < 1 := by rw [nxt_tok h7 (.inl kd_59)]; decide
   have b7 : isB L (i + 1 + 1 + 1 + (etoks e).length + 1 + (etoks f).length) [59] = true := by rw [isB_tok h7 (.inl kd_59)]; rfl
   simp only [r33, take6_eq L (show i ≤ 2000000000 by omega), b1, show (([109, 111, 100, 101] : Str) == ([97, 115, 115, 117, 109, 101] : Str)) = false from rfl, show (([109, 111, 100, 101] : Str) == ([103, 117, 97, 114, 97, 110, 116, 101, 101] : Str)) = false from rfl, show (([109, 111, 100, 101] : Str) == ([103, 104, 111, 115, 116] : Str)) = false from rfl, cond_false, beq_self_eq_true, cond_true, bind_some, name6_eq (show i + 1 ≤ 2000000000 by omega) h2, need6_eq (show i + 1 + 1 ≤ 2000000000 by omega) b3,
    expr6_eq hL e' h4 hn, need6_eq (show i + 1 + 1 + 1 + (etoks e).length ≤ 2000000000 by omega) b5, expr6_eq hL f' h6 hn2, need6_eq (show i + 1 + 1 + 1 + (etoks e).length + 1 + (etoks f).length ≤ 2000000000 by omega) b7, ordI, List.map_nil, length_cons, length_append, length_nil]
   have q : i + 1 + 1 + 1 + (etoks e).length + 1 + (etoks f).length + 1 = i + ((etoks e).length + ((etoks f).length + (0 + 1) + 1) + 1 + 1 + 1) := by omega
   rw [q]
 | im k nm' ty' e' f' l a =>
   simp only at k nm' ty' e' f' l a
   subst k; subst ty'; subst e'; subst f'
   simp only [wIt, if_neg (show ¬ (5 : Int) = 1 by decide), if_neg (show ¬ (5 : Int) = 2 by decide), if_neg (show ¬ (5 : Int) = 3 by decide), if_neg (show ¬ (5 : Int) = 4 by decide)] at hr ⊢
   obtain ⟨⟨a1, h1⟩, h2, hr3⟩ := hr
   obtain ⟨a2, h2⟩ := is_name nm' h2
   have hr4 : Reads L (i + 1 + 1) (([40] :: (wsep [44] (gs.map etoks) ++ [[41]])) ++ [[59]]) := by simpa using hr3
   obtain ⟨hr5, ⟨a5, h5⟩, _⟩ := Reads_app.1 hr4
   simp only [length_cons, length_append, length_nil] at h5
   have q5 : i + 1 + 1 + ((wsep [44] (gs.map etoks)).length + (0 + 1) + 1) = i + 1 + 1 + 1 + (wsep [44] (gs.map etoks)).length + 1 := by omega
   rw [q5] at h5
   have hl := nth_lt h5
   have b1 := isB_tok h1 (.inr kd_import)
   have b5 : isB L (i + 1 + 1 + 1 + (wsep [44] (gs.map etoks)).length + 1) [59] = true := by rw [isB_tok h5 (.inl kd_59)]; rfl
   simp only [r33, take6_eq L (show i ≤ 2000000000 by omega), b1, show (([105, 109, 112, 111, 114, 116] : Str) == ([97, 115, 115, 117, 109, 101] : Str)) = false from rfl, show (([105, 109, 112, 111, 114, 116] : Str) == ([103, 117, 97, 114, 97, 110, 116, 101, 101] : Str)) = false from rfl, show (([105, 109, 112, 111, 114, 116] : Str) == ([103, 104, 111, 115, 116] : Str)) = false from rfl, show (([105, 109, 112, 111, 114, 116] : Str) == ([109, 111, 100, 101] : Str)) = false from rfl, cond_false, beq_self_eq_true, cond_true, bind_some, name6_eq (show i + 1 ≤ 2000000000 by omega) h2,
    args6_eq hL a l hr5, need6_eq (show i + 1 + 1 + 1 + (wsep [44] (gs.map etoks)).length + 1 ≤ 2000000000 by omega) b5, ordI, norm_nil, length_cons, length_append, length_nil]
   have q : i + 1 + 1 + 1 + (wsep [44] (gs.map etoks)).length + 1 + 1 = i + ((wsep [44] (gs.map etoks)).length + (0 + 1 + 1) + 1 + 1 + 1) := by omega
   rw [q])
def kwI (x : Itm) : Str := if x.1 = 1 then ([97, 115, 115, 117, 109, 101] : Str) else if x.1 = 2 then ([103, 117, 97, 114, 97, 110, 116, 101, 101] : Str) else if x.1 = 3 then ([103, 104, 111, 115, 116] : Str) else if x.1 = 4 then ([109, 111, 100, 101] : Str) else ([105, 109, 112, 111, 114, 116] : Str)
theorem wIt_head (x : Itm) : ∃ r, wIt x = kwI x :: r := by
 unfold wIt kwI
 split
 · exact ⟨_, rfl⟩
 split
 · exact ⟨_, rfl⟩
 split
 · exact ⟨_, rfl⟩
 split
 · exact ⟨_, rfl⟩
 · exact ⟨_, rfl⟩
theorem kwI_kind (x : Itm) : kindX (kwI x) = 3 := by
 unfold kwI
 split
 · exact kd_assume
 split
 · exact kd_guarantee
 split
 · exact kd_ghost
 split
 · exact kd_mode
 · exact kd_import
theorem begins6_eq (L : List Tok3) (i : Nat) : c32 T.rf ((L, ((i : Nat) : Int), (0 : Int), (0 : Int)) : R6) = some (((L, ((i : Nat) : Int), (0 : Int), (0 : Int)) : R6), isB L i ([97, 115, 115, 117, 109, 101] : Str) || (isB L i ([103, 117, 97, 114, 97, 110, 116, 101, 101] : Str) || (isB L i ([103, 104, 111, 115, 116] : Str) || (isB L i ([109, 111, 100, 101] : Str) || isB L i ([105, 109, 112, 111, 114, 116] : Str))))) := or32 (by
 simp only [r32, is6_eq, bind_some]
 cases isB L i ([97, 115, 115, 117, 109, 101] : Str)
 case true => rfl
 cases isB L i ([103, 117, 97, 114, 97, 110, 116, 101, 101] : Str)
 case true => rfl
 cases isB L i ([103, 104, 111, 115, 116] : Str)
 case true => rfl
 cases isB L i ([109, 111, 100, 101] : Str)
 case true => rfl
 rfl)
theorem begins_it {L : List Tok3} {i : Nat} {x : Itm} (hr : Reads L i (wIt x)) : (isB L i ([97, 115, 115, 117, 109, 101] : Str) || (isB L i ([103, 117, 97, 114, 97, 110, 116, 101, 101] : Str) || (isB L i ([103, 104, 111, 115, 116] : Str) || (isB L i ([109, 111, 100, 101] : Str) || isB L i ([105, 109, 112, 111, 114, 116] : Str))))) = true := by
 obtain ⟨r, h⟩ := wIt_head x
 rw [h] at hr
 obtain ⟨⟨a, h1⟩, _⟩ := hr
 have bb := isB_tok h1 (.inr (kwI_kind x))
 simp only [bb]
 unfold kwI
 split
 · rfl
 split
 · rfl
 split
 · rfl
 split
 · rfl
 · rfl
theorem items6_loop {L : List Tok3} (hL : L.length ≤ 1000000000) : ∀ (l : List Itm) (k : Nat) (out : List Itm), (∀ x ∈ l, itmB x = true) → Reads L k (wIts l ++ [([101, 110, 100] : Str)]) → out.length + l.length ≤ 200 →
  k50 T.rb ((L, ((k : Nat) : Int), (0 : Int), (0 : Int)) : R6) out = some (((L, ((k + (wIts l).length : Nat) : Int), (0 : Int), (0 : Int)) : R6), out ++ l.map ordI)
 | [], k, out, hp, hr, ho => ob50 (by
   obtain ⟨⟨a, h⟩, _⟩ := hr
   have bb := isB_tok h (.inr kd_end)
   simp only [b50, begins6_eq, bind_some, bb]
   simp [wIts])
 | x :: l, k, out, hp, hr, ho => ob50 (by
   have e : wIts (x :: l) = wIt x ++ wIts l := rfl
   rw [e, List.append_assoc] at hr
   obtain ⟨r1, r2⟩ := Reads_app.1 hr
   simp only [length_cons] at ho
   have ih := items6_loop hL l (k + (wIt x).length) (out ++ [ordI x]) (fun p h => hp p (List.mem_cons_of_mem _ h)) r2 (by simp only [length_append, length_cons, length_nil]; omega)
   simp only [b50, begins6_eq, bind_some, begins_it r1, cond_true, room6_eq _ (show out.length < 200 by omega), item6_eq hL (hp x (by simp)) r1, ble_most (show out.length + 1 ≤ 274877906944 by omega), Bool.and_true, ih]
   rw [e, length_append, List.map_cons, List.append_assoc, List.singleton_append, show k + (wIt x).length + (wIts l).length = k + ((wIt x).length + (wIts l).length) by omega])
theorem items6_eq {L : List Tok3} {i : Nat} (hL : L.length ≤ 1000000000) {l : List Itm} (hp : ∀ p ∈ l, itmB p = true) (hl : l.length ≤ 200) (hr : Reads L i (wIts l ++ [([101, 110, 100] : Str)])) : c31 T.rf ((L, ((i : Nat) : Int), (0 : Int), (0 : Int)) : R6) = some (((L, ((i + (wIts l).length + 1 : Nat) : Int), (0 : Int), (0 : Int)) : R6), l.map ordI) := or31 (by
 obtain ⟨_, ⟨a, h⟩, _⟩ := Reads_app.1 hr
 have hlt := nth_lt h
 have bb : isB L (i + (wIts l).length) ([101, 110, 100] : Str) = true := by rw [isB_tok h (.inr kd_end)]; rfl
 simp only [r31, items6_loop hL l i [] hp hr (by simpa using hl), bind_some, need6_eq (show i + (wIts l).length ≤ 2000000000 by omega) bb, List.nil_append])
theorem eqs6_loop {L : List Tok3} (hL : L.length ≤ 1000000000) : ∀ (l : List Eqn) (k : Nat) (out : List Eqn), (∀ x ∈ l, eqnB x = true) → Reads L k (wEqs l ++ [([116, 101, 108] : Str)]) → out.length + l.length ≤ 200 →
  k54 T.rb ((L, ((k : Nat) : Int), (0 : Int), (0 : Int)) : R6) out = some (((L, ((k + (wEqs l).length : Nat) : Int), (0 : Int), (0 : Int)) : R6), out ++ l.map ordQ)
 | [], k, out, hp, hr, ho => ob54 (by
   obtain ⟨⟨a, h⟩, _⟩ := hr
   simp only [b54, named6_eq, bind_some, nmB_tok h (.inr kd_tel), cond_false]
   simp [wEqs])
 | x :: l, k, out, hp, hr, ho => ob54 (by
   have e : wEqs (x :: l) = wEq x ++ wEqs l := rfl
   rw [e, List.append_assoc] at hr
   obtain ⟨r1, r2⟩ := Reads_app.1 hr
   obtain ⟨q1, q2⟩ := eqF (hp x (by simp))
   obtain ⟨h1, ⟨a2, h2⟩, hr3⟩ := r1
   obtain ⟨a1, h1⟩ := is_name q1 h1
   obtain ⟨h3, ⟨a4, h4⟩, _⟩ := Reads_app.1 hr3
   have hlt := nth_lt h4
   have b2 : isB L (k + 1) [61] = true := by rw [isB_tok h2 (.inl kd_61)]; rfl
   have hn : nxt L (k + 1 + 1 + (etoks x.2).length) < 1 := by rw [nxt_tok h4 (.inl kd_59)]; decide
   have b4 : isB L (k + 1 + 1 + (etoks x.2).length) [59] = true := by rw [isB_tok h4 (.inl kd_59)]; rfl
   have el : (wEq x).length = (etoks x.2).length + 3 := by simp [wEq]
   simp only [length_cons] at ho
   rw [el] at r2
   have ih := eqs6_loop hL l (k + ((etoks x.2).length + 3)) (out ++ [ordQ x]) (fun p h => hp p (List.mem_cons_of_mem _ h)) r2 (by simp only [length_append, length_cons, length_nil]; omega)
   have q : k + 1 + 1 + (etoks x.2).length + 1 = k + ((etoks x.2).length + 3) := by omega
   simp only [b54, named6_eq, bind_some, nmB_name h1, cond_true, room6_eq _ (show out.length < 200 by omega), name6_eq (show k ≤ 2000000000 by omega) h1, need6_eq (show k + 1 ≤ 2000000000 by omega) b2, expr6_eq hL q2 h3 hn, need6_eq (show k + 1 + 1 + (etoks x.2).length ≤ 2000000000 by omega) b4, ble_most (show out.length + 1 ≤ 274877906944 by omega), Bool.and_true, q]
   rw [show out ++ [(x.1, norm x.2)] = out ++ [ordQ x] from rfl, ih, e, length_append, el, List.map_cons, List.append_assoc, List.singleton_append, show k + ((etoks x.2).length + 3) + (wEqs l).length = k + ((etoks x.2).length + 3 + (wEqs l).length) by omega])
theorem eqs6_eq {L : List Tok3} {i : Nat} (hL : L.length ≤ 1000000000) {l : List Eqn} (hp : ∀ p ∈ l, eqnB p = true) (hl : l.length ≤ 200) (hr : Reads L i (wEqs l ++ [([116, 101, 108] : Str)])) : c65 T.rf ((L, ((i : Nat) : Int), (0 : Int), (0 : Int)) : R6) = some (((L, ((i + (wEqs l).length + 1 : Nat) : Int), (0 : Int), (0 : Int)) : R6), l.map ordQ) := or65 (by
 obtain ⟨_, ⟨a, h⟩, _⟩ := Reads_app.1 hr
 have hlt := nth_lt h
 have bb : isB L (i + (wEqs l).length) ([116, 101, 108] : Str) = true := by rw [isB_tok h (.inr kd_tel)]; rfl
 simp only [r65, eqs6_loop hL l i [] hp hr (by simpa using hl), bind_some, need6_eq (show i + (wEqs l).length ≤ 2000000000 by omega) bb, List.nil_append])
theorem vars6_loop {L : List Tok3} (hL : L.length ≤ 1000000000) : ∀ (l : List Pm) (x : Pm) (k : Nat) (out : List Pm), (∀ p ∈ x :: l, prmB p = true) → Reads L k ((wsep [59] ((x :: l).map wPm) ++ [[59]]) ++ [([108, 101, 116] : Str)]) → out.length + (x :: l).length ≤ 200 →
  k52 T.rb ((L, ((k : Nat) : Int), (0 : Int), (0 : Int)) : R6) out = some (.inl (((L, ((k + (wsep [59] ((x :: l).map wPm)).length + 1 : Nat) : Int), (0 : Int), (0 : Int)) : R6), out ++ x :: l))
 | [], x, k, out, hp, hr, ho => ob52 (by
   simp only [List.map_cons, List.map_nil, wsep_one, length_cons, length_nil] at hr ho ⊢
   obtain ⟨hr1, ⟨a', r3⟩, _⟩ := Reads_app.1 hr
   obtain ⟨r1, ⟨a, r2⟩, _⟩ := Reads_app.1 hr1
   have e3 : (wPm x).length = 3 := rfl
   simp only [length_append, length_cons, length_nil, e3] at r2 r3 ⊢
   have hl := nth_lt r3
   have bb : isB L (k + 3) [59] = true := by rw [isB_tok r2 (.inl kd_59)]; rfl
   have nb' : nmB L (k + 3 + 1) = false := nmB_tok (u := ([108, 101, 116] : Str)) (a := a') (by rw [show k + 3 + 1 = k + (3 + (0 + 1)) by omega]; exact r3) (.inr kd_let)
   simp only [b52, ok6, bind_some, z6, cond_true, room6_eq _ (show out.length < 200 by omega), param6_eq hL (hp x (by simp)) r1, ble_most (show out.length + 1 ≤ 274877906944 by omega), Bool.and_true, need6_eq (show k + 3 ≤ 2000000000 by omega) bb, named6_eq, nb', Bool.not_false])
 | y :: l, x, k, out, hp, hr, ho => ob52 (by
   simp only [List.map_cons, wsep_two] at hr
   rw [List.append_assoc, List.append_assoc, List.cons_append] at hr
   obtain ⟨r1, ⟨a, r2⟩, r3⟩ := Reads_app.1 hr
   have hl := nth_lt r2
   have e3 : (wPm x).length = 3 := rfl
   rw [e3] at r2 r3 hl
   have bb : isB L (k + 3) [59] = true := by rw [isB_tok r2 (.inl kd_59)]; rfl
   have hy : ∃ a, nth L (k + 3 + 1) = some (1, y.1, a) := by
    have h2' := (Reads_app.1 r3).1
    rw [wsep] at h2'
    exact first_prm (hp y (by simp)) (Reads_app.1 h2').1
   obtain ⟨a2, hy⟩ := hy
   simp only [length_cons] at ho
   have ih := vars6_loop hL l y (k + 3 + 1) (out ++ [x]) (fun p h => hp p (List.mem_cons_of_mem _ h)) (by simpa only [List.map_cons, List.append_assoc] using r3) (by simp only [length_append, length_cons, length_nil]; omega)
   simp only [b52, ok6, bind_some, z6, cond_true, room6_eq _ (show out.length < 200 by omega), param6_eq hL (hp x (by simp)) r1, ble_most (show out.length + 1 ≤ 274877906944 by omega), Bool.and_true, need6_eq (show k + 3 ≤ 2000000000 by omega) bb, named6_eq, nmB_name hy, Bool.not_true, cond_false, ih]
   simp only [List.map_cons, wsep_two, length_append, length_cons, e3, List.append_assoc, List.singleton_append]
   have e : k + 3 + 1 + (wsep [59] (wPm y :: List.map wPm l)).length + 1 = k + (3 + ((wsep [59] (wPm y :: List.map wPm l)).length + 1)) + 1 := by omega
   rw [e])
theorem vars6_eq {L : List Tok3} {i : Nat} (hL : L.length ≤ 1000000000) {l : List Pm} (hne : l ≠ []) (hp : ∀ p ∈ l, prmB p = true) (hl : l.length ≤ 200) (hr : Reads L i ((wsep [59] (l.map wPm) ++ [[59]]) ++ [([108, 101, 116] : Str)])) : c64 T.rf ((L, ((i : Nat) : Int), (0 : Int), (0 : Int)) : R6) = some (((L, ((i + (wsep [59] (l.map wPm)).length + 1 : Nat) : Int), (0 : Int), (0 : Int)) : R6), l) := or64 (by
 cases l with
 | nil => exact absurd rfl hne
 | cons x l => simp only [r64, vars6_loop hL l x i [] hp hr (by simpa using hl), bind_some, List.nil_append])
end Go.Proofs.YtlobhcgbmpcdlaaGreatDoor.R
