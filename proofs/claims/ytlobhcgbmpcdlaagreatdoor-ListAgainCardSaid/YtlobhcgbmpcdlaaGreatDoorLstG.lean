import Derived.Test.YtlobhcgbmpcdlaaGreatDoorLstF
open Option (bind_some)
open List (length_append length_cons length_nil)
namespace Go.Proofs.YtlobhcgbmpcdlaaGreatDoor.R
open Go Go.Bm Go.Proofs
set_option linter.unusedVariables false
set_option linter.unusedSimpArgs false
set_option maxRecDepth 4000
abbrev R6 : Type := List m7 × Int × Int × Int
def nmB (L : List m7) (i : Nat) : Bool := match nth L i with
 | some x => x.1 == 1
 | none => false
theorem ok6 (r : R6) : c23 T.rf r = some (r, r.2.2.1 == 0) := d5B (by simp only [r23])
theorem z6 : ((0 : Int) == 0) = true := rfl
theorem a2c (L : List m7) (i : Nat) (s : Str) : c22 T.rf ((L, ((i : Nat) : Int), (0 : Int), (0 : Int)) : R6) s = some (((L, ((i : Nat) : Int), (0 : Int), (0 : Int)) : R6), isB L i s) := d2A (by
 by_cases h : i < L.length
 · have hx := a3u h
   simp only [r22, ok6, bind_some, z6, Bool.not_true, cond_false, df (show ¬ ((i : Nat) : Int) ≥ ((L.length : Nat) : Int) by omega), D2 (show (0 : Int) ≤ ((i : Nat) : Int) by omega) (show ((i : Nat) : Int) < ((L.length : Nat) : Int) by omega), cond_true, Int.toNat_natCast, hx, isB]
   generalize L[i] = x
   cases x.1 == 4 <;> cases x.1 == 3 <;> rfl
 · have hx : nth L i = none := by rw [nth_getElem?]; exact List.getElem?_eq_none (by omega)
   simp only [r22, ok6, bind_some, z6, Bool.not_true, cond_false, dt (show ((i : Nat) : Int) ≥ ((L.length : Nat) : Int) by omega), cond_true, isB, hx])
theorem m4 (L : List m7) {i : Nat} (hi : i ≤ 2000000000) (s : Str) : c21 T.rf ((L, ((i : Nat) : Int), (0 : Int), (0 : Int)) : R6) s = some (bif isB L i s then (((L, ((i + 1 : Nat) : Int), (0 : Int), (0 : Int)) : R6), true) else (((L, ((i : Nat) : Int), (0 : Int), (0 : Int)) : R6), false)) := d2z (by
 simp only [r21, a2c, bind_some, C6 (show i < 4611686018427387904 by omega)]
 cases isB L i s <;> rfl)
theorem o8 {L : List m7} {i : Nat} (hi : i ≤ 2000000000) {s : Str} (h : isB L i s = true) : c28 T.rf ((L, ((i : Nat) : Int), (0 : Int), (0 : Int)) : R6) s = some ((L, ((i + 1 : Nat) : Int), (0 : Int), (0 : Int)) : R6) := c5T (by
 simp only [r28, m4 L hi, h, cond_true, bind_some, Bool.not_true, cond_false])
theorem C8 (L : List m7) (i : Nat) : c25 T.rf ((L, ((i : Nat) : Int), (0 : Int), (0 : Int)) : R6) = some (((L, ((i : Nat) : Int), (0 : Int), (0 : Int)) : R6), nmB L i) := d2B (by
 by_cases h : i < L.length
 · have hx := a3u h
   simp only [r25, ok6, bind_some, z6, cond_true, dt (show ((i : Nat) : Int) < ((L.length : Nat) : Int) by omega), D2 (show (0 : Int) ≤ ((i : Nat) : Int) by omega) (show ((i : Nat) : Int) < ((L.length : Nat) : Int) by omega), Int.toNat_natCast, hx, nmB]
 · have hx : nth L i = none := by rw [nth_getElem?]; exact List.getElem?_eq_none (by omega)
   simp only [r25, ok6, bind_some, z6, cond_true, cond_false, df (show ¬ ((i : Nat) : Int) < ((L.length : Nat) : Int) by omega), hx, nmB])
theorem O8 {L : List m7} {i : Nat} (hi : i ≤ 2000000000) {s : Str} {a : Int} (h : nth L i = some (1, s, a)) : c24 T.rf ((L, ((i : Nat) : Int), (0 : Int), (0 : Int)) : R6) = some (((L, ((i + 1 : Nat) : Int), (0 : Int), (0 : Int)) : R6), s) := c5S (by
 have hl := C0 h
 have hn : nmB L i = true := by unfold nmB; rw [h]; rfl
 have e1 : IntKind.i64.wrap (((i + 1 : Nat) : Int) - 1) = ((i : Nat) : Int) := by rw [Go.Bm.wr (by omega)]; omega
 simp only [r24, C8, bind_some, hn, Bool.not_true, cond_false, C6 (show i < 4611686018427387904 by omega), e1, D2 (show (0 : Int) ≤ ((i : Nat) : Int) by omega) (show ((i : Nat) : Int) < ((L.length : Nat) : Int) by omega), cond_true, Int.toNat_natCast, h])
theorem K1 (r : R6) {n : Nat} (h : n < 200) : c29 T.rf r ((n : Nat) : Int) = some r := d2D (by
 simp only [r29, df (show ¬ ((n : Nat) : Int) ≥ 200 by omega), cond_false])
theorem b8p {L : List m7} {i : Nat} {s : Str} {a : Int} (h : nth L i = some (1, s, a)) (t : Str) : isB L i t = false := by
 unfold isB; rw [h]; rfl
theorem b2H {L : List m7} {i : Nat} {s : Str} {a : Int} (h : nth L i = some (1, s, a)) : nmB L i = true := by
 unfold nmB; rw [h]; rfl
theorem b5w {L : List m7} {i : Nat} {u : Str} {a : Int} (h : nth L i = some (p7 u, u, a)) (hk : p7 u = 4 ∨ p7 u = 3) : nmB L i = false := by
 unfold nmB; rw [h]; simp only
 rcases hk with hk | hk <;> rw [hk] <;> rfl
theorem W4 {L : List m7} {i : Nat} {s : Str} (hn : u9 s = true) (h : ∃ a, nth L i = some (p7 s, s, a)) : ∃ a, nth L i = some (1, s, a) := by
 obtain ⟨a, h⟩ := h; exact ⟨a, by rw [← a2P hn]; exact h⟩
theorem a9W : p7 [97, 115, 115, 117, 109, 101] = 3 := by decide +kernel
theorem a4t : p7 [103, 117, 97, 114, 97, 110, 116, 101, 101] = 3 := by decide +kernel
theorem b2x : p7 [103, 104, 111, 115, 116] = 3 := by decide +kernel
theorem b5l : p7 [109, 111, 100, 101] = 3 := by decide +kernel
theorem a9Y : p7 [105, 109, 112, 111, 114, 116] = 3 := by decide +kernel
theorem b3R : p7 [114, 101, 113, 117, 105, 114, 101] = 3 := by decide +kernel
theorem a9X : p7 [101, 110, 115, 117, 114, 101] = 3 := by decide +kernel
theorem b8z : p7 [101, 110, 100] = 3 := by decide +kernel
theorem b8B : p7 [116, 101, 108] = 3 := by decide +kernel
theorem b8A : p7 [108, 101, 116] = 3 := by decide +kernel
theorem b3T : p7 [118, 97, 114] = 3 := by decide +kernel
theorem b3S : p7 [114, 101, 116, 117, 114, 110, 115] = 3 := by decide +kernel
theorem a2d : p7 [99, 111, 110, 116, 114, 97, 99, 116] = 3 := by decide +kernel
theorem b5m : p7 [110, 111, 100, 101] = 3 := by decide +kernel
theorem b5k : p7 [109, 97, 105, 110] = 3 := by decide +kernel
theorem b2w : p7 [102, 97, 108, 108, 98, 97, 99, 107] = 3 := by decide +kernel
theorem d1y : p7 [58] = 4 := by decide +kernel
theorem V0 : p7 [59] = 4 := by decide +kernel
theorem c3L : p7 [61] = 4 := by decide +kernel
theorem d1z (t : Int) : p7 (tyX t) = 3 := by unfold tyX; split <;> decide +kernel
theorem X5 {L : List m7} {i : Nat} (hL : L.length ≤ 1000000000) {p : Pm} (hp : H9 p = true) (hr : Reads L i (wPm p)) : c30 T.rf ((L, ((i : Nat) : Int), (0 : Int), (0 : Int)) : R6) = some (((L, ((i + 3 : Nat) : Int), (0 : Int), (0 : Int)) : R6), p) := b4g (by
 obtain ⟨h1, ⟨a2, h2⟩, ⟨a3, h3⟩, _⟩ := hr
 rw [H9, Bool.and_eq_true, Bool.or_eq_true, beq_iff_eq, beq_iff_eq] at hp
 obtain ⟨a1, h1⟩ := W4 hp.1 h1
 have hl := C0 h3
 have b2 : isB L (i + 1) [58] = true := by rw [l0 h2 (.inl d1y) [58]]; rfl
 have b3 := l0 h3 (.inr (d1z p.2))
 obtain ⟨nm, ty⟩ := p
 simp only at hp b3
 simp only [r30, O8 (show i ≤ 2000000000 by omega) h1, bind_some, o8 (show i + 1 ≤ 2000000000 by omega) b2, m4 L (show i + 1 + 1 ≤ 2000000000 by omega), b3]
 rcases hp.2 with h | h
 · subst h; rfl
 · subst h
   simp only [show (tyX 2 == ([98, 111, 111, 108] : Str)) = false from rfl, cond_false, m4 L (show i + 1 + 1 ≤ 2000000000 by omega), b3, show (tyX 2 == ([105, 110, 116] : Str)) = true from rfl, cond_true, bind_some])
theorem a9N {L : List m7} {i : Nat} {p : Pm} (hp : H9 p = true) (hr : Reads L i (wPm p)) : ∃ a, nth L i = some (1, p.1, a) := by
 rw [H9, Bool.and_eq_true] at hp
 exact W4 hp.1 hr.1
theorem a4q {L : List m7} (hL : L.length ≤ 1000000000) : ∀ (l : List Pm) (x : Pm) (k : Nat) (out : List Pm), (∀ p ∈ x :: l, H9 p = true) → Reads L k (C7 [59] ((x :: l).map wPm) ++ [[41]]) → out.length + (x :: l).length ≤ 200 →
  k17 T.rb ((L, ((k : Nat) : Int), (0 : Int), (0 : Int)) : R6) out = some (.inl (((L, ((k + (C7 [59] ((x :: l).map wPm)).length + 1 : Nat) : Int), (0 : Int), (0 : Int)) : R6), out ++ x :: l))
 | [], x, k, out, hp, hr, ho => a9i (by
   simp only [List.map_cons, List.map_nil, a2D, length_cons, length_nil] at hr ho ⊢
   obtain ⟨r1, ⟨a, r2⟩, _⟩ := l5.1 hr
   have hl := C0 r2
   have e3 : (wPm x).length = 3 := rfl
   rw [e3] at r2 hl ⊢
   have bb := l0 r2 (.inl b0X) [41]
   rw [beq_self_eq_true] at bb
   simp only [b17, ok6, bind_some, z6, cond_true, K1 _ (show out.length < 200 by omega), X5 hL (hp x (by simp)) r1, m8 (show out.length + 1 ≤ 274877906944 by omega), Bool.and_true, m4 L (show k + 3 ≤ 2000000000 by omega), bb])
 | y :: l, x, k, out, hp, hr, ho => a9i (by
   simp only [List.map_cons, a0V] at hr
   rw [List.append_assoc, List.cons_append] at hr
   obtain ⟨r1, ⟨a, r2⟩, r3⟩ := l5.1 hr
   have hl := C0 r2
   have e3 : (wPm x).length = 3 := rfl
   rw [e3] at r2 r3 hl
   have bb := l0 r2 (.inl V0)
   simp only [length_cons] at ho
   have ih := a4q hL l y (k + 3 + 1) (out ++ [x]) (fun p h => hp p (List.mem_cons_of_mem _ h)) (by simpa only [List.map_cons] using r3) (by simp only [length_append, length_cons, length_nil]; omega)
   simp only [b17, ok6, bind_some, z6, cond_true, K1 _ (show out.length < 200 by omega), X5 hL (hp x (by simp)) r1, m8 (show out.length + 1 ≤ 274877906944 by omega), Bool.and_true, m4 L (show k + 3 ≤ 2000000000 by omega), bb, show (([59] : Str) == [41]) = false from rfl, cond_false,
    o8 (show k + 3 ≤ 2000000000 by omega) (s := [59]) (by rw [bb]; rfl), ih]
   simp only [List.map_cons, a0V, length_append, length_cons, e3, List.append_assoc, List.singleton_append]
   have e : k + 3 + 1 + (C7 [59] (wPm y :: List.map wPm l)).length + 1 = k + (3 + ((C7 [59] (wPm y :: List.map wPm l)).length + 1)) + 1 := by omega
   rw [e])
theorem a7T {L : List m7} {i : Nat} (hL : L.length ≤ 1000000000) {l : List Pm} (hp : ∀ p ∈ l, H9 p = true) (hl : l.length ≤ 200) (hr : Reads L i (wIn l)) : c27 T.rf ((L, ((i : Nat) : Int), (0 : Int), (0 : Int)) : R6) = some (((L, ((i + (wIn l).length : Nat) : Int), (0 : Int), (0 : Int)) : R6), l) := b4f (by
 obtain ⟨⟨a1, h1⟩, h2⟩ := hr
 have hi := C0 h1
 have b1 : isB L i [40] = true := by rw [l0 h1 (.inl b3Q) [40]]; rfl
 simp only [r27, o8 (show i ≤ 2000000000 by omega) b1, bind_some, m4 L (show i + 1 ≤ 2000000000 by omega)]
 cases l with
 | nil =>
   obtain ⟨⟨a2, h3⟩, _⟩ := h2
   have b2 : isB L (i + 1) [41] = true := by rw [l0 h3 (.inl b0X) [41]]; rfl
   rw [b2]; rfl
 | cons x l =>
   have hx : ∃ a, nth L (i + 1) = some (1, x.1, a) := by
    have h2' := (l5.1 h2).1
    rw [List.map_cons, C7] at h2'
    exact a9N (hp x (by simp)) (l5.1 h2').1
   obtain ⟨a, hx⟩ := hx
   rw [b8p hx, cond_false, a4q hL l x (i + 1) [] hp h2 (by simpa using hl), bind_some]
   simp only [wIn, length_cons, length_append, length_nil, List.nil_append, cond_false]
   have e : i + 1 + (C7 [59] (List.map wPm (x :: l))).length + 1 = i + ((C7 [59] (List.map wPm (x :: l))).length + (0 + 1) + 1) := by omega
   rw [e])
theorem c5Z {L : List m7} {i : Nat} (hL : L.length ≤ 1000000000) {e : List Nd} (he : D3 e = true) (hr : Reads L i (l6 e)) (hn : nxt L (i + (l6 e).length) < 1) : c35 T.rf L ((i : Nat) : Int) = some (norm e, ((i + (l6 e).length : Nat) : Int), 0, 0) := c5U (by
 have H := a5s he
 have hd := H.d; have hs := H.s
 have hlen := G2 hr H.len
 have hp := (((par (etr e).size (etr e) _ (Nat.le_refl _) (by omega) H.emb H.v H.nm).1 H.o) L i 0 hL hr (by omega) (by omega)).1 1 (by omega) (by omega) (.inl rfl) hn
 simp only [rd] at hp
 have hfl : (flat (etr e) 0).length ≤ 1000000 := by rw [n6]; omega
 have hdep : depth (flat (etr e) 0) = dep (etr e) := a0A (a4o H.v)
 have hfs : ((flat (etr e) 0).length : Int) ≤ 5000 := by rw [n6]; omega
 have hpt : k46 T.rb (0, 0) L ((i : Nat) : Int) = some (.inr ((0, 0), flat (etr e) 0, ((i + (j8 (etr e)).length : Nat) : Int))) := b9b (by
  simp only [b46, hp, bind_some, z0, cond_false, df (show ¬ (((flat (etr e) 0).length : Nat) : Int) > 5000 by omega), a2o hfl, hdep, df (show ¬ dep (etr e) > 40 by omega)])
 rw [H.n]
 simp only [r35, df (show ¬ ((i : Nat) : Int) < 0 by omega), cond_false, df (show ¬ ((i : Nat) : Int) > ((L.length : Nat) : Int) by omega), hpt, bind_some, l6])
theorem S9 {L : List m7} {i : Nat} (hL : L.length ≤ 1000000000) {e : List Nd} (he : D3 e = true) (hr : Reads L i (l6 e)) (hn : nxt L (i + (l6 e).length) < 1) : c34 T.rf ((L, ((i : Nat) : Int), (0 : Int), (0 : Int)) : R6) = some (((L, ((i + (l6 e).length : Nat) : Int), (0 : Int), (0 : Int)) : R6), norm e) := c1o (by
 have ht : k47 T.rb ((L, ((i : Nat) : Int), (0 : Int), (0 : Int)) : R6) (0, 0) (norm e) (((i + (l6 e).length : Nat) : Int)) = some (((L, ((i + (l6 e).length : Nat) : Int), (0 : Int), (0 : Int)) : R6), (0, 0), norm e) := c5G (by
  simp only [b47, z0, cond_false])
 simp only [r34, ok6, bind_some, z6, Bool.not_true, cond_false, c5Z hL he hr hn, ht])
theorem c0J {L : List m7} {i : Nat} {e : List Nd} (he : D3 e = true) (hr : Reads L i (l6 e)) : isB L i [41] = false := by
 have H := a5s he
 obtain ⟨s, r, h1, h2⟩ := b0C (etr e).size (etr e) _ (Nat.le_refl _) H.emb H.v H.nm
 rw [l6, h1] at hr
 obtain ⟨⟨a, h⟩, _⟩ := hr
 unfold isB
 rw [h]
 simp only
 rw [beq_eq_false_iff_ne.2 h2, Bool.and_false]
theorem a7j {L : List m7} (hL : L.length ≤ 1000000000) : ∀ (l : List (List Nd)) (x : List Nd) (k : Nat) (out : List (List Nd)), (∀ p ∈ x :: l, D3 p = true) → Reads L k (C7 [44] ((x :: l).map l6) ++ [[41]]) → out.length + (x :: l).length ≤ 200 →
  k49 T.rb ((L, ((k : Nat) : Int), (0 : Int), (0 : Int)) : R6) out = some (.inl (((L, ((k + (C7 [44] ((x :: l).map l6)).length + 1 : Nat) : Int), (0 : Int), (0 : Int)) : R6), out ++ (x :: l).map norm))
 | [], x, k, out, hp, hr, ho => a9j (by
   simp only [List.map_cons, List.map_nil, a2D, length_cons, length_nil] at hr ho ⊢
   obtain ⟨r1, ⟨a, r2⟩, _⟩ := l5.1 hr
   have hl := C0 r2
   have bb := l0 r2 (.inl b0X) [41]
   rw [beq_self_eq_true] at bb
   have hn : nxt L (k + (l6 x).length) < 1 := by rw [a1g bb]; decide
   simp only [b49, ok6, bind_some, z6, cond_true, K1 _ (show out.length < 200 by omega), S9 hL (hp x (by simp)) r1 hn, m8 (show out.length + 1 ≤ 274877906944 by omega), Bool.and_true, m4 L (show k + (l6 x).length ≤ 2000000000 by omega), bb])
 | y :: l, x, k, out, hp, hr, ho => a9j (by
   simp only [List.map_cons, a0V] at hr
   rw [List.append_assoc, List.cons_append] at hr
   obtain ⟨r1, ⟨a, r2⟩, r3⟩ := l5.1 hr
   have hl := C0 r2
   have bb := l0 r2 (.inl c5x)
   have hn : nxt L (k + (l6 x).length) < 1 := by rw [a0g r2 (.inl c5x)]; decide
   simp only [length_cons] at ho
   have ih := a7j hL l y (k + (l6 x).length + 1) (out ++ [norm x]) (fun p h => hp p (List.mem_cons_of_mem _ h)) (by simpa only [List.map_cons] using r3) (by simp only [length_append, length_cons, length_nil]; omega)
   simp only [b49, ok6, bind_some, z6, cond_true, K1 _ (show out.length < 200 by omega), S9 hL (hp x (by simp)) r1 hn, m8 (show out.length + 1 ≤ 274877906944 by omega), Bool.and_true, m4 L (show k + (l6 x).length ≤ 2000000000 by omega), bb, show (([44] : Str) == [41]) = false from rfl, cond_false,
    o8 (show k + (l6 x).length ≤ 2000000000 by omega) (s := [44]) (by rw [bb]; rfl), ih]
   simp only [List.map_cons, a0V, length_append, length_cons, List.append_assoc, List.singleton_append]
   have e : k + (l6 x).length + 1 + (C7 [44] (l6 y :: List.map l6 l)).length + 1 = k + ((l6 x).length + ((C7 [44] (l6 y :: List.map l6 l)).length + 1)) + 1 := by omega
   rw [e])
theorem b7x {L : List m7} {i : Nat} (hL : L.length ≤ 1000000000) {l : List (List Nd)} (hp : ∀ p ∈ l, D3 p = true) (hl : l.length ≤ 200) (hr : Reads L i ([40] :: (C7 [44] (l.map l6) ++ [[41]]))) : c63 T.rf ((L, ((i : Nat) : Int), (0 : Int), (0 : Int)) : R6) = some (((L, ((i + 1 + (C7 [44] (l.map l6)).length + 1 : Nat) : Int), (0 : Int), (0 : Int)) : R6), l.map norm) := b4j (by
 obtain ⟨⟨a1, h1⟩, h2⟩ := hr
 have hi := C0 h1
 have b1 : isB L i [40] = true := by rw [l0 h1 (.inl b3Q) [40]]; rfl
 simp only [r63, o8 (show i ≤ 2000000000 by omega) b1, bind_some, m4 L (show i + 1 ≤ 2000000000 by omega)]
 cases l with
 | nil =>
   obtain ⟨⟨a2, h3⟩, _⟩ := h2
   have b2 : isB L (i + 1) [41] = true := by rw [l0 h3 (.inl b0X) [41]]; rfl
   rw [b2]; rfl
 | cons x l =>
   have hx : isB L (i + 1) [41] = false := by
    have h2' := (l5.1 h2).1
    rw [List.map_cons, C7] at h2'
    exact c0J (hp x (by simp)) (l5.1 h2').1
   rw [hx, cond_false, a7j hL l x (i + 1) [] hp h2 (by simpa using hl), bind_some]
   rfl)
theorem b8q {L : List m7} {i : Nat} (hL : L.length ≤ 1000000000) {x : Itm} (hx : I7 x = true) (hr : Reads L i (wIt x)) : c33 T.rf ((L, ((i : Nat) : Int), (0 : Int), (0 : Int)) : R6) = some (((L, ((i + (wIt x).length : Nat) : Int), (0 : Int), (0 : Int)) : R6), P6 x, true) := W5 (by
 obtain ⟨kd, nm, ty, e, f, gs⟩ := x
 cases itF hx with
 | ag k nm' ty' e' f' a =>
   simp only at k nm' ty' e' f' a
   subst nm'; subst ty'; subst f'; subst a
   rcases k with k | k
   · subst k
     simp only [wIt, if_true] at hr ⊢
     obtain ⟨⟨a1, h1⟩, hr2⟩ := hr
     obtain ⟨h2, ⟨a3, h3⟩, _⟩ := l5.1 hr2
     have hl := C0 h3
     have b1 := l0 h1 (.inr a9W)
     have hn : nxt L (i + 1 + (l6 e).length) < 1 := by rw [a0g h3 (.inl V0)]; decide
     have b3 : isB L (i + 1 + (l6 e).length) [59] = true := by rw [l0 h3 (.inl V0)]; rfl
     simp only [r33, m4 L (show i ≤ 2000000000 by omega), b1, beq_self_eq_true, cond_true, bind_some, S9 hL e' h2 hn, o8 (show i + 1 + (l6 e).length ≤ 2000000000 by omega) b3, P6, T4, List.map_nil, length_cons, length_append, length_nil]
     have q : i + 1 + (l6 e).length + 1 = i + ((l6 e).length + (0 + 1) + 1) := by omega
     rw [q]
   · subst k
     simp only [wIt, if_neg (show ¬ (2 : Int) = 1 by decide), if_true] at hr ⊢
     obtain ⟨⟨a1, h1⟩, hr2⟩ := hr
     obtain ⟨h2, ⟨a3, h3⟩, _⟩ := l5.1 hr2
     have hl := C0 h3
     have b1 := l0 h1 (.inr a4t)
     have hn : nxt L (i + 1 + (l6 e).length) < 1 := by rw [a0g h3 (.inl V0)]; decide
     have b3 : isB L (i + 1 + (l6 e).length) [59] = true := by rw [l0 h3 (.inl V0)]; rfl
     simp only [r33, m4 L (show i ≤ 2000000000 by omega), b1, show (([103, 117, 97, 114, 97, 110, 116, 101, 101] : Str) == ([97, 115, 115, 117, 109, 101] : Str)) = false from rfl, cond_false, beq_self_eq_true, cond_true, bind_some, S9 hL e' h2 hn, o8 (show i + 1 + (l6 e).length ≤ 2000000000 by omega) b3, P6, T4, List.map_nil, length_cons, length_append, length_nil]
     have q : i + 1 + (l6 e).length + 1 = i + ((l6 e).length + (0 + 1) + 1) := by omega
     rw [q]
 | gh k nm' ty' e' f' a =>
   simp only at k nm' ty' e' f' a
   subst k; subst f'; subst a
   simp only [wIt, if_neg (show ¬ (3 : Int) = 1 by decide), if_neg (show ¬ (3 : Int) = 2 by decide), if_true] at hr ⊢
   obtain ⟨⟨a1, h1⟩, hr2⟩ := hr
   obtain ⟨h2, ⟨a3, h3⟩, hr3⟩ := l5.1 hr2
   have e3 : (wPm (nm, ty)).length = 3 := rfl
   rw [e3] at h3 hr3
   obtain ⟨h4, ⟨a5, h5⟩, _⟩ := l5.1 hr3
   have hl := C0 h5
   have b1 := l0 h1 (.inr b2x)
   have b3 : isB L (i + 1 + 3) [61] = true := by rw [l0 h3 (.inl c3L)]; rfl
   have hn : nxt L (i + 1 + 3 + 1 + (l6 e).length) < 1 := by rw [a0g h5 (.inl V0)]; decide
   have b5 : isB L (i + 1 + 3 + 1 + (l6 e).length) [59] = true := by rw [l0 h5 (.inl V0)]; rfl
   have hp : H9 (nm, ty) = true := by unfold H9; rw [nm']; rcases ty' with ty' | ty' <;> simp [ty']
   simp only [r33, m4 L (show i ≤ 2000000000 by omega), b1, show (([103, 104, 111, 115, 116] : Str) == ([97, 115, 115, 117, 109, 101] : Str)) = false from rfl, show (([103, 104, 111, 115, 116] : Str) == ([103, 117, 97, 114, 97, 110, 116, 101, 101] : Str)) = false from rfl, cond_false, beq_self_eq_true, cond_true, bind_some, X5 hL hp h2, o8 (show i + 1 + 3 ≤ 2000000000 by omega) b3, S9 hL e' h4 hn, o8 (show i + 1 + 3 + 1 + (l6 e).length ≤ 2000000000 by omega) b5, P6, T4, List.map_nil, length_cons, length_append, length_nil, e3]
   have q : i + 1 + 3 + 1 + (l6 e).length + 1 = i + (3 + ((l6 e).length + (0 + 1) + 1) + 1) := by omega
   rw [q]
 | md k nm' ty' e' f' a =>
   simp only at k nm' ty' e' f' a
   subst k; subst ty'; subst a
   simp only [wIt, if_neg (show ¬ (4 : Int) = 1 by decide), if_neg (show ¬ (4 : Int) = 2 by decide), if_neg (show ¬ (4 : Int) = 3 by decide), if_true] at hr ⊢
   obtain ⟨⟨a1, h1⟩, h2, ⟨a3, h3⟩, hr3⟩ := hr
   obtain ⟨a2, h2⟩ := W4 nm' h2
   obtain ⟨h4, ⟨a5, h5⟩, hr4⟩ := l5.1 hr3
   obtain ⟨h6, ⟨a7, h7⟩, _⟩ := l5.1 hr4
   have hl := C0 h7
   have b1 := l0 h1 (.inr b5l)
   have b3 : isB L (i + 1 + 1) ([114, 101, 113, 117, 105, 114, 101] : Str) = true := by rw [l0 h3 (.inr b3R)]; rfl
   have hn : nxt L (i + 1 + 1 + 1 + (l6 e).length) < 1 := by rw [a0g h5 (.inr a9X)]; decide
   have b5 : isB L (i + 1 + 1 + 1 + (l6 e).length) ([101, 110, 115, 117, 114, 101] : Str) = true := by rw [l0 h5 (.inr a9X)]; rfl
   have hn2 : nxt L (i + 1 + 1 + 1 + (l6 e).length + 1 + (l6 f).length) < 1 := by rw [a0g h7 (.inl V0)]; decide
   have b7 : isB L (i + 1 + 1 + 1 + (l6 e).length + 1 + (l6 f).length) [59] = true := by rw [l0 h7 (.inl V0)]; rfl
   simp only [r33, m4 L (show i ≤ 2000000000 by omega), b1, show (([109, 111, 100, 101] : Str) == ([97, 115, 115, 117, 109, 101] : Str)) = false from rfl, show (([109, 111, 100, 101] : Str) == ([103, 117, 97, 114, 97, 110, 116, 101, 101] : Str)) = false from rfl, show (([109, 111, 100, 101] : Str) == ([103, 104, 111, 115, 116] : Str)) = false from rfl, cond_false, beq_self_eq_true, cond_true, bind_some, O8 (show i + 1 ≤ 2000000000 by omega) h2, o8 (show i + 1 + 1 ≤ 2000000000 by omega) b3,
    S9 hL e' h4 hn, o8 (show i + 1 + 1 + 1 + (l6 e).length ≤ 2000000000 by omega) b5, S9 hL f' h6 hn2, o8 (show i + 1 + 1 + 1 + (l6 e).length + 1 + (l6 f).length ≤ 2000000000 by omega) b7, P6, List.map_nil, length_cons, length_append, length_nil]
   have q : i + 1 + 1 + 1 + (l6 e).length + 1 + (l6 f).length + 1 = i + ((l6 e).length + ((l6 f).length + (0 + 1) + 1) + 1 + 1 + 1) := by omega
   rw [q]
 | im k nm' ty' e' f' l a =>
   simp only at k nm' ty' e' f' l a
   subst k; subst ty'; subst e'; subst f'
   simp only [wIt, if_neg (show ¬ (5 : Int) = 1 by decide), if_neg (show ¬ (5 : Int) = 2 by decide), if_neg (show ¬ (5 : Int) = 3 by decide), if_neg (show ¬ (5 : Int) = 4 by decide)] at hr ⊢
   obtain ⟨⟨a1, h1⟩, h2, hr3⟩ := hr
   obtain ⟨a2, h2⟩ := W4 nm' h2
   have hr4 : Reads L (i + 1 + 1) (([40] :: (C7 [44] (gs.map l6) ++ [[41]])) ++ [[59]]) := by simpa using hr3
   obtain ⟨hr5, ⟨a5, h5⟩, _⟩ := l5.1 hr4
   simp only [length_cons, length_append, length_nil] at h5
   have q5 : i + 1 + 1 + ((C7 [44] (gs.map l6)).length + (0 + 1) + 1) = i + 1 + 1 + 1 + (C7 [44] (gs.map l6)).length + 1 := by omega
   rw [q5] at h5
   have hl := C0 h5
   have b1 := l0 h1 (.inr a9Y)
   have b5 : isB L (i + 1 + 1 + 1 + (C7 [44] (gs.map l6)).length + 1) [59] = true := by rw [l0 h5 (.inl V0)]; rfl
   simp only [r33, m4 L (show i ≤ 2000000000 by omega), b1, show (([105, 109, 112, 111, 114, 116] : Str) == ([97, 115, 115, 117, 109, 101] : Str)) = false from rfl, show (([105, 109, 112, 111, 114, 116] : Str) == ([103, 117, 97, 114, 97, 110, 116, 101, 101] : Str)) = false from rfl, show (([105, 109, 112, 111, 114, 116] : Str) == ([103, 104, 111, 115, 116] : Str)) = false from rfl, show (([105, 109, 112, 111, 114, 116] : Str) == ([109, 111, 100, 101] : Str)) = false from rfl, cond_false, beq_self_eq_true, cond_true, bind_some, O8 (show i + 1 ≤ 2000000000 by omega) h2,
    b7x hL a l hr5, o8 (show i + 1 + 1 + 1 + (C7 [44] (gs.map l6)).length + 1 ≤ 2000000000 by omega) b5, P6, T4, length_cons, length_append, length_nil]
   have q : i + 1 + 1 + 1 + (C7 [44] (gs.map l6)).length + 1 + 1 = i + ((C7 [44] (gs.map l6)).length + (0 + 1 + 1) + 1 + 1 + 1) := by omega
   rw [q])
def kwI (x : Itm) : Str := if x.1 = 1 then ([97, 115, 115, 117, 109, 101] : Str) else if x.1 = 2 then ([103, 117, 97, 114, 97, 110, 116, 101, 101] : Str) else if x.1 = 3 then ([103, 104, 111, 115, 116] : Str) else if x.1 = 4 then ([109, 111, 100, 101] : Str) else ([105, 109, 112, 111, 114, 116] : Str)
theorem c0e (x : Itm) : ∃ r, wIt x = kwI x :: r := by
 unfold wIt kwI
 split
 · exact ⟨_, rfl⟩
 split
 · exact ⟨_, rfl⟩
 split
 · exact ⟨_, rfl⟩
 split
 · exact ⟨_, rfl⟩
 · exact ⟨_, rfl⟩
theorem b8E (x : Itm) : p7 (kwI x) = 3 := by
 unfold kwI
 split
 · exact a9W
 split
 · exact a4t
 split
 · exact b2x
 split
 · exact b5l
 · exact a9Y
theorem Y2 (L : List m7) (i : Nat) : c32 T.rf ((L, ((i : Nat) : Int), (0 : Int), (0 : Int)) : R6) = some (((L, ((i : Nat) : Int), (0 : Int), (0 : Int)) : R6), isB L i ([97, 115, 115, 117, 109, 101] : Str) || (isB L i ([103, 117, 97, 114, 97, 110, 116, 101, 101] : Str) || (isB L i ([103, 104, 111, 115, 116] : Str) || (isB L i ([109, 111, 100, 101] : Str) || isB L i ([105, 109, 112, 111, 114, 116] : Str))))) := d2E (by
 simp only [r32, a2c, bind_some]
 cases isB L i ([97, 115, 115, 117, 109, 101] : Str)
 case true => rfl
 cases isB L i ([103, 117, 97, 114, 97, 110, 116, 101, 101] : Str)
 case true => rfl
 cases isB L i ([103, 104, 111, 115, 116] : Str)
 case true => rfl
 cases isB L i ([109, 111, 100, 101] : Str)
 case true => rfl
 rfl)
theorem b6c {L : List m7} {i : Nat} {x : Itm} (hr : Reads L i (wIt x)) : (isB L i ([97, 115, 115, 117, 109, 101] : Str) || (isB L i ([103, 117, 97, 114, 97, 110, 116, 101, 101] : Str) || (isB L i ([103, 104, 111, 115, 116] : Str) || (isB L i ([109, 111, 100, 101] : Str) || isB L i ([105, 109, 112, 111, 114, 116] : Str))))) = true := by
 obtain ⟨r, h⟩ := c0e x
 rw [h] at hr
 obtain ⟨⟨a, h1⟩, _⟩ := hr
 have bb := l0 h1 (.inr (b8E x))
 simp only [bb]
 unfold kwI
 split
 · rfl
 split
 · rfl
 split
 · rfl
 split
 · rfl
 · rfl
theorem a6f {L : List m7} (hL : L.length ≤ 1000000000) : ∀ (l : List Itm) (k : Nat) (out : List Itm), (∀ x ∈ l, I7 x = true) → Reads L k (G0 l ++ [([101, 110, 100] : Str)]) → out.length + l.length ≤ 200 →
  k50 T.rb ((L, ((k : Nat) : Int), (0 : Int), (0 : Int)) : R6) out = some (((L, ((k + (G0 l).length : Nat) : Int), (0 : Int), (0 : Int)) : R6), out ++ l.map P6)
 | [], k, out, hp, hr, ho => b1k (by
   obtain ⟨⟨a, h⟩, _⟩ := hr
   have bb := l0 h (.inr b8z)
   simp only [b50, Y2, bind_some, bb]
   simp [G0])
 | x :: l, k, out, hp, hr, ho => b1k (by
   have e : G0 (x :: l) = wIt x ++ G0 l := rfl
   rw [e, List.append_assoc] at hr
   obtain ⟨r1, r2⟩ := l5.1 hr
   simp only [length_cons] at ho
   have ih := a6f hL l (k + (wIt x).length) (out ++ [P6 x]) (fun p h => hp p (List.mem_cons_of_mem _ h)) r2 (by simp only [length_append, length_cons, length_nil]; omega)
   simp only [b50, Y2, bind_some, b6c r1, cond_true, K1 _ (show out.length < 200 by omega), b8q hL (hp x (by simp)) r1, m8 (show out.length + 1 ≤ 274877906944 by omega), Bool.and_true, ih]
   rw [e, length_append, List.map_cons, List.append_assoc, List.singleton_append, show k + (wIt x).length + (G0 l).length = k + ((wIt x).length + (G0 l).length) by omega])
theorem a9V {L : List m7} {i : Nat} (hL : L.length ≤ 1000000000) {l : List Itm} (hp : ∀ p ∈ l, I7 p = true) (hl : l.length ≤ 200) (hr : Reads L i (G0 l ++ [([101, 110, 100] : Str)])) : c31 T.rf ((L, ((i : Nat) : Int), (0 : Int), (0 : Int)) : R6) = some (((L, ((i + (G0 l).length + 1 : Nat) : Int), (0 : Int), (0 : Int)) : R6), l.map P6) := b9h (by
 obtain ⟨_, ⟨a, h⟩, _⟩ := l5.1 hr
 have hlt := C0 h
 have bb : isB L (i + (G0 l).length) ([101, 110, 100] : Str) = true := by rw [l0 h (.inr b8z)]; rfl
 simp only [r31, a6f hL l i [] hp hr (by simpa using hl), bind_some, o8 (show i + (G0 l).length ≤ 2000000000 by omega) bb, List.nil_append])
theorem a9I {L : List m7} (hL : L.length ≤ 1000000000) : ∀ (l : List Eqn) (k : Nat) (out : List Eqn), (∀ x ∈ l, V8 x = true) → Reads L k (S1 l ++ [([116, 101, 108] : Str)]) → out.length + l.length ≤ 200 →
  k54 T.rb ((L, ((k : Nat) : Int), (0 : Int), (0 : Int)) : R6) out = some (((L, ((k + (S1 l).length : Nat) : Int), (0 : Int), (0 : Int)) : R6), out ++ l.map a4K)
 | [], k, out, hp, hr, ho => a8s (by
   obtain ⟨⟨a, h⟩, _⟩ := hr
   simp only [b54, C8, bind_some, b5w h (.inr b8B), cond_false]
   simp [S1])
 | x :: l, k, out, hp, hr, ho => a8s (by
   have e : S1 (x :: l) = wEq x ++ S1 l := rfl
   rw [e, List.append_assoc] at hr
   obtain ⟨r1, r2⟩ := l5.1 hr
   obtain ⟨q1, q2⟩ := eqF (hp x (by simp))
   obtain ⟨h1, ⟨a2, h2⟩, hr3⟩ := r1
   obtain ⟨a1, h1⟩ := W4 q1 h1
   obtain ⟨h3, ⟨a4, h4⟩, _⟩ := l5.1 hr3
   have hlt := C0 h4
   have b2 : isB L (k + 1) [61] = true := by rw [l0 h2 (.inl c3L)]; rfl
   have hn : nxt L (k + 1 + 1 + (l6 x.2).length) < 1 := by rw [a0g h4 (.inl V0)]; decide
   have b4 : isB L (k + 1 + 1 + (l6 x.2).length) [59] = true := by rw [l0 h4 (.inl V0)]; rfl
   have el : (wEq x).length = (l6 x.2).length + 3 := by simp [wEq]
   simp only [length_cons] at ho
   rw [el] at r2
   have ih := a9I hL l (k + ((l6 x.2).length + 3)) (out ++ [a4K x]) (fun p h => hp p (List.mem_cons_of_mem _ h)) r2 (by simp only [length_append, length_cons, length_nil]; omega)
   have q : k + 1 + 1 + (l6 x.2).length + 1 = k + ((l6 x.2).length + 3) := by omega
   simp only [b54, C8, bind_some, b2H h1, cond_true, K1 _ (show out.length < 200 by omega), O8 (show k ≤ 2000000000 by omega) h1, o8 (show k + 1 ≤ 2000000000 by omega) b2, S9 hL q2 h3 hn, o8 (show k + 1 + 1 + (l6 x.2).length ≤ 2000000000 by omega) b4, m8 (show out.length + 1 ≤ 274877906944 by omega), Bool.and_true, q]
   rw [show out ++ [(x.1, norm x.2)] = out ++ [a4K x] from rfl, ih, e, length_append, el, List.map_cons, List.append_assoc, List.singleton_append, show k + ((l6 x.2).length + 3) + (S1 l).length = k + ((l6 x.2).length + 3 + (S1 l).length) by omega])
theorem a6O {L : List m7} {i : Nat} (hL : L.length ≤ 1000000000) {l : List Eqn} (hp : ∀ p ∈ l, V8 p = true) (hl : l.length ≤ 200) (hr : Reads L i (S1 l ++ [([116, 101, 108] : Str)])) : c65 T.rf ((L, ((i : Nat) : Int), (0 : Int), (0 : Int)) : R6) = some (((L, ((i + (S1 l).length + 1 : Nat) : Int), (0 : Int), (0 : Int)) : R6), l.map a4K) := b9j (by
 obtain ⟨_, ⟨a, h⟩, _⟩ := l5.1 hr
 have hlt := C0 h
 have bb : isB L (i + (S1 l).length) ([116, 101, 108] : Str) = true := by rw [l0 h (.inr b8B)]; rfl
 simp only [r65, a9I hL l i [] hp hr (by simpa using hl), bind_some, o8 (show i + (S1 l).length ≤ 2000000000 by omega) bb, List.nil_append])
theorem a9b {L : List m7} (hL : L.length ≤ 1000000000) : ∀ (l : List Pm) (x : Pm) (k : Nat) (out : List Pm), (∀ p ∈ x :: l, H9 p = true) → Reads L k ((C7 [59] ((x :: l).map wPm) ++ [[59]]) ++ [([108, 101, 116] : Str)]) → out.length + (x :: l).length ≤ 200 →
  k52 T.rb ((L, ((k : Nat) : Int), (0 : Int), (0 : Int)) : R6) out = some (.inl (((L, ((k + (C7 [59] ((x :: l).map wPm)).length + 1 : Nat) : Int), (0 : Int), (0 : Int)) : R6), out ++ x :: l))
 | [], x, k, out, hp, hr, ho => b1l (by
   simp only [List.map_cons, List.map_nil, a2D, length_cons, length_nil] at hr ho ⊢
   obtain ⟨hr1, ⟨a', r3⟩, _⟩ := l5.1 hr
   obtain ⟨r1, ⟨a, r2⟩, _⟩ := l5.1 hr1
   have e3 : (wPm x).length = 3 := rfl
   simp only [length_append, length_cons, length_nil, e3] at r2 r3 ⊢
   have hl := C0 r3
   have bb : isB L (k + 3) [59] = true := by rw [l0 r2 (.inl V0)]; rfl
   have nb' : nmB L (k + 3 + 1) = false := b5w (u := ([108, 101, 116] : Str)) (a := a') (by rw [show k + 3 + 1 = k + (3 + (0 + 1)) by omega]; exact r3) (.inr b8A)
   simp only [b52, ok6, bind_some, z6, cond_true, K1 _ (show out.length < 200 by omega), X5 hL (hp x (by simp)) r1, m8 (show out.length + 1 ≤ 274877906944 by omega), Bool.and_true, o8 (show k + 3 ≤ 2000000000 by omega) bb, C8, nb', Bool.not_false])
 | y :: l, x, k, out, hp, hr, ho => b1l (by
   simp only [List.map_cons, a0V] at hr
   rw [List.append_assoc, List.append_assoc, List.cons_append] at hr
   obtain ⟨r1, ⟨a, r2⟩, r3⟩ := l5.1 hr
   have hl := C0 r2
   have e3 : (wPm x).length = 3 := rfl
   rw [e3] at r2 r3 hl
   have bb : isB L (k + 3) [59] = true := by rw [l0 r2 (.inl V0)]; rfl
   have hy : ∃ a, nth L (k + 3 + 1) = some (1, y.1, a) := by
    have h2' := (l5.1 r3).1
    rw [C7] at h2'
    exact a9N (hp y (by simp)) (l5.1 h2').1
   obtain ⟨a2, hy⟩ := hy
   simp only [length_cons] at ho
   have ih := a9b hL l y (k + 3 + 1) (out ++ [x]) (fun p h => hp p (List.mem_cons_of_mem _ h)) (by simpa only [List.map_cons, List.append_assoc] using r3) (by simp only [length_append, length_cons, length_nil]; omega)
   simp only [b52, ok6, bind_some, z6, cond_true, K1 _ (show out.length < 200 by omega), X5 hL (hp x (by simp)) r1, m8 (show out.length + 1 ≤ 274877906944 by omega), Bool.and_true, o8 (show k + 3 ≤ 2000000000 by omega) bb, C8, b2H hy, Bool.not_true, cond_false, ih]
   simp only [List.map_cons, a0V, length_append, length_cons, e3, List.append_assoc, List.singleton_append]
   have e : k + 3 + 1 + (C7 [59] (wPm y :: List.map wPm l)).length + 1 = k + (3 + ((C7 [59] (wPm y :: List.map wPm l)).length + 1)) + 1 := by omega
   rw [e])
theorem b3u {L : List m7} {i : Nat} (hL : L.length ≤ 1000000000) {l : List Pm} (hne : l ≠ []) (hp : ∀ p ∈ l, H9 p = true) (hl : l.length ≤ 200) (hr : Reads L i ((C7 [59] (l.map wPm) ++ [[59]]) ++ [([108, 101, 116] : Str)])) : c64 T.rf ((L, ((i : Nat) : Int), (0 : Int), (0 : Int)) : R6) = some (((L, ((i + (C7 [59] (l.map wPm)).length + 1 : Nat) : Int), (0 : Int), (0 : Int)) : R6), l) := c1p (by
 cases l with
 | nil => exact absurd rfl hne
 | cons x l => simp only [r64, a9b hL l x i [] hp hr (by simpa using hl), bind_some, List.nil_append])
end Go.Proofs.YtlobhcgbmpcdlaaGreatDoor.R
