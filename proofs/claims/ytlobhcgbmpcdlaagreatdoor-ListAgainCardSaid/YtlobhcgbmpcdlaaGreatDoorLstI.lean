import Derived.Test.YtlobhcgbmpcdlaaGreatDoorLstH
open Option (bind_some)
namespace Go.Proofs.YtlobhcgbmpcdlaaGreatDoor.R
open Go Go.Bm Go.Proofs
set_option linter.unusedVariables false
set_option linter.unusedSimpArgs false
set_option linter.unusedSectionVars false
set_option maxRecDepth 4000
def N7 (r : R6) : Prop := r.2.2.1 ≠ 0
section
variable {r : R6} (h : N7 r)
include h
theorem a0h : c23 T.rf r = some (r, false) := by rw [ok6, bf h]
theorem b0U (s : Str) : c22 T.rf r s = some (r, false) := d2A (by
 simp only [r22, a0h h, bind_some, Bool.not_false, cond_true])
theorem n5 (s : Str) : c21 T.rf r s = some (r, false) := d2z (by
 simp only [r21, b0U h, bind_some, Bool.not_false, cond_true])
theorem X0 (e : Int) : c26 T.rf r e = some r := d2C (by
 simp only [r26, a0h h, bind_some, cond_false])
theorem j6 (s : Str) : c28 T.rf r s = some r := c5T (by
 simp only [r28, n5 h, bind_some, Bool.not_false, cond_true, X0 h])
theorem M3 : c25 T.rf r = some (r, false) := d2B (by
 simp only [r25, a0h h, bind_some, cond_false])
theorem R1 : c24 T.rf r = some (r, []) := c5S (by
 simp only [r24, M3 h, bind_some, Bool.not_false, cond_true, X0 h])
theorem F5 : c30 T.rf r = some (r, [], 0) := b4g (by
 simp only [r30, R1 h, j6 h, n5 h, X0 h, bind_some, cond_false])
theorem G4 : c34 T.rf r = some (r, []) := c1o (by
 simp only [r34, a0h h, bind_some, Bool.not_false, cond_true])
theorem H6 (out : List Pm) : k17 T.rb r out = some (.inr r) := a9i (by
 simp only [b17, a0h h, bind_some, cond_false])
theorem a0e : c27 T.rf r = some (r, []) := b4f (by
 simp only [r27, j6 h, n5 h, H6 h, bind_some, cond_false])
theorem M0 (out : List (List Nd)) : k49 T.rb r out = some (.inr r) := a9j (by
 simp only [b49, a0h h, bind_some, cond_false])
theorem b5X : c63 T.rf r = some (r, []) := b4j (by
 simp only [r63, j6 h, n5 h, M0 h, bind_some, cond_false])
theorem b6w : c33 T.rf r = some (r, (0, [], 0, [], [], []), false) := W5 (by
 simp only [r33, n5 h, bind_some, cond_false])
theorem b1S : c32 T.rf r = some (r, false) := d2E (by
 simp only [r32, b0U h, bind_some, cond_false])
theorem a0f (out : List Itm) : k50 T.rb r out = some (r, out) := b1k (by
 simp only [b50, b1S h, bind_some, cond_false])
theorem a7X : c31 T.rf r = some (r, []) := b9h (by
 simp only [r31, a0f h, j6 h, bind_some])
theorem W9 (out : List Eqn) : k54 T.rb r out = some (r, out) := a8s (by
 simp only [b54, M3 h, bind_some, cond_false])
theorem H8 : c65 T.rf r = some (r, []) := b9j (by
 simp only [r65, W9 h, j6 h, bind_some])
theorem b7f : ∃ u, c20 T.rf r = some (r, u) := ⟨(false, [], [], [], 0, [], [], []), a3g (by
 simp only [r20, n5 h, j6 h, R1 h, a0e h, F5 h, H8 h, bind_some, cond_false])⟩
theorem a6D (d2 d3 : Str) (out : List Unt) : k69 T.rb r d2 d3 out = some (r, d2, d3, out) := b9c (by
 simp only [b69, b0U h, bind_some, cond_false])
end
theorem a0D (r : R6) {e : Int} (he : e ≠ 0) : ∃ r', c26 T.rf r e = some r' ∧ N7 r' := by
 by_cases h : r.2.2.1 = 0
 · obtain ⟨a, ha⟩ := b7z r.1 r.2.1
   exact ⟨(r.1, r.2.1, e, a), d2C (by simp only [r26, ok6, bt h, cond_true, ha, bind_some]), he⟩
 · exact ⟨r, X0 h e, h⟩
section
variable {L : List m7} (hL : L.length ≤ 100000) (hok : ∀ x ∈ L, Okk x)
include hL
theorem o6 {i : Nat} (hi : i ≤ L.length) (s : Str) : ∃ r', c28 T.rf ((L, ((i : Nat) : Int), (0 : Int), (0 : Int)) : R6) s = some r' ∧ (N7 r' ∨ (r' = ((L, ((i + 1 : Nat) : Int), (0 : Int), (0 : Int)) : R6) ∧ i + 1 ≤ L.length)) := by
 cases hb : isB L i s with
 | true => exact ⟨_, o8 (by omega) hb, .inr ⟨rfl, n9 hb⟩⟩
 | false =>
   obtain ⟨r', h1, h2⟩ := a0D ((L, ((i : Nat) : Int), (0 : Int), (0 : Int)) : R6) (e := 5) (by decide)
   exact ⟨r', c5T (by simp only [r28, m4 L (show i ≤ 2000000000 by omega), hb, cond_false, bind_some, Bool.not_false, cond_true, h1]), .inl h2⟩
theorem K7 (r : R6) (n : Nat) : ∃ r', c29 T.rf r ((n : Nat) : Int) = some r' ∧ ((n < 200 ∧ r' = r) ∨ N7 r') := by
 by_cases h : n < 200
 · exact ⟨r, K1 r h, .inl ⟨h, rfl⟩⟩
 · obtain ⟨r', h1, h2⟩ := a0D r (e := 7) (by decide)
   exact ⟨r', d2D (by simp only [r29, dt (show ((n : Nat) : Int) ≥ 200 by omega), cond_true, h1, bind_some]), .inr h2⟩
include hok
theorem N2 {i : Nat} (hi : i ≤ L.length) : ∃ z, c24 T.rf ((L, ((i : Nat) : Int), (0 : Int), (0 : Int)) : R6) = some z ∧ (N7 z.1 ∨ ∃ s, z = (((L, ((i + 1 : Nat) : Int), (0 : Int), (0 : Int)) : R6), s) ∧ u9 s = true ∧ i + 1 ≤ L.length) := by
 cases hb : nmB L i with
 | true =>
   unfold nmB at hb
   cases hx : nth L i with
   | none => rw [hx] at hb; cases hb
   | some x =>
     rw [hx] at hb
     have hx1 : x.1 = 1 := eq_of_beq hb
     have hm : x ∈ L := by rw [nth_getElem?] at hx; exact List.mem_of_getElem? hx
     have hn : u9 x.2.1 = true := by
      rcases hok x hm with h | h | h | h
      · exact h.2
      · omega
      · omega
      · omega
     exact ⟨_, O8 (i := i) (by omega) (a := x.2.2) (by rw [hx, ← hx1]), .inr ⟨x.2.1, rfl, hn, C0 hx⟩⟩
 | false =>
   obtain ⟨r', h1, h2⟩ := a0D ((L, ((i : Nat) : Int), (0 : Int), (0 : Int)) : R6) (e := 5) (by decide)
   exact ⟨(r', []), c5S (by simp only [r24, C8, hb, bind_some, Bool.not_false, cond_true, h1]), .inl h2⟩
theorem R3 {i : Nat} (hi : i ≤ L.length) : ∃ z, c30 T.rf ((L, ((i : Nat) : Int), (0 : Int), (0 : Int)) : R6) = some z ∧ (N7 z.1 ∨ ∃ p, z = (((L, ((i + 3 : Nat) : Int), (0 : Int), (0 : Int)) : R6), p) ∧ H9 p = true ∧ i + 3 ≤ L.length) := by
 obtain ⟨z, h1, h2⟩ := N2 hL hok hi
 rcases h2 with h2 | ⟨s, rfl, hs, hi2⟩
 · exact ⟨(z.1, z.2, 0), b4g (by simp only [r30, h1, j6 h2, n5 h2, X0 h2, bind_some, cond_false]), .inl h2⟩
 obtain ⟨r', h3, h4⟩ := o6 hL hi2 [58]
 rcases h4 with h4 | ⟨rfl, hi3⟩
 · exact ⟨(r', s, 0), b4g (by simp only [r30, h1, h3, n5 h4, X0 h4, bind_some, cond_false]), .inl h4⟩
 cases hb : isB L (i + 1 + 1) ([98, 111, 111, 108] : Str) with
 | true => exact ⟨(((L, ((i + 3 : Nat) : Int), (0 : Int), (0 : Int)) : R6), s, 1), b4g (by simp only [r30, h1, h3, m4 L (show i + 1 + 1 ≤ 2000000000 by omega), hb, bind_some, cond_true]), .inr ⟨(s, 1), rfl, by unfold H9; rw [hs]; rfl, n9 hb⟩⟩
 | false =>
 cases hc : isB L (i + 1 + 1) ([105, 110, 116] : Str) with
 | true => exact ⟨(((L, ((i + 3 : Nat) : Int), (0 : Int), (0 : Int)) : R6), s, 2), b4g (by simp only [r30, h1, h3, m4 L (show i + 1 + 1 ≤ 2000000000 by omega), hb, hc, bind_some, cond_true, cond_false]), .inr ⟨(s, 2), rfl, by unfold H9; rw [hs]; rfl, n9 hc⟩⟩
 | false =>
   obtain ⟨r', h5, h6⟩ := a0D ((L, ((i + 1 + 1 : Nat) : Int), (0 : Int), (0 : Int)) : R6) (e := 5) (by decide)
   exact ⟨(r', s, 0), b4g (by simp only [r30, h1, h3, m4 L (show i + 1 + 1 ≤ 2000000000 by omega), hb, hc, h5, bind_some, cond_true, cond_false]), .inl h6⟩
theorem b0T : ∀ (m k : Nat) (out : List Pm), L.length - k ≤ m → k ≤ L.length → out.length ≤ 200 → (∀ p ∈ out, H9 p = true) →
  ∃ z, k17 T.rb ((L, ((k : Nat) : Int), (0 : Int), (0 : Int)) : R6) out = some z ∧ ((∃ r', N7 r' ∧ (z = .inr r' ∨ ∃ l, z = .inl (r', l))) ∨ ∃ j l, z = .inl (((L, ((j : Nat) : Int), (0 : Int), (0 : Int)) : R6), l) ∧ l.length ≤ 200 ∧ (∀ p ∈ l, H9 p = true) ∧ j ≤ L.length ∧ k + 3 * l.length + 1 ≤ j + 3 * out.length ∧ k < j) := by
 intro m
 induction m with
 | zero =>
   intro k out hm hk ho hp
   obtain ⟨r1, a1, a2⟩ := K7 hL ((L, ((k : Nat) : Int), (0 : Int), (0 : Int)) : R6) out.length
   rcases a2 with ⟨_, rfl⟩ | a2
   · obtain ⟨z, h1, h2⟩ := R3 hL hok hk
     rcases h2 with h2 | ⟨p, rfl, hpp, hi3⟩
     · exact ⟨.inr z.1, a9i (by simp only [b17, ok6, bind_some, z6, cond_true, a1, h1, m8 (show out.length + 1 ≤ 274877906944 by omega), Bool.and_true, n5 h2, cond_false, j6 h2, H6 h2]), .inl ⟨z.1, h2, .inl rfl⟩⟩
     · omega
   · exact ⟨.inr r1, a9i (by simp only [b17, ok6, bind_some, z6, cond_true, a1, F5 a2, m8 (show out.length + 1 ≤ 274877906944 by omega), Bool.and_true, n5 a2, cond_false, j6 a2, H6 a2]), .inl ⟨r1, a2, .inl rfl⟩⟩
 | succ m ihm =>
   intro k out hm hk ho hp
   obtain ⟨r1, a1, a2⟩ := K7 hL ((L, ((k : Nat) : Int), (0 : Int), (0 : Int)) : R6) out.length
   rcases a2 with ⟨hlt, rfl⟩ | a2
   · obtain ⟨z, h1, h2⟩ := R3 hL hok hk
     rcases h2 with h2 | ⟨p, rfl, hpp, hi3⟩
     · exact ⟨.inr z.1, a9i (by simp only [b17, ok6, bind_some, z6, cond_true, a1, h1, m8 (show out.length + 1 ≤ 274877906944 by omega), Bool.and_true, n5 h2, cond_false, j6 h2, H6 h2]), .inl ⟨z.1, h2, .inl rfl⟩⟩
     have hp' : ∀ q ∈ out ++ [p], H9 q = true := fun q hq => by
      rcases List.mem_append.1 hq with h | h
      · exact hp q h
      · rw [List.mem_singleton] at h; subst h; exact hpp
     cases hb : isB L (k + 3) [41] with
     | true => exact ⟨.inl (((L, ((k + 3 + 1 : Nat) : Int), (0 : Int), (0 : Int)) : R6), out ++ [p]), a9i (by simp only [b17, ok6, bind_some, z6, cond_true, a1, h1, m8 (show out.length + 1 ≤ 274877906944 by omega), Bool.and_true, m4 L (show k + 3 ≤ 2000000000 by omega), hb]), .inr ⟨_, _, rfl, by simp; omega, hp', n9 hb, by simp; omega, by omega⟩⟩
     | false =>
       obtain ⟨r2, b1, b2⟩ := o6 hL hi3 [59]
       rcases b2 with b2 | ⟨rfl, b3⟩
       · exact ⟨.inr r2, a9i (by simp only [b17, ok6, bind_some, z6, cond_true, a1, h1, m8 (show out.length + 1 ≤ 274877906944 by omega), Bool.and_true, m4 L (show k + 3 ≤ 2000000000 by omega), hb, cond_false, b1, H6 b2]), .inl ⟨r2, b2, .inl rfl⟩⟩
       · obtain ⟨z, c1, c2⟩ := ihm (k + 3 + 1) (out ++ [p]) (by omega) b3 (by simp; omega) hp'
         refine ⟨z, a9i (by simp only [b17, ok6, bind_some, z6, cond_true, a1, h1, m8 (show out.length + 1 ≤ 274877906944 by omega), Bool.and_true, m4 L (show k + 3 ≤ 2000000000 by omega), hb, cond_false, b1, c1]), ?_⟩
         rcases c2 with c2 | ⟨j, l, d1, d2, d3, d4, d5, d6⟩
         · exact .inl c2
         · simp only [List.length_append, List.length_cons, List.length_nil] at d5
           exact .inr ⟨j, l, d1, d2, d3, d4, by omega, by omega⟩
   · exact ⟨.inr r1, a9i (by simp only [b17, ok6, bind_some, z6, cond_true, a1, F5 a2, m8 (show out.length + 1 ≤ 274877906944 by omega), Bool.and_true, n5 a2, cond_false, j6 a2, H6 a2]), .inl ⟨r1, a2, .inl rfl⟩⟩
theorem a6d {i : Nat} (hi : i ≤ L.length) : ∃ z, c27 T.rf ((L, ((i : Nat) : Int), (0 : Int), (0 : Int)) : R6) = some z ∧ (N7 z.1 ∨ ∃ j l, z = (((L, ((j : Nat) : Int), (0 : Int), (0 : Int)) : R6), l) ∧ l.length ≤ 200 ∧ (∀ p ∈ l, H9 p = true) ∧ j ≤ L.length ∧ i + 3 * l.length + 2 ≤ j) := by
 obtain ⟨r1, a1, a2⟩ := o6 hL hi [40]
 rcases a2 with a2 | ⟨rfl, a3⟩
 · exact ⟨(r1, []), b4f (by simp only [r27, a1, n5 a2, H6 a2, bind_some, cond_false]), .inl a2⟩
 cases hb : isB L (i + 1) [41] with
 | true => exact ⟨(((L, ((i + 1 + 1 : Nat) : Int), (0 : Int), (0 : Int)) : R6), []), b4f (by simp only [r27, a1, m4 L (show i + 1 ≤ 2000000000 by omega), hb, bind_some, cond_true]), .inr ⟨_, _, rfl, by simp, (fun p hp => by cases hp), n9 hb, by simp⟩⟩
 | false =>
   obtain ⟨z, h1, h2⟩ := b0T hL hok L.length (i + 1) [] (by omega) a3 (by simp) (fun p hp => by cases hp)
   rcases h2 with ⟨r', hr, rfl | ⟨l, rfl⟩⟩ | ⟨j, l, rfl, d2, d3, d4, d5, d6⟩
   · exact ⟨(r', []), b4f (by simp only [r27, a1, m4 L (show i + 1 ≤ 2000000000 by omega), hb, bind_some, cond_false, h1]), .inl hr⟩
   · exact ⟨(r', l), b4f (by simp only [r27, a1, m4 L (show i + 1 ≤ 2000000000 by omega), hb, bind_some, cond_false, h1]), .inl hr⟩
   · simp only [List.length_nil] at d5
     exact ⟨(((L, ((j : Nat) : Int), (0 : Int), (0 : Int)) : R6), l), b4f (by simp only [r27, a1, m4 L (show i + 1 ≤ 2000000000 by omega), hb, bind_some, cond_false, h1]), .inr ⟨j, l, rfl, d2, d3, d4, by omega⟩⟩
theorem N0 {i : Nat} (hi : i ≤ L.length) : ∃ z, c34 T.rf ((L, ((i : Nat) : Int), (0 : Int), (0 : Int)) : R6) = some z ∧ (N7 z.1 ∨ ∃ j e, z = (((L, ((j : Nat) : Int), (0 : Int), (0 : Int)) : R6), e) ∧ D3 e = true ∧ j ≤ L.length ∧ i + e.length ≤ j ∧ i < j) := by
 obtain ⟨y, hy, hg⟩ := b7w hL hok L.length i (by omega) hi 1 0 (by omega) (by omega) (by omega) (by omega)
 simp only [rd] at hy
 have bad : ∀ (z : (Int × Int) × List Nd × Int), z.1.1 ≠ 0 → k46 T.rb (0, 0) L ((i : Nat) : Int) = some (.inl z) → ∃ z, c34 T.rf ((L, ((i : Nat) : Int), (0 : Int), (0 : Int)) : R6) = some z ∧ (N7 z.1 ∨ ∃ j e, z = (((L, ((j : Nat) : Int), (0 : Int), (0 : Int)) : R6), e) ∧ D3 e = true ∧ j ≤ L.length ∧ i + e.length ≤ j ∧ i < j) := fun z hz ht => by
  have hP : c35 T.rf L ((i : Nat) : Int) = some (z.2.1, z.2.2, z.1) := c5U (by
   simp only [r35, df (show ¬ ((i : Nat) : Int) < 0 by omega), cond_false, df (show ¬ ((i : Nat) : Int) > ((L.length : Nat) : Int) by omega), ht, bind_some])
  have h4 : k47 T.rb ((L, ((i : Nat) : Int), (0 : Int), (0 : Int)) : R6) z.1 z.2.1 z.2.2 = some ((L, ((i : Nat) : Int), z.1), z.1, []) := c5G (by
   simp only [b47, nbf hz, cond_true])
  exact ⟨((L, ((i : Nat) : Int), z.1), []), c1o (by simp only [r34, ok6, bind_some, z6, Bool.not_true, cond_false, hP, h4]), .inl hz⟩
 rcases hg with hb | ⟨j, t, rfl, g1, g2, g3, g4⟩
 · exact bad (y.1.2.2.2, [], 0) hb (b9b (by simp only [b46, hy, bind_some, nbf hb, cond_true]))
 obtain ⟨a', ha'⟩ := b7z L ((i : Nat) : Int)
 by_cases hs : t.size ≤ 5000
 case neg => exact bad ((7, a'), [], 0) (by show (7 : Int) ≠ 0; decide) (b9b (by simp only [b46, hy, bind_some, z0, cond_false, n6, dt (show ((t.size : Nat) : Int) > 5000 by omega), cond_true, ha']))
 have hfl : (flat t 0).length ≤ 1000000 := by rw [n6]; omega
 have hdep : depth (flat t 0) = dep t := a0A (a4o g3.v)
 have hfs : ((flat t 0).length : Int) ≤ 5000 := by rw [n6]; omega
 by_cases hd : dep t ≤ 40
 case neg => exact bad ((6, a'), [], 0) (by show (6 : Int) ≠ 0; decide) (b9b (by simp only [b46, hy, bind_some, z0, cond_false, df (show ¬ (((flat t 0).length : Nat) : Int) > 5000 by omega), a2o hfl, hdep, dt (show dep t > 40 by omega), cond_true, ha']))
 have hpt : k46 T.rb (0, 0) L ((i : Nat) : Int) = some (.inr ((0, 0), flat t 0, (j : Int))) := b9b (by
  simp only [b46, hy, bind_some, z0, cond_false, df (show ¬ (((flat t 0).length : Nat) : Int) > 5000 by omega), a2o hfl, hdep, df (show ¬ dep t > 40 by omega)])
 have hP : c35 T.rf L ((i : Nat) : Int) = some (flat t 0, (j : Int), 0, 0) := c5U (by
  simp only [r35, df (show ¬ ((i : Nat) : Int) < 0 by omega), cond_false, df (show ¬ ((i : Nat) : Int) > ((L.length : Nat) : Int) by omega), hpt, bind_some])
 have h4 : k47 T.rb ((L, ((i : Nat) : Int), (0 : Int), (0 : Int)) : R6) (0, 0) (flat t 0) (j : Int) = some (((L, ((j : Nat) : Int), (0 : Int), (0 : Int)) : R6), (0, 0), flat t 0) := c5G (by
  simp only [b47, z0, cond_false])
 exact ⟨(((L, ((j : Nat) : Int), (0 : Int), (0 : Int)) : R6), flat t 0), c1o (by simp only [r34, ok6, bind_some, z6, Bool.not_true, cond_false, hP, h4]), .inr ⟨j, flat t 0, rfl, a5F g3.v g3.o hs hd g3.n, g2, by rw [n6]; omega, g1⟩⟩
def a1J : List (List Nd) → Nat
 | [] => 0
 | e :: r => e.length + 1 + a1J r
omit hL hok in
theorem b9N (a b : List (List Nd)) : a1J (a ++ b) = a1J a + a1J b := by
 induction a with
 | nil => simp [a1J]
 | cons e a ih => rw [List.cons_append, a1J, a1J, ih]; omega
omit hL hok in
theorem b9M : ∀ l : List (List Nd), (∀ e ∈ l, D3 e = true) → (J (a2E [44] (l.map l6))).length ≤ 60 * a1J l ∧ (J (C7 [44] (l.map l6))).length ≤ 60 * a1J l
 | [], _ => by simp [a2E, C7, J, a1J]
 | e :: r, h => by
   have h1 := (ef (h e (by simp))).j
   have ih := b9M r fun y hy => h y (List.mem_cons_of_mem _ hy)
   simp only [List.map_cons, a2E, C7, J_c, J_a, a1J, List.length_cons, List.length_nil]
   omega
theorem b3E : ∀ (m k : Nat) (out : List (List Nd)), L.length - k ≤ m → k ≤ L.length → out.length ≤ 200 → (∀ p ∈ out, D3 p = true) →
  ∃ z, k49 T.rb ((L, ((k : Nat) : Int), (0 : Int), (0 : Int)) : R6) out = some z ∧ ((∃ r', N7 r' ∧ (z = .inr r' ∨ ∃ l, z = .inl (r', l))) ∨ ∃ j l, z = .inl (((L, ((j : Nat) : Int), (0 : Int), (0 : Int)) : R6), l) ∧ l.length ≤ 200 ∧ (∀ p ∈ l, D3 p = true) ∧ j ≤ L.length ∧ k + a1J l ≤ j + a1J out ∧ k < j) := by
 intro m
 induction m with
 | zero =>
   intro k out hm hk ho hp
   obtain ⟨r1, a1, a2⟩ := K7 hL ((L, ((k : Nat) : Int), (0 : Int), (0 : Int)) : R6) out.length
   rcases a2 with ⟨_, rfl⟩ | a2
   · obtain ⟨z, h1, h2⟩ := N0 hL hok hk
     rcases h2 with h2 | ⟨j, e, rfl, he, hj, hje, hij⟩
     · exact ⟨.inr z.1, a9j (by simp only [b49, ok6, bind_some, z6, cond_true, a1, h1, m8 (show out.length + 1 ≤ 274877906944 by omega), Bool.and_true, n5 h2, cond_false, j6 h2, M0 h2]), .inl ⟨z.1, h2, .inl rfl⟩⟩
     · omega
   · exact ⟨.inr r1, a9j (by simp only [b49, ok6, bind_some, z6, cond_true, a1, G4 a2, m8 (show out.length + 1 ≤ 274877906944 by omega), Bool.and_true, n5 a2, cond_false, j6 a2, M0 a2]), .inl ⟨r1, a2, .inl rfl⟩⟩
 | succ m ihm =>
   intro k out hm hk ho hp
   obtain ⟨r1, a1, a2⟩ := K7 hL ((L, ((k : Nat) : Int), (0 : Int), (0 : Int)) : R6) out.length
   rcases a2 with ⟨hlt, rfl⟩ | a2
   · obtain ⟨z, h1, h2⟩ := N0 hL hok hk
     rcases h2 with h2 | ⟨j, e, rfl, he, hj, hje, hij⟩
     · exact ⟨.inr z.1, a9j (by simp only [b49, ok6, bind_some, z6, cond_true, a1, h1, m8 (show out.length + 1 ≤ 274877906944 by omega), Bool.and_true, n5 h2, cond_false, j6 h2, M0 h2]), .inl ⟨z.1, h2, .inl rfl⟩⟩
     have hp' : ∀ q ∈ out ++ [e], D3 q = true := fun q hq => by
      rcases List.mem_append.1 hq with h | h
      · exact hp q h
      · rw [List.mem_singleton] at h; subst h; exact he
     have hse : a1J (out ++ [e]) = a1J out + (e.length + 1) := by rw [b9N]; rfl
     cases hb : isB L j [41] with
     | true =>
       have := n9 hb
       exact ⟨.inl (((L, ((j + 1 : Nat) : Int), (0 : Int), (0 : Int)) : R6), out ++ [e]), a9j (by simp only [b49, ok6, bind_some, z6, cond_true, a1, h1, m8 (show out.length + 1 ≤ 274877906944 by omega), Bool.and_true, m4 L (show j ≤ 2000000000 by omega), hb]), .inr ⟨_, _, rfl, by simp; omega, hp', this, by rw [hse]; omega, by omega⟩⟩
     | false =>
       obtain ⟨r2, b1, b2⟩ := o6 hL hj [44]
       rcases b2 with b2 | ⟨rfl, b3⟩
       · exact ⟨.inr r2, a9j (by simp only [b49, ok6, bind_some, z6, cond_true, a1, h1, m8 (show out.length + 1 ≤ 274877906944 by omega), Bool.and_true, m4 L (show j ≤ 2000000000 by omega), hb, cond_false, b1, M0 b2]), .inl ⟨r2, b2, .inl rfl⟩⟩
       · obtain ⟨z, c1, c2⟩ := ihm (j + 1) (out ++ [e]) (by omega) b3 (by simp; omega) hp'
         refine ⟨z, a9j (by simp only [b49, ok6, bind_some, z6, cond_true, a1, h1, m8 (show out.length + 1 ≤ 274877906944 by omega), Bool.and_true, m4 L (show j ≤ 2000000000 by omega), hb, cond_false, b1, c1]), ?_⟩
         rcases c2 with c2 | ⟨j', l, d1, d2, d3, d4, d5, d6⟩
         · exact .inl c2
         · rw [hse] at d5
           exact .inr ⟨j', l, d1, d2, d3, d4, by omega, by omega⟩
   · exact ⟨.inr r1, a9j (by simp only [b49, ok6, bind_some, z6, cond_true, a1, G4 a2, m8 (show out.length + 1 ≤ 274877906944 by omega), Bool.and_true, n5 a2, cond_false, j6 a2, M0 a2]), .inl ⟨r1, a2, .inl rfl⟩⟩
theorem b5W {i : Nat} (hi : i ≤ L.length) : ∃ z, c63 T.rf ((L, ((i : Nat) : Int), (0 : Int), (0 : Int)) : R6) = some z ∧ (N7 z.1 ∨ ∃ j l, z = (((L, ((j : Nat) : Int), (0 : Int), (0 : Int)) : R6), l) ∧ l.length ≤ 200 ∧ (∀ p ∈ l, D3 p = true) ∧ j ≤ L.length ∧ i + a1J l + 1 ≤ j) := by
 obtain ⟨r1, a1, a2⟩ := o6 hL hi [40]
 rcases a2 with a2 | ⟨rfl, a3⟩
 · exact ⟨(r1, []), b4j (by simp only [r63, a1, n5 a2, M0 a2, bind_some, cond_false]), .inl a2⟩
 cases hb : isB L (i + 1) [41] with
 | true => exact ⟨(((L, ((i + 1 + 1 : Nat) : Int), (0 : Int), (0 : Int)) : R6), []), b4j (by simp only [r63, a1, m4 L (show i + 1 ≤ 2000000000 by omega), hb, bind_some, cond_true]), .inr ⟨_, _, rfl, by simp, (fun p hp => by cases hp), n9 hb, by simp [a1J]⟩⟩
 | false =>
   obtain ⟨z, h1, h2⟩ := b3E hL hok L.length (i + 1) [] (by omega) a3 (by simp) (fun p hp => by cases hp)
   rcases h2 with ⟨r', hr, rfl | ⟨l, rfl⟩⟩ | ⟨j, l, rfl, d2, d3, d4, d5, d6⟩
   · exact ⟨(r', []), b4j (by simp only [r63, a1, m4 L (show i + 1 ≤ 2000000000 by omega), hb, bind_some, cond_false, h1]), .inl hr⟩
   · exact ⟨(r', l), b4j (by simp only [r63, a1, m4 L (show i + 1 ≤ 2000000000 by omega), hb, bind_some, cond_false, h1]), .inl hr⟩
   · simp only [a1J] at d5
     exact ⟨(((L, ((j : Nat) : Int), (0 : Int), (0 : Int)) : R6), l), b4j (by simp only [r63, a1, m4 L (show i + 1 ≤ 2000000000 by omega), hb, bind_some, cond_false, h1]), .inr ⟨j, l, rfl, d2, d3, d4, by omega⟩⟩
end
end Go.Proofs.YtlobhcgbmpcdlaaGreatDoor.R
